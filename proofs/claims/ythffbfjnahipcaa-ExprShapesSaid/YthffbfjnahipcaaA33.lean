/- AL, part 33: shifts to the left. -/
import Derived.Test.YthffbfjnahipcaaA32
namespace Go.AL
set_option linter.unusedVariables false
set_option linter.unusedSimpArgs false
section
variable {E : Env} {ops : List Oper} {J : Jt} {h : Heap} {s : Slots}
/-- '1 << k'. -/
theorem loc_shl (hE : E.Good) {o : Oper} {t yt : TypeId} {xo yo : Operand} (hop : o.op = .binOp .shl t xo yo yt) {k : Nat} {yk : IntKind} (hx : ev s xo = .d (.lit (.int .i64 1))) (hy : ev s yo = .d (.lit (.int yk (k : Int)))) (hk : k ≤ 60) : Loc E ops J h o s (.d (.lit (.int .i64 ((2 ^ k : Nat) : Int)))) := by
  refine ⟨(by rw [hop]; intro c hc; cases hc), fun Z K Y ι a w m hl => ?_⟩
  obtain ⟨dst, op, ty, pos, af, gd⟩ := o
  simp only at hop
  subst hop
  have h1 := hl xo (by simp [Op.operands])
  have h2 := hl yo (by simp [Op.operands])
  rw [hx] at h1
  rw [hy] at h2
  obtain ⟨e1, o1⟩ := RA_lit.1 h1
  obtain ⟨e2, _⟩ := RA_lit.1 h2
  have hg : (eqGuard .shl t xo yo (.int .i64 1) (.int yk k)).run E.P w = .ok () w := by
    unfold eqGuard; split <;> simp
  have hp : (2 : Nat) ^ k ≤ 2 ^ 60 := Nat.pow_le_pow_right (by omega) hk
  have h4 : (1 : Int) * 2 ^ k = ((2 ^ k : Nat) : Int) := by simp
  generalize 2 ^ k = m at hp h4 ⊢
  have hw : IntKind.i64.wrap (m : Int) = (m : Int) :=
    wrap_id _ _ (by have : IntKind.i64.min = -9223372036854775808 := rfl; omega) (by have : IntKind.i64.max = 9223372036854775807 := rfl; omega)
  refine ⟨.int .i64 (m : Int), w, ?_, Grew.refl w, RA_lit_mk ?_⟩
  · simp only [execOp, e1, e2, Sem.run_bind, hg, Result.andThen_ok]
    have hb : min k IntKind.i64.bits = k := by have : IntKind.i64.bits = 64 := rfl; omega
    have h3 : ¬ ((k : Int) < 0) := by omega
    simp only [binOp, Op.shift, h3, if_false, Int.toNat_natCast, hb, h4, hw]
    rfl
  · simp only [okLit]
    have : IntKind.i64.min = -9223372036854775808 := rfl
    have : IntKind.i64.max = 9223372036854775807 := rfl
    constructor <;> omega
end
end Go.AL
