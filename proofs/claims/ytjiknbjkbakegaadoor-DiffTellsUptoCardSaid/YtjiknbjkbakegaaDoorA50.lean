/- Parts of an abstract logic over the kit's walks, and walks in it: A50. -/
import Derived.Test.YtjiknbjkbakegaaDoorAe
/- AL, part 50: quotients; text out of bytes that are data. -/
namespace Go.AL
set_option linter.unusedVariables false
set_option linter.unusedSimpArgs false
section
variable {E : Env} {ops : List Oper} {J : Jt} {h : Heap} {s : Slots}
/-- 'a / b' of unsigned numbers, b not nought. -/
theorem loc_quoU (hE : E.Good) {o : Oper} {t yt : TypeId} {xo yo : Operand} (hop : o.op = .binOp .quo t xo yo yt) {n m : Nat} (hx : ev s xo = .d (.lit (.int .u64 n))) (hy : ev s yo = .d (.lit (.int .u64 m))) (hm : m ≠ 0) : Loc E ops J h o s (.d (.lit (.int .u64 ((n / m : Nat) : Int)))) := by
  refine ⟨(by rw [hop]; intro c hc; cases hc), fun Z K Y ι ac w mm hl => ?_⟩
  obtain ⟨dst, op, ty, pos, af, gd⟩ := o
  simp only at hop
  subst hop
  have h1 := hl xo (by simp [Op.operands])
  have h2 := hl yo (by simp [Op.operands])
  rw [hx] at h1
  rw [hy] at h2
  obtain ⟨e1, o1⟩ := RA_lit.1 h1
  obtain ⟨e2, o2⟩ := RA_lit.1 h2
  have hg : (eqGuard .quo t xo yo (.int .u64 n) (.int .u64 m)).run E.P w = .ok () w := by
    unfold eqGuard; split <;> simp
  simp only [okLit] at o1
  have hmin : IntKind.u64.min = 0 := rfl
  have hmax : IntKind.u64.max = 18446744073709551615 := rfl
  obtain ⟨z, hz⟩ : ∃ z, n / m = z := ⟨_, rfl⟩
  have hzn : z ≤ n := by rw [← hz]; exact Nat.div_le_self n m
  have hd : (n : Int).tdiv m = ((z : Nat) : Int) := by rw [← hz, Int.ofNat_tdiv]
  have hw : IntKind.u64.wrap ((z : Nat) : Int) = ((z : Nat) : Int) := wrap_id _ _ (by rw [hmin]; omega) (by omega)
  rw [hz]
  refine ⟨.int .u64 ((z : Nat) : Int), w, ?_, Grew.refl w, RA_lit_mk ?_⟩
  · simp only [execOp, e1, e2, Sem.run_bind, hg, Result.andThen_ok]
    have h0 : ((m : Nat) : Int) ≠ 0 := by omega
    simp only [binOp, Op.intDiv, if_neg h0, hd, hw]
    rfl
  · show IntKind.u64.min ≤ ((z : Nat) : Int) ∧ ((z : Nat) : Int) ≤ IntKind.u64.max
    omega
theorem bytes_cells {w : World} {M : Nat → Prop} {b : Nat} : ∀ {bs : List UInt8} {off : Nat}, RCs w M b 1 (bytesD bs) off → ∀ q (hq : q < bs.length), w.cell? ⟨b, off + q, none⟩ = some (.int .u8 (bs[q]'hq).toNat)
  | [], off, _, q, hq => by simp at hq
  | x :: bs, off, h, q, hq => by
    simp only [bytesD, List.map_cons, RCs, RC] at h
    obtain ⟨_, ⟨⟨v, h1, h2⟩, _⟩, h3⟩ := h
    cases q with
    | zero =>
      simp only [RD] at h2
      obtain ⟨rfl, _⟩ := h2
      exact h1
    | succ q =>
      have := bytes_cells (bs := bs) h3 q (by simpa using hq)
      rw [show off + (q + 1) = off + 1 + q by omega]
      simpa using this
/-- A text out of bytes that nobody writes. -/
theorem loc_bytesD (hE : E.Good) {o : Oper} {t dt e : TypeId} {xo : Operand} (hop : o.op = .convert t dt xo) {z1 z2 : Nat} {z3 : List Value} (ht : E.T t = some ⟨.slice e, z1, z2, z3⟩) {y1 y2 : Nat} {y3 : List Value} (hte : E.T e = some ⟨.int .u8, y1, y2, y3⟩)
    {x1 x2 : Nat} {x3 : List Value} (htd : E.T dt = some ⟨.str, x1, x2, x3⟩) {bs : List UInt8} {xs : List (List D)} (hx : ev s xo = .d (.sl 1 1 xs)) (hbs : xs = bytesD bs) : Loc E ops J h o s (.d (.lit (.string ⟨bs.toArray⟩))) := by
  subst hbs
  refine ⟨(by rw [hop]; intro c hc; cases hc), fun Z K Y ι a w m hl => ?_⟩
  obtain ⟨dst, op, ty, pos, af, gd⟩ := o
  simp only at hop
  subst hop
  have h1 := hl xo (by simp [Op.operands])
  rw [hx] at h1
  simp only [RA, RD] at h1
  obtain ⟨ad, cap, e1, hcap, _, h4, hd⟩ := h1
  have hu := (hE.ok.T t _ ht).2
  have hu2 := (hE.ok.T e _ hte).2
  have hu3 := (hE.ok.T dt _ htd).2
  simp only [TK.fits] at hu hu2 hu3
  have hlen : (bytesD bs).length = bs.length := by simp [bytesD]
  rw [hlen] at e1 hcap h4
  have hok : okLit (.string ⟨bs.toArray⟩) := by
    show bs.toArray.size ≤ _
    simpa using h4
  refine ⟨.string ⟨bs.toArray⟩, w, ?_, Grew.refl w, RA_lit_mk hok⟩
  rcases hd with hd | ⟨b, off, rfl, _, _, hc⟩
  · have hb0 : bs = [] := List.eq_nil_of_length_eq_zero (by rw [← hlen, hd]; rfl)
    subst hb0
    simp only [execOp, Sem.run_bind, e1, run_convert_bytes_string w t dt e ad 0 cap hu hu2 hu3, List.length_nil]
    cases ad <;> simp [Conv.bytesToString, loadCells, loadCellsFrom] <;> rfl
  · have hr := run_convert_bytes_arg (P := E.P) w t e hu hu2 b off bs.length cap (bs.map fun b => (b.toNat : Int)) (by simp) (fun q hq => by
      rw [bytes_cells hc q (by simpa using hq)]
      simp [List.getD, (by simpa using hq : q < bs.length)]) dt hu3
    simp only [execOp, Sem.run_bind, e1, hr]
    simp [strOfNums]
    congr 2
    apply List.ext_getElem (by simp)
    intro q h1 h2
    simp
end
end Go.AL
