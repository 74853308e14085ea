/- Parts of an abstract logic over the kit's walks, and walks in it: A60. -/
import Derived.Test.YtchpllgeahnmmaaDoorAe
import Derived.Test.YtchpllgeahnmmaaDoorAf
/- AL, part 60: calls that look at a table, calls that give an own row, in drawn heads with whatever effects. -/
namespace Go.AL
set_option linter.unusedVariables false
set_option linter.unusedSimpArgs false
/-- One key comes up at q. -/
def HA1 (h : Heap) (q k : Nat) (e : Ent) : (Nat → Bool) → Heap := fun b => bif b q then hset h k (some e) else h
section
variable {h : Heap} {q k : Nat} {e : Ent}
theorem ha1_dep {qs : List Nat} (hq : q ∈ qs) : ∀ b b' : Nat → Bool, (∀ j ∈ qs, b j = b' j) → HA1 h q k e b = HA1 h q k e b' := fun b b' hb => by unfold HA1; rw [hb q hq]
theorem ha1_more (hk : h k = none) : ∀ (b : Nat → Bool) j x, h j = some x → HA1 h q k e b j = some x := fun b j x hj => by
  have hne : j ≠ k := fun e => by rw [e, hk] at hj; cases hj
  unfold HA1
  cases b q with
  | true => simp only [cond_true]; rw [hset_ne _ _ hne]; exact hj
  | false => exact hj
end
section
variable {E : Env} {ops : List Oper} {J : Jt} {s : Slots} {h : Heap} {n i : Nat} {t : Eff} {K : Slots → Prop}
theorem HX_callW (hE : E.Good) {Tab : World → Prop} {f : Nat} {L : List AV} {R : AV} (hc : DoesW E.P Tab f L R) (hJ : Tells Tab J) {s' : Slots} {o : Oper} {fo : Operand} {args : Array Operand} {ts : Array TypeId} (ho : ops[i]? = some o) (hi : Nat.ble (i + 1) n = true) (hop : o.op = .call ⟨.value fo, args, ts⟩)
    (hw : awant ops o s = some true) (hL : callArgs s fo args.toList = some (f, L)) (hkf : kfs L = true) (hR : kf R = true) (hs : putS E.N s o.dst R = some s') (hq : (t.qs.any fun q => Nat.beq q i) = false) (hnk : (t.nk.all fun p => Nat.beq p.1 i || nokey p.2 R) = true) (hk : HXW t E ops J n (i + 1) K s') : HXW t E ops J n i K s := by
  obtain ⟨hd, rfl⟩ := pu_of_putS hs
  exact HX_cons ho hi hd ⟨hnk, o, ho, .inr ⟨hq, fun b _ => .inl ⟨hw, LY_callW hE hc hJ hop hL hkf hR⟩⟩⟩ hk
/-- A call that gives an own row. -/
theorem HX_own (hE : E.Good) {f : Nat} {L : List AV} {e : TypeId} {sz : Nat} {ys : List (List D)} {R : AV} (hc : Does E.P f L (oneRow e sz ys) R) {k : Nat} {o : Oper} {fo : Operand} {args : Array Operand} {ts : Array TypeId} (ho : ops[i]? = some o) (hi : Nat.ble (i + 1) n = true)
    (hop : o.op = .call ⟨.value fo, args, ts⟩) (hw : awant ops o s = some true) (hL : callArgs s fo args.toList = some (f, L)) (hkf : kfs L = true) {s' : Slots} (hs : putS E.N s o.dst (rk 0 k R) = some s') (hk0 : h k = none) (hk : HXW ⟨[i], HA1 h i k (.row e sz ys), []⟩ E ops J n (i + 1) K s') : HXW ⟨[i], HA1 h i k (.row e sz ys), []⟩ E ops J n i K s := by
  have hd := (pu_of_putS hs).1
  refine HX_effG ho hi hw (by simp) rfl hs (fun s1 hs1 b hb _ => ?_) hk
  have e0 : HA1 h i k (.row e sz ys) b = h := by unfold HA1; rw [hb.2.1]; rfl
  have e1 : HA1 h i k (.row e sz ys) (bset b i) = hset h k (some (.row e sz ys)) := by unfold HA1; rw [bset_self]; rfl
  show OW E _ 0 (fun e' st' => e' = .normal ∧ LE E st' ⟨J, pu s1 o.dst _, HA1 h i k (.row e sz ys) (bset b i)⟩) ⟨J, s1, HA1 h i k (.row e sz ys) b⟩
  rw [e0, e1]
  exact OW_callOwn' hE k hc (o := { o with guard := none }) rfl hop (by simp [awant]) ((callArgs_same hop hs1).trans hL) hkf hk0 (s' := pu s1 o.dst (rk 0 k R)) (putS_pu hd) (OW_end rfl ⟨rfl, LE.refl _ _⟩)
end
end Go.AL
