/- AL, part 24: a range over a function whose rounds keep the heap as told. -/
import Derived.Test.YthffbfjnahipcaaA23
namespace Go.AL
set_option linter.unusedVariables false
set_option linter.unusedSimpArgs false

theorem hset_comm (h : Heap) {k k' : Nat} (hk : k ≠ k') (a b : Option Ent) : hset (hset h k a) k' b = hset (hset h k' b) k a := by
  funext i
  by_cases h1 : i = k'
  · subst h1; rw [hset_same, hset_ne _ _ (Ne.symm hk), hset_same]
  · rw [hset_ne _ _ h1]
    by_cases h2 : i = k
    · subst h2; rw [hset_same, hset_same]
    · rw [hset_ne _ _ h2, hset_ne _ _ h2, hset_ne _ _ h1]
theorem CW_rangeH {E : Env} {Q : Exit → St → Prop} {J : Jt} {s : Slots} {h : Heap} (hE : E.Good) (hF : E.F = Fence.wide) {g : Operand} {ps : Array Tmp} {assign body : Code} {f : Nat} {first cap : List AV} {ys : List (List AV)} (hI : Iter E.P f first cap ys)
    (hg : fnOf (ev s g) = some (f, first, cap)) (hkf : kfs first = true) (hkc : kfs cap = true) (hks : ∀ y ∈ ys, kfs y = true ∧ y.length = ps.size) (hps : ps.toList.all (fun p => Nat.ble (p + 1) E.N) = true) (G : Nat)
    (hp : Nat → Heap) (P : Nat → Prop) (h0 : h = hp 0) (hG : ∀ i, hp i G = none) (P0 : P 0)
    (hbody : ∀ F n Z Br Bb, (⟨E.P, E.T, F, n, Z, E.N⟩ : Env).Good → (∀ W, Wrap E.Z W → Wrap Z (fun J => Bb (W J))) → ∀ vs i args, ys[i]? = some args → P i →
      CW ⟨E.P, E.T, F, n, Z, E.N⟩ assign (asgQ ⟨E.P, E.T, F, n, Z, E.N⟩ Br Bb J body (bodyQ ⟨E.P, E.T, F, n, Z, E.N⟩ Bb J G vs (fun J' h' => J' = J ∧ h' = hset (hp (i + 1)) G (some (.ghost (slotsL E.N s) vs)) ∧ P (i + 1)) Q))
        ⟨Br J, psets ps.toList args (listS (slotsL E.N s)), hset (hp i) G (some (.ghost (slotsL E.N s) vs))⟩)
    (hdone : P ys.length → ∀ vs, Q .normal ⟨J, listS (slotsL E.N s), hset (hp ys.length) G (some (.ghost (slotsL E.N s) vs))⟩) : CW E (.rangeFunc g ps assign body) Q ⟨J, s, h⟩ := by
  refine CW_rangeFunc (st := ⟨J, s, h⟩) hE hF hI hg hkf hkc hks hps G (by rw [h0]; exact hG 0) (fun vs i J' h' => J' = J ∧ h' = hset (hp i) G (some (.ghost (slotsL E.N s) vs)) ∧ P i) ?_ ?_ ?_ ?_
  · rintro vs i J' h' ⟨rfl, rfl, _⟩
    exact ⟨fun hm => hm, hset_same _ _ _⟩
  · exact fun vs => ⟨rfl, by rw [h0], P0⟩
  · rintro F n Z Br Bb hE' hW vs i J' h' args ha ⟨rfl, rfl, hP⟩
    exact hbody F n Z Br Bb hE' hW vs i args ha hP
  · rintro vs J' h' ⟨rfl, rfl, hP⟩
    exact hdone hP vs
end Go.AL
