/- Parts of an abstract logic over the kit's walks, and walks in it: D8q. -/
import Derived.Test.YtjiknbjkbakegaaDoorD8t
import Derived.Test.YtjiknbjkbakegaaDoorDec
namespace Go.Proofs.YtjiknbjkbakegaaDoor
open Go Go.AL
set_option linter.unusedVariables false
set_option linter.unusedSimpArgs false
set_option maxHeartbeats 4000000
theorem refShrOk (p q : Pat) (X : List Dl) (hD : Does Tryd.prog 10 [argP p, argP q] noHeap (.d (.sl 2 16 ((X).map encDl)))) : Does Tryd.prog 12 [argP p, argP q] noHeap (.d (boo (shrR X (decide (q.within ≤ p.within))))) := by
  refine Does_of T_ok mixed (N := 31) Tryd.func12 rfl rfl rfl (by rfl) fun F n Z hE hF J => ?_
  refine CW_seq ?_
  refine CW_region ?_
  refine OW_run' hE.ok 3 rfl ?_
  refine OW_end rfl ?_
  refine CW_seq ?_
  refine CW_region ?_
  refine OW_run' hE.ok 2 rfl ?_
  refine OW_call' hE (hD) rfl rfl rfl rfl rfl rfl rfl ?_
  refine OW_run' hE.ok 1 rfl ?_
  refine OW_end rfl ?_
  refine CW_seq ?_
  refine CW_know (know_sl (d := 5) rfl) fun hlen => ?_
  rw [List.length_map] at hlen
  refine CW_region ?_
  refine OW_run' hE.ok 4 rfl ?_
  refine OW_split' 12 rfl (fun h1 => ?_) (fun h1 => ?_)
  · skip
    have e0 : X = [] := by have h0 : (((X.map encDl).length : Int) == 0) = true := h1; rw [List.length_map] at h0; exact List.length_eq_zero_iff.1 (by have := eq_of_beq h0; omega)
    subst e0
    refine OW_run' hE.ok 19 rfl ?_
    refine OW_end rfl ?_
    refine CW_ret ?_
    refine ⟨.inr rfl, rfl, ⟨_, rfl, rfl, ?_⟩, rfl⟩
    exact AVle.of (congrArg (fun b => AV.d (boo b)) (by rfl))
  · skip
    have e0 : X.length ≠ 0 := by have h0 : (((X.map encDl).length : Int) == 0) = false := h1; rw [List.length_map] at h0; intro e; rw [e] at h0; simp at h0
    refine OW_run' hE.ok 4 rfl ?_
    refine OW_split' 16 rfl (fun h2 => ?_) (fun h2 => ?_)
    · skip
      obtain ⟨d, rfl⟩ : ∃ d, X = [d] := by have h0 : (((X.map encDl).length : Int) == 1) = true := h2; rw [List.length_map] at h0; exact List.length_eq_one_iff.1 (by have := eq_of_beq h0; omega)
      refine OW_run' hE.ok 1 rfl ?_
      refine OW_loc' hE (loc_indexAddr hE rfl rfl rfl rfl rfl (by omega) (x := encDl d) rfl) rfl rfl rfl ?_
      refine OW_run' hE.ok 5 rfl ?_
      refine OW_split' 23 rfl (fun h3 => ?_) (fun h3 => ?_)
      · skip
        have e2 : (d.kind == 1) = true := h3
        refine OW_run' hE.ok 8 rfl ?_
        refine OW_end rfl ?_
        refine CW_ret ?_
        refine ⟨.inr rfl, rfl, ⟨_, rfl, rfl, ?_⟩, rfl⟩
        exact AVle.of (congrArg (fun b => AV.d (boo b)) (by show _ = ((d.kind == 1) && _); rw [e2]; rfl))
      · skip
        have e2 : (d.kind == 1) = false := h3
        refine OW_run' hE.ok 8 rfl ?_
        refine OW_end rfl ?_
        refine CW_ret ?_
        refine ⟨.inr rfl, rfl, ⟨_, rfl, rfl, ?_⟩, rfl⟩
        exact AVle.of (congrArg (fun b => AV.d (boo b)) (by show _ = ((d.kind == 1) && _); rw [e2]; rfl))
    · skip
      have e1 : X.length ≠ 1 := by have h0 : (((X.map encDl).length : Int) == 1) = false := h2; rw [List.length_map] at h0; intro e; rw [e] at h0; simp at h0
      refine OW_run' hE.ok 15 rfl ?_
      refine OW_end rfl ?_
      refine CW_ret ?_
      refine ⟨.inr rfl, rfl, ⟨_, rfl, rfl, ?_⟩, rfl⟩
      exact AVle.of (congrArg (fun b => AV.d (boo b)) (by rw [shrR_no e0 e1]))
end Go.Proofs.YtjiknbjkbakegaaDoor
