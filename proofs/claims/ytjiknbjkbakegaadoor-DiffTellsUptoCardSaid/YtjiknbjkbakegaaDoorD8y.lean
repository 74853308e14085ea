/- Parts of an abstract logic over the kit's walks, and walks in it: D8y. -/
import Derived.Test.YtjiknbjkbakegaaDoorD8x
import Derived.Test.YtjiknbjkbakegaaDoorD8r
import Derived.Test.YtjiknbjkbakegaaDoorD8s
import Derived.Test.YtjiknbjkbakegaaDoorD8z
namespace Go.Proofs.YtjiknbjkbakegaaDoor
open Go Go.AL
set_option linter.unusedVariables false
set_option linter.unusedSimpArgs false
set_option maxHeartbeats 4000000
theorem known19  : Does Tryd.prog 6 [] noHeap (.d (boo true)) := by
  refine Does_of T_ok mixed (N := 53) Tryd.func6 rfl rfl rfl (by rfl) fun F n Z hE hF J => ?_
  have q0 := diffOk pK19 qK19 (by decide); rw [k19a] at q0
  have q1 := sameDsOk dK19 dK19; rw [sameD_self] at q1
  have q2 := shrOk pK19 rK19 (by decide); rw [k19b] at q2
  have q3 := shrOk rK19 pK19 (by decide); rw [k19c] at q3
  have q4 := shrOk pK19 pK19 (by decide); rw [k19d] at q4
  have q5 := textOk ⟨9, 2⟩ ⟨#[50]⟩ (by decide) (fun _ => itoa2); rw [k19e] at q5
  have q6 := textOk ⟨3, 0⟩ nul (by decide) (fun h => absurd h (by decide)); rw [k19f] at q6
  have q7 := textOk ⟨0, 0⟩ nul (by decide) (fun h => absurd h (by decide)); rw [k19g] at q7
  refine CW_seq ?_
  refine CW_region ?_
  refine OW_run' hE.ok 1 rfl ?_
  refine OW_end rfl ?_
  refine CW_seq ?_
  refine CW_region ?_
  refine OW_call' hE (elOf _ _) rfl rfl rfl rfl rfl rfl rfl ?_
  refine OW_lits' hE rfl rfl rfl rfl rfl rfl rfl rfl rfl rfl rfl rfl ?_
  refine OW_build' hE rfl rfl rfl rfl rfl ?_
  refine OW_alloc' hE 1 rfl rfl rfl rfl rfl rfl rfl ?_
  refine OW_store' hE rfl rfl rfl rfl rfl rfl rfl rfl rfl rfl rfl rfl ?_
  refine OW_end rfl ?_
  refine CW_seq ?_
  refine CW_region ?_
  refine OW_call' hE (elOf _ _) rfl rfl rfl rfl rfl rfl rfl ?_
  refine OW_lits' hE rfl rfl rfl rfl rfl rfl rfl rfl rfl rfl rfl rfl ?_
  refine OW_build' hE rfl rfl rfl rfl rfl ?_
  refine OW_alloc' hE 2 rfl rfl rfl rfl rfl rfl rfl ?_
  refine OW_store' hE rfl rfl rfl rfl rfl rfl rfl rfl rfl rfl rfl rfl ?_
  refine OW_end rfl ?_
  refine CW_seq ?_
  refine CW_region ?_
  refine OW_run' hE.ok 2 rfl ?_
  refine OW_call' hE (q0) rfl rfl rfl rfl rfl rfl rfl ?_
  refine OW_run' hE.ok 1 rfl ?_
  refine OW_end rfl ?_
  refine CW_seq ?_
  refine CW_region ?_
  refine OW_run' hE.ok 1 rfl ?_
  refine OW_alloc' hE 3 rfl rfl rfl rfl rfl rfl rfl ?_
  refine OW_store' hE rfl rfl rfl rfl rfl rfl rfl rfl rfl rfl rfl rfl ?_
  refine OW_end rfl ?_
  refine CW_seq ?_
  refine CW_region ?_
  refine OW_run' hE.ok 1 rfl ?_
  refine OW_store' hE rfl rfl rfl rfl rfl rfl rfl rfl rfl rfl rfl rfl ?_
  refine OW_end rfl ?_
  refine CW_seq ?_
  refine CW_region ?_
  refine OW_run' hE.ok 1 rfl ?_
  refine OW_build' hE rfl rfl rfl rfl rfl ?_
  refine OW_build' hE rfl rfl rfl rfl rfl ?_
  refine OW_build' hE rfl rfl rfl rfl rfl ?_
  refine OW_lits' hE rfl rfl rfl rfl rfl rfl rfl rfl rfl rfl rfl rfl ?_
  refine OW_call' hE (q1) rfl rfl rfl rfl rfl rfl rfl ?_
  refine OW_run' hE.ok 3 rfl ?_
  refine OW_call' hE (q2) rfl rfl rfl rfl rfl rfl rfl ?_
  refine OW_run' hE.ok 4 rfl ?_
  refine OW_call' hE (q3) rfl rfl rfl rfl rfl rfl rfl ?_
  refine OW_run' hE.ok 5 rfl ?_
  refine OW_call' hE (q4) rfl rfl rfl rfl rfl rfl rfl ?_
  refine OW_run' hE.ok 2 rfl ?_
  refine OW_build' hE rfl rfl rfl rfl rfl ?_
  refine OW_call' hE (q5) rfl rfl rfl rfl rfl rfl rfl ?_
  refine OW_run' hE.ok 1 rfl ?_
  refine OW_as' 41 (.d (boo true)) (by refine congrArg (fun b => AV.d (boo b)) ?_; exact same_refl _) ?_
  refine OW_run' hE.ok 2 rfl ?_
  refine OW_build' hE rfl rfl rfl rfl rfl ?_
  refine OW_call' hE (q6) rfl rfl rfl rfl rfl rfl rfl ?_
  refine OW_run' hE.ok 1 rfl ?_
  refine OW_as' 46 (.d (boo true)) (by refine congrArg (fun b => AV.d (boo b)) ?_; exact same_refl _) ?_
  refine OW_run' hE.ok 2 rfl ?_
  refine OW_build' hE rfl rfl rfl rfl rfl ?_
  refine OW_call' hE (q7) rfl rfl rfl rfl rfl rfl rfl ?_
  refine OW_run' hE.ok 1 rfl ?_
  refine OW_as' 51 (.d (boo true)) (by refine congrArg (fun b => AV.d (boo b)) ?_; exact same_refl _) ?_
  refine OW_run' hE.ok 2 rfl ?_
  refine OW_end rfl ?_
  refine CW_ret ?_
  refine ⟨.inr rfl, rfl, ⟨[.d (boo true)], rfl, rfl, ?_⟩, rfl⟩
  exact AVle.refl _
end Go.Proofs.YtjiknbjkbakegaaDoor
