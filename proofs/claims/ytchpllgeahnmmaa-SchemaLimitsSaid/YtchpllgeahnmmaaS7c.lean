/- Parts of an abstract logic over the kit's walks, and walks in it: S7c. -/
import Derived.Test.YtchpllgeahnmmaaS7b
namespace Go.Proofs.Ytchpllgeahnmmaa
open Go Go.AL
set_option linter.unusedVariables false
set_option linter.unusedSimpArgs false
set_option maxHeartbeats 4000000
theorem known2  : Does Try.prog 9 [] noHeap (.d (boo true)) := by
  refine Does_of T_ok mixed (N := 65) Try.func9 rfl rfl rfl (by rfl) fun F n Z hE hF J => ?_
  have q0 := findOk kS kA; rw [k1] at q0
  have q1 := findOk kS kC; rw [k2] at q1
  have q2 := isOk kS; rw [k3] at q2
  have q3 := isOk [⟨kAA, []⟩]; rw [k4] at q3
  have q4 := sameOk kS kS; rw [k5] at q4
  have q5 := sameOk kS []; rw [k6] at q5
  have q6 := fieldOk kT kX; rw [kf1] at q6
  have q7 := fieldOk kT kY; rw [kf2] at q7
  refine CW_seq ?_
  refine CW_region ?_
  refine OW_run' hE.ok 1 rfl ?_
  refine OW_end rfl ?_
  refine CW_seq ?_
  refine CW_region ?_
  refine OW_build' hE rfl rfl rfl rfl rfl ?_
  refine OW_lits' hE rfl rfl rfl rfl rfl rfl rfl rfl rfl rfl rfl rfl ?_
  refine OW_build' hE rfl rfl rfl rfl rfl ?_
  refine OW_build' hE rfl rfl rfl rfl rfl ?_
  refine OW.le (LE_slot 9 (argT ⟨kB, []⟩) (AVle.agg (.cons (.refl _) (.cons (.nilSl 2 24) .nil)))) ?_
  refine OW_lits' hE rfl rfl rfl rfl rfl rfl rfl rfl rfl rfl rfl rfl ?_
  refine OW_build' hE rfl rfl rfl rfl rfl ?_
  refine OW_alloc' hE 1 rfl rfl rfl rfl rfl rfl rfl ?_
  refine OW_store' hE rfl rfl rfl rfl rfl rfl rfl rfl rfl rfl rfl rfl ?_
  refine OW_end rfl ?_
  refine CW_seq ?_
  refine CW_region ?_
  refine OW_run' hE.ok 1 rfl ?_
  refine OW_call' hE (q0) rfl rfl rfl rfl rfl rfl rfl ?_
  refine OW_run' hE.ok 3 rfl ?_
  refine OW_alloc' hE 2 rfl rfl rfl rfl rfl rfl rfl ?_
  refine OW_store' hE rfl rfl rfl rfl rfl rfl rfl rfl rfl rfl rfl rfl ?_
  refine OW_run' hE.ok 1 rfl ?_
  refine OW_end rfl ?_
  refine CW_seq ?_
  refine CW_region ?_
  refine OW_run' hE.ok 1 rfl ?_
  refine OW_call' hE (q1) rfl rfl rfl rfl rfl rfl rfl ?_
  refine OW_run' hE.ok 3 rfl ?_
  refine OW_alloc' hE 3 rfl rfl rfl rfl rfl rfl rfl ?_
  refine OW_store' hE rfl rfl rfl rfl rfl rfl rfl rfl rfl rfl rfl rfl ?_
  refine OW_run' hE.ok 1 rfl ?_
  refine OW_end rfl ?_
  refine CW_seq ?_
  refine CW_region ?_
  refine OW_run' hE.ok 1 rfl ?_
  refine OW_call' hE (q2) rfl rfl rfl rfl rfl rfl rfl ?_
  refine OW_run' hE.ok 1 rfl ?_
  refine OW_build' hE rfl rfl rfl rfl rfl ?_
  refine OW.le (LE_slot 25 (argT ⟨kAA, []⟩) (AVle.agg (.cons (.refl _) (.cons (.nilSl 2 24) .nil)))) ?_
  refine OW_lits' hE rfl rfl rfl rfl rfl rfl rfl rfl rfl rfl rfl rfl ?_
  refine OW_build' hE rfl rfl rfl rfl rfl ?_
  refine OW_call' hE (q3) rfl rfl rfl rfl rfl rfl rfl ?_
  refine OW_run' hE.ok 5 rfl ?_
  refine OW_call' hE (q4) rfl rfl rfl rfl rfl rfl rfl ?_
  refine OW_run' hE.ok 3 rfl ?_
  refine OW_build' hE rfl rfl rfl rfl rfl ?_
  refine OW.le (LE_slot 38 (argS []) (AVle.agg (.cons (.nilSl 2 40) .nil))) ?_
  refine OW_call' hE (q5) rfl rfl rfl rfl rfl rfl rfl ?_
  refine OW_run' hE.ok 17 rfl ?_
  refine OW_call' hE (q6) rfl rfl rfl rfl rfl rfl rfl ?_
  refine OW_run' hE.ok 4 rfl ?_
  refine OW_call' hE (q7) rfl rfl rfl rfl rfl rfl rfl ?_
  refine OW_run' hE.ok 3 rfl ?_
  refine OW_end rfl ?_
  refine CW_ret ?_
  refine ⟨.inr rfl, rfl, ⟨[.d (boo true)], rfl, rfl, ?_⟩, rfl⟩
  exact AVle.refl _
end Go.Proofs.Ytchpllgeahnmmaa
