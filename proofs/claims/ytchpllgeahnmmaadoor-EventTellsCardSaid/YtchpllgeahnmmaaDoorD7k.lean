/- Parts of an abstract logic over the kit's walks, and walks in it: D7k. -/
import Derived.Test.YtchpllgeahnmmaaDoorDxa
import Derived.Test.YtchpllgeahnmmaaDoorDxe
namespace Go.Proofs.YtchpllgeahnmmaaDoor
open Go Go.AL
set_option linter.unusedVariables false
set_option linter.unusedSimpArgs false
set_option maxHeartbeats 4000000
theorem known3  : Does Tryd.prog 7 [] noHeap (.d (boo true)) := by
 refine Does_of T_ok mixed (N := 71) Tryd.func7 rfl rfl rfl (by rfl) fun F n Z hE hF J => ?_
 have q0 := getOk kS3 kE3 kX; rw [x1] at q0
 have q1 := getOk kS3 kE3 kY; rw [x2] at q1
 have q2 := isEvOk kS3 kE3; rw [x3] at q2
 have q3 := isEvOk kS3 ⟨kB, 0, []⟩; rw [x4] at q3
 have q4 := errIs 13 13; rw [show ((13 : Int) == 13) = true from rfl] at q4
 have q5 := isEvOk kS3 ⟨kA, 0, []⟩; rw [x5] at q5
 have q6 := errIs 10 10; rw [show ((10 : Int) == 10) = true from rfl] at q6
 have q7 := sameEvOk kE3 kE3; rw [x6] at q7
 have q8 := sameEvOk kE3 ⟨nul, 0, []⟩; rw [x7] at q8
 refine CW_seq ?_
 refine CW_region ?_
 refine OW_run' hE.ok 1 rfl ?_
 refine OW_end rfl ?_
 refine CW_seq ?_
 refine CW_region ?_
 refine OW_build' hE rfl rfl rfl rfl rfl ?_
 refine OW_lits' hE rfl rfl rfl rfl rfl rfl rfl rfl rfl rfl rfl rfl ?_
 refine OW_build' hE rfl rfl rfl rfl rfl ?_
 refine OW_lits' hE rfl rfl rfl rfl rfl rfl rfl rfl rfl rfl rfl rfl ?_
 refine OW_build' hE rfl rfl rfl rfl rfl ?_
 refine OW_alloc' hE 1 rfl rfl rfl rfl rfl rfl rfl ?_
 refine OW_store' hE rfl rfl rfl rfl rfl rfl rfl rfl rfl rfl rfl rfl ?_
 refine OW_end rfl ?_
 refine CW_seq ?_
 refine CW_region ?_
 refine OW_build' hE rfl rfl rfl rfl rfl ?_
 refine OW_lits' hE rfl rfl rfl rfl rfl rfl rfl rfl rfl rfl rfl rfl ?_
 refine OW_build' hE rfl rfl rfl rfl rfl ?_
 refine OW_alloc' hE 2 rfl rfl rfl rfl rfl rfl rfl ?_
 refine OW_store' hE rfl rfl rfl rfl rfl rfl rfl rfl rfl rfl rfl rfl ?_
 refine OW_end rfl ?_
 refine CW_seq ?_
 refine CW_region ?_
 refine OW_run' hE.ok 2 rfl ?_
 refine OW_call' hE (q0) rfl rfl rfl rfl rfl rfl rfl ?_
 refine OW_run' hE.ok 3 rfl ?_
 refine OW_alloc' hE 3 rfl rfl rfl rfl rfl rfl rfl ?_
 refine OW_store' hE rfl rfl rfl rfl rfl rfl rfl rfl rfl rfl rfl rfl ?_
 refine OW_run' hE.ok 1 rfl ?_
 refine OW_end rfl ?_
 refine CW_seq ?_
 refine CW_region ?_
 refine OW_run' hE.ok 2 rfl ?_
 refine OW_call' hE (q1) rfl rfl rfl rfl rfl rfl rfl ?_
 refine OW_run' hE.ok 3 rfl ?_
 refine OW_alloc' hE 4 rfl rfl rfl rfl rfl rfl rfl ?_
 refine OW_store' hE rfl rfl rfl rfl rfl rfl rfl rfl rfl rfl rfl rfl ?_
 refine OW_run' hE.ok 1 rfl ?_
 refine OW_end rfl ?_
 refine CW_seq ?_
 refine CW_region ?_
 refine OW_run' hE.ok 1 rfl ?_
 refine OW_callOwn' hE 77 (copyOk kE3) rfl rfl rfl rfl rfl rfl rfl ?_
 refine OW_alloc' hE 5 rfl rfl rfl rfl rfl rfl rfl ?_
 refine OW_store' hE rfl rfl rfl rfl rfl rfl rfl rfl rfl rfl rfl rfl ?_
 refine OW.le (LE_freeze 77 32 rfl (by decide)) ?_
 refine OW_end rfl ?_
 refine CW_seq ?_
 refine CW_region ?_
 refine OW_run' hE.ok 2 rfl ?_
 refine OW_call' hE (q2) rfl rfl rfl rfl rfl rfl rfl ?_
 refine OW_run' hE.ok 3 rfl ?_
 refine OW_build' hE rfl rfl rfl rfl rfl ?_
 refine OW.le (LE_slot 36 (argE ⟨kB, 0, []⟩) (AVle.agg (.cons (.refl _) (.cons (.refl _) (.cons (.nilSl 3 32) .nil))))) ?_
 refine OW_call' hE (q3) rfl rfl rfl rfl rfl rfl rfl ?_
 refine OW_run' hE.ok 1 rfl ?_
 refine OW_call' hE (q4) rfl rfl rfl rfl rfl rfl rfl ?_
 refine OW_run' hE.ok 3 rfl ?_
 refine OW_build' hE rfl rfl rfl rfl rfl ?_
 refine OW.le (LE_slot 43 (argE ⟨kA, 0, []⟩) (AVle.agg (.cons (.refl _) (.cons (.refl _) (.cons (.nilSl 3 32) .nil))))) ?_
 refine OW_call' hE (q5) rfl rfl rfl rfl rfl rfl rfl ?_
 refine OW_run' hE.ok 1 rfl ?_
 refine OW_call' hE (q6) rfl rfl rfl rfl rfl rfl rfl ?_
 refine OW_run' hE.ok 16 rfl ?_
 refine OW_call' hE (q7) rfl rfl rfl rfl rfl rfl rfl ?_
 refine OW_run' hE.ok 3 rfl ?_
 refine OW_build' hE rfl rfl rfl rfl rfl ?_
 refine OW.le (LE_slot 67 (argE ⟨nul, 0, []⟩) (AVle.agg (.cons (.refl _) (.cons (.refl _) (.cons (.nilSl 3 32) .nil))))) ?_
 refine OW_call' hE (q8) rfl rfl rfl rfl rfl rfl rfl ?_
 refine OW_run' hE.ok 3 rfl ?_
 refine OW_end rfl ?_
 refine CW_ret ?_
 refine ⟨.inr rfl, rfl, ⟨[.d (boo true)], rfl, rfl, ?_⟩, rfl⟩
 exact AVle.refl _
end Go.Proofs.YtchpllgeahnmmaaDoor
