/- Part of an abstract logic over the kit's walks, and walks in it: X2k. -/
import Derived.Test.YthffbfjnahipcaaX2q
namespace Go.Proofs.Ythffbfjnahipcaa
open Go Go.AL
set_option linter.unusedVariables false
set_option linter.unusedSimpArgs false
set_option maxHeartbeats 4000000
theorem known6  : Does Try.prog 11 [] noHeap (.d (boo true)) := by
  refine Does_of T_ok mixed (N := 72) Try.func11 rfl rfl rfl (by rfl) fun F n Z hE hF J => ?_
  have q0 := kidsOk 12; rw [z1] at q0
  have q1 := kidsOk 11; rw [z2] at q1
  have q2 := kidsOk 1; rw [z3] at q2
  have q3 := isXOk x6e; rw [z4] at q3
  have q4 := Does_le (AVles.cons nilX_le AVles.nil) (isXOk zeroX); rw [z5] at q4
  have q5 := depthXOk x6e; rw [z6] at q5
  have q6 := nodesOk x6e (by rw [z7]; simp); rw [z7] at q6
  have q7 := sameXOk x6e x6e; rw [z8] at q7
  have q8 := sameXOk x6e x6b; rw [z9] at q8
  have q9 := isPatOk kP; rw [z10] at q9
  have q10 := Does_le (AVles.cons nilP_le AVles.nil) (isPatOk zeroP); rw [z11] at q10
  have q11 := samePOk kP kP; rw [z12] at q11
  have q12 := Does_le (AVles.cons (AVle.refl _) (AVles.cons nilP_le AVles.nil)) (samePOk kP zeroP); rw [z13] at q12
  refine CW_seq ?_
  refine CW_region ?_
  refine OW_run' hE.ok 1 rfl ?_
  refine OW_end rfl ?_
  refine CW_seq ?_
  refine CW_region ?_
  refine OW_call' hE (fieldXOk kA kX) rfl rfl rfl rfl rfl rfl rfl ?_
  refine OW_call' hE (litOk 3) rfl rfl rfl rfl rfl rfl rfl ?_
  refine OW_call' hE (twoOk 8 x6a x6b) rfl rfl rfl rfl rfl rfl rfl ?_
  refine OW_alloc' hE 1 rfl rfl rfl rfl rfl rfl rfl ?_
  refine OW_store' hE rfl rfl rfl rfl rfl rfl rfl rfl rfl rfl rfl rfl ?_
  refine OW_end rfl ?_
  refine CW_seq ?_
  rw [hset_hset]
  refine CW_region ?_
  refine OW_lits' hE rfl rfl rfl rfl rfl rfl rfl rfl rfl rfl rfl rfl ?_
  refine OW_run' hE.ok 1 rfl ?_
  refine OW_build' hE rfl rfl rfl rfl rfl ?_
  refine OW_lits' hE rfl rfl rfl rfl rfl rfl rfl rfl rfl rfl rfl rfl ?_
  refine OW_build' hE rfl rfl rfl rfl rfl ?_
  refine OW_alloc' hE 2 rfl rfl rfl rfl rfl rfl rfl ?_
  refine OW_store' hE rfl rfl rfl rfl rfl rfl rfl rfl rfl rfl rfl rfl ?_
  refine OW_end rfl ?_
  refine CW_seq ?_
  rw [hset_hset]
  refine CW_drawn' hE 58 (by decide +kernel) ?_
  refine HW_call hE (q0) rfl rfl rfl rfl rfl rfl rfl rfl ?_
  refine HW_run hE 2 rfl rfl ?_
  refine HW_call hE (q1) rfl rfl rfl rfl rfl rfl rfl rfl ?_
  refine HW_run hE 3 rfl rfl ?_
  refine HW_call hE (q2) rfl rfl rfl rfl rfl rfl rfl rfl ?_
  refine HW_run hE 4 rfl rfl ?_
  refine HW_call hE (q3) rfl rfl rfl rfl rfl rfl rfl rfl ?_
  refine HW_run hE 2 rfl rfl ?_
  refine HW_loc hE (loc_build hE rfl rfl) rfl rfl rfl rfl ?_
  refine HW_call hE (q4) rfl rfl rfl rfl rfl rfl rfl rfl ?_
  refine HW_run hE 4 rfl rfl ?_
  refine HW_call hE (q5) rfl rfl rfl rfl rfl rfl rfl rfl ?_
  refine HW_run hE 4 rfl rfl ?_
  refine HW_call hE (q6) rfl rfl rfl rfl rfl rfl rfl rfl ?_
  refine HW_run hE 6 rfl rfl ?_
  refine HW_call hE (q7) rfl rfl rfl rfl rfl rfl rfl rfl ?_
  refine HW_run hE 3 rfl rfl ?_
  refine HW_call hE (litOk 3) rfl rfl rfl rfl rfl rfl rfl rfl ?_
  refine HW_call hE (q8) rfl rfl rfl rfl rfl rfl rfl rfl ?_
  refine HW_run hE 4 rfl rfl ?_
  refine HW_call hE (q9) rfl rfl rfl rfl rfl rfl rfl rfl ?_
  refine HW_run hE 2 rfl rfl ?_
  refine HW_loc hE (loc_build hE rfl rfl) rfl rfl rfl rfl ?_
  refine HW_call hE (q10) rfl rfl rfl rfl rfl rfl rfl rfl ?_
  refine HW_run hE 5 rfl rfl ?_
  refine HW_call hE (q11) rfl rfl rfl rfl rfl rfl rfl rfl ?_
  refine HW_run hE 3 rfl rfl ?_
  refine HW_loc hE (loc_build hE rfl rfl) rfl rfl rfl rfl ?_
  refine HW_end ?_
  refine OW_call' hE (q12) rfl rfl rfl rfl rfl rfl rfl ?_
  refine OW_run' hE.ok 3 rfl ?_
  refine OW_end rfl ?_
  refine CW_ret ?_
  refine ⟨.inr rfl, rfl, ⟨[.d (boo true)], rfl, rfl, ?_⟩, rfl⟩
  exact AVle.refl _
end Go.Proofs.Ythffbfjnahipcaa
