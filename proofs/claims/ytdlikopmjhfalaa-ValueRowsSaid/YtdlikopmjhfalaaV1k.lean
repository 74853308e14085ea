/- Part of an abstract logic over the kit's walks, and walks in it: V1k. -/
import Derived.Test.YtdlikopmjhfalaaV1b
namespace Go.Proofs.Ytdlikopmjhfalaa
open Go Go.AL
set_option linter.unusedVariables false
set_option linter.unusedSimpArgs false
set_option maxHeartbeats 4000000
theorem known1  : Does Try.prog 21 [] noHeap (.d (boo true)) := by
  refine Does_of T_ok mixed (N := 40) Try.func21 rfl rfl rfl (by rfl) fun F n Z hE hF J => ?_
  have q0 := isValOk ⟨1, -5, nul⟩; rw [w1] at q0
  have q1 := isValOk ⟨0, 0, nul⟩; rw [w2] at q1
  have q2 := isValOk ⟨3, 2, nul⟩; rw [w3] at q2
  have q3 := zeroOk 2; rw [w4] at q3
  have q4 := sameVOk ⟨2, 0, nul⟩ ⟨2, 0, nul⟩; rw [w5] at q4
  have q5 := nameOk kabc; rw [w6] at q5
  have q6 := nameOk kaB; rw [w7] at q6
  have q7 := riseOk [kA, kB]; rw [w8] at q7
  have q8 := riseOk [kA, kA]; rw [w9] at q8
  have q9 := withOk [kA, kC] kB w11 (by simp); rw [w10] at q9
  refine CW_seq ?_
  refine CW_region ?_
  refine OW_run' hE.ok 1 rfl ?_
  refine OW_end rfl ?_
  refine CW_seq ?_
  refine CW_region ?_
  refine OW_build' hE rfl rfl rfl rfl rfl ?_
  refine OW_call' hE (q0) rfl rfl rfl rfl rfl rfl rfl ?_
  refine OW_run' hE.ok 1 rfl ?_
  refine OW_build' hE rfl rfl rfl rfl rfl ?_
  refine OW_call' hE (q1) rfl rfl rfl rfl rfl rfl rfl ?_
  refine OW_run' hE.ok 3 rfl ?_
  refine OW_build' hE rfl rfl rfl rfl rfl ?_
  refine OW_call' hE (q2) rfl rfl rfl rfl rfl rfl rfl ?_
  refine OW_run' hE.ok 3 rfl ?_
  refine OW_call' hE (q3) rfl rfl rfl rfl rfl rfl rfl ?_
  refine OW_build' hE rfl rfl rfl rfl rfl ?_
  refine OW_call' hE (q4) rfl rfl rfl rfl rfl rfl rfl ?_
  refine OW_run' hE.ok 2 rfl ?_
  refine OW_call' hE (q5) rfl rfl rfl rfl rfl rfl rfl ?_
  refine OW_run' hE.ok 2 rfl ?_
  refine OW_call' hE (q6) rfl rfl rfl rfl rfl rfl rfl ?_
  refine OW_run' hE.ok 3 rfl ?_
  refine OW_lits' hE rfl rfl rfl rfl rfl rfl rfl rfl rfl rfl rfl rfl ?_
  refine OW_call' hE (q7) rfl rfl rfl rfl rfl rfl rfl ?_
  refine OW_run' hE.ok 2 rfl ?_
  refine OW_lits' hE rfl rfl rfl rfl rfl rfl rfl rfl rfl rfl rfl rfl ?_
  refine OW_call' hE (q8) rfl rfl rfl rfl rfl rfl rfl ?_
  refine OW_run' hE.ok 3 rfl ?_
  refine OW_lits' hE rfl rfl rfl rfl rfl rfl rfl rfl rfl rfl rfl rfl ?_
  refine OW_call' hE (q9) rfl rfl rfl rfl rfl rfl rfl ?_
  refine OW_run' hE.ok 4 rfl ?_
  refine OW_end rfl ?_
  refine CW_ret ?_
  refine ⟨.inr rfl, rfl, ⟨[.d (boo true)], rfl, rfl, ?_⟩, rfl⟩
  exact AVle.refl _

theorem zerosOk (k : Int) : Does Try.prog 11 [.d (int k)] noHeap (.d (boo true)) := by
  refine Does_of T_ok mixed (N := 40) Try.func11 rfl rfl rfl (by rfl) fun F n Z hE hF J => ?_
  obtain ⟨z, hz⟩ : ∃ z, zeroV k = z := ⟨_, rfl⟩
  have hzk := zeroOk k; rw [hz] at hzk
  have ho := isValOk ⟨0, 0, nul⟩; rw [w2] at ho
  refine CW_seq ?_
  refine CW_region ?_
  refine OW_run' hE.ok 1 rfl ?_
  refine OW_end rfl ?_
  refine CW_seq ?_
  refine CW_seq ?_
  refine CW_region ?_
  refine OW_call' hE (known1) rfl rfl rfl rfl rfl rfl rfl ?_
  refine OW_run' hE.ok 1 rfl ?_
  refine OW_end rfl ?_
  refine CW_false rfl ?_
  refine CW_skip ?_
  refine CW_seq ?_
  refine CW_region ?_
  refine OW_run' hE.ok 1 rfl ?_
  refine OW_call' hE (hzk) rfl rfl rfl rfl rfl rfl rfl ?_
  refine OW_alloc' hE 1 rfl rfl rfl rfl rfl rfl rfl ?_
  refine OW_store' hE rfl rfl rfl rfl rfl rfl rfl rfl rfl rfl rfl rfl ?_
  refine OW_end rfl ?_
  refine CW_seq ?_
  refine CW_seq ?_
  refine CW_region ?_
  refine OW_run' hE.ok 3 rfl ?_
  refine OW_split' 10 rfl (fun h1 => ?_) (fun h1 => ?_)
  · skip
    have hz0 := zeroV_lo h1; rw [hz] at hz0; subst hz0
    refine OW_run' hE.ok 3 rfl ?_
    refine OW_end rfl ?_
    refine CW_true rfl ?_
    refine CW_seq ?_
    refine CW_region ?_
    refine OW_run' hE.ok 1 rfl ?_
    refine OW_build' hE rfl rfl rfl rfl rfl ?_
    refine OW_loc' hE (loc_eql rfl rfl rfl (r := sameV ⟨0, 0, nul⟩ ⟨0, 0, nul⟩) (eqLaw_flat T_ok (t := 42) rfl (by decide +kernel) rfl (X := encV ⟨0, 0, nul⟩) (Y := encV ⟨0, 0, nul⟩) rfl rfl rfl)) rfl rfl rfl ?_
    refine OW_as' 16 (.d (boo true)) (congrArg (fun b => AV.d (boo b)) w12) ?_
    refine OW_run' hE.ok 2 rfl ?_
    refine OW_call' hE (ho) rfl rfl rfl rfl rfl rfl rfl ?_
    refine OW_run' hE.ok 3 rfl ?_
    refine OW_end rfl ?_
    refine CW_ret ?_
    refine ⟨.inr rfl, rfl, ⟨[.d (boo true)], rfl, rfl, ?_⟩, rfl⟩
    exact AVle.refl _
  · skip
    refine OW_run' hE.ok 3 rfl ?_
    refine OW_end rfl ?_
    refine CW_cond _ rfl (fun h2 => ?_) (fun h2 => ?_)
    · skip
      have hz0 := zeroV_hi h1 h2; rw [hz] at hz0; subst hz0
      refine CW_seq ?_
      refine CW_region ?_
      refine OW_run' hE.ok 1 rfl ?_
      refine OW_build' hE rfl rfl rfl rfl rfl ?_
      refine OW_loc' hE (loc_eql rfl rfl rfl (r := sameV ⟨0, 0, nul⟩ ⟨0, 0, nul⟩) (eqLaw_flat T_ok (t := 42) rfl (by decide +kernel) rfl (X := encV ⟨0, 0, nul⟩) (Y := encV ⟨0, 0, nul⟩) rfl rfl rfl)) rfl rfl rfl ?_
      refine OW_as' 16 (.d (boo true)) (congrArg (fun b => AV.d (boo b)) w12) ?_
      refine OW_run' hE.ok 2 rfl ?_
      refine OW_call' hE (ho) rfl rfl rfl rfl rfl rfl rfl ?_
      refine OW_run' hE.ok 3 rfl ?_
      refine OW_end rfl ?_
      refine CW_ret ?_
      refine ⟨.inr rfl, rfl, ⟨[.d (boo true)], rfl, rfl, ?_⟩, rfl⟩
      exact AVle.refl _
    · skip
      have hz0 := zeroV_in h1 h2; rw [hz] at hz0; subst hz0
      have hq := isValOk ⟨k, 0, nul⟩; rw [isVal_in h1 h2] at hq
      refine CW_skip ?_
      refine CW_seq ?_
      refine CW_region ?_
      refine OW_run' hE.ok 1 rfl ?_
      refine OW_call' hE (hq) rfl rfl rfl rfl rfl rfl rfl ?_
      refine OW_run' hE.ok 5 rfl ?_
      refine OW_as' 28 (.d (boo true)) (congrArg (fun b => AV.d (boo b)) (by simp)) ?_
      refine OW_run' hE.ok 1 rfl ?_
      refine OW_run' hE.ok 9 rfl ?_
      refine OW_as' 38 (.d (boo true)) (congrArg (fun b => AV.d (boo b)) (by simp [nul, ByteArray.toList_eq])) ?_
      refine OW_run' hE.ok 1 rfl ?_
      refine OW_run' hE.ok 1 rfl ?_
      refine OW_end rfl ?_
      refine CW_ret ?_
      refine ⟨.inr rfl, rfl, ⟨[.d (boo true)], rfl, rfl, ?_⟩, rfl⟩
      exact AVle.refl _

theorem tellsOk (a b : Vl) (k : Int) (s : ByteArray) : Does Try.prog 7 [argV a, argV b, .d (int k), .d (str s)] noHeap (.d (boo true)) := by
  refine Does_of T_ok mixed (N := 66) Try.func7 rfl rfl rfl (by rfl) fun F n Z hE hF J => ?_
  have hself := sameVOk a a; rw [sameV_rfl] at hself
  refine CW_seq ?_
  refine CW_region ?_
  refine OW_run' hE.ok 3 rfl ?_
  refine OW_end rfl ?_
  refine CW_seq ?_
  refine CW_seq ?_
  refine CW_region ?_
  refine OW_call' hE (known1) rfl rfl rfl rfl rfl rfl rfl ?_
  refine OW_run' hE.ok 1 rfl ?_
  refine OW_end rfl ?_
  refine CW_false rfl ?_
  refine CW_skip ?_
  refine CW_seq ?_
  refine CW_seq ?_
  refine CW_region ?_
  refine OW_run' hE.ok 4 rfl ?_
  refine OW_split' 14 rfl (fun h1 => ?_) (fun h1 => ?_)
  · skip
    refine OW_run' hE.ok 11 rfl ?_
    refine OW_end rfl ?_
    refine CW_true rfl ?_
    refine CW_seq ?_
    refine CW_region ?_
    refine OW_run' hE.ok 1 rfl ?_
    refine OW_end rfl ?_
    refine CW_ret ?_
    refine ⟨.inr rfl, rfl, ⟨[.d (boo true)], rfl, rfl, ?_⟩, rfl⟩
    exact AVle.refl _
  · skip
    refine OW_run' hE.ok 6 rfl ?_
    refine OW_split' 20 rfl (fun h2 => ?_) (fun h2 => ?_)
    · skip
      refine OW_run' hE.ok 5 rfl ?_
      refine OW_end rfl ?_
      refine CW_true rfl ?_
      refine CW_seq ?_
      refine CW_region ?_
      refine OW_run' hE.ok 1 rfl ?_
      refine OW_end rfl ?_
      refine CW_ret ?_
      refine ⟨.inr rfl, rfl, ⟨[.d (boo true)], rfl, rfl, ?_⟩, rfl⟩
      exact AVle.refl _
    · skip
      refine OW_run' hE.ok 5 rfl ?_
      refine OW_end rfl ?_
      refine CW_cond _ rfl (fun h3 => ?_) (fun h3 => ?_)
      · skip
        refine CW_seq ?_
        refine CW_region ?_
        refine OW_run' hE.ok 1 rfl ?_
        refine OW_end rfl ?_
        refine CW_ret ?_
        refine ⟨.inr rfl, rfl, ⟨[.d (boo true)], rfl, rfl, ?_⟩, rfl⟩
        exact AVle.refl _
      · skip
        refine CW_skip ?_
        refine CW_seq ?_
        refine CW_drawn' hE 37 (by decide +kernel) ?_
        refine HW_run hE 1 rfl rfl ?_
        refine HW_call hE (isValOk a) rfl rfl rfl rfl rfl rfl rfl rfl ?_
        refine HW_run hE 1 rfl rfl ?_
        refine HW_call hE (refIsValOk a) rfl rfl rfl rfl rfl rfl rfl rfl ?_
        refine HW_run hE 1 rfl rfl ?_
        refine HW_as 30 (.d (boo true)) (congrArg (fun b => AV.d (boo b)) (by simp)) ?_
        refine HW_run hE 1 rfl rfl ?_
        refine HW_run hE 1 rfl rfl ?_
        refine HW_call hE (isValOk b) rfl rfl rfl rfl rfl rfl rfl rfl ?_
        refine HW_run hE 1 rfl rfl ?_
        refine HW_call hE (refIsValOk b) rfl rfl rfl rfl rfl rfl rfl rfl ?_
        refine HW_run hE 1 rfl rfl ?_
        refine HW_as 36 (.d (boo true)) (congrArg (fun b => AV.d (boo b)) (by simp)) ?_
        refine HW_run hE 1 rfl rfl ?_
        refine HW_run hE 3 rfl rfl ?_
        refine HW_call hE (sameVOk a b) rfl rfl rfl rfl rfl rfl rfl rfl ?_
        refine HW_run hE 2 rfl rfl ?_
        refine HW_loc hE (loc_eql rfl rfl rfl (r := sameV a b) (eqLaw_flat T_ok (t := 42) rfl (by decide +kernel) rfl (X := encV a) (Y := encV b) rfl rfl rfl)) rfl rfl rfl rfl ?_
        refine HW_run hE 1 rfl rfl ?_
        refine HW_as 45 (.d (boo true)) (congrArg (fun b => AV.d (boo b)) (by simp)) ?_
        refine HW_run hE 1 rfl rfl ?_
        refine HW_run hE 3 rfl rfl ?_
        refine HW_call hE (hself) rfl rfl rfl rfl rfl rfl rfl rfl ?_
        refine HW_run hE 3 rfl rfl ?_
        refine HW_call hE (zeroOk k) rfl rfl rfl rfl rfl rfl rfl rfl ?_
        refine HW_run hE 1 rfl rfl ?_
        refine HW_call hE (refZeroOk k) rfl rfl rfl rfl rfl rfl rfl rfl ?_
        refine HW_loc hE (loc_eql rfl rfl rfl (r := sameV (zeroV k) (zeroV k)) (eqLaw_flat T_ok (t := 42) rfl (by decide +kernel) rfl (X := encV (zeroV k)) (Y := encV (zeroV k)) rfl rfl rfl)) rfl rfl rfl rfl ?_
        refine HW_as 57 (.d (boo true)) (congrArg (fun b => AV.d (boo b)) (sameV_rfl _)) ?_
        refine HW_run hE 3 rfl rfl ?_
        refine HW_call hE (nameOk s) rfl rfl rfl rfl rfl rfl rfl rfl ?_
        refine HW_run hE 1 rfl rfl ?_
        refine HW_end ?_
        refine OW_call' hE (refNameOk s) rfl rfl rfl rfl rfl rfl rfl ?_
        refine OW_run' hE.ok 1 rfl ?_
        refine OW_as' 64 (.d (boo true)) (congrArg (fun b => AV.d (boo b)) (by simp)) ?_
        refine OW_run' hE.ok 1 rfl ?_
        refine OW_run' hE.ok 1 rfl ?_
        refine OW_end rfl ?_
        refine CW_ret ?_
        refine ⟨.inr rfl, rfl, ⟨[.d (boo true)], rfl, rfl, ?_⟩, rfl⟩
        exact AVle.refl _
end Go.Proofs.Ytdlikopmjhfalaa
