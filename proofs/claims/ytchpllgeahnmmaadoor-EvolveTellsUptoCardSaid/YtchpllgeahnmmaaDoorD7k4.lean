/- Parts of an abstract logic over the kit's walks, and walks in it: D7k4. -/
import Derived.Test.YtchpllgeahnmmaaDoorD7m
import Derived.Test.YtchpllgeahnmmaaDoorD7u
import Derived.Test.YtchpllgeahnmmaaDoorD7x
import Derived.Test.YtchpllgeahnmmaaDoorD7b
import Derived.Test.YtchpllgeahnmmaaDoorEz
namespace Go.Proofs.YtchpllgeahnmmaaDoor
open Go Go.AL
set_option linter.unusedVariables false
set_option linter.unusedSimpArgs false
set_option maxHeartbeats 4000000
theorem oneOk  : Does Tryd.prog 50 [] noHeap (argS oneS) := by
  refine Does_of T_ok mixed (N := 6) Tryd.func50 rfl rfl rfl (by rfl) fun F n Z hE hF J => ?_
  refine CW_seq ?_
  refine CW_region ?_
  refine OW_alloc' hE 1 rfl rfl rfl rfl rfl rfl rfl ?_
  refine OW_end rfl ?_
  refine CW_seq ?_
  refine CW_region ?_
  refine OW_build' hE rfl rfl rfl rfl rfl ?_
  refine OW_lits' hE rfl rfl rfl rfl rfl rfl rfl rfl rfl rfl rfl rfl ?_
  refine OW_build' hE rfl rfl rfl rfl rfl ?_
  refine OW_lits' hE rfl rfl rfl rfl rfl rfl rfl rfl rfl rfl rfl rfl ?_
  refine OW_build' hE rfl rfl rfl rfl rfl ?_
  refine OW_store' hE rfl rfl rfl rfl rfl rfl rfl rfl rfl rfl rfl rfl ?_
  refine OW_end rfl ?_
  refine CW_ret ?_
  refine ⟨.inr rfl, rfl, ⟨_, rfl, rfl, ?_⟩, rfl⟩
  exact AVle.refl _

theorem known4  : Does Tryd.prog 17 [] noHeap (.d (boo true)) := by
  refine Does_of T_ok mixed (N := 88) Tryd.func17 rfl rfl rfl (by rfl) fun F n Z hE hF J => ?_
  have q0 := applyOk oneS oneC1 one_s; rw [one_a1] at q0
  have q1 := applyOk oneS oneC2 one_s; rw [one_a2] at q1
  have q2 := applyOk oneS1 oneC3 one_s1; rw [one_a3] at q2
  have q3 := moveOk oneS oneC4 oneE one_s (by decide); rw [one_m] at q3
  have q4 := backOk oneC5 kZ; rw [one_b] at q4
  refine CW_seq ?_
  refine CW_region ?_
  refine OW_run' hE.ok 1 rfl ?_
  refine OW_end rfl ?_
  refine CW_seq ?_
  refine CW_region ?_
  refine OW_call' hE (oneOk) rfl rfl rfl rfl rfl rfl rfl ?_
  refine OW_build' hE rfl rfl rfl rfl rfl ?_
  refine OW_build' hE rfl rfl rfl rfl rfl ?_
  refine OW_call' hE (q0) rfl rfl rfl rfl rfl rfl rfl ?_
  refine OW_run' hE.ok 3 rfl ?_
  refine OW_alloc' hE 1 rfl rfl rfl rfl rfl rfl rfl ?_
  refine OW_store' hE rfl rfl rfl rfl rfl rfl rfl rfl rfl rfl rfl rfl ?_
  refine OW_run' hE.ok 1 rfl ?_
  refine OW_end rfl ?_
  refine CW_seq ?_
  refine CW_region ?_
  refine OW_call' hE (oneOk) rfl rfl rfl rfl rfl rfl rfl ?_
  refine OW_build' hE rfl rfl rfl rfl rfl ?_
  refine OW_call' hE (q1) rfl rfl rfl rfl rfl rfl rfl ?_
  refine OW_run' hE.ok 3 rfl ?_
  refine OW_alloc' hE 2 rfl rfl rfl rfl rfl rfl rfl ?_
  refine OW_store' hE rfl rfl rfl rfl rfl rfl rfl rfl rfl rfl rfl rfl ?_
  refine OW_run' hE.ok 1 rfl ?_
  refine OW_end rfl ?_
  refine CW_seq ?_
  refine CW_region ?_
  refine OW_run' hE.ok 1 rfl ?_
  refine OW_build' hE rfl rfl rfl rfl rfl ?_
  refine OW_call' hE (q2) rfl rfl rfl rfl rfl rfl rfl ?_
  refine OW_run' hE.ok 3 rfl ?_
  refine OW_alloc' hE 3 rfl rfl rfl rfl rfl rfl rfl ?_
  refine OW_store' hE rfl rfl rfl rfl rfl rfl rfl rfl rfl rfl rfl rfl ?_
  refine OW_run' hE.ok 1 rfl ?_
  refine OW_end rfl ?_
  refine CW_seq ?_
  refine CW_region ?_
  refine OW_call' hE (oneOk) rfl rfl rfl rfl rfl rfl rfl ?_
  refine OW_build' hE rfl rfl rfl rfl rfl ?_
  refine OW_build' hE rfl rfl rfl rfl rfl ?_
  refine OW_lits' hE rfl rfl rfl rfl rfl rfl rfl rfl rfl rfl rfl rfl ?_
  refine OW_build' hE rfl rfl rfl rfl rfl ?_
  refine OW_call' hE (q3) rfl rfl rfl rfl rfl rfl rfl ?_
  refine OW_alloc' hE 4 rfl rfl rfl rfl rfl rfl rfl ?_
  refine OW_store' hE rfl rfl rfl rfl rfl rfl rfl rfl rfl rfl rfl rfl ?_
  refine OW_end rfl ?_
  refine CW_seq ?_
  refine CW_region ?_
  refine OW_build' hE rfl rfl rfl rfl rfl ?_
  refine OW_call' hE (q4) rfl rfl rfl rfl rfl rfl rfl ?_
  refine OW_run' hE.ok 5 rfl ?_
  refine OW_end rfl ?_
  refine CW_seq ?_
  refine CW_region ?_
  refine OW_run' hE.ok 1 rfl ?_
  refine OW_loc' hE (loc_errEq hE rfl rfl (EN := 74) (z := 0) rfl) rfl rfl rfl ?_
  refine OW_run' hE.ok 9 rfl ?_
  refine OW_loc' hE (loc_indexAddr hE rfl rfl rfl rfl rfl (by omega) (x := encT ⟨kA, [⟨kX, 3⟩, ⟨kY, 1⟩]⟩) rfl) rfl rfl rfl ?_
  refine OW_run' hE.ok 8 rfl ?_
  refine OW_call' hE (errIs 13 13) rfl rfl rfl rfl rfl rfl rfl ?_
  refine OW_run' hE.ok 4 rfl ?_
  refine OW_call' hE (errIs 14 14) rfl rfl rfl rfl rfl rfl rfl ?_
  refine OW_run' hE.ok 10 rfl ?_
  refine OW_loc' hE (loc_indexAddr hE rfl rfl rfl rfl rfl (by omega) (x := encV ⟨1, 1, nul⟩) rfl) rfl rfl rfl ?_
  refine OW_run' hE.ok 1 rfl ?_
  refine OW_build' hE rfl rfl rfl rfl rfl ?_
  refine OW_loc' hE (loc_eql rfl rfl rfl (r := sameV ⟨1, 1, nul⟩ ⟨1, 1, nul⟩) (eqLaw_flat T_ok (t := 31) rfl (by decide +kernel) rfl (X := encV ⟨1, 1, nul⟩) (Y := encV ⟨1, 1, nul⟩) rfl rfl rfl)) rfl rfl rfl ?_
  refine OW_as' 79 (.d (boo true)) (congrArg (fun b => AV.d (boo b)) (sameV_rfl _)) ?_
  refine OW_run' hE.ok 7 rfl ?_
  refine OW_as' 86 (.d (boo true)) (congrArg (fun b => AV.d (boo b)) (same_refl kX)) ?_
  refine OW_run' hE.ok 1 rfl ?_
  refine OW_run' hE.ok 1 rfl ?_
  refine OW_end rfl ?_
  refine CW_ret ?_
  refine ⟨.inr rfl, rfl, ⟨[.d (boo true)], rfl, rfl, ?_⟩, rfl⟩
  exact AVle.refl _
end Go.Proofs.YtchpllgeahnmmaaDoor
