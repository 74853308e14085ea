/- Parts of an abstract logic over the kit's walks, and walks in it: D7ck. -/
import Derived.Test.YtchpllgeahnmmaaDoorD7cf
import Derived.Test.YtchpllgeahnmmaaDoorD7cg
import Derived.Test.YtchpllgeahnmmaaDoorD7x
import Derived.Test.YtchpllgeahnmmaaDoorAf
import Derived.Test.YtchpllgeahnmmaaDoorCp
namespace Go.Proofs.YtchpllgeahnmmaaDoor
open Go Go.AL
set_option linter.unusedVariables false
set_option linter.unusedSimpArgs false
set_option maxHeartbeats 4000000
theorem known5  : Does Tryd.prog 26 [] noHeap (.d (boo true)) := by
  refine Does_of T_ok mixed (N := 114) Tryd.func26 rfl rfl rfl (by rfl) fun F n Z hE hF J => ?_
  have q0 := newOk k5S [k5C] k5_s k5_all; rw [k5_n] at q0
  have q1 := addOk [k5S, k5S1] [k5C] k5C2 k5_ok1; rw [k5_e] at q1; rw [k5_as] at q1; rw [k5_ac] at q1
  have q2 := moveD [k5S, k5S1, k5S2] [k5C, k5C2] k5E 0 2 k5_ok2; rw [k5_m] at q2
  have q3 := backD [k5S, k5S1, k5S2] [k5C, k5C2] kA kY 0 2 k5_ok2; rw [k5_b] at q3
  have q4 := backD [k5S, k5S1, k5S2] [k5C, k5C2] kA kZ 0 2 k5_ok2; rw [k5_b2] at q4
  have q5 := moveD [k5S, k5S1, k5S2] [k5C, k5C2] zeroEv 0 9 k5_ok2; rw [k5_m2] at q5
  have q6 := atD [k5S, k5S1, k5S2] [k5C, k5C2] 1 k5S1 rfl rfl
  refine CW_seq ?_
  refine CW_region ?_
  refine OW_run' hE.ok 1 rfl ?_
  refine OW_end rfl ?_
  refine CW_seq ?_
  refine CW_region ?_
  refine OW_build' hE rfl rfl rfl rfl rfl ?_
  refine OW_lits' hE rfl rfl rfl rfl rfl rfl rfl rfl rfl rfl rfl rfl ?_
  refine OW_build' hE rfl rfl rfl rfl rfl ?_
  refine OW_lits' hE rfl rfl rfl rfl rfl rfl rfl rfl rfl rfl rfl rfl ?_
  refine OW_build' hE rfl rfl rfl rfl rfl ?_
  refine OW_alloc' hE 1 rfl rfl rfl rfl rfl rfl rfl ?_
  refine OW_store' hE rfl rfl rfl rfl rfl rfl rfl rfl rfl rfl rfl rfl ?_
  refine OW_end rfl ?_
  refine CW_seq ?_
  refine CW_region ?_
  refine OW_run' hE.ok 1 rfl ?_
  refine OW_build' hE rfl rfl rfl rfl rfl ?_
  refine OW_lits' hE rfl rfl rfl rfl rfl rfl rfl rfl rfl rfl rfl rfl ?_
  refine OW_callM' hE (tr []) q0 rfl rfl rfl rfl rfl trivial rfl rfl ?_
  refine OW_run' hE.ok 5 rfl ?_
  refine OW_end rfl ?_
  refine CW_seq ?_
  refine CW_seq ?_
  refine CW.le (show LE _ _ ⟨J, (sset (sset noSlots 2 (.ptr 40 0)) 3 (.d (errC 74 0))), (hset (hset (hset noHeap 40 (some (.box 102 [.row 50, .row 51]))) 50 (some (.row 24 1 ([k5S, k5S1].map encS1)))) 51 (some (.row 43 7 ([k5C].map encC))))⟩ from LE_sh (slh_set (v := .d (errC 74 0)) (slh_set (v := .ptr 40 0) (slh_no _ _) (by rfl) rfl) (by rfl) rfl) (hlh_set (hlh_set (hlh_set (hlh_no _ _) rfl rfl) rfl rfl) rfl rfl)) ?_
  refine CW_region ?_
  refine OW_run' hE.ok 1 rfl ?_
  refine OW_loc' hE (loc_errNe hE rfl rfl (EN := 74) (z := 0) rfl) rfl rfl rfl ?_
  refine OW_run' hE.ok 2 rfl ?_
  refine OW_loc' hE (loc_ptrNil hE rfl rfl (k := 40) (off := 0) rfl) rfl rfl rfl ?_
  refine OW_run' hE.ok 1 rfl ?_
  refine OW_end rfl ?_
  refine CW_false rfl ?_
  refine CW_skip ?_
  refine CW_seq ?_
  refine CW_region ?_
  refine OW_run' hE.ok 1 rfl ?_
  refine OW_build' hE rfl rfl rfl rfl rfl ?_
  refine OW_build' hE rfl rfl rfl rfl rfl ?_
  refine OW_callM' hE (tr []) q1 rfl rfl rfl rfl rfl ⟨rfl, rfl, rfl, trivial⟩ rfl rfl ?_
  refine OW_run' hE.ok 1 rfl ?_
  refine OW_end rfl ?_
  refine CW_seq ?_
  refine CW.le (show LE _ _ ⟨J, (sset (sset (sset noSlots 2 (.ptr 40 0)) 3 (.d (errC 74 0))) 4 (.d (errC 74 0))), (hset (hset (hset noHeap 40 (some (.box 102 [.row 50, .row 51]))) 50 (some (.row 24 1 ([k5S, k5S1, k5S2].map encS1)))) 51 (some (.row 43 7 ([k5C, k5C2].map encC))))⟩ from LE_sh (slh_set (v := .d (errC 74 0)) (slh_set (v := .d (errC 74 0)) (slh_set (v := .ptr 40 0) (slh_no _ _) (by rfl) rfl) (by rfl) rfl) (by rfl) rfl) (hlh_set (hlh_set (hlh_set (hlh_no _ _) rfl rfl) rfl rfl) rfl rfl)) ?_
  refine CW.le (LE_freeze 50 24 rfl (by simp <;> omega)) ?_
  refine CW.le (LE_freeze 51 88 rfl (by simp <;> omega)) ?_
  refine CW.le (LE_freezeBox 40 (ds := encCh [k5S, k5S1, k5S2] [k5C, k5C2]) rfl rfl) ?_
  refine CW.le (show LE _ _ ⟨J, (sset (sset (sset noSlots 2 (.d (.iptr (encCh [k5S, k5S1, k5S2] [k5C, k5C2])))) 3 (.d (errC 74 0))) 4 (.d (errC 74 0))), noHeap⟩ from LE_sh (slh_set (v := .d (errC 74 0)) (slh_set (v := .d (errC 74 0)) (slh_set (v := .d (.iptr (encCh [k5S, k5S1, k5S2] [k5C, k5C2]))) (slh_no _ _) (by rfl) rfl) (by rfl) rfl) (by rfl) rfl) (hlh_no _ _)) ?_
  refine CW_region ?_
  refine OW_run' hE.ok 1 rfl ?_
  refine OW_build' hE rfl rfl rfl rfl rfl ?_
  refine OW_lits' hE rfl rfl rfl rfl rfl rfl rfl rfl rfl rfl rfl rfl ?_
  refine OW_build' hE rfl rfl rfl rfl rfl ?_
  refine OW_call' hE (q2) rfl rfl rfl rfl rfl rfl rfl ?_
  refine OW_run' hE.ok 3 rfl ?_
  refine OW_alloc' hE 2 rfl rfl rfl rfl rfl rfl rfl ?_
  refine OW_store' hE rfl rfl rfl rfl rfl rfl rfl rfl rfl rfl rfl rfl ?_
  refine OW_run' hE.ok 1 rfl ?_
  refine OW_end rfl ?_
  refine CW_seq ?_
  refine CW_region ?_
  refine OW_run' hE.ok 1 rfl ?_
  refine OW_call' hE (q3) rfl rfl rfl rfl rfl rfl rfl ?_
  refine OW_run' hE.ok 5 rfl ?_
  refine OW_end rfl ?_
  refine CW_seq ?_
  refine CW_region ?_
  refine OW_run' hE.ok 1 rfl ?_
  refine OW_call' hE (q4) rfl rfl rfl rfl rfl rfl rfl ?_
  refine OW_run' hE.ok 5 rfl ?_
  refine OW_end rfl ?_
  refine CW_seq ?_
  refine CW_region ?_
  refine OW_run' hE.ok 1 rfl ?_
  refine OW_build' hE rfl rfl rfl rfl rfl ?_
  refine OW.le (LE_slot 57 (argE zeroEv) (AVle.agg (.cons (.refl _) (.cons (.refl _) (.cons (.nilSl 3 32) .nil))))) ?_
  refine OW_call' hE (q5) rfl rfl rfl rfl rfl rfl rfl ?_
  refine OW_run' hE.ok 3 rfl ?_
  refine OW_alloc' hE 3 rfl rfl rfl rfl rfl rfl rfl ?_
  refine OW_store' hE rfl rfl rfl rfl rfl rfl rfl rfl rfl rfl rfl rfl ?_
  refine OW_run' hE.ok 1 rfl ?_
  refine OW_end rfl ?_
  refine CW_seq ?_
  refine CW_region ?_
  refine OW_run' hE.ok 1 rfl ?_
  refine OW_call' hE (q6) rfl rfl rfl rfl rfl rfl rfl ?_
  refine OW_run' hE.ok 3 rfl ?_
  refine OW_alloc' hE 4 rfl rfl rfl rfl rfl rfl rfl ?_
  refine OW_store' hE rfl rfl rfl rfl rfl rfl rfl rfl rfl rfl rfl rfl ?_
  refine OW_run' hE.ok 1 rfl ?_
  refine OW_end rfl ?_
  refine CW_seq ?_
  refine CW_region ?_
  refine OW_run' hE.ok 1 rfl ?_
  refine OW_loc' hE (loc_errEq hE rfl rfl (EN := 74) (z := 0) rfl) rfl rfl rfl ?_
  refine OW_run' hE.ok 2 rfl ?_
  refine OW_call' hE (nowD [k5S, k5S1, k5S2] [k5C, k5C2]) rfl rfl rfl rfl rfl rfl rfl ?_
  refine OW_run' hE.ok 4 rfl ?_
  refine OW_loc' hE (loc_errEq hE rfl rfl (EN := 74) (z := 0) rfl) rfl rfl rfl ?_
  refine OW_run' hE.ok 13 rfl ?_
  refine OW_as' 88 (.d (boo true)) (congrArg (fun b => AV.d (boo b)) (same_refl kX)) ?_
  refine OW_run' hE.ok 1 rfl ?_
  refine OW_run' hE.ok 7 rfl ?_
  refine OW_call' hE (errIs 20 20) rfl rfl rfl rfl rfl rfl rfl ?_
  refine OW_run' hE.ok 12 rfl ?_
  refine OW_call' hE (changesD [k5S, k5S1, k5S2] [k5C, k5C2]) rfl rfl rfl rfl rfl rfl rfl ?_
  refine OW_run' hE.ok 4 rfl ?_
  refine OW_end rfl ?_
  refine CW_ret ?_
  refine ⟨.inr rfl, rfl, ⟨[.d (boo true)], rfl, rfl, ?_⟩, rfl⟩
  exact AVle.refl _
end Go.Proofs.YtchpllgeahnmmaaDoor
