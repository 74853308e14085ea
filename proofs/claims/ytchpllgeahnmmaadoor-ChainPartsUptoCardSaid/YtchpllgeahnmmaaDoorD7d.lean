/- Parts of an abstract logic over the kit's walks, and walks in it: D7d. -/
import Derived.Test.YtchpllgeahnmmaaDoorD7a
import Derived.Test.YtchpllgeahnmmaaDoorEz
import Derived.Test.YtchpllgeahnmmaaDoorCp
namespace Go.Proofs.YtchpllgeahnmmaaDoor
open Go Go.AL
set_option linter.unusedVariables false
set_option linter.unusedSimpArgs false
set_option maxHeartbeats 4000000
theorem delF (l : List Fld) (k : Nat) (hk : k < l.length) (hl : l.length ≤ 140737488355328) : DoesM Tryd.prog 85 [(7, .row 69 2 (l.map encF))] [.row 7, .d (int ((k : Nat) : Int)), .d (int ((k + 1 : Nat) : Int))] (.row 7) [(7, .row 69 2 ((l.eraseIdx k).map encF))] [] := by
  refine DoesM_of T_ok mixed (N := 33) Tryd.func85 rfl rfl rfl (by rfl) rfl rfl rfl rfl rfl rfl fun F n Z hE hF J V => ?_
  obtain ⟨m, hm⟩ : ∃ m, l.length = m + 1 := ⟨l.length - 1, by omega⟩
  obtain ⟨xs, hxs⟩ : ∃ xs, l.map encF = xs := ⟨_, rfl⟩
  have hxl : xs.length = m + 1 := by rw [← hxs, List.length_map, hm]
  have hfin : (delX xs k (k + 1)).take m = (l.eraseIdx k).map encF := by rw [← hxs]; exact del_take hm hk
  rw [hxs]
  refine CW_seq ?_
  refine CW_region ?_
  refine OW_run' hE.ok 1 rfl ?_
  refine OW_end rfl ?_
  refine CW_seq ?_
  refine CW_region ?_
  refine OW_run' hE.ok 4 rfl ?_
  refine OW_run' hE.ok 1 rfl ?_
  refine OW_loc' hE (loc_checkRow hE rfl rfl rfl rfl rfl rfl rfl rfl (Nat.le_succ k) (by omega)) rfl rfl rfl ?_
  refine OW_end rfl ?_
  refine CW_seq ?_
  refine CW_seq ?_
  refine CW_region ?_
  refine OW_run' hE.ok 3 rfl ?_
  refine OW_as' 16 (.d (boo false)) (by refine congrArg (fun b => AV.d (boo b)) ?_; show (((k : Nat) : Int) == ((k + 1 : Nat) : Int)) = false; rw [beq_eq_false_iff_ne]; omega) ?_
  refine OW_end rfl ?_
  refine CW_false rfl ?_
  refine CW_skip ?_
  refine CW_seq ?_
  refine CW_region ?_
  refine OW_run' hE.ok 3 rfl ?_
  refine OW_as' 7 (.d (int ((m + 1 : Nat) : Int))) (by show AV.d (.lit (.int .i64 (xs.length : Int))) = _; rw [hxl]; rfl) ?_
  refine OW_end rfl ?_
  refine CW_seq ?_
  refine CW_drawn' hE 6 (by decide +kernel) ?_
  refine HW_run hE 2 rfl rfl ?_
  refine HW_loc hE (loc_headRow hE rfl rfl rfl rfl rfl rfl (by omega) (by omega)) rfl rfl rfl rfl ?_
  refine HW_run hE 2 rfl rfl ?_
  refine HW_loc hE (loc_tailRow hE rfl rfl rfl rfl rfl rfl rfl (by omega)) rfl rfl rfl rfl ?_
  refine HW_end ?_
  refine OW_appendTail' hE rfl rfl rfl rfl rfl rfl rfl rfl (Nat.le_succ k) (by omega) (by omega) rfl ?_
  refine OW_as' 26 (.view 7 0 m) (congrArg (fun z => AV.view 7 0 z) (by omega)) ?_
  refine OW_run' hE.ok 1 rfl ?_
  refine OW_end rfl ?_
  refine CW_seq ?_
  refine CW_region ?_
  refine OW_run' hE.ok 2 rfl ?_
  refine OW_loc' hE (loc_lenView hE rfl rfl rfl (by omega)) rfl rfl rfl ?_
  refine OW_run' hE.ok 1 rfl ?_
  have hdl : (delX xs k (k + 1)).length = m + 1 := by rw [delX_len (Nat.le_succ k) (by omega), hxl]
  refine OW_loc' hE (loc_partView hE rfl rfl rfl rfl rfl rfl rfl rfl (l := m) (u := m + 1) (Nat.lt_succ_self m) (by omega)) rfl rfl rfl ?_
  refine OW_as' 31 (.view 7 (m * 2) 1) (congrArg (fun z => AV.view 7 (m * 2) z) (by omega)) ?_
  refine OW_clearView' hE (zs := [str nul, int 0]) rfl rfl rfl rfl rfl rfl rfl rfl rfl rfl (by omega) (by omega) ?_
  refine OW_end rfl ?_
  refine CW_seq ?_
  refine CW_region ?_
  refine OW_run' hE.ok 2 rfl ?_
  refine OW_end rfl ?_
  refine CW.le (LE_viewRow 6 rfl rfl (by simp; omega) (by simp; omega) (xs' := (l.eraseIdx k).map encF) (by rw [← hfin, List.append_assoc, List.take_append_of_le_length (by simp; omega), List.take_take, Nat.min_self])) ?_
  exact CW_ret ⟨.inr rfl, rfl, ⟨_, rfl, AVle.refl _⟩, ⟨rfl, trivial⟩, rfl⟩

theorem delV (l : List Vl) (k : Nat) (hk : k < l.length) (hl : l.length ≤ 140737488355328) : DoesM Tryd.prog 60 [(7, .row 31 3 (l.map encV))] [.row 7, .d (int ((k : Nat) : Int)), .d (int ((k + 1 : Nat) : Int))] (.row 7) [(7, .row 31 3 ((l.eraseIdx k).map encV))] [] := by
  refine DoesM_of T_ok mixed (N := 33) Tryd.func60 rfl rfl rfl (by rfl) rfl rfl rfl rfl rfl rfl fun F n Z hE hF J V => ?_
  obtain ⟨m, hm⟩ : ∃ m, l.length = m + 1 := ⟨l.length - 1, by omega⟩
  obtain ⟨xs, hxs⟩ : ∃ xs, l.map encV = xs := ⟨_, rfl⟩
  have hxl : xs.length = m + 1 := by rw [← hxs, List.length_map, hm]
  have hfin : (delX xs k (k + 1)).take m = (l.eraseIdx k).map encV := by rw [← hxs]; exact del_take hm hk
  rw [hxs]
  refine CW_seq ?_
  refine CW_region ?_
  refine OW_run' hE.ok 1 rfl ?_
  refine OW_end rfl ?_
  refine CW_seq ?_
  refine CW_region ?_
  refine OW_run' hE.ok 4 rfl ?_
  refine OW_run' hE.ok 1 rfl ?_
  refine OW_loc' hE (loc_checkRow hE rfl rfl rfl rfl rfl rfl rfl rfl (Nat.le_succ k) (by omega)) rfl rfl rfl ?_
  refine OW_end rfl ?_
  refine CW_seq ?_
  refine CW_seq ?_
  refine CW_region ?_
  refine OW_run' hE.ok 3 rfl ?_
  refine OW_as' 16 (.d (boo false)) (by refine congrArg (fun b => AV.d (boo b)) ?_; show (((k : Nat) : Int) == ((k + 1 : Nat) : Int)) = false; rw [beq_eq_false_iff_ne]; omega) ?_
  refine OW_end rfl ?_
  refine CW_false rfl ?_
  refine CW_skip ?_
  refine CW_seq ?_
  refine CW_region ?_
  refine OW_run' hE.ok 3 rfl ?_
  refine OW_as' 7 (.d (int ((m + 1 : Nat) : Int))) (by show AV.d (.lit (.int .i64 (xs.length : Int))) = _; rw [hxl]; rfl) ?_
  refine OW_end rfl ?_
  refine CW_seq ?_
  refine CW_drawn' hE 6 (by decide +kernel) ?_
  refine HW_run hE 2 rfl rfl ?_
  refine HW_loc hE (loc_headRow hE rfl rfl rfl rfl rfl rfl (by omega) (by omega)) rfl rfl rfl rfl ?_
  refine HW_run hE 2 rfl rfl ?_
  refine HW_loc hE (loc_tailRow hE rfl rfl rfl rfl rfl rfl rfl (by omega)) rfl rfl rfl rfl ?_
  refine HW_end ?_
  refine OW_appendTail' hE rfl rfl rfl rfl rfl rfl rfl rfl (Nat.le_succ k) (by omega) (by omega) rfl ?_
  refine OW_as' 26 (.view 7 0 m) (congrArg (fun z => AV.view 7 0 z) (by omega)) ?_
  refine OW_run' hE.ok 1 rfl ?_
  refine OW_end rfl ?_
  refine CW_seq ?_
  refine CW_region ?_
  refine OW_run' hE.ok 2 rfl ?_
  refine OW_loc' hE (loc_lenView hE rfl rfl rfl (by omega)) rfl rfl rfl ?_
  refine OW_run' hE.ok 1 rfl ?_
  have hdl : (delX xs k (k + 1)).length = m + 1 := by rw [delX_len (Nat.le_succ k) (by omega), hxl]
  refine OW_loc' hE (loc_partView hE rfl rfl rfl rfl rfl rfl rfl rfl (l := m) (u := m + 1) (Nat.lt_succ_self m) (by omega)) rfl rfl rfl ?_
  refine OW_as' 31 (.view 7 (m * 3) 1) (congrArg (fun z => AV.view 7 (m * 3) z) (by omega)) ?_
  refine OW_clearView' hE (zs := [int 0, int 0, str nul]) rfl rfl rfl rfl rfl rfl rfl rfl rfl rfl (by omega) (by omega) ?_
  refine OW_end rfl ?_
  refine CW_seq ?_
  refine CW_region ?_
  refine OW_run' hE.ok 2 rfl ?_
  refine OW_end rfl ?_
  refine CW.le (LE_viewRow 6 rfl rfl (by simp; omega) (by simp; omega) (xs' := (l.eraseIdx k).map encV) (by rw [← hfin, List.append_assoc, List.take_append_of_le_length (by simp; omega), List.take_take, Nat.min_self])) ?_
  exact CW_ret ⟨.inr rfl, rfl, ⟨_, rfl, AVle.refl _⟩, ⟨rfl, trivial⟩, rfl⟩
end Go.Proofs.YtchpllgeahnmmaaDoor
