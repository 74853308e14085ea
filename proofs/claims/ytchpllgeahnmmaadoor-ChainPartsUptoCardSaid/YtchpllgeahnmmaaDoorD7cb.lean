/- Parts of an abstract logic over the kit's walks, and walks in it: D7cb. -/
import Derived.Test.YtchpllgeahnmmaaDoorD7c
import Derived.Test.YtchpllgeahnmmaaDoorCh
import Derived.Test.YtchpllgeahnmmaaDoorAf
namespace Go.Proofs.YtchpllgeahnmmaaDoor
open Go Go.AL
set_option linter.unusedVariables false
set_option linter.unusedSimpArgs false
set_option maxHeartbeats 4000000
theorem ccopyOk (s : List Ty) : Does Tryd.prog 64 [argS s] noHeap (argS s) := by
  refine Does_of T_ok mixed (N := 29) Tryd.func64 rfl rfl rfl (by rfl) fun F n Z hE hF J => ?_
  refine CW_seq ?_
  refine CW_region ?_
  refine OW_run' hE.ok 1 rfl ?_
  refine OW_alloc' hE 1 rfl rfl rfl rfl rfl rfl rfl ?_
  refine OW_end rfl ?_
  refine CW_seq ?_
  refine CW_region ?_
  refine OW_run' hE.ok 2 rfl ?_
  refine OW_callRow' hE 50 (cloneT s) rfl rfl rfl rfl rfl rfl rfl ?_
  refine OW_build' hE rfl rfl rfl rfl rfl ?_
  refine OW_alloc' hE 2 rfl rfl rfl rfl rfl rfl rfl ?_
  refine OW_store' hE rfl rfl rfl rfl rfl rfl rfl rfl rfl rfl rfl rfl ?_
  refine OW_end rfl ?_
  refine CW_seq ?_
  refine CW_seq ?_
  refine CW_know (know_sl (d := 6) rfl) fun hlen => ?_
  rw [List.length_map] at hlen
  refine CW_region ?_
  refine OW_run' hE.ok 4 rfl ?_
  refine OW_end rfl ?_
  refine CW_block ?_
  refine CW_loop (σ := {i : Nat // i ≤ s.length}) (fun i => ⟨J, (sset (sset (sset (sset noSlots 2 (.ptr 1 0)) 3 (.ptr 2 0)) 11 (.d (int ((s.length : Nat) : Int)))) 12 (.d (int ((i.1 : Nat) : Int)))), (hset (hset (hset noHeap 1 (some (.box 24 [.d (.lit (.slice none 0 0))]))) 2 (some (.box 24 [.row 50]))) 50 (some (.row 72 2 (s.map encT))))⟩) (fun i => s.length - i.1) ⟨0, Nat.zero_le _⟩ (LE_sh (slh_set (slh_set (slh_set (slh_set (slh_no _ _) rfl rfl) rfl rfl) (by show AV.d (.lit (.int .i64 ((s.map encT).length : Int))) = _; rw [List.length_map]; rfl) rfl) rfl rfl) (hlh_set (hlh_set (hlh_set (hlh_no _ _) rfl rfl) rfl rfl) rfl rfl)) fun ⟨i, hi⟩ => ?_
  refine CW_seq ?_
  refine CW_region ?_
  refine OW_run' hE.ok 1 rfl ?_
  refine OW_end rfl ?_
  refine CW_seq ?_
  refine CW_cond _ rfl (fun h1 => ?_) (fun h1 => ?_)
  · skip
    have hlt : i < s.length := by have := h1; simp at this; omega
    obtain ⟨t, ht⟩ : ∃ t, s[i]? = some t := ⟨_, List.getElem?_eq_getElem hlt⟩
    refine CW_skip ?_
    refine CW_seq ?_
    refine CW_block ?_
    refine CW_seq ?_
    refine CW_region ?_
    refine OW_run' hE.ok 2 rfl ?_
    refine OW_end rfl ?_
    refine CW_drawn' hE 10 (by decide +kernel) ?_
    refine HW_run hE 6 rfl rfl ?_
    refine HW_loc hE (loc_idxRow hE rfl rfl rfl rfl rfl (j := i) rfl (by rw [List.length_map]; exact hlt)) rfl rfl rfl rfl ?_
    refine HW_run hE 1 rfl rfl ?_
    refine HW_loc hE (loc_loadRow hE rfl rfl rfl (j := i) (off := 1) rfl rfl (x := encT t) (by simp [ht]) (by show 1 ≤ 2; omega) rfl) rfl rfl rfl rfl ?_
    refine HW_call hE (cloneFd t.fields) rfl rfl rfl rfl rfl rfl rfl rfl ?_
    refine HW_end ?_
    refine OW_loc' hE (loc_idxRow hE rfl rfl rfl rfl rfl (j := i) rfl (by rw [List.length_map]; exact hlt)) rfl rfl rfl ?_
    refine OW_run' hE.ok 1 rfl ?_
    refine OW_storeRow' hE rfl rfl rfl rfl rfl (j := i) (off := 1) rfl rfl rfl (x := encT t) (by simp [ht]) (y := [.sl 2 24 (t.fields.map encF)]) rfl rfl rfl (by show 1 + 1 ≤ 2; omega) (xs' := s.map encT) (by exact map_set_at ht) ?_
    refine OW_end rfl ?_
    refine CW_region ?_
    refine OW_run' hE.ok 2 rfl ?_
    refine OW_end rfl ?_
    refine ⟨⟨i + 1, by omega⟩, LE_sh (slh_set (v := .d (int ((i + 1 : Nat) : Int))) (slh_set (v := .d (int ((s.length : Nat) : Int))) (slh_set (v := .ptr 2 0) (slh_set (v := .ptr 1 0) (slh_no _ _) (by rfl) rfl) (by rfl) rfl) (by rfl) rfl) (by show AV.d (.lit (.int .i64 (IntKind.i64.wrap ((i : Int) + 1)))) = _; rw [wrap_succ (by omega)]; rfl) rfl) (hlh_set (hlh_set (hlh_set (hlh_no _ _) rfl rfl) rfl rfl) rfl rfl), by show s.length - (i + 1) < s.length - i; omega⟩
  · skip
    have hge : ¬ i < s.length := by have := h1; simp at this; omega
    refine CW_exit ?_
    show CW _ _ _ _
    refine CW_seq ?_
    refine CW.le (show LE _ _ ⟨J, (sset (sset noSlots 2 (.ptr 1 0)) 3 (.ptr 2 0)), (hset (hset (hset noHeap 1 (some (.box 24 [.d (.lit (.slice none 0 0))]))) 2 (some (.box 24 [.row 50]))) 50 (some (.row 72 2 (s.map encT))))⟩ from LE_sh (slh_set (v := .ptr 2 0) (slh_set (v := .ptr 1 0) (slh_no _ _) (by rfl) rfl) (by rfl) rfl) (hlh_set (hlh_set (hlh_set (hlh_no _ _) rfl rfl) rfl rfl) rfl rfl)) ?_
    refine CW.le (LE_freeze 50 40 rfl (by rw [List.length_map]; exact hlen.2)) ?_
    refine CW_region ?_
    refine OW_run' hE.ok 1 rfl ?_
    refine OW_store' hE rfl rfl rfl rfl rfl rfl rfl rfl rfl rfl rfl rfl ?_
    refine OW_end rfl ?_
    refine CW_ret ?_
    refine ⟨.inr rfl, rfl, ⟨_, rfl, rfl, ?_⟩, rfl⟩
    exact AVle.refl _
end Go.Proofs.YtchpllgeahnmmaaDoor
