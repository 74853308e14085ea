/- Parts of an abstract logic over the kit's walks, and walks in it: D7rc. -/
import Derived.Test.YtchpllgeahnmmaaDoorD7a
import Derived.Test.YtchpllgeahnmmaaDoorRcp
import Derived.Test.YtchpllgeahnmmaaDoorA62
namespace Go.Proofs.YtchpllgeahnmmaaDoor
open Go Go.AL
set_option linter.unusedVariables false
set_option linter.unusedSimpArgs false
set_option maxHeartbeats 4000000
theorem enc_twoF (t : Ty) : ∀ y ∈ t.fields.map encF, y.length = 2 := fun y hy => by
  obtain ⟨f, _, rfl⟩ := List.mem_map.1 hy
  rfl

theorem refCopiedOk (s : List Ty) (q : Nat) (hs : isSchema s = true) : DoesM Tryd.prog 58 [] [argS s] (.agg [.row 50]) (copL 72 69 s q) [] := by
  refine DoesM_of T_ok mixed (N := 32) Tryd.func58 rfl rfl rfl (by rfl) rfl rfl (copL_closed _ _ _ _) rfl (copL_in _ _ _ _) rfl fun F n Z hE hF J V => ?_
  have hsl := right_len hs
  refine CW_seq ?_
  refine CW_region ?_
  refine OW_run' hE.ok 1 rfl ?_
  refine OW_alloc' hE 1 rfl rfl rfl rfl rfl rfl rfl ?_
  refine OW_end rfl ?_
  refine CW_seq ?_
  refine CW_region ?_
  refine OW_alloc' hE 2 rfl rfl rfl rfl rfl rfl rfl ?_
  refine OW_end rfl ?_
  refine CW_seq ?_
  refine CW_seq ?_
  refine CW_region ?_
  refine OW_run' hE.ok 1 rfl ?_
  refine OW_end rfl ?_
  refine CW_block ?_
  refine CW.le (LE_nilBox 2 50 72 2 (i := 0) rfl rfl rfl) ?_
  refine CW.le (LE_rowA 50 (n := 0) (cs := []) rfl rfl rfl) ?_
  refine CW_loop (σ := {i : Nat // i ≤ s.length}) (fun i => ⟨J, (sset (sset (sset (sset noSlots 1 (.d (.iptr [encS s]))) 2 (.ptr 1 0)) 3 (.ptr 2 0)) 4 (.d (int ((i.1 : Nat) : Int)))), (hR 24 72 69 s V q (i.1))⟩) (fun i => s.length - i.1) ⟨0, Nat.zero_le _⟩ (LE_sh (slh_set (slh_set (slh_set (slh_set (slh_no _ _) rfl rfl) rfl rfl) rfl rfl) rfl rfl) (hR_hlh rfl rfl rfl (o70_no (Nat.zero_le _)).symm rfl (Nat.zero_le _) rfl (.inl (Nat.zero_le _)))) fun ⟨i, hi⟩ => ?_
  by_cases hiq : i = q
  · skip
    subst hiq
    refine CW.le (show LE _ _ ⟨J, (sset (sset (sset (sset noSlots 1 (.d (.iptr [encS s]))) 2 (.ptr 1 0)) 3 (.ptr 2 0)) 4 (.d (int ((i : Nat) : Int)))), (hRn 24 72 s V i i)⟩ from LE_sh (slh_set (v := .d (int ((i : Nat) : Int))) (slh_set (v := .ptr 2 0) (slh_set (v := .ptr 1 0) (slh_set (v := .d (.iptr [encS s])) (slh_no _ _) (by rfl) rfl) (by rfl) rfl) (by rfl) rfl) (by rfl) rfl) (hRn_hlh rfl rfl rfl rfl rfl (Nat.le_refl _))) ?_
    refine CW_seq ?_
    refine CW_seq ?_
    refine CW_region ?_
    refine OW_run' hE.ok 5 rfl ?_
    refine OW_end rfl ?_
    refine CW_cond _ rfl (fun h1 => ?_) (fun h1 => ?_)
    · skip
      have hlt : i < s.length := by have := h1; rw [List.length_map] at this; simp at this; omega
      obtain ⟨t, ht⟩ : ∃ t, s[i]? = some t := ⟨_, List.getElem?_eq_getElem hlt⟩
      have hfew := right_fields hs ht
      refine CW_skip ?_
      refine CW_seq ?_
      refine CW_block ?_
      refine CW_drawnG hE 17 [(14, 70, .row 69 2 (t.fields.map encF)), (16, 51, .rowA 72 2 1 [.d (str t.name), .row 70])] (by decide +kernel) rfl ?_
      refine HG_run hE 5 rfl rfl rfl rfl ?_
      refine HG_loc hE (fun b => loc_indexAddr hE rfl rfl rfl rfl rfl (by omega) (x := encT t) (by simp [ht])) rfl rfl rfl rfl rfl ?_
      refine HG_run hE 5 rfl rfl rfl rfl ?_
      refine HG_loc hE (fun b => loc_indexAddr hE rfl rfl rfl rfl rfl (by omega) (x := encT t) (by simp [ht])) rfl rfl rfl rfl rfl ?_
      refine HG_run hE 2 rfl rfl rfl rfl ?_
      refine HG_appendNil hE rfl rfl rfl rfl rfl rfl rfl rfl rfl rfl (by simp; omega) (by simp; omega) rfl ?_
      refine HG_loc hE (fun b => loc_build hE rfl rfl) rfl rfl rfl rfl rfl ?_
      refine HG_litsA hE rfl rfl rfl rfl rfl rfl rfl rfl rfl rfl rfl rfl rfl rfl rfl ?_
      refine HG_end ?_
      refine OW_appendA' hE (key := 50) (key2 := 51) rfl rfl rfl rfl rfl rfl rfl rfl rfl rfl rfl (by rw [finC_len]; simp; omega) rfl (by show i + 1 ≤ _; omega) (by show (i + 1) * 40 ≤ _; omega) (zs := finC i 0 (s.take (i + 1))) (by rw [finC_next ht (by rw [if_pos rfl]), finC_unk (by decide)]) rfl ?_
      refine OW_run' hE.ok 1 rfl ?_
      refine OW_store' hE rfl rfl rfl rfl rfl rfl rfl rfl rfl rfl rfl rfl ?_
      refine OW_end rfl ?_
      refine CW_region ?_
      refine OW_run' hE.ok 3 rfl ?_
      refine OW_end rfl ?_
      exact ⟨⟨i + 1, hlt⟩, LE_sh (slh_set (v := .d (int ((i + 1 : Nat) : Int))) (slh_set (v := .ptr 2 0) (slh_set (v := .ptr 1 0) (slh_set (v := .d (.iptr [encS s])) (slh_no _ _) (by rfl) rfl) (by rfl) rfl) (by rfl) rfl) (by show AV.d (.lit (.int .i64 (IntKind.i64.wrap ((i : Int) + 1)))) = _; rw [wrap_succ (by omega)]; rfl) rfl) (hR_hlh rfl rfl rfl ((o70_at ht).symm) rfl hlt rfl (hR_70 (tS := 24) (tT := 72) (tF := 69) (V := V) hlt)), by show s.length - (i + 1) < s.length - i; omega⟩
    · skip
      have hge : i = s.length := by have := h1; rw [List.length_map] at this; simp at this; omega
      refine CW_exit ?_
      show CW _ _ _ _
      refine CW_seq ?_
      refine CW_region ?_
      refine OW_run' hE.ok 1 rfl ?_
      refine OW_store' hE rfl rfl rfl rfl rfl rfl rfl rfl rfl rfl rfl rfl ?_
      refine OW_end rfl ?_
      exact CW_ret ⟨.inr rfl, rfl, ⟨_, rfl, AVle.refl _⟩, copR_all hge rfl (o70_no (Nat.le_refl _)).symm, rfl⟩
  · skip
    skip
    refine CW_seq ?_
    refine CW_seq ?_
    refine CW_region ?_
    refine OW_run' hE.ok 5 rfl ?_
    refine OW_end rfl ?_
    refine CW_cond _ rfl (fun h2 => ?_) (fun h2 => ?_)
    · skip
      have hlt : i < s.length := by have := h2; rw [List.length_map] at this; simp at this; omega
      obtain ⟨t, ht⟩ : ∃ t, s[i]? = some t := ⟨_, List.getElem?_eq_getElem hlt⟩
      have hfew := right_fields hs ht
      refine CW_skip ?_
      refine CW_seq ?_
      refine CW_block ?_
      refine CW_drawnG hE 17 [(16, 51, .rowA 72 2 1 [.d (str t.name), fldD t])] (by decide +kernel) rfl ?_
      refine HG_run hE 5 rfl rfl rfl rfl ?_
      refine HG_loc hE (fun b => loc_indexAddr hE rfl rfl rfl rfl rfl (by omega) (x := encT t) (by simp [ht])) rfl rfl rfl rfl rfl ?_
      refine HG_run hE 5 rfl rfl rfl rfl ?_
      refine HG_loc hE (fun b => loc_indexAddr hE rfl rfl rfl rfl rfl (by omega) (x := encT t) (by simp [ht])) rfl rfl rfl rfl rfl ?_
      refine HG_run hE 2 rfl rfl rfl rfl ?_
      refine HG_loc hE (fun b => loc_appendNil hE rfl rfl rfl rfl rfl rfl (by simp; omega) (by simp; omega) (enc_twoF t)) rfl rfl rfl rfl rfl ?_
      refine HG_loc hE (fun b => loc_build hE rfl rfl) rfl rfl rfl rfl rfl ?_
      refine HG_litsA hE rfl rfl rfl rfl rfl rfl rfl rfl rfl rfl rfl rfl rfl rfl rfl ?_
      refine HG_end ?_
      refine OW_appendA' hE (key := 50) (key2 := 51) rfl rfl rfl rfl rfl rfl rfl rfl rfl rfl rfl (by rw [finC_len]; simp; omega) rfl (by show i + 1 ≤ _; omega) (by show (i + 1) * 40 ≤ _; omega) (zs := finC q 0 (s.take (i + 1))) (by rw [finC_next ht (by rw [if_neg hiq]), finC_unk (by decide)]) rfl ?_
      refine OW_run' hE.ok 1 rfl ?_
      refine OW_store' hE rfl rfl rfl rfl rfl rfl rfl rfl rfl rfl rfl rfl ?_
      refine OW_end rfl ?_
      refine CW_region ?_
      refine OW_run' hE.ok 3 rfl ?_
      refine OW_end rfl ?_
      exact ⟨⟨i + 1, hlt⟩, LE_sh (slh_set (v := .d (int ((i + 1 : Nat) : Int))) (slh_set (v := .ptr 2 0) (slh_set (v := .ptr 1 0) (slh_set (v := .d (.iptr [encS s])) (slh_no _ _) (by rfl) rfl) (by rfl) rfl) (by rfl) rfl) (by show AV.d (.lit (.int .i64 (IntKind.i64.wrap ((i : Int) + 1)))) = _; rw [wrap_succ (by omega)]; rfl) rfl) (hR_hlh rfl rfl rfl ((o70_unk (k := 50)).trans (o70_ne hiq).symm) rfl hlt rfl (hR_70 (tS := 24) (tT := 72) (tF := 69) (V := V) hlt)), by show s.length - (i + 1) < s.length - i; omega⟩
    · skip
      have hge : i = s.length := by have := h2; rw [List.length_map] at this; simp at this; omega
      refine CW_exit ?_
      show CW _ _ _ _
      refine CW_seq ?_
      refine CW_region ?_
      refine OW_run' hE.ok 1 rfl ?_
      refine OW_store' hE rfl rfl rfl rfl rfl rfl rfl rfl rfl rfl rfl rfl ?_
      refine OW_end rfl ?_
      exact CW_ret ⟨.inr rfl, rfl, ⟨_, rfl, AVle.refl _⟩, copR_all hge rfl rfl, rfl⟩
end Go.Proofs.YtchpllgeahnmmaaDoor
