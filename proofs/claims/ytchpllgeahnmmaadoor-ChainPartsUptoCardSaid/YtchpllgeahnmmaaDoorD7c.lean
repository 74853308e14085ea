/- Parts of an abstract logic over the kit's walks, and walks in it: D7c. -/
import Derived.Test.YtchpllgeahnmmaaDoorD7a
import Derived.Test.YtchpllgeahnmmaaDoorCp
namespace Go.Proofs.YtchpllgeahnmmaaDoor
open Go Go.AL
set_option linter.unusedVariables false
set_option linter.unusedSimpArgs false
set_option maxHeartbeats 4000000
theorem cloneT (l : List Ty) : Does Tryd.prog 82 [.d (.sl 2 40 (l.map encT))] (oneRow 72 2 (l.map encT)) (.row 0) := by
  refine Does_ofRow T_ok mixed (N := 8) Tryd.func82 rfl rfl rfl (by rfl) fun F n Z hE hF J => ?_
  refine CW_know (know_sl (d := 0) rfl) fun hlen => ?_
  rw [List.length_map] at hlen
  refine CW_seq ?_
  refine CW_region ?_
  refine OW_run' hE.ok 1 rfl ?_
  refine OW_end rfl ?_
  refine CW_seq ?_
  refine CW_seq ?_
  refine CW_region ?_
  refine OW_run' hE.ok 1 rfl ?_
  refine OW_eqNil' hE rfl rfl rfl rfl rfl rfl rfl rfl (fun b hb => ?_)
  refine OW_end rfl ?_
  refine CW_cond _ rfl (fun h1 => ?_) (fun h1 => ?_)
  · skip
    refine CW_seq ?_
    refine CW_region ?_
    refine OW_run' hE.ok 1 rfl ?_
    refine OW.le (LE_nilSlot 2 7 72 2 rfl rfl) ?_
    refine OW_end rfl ?_
    refine CW_ret ⟨.inr rfl, rfl, 7, rfl, ?_⟩
    rw [hb h1]
    rfl
  · skip
    refine CW_skip ?_
    refine CW_seq ?_
    refine CW_region ?_
    refine OW_litsOwn' hE 7 rfl rfl rfl rfl rfl rfl rfl rfl rfl rfl rfl rfl ?_
    refine OW_run' hE.ok 1 rfl ?_
    refine OW_append' hE (key := 7) rfl rfl rfl rfl rfl rfl rfl rfl (.inl rfl) (by simp; omega) (by simp; omega) rfl ?_
    refine OW_run' hE.ok 1 rfl ?_
    refine OW_end rfl ?_
    exact CW_ret ⟨.inr rfl, rfl, 7, rfl, rfl⟩

theorem cloneF (l : List Fld) : Does Tryd.prog 84 [.d (.sl 2 24 (l.map encF))] (oneRow 69 2 (l.map encF)) (.row 0) := by
  refine Does_ofRow T_ok mixed (N := 8) Tryd.func84 rfl rfl rfl (by rfl) fun F n Z hE hF J => ?_
  refine CW_know (know_sl (d := 0) rfl) fun hlen => ?_
  rw [List.length_map] at hlen
  refine CW_seq ?_
  refine CW_region ?_
  refine OW_run' hE.ok 1 rfl ?_
  refine OW_end rfl ?_
  refine CW_seq ?_
  refine CW_seq ?_
  refine CW_region ?_
  refine OW_run' hE.ok 1 rfl ?_
  refine OW_eqNil' hE rfl rfl rfl rfl rfl rfl rfl rfl (fun b hb => ?_)
  refine OW_end rfl ?_
  refine CW_cond _ rfl (fun h1 => ?_) (fun h1 => ?_)
  · skip
    refine CW_seq ?_
    refine CW_region ?_
    refine OW_run' hE.ok 1 rfl ?_
    refine OW.le (LE_nilSlot 2 7 69 2 rfl rfl) ?_
    refine OW_end rfl ?_
    refine CW_ret ⟨.inr rfl, rfl, 7, rfl, ?_⟩
    rw [hb h1]
    rfl
  · skip
    refine CW_skip ?_
    refine CW_seq ?_
    refine CW_region ?_
    refine OW_litsOwn' hE 7 rfl rfl rfl rfl rfl rfl rfl rfl rfl rfl rfl rfl ?_
    refine OW_run' hE.ok 1 rfl ?_
    refine OW_append' hE (key := 7) rfl rfl rfl rfl rfl rfl rfl rfl (.inl rfl) (by simp; omega) (by simp; omega) rfl ?_
    refine OW_run' hE.ok 1 rfl ?_
    refine OW_end rfl ?_
    exact CW_ret ⟨.inr rfl, rfl, 7, rfl, rfl⟩

theorem cloneFd (l : List Fld) : Does Tryd.prog 84 [.d (.sl 2 24 (l.map encF))] noHeap (.d (.sl 2 24 (l.map encF))) := by
  refine Does_of T_ok mixed (N := 8) Tryd.func84 rfl rfl rfl (by rfl) fun F n Z hE hF J => ?_
  refine CW_know (know_sl (d := 0) rfl) fun hlen => ?_
  rw [List.length_map] at hlen
  refine CW_seq ?_
  refine CW_region ?_
  refine OW_run' hE.ok 1 rfl ?_
  refine OW_end rfl ?_
  refine CW_seq ?_
  refine CW_seq ?_
  refine CW_region ?_
  refine OW_run' hE.ok 1 rfl ?_
  refine OW_eqNil' hE rfl rfl rfl rfl rfl rfl rfl rfl (fun b hb => ?_)
  refine OW_end rfl ?_
  refine CW_cond _ rfl (fun h1 => ?_) (fun h1 => ?_)
  · skip
    refine CW_seq ?_
    refine CW_region ?_
    refine OW_run' hE.ok 1 rfl ?_
    refine OW_end rfl ?_
    refine CW_ret ⟨.inr rfl, rfl, ⟨_, rfl, rfl, ?_⟩, rfl⟩
    rw [hb h1]
    exact AVle.nilSl 2 24
  · skip
    refine CW_skip ?_
    refine CW_seq ?_
    refine CW_region ?_
    refine OW_litsOwn' hE 7 rfl rfl rfl rfl rfl rfl rfl rfl rfl rfl rfl rfl ?_
    refine OW_run' hE.ok 1 rfl ?_
    refine OW_append' hE (key := 7) rfl rfl rfl rfl rfl rfl rfl rfl (.inl rfl) (by simp; omega) (by simp; omega) rfl ?_
    refine OW_run' hE.ok 1 rfl ?_
    refine OW_end rfl ?_
    refine CW.le (LE_freeze 7 24 rfl (by simp; omega)) ?_
    exact CW_ret ⟨.inr rfl, rfl, ⟨_, rfl, rfl, AVle.refl _⟩, rfl⟩

theorem see_at {g n cap sz : Nat} {vs : List Value} {i : Nat} {w : World} (h : SeeRow (.slice (some ⟨g, 0, none⟩) n cap) sz vs i w) {j : Nat} {u : Value} (hj : i * sz ≤ j) (hu : vs[j]? = some u) : w.cell? ⟨g, j, none⟩ = some u := by
  obtain ⟨g', n', cap', e, hc⟩ := h j u hj hu
  cases e
  exact hc
theorem allTS1 (xs : List Ty) (v : Value) (vs : List Value) (hv : Handle v xs.length) : IterS Tryd.prog 96 [] [.d (.iptr [.lit v])] (ysI encT xs) (SeeRow v 2 vs) ((xs.map encT).flatten.map .d) vs := by
  refine IterS_of T_ok mixed (N := 18) Tryd.func96 rfl rfl rfl (by rfl) 90 fun F n Z hE hF l C X hC hX hy hsee => ?_
  obtain ⟨hn, a0, cap, rfl, ha⟩ := hv
  refine CW.le (show LE _ _ ⟨C 0, argSlots ([] ++ .d (.fn (.yield l) [] []) :: [.d (.iptr [.lit (.slice a0 xs.length cap)])]) 0, (hset noHeap 90 (some (.ghost ((xs.map encT).flatten.map .d) vs)))⟩ from LE.refl _ _) ?_
  refine CW_seq ?_
  refine CW_region ?_
  refine OW_run' hE.ok 3 rfl ?_
  refine OW_end rfl ?_
  refine CW_block ?_
  refine CW_loop (σ := {i : Nat // i ≤ xs.length}) (fun i => ⟨C i.1, (sset (sset (sset (sset (sset noSlots 0 (.d (.fn (.yield l) [] []))) 1 (.d (.iptr [.lit (.slice a0 xs.length cap)]))) 5 (.d (.lit (.slice a0 xs.length cap)))) 6 (.d (int ((xs.length : Nat) : Int)))) 7 (.d (int ((i.1 : Nat) : Int)))), (hset noHeap 90 (some (.ghost ((xs.map encT).flatten.map .d) vs)))⟩) (fun i => xs.length - i.1) ⟨0, Nat.zero_le _⟩ (LE_sh (slh_set (slh_set (slh_set (slh_set (slh_set (slh_no _ _) rfl rfl) rfl rfl) rfl rfl) rfl rfl) rfl rfl) (hlh_set (hlh_no _ _) rfl (inHs_dd _ _))) fun ⟨i, hi⟩ => ?_
  refine CW_seq ?_
  refine CW_region ?_
  refine OW_run' hE.ok 1 rfl ?_
  refine OW_end rfl ?_
  refine CW_seq ?_
  refine CW_cond _ rfl (fun h1 => ?_) (fun h1 => ?_)
  · skip
    have hlt : i < xs.length := by have := h1; simp at this; omega
    obtain ⟨a, hax⟩ : ∃ a, xs[i]? = some a := ⟨_, List.getElem?_eq_getElem hlt⟩
    obtain ⟨g, rfl⟩ := ha (by omega)
    refine CW_skip ?_
    refine CW_seq ?_
    refine CW_block ?_
    refine CW_seq ?_
    refine CW_region ?_
    refine OW_run' hE.ok 1 rfl ?_
    refine OW_loc' hE (loc_idxLit hE rfl rfl rfl rfl rfl hlt) rfl rfl rfl ?_
    refine OW_loc' hE (loc_loadSee hE rfl rfl rfl (G := 90) rfl (fun K Y Z w hw j u hj hu => see_at (hsee i K Y Z w hw) hj hu) (by exact ofCells_enc hax)) rfl rfl rfl ?_
    refine OW_alloc' hE 1 rfl rfl rfl rfl rfl rfl rfl ?_
    refine OW_run' hE.ok 1 rfl ?_
    refine OW_store' hE rfl rfl rfl rfl rfl rfl rfl rfl rfl rfl rfl rfl ?_
    refine OW_end rfl ?_
    refine CW_seq ?_
    refine CW_region ?_
    refine OW_run' hE.ok 3 rfl ?_
    refine OW_yield' hE hy hC hX (Wrap.id _) (i) rfl rfl rfl rfl rfl rfl (ysI_get hax) rfl rfl rfl ?_ ?_
    · skip
      refine OW_run' hE.ok 1 rfl ?_
      refine OW_end rfl ?_
      refine CW_false rfl ?_
      refine CW_skip ?_
      refine CW_region ?_
      refine OW_run' hE.ok 2 rfl ?_
      refine OW_end rfl ?_
      exact ⟨⟨i + 1, hlt⟩, LE_sh (slh_set (slh_set (slh_set (slh_set (slh_set (slh_no _ _) rfl rfl) rfl rfl) rfl rfl) rfl rfl) (by show AV.d (.lit (.int .i64 (IntKind.i64.wrap ((i : Int) + 1)))) = _; rw [wrap_succ (by omega)]; rfl) rfl) (hlh_set (hlh_no _ _) rfl (inHs_dd _ _)), by show xs.length - (i + 1) < xs.length - i; omega⟩
    · skip
      refine OW_run' hE.ok 1 rfl ?_
      refine OW_end rfl ?_
      refine CW_true rfl ?_
      exact CW_ret ⟨.inr rfl, .inr rfl, _, rfl⟩
  · skip
    have hge : ¬ i < xs.length := by have := h1; simp at this; omega
    refine CW_exit ?_
    have hN : i = (ysI encT xs).length := by rw [ysI_length]; omega
    show RetI _ _ _ _ .normal _
    exact ⟨.inl rfl, .inl (by show C i = _; rw [← hN]), _, rfl⟩

theorem allTS (v : Value) : Does Tryd.prog 83 [.d (.lit v)] noHeap (.d (.fn (.func 96) [] [.iptr [.lit v]])) := by
  refine Does_of T_ok mixed (N := 4) Tryd.func83 rfl rfl rfl (by rfl) fun F n Z hE hF J => ?_
  refine CW_seq ?_
  refine CW_region ?_
  refine OW_run' hE.ok 2 rfl ?_
  refine OW_end rfl ?_
  refine CW_seq ?_
  refine CW_region ?_
  refine OW_run' hE.ok 2 rfl ?_
  refine OW_end rfl ?_
  refine CW_ret ?_
  refine ⟨.inr rfl, rfl, ⟨_, rfl, rfl, ?_⟩, rfl⟩
  exact AVle.refl _

theorem copiedOk (s : List Ty) (q : Nat) : DoesM Tryd.prog 56 [] [argS s] (.agg [.row 50]) (copL 72 69 s q) [] := by
  refine DoesM_of T_ok mixed (N := 24) Tryd.func56 rfl rfl rfl (by rfl) rfl rfl (copL_closed _ _ _ _) rfl (copL_in _ _ _ _) rfl fun F n Z hE hF J V => ?_
  refine CW_seq ?_
  refine CW_region ?_
  refine OW_run' hE.ok 1 rfl ?_
  refine OW_alloc' hE 1 rfl rfl rfl rfl rfl rfl rfl ?_
  refine OW_end rfl ?_
  refine CW_seq ?_
  refine CW_region ?_
  refine OW_run' hE.ok 2 rfl ?_
  refine OW_callRow' hE 50 (cloneT s) rfl rfl rfl rfl rfl rfl rfl ?_
  refine OW_build' hE rfl rfl rfl rfl rfl ?_
  refine OW_alloc' hE 2 rfl rfl rfl rfl rfl rfl rfl ?_
  refine OW_store' hE rfl rfl rfl rfl rfl rfl rfl rfl rfl rfl rfl rfl ?_
  refine OW_end rfl ?_
  refine CW_seq ?_
  refine CW_seq ?_
  refine CW.le (LE_rowA 50 (n := s.length) (cs := (s.map encT).flatten.map .d) rfl (by simp) rfl) ?_
  refine CW_nameRow 50 60 rfl rfl (names_ok s) fun v vs hv hvl hvo hvi => ?_
  obtain ⟨fl, hfl, rfl⟩ := ilv_of hvi hvl
  rw [ccC_zero (q := q) (j := 0) hfl]
  refine CW_region ?_
  refine OW_run' hE.ok 2 rfl ?_
  refine OW.le (LE_slotLit 11 (k := 50) (G := 60) rfl rfl hv.ok) ?_
  refine OW_call' hE (allTS v) rfl rfl rfl rfl rfl rfl rfl ?_
  refine OW_end rfl ?_
  refine CW_block ?_
  refine CW.le (show LE _ _ ⟨J, (sset (sset (sset noSlots 2 (.ptr 1 0)) 3 (.ptr 2 0)) 12 (.d (.fn (.func 96) [] [.iptr [.lit v]]))), (hC 24 72 69 s fl v V q (0))⟩ from LE_sh (slh_set (v := .d (.fn (.func 96) [] [.iptr [.lit v]])) (slh_set (v := .ptr 2 0) (slh_set (v := .ptr 1 0) (slh_no _ _) (by rfl) rfl) (by rfl) rfl) (by rfl) rfl) (hC_hlh rfl rfl rfl rfl (o70_no (Nat.zero_le _)).symm rfl (Nat.zero_le _) rfl (.inl (Nat.zero_le _)))) ?_
  refine CW_rangeHS hE hF (allTS1 s v _ hv) rfl rfl rfl (ysI_kf encT s) rfl 9 (G2 := 60) rfl (kfs_dd _) (fun i => (hC 24 72 69 s fl v V q (i))) (fun i => i ≤ s.length) rfl (fun _ => rfl) (Nat.zero_le _) (fun F' n' Z' Br Bb hE hB vs i args hargs hp => ?_) (fun vs i hp Z K J' ι w mm => see_row mm (k := 50) (G := 60) (cs' := ccC q i 0 s fl) rfl rfl (fun j u hj hu => ccC_see j u hfl (by omega) hu)) (fun hp vs => ?_)
  · skip
    obtain ⟨t, ht, rfl⟩ := ysI_of hargs
    have hlt := (List.getElem?_eq_some_iff.1 ht).1
    by_cases hiq : i = q
    · skip
      subst hiq
      refine CW_seq ?_
      refine CW_region ?_
      refine OW_run' hE.ok 1 rfl ?_
      refine OW_end rfl ?_
      refine CW_region ?_
      refine OW_alloc' hE 3 rfl rfl rfl rfl rfl rfl rfl ?_
      refine OW_store' hE rfl rfl rfl rfl rfl rfl rfl rfl rfl rfl rfl rfl ?_
      refine OW_end rfl ?_
      refine ⟨rfl, rfl, ?_⟩
      refine CW_block ?_
      refine CW.le (show LE _ _ ⟨Bb J, (sset (sset (sset noSlots 3 (.ptr 2 0)) 4 (.d (int ((i : Nat) : Int)))) 5 (.ptr 3 0)), hset (hset (hCn 24 72 s fl v V i i) 9 (some (.ghost _ vs))) 3 (some (.box 72 ((encT t).map .d)))⟩ from LE_sh (slh_set (v := .ptr 3 0) (slh_set (v := .d (int ((i : Nat) : Int))) (slh_set (v := .ptr 2 0) (slh_no _ _) (by rfl) rfl) (by rfl) rfl) (by rfl) rfl) (hlh_set (hlh_set (hCn_hlh rfl rfl rfl rfl rfl rfl (Nat.le_refl _)) rfl rfl) rfl rfl)) ?_
      refine CW_drawnG hE 6 [(5, 70, .row 69 2 (t.fields.map encF))] (by decide +kernel) rfl ?_
      refine HG_run hE 5 rfl rfl rfl rfl ?_
      refine HG_own hE (cloneF t.fields) rfl rfl rfl rfl rfl rfl rfl rfl ?_
      refine HG_end ?_
      refine OW_loc' hE (loc_idxRowA hE rfl rfl rfl rfl rfl (j := i) rfl hlt) rfl rfl rfl ?_
      refine OW_run' hE.ok 1 rfl ?_
      refine OW_storeRowA' hE rfl rfl rfl rfl rfl (q := i * 2 + 1) rfl rfl rfl rfl rfl rfl (by rw [ccC_len hfl]; show i * 2 + 1 + 1 ≤ _; omega) (ccC_put0 hfl ht (by rw [if_pos rfl]; rfl)) ?_
      refine OW_end rfl ?_
      exact ⟨⟨Bb J, noSlots, hset (hC 24 72 69 s fl v V i (i + 1)) 9 (some (.ghost _ vs))⟩, LE_sh (slh_no _ _) (hlh_set (hC_hlh rfl rfl rfl rfl ((o70_at ht).symm) rfl hlt rfl (hC9_70 hlt)) rfl rfl), J, rfl, rfl, rfl, hlt⟩
    · skip
      -- i ≠ q
      refine CW_seq ?_
      refine CW_region ?_
      refine OW_run' hE.ok 1 rfl ?_
      refine OW_end rfl ?_
      refine CW_region ?_
      refine OW_alloc' hE 3 rfl rfl rfl rfl rfl rfl rfl ?_
      refine OW_store' hE rfl rfl rfl rfl rfl rfl rfl rfl rfl rfl rfl rfl ?_
      refine OW_end rfl ?_
      refine ⟨rfl, rfl, ?_⟩
      refine CW_block ?_
      refine CW_drawn' hE 6 (by decide +kernel) ?_
      refine HW_run hE 5 rfl rfl ?_
      refine HW_call hE (cloneFd t.fields) rfl rfl rfl rfl rfl rfl rfl rfl ?_
      refine HW_end ?_
      refine OW_loc' hE (loc_idxRowA hE rfl rfl rfl rfl rfl (j := i) rfl hlt) rfl rfl rfl ?_
      refine OW_run' hE.ok 1 rfl ?_
      refine OW_storeRowA' hE rfl rfl rfl rfl rfl (q := i * 2 + 1) rfl rfl rfl rfl rfl rfl (by rw [ccC_len hfl]; show i * 2 + 1 + 1 ≤ _; omega) (ccC_put0 hfl ht (by rw [if_neg hiq]; rfl)) ?_
      refine OW_end rfl ?_
      exact ⟨⟨Bb J, noSlots, hset (hC 24 72 69 s fl v V q (i + 1)) 9 (some (.ghost _ vs))⟩, LE_sh (slh_no _ _) (hlh_set (hC_hlh rfl rfl rfl rfl ((o70_ne hiq).symm) rfl hlt rfl (hC9_70 hlt)) rfl rfl), J, rfl, rfl, rfl, hlt⟩
  · skip
    refine CW_seq ?_
    refine CW_region ?_
    refine OW_run' hE.ok 1 rfl ?_
    refine OW_store' hE rfl rfl rfl rfl rfl rfl rfl rfl rfl rfl rfl rfl ?_
    refine OW_end rfl ?_
    exact CW_ret ⟨.inr rfl, rfl, ⟨_, rfl, AVle.refl _⟩, copL_all (i := (ysI encT s).length) (ysI_length encT s) hfl rfl rfl, rfl⟩
end Go.Proofs.YtchpllgeahnmmaaDoor
