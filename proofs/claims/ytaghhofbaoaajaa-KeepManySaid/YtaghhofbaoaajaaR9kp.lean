/- Parts of an abstract logic over the kit's walks, and walks in it: R9kp. -/
import Derived.Test.YtaghhofbaoaajaaR9nm
import Derived.Test.YtaghhofbaoaajaaR9nu
import Derived.Test.YtaghhofbaoaajaaKep
import Derived.Test.YtaghhofbaoaajaaAg
import Derived.Test.YtaghhofbaoaajaaAe
namespace Go.Proofs.Ytaghhofbaoaajaa
open Go Go.AL
set_option linter.unusedVariables false
set_option linter.unusedSimpArgs false
set_option maxHeartbeats 4000000
theorem filteredOk (l : List Kp) (g : Nat) (cap : List D) (f : Kp → Bool) (hc : ∀ k ∈ l, Does Try.prog g ([argK k] ++ cap.map .d) noHeap (.d (boo (f k)))) : Does Try.prog 26 [.d (SK l), .d (.fn (.func g) [] cap)] (oneRow 64 4 ((l.filter f).map encK)) (.row 0) := by
  refine Does_ofRow T_ok mixed (N := 23) Try.func26 rfl rfl rfl (by rfl) fun F n Z hE hF J => ?_
  refine CW_know (know_sl (d := 0) rfl) fun hlen => ?_
  rw [List.length_map] at hlen
  refine CW_seq ?_
  refine CW_region ?_
  refine OW_run' hE.ok 1 rfl ?_
  refine OW_end rfl ?_
  refine CW_seq ?_
  refine CW_region ?_
  refine OW_run' hE.ok 1 rfl ?_
  refine OW.le (LE_nilSlot 5 50 64 4 rfl rfl) ?_
  refine OW_end rfl ?_
  refine CW_seq ?_
  refine CW_seq ?_
  refine CW_region ?_
  refine OW_run' hE.ok 3 rfl ?_
  refine OW_end rfl ?_
  refine CW_block ?_
  refine CW_loop (σ := {i : Nat // i ≤ l.length}) (fun i => ⟨J, (sset (sset (sset (sset (sset noSlots 1 (.d (.fn (.func g) [] cap))) 5 (.row 50)) 8 (.d (SK l))) 9 (.d (int ((l.length : Nat) : Int)))) 10 (.d (int ((i.1 : Nat) : Int)))), (hset noHeap 50 (some (.row 64 4 (((l.take i.1).filter f).map encK))))⟩) (fun i => l.length - i.1) ⟨0, Nat.zero_le _⟩ (LE_sh (slh_set (slh_set (slh_set (slh_set (slh_set (slh_no _ _) rfl rfl) rfl rfl) rfl rfl) (by show AV.d (.lit (.int .i64 ((l.map encK).length : Int))) = _; rw [List.length_map]; rfl) rfl) rfl rfl) (hlh_set (hlh_no _ _) (congrArg (fun z => some (Ent.row 64 4 z)) (rfl)) rfl)) fun ⟨i, hi⟩ => ?_
  refine CW_seq ?_
  refine CW_region ?_
  refine OW_run' hE.ok 1 rfl ?_
  refine OW_end rfl ?_
  refine CW_seq ?_
  refine CW_cond _ rfl (fun h1 => ?_) (fun h1 => ?_)
  · skip
    have hlt : i < l.length := by have := h1; simp at this; omega
    obtain ⟨y, hy⟩ : ∃ y, l[i]? = some y := ⟨_, List.getElem?_eq_getElem hlt⟩
    have hcall := hc y (List.mem_of_getElem? hy)
    obtain ⟨ya, ⟨yt, ys, yv⟩⟩ := y
    have hfl := List.length_filter_le f (l.take i)
    rw [List.length_take] at hfl
    refine CW_skip ?_
    refine CW_seq ?_
    refine CW_block ?_
    refine CW_seq ?_
    refine CW_region ?_
    refine OW_loc' hE (loc_indexAddr hE rfl rfl rfl rfl rfl (by omega) (x := encK ⟨ya, ⟨yt, ys, yv⟩⟩) (by simp [hy])) rfl rfl rfl ?_
    refine OW_run' hE.ok 1 rfl ?_
    refine OW_alloc' hE 1 rfl rfl rfl rfl rfl rfl rfl ?_
    refine OW_store' hE rfl rfl rfl rfl rfl rfl rfl rfl rfl rfl rfl rfl ?_
    refine OW.le (LE_freezeBox 1 (ds := encK ⟨ya, ⟨yt, ys, yv⟩⟩) rfl rfl) ?_
    refine OW_end rfl ?_
    refine CW_seq ?_
    refine CW_region ?_
    refine OW_run' hE.ok 2 rfl ?_
    refine OW_call' hE (hcall) rfl rfl rfl rfl (kfs_append (xs := [argK ⟨ya, ⟨yt, ys, yv⟩⟩]) (by simp [kfs, argK, kf, kfs_d]) (kfs_d cap)) rfl rfl ?_
    refine OW_end rfl ?_
    refine CW_cond _ rfl (fun h2 => ?_) (fun h2 => ?_)
    · skip
      have g3 : f ⟨ya, ⟨yt, ys, yv⟩⟩ = true := h2
      refine CW_region ?_
      refine OW_run' hE.ok 2 rfl ?_
      refine OW_loc' hE (loc_lits hE (t := 29) (len := 1) (parts := #[(0, .tmp 18)]) rfl rfl rfl rfl rfl rfl rfl rfl (xs := [encK ⟨ya, ⟨yt, ys, yv⟩⟩]) rfl) rfl rfl rfl ?_
      refine OW_append' hE (key := 50) rfl rfl rfl rfl rfl rfl rfl rfl (.inl rfl) (by simp only [List.length_map, List.length_cons, List.length_nil]; omega) (by simp only [List.length_map, List.length_cons, List.length_nil]; omega) rfl ?_
      refine OW_run' hE.ok 1 rfl ?_
      refine OW_end rfl ?_
      refine CW_region ?_
      refine OW_run' hE.ok 2 rfl ?_
      refine OW_end rfl ?_
      refine ⟨⟨i + 1, by omega⟩, LE_sh (slh_set (v := .d (int ((i + 1 : Nat) : Int))) (slh_set (v := .d (int ((l.length : Nat) : Int))) (slh_set (v := .d (SK l)) (slh_set (v := .row 50) (slh_set (v := .d (.fn (.func g) [] cap)) (slh_no _ _) (by rfl) rfl) (by rfl) rfl) (by rfl) rfl) (by rfl) rfl) (by show AV.d (.lit (.int .i64 (IntKind.i64.wrap ((i : Int) + 1)))) = _; rw [wrap_succ (by omega)]; rfl) rfl) (hlh_set (hlh_no _ _) (congrArg (fun z => some (Ent.row 64 4 z)) (by rw [filt_snoc_t hy g3, List.map_append]; rfl)) rfl), by show l.length - (i + 1) < l.length - i; omega⟩
    · skip
      have g3 : f ⟨ya, ⟨yt, ys, yv⟩⟩ = false := h2
      refine CW_skip ?_
      refine CW_region ?_
      refine OW_run' hE.ok 2 rfl ?_
      refine OW_end rfl ?_
      refine ⟨⟨i + 1, by omega⟩, LE_sh (slh_set (v := .d (int ((i + 1 : Nat) : Int))) (slh_set (v := .d (int ((l.length : Nat) : Int))) (slh_set (v := .d (SK l)) (slh_set (v := .row 50) (slh_set (v := .d (.fn (.func g) [] cap)) (slh_no _ _) (by rfl) rfl) (by rfl) rfl) (by rfl) rfl) (by rfl) rfl) (by show AV.d (.lit (.int .i64 (IntKind.i64.wrap ((i : Int) + 1)))) = _; rw [wrap_succ (by omega)]; rfl) rfl) (hlh_set (hlh_no _ _) (congrArg (fun z => some (Ent.row 64 4 z)) (by rw [filt_snoc_f hy g3])) rfl), by show l.length - (i + 1) < l.length - i; omega⟩
  · skip
    have hge : l.length ≤ i := by have := h1; simp at this; omega
    refine CW_exit ?_
    show CW _ _ _ _
    refine CW_seq ?_
    refine CW_region ?_
    refine OW_run' hE.ok 2 rfl ?_
    refine OW_end rfl ?_
    refine CW_ret ⟨.inr rfl, rfl, 50, rfl, ?_⟩
    show some (Ent.row 64 4 (((l.take i).filter f).map encK)) = some (Ent.row 64 4 ((l.filter f).map encK))
    rw [List.take_of_length_le hge]

theorem copiedOk (l : List Kp) (hl : l.length ≤ 140737488355328) : DoesM Try.prog 25 [(7, .row 64 4 (l.map encK))] [.row 7] (.row 7) [(7, .row 64 4 (l.map encK))] [] := by
  refine DoesM_of T_ok mixed (N := 21) Try.func25 rfl rfl rfl (by rfl) rfl rfl rfl rfl rfl rfl fun F n Z hE hF J V => ?_
  refine CW_seq ?_
  refine CW_region ?_
  refine OW_run' hE.ok 1 rfl ?_
  refine OW_end rfl ?_
  refine CW_seq ?_
  refine CW_seq ?_
  refine CW_region ?_
  refine OW_run' hE.ok 1 rfl ?_
  refine OW_loc' hE (loc_lenRow hE rfl rfl rfl rfl) rfl rfl rfl ?_
  refine OW_run' hE.ok 1 rfl ?_
  refine OW_end rfl ?_
  refine CW_block ?_
  refine CW_loop (σ := {i : Nat // i ≤ l.length}) (fun i => ⟨J, (sset (sset (sset noSlots 0 (.row 7)) 5 (.d (int ((l.length : Nat) : Int)))) 6 (.d (int ((i.1 : Nat) : Int)))), (hset (hset noHeap 7 (some (.row 64 4 (l.map encK)))) 99 (some (.ghost [] V)))⟩) (fun i => l.length - i.1) ⟨0, Nat.zero_le _⟩ (LE_sh (slh_set (slh_set (slh_set (slh_no _ _) rfl rfl) (by show AV.d (.lit (.int .i64 ((l.map encK).length : Int))) = _; rw [List.length_map]; rfl) rfl) rfl rfl) (hlh_set (hlh_set (hlh_no _ _) rfl rfl) rfl rfl)) fun ⟨i, hi⟩ => ?_
  refine CW_seq ?_
  refine CW_region ?_
  refine OW_run' hE.ok 1 rfl ?_
  refine OW_end rfl ?_
  refine CW_seq ?_
  refine CW_cond _ rfl (fun h1 => ?_) (fun h1 => ?_)
  · skip
    have hlt : i < l.length := by have := h1; simp at this; omega
    obtain ⟨y, hy⟩ : ∃ y, l[i]? = some y := ⟨_, List.getElem?_eq_getElem hlt⟩
    obtain ⟨ya, ⟨yt, ys, yv⟩⟩ := y
    refine CW_skip ?_
    refine CW_seq ?_
    refine CW_block ?_
    refine CW_seq ?_
    refine CW_region ?_
    refine OW_run' hE.ok 2 rfl ?_
    refine OW_end rfl ?_
    refine CW_region ?_
    refine OW_run' hE.ok 4 rfl ?_
    refine OW_loc' hE (loc_idxRow hE rfl rfl rfl rfl rfl (j := i) rfl (by rw [List.length_map]; exact hlt)) rfl rfl rfl ?_
    refine OW_run' hE.ok 1 rfl ?_
    refine OW_loc' hE (loc_loadRow hE rfl rfl rfl (j := i) (off := 1) rfl rfl (x := encK ⟨ya, ⟨yt, ys, yv⟩⟩) (by rw [List.getElem?_map, hy]; rfl) (by show 1 ≤ 4; omega) rfl) rfl rfl rfl ?_
    refine OW_know (know_ev (e := (⟨yt, ys, yv⟩ : Ev)) (d := 15) rfl) fun hvl => ?_
    refine OW_callOwn' hE 77 (copyOk (⟨yt, ys, yv⟩ : Ev)) rfl rfl rfl rfl rfl rfl rfl ?_
    refine OW.le (LE_freeze 77 32 rfl (by rw [List.length_map]; exact hvl.2)) ?_
    refine OW_loc' hE (loc_idxRow hE rfl rfl rfl rfl rfl (j := i) rfl (by rw [List.length_map]; exact hlt)) rfl rfl rfl ?_
    refine OW_run' hE.ok 1 rfl ?_
    refine OW_storeRow' hE rfl rfl rfl rfl rfl (j := i) (off := 1) rfl rfl rfl (x := encK ⟨ya, ⟨yt, ys, yv⟩⟩) (by rw [List.getElem?_map, hy]; rfl) (y := encE (⟨yt, ys, yv⟩ : Ev)) rfl rfl rfl (by show 1 + 3 ≤ 4; omega) (xs' := l.map encK) (set_same (by rw [List.getElem?_map, hy]; rfl)) ?_
    refine OW_end rfl ?_
    refine CW_region ?_
    refine OW_run' hE.ok 2 rfl ?_
    refine OW_end rfl ?_
    refine ⟨⟨i + 1, by omega⟩, LE_sh (slh_set (v := .d (int ((i + 1 : Nat) : Int))) (slh_set (v := .d (int ((l.length : Nat) : Int))) (slh_set (v := .row 7) (slh_no _ _) (by rfl) rfl) (by rfl) rfl) (by show AV.d (.lit (.int .i64 (IntKind.i64.wrap ((i : Int) + 1)))) = _; rw [wrap_succ (by omega)]; rfl) rfl) (hlh_set (hlh_set (hlh_no _ _) rfl rfl) rfl rfl), by show l.length - (i + 1) < l.length - i; omega⟩
  · skip
    skip
    refine CW_exit ?_
    show CW _ _ _ _
    refine CW_seq ?_
    refine CW_region ?_
    refine OW_run' hE.ok 2 rfl ?_
    refine OW_end rfl ?_
    refine CW_ret ⟨.inr rfl, rfl, ⟨_, rfl, AVle.refl _⟩, ⟨rfl, trivial⟩, rfl⟩

theorem add1 (k : Kp) (e : Ev) (p : Pat) : Does Try.prog 27 [argK k, .d (.iptr (encE e)), .d (.iptr (encP p))] noHeap (.d (boo (keepB e p k))) := by
  refine Does_of T_ok mixed (N := 14) Try.func27 rfl rfl rfl (by rfl) fun F n Z hE hF J => ?_
  refine CW_seq ?_
  refine CW_region ?_
  refine OW_run' hE.ok 2 rfl ?_
  refine OW_end rfl ?_
  refine CW_seq ?_
  refine CW_region ?_
  refine OW_run' hE.ok 10 rfl ?_
  refine OW_end rfl ?_
  refine CW_ret ?_
  refine ⟨.inr rfl, rfl, ⟨_, rfl, rfl, ?_⟩, rfl⟩
  exact AVle.refl _

theorem addOk (s : List Ty) (p : Pat) (l : List Kp) (at1 : Int) (e : Ev) (hpt : isPat p = true) (hl : l.length ≤ 1000) : Does Try.prog 13 [argS s, argP p, .d (SK l), .d (int at1), argE e] noHeap (.tup [.d (SK (keptR (kaddX s p l at1 e))), .d (errC 62 (keptE (kaddX s p l at1 e)))]) := by
  refine Does_of T_ok mixed (N := 33) Try.func13 rfl rfl rfl (by rfl) fun F n Z hE hF J => ?_
  have q1 := usesD s p (fun e he => Nat.le_trans ((pat_few hpt).2 e he).1 (by decide)) (fun e he => ((pat_few hpt).2 e he).2) (Nat.le_trans (uses_few hpt) (by decide))
  have hfl := List.length_filter_le (keepB e p) l
  refine CW_seq ?_
  refine CW_region ?_
  refine OW_run' hE.ok 5 rfl ?_
  refine OW_end rfl ?_
  refine CW_seq ?_
  refine CW_region ?_
  refine OW_run' hE.ok 2 rfl ?_
  refine OW_callRow' hE 60 (filteredOk l 27 [.iptr (encE e), .iptr (encP p)] (keepB e p) (fun k _ => add1 k e p)) rfl rfl rfl rfl rfl rfl rfl ?_
  refine OW_callM' hE (tr [(7, 60)]) (copiedOk (l.filter (keepB e p)) (by omega)) rfl rfl rfl rfl rfl ⟨rfl, trivial⟩ rfl rfl ?_
  refine OW_run' hE.ok 1 rfl ?_
  refine OW_end rfl ?_
  refine CW_seq ?_
  refine CW_drawn' hE 10 (by decide +kernel) ?_
  refine HW_run hE 5 rfl rfl ?_
  refine HW_call hE (q1) rfl rfl rfl rfl rfl rfl rfl rfl ?_
  refine HW_run hE 1 rfl rfl ?_
  refine HW_call hE (trimOk s (usesX p) e) rfl rfl rfl rfl rfl rfl rfl rfl ?_
  refine HW_loc hE (loc_build hE rfl rfl) rfl rfl rfl rfl ?_
  refine HW_loc hE (loc_lits hE (t := 29) (len := 1) (parts := #[(0, .tmp 25)]) rfl rfl rfl rfl rfl rfl rfl rfl (xs := [encK ⟨at1, trimX s (usesX p) e⟩]) rfl) rfl rfl rfl rfl ?_
  refine HW_end ?_
  refine OW_append' hE (key := 60) rfl rfl rfl rfl rfl rfl rfl rfl (.inl rfl) (by simp only [List.length_map, List.length_cons, List.length_nil]; omega) (by simp only [List.length_map, List.length_cons, List.length_nil]; omega) rfl ?_
  refine OW_run' hE.ok 1 rfl ?_
  refine OW.le (LE_freeze 60 64 rfl (by simp only [List.length_append, List.length_map, List.length_cons, List.length_nil]; omega)) ?_
  refine OW_end rfl ?_
  refine CW_seq ?_
  refine CW_seq ?_
  obtain ⟨AA, hA0⟩ : ∃ AA, (kaddX s p l at1 e) = AA := ⟨_, rfl⟩
  have hAA : (l.filter (keepB e p)) ++ [⟨at1, trimX s (usesX p) e⟩] = AA := hA0
  rw [hA0]
  refine CW.le (show LE _ _ ⟨J, (sset noSlots 12 (.d (SK AA))), noHeap⟩ from LE_sh (slh_set (v := .d (SK AA)) (slh_no _ _) (by exact (by rw [← hAA]; show AV.d (.sl 4 64 (_ ++ _)) = AV.d (.sl 4 64 _); rw [List.map_append]; rfl)) rfl) (hlh_no _ _)) ?_
  refine CW_region ?_
  refine OW_run' hE.ok 3 rfl ?_
  refine OW_end rfl ?_
  refine CW_cond _ rfl (fun h1 => ?_) (fun h1 => ?_)
  · skip
    have g1 : manyX AA = true := by have h9 := h1; rw [List.length_map] at h9; exact h9
    refine CW_seq ?_
    refine CW_region ?_
    refine OW_run' hE.ok 3 rfl ?_
    refine OW_end rfl ?_
    refine CW_ret ?_
    refine ⟨.inr rfl, rfl, ⟨_, rfl, rfl, ?_⟩, rfl⟩
    unfold keptR keptE
    rw [g1]
    exact AVle.tup (.cons (.nilSl 4 64) (.cons (.refl _) .nil))
  · skip
    have g1 : manyX AA = false := by have h9 := h1; rw [List.length_map] at h9; exact h9
    refine CW_skip ?_
    refine CW_seq ?_
    refine CW_region ?_
    refine OW_run' hE.ok 3 rfl ?_
    refine OW_end rfl ?_
    refine CW_ret ?_
    refine ⟨.inr rfl, rfl, ⟨_, rfl, rfl, ?_⟩, rfl⟩
    unfold keptR keptE
    rw [g1]
    exact AVle.refl _

theorem sinceOk (l : List Kp) (next : Int) : Does Try.prog 23 [.d (SK l), .d (int next)] noHeap (.d (int (sinceX l next))) := by
  refine Does_of T_ok mixed (N := 13) Try.func23 rfl rfl rfl (by rfl) fun F n Z hE hF J => ?_
  refine CW_seq ?_
  refine CW_region ?_
  refine OW_run' hE.ok 1 rfl ?_
  refine OW_end rfl ?_
  refine CW_seq ?_
  refine CW_seq ?_
  refine CW_region ?_
  refine OW_run' hE.ok 3 rfl ?_
  refine OW_end rfl ?_
  refine CW_cond _ rfl (fun h1 => ?_) (fun h1 => ?_)
  · skip
    have hl0 : l = [] := by have h9 := h1; rw [List.length_map] at h9; simpa using h9
    subst hl0
    refine CW_seq ?_
    refine CW_region ?_
    refine OW_run' hE.ok 2 rfl ?_
    refine OW_end rfl ?_
    refine CW_ret ?_
    refine ⟨.inr rfl, rfl, ⟨_, rfl, rfl, ?_⟩, rfl⟩
    exact AVle.refl _
  · skip
    obtain ⟨k, l', rfl⟩ : ∃ k l', l = k :: l' := by cases l with | nil => exact absurd h1 (by decide) | cons k l' => exact ⟨k, l', rfl⟩
    refine CW_skip ?_
    refine CW_seq ?_
    refine CW_region ?_
    refine OW_run' hE.ok 1 rfl ?_
    refine OW_loc' hE (loc_indexAddr hE rfl rfl rfl rfl rfl (by omega) (x := encK k) rfl) rfl rfl rfl ?_
    refine OW_run' hE.ok 3 rfl ?_
    refine OW_end rfl ?_
    refine CW_ret ?_
    refine ⟨.inr rfl, rfl, ⟨_, rfl, rfl, ?_⟩, rfl⟩
    exact AVle.refl _

theorem from1 (k : Kp) (at1 : Int) : Does Try.prog 36 [argK k, .d (.iptr [int at1])] noHeap (.d (boo (decide (k.at_ ≥ at1)))) := by
  refine Does_of T_ok mixed (N := 8) Try.func36 rfl rfl rfl (by rfl) fun F n Z hE hF J => ?_
  refine CW_seq ?_
  refine CW_region ?_
  refine OW_run' hE.ok 2 rfl ?_
  refine OW_end rfl ?_
  refine CW_seq ?_
  refine CW_region ?_
  refine OW_run' hE.ok 5 rfl ?_
  refine OW_end rfl ?_
  refine CW_ret ?_
  refine ⟨.inr rfl, rfl, ⟨_, rfl, rfl, ?_⟩, rfl⟩
  exact AVle.refl _

theorem fromOk (l : List Kp) (at1 : Int) (hl : l.length ≤ 1000) : Does Try.prog 24 [.d (SK l), .d (int at1)] noHeap (.d (SK (fromX l at1))) := by
  refine Does_of T_ok mixed (N := 9) Try.func24 rfl rfl rfl (by rfl) fun F n Z hE hF J => ?_
  have hfl : (fromX l at1).length ≤ l.length := List.length_filter_le _ l
  refine CW_seq ?_
  refine CW_region ?_
  refine OW_run' hE.ok 2 rfl ?_
  refine OW_end rfl ?_
  refine CW_seq ?_
  refine CW_region ?_
  refine OW_run' hE.ok 2 rfl ?_
  refine OW_callRow' hE 60 (filteredOk l 36 [.iptr [int at1]] (fun k => decide (k.at_ ≥ at1)) (fun k _ => from1 k at1)) rfl rfl rfl rfl rfl rfl rfl ?_
  refine OW_callM' hE (tr [(7, 60)]) (copiedOk (fromX l at1) (by omega)) rfl rfl rfl rfl rfl ⟨rfl, trivial⟩ rfl rfl ?_
  refine OW_run' hE.ok 1 rfl ?_
  refine OW.le (LE_freeze 60 64 rfl (by rw [List.length_map]; omega)) ?_
  refine OW_end rfl ?_
  refine CW_ret ?_
  refine ⟨.inr rfl, rfl, ⟨_, rfl, rfl, ?_⟩, rfl⟩
  exact AVle.refl _
end Go.Proofs.Ytaghhofbaoaajaa
