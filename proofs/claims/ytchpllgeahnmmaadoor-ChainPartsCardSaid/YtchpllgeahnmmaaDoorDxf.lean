/- Parts of an abstract logic over the kit's walks, and walks in it: D7ca, D7cd, D7cb, D7cg, D7ce, D7cf, D7ck. -/
import Derived.Test.YtchpllgeahnmmaaDoorDxa
import Derived.Test.YtchpllgeahnmmaaDoorCh
import Derived.Test.YtchpllgeahnmmaaDoorAf
import Derived.Test.YtchpllgeahnmmaaDoorDxd
import Derived.Test.YtchpllgeahnmmaaDoorCp
import Derived.Test.YtchpllgeahnmmaaDoorDxb
import Derived.Test.YtchpllgeahnmmaaDoorD7b0
import Derived.Test.YtchpllgeahnmmaaDoorDxe
namespace Go.Proofs.YtchpllgeahnmmaaDoor
open Go Go.AL
set_option linter.unusedVariables false
set_option linter.unusedSimpArgs false
set_option maxHeartbeats 4000000
theorem nowOk (ss : List (List Ty)) (cs : List Chg) : DoesM Tryd.prog 32 [(40, .box 102 [.row 50, .row 51]), (50, .row 24 1 (ss.map encS1)), (51, .row 43 7 (cs.map encC))] [.ptr 40 0] (.d (int ((cs.length : Nat) : Int))) [(40, .box 102 [.row 50, .row 51]), (50, .row 24 1 (ss.map encS1)), (51, .row 43 7 (cs.map encC))] [40, 50, 51] := by
 refine DoesM_of T_ok mixed (N := 8) Tryd.func32 rfl rfl rfl (by rfl) rfl rfl rfl rfl rfl rfl fun F n Z hE hF J V => ?_
 refine CW_seq ?_
 refine CW_region ?_
 refine OW_run' hE.ok 1 rfl ?_
 refine OW_end rfl ?_
 refine CW_seq ?_
 refine CW_region ?_
 refine OW_run' hE.ok 5 rfl ?_
 refine OW_as' 7 (.d (int ((cs.length : Nat) : Int))) (by show AV.d (.lit (.int .i64 ((cs.map encC).length : Int))) = _; rw [List.length_map]; rfl) ?_
 refine OW_run' hE.ok 1 rfl ?_
 refine OW_end rfl ?_
 exact CW_ret ⟨.inr rfl, rfl, ⟨_, rfl, AVle.refl _⟩, ⟨rfl, rfl, rfl, trivial⟩, rfl⟩
end Go.Proofs.YtchpllgeahnmmaaDoor
namespace Go.Proofs.YtchpllgeahnmmaaDoor
open Go Go.AL
set_option linter.unusedVariables false
set_option linter.unusedSimpArgs false
set_option maxHeartbeats 4000000
theorem addOk (ss : List (List Ty)) (cs : List Chg) (c : Chg) (hok : ChainOk ss cs) : DoesM Tryd.prog 33 [(40, .box 102 [.row 50, .row 51]), (50, .row 24 1 (ss.map encS1)), (51, .row 43 7 (cs.map encC))] [.ptr 40 0, argC c] (.d (errC 74 (addE ss cs c))) [(40, .box 102 [.row 50, .row 51]), (50, .row 24 1 ((addS ss cs c).map encS1)), (51, .row 43 7 ((addC ss cs c).map encC))] [40] := by
 refine DoesM_of T_ok mixed (N := 50) Tryd.func33 rfl rfl rfl (by rfl) rfl rfl rfl rfl rfl rfl fun F n Z hE hF J V => ?_
 refine CW_seq ?_
 refine CW_region ?_
 refine OW_run' hE.ok 2 rfl ?_
 refine OW_end rfl ?_
 refine CW_seq ?_
 refine CW_seq ?_
 refine CW_region ?_
 refine OW_run' hE.ok 6 rfl ?_
 refine OW_end rfl ?_
 refine CW_cond _ rfl (fun h1 => ?_) (fun h1 => ?_)
 ·
  have a1 : decide ((cs.length : Int) ≥ 20) = true := by have := h1; rw [List.length_map] at this; exact this
  refine CW_seq ?_
  refine CW_region ?_
  refine OW_run' hE.ok 2 rfl ?_
  refine OW_end rfl ?_
  rw [(add_full a1).1, (add_full a1).2.1, (add_full a1).2.2]
  exact CW_ret ⟨.inr rfl, rfl, ⟨_, rfl, AVle.refl _⟩, ⟨rfl, rfl, rfl, trivial⟩, rfl⟩
 ·
  have a1 : decide ((cs.length : Int) ≥ 20) = false := by have := h1; rw [List.length_map] at this; exact this
  have hl20 : cs.length < 20 := by have := a1; simp at this; omega
  obtain ⟨s, hts, hsr⟩ := hok.at (Nat.le_refl _)
  have hlen := hok.len
  refine CW_skip ?_
  refine CW_seq ?_
  refine CW.le (show LE _ _ ⟨J, (sset (sset (sset noSlots 0 (.ptr 40 0)) 3 (.d (.iptr (encC c)))) 4 (.d (.lit .nilIface))), (hset (hset (hset (hset noHeap 40 (some (.box 102 [.row 50, .row 51]))) 50 (some (.row 24 1 (ss.map encS1)))) 51 (some (.row 43 7 (cs.map encC)))) 99 (some (.ghost [.row 40] V)))⟩ from LE_sh (slh_set (v := .d (.lit .nilIface)) (slh_set (v := .d (.iptr (encC c))) (slh_set (v := .ptr 40 0) (slh_no _ _) (by rfl) rfl) (by rfl) rfl) (by rfl) rfl) (hlh_set (hlh_set (hlh_set (hlh_set (hlh_no _ _) rfl rfl) rfl rfl) rfl rfl) rfl rfl)) ?_
  refine CW_drawnX hE 15 ⟨[5, 13, 14], HAS (hset (hset (hset (hset noHeap 40 (some (.box 102 [.row 50, .row 51]))) 50 (some (.row 24 1 (ss.map encS1)))) 51 (some (.row 43 7 (cs.map encC)))) 99 (some (.ghost [.row 40] V))) 13 14 3 (.box 24 [.d (.lit (.slice none 0 0))]) (.box 24 [.d (encS (applyX s c).1)]), []⟩ (by decide +kernel) rfl (has_dep (by simp) (by simp)) (fun q k hm => by cases hm) (LE.refl _ _) ?_
  refine HX_run hE 5 (h0 := (hset (hset (hset (hset noHeap 40 (some (.box 102 [.row 50, .row 51]))) 50 (some (.row 24 1 (ss.map encS1)))) 51 (some (.row 43 7 (cs.map encC)))) 99 (some (.ghost [.row 40] V)))) (has_more rfl) rfl rfl rfl ?_
  refine HX_callR hE (nowOk ss cs) rfl rfl rfl rfl rfl rfl rfl rfl (fun b _ => has_allE rfl b ⟨rfl, rfl, rfl, trivial⟩) (fun b _ => freshL_own _) rfl (fun b _ => has_other (by decide) (by decide) b) ?_
  refine HX_loc2 hE rfl rfl rfl (fun b _ => loc_idxRow hE rfl rfl rfl rfl (has_get rfl rfl b) (j := cs.length) rfl (by rw [List.length_map]; have := hok.len; omega)) rfl rfl rfl ?_
  refine HX_loc2 hE rfl rfl rfl (fun b _ => loc_loadRow hE rfl rfl (key := 50) (q := cs.length * 1) rfl (e := 24) (sz := 1) (xs := ss.map encS1) (j := cs.length) (off := 0) rfl (has_get rfl rfl b) (x := encS1 s) (by simp [hts]) (Nat.zero_le _) rfl) rfl rfl rfl ?_
  refine HX_run hE 1 (h0 := (hset (hset (hset (hset noHeap 40 (some (.box 102 [.row 50, .row 51]))) 50 (some (.row 24 1 (ss.map encS1)))) 51 (some (.row 43 7 (cs.map encC)))) 99 (some (.ghost [.row 40] V)))) (has_more rfl) rfl rfl rfl ?_
  refine HX_call hE (applyOk s c hsr) rfl rfl rfl rfl rfl rfl rfl rfl rfl rfl ?_
  refine HX_run hE 3 (h0 := (hset (hset (hset (hset noHeap 40 (some (.box 102 [.row 50, .row 51]))) 50 (some (.row 24 1 (ss.map encS1)))) 51 (some (.row 43 7 (cs.map encC)))) 99 (some (.ghost [.row 40] V)))) (has_more rfl) rfl rfl rfl ?_
  refine HX_alloc hE (k := 3) rfl rfl rfl rfl rfl rfl rfl rfl rfl (fun b hb => has_free rfl (by kernel_rfl) rfl hb) (fun b hb => has_alloc (by decide) rfl (by kernel_rfl) hb) ?_
  refine HX_store hE rfl rfl rfl rfl rfl rfl rfl rfl (fun b hb => has_at (by kernel_rfl) hb) rfl rfl rfl rfl rfl (fun b hb => has_store (by kernel_rfl) hb) ?_
  refine HX_end ?_
  refine OW_run' hE.ok 1 rfl ?_
  refine OW_end rfl ?_
  refine CW_seq ?_
  refine CW_seq ?_
  refine CW_region ?_
  refine OW_run' hE.ok 1 rfl ?_
  refine OW_loc' hE (loc_errNe hE rfl rfl rfl) rfl rfl rfl ?_
  refine OW_end rfl ?_
  refine CW_cond _ rfl (fun h2 => ?_) (fun h2 => ?_)
  ·
   have he : ((applyX s c).2 != 0) = true := h2
   refine CW_seq ?_
   refine CW_region ?_
   refine OW_run' hE.ok 2 rfl ?_
   refine OW_end rfl ?_
   rw [(add_err a1 hts he).1, (add_err a1 hts he).2.1, (add_err a1 hts he).2.2]
   exact CW_ret ⟨.inr rfl, rfl, ⟨_, rfl, AVle.refl _⟩, ⟨rfl, rfl, rfl, trivial⟩, rfl⟩
  ·
   have he : ((applyX s c).2 != 0) = false := h2
   refine CW_skip ?_
   refine CW_seq ?_
   refine CW.le (show LE _ _ ⟨J, (sset (sset (sset (sset noSlots 0 (.ptr 40 0)) 3 (.d (.iptr (encC c)))) 4 (.d (.lit .nilIface))) 5 (.ptr 3 0)), (hset (hset (hset (hset (hset noHeap 40 (some (.box 102 [.row 50, .row 51]))) 50 (some (.row 24 1 (ss.map encS1)))) 51 (some (.row 43 7 (cs.map encC)))) 99 (some (.ghost [.row 40] V))) 3 (some (.box 24 [.d (encS (applyX s c).1)])))⟩ from LE_sh (slh_set (v := .ptr 3 0) (slh_set (v := .d (.lit .nilIface)) (slh_set (v := .d (.iptr (encC c))) (slh_set (v := .ptr 40 0) (slh_no _ _) (by rfl) rfl) (by rfl) rfl) (by rfl) rfl) (by rfl) rfl) (hlh_set (hlh_set (hlh_set (hlh_set (hlh_set (hlh_no _ _) rfl rfl) rfl rfl) rfl rfl) rfl rfl) rfl rfl)) ?_
   refine CW_callRowName 50 60 rfl rfl fun v1 hv1 => ?_
   refine CW_callRowName 51 61 rfl rfl fun v2 hv2 => ?_
   refine CW.le (LE_boxLit 40 (k := 50) (G := 60) rfl hv1.ok rfl rfl) ?_
   refine CW.le (LE_boxLit 40 (k := 51) (G := 61) rfl hv2.ok rfl rfl) ?_
   refine CW.le (show LE _ _ ⟨J, (sset (sset (sset (sset noSlots 0 (.ptr 40 0)) 3 (.d (.iptr (encC c)))) 4 (.d (.lit .nilIface))) 5 (.ptr 3 0)), heapOf [(40, .box 102 [bif false then .row 50 else .d (.lit v1), .d (.lit v2)]), (50, .row 24 1 (bif false then ss.map encS1 ++ [encS1 (applyX s c).1] else ss.map encS1)), (51, .row 43 7 (bif false then cs.map encC ++ [encC c] else cs.map encC)), (60, bif false then .ghost [.any] [v1] else .ghost [.row 50] [v1]), (61, bif false then .ghost [.any] [v2] else .ghost [.row 51] [v2]), (3, .box 24 [.d (encS (applyX s c).1)]), (99, .ghost [.row 40] V)]⟩ from LE_sh (slh_set (v := .ptr 3 0) (slh_set (v := .d (.lit .nilIface)) (slh_set (v := .d (.iptr (encC c))) (slh_set (v := .ptr 40 0) (slh_no _ _) (by rfl) rfl) (by rfl) rfl) (by rfl) rfl) (by rfl) rfl) (hlh_set (hlh_set (hlh_set (hlh_set (hlh_set (hlh_set (hlh_set (hlh_no _ _) rfl rfl) rfl rfl) rfl rfl) rfl rfl) rfl rfl) rfl rfl) rfl rfl)) ?_
   refine CW_drawnT hE 19 ⟨fun b1 b2 b3 => heapOf [(40, .box 102 [bif b3 then .row 50 else .d (.lit v1), .d (.lit v2)]), (50, .row 24 1 (bif b1 then ss.map encS1 ++ [encS1 (applyX s c).1] else ss.map encS1)), (51, .row 43 7 (bif b2 then cs.map encC ++ [encC c] else cs.map encC)), (60, bif b1 then .ghost [.any] [v1] else .ghost [.row 50] [v1]), (61, bif b2 then .ghost [.any] [v2] else .ghost [.row 51] [v2]), (3, .box 24 [.d (encS (applyX s c).1)]), (99, .ghost [.row 40] V)], 8, 50, 15, 51, 18⟩ (by decide +kernel) rfl rfl (by kernel_rfl) (by repeat (first | exact nokeyS_no _ | refine nokeyS_set ?_ rfl)) (by repeat (first | exact nokeyS_no _ | refine nokeyS_set ?_ rfl)) (LE.refl _ _) ?_
   refine HT_run hE 5 (h0 := noHeap) (fun _ _ _ => noHeap_no) rfl rfl rfl rfl rfl ?_
   refine HT_loc1 hE (fun b2 => loc_loadBox hE rfl rfl rfl rfl rfl) rfl (by kernel_rfl) rfl rfl rfl rfl rfl rfl rfl ?_
   refine HT_loc2 hE rfl rfl rfl (fun b1 b2 b3 _ => loc_loadBox hE rfl rfl rfl rfl rfl) rfl rfl rfl rfl ?_
   refine HT_loc2 hE rfl rfl rfl (fun b1 b2 b3 _ => loc_lits hE (t := 100) (len := 1) (parts := #[(0, .tmp 36)]) rfl rfl rfl rfl rfl rfl rfl rfl (xs := [encS1 (applyX s c).1]) rfl) rfl rfl rfl rfl ?_
   refine HT_append1 hE (G := 60) (fun _ => rfl) rfl rfl rfl rfl rfl rfl rfl rfl rfl rfl rfl (fun _ => rfl) (.inl rfl) (by simp; omega) (by simp; omega) rfl (fun b2 s2 => LE_eq (by cases b2 <;> exact (congrArg (fun z => hset z 50 (some (.row 24 1 (ss.map encS1 ++ [encS1 (applyX s c).1])))) (unkH_heapOf 50 _)).trans (hset_heapOf _ _ _))) ?_
   refine HT_run hE 3 (h0 := noHeap) (fun _ _ _ => noHeap_no) rfl rfl rfl rfl rfl ?_
   refine HT_loc2 hE rfl rfl rfl (fun b1 b2 b3 _ => loc_loadBox hE rfl rfl rfl rfl rfl) rfl rfl rfl rfl ?_
   refine HT_run hE 1 (h0 := noHeap) (fun _ _ _ => noHeap_no) rfl rfl rfl rfl rfl ?_
   refine HT_loc2 hE rfl rfl rfl (fun b1 b2 b3 _ => loc_lits hE (t := 53) (len := 1) (parts := #[(0, .tmp 43)]) rfl rfl rfl rfl rfl rfl rfl rfl (xs := [encC c]) rfl) rfl rfl rfl rfl ?_
   refine HT_append2 hE (G := 61) (fun _ _ => rfl) rfl rfl rfl rfl rfl rfl rfl rfl rfl rfl rfl (fun _ _ => rfl) (.inl rfl) (by simp; omega) (by simp; omega) rfl (fun b1 b3 s2 _ => LE_eq (by cases b1 <;> cases b3 <;> exact (congrArg (fun z => hset z 51 (some (.row 43 7 (cs.map encC ++ [encC c])))) (unkH_heapOf 51 _)).trans (hset_heapOf _ _ _))) ?_
   refine HT_run hE 2 (h0 := noHeap) (fun _ _ _ => noHeap_no) rfl rfl rfl rfl rfl ?_
   refine HT_store3 hE rfl rfl rfl rfl rfl rfl rfl rfl (fun _ => rfl) rfl rfl rfl rfl rfl (fun b2 s2 => LE_eq (by cases b2 <;> exact hset_heapOf _ _ _)) ?_
   refine HT_end ?_
   refine OW_run' hE.ok 2 rfl ?_
   refine OW_store' hE rfl rfl rfl rfl rfl rfl rfl rfl rfl rfl rfl rfl ?_
   refine OW_end rfl ?_
   refine CW_seq ?_
   refine CW_region ?_
   refine OW_run' hE.ok 1 rfl ?_
   refine OW_end rfl ?_
   rw [(add_ok a1 hts he).1, (add_ok a1 hts he).2.1, (add_ok a1 hts he).2.2]
   exact CW_ret ⟨.inr rfl, rfl, ⟨_, rfl, AVle.refl _⟩, ⟨rfl, by exact congrArg (fun z => some (Ent.row 24 1 z)) (by rw [List.map_append]; rfl), by exact congrArg (fun z => some (Ent.row 43 7 z)) (by rw [List.map_append]; rfl), trivial⟩, rfl⟩
end Go.Proofs.YtchpllgeahnmmaaDoor
namespace Go.Proofs.YtchpllgeahnmmaaDoor
open Go Go.AL
set_option linter.unusedVariables false
set_option linter.unusedSimpArgs false
set_option maxHeartbeats 4000000
theorem ccopyOk (s : List Ty) : Does Tryd.prog 64 [argS s] noHeap (argS s) := by
 refine Does_of T_ok mixed (N := 29) Tryd.func64 rfl rfl rfl (by rfl) fun F n Z hE hF J => ?_
 refine CW_seq ?_
 refine CW_region ?_
 refine OW_run' hE.ok 1 rfl ?_
 refine OW_alloc' hE 1 rfl rfl rfl rfl rfl rfl rfl ?_
 refine OW_end rfl ?_
 refine CW_seq ?_
 refine CW_region ?_
 refine OW_run' hE.ok 2 rfl ?_
 refine OW_callRow' hE 50 (cloneT s) rfl rfl rfl rfl rfl rfl rfl ?_
 refine OW_build' hE rfl rfl rfl rfl rfl ?_
 refine OW_alloc' hE 2 rfl rfl rfl rfl rfl rfl rfl ?_
 refine OW_store' hE rfl rfl rfl rfl rfl rfl rfl rfl rfl rfl rfl rfl ?_
 refine OW_end rfl ?_
 refine CW_seq ?_
 refine CW_seq ?_
 refine CW_know (know_sl (d := 6) rfl) fun hlen => ?_
 rw [List.length_map] at hlen
 refine CW_region ?_
 refine OW_run' hE.ok 4 rfl ?_
 refine OW_end rfl ?_
 refine CW_block ?_
 refine CW_loop (σ := {i : Nat // i ≤ s.length}) (fun i => ⟨J, (sset (sset (sset (sset noSlots 2 (.ptr 1 0)) 3 (.ptr 2 0)) 11 (.d (int ((s.length : Nat) : Int)))) 12 (.d (int ((i.1 : Nat) : Int)))), (hset (hset (hset noHeap 1 (some (.box 24 [.d (.lit (.slice none 0 0))]))) 2 (some (.box 24 [.row 50]))) 50 (some (.row 72 2 (s.map encT))))⟩) (fun i => s.length - i.1) ⟨0, Nat.zero_le _⟩ (LE_sh (slh_set (slh_set (slh_set (slh_set (slh_no _ _) rfl rfl) rfl rfl) (by show AV.d (.lit (.int .i64 ((s.map encT).length : Int))) = _; rw [List.length_map]; rfl) rfl) rfl rfl) (hlh_set (hlh_set (hlh_set (hlh_no _ _) rfl rfl) rfl rfl) rfl rfl)) fun ⟨i, hi⟩ => ?_
 refine CW_seq ?_
 refine CW_region ?_
 refine OW_run' hE.ok 1 rfl ?_
 refine OW_end rfl ?_
 refine CW_seq ?_
 refine CW_cond _ rfl (fun h1 => ?_) (fun h1 => ?_)
 ·
  have hlt : i < s.length := by have := h1; simp at this; omega
  obtain ⟨t, ht⟩ : ∃ t, s[i]? = some t := ⟨_, List.getElem?_eq_getElem hlt⟩
  refine CW_skip ?_
  refine CW_seq ?_
  refine CW_block ?_
  refine CW_seq ?_
  refine CW_region ?_
  refine OW_run' hE.ok 2 rfl ?_
  refine OW_end rfl ?_
  refine CW_drawn' hE 10 (by decide +kernel) ?_
  refine HW_run hE 6 rfl rfl ?_
  refine HW_loc hE (loc_idxRow hE rfl rfl rfl rfl rfl (j := i) rfl (by rw [List.length_map]; exact hlt)) rfl rfl rfl rfl ?_
  refine HW_run hE 1 rfl rfl ?_
  refine HW_loc hE (loc_loadRow hE rfl rfl rfl (j := i) (off := 1) rfl rfl (x := encT t) (by simp [ht]) (by show 1 ≤ 2; omega) rfl) rfl rfl rfl rfl ?_
  refine HW_call hE (cloneFd t.fields) rfl rfl rfl rfl rfl rfl rfl rfl ?_
  refine HW_end ?_
  refine OW_loc' hE (loc_idxRow hE rfl rfl rfl rfl rfl (j := i) rfl (by rw [List.length_map]; exact hlt)) rfl rfl rfl ?_
  refine OW_run' hE.ok 1 rfl ?_
  refine OW_storeRow' hE rfl rfl rfl rfl rfl (j := i) (off := 1) rfl rfl rfl (x := encT t) (by simp [ht]) (y := [.sl 2 24 (t.fields.map encF)]) rfl rfl rfl (by show 1 + 1 ≤ 2; omega) (xs' := s.map encT) (by exact map_set_at ht) ?_
  refine OW_end rfl ?_
  refine CW_region ?_
  refine OW_run' hE.ok 2 rfl ?_
  refine OW_end rfl ?_
  refine ⟨⟨i + 1, by omega⟩, LE_sh (slh_set (v := .d (int ((i + 1 : Nat) : Int))) (slh_set (v := .d (int ((s.length : Nat) : Int))) (slh_set (v := .ptr 2 0) (slh_set (v := .ptr 1 0) (slh_no _ _) (by rfl) rfl) (by rfl) rfl) (by rfl) rfl) (by show AV.d (.lit (.int .i64 (IntKind.i64.wrap ((i : Int) + 1)))) = _; rw [wrap_succ (by omega)]; rfl) rfl) (hlh_set (hlh_set (hlh_set (hlh_no _ _) rfl rfl) rfl rfl) rfl rfl), by show s.length - (i + 1) < s.length - i; omega⟩
 ·
  have hge : ¬ i < s.length := by have := h1; simp at this; omega
  refine CW_exit ?_
  show CW _ _ _ _
  refine CW_seq ?_
  refine CW.le (show LE _ _ ⟨J, (sset (sset noSlots 2 (.ptr 1 0)) 3 (.ptr 2 0)), (hset (hset (hset noHeap 1 (some (.box 24 [.d (.lit (.slice none 0 0))]))) 2 (some (.box 24 [.row 50]))) 50 (some (.row 72 2 (s.map encT))))⟩ from LE_sh (slh_set (v := .ptr 2 0) (slh_set (v := .ptr 1 0) (slh_no _ _) (by rfl) rfl) (by rfl) rfl) (hlh_set (hlh_set (hlh_set (hlh_no _ _) rfl rfl) rfl rfl) rfl rfl)) ?_
  refine CW.le (LE_freeze 50 40 rfl (by rw [List.length_map]; exact hlen.2)) ?_
  refine CW_region ?_
  refine OW_run' hE.ok 1 rfl ?_
  refine OW_store' hE rfl rfl rfl rfl rfl rfl rfl rfl rfl rfl rfl rfl ?_
  refine OW_end rfl ?_
  refine CW_ret ?_
  refine ⟨.inr rfl, rfl, ⟨_, rfl, rfl, ?_⟩, rfl⟩
  exact AVle.refl _
end Go.Proofs.YtchpllgeahnmmaaDoor
namespace Go.Proofs.YtchpllgeahnmmaaDoor
open Go Go.AL
set_option linter.unusedVariables false
set_option linter.unusedSimpArgs false
set_option maxHeartbeats 4000000
theorem allC1 (xs : List Chg) : Iter Tryd.prog 90 [] [.d (.iptr [.sl 7 88 (xs.map encC)])] (ysI encC xs) := by
 refine Iter_of T_ok mixed (N := 18) Tryd.func90 rfl rfl rfl (by rfl) fun F n Z hE hF l C X hC hX hy => ?_
 refine CW_seq ?_
 refine CW_region ?_
 refine OW_run' hE.ok 3 rfl ?_
 refine OW_end rfl ?_
 refine CW_block ?_
 refine CW_know (know_sl (d := 5) rfl) fun hlen => ?_
 rw [List.length_map] at hlen
 refine CW_loop (σ := {i : Nat // i ≤ xs.length}) (fun i => ⟨C i.1, (sset (sset (sset (sset (sset noSlots 0 (.d (.fn (.yield l) [] []))) 1 (.d (.iptr [.sl 7 88 (xs.map encC)]))) 5 (.d (.sl 7 88 (xs.map encC)))) 6 (.d (.lit (.int .i64 xs.length)))) 7 (.d (.lit (.int .i64 i.1)))), noHeap⟩) (fun i => xs.length - i.1) ⟨0, Nat.zero_le _⟩ (LE_sh (slh_set (slh_set (slh_set (slh_set (slh_set (slh_no _ _) rfl rfl) rfl rfl) rfl rfl) (by show AV.d (.lit (.int .i64 ((xs.map encC).length : Int))) = _; rw [List.length_map]) rfl) rfl rfl) (hlh_no _ _)) fun ⟨i, hi⟩ => ?_
 refine CW_seq ?_
 refine CW_region ?_
 refine OW_run' hE.ok 1 rfl ?_
 refine OW_end rfl ?_
 refine CW_seq ?_
 refine CW_cond _ rfl (fun h1 => ?_) (fun h1 => ?_)
 ·
  have hlt : i < xs.length := by have := h1; simp at this; omega
  obtain ⟨a, ha⟩ : ∃ a, xs[i]? = some a := ⟨_, List.getElem?_eq_getElem hlt⟩
  refine CW_skip ?_
  refine CW_seq ?_
  refine CW_block ?_
  refine CW_seq ?_
  refine CW_region ?_
  refine OW_run' hE.ok 1 rfl ?_
  refine OW_loc' hE (loc_indexAddr hE rfl rfl rfl rfl rfl (by omega) (x := encC a) (by simp [ha])) rfl rfl rfl ?_
  refine OW_run' hE.ok 1 rfl ?_
  refine OW_alloc' hE 1 rfl rfl rfl rfl rfl rfl rfl ?_
  refine OW_run' hE.ok 1 rfl ?_
  refine OW_store' hE rfl rfl rfl rfl rfl rfl rfl rfl rfl rfl rfl rfl ?_
  refine OW_end rfl ?_
  refine CW_seq ?_
  refine CW_region ?_
  refine OW_run' hE.ok 3 rfl ?_
  refine OW_yield' hE hy hC hX (Wrap.id _) (i) rfl rfl rfl rfl rfl rfl (ysI_get ha) rfl rfl rfl ?_ ?_
  ·
   refine OW_run' hE.ok 1 rfl ?_
   refine OW_end rfl ?_
   refine CW_false rfl ?_
   refine CW_skip ?_
   refine CW_region ?_
   refine OW_run' hE.ok 2 rfl ?_
   refine OW_end rfl ?_
   exact ⟨⟨i + 1, hlt⟩, LE_sh (slh_set (slh_set (slh_set (slh_set (slh_set (slh_no _ _) rfl rfl) rfl rfl) rfl rfl) rfl rfl) (by show AV.d (.lit (.int .i64 (IntKind.i64.wrap (↑i + 1)))) = _; rw [wrap_succ (by omega)]) rfl) (hlh_no _ _), by show xs.length - (i + 1) < xs.length - i; omega⟩
  ·
   refine OW_run' hE.ok 1 rfl ?_
   refine OW_end rfl ?_
   refine CW_true rfl ?_
   exact CW_ret ⟨.inr rfl, .inr rfl, _, rfl⟩
 ·
  have hge : ¬ i < xs.length := by have := h1; simp at this; omega
  refine CW_exit ?_
  have hN : i = (ysI encC xs).length := by rw [ysI_length]; omega
  show RetI _ _ _ _ .normal _
  exact ⟨.inl rfl, .inl (by show C i = _; rw [← hN]), _, rfl⟩
theorem allC (xs : List Chg) : Does Tryd.prog 65 [.d (.sl 7 88 (xs.map encC))] noHeap (.d (.fn (.func 90) [] [.iptr [.sl 7 88 (xs.map encC)]])) := by
 refine Does_of T_ok mixed (N := 4) Tryd.func65 rfl rfl rfl (by rfl) fun F n Z hE hF J => ?_
 refine CW_seq ?_
 refine CW_region ?_
 refine OW_run' hE.ok 2 rfl ?_
 refine OW_end rfl ?_
 refine CW_seq ?_
 refine CW_region ?_
 refine OW_run' hE.ok 2 rfl ?_
 refine OW_end rfl ?_
 refine CW_ret ?_
 refine ⟨.inr rfl, rfl, ⟨_, rfl, rfl, ?_⟩, rfl⟩
 exact AVle.refl _
theorem newOk (s : List Ty) (l : List Chg) (hs : isSchema s = true) (hall : ∀ k c, l[k]? = some c → addE (chF s l k).1 (chF s l k).2 c = 0) : DoesM Tryd.prog 27 [] [argS s, .d (.sl 7 88 (l.map encC))] (.tup [.ptr 40 0, .d (errC 74 0)]) [(40, .box 102 [.row 50, .row 51]), (50, .row 24 1 ((chF s l l.length).1.map encS1)), (51, .row 43 7 ((chF s l l.length).2.map encC))] [] := by
 refine DoesM_of T_ok mixed (N := 30) Tryd.func27 rfl rfl rfl (by rfl) rfl rfl rfl rfl rfl rfl fun F n Z hE hF J V => ?_
 refine CW_seq ?_
 refine CW_region ?_
 refine OW_run' hE.ok 1 rfl ?_
 refine OW_alloc' hE 1 rfl rfl rfl rfl rfl rfl rfl ?_
 refine OW_alloc' hE 2 rfl rfl rfl rfl rfl rfl rfl ?_
 refine OW_end rfl ?_
 refine CW_seq ?_
 refine CW_seq ?_
 refine CW_region ?_
 refine OW_run' hE.ok 1 rfl ?_
 refine OW_call' hE ((by have hq := isOk s; rw [hs] at hq; exact hq)) rfl rfl rfl rfl rfl rfl rfl ?_
 refine OW_run' hE.ok 1 rfl ?_
 refine OW_end rfl ?_
 refine CW_false rfl ?_
 refine CW_skip ?_
 refine CW_seq ?_
 refine CW_region ?_
 refine OW_run' hE.ok 1 rfl ?_
 refine OW_call' hE (ccopyOk s) rfl rfl rfl rfl rfl rfl rfl ?_
 refine OW_litsOwn' hE 50 rfl rfl rfl rfl rfl rfl rfl rfl rfl rfl rfl rfl ?_
 refine OW_build' hE rfl rfl rfl rfl rfl ?_
 refine OW_box' hE 40 rfl rfl rfl rfl rfl rfl ?_
 refine OW_alloc' hE 3 rfl rfl rfl rfl rfl rfl rfl ?_
 refine OW_store' hE rfl rfl rfl rfl rfl rfl rfl rfl rfl rfl rfl rfl ?_
 refine OW_end rfl ?_
 refine CW_seq ?_
 refine CW_seq ?_
 refine CW.le (LE_nilBox 40 51 43 7 (i := 1) rfl rfl rfl) ?_
 refine CW_region ?_
 refine OW_run' hE.ok 1 rfl ?_
 refine OW_call' hE (allC l) rfl rfl rfl rfl rfl rfl rfl ?_
 refine OW_end rfl ?_
 refine CW_block ?_
 refine CW.le (show LE _ _ ⟨J, (sset (sset (sset (sset noSlots 4 (.ptr 1 0)) 5 (.ptr 2 0)) 6 (.ptr 3 0)) 20 (.d (.fn (.func 90) [] [.iptr [.sl 7 88 (l.map encC)]]))), (hset (hset (hset (hset (hset (hset (hset noHeap 1 (some (.box 54 [.d (.lit (.pointer none))]))) 2 (some (.box 36 [.d (.lit .nilIface)]))) 40 (some (.box 102 [.row 50, .row 51]))) 50 (some (.row 24 1 ((chF s l (0)).1.map encS1)))) 51 (some (.row 43 7 ((chF s l (0)).2.map encC)))) 3 (some (.box 54 [.ptr 40 0]))) 99 (some (.ghost [] V)))⟩ from LE_sh (slh_set (v := .d (.fn (.func 90) [] [.iptr [.sl 7 88 (l.map encC)]])) (slh_set (v := .ptr 3 0) (slh_set (v := .ptr 2 0) (slh_set (v := .ptr 1 0) (slh_no _ _) (by rfl) rfl) (by rfl) rfl) (by rfl) rfl) (by rfl) rfl) (hlh_set (hlh_set (hlh_set (hlh_set (hlh_set (hlh_set (hlh_set (hlh_no _ _) rfl rfl) rfl rfl) rfl rfl) rfl rfl) rfl rfl) rfl rfl) rfl rfl)) ?_
 refine CW_rangeH hE hF (allC1 l) rfl rfl rfl (ysI_kf encC l) rfl 9 (fun i => (hset (hset (hset (hset (hset (hset (hset noHeap 1 (some (.box 54 [.d (.lit (.pointer none))]))) 2 (some (.box 36 [.d (.lit .nilIface)]))) 40 (some (.box 102 [.row 50, .row 51]))) 50 (some (.row 24 1 ((chF s l (i)).1.map encS1)))) 51 (some (.row 43 7 ((chF s l (i)).2.map encC)))) 3 (some (.box 54 [.ptr 40 0]))) 99 (some (.ghost [] V)))) (fun _ => True) rfl (fun _ => rfl) trivial (fun F' n' Z' Br Bb hE hB vs i args hargs hp => ?_) (fun hp vs => ?_)
 ·
  obtain ⟨c, hc, rfl⟩ := ysI_of hargs
  have ha0 := hall i c hc
  refine CW_region ?_
  refine OW_alloc' hE 4 rfl rfl rfl rfl rfl rfl rfl ?_
  refine OW_store' hE rfl rfl rfl rfl rfl rfl rfl rfl rfl rfl rfl rfl ?_
  refine OW_end rfl ?_
  refine ⟨rfl, rfl, ?_⟩
  refine CW_block ?_
  refine CW_seq ?_
  refine CW_region ?_
  refine OW_run' hE.ok 2 rfl ?_
  refine OW_callM' hE (tr []) (addOk (chF s l i).1 (chF s l i).2 c (chF_ok hs i)) rfl rfl rfl rfl rfl ⟨rfl, rfl, rfl, trivial⟩ rfl rfl ?_
  refine OW_run' hE.ok 1 rfl ?_
  refine OW_end rfl ?_
  refine CW_seq ?_
  refine CW_region ?_
  refine OW_run' hE.ok 1 rfl ?_
  refine OW_loc' hE (loc_errNe hE rfl rfl rfl) rfl rfl rfl ?_
  refine OW_as' 27 (.d (boo false)) (by rw [ha0]; rfl) ?_
  refine OW_end rfl ?_
  refine CW_false rfl ?_
  refine CW_skip ?_
  exact ⟨⟨Bb J, noSlots, (hset (hset (hset (hset (hset (hset (hset (hset noHeap 1 (some (.box 54 [.d (.lit (.pointer none))]))) 2 (some (.box 36 [.d (.lit .nilIface)]))) 40 (some (.box 102 [.row 50, .row 51]))) 50 (some (.row 24 1 ((chF s l (i + 1)).1.map encS1)))) 51 (some (.row 43 7 ((chF s l (i + 1)).2.map encC)))) 3 (some (.box 54 [.ptr 40 0]))) 99 (some (.ghost [] V))) 9 (some (.ghost _ vs)))⟩, LE_sh (slh_no _ _) (hlh_set (hlh_set (hlh_set (hlh_set (hlh_set (hlh_set (hlh_set (hlh_set (hlh_no _ _) rfl rfl) rfl rfl) rfl rfl) (by exact congrArg (fun z : List (List Ty) × List Chg => some (Ent.row 24 1 (z.1.map encS1))) (chF_succ hc).symm) rfl) (by exact congrArg (fun z : List (List Ty) × List Chg => some (Ent.row 43 7 (z.2.map encC))) (chF_succ hc).symm) rfl) rfl rfl) rfl rfl) rfl rfl), J, rfl, rfl, rfl, trivial⟩
 ·
  refine CW_seq ?_
  refine CW_region ?_
  refine OW_run' hE.ok 1 rfl ?_
  refine OW_store' hE rfl rfl rfl rfl rfl rfl rfl rfl rfl rfl rfl rfl ?_
  refine OW_store' hE rfl rfl rfl rfl rfl rfl rfl rfl rfl rfl rfl rfl ?_
  refine OW_end rfl ?_
  exact CW_ret ⟨.inr rfl, rfl, ⟨_, rfl, AVle.refl _⟩, ⟨rfl, by exact congrArg (fun z => some (Ent.row 24 1 ((chF s l z).1.map encS1))) (ysI_length encC l), by exact congrArg (fun z => some (Ent.row 43 7 ((chF s l z).2.map encC))) (ysI_length encC l), trivial⟩, rfl⟩
theorem newNil (s : List Ty) (hs : isSchema s = true) : DoesM Tryd.prog 27 [] [argS s, .d (.lit (.slice none 0 0))] (.tup [.ptr 40 0, .d (errC 74 0)]) [(40, .box 102 [.row 50, .row 51]), (50, .row 24 1 ((chF s [] 0).1.map encS1)), (51, .row 43 7 ((chF s [] 0).2.map encC))] [] :=
 (newOk s [] hs (fun k c h => by simp at h)).args rfl (AVles.cons (.refl _) (.cons (.nilSl 7 88) .nil))
end Go.Proofs.YtchpllgeahnmmaaDoor
namespace Go.Proofs.YtchpllgeahnmmaaDoor
open Go Go.AL
set_option linter.unusedVariables false
set_option linter.unusedSimpArgs false
set_option maxHeartbeats 4000000
theorem nowD (ss : List (List Ty)) (cs : List Chg) : Does Tryd.prog 32 [argCh ss cs] noHeap (.d (int ((cs.length : Nat) : Int))) := by
 refine Does_of T_ok mixed (N := 8) Tryd.func32 rfl rfl rfl (by rfl) fun F n Z hE hF J => ?_
 refine CW_seq ?_
 refine CW_region ?_
 refine OW_run' hE.ok 1 rfl ?_
 refine OW_end rfl ?_
 refine CW_seq ?_
 refine CW_region ?_
 refine OW_run' hE.ok 5 rfl ?_
 refine OW_as' 7 (.d (int ((cs.length : Nat) : Int))) (by show AV.d (.lit (.int .i64 ((cs.map encC).length : Int))) = _; rw [List.length_map]; rfl) ?_
 refine OW_run' hE.ok 1 rfl ?_
 refine OW_end rfl ?_
 refine CW_ret ?_
 refine ⟨.inr rfl, rfl, ⟨_, rfl, rfl, ?_⟩, rfl⟩
 exact AVle.refl _
theorem isD (ss : List (List Ty)) (cs : List Chg) (i : Int) : Does Tryd.prog 67 [argCh ss cs, .d (int i)] noHeap (.d (boo (isIn cs i))) := by
 refine Does_of T_ok mixed (N := 13) Tryd.func67 rfl rfl rfl (by rfl) fun F n Z hE hF J => ?_
 refine CW_seq ?_
 refine CW_region ?_
 refine OW_run' hE.ok 1 rfl ?_
 refine OW_end rfl ?_
 refine CW_seq ?_
 refine CW_region ?_
 refine OW_run' hE.ok 3 rfl ?_
 refine OW_split' 7 rfl (fun h1 => ?_) (fun h1 => ?_)
 ·
  have g1 : decide (i ≥ 0) = true := h1
  refine OW_run' hE.ok 2 rfl ?_
  refine OW_call' hE (nowD ss cs) rfl rfl rfl rfl rfl rfl rfl ?_
  refine OW_run' hE.ok 3 rfl ?_
  refine OW_end rfl ?_
  refine CW_ret ?_
  refine ⟨.inr rfl, rfl, ⟨_, rfl, rfl, ?_⟩, rfl⟩
  exact AVle.of (congrArg (fun b => AV.d (boo b)) (by unfold isIn; rw [g1]; rfl))
 ·
  have g1 : decide (i ≥ 0) = false := h1
  refine OW_run' hE.ok 6 rfl ?_
  refine OW_end rfl ?_
  refine CW_ret ?_
  refine ⟨.inr rfl, rfl, ⟨_, rfl, rfl, ?_⟩, rfl⟩
  exact AVle.of (congrArg (fun b => AV.d (boo b)) (by unfold isIn; rw [g1]; rfl))
theorem cloneCd (l : List Chg) : Does Tryd.prog 87 [.d (.sl 7 88 (l.map encC))] noHeap (.d (.sl 7 88 (l.map encC))) := by
 refine Does_of T_ok mixed (N := 8) Tryd.func87 rfl rfl rfl (by rfl) fun F n Z hE hF J => ?_
 refine CW_know (know_sl (d := 0) rfl) fun hlen => ?_
 rw [List.length_map] at hlen
 refine CW_seq ?_
 refine CW_region ?_
 refine OW_run' hE.ok 1 rfl ?_
 refine OW_end rfl ?_
 refine CW_seq ?_
 refine CW_seq ?_
 refine CW_region ?_
 refine OW_run' hE.ok 1 rfl ?_
 refine OW_eqNil' hE rfl rfl rfl rfl rfl rfl rfl rfl (fun b hb => ?_)
 refine OW_end rfl ?_
 refine CW_cond _ rfl (fun h1 => ?_) (fun h1 => ?_)
 ·
  refine CW_seq ?_
  refine CW_region ?_
  refine OW_run' hE.ok 1 rfl ?_
  refine OW_end rfl ?_
  refine CW_ret ⟨.inr rfl, rfl, ⟨_, rfl, rfl, ?_⟩, rfl⟩
  rw [hb h1]
  exact AVle.nilSl 7 88
 ·
  refine CW_skip ?_
  refine CW_seq ?_
  refine CW_region ?_
  refine OW_litsOwn' hE 7 rfl rfl rfl rfl rfl rfl rfl rfl rfl rfl rfl rfl ?_
  refine OW_run' hE.ok 1 rfl ?_
  refine OW_append' hE (key := 7) rfl rfl rfl rfl rfl rfl rfl rfl (.inl rfl) (by simp; omega) (by simp; omega) rfl ?_
  refine OW_run' hE.ok 1 rfl ?_
  refine OW_end rfl ?_
  refine CW.le (LE_freeze 7 88 rfl (by simp; omega)) ?_
  exact CW_ret ⟨.inr rfl, rfl, ⟨_, rfl, rfl, AVle.refl _⟩, rfl⟩
theorem changesD (ss : List (List Ty)) (cs : List Chg) : Does Tryd.prog 62 [argCh ss cs] noHeap (.d (.sl 7 88 (cs.map encC))) := by
 refine Does_of T_ok mixed (N := 8) Tryd.func62 rfl rfl rfl (by rfl) fun F n Z hE hF J => ?_
 refine CW_seq ?_
 refine CW_region ?_
 refine OW_run' hE.ok 1 rfl ?_
 refine OW_end rfl ?_
 refine CW_seq ?_
 refine CW_region ?_
 refine OW_run' hE.ok 4 rfl ?_
 refine OW_call' hE (cloneCd cs) rfl rfl rfl rfl rfl rfl rfl ?_
 refine OW_run' hE.ok 1 rfl ?_
 refine OW_end rfl ?_
 refine CW_ret ?_
 refine ⟨.inr rfl, rfl, ⟨_, rfl, rfl, ?_⟩, rfl⟩
 exact AVle.refl _
theorem atD (ss : List (List Ty)) (cs : List Chg) (i : Nat) (s : List Ty) (hl : ss.length = cs.length + 1) (hi : ss[i]? = some s) : Does Tryd.prog 30 [argCh ss cs, .d (int ((i : Nat) : Int))] noHeap (.tup [argS s, .d (boo true)]) := by
 refine Does_of T_ok mixed (N := 19) Tryd.func30 rfl rfl rfl (by rfl) fun F n Z hE hF J => ?_
 have hlt := (List.getElem?_eq_some_iff.1 hi).1
 refine CW_seq ?_
 refine CW_region ?_
 refine OW_alloc' hE 1 rfl rfl rfl rfl rfl rfl rfl ?_
 refine OW_run' hE.ok 1 rfl ?_
 refine OW_end rfl ?_
 refine CW_seq ?_
 refine CW_seq ?_
 refine CW_region ?_
 refine OW_run' hE.ok 2 rfl ?_
 refine OW_call' hE ((by have hq := isD ss cs (i : Int); rw [isIn_of (by omega)] at hq; exact hq)) rfl rfl rfl rfl rfl rfl rfl ?_
 refine OW_run' hE.ok 1 rfl ?_
 refine OW_end rfl ?_
 refine CW_false rfl ?_
 refine CW_skip ?_
 refine CW_seq ?_
 refine CW_region ?_
 refine OW_run' hE.ok 5 rfl ?_
 refine OW_loc' hE (loc_indexAddr hE rfl rfl rfl rfl rfl (by omega) (x := encS1 s) (by simp [hi])) rfl rfl rfl ?_
 refine OW_run' hE.ok 1 rfl ?_
 refine OW_call' hE (ccopyOk s) rfl rfl rfl rfl rfl rfl rfl ?_
 refine OW_store' hE rfl rfl rfl rfl rfl rfl rfl rfl rfl rfl rfl rfl ?_
 refine OW_run' hE.ok 1 rfl ?_
 refine OW_end rfl ?_
 refine CW_ret ?_
 refine ⟨.inr rfl, rfl, ⟨_, rfl, rfl, ?_⟩, rfl⟩
 exact AVle.refl _
theorem moveD (ss : List (List Ty)) (cs : List Chg) (e : Ev) (i j : Int) (hok : ChainOk ss cs) : Does Tryd.prog 34 [argCh ss cs, argE e, .d (int i), .d (int j)] noHeap (.tup [argE (mvAt ss cs e i j).1, .d (errC 74 (mvAt ss cs e i j).2)]) := by
 refine Does_of T_ok mixed (N := 68) Tryd.func34 rfl rfl rfl (by rfl) fun F n Z hE hF J => ?_
 refine CW_seq ?_
 refine CW_region ?_
 refine OW_run' hE.ok 1 rfl ?_
 refine OW_alloc' hE 1 rfl rfl rfl rfl rfl rfl rfl ?_
 refine OW_run' hE.ok 1 rfl ?_
 refine OW_end rfl ?_
 refine CW_seq ?_
 refine CW_seq ?_
 refine CW_region ?_
 refine OW_run' hE.ok 2 rfl ?_
 refine OW_call' hE (isD ss cs i) rfl rfl rfl rfl rfl rfl rfl ?_
 refine OW_run' hE.ok 2 rfl ?_
 refine OW_split' 17 rfl (fun h1 => ?_) (fun h1 => ?_)
 ·
  have g1 : (!isIn cs i) = true := h1
  refine OW_run' hE.ok 10 rfl ?_
  refine OW_end rfl ?_
  refine CW_true rfl ?_
  refine CW_seq ?_
  refine CW_region ?_
  refine OW_build' hE rfl rfl rfl rfl rfl ?_
  refine OW_run' hE.ok 1 rfl ?_
  refine OW_store' hE rfl rfl rfl rfl rfl rfl rfl rfl rfl rfl rfl rfl ?_
  refine OW_run' hE.ok 1 rfl ?_
  refine OW_end rfl ?_
  refine CW_ret ?_
  refine ⟨.inr rfl, rfl, ⟨_, rfl, rfl, ?_⟩, rfl⟩
  rw [mv_bad (bad_1 (by simpa using g1))]
  exact AVle.tup (.cons (AVle.agg (.cons (.refl _) (.cons (.refl _) (.cons (.nilSl 3 32) .nil)))) (.cons (.refl _) .nil))
 ·
  have g1 : (!isIn cs i) = false := h1
  refine OW_run' hE.ok 2 rfl ?_
  refine OW_call' hE (isD ss cs j) rfl rfl rfl rfl rfl rfl rfl ?_
  refine OW_run' hE.ok 3 rfl ?_
  refine OW_split' 23 rfl (fun h2 => ?_) (fun h2 => ?_)
  ·
   have g2 : (!isIn cs j) = true := h2
   refine OW_run' hE.ok 4 rfl ?_
   refine OW_end rfl ?_
   refine CW_true rfl ?_
   refine CW_seq ?_
   refine CW_region ?_
   refine OW_build' hE rfl rfl rfl rfl rfl ?_
   refine OW_run' hE.ok 1 rfl ?_
   refine OW_store' hE rfl rfl rfl rfl rfl rfl rfl rfl rfl rfl rfl rfl ?_
   refine OW_run' hE.ok 1 rfl ?_
   refine OW_end rfl ?_
   refine CW_ret ?_
   refine ⟨.inr rfl, rfl, ⟨_, rfl, rfl, ?_⟩, rfl⟩
   rw [mv_bad (bad_2 (by simpa using g2))]
   exact AVle.tup (.cons (AVle.agg (.cons (.refl _) (.cons (.refl _) (.cons (.nilSl 3 32) .nil)))) (.cons (.refl _) .nil))
  ·
   have g2 : (!isIn cs j) = false := h2
   refine OW_run' hE.ok 4 rfl ?_
   refine OW_end rfl ?_
   refine CW_cond _ rfl (fun h3 => ?_) (fun h3 => ?_)
   ·
    have g3 : decide (i > j) = true := h3
    refine CW_seq ?_
    refine CW_region ?_
    refine OW_build' hE rfl rfl rfl rfl rfl ?_
    refine OW_run' hE.ok 1 rfl ?_
    refine OW_store' hE rfl rfl rfl rfl rfl rfl rfl rfl rfl rfl rfl rfl ?_
    refine OW_run' hE.ok 1 rfl ?_
    refine OW_end rfl ?_
    refine CW_ret ?_
    refine ⟨.inr rfl, rfl, ⟨_, rfl, rfl, ?_⟩, rfl⟩
    rw [mv_bad (bad_3 g3)]
    exact AVle.tup (.cons (AVle.agg (.cons (.refl _) (.cons (.refl _) (.cons (.nilSl 3 32) .nil)))) (.cons (.refl _) .nil))
   ·
    have g3 : decide (i > j) = false := h3
    refine CW_skip ?_
    refine CW_seq ?_
    refine CW_seq ?_
    have b1 : isIn cs i = true := by simpa using g1
    have b2 : isIn cs j = true := by simpa using g2
    have hgood := good_3 b1 b2 g3
    obtain ⟨a, rfl, ha⟩ := isIn_at b1
    obtain ⟨b, rfl, hb⟩ := isIn_at b2
    have hab : a ≤ b := by have := g3; simp at this; omega
    obtain ⟨s, hs, hsr⟩ := hok.at ha
    have hlen := hok.len
    have hfew := hok.few
    refine CW_drawn' hE 8 (by decide +kernel) ?_
    refine HW_run hE 5 rfl rfl ?_
    refine HW_loc hE (loc_indexAddr hE rfl rfl rfl rfl rfl (by omega) (x := encS1 s) (by simp [hs])) rfl rfl rfl rfl ?_
    refine HW_run hE 2 rfl rfl ?_
    refine HW_end ?_
    refine OW_call' hE (isEvC s e) rfl rfl rfl rfl rfl rfl rfl ?_
    refine OW_run' hE.ok 1 rfl ?_
    refine OW_end rfl ?_
    refine CW_seq ?_
    refine CW_region ?_
    refine OW_run' hE.ok 1 rfl ?_
    refine OW_loc' hE (loc_errNe hE rfl rfl rfl) rfl rfl rfl ?_
    refine OW_end rfl ?_
    refine CW_cond _ rfl (fun h4 => ?_) (fun h4 => ?_)
    ·
     have he : (evtR s e != 0) = true := h4
     refine CW_seq ?_
     refine CW_region ?_
     refine OW_build' hE rfl rfl rfl rfl rfl ?_
     refine OW_run' hE.ok 1 rfl ?_
     refine OW_store' hE rfl rfl rfl rfl rfl rfl rfl rfl rfl rfl rfl rfl ?_
     refine OW_run' hE.ok 1 rfl ?_
     refine OW_end rfl ?_
     refine CW_ret ?_
     refine ⟨.inr rfl, rfl, ⟨_, rfl, rfl, ?_⟩, rfl⟩
     rw [mv_err hgood hs he]
     exact AVle.tup (.cons (AVle.agg (.cons (.refl _) (.cons (.refl _) (.cons (.nilSl 3 32) .nil)))) (.cons (.refl _) .nil))
    ·
     have he : (evtR s e != 0) = false := h4
     refine CW_skip ?_
     refine CW_seq ?_
     have he0 : evtR s e = 0 := by simpa using he
     have hv5 := evt_few hsr he0
     refine CW_region ?_
     refine OW_run' hE.ok 1 rfl ?_
     refine OW_callOwn' hE 77 (copyOk e) rfl rfl rfl rfl rfl rfl rfl ?_
     refine OW_alloc' hE 2 rfl rfl rfl rfl rfl rfl rfl ?_
     refine OW_store' hE rfl rfl rfl rfl rfl rfl rfl rfl rfl rfl rfl rfl ?_
     refine OW_end rfl ?_
     refine CW_seq ?_
     refine CW_seq ?_
     refine CW.le (LE_freeze 77 32 rfl (by simp; omega)) ?_
     refine CW_region ?_
     refine OW_run' hE.ok 2 rfl ?_
     refine OW_end rfl ?_
     refine CW_block ?_
     refine CW.le (show LE _ _ ⟨J, (sset (sset (sset (sset (sset noSlots 0 (.d (.iptr (encCh ss cs)))) 3 (.d (int ((b : Nat) : Int)))) 8 (.ptr 1 0)) 11 (.ptr 2 0)) 12 (.d (int (((a + 0 : Nat)) : Int)))), (hset (hset noHeap 1 (some (.box 27 [.d (str nul), .d (int 0), .d (.lit (.slice none 0 0))]))) 2 (some (.box 27 ((encE (chM ss cs e a (0))).map .d))))⟩ from LE_sh (slh_set (slh_set (slh_set (slh_set (slh_set (slh_no _ _) rfl rfl) rfl rfl) rfl rfl) rfl rfl) rfl rfl) (hlh_set (hlh_set (hlh_no _ _) rfl rfl) rfl rfl)) ?_
     refine CW_loop (σ := {q : Nat // a + q ≤ b}) (fun q => ⟨J, (sset (sset (sset (sset (sset noSlots 0 (.d (.iptr (encCh ss cs)))) 3 (.d (int ((b : Nat) : Int)))) 8 (.ptr 1 0)) 11 (.ptr 2 0)) 12 (.d (int (((a + q.1 : Nat)) : Int)))), (hset (hset noHeap 1 (some (.box 27 [.d (str nul), .d (int 0), .d (.lit (.slice none 0 0))]))) 2 (some (.box 27 ((encE (chM ss cs e a (q.1))).map .d))))⟩) (fun q => b - a - q.1) ⟨0, hab⟩ (LE.refl _ _) fun ⟨q, hq⟩ => ?_
     refine CW_seq ?_
     refine CW_seq ?_
     refine CW_region ?_
     refine OW_run' hE.ok 3 rfl ?_
     refine OW_end rfl ?_
     refine CW_cond _ rfl (fun h5 => ?_) (fun h5 => ?_)
     ·
      have hlt : a + q < b := by have := h5; simp at this; omega
      obtain ⟨s1, hs1, hr1⟩ := chM_right hok hs he0 q (by omega)
      have hsr1 := hok.right s1 (List.mem_of_getElem? hs1)
      obtain ⟨d, hd⟩ : ∃ d, cs[a + q]? = some d := ⟨_, List.getElem?_eq_getElem (by omega)⟩
      have hvq := evt_few hsr1 hr1
      refine CW_skip ?_
      refine CW_seq ?_
      refine CW_block ?_
      refine CW_drawn' hE 15 (by decide +kernel) ?_
      refine HW_run hE 5 rfl rfl ?_
      refine HW_loc hE (loc_indexAddr hE rfl rfl rfl rfl rfl (by omega) (x := encS1 s1) (by rw [Int.toNat_natCast, List.getElem?_map, hs1]; rfl)) rfl rfl rfl rfl ?_
      refine HW_run hE 6 rfl rfl ?_
      refine HW_loc hE (loc_indexAddr hE rfl rfl rfl rfl rfl (by omega) (x := encC d) (by rw [Int.toNat_natCast, List.getElem?_map, hd]; rfl)) rfl rfl rfl rfl ?_
      refine HW_run hE 2 rfl rfl ?_
      refine HW_end ?_
      refine OW_call' hE ((by have hq := moveOk s1 d (chM ss cs e a q) hsr1 (by omega); rw [← chM_succ hs1 hd] at hq; exact hq)) rfl rfl rfl rfl rfl rfl rfl ?_
      refine OW_store' hE rfl rfl rfl rfl rfl rfl rfl rfl rfl rfl rfl rfl ?_
      refine OW_end rfl ?_
      refine CW_region ?_
      refine OW_run' hE.ok 3 rfl ?_
      refine OW_end rfl ?_
      refine ⟨⟨q + 1, by omega⟩, LE_sh (slh_set (v := .d (int (((a + (q + 1) : Nat)) : Int))) (slh_set (v := .ptr 2 0) (slh_set (v := .ptr 1 0) (slh_set (v := .d (int ((b : Nat) : Int))) (slh_set (v := .d (.iptr (encCh ss cs))) (slh_no _ _) (by rfl) rfl) (by rfl) rfl) (by rfl) rfl) (by rfl) rfl) (by show AV.d (.lit (.int .i64 (IntKind.i64.wrap (((a + q : Nat) : Int) + 1)))) = _; rw [wrap_succ (by omega)]; rfl) rfl) (hlh_set (hlh_set (hlh_no _ _) rfl rfl) rfl rfl), by show b - a - (q + 1) < b - a - q; omega⟩
     ·
      have hge : a + q = b := by have := h5; simp at this; omega
      have hqe : b - a = q := by omega
      refine CW_exit ?_
      show CW _ _ _ _
      refine CW_seq ?_
      refine CW_region ?_
      refine OW_run' hE.ok 1 rfl ?_
      refine OW_store' hE rfl rfl rfl rfl rfl rfl rfl rfl rfl rfl rfl rfl ?_
      refine OW_run' hE.ok 1 rfl ?_
      refine OW_end rfl ?_
      refine CW_ret ?_
      refine ⟨.inr rfl, rfl, ⟨_, rfl, rfl, ?_⟩, rfl⟩
      rw [mv_ok hgood hs he]
      show AVle _ (.tup [argE (chM ss cs e a (b - a)), _])
      rw [hqe]
      exact AVle.refl _
theorem last1 (ss : List (List Ty)) (cs : List Chg) (i j : Nat) (hij : i ≤ j) (hj : j ≤ cs.length) (hfew : cs.length ≤ 20) : Iter Tryd.prog 97 [] [.d (.iptr [int ((j : Nat) : Int)]), .d (.iptr [int ((i : Nat) : Int)]), .d (.iptr [.iptr (encCh ss cs)])] (ysL (lastX cs i j)) := by
 refine Iter_of T_ok mixed (N := 23) Tryd.func97 rfl rfl rfl (by rfl) fun F n Z hE hF l C X hC hX hy => ?_
 refine CW_seq ?_
 refine CW_region ?_
 refine OW_run' hE.ok 3 rfl ?_
 refine OW_end rfl ?_
 refine CW_block ?_
 refine CW.le (show LE _ _ ⟨C 0, (sset (sset (sset (sset noSlots 0 (.d (.fn (.yield l) [] []))) 2 (.d (.iptr [int ((i : Nat) : Int)]))) 3 (.d (.iptr [.iptr (encCh ss cs)]))) 5 (.d (int (((j : Nat) : Int) - 1 - (0 : Nat))))), noHeap⟩ from LE_sh (slh_set (v := .d (int (((j : Nat) : Int) - 1 - (0 : Nat)))) (slh_set (v := .d (.iptr [.iptr (encCh ss cs)])) (slh_set (v := .d (.iptr [int ((i : Nat) : Int)])) (slh_set (v := .d (.fn (.yield l) [] [])) (slh_no _ _) (by rfl) rfl) (by rfl) rfl) (by rfl) rfl) (by show AV.d (.lit (.int .i64 (IntKind.i64.wrap ((j : Int) - 1)))) = _; rw [wrap_sm (by omega) (by omega)]; simp [int]) rfl) (hlh_no _ _)) ?_
 refine CW_loop (σ := {q : Nat // q ≤ j - i}) (fun q => ⟨C q.1, (sset (sset (sset (sset noSlots 0 (.d (.fn (.yield l) [] []))) 2 (.d (.iptr [int ((i : Nat) : Int)]))) 3 (.d (.iptr [.iptr (encCh ss cs)]))) 5 (.d (int (((j : Nat) : Int) - 1 - (q.1 : Nat))))), noHeap⟩) (fun q => j - i - q.1) ⟨0, Nat.zero_le _⟩ (LE.refl _ _) fun ⟨q, hq⟩ => ?_
 refine CW_seq ?_
 refine CW_seq ?_
 refine CW_region ?_
 refine OW_run' hE.ok 3 rfl ?_
 refine OW_end rfl ?_
 refine CW_cond _ rfl (fun h1 => ?_) (fun h1 => ?_)
 ·
  have hlt : q < j - i := by have := h1; simp at this; omega
  obtain ⟨d, hd⟩ : ∃ d, cs[j - 1 - q]? = some d := ⟨_, List.getElem?_eq_getElem (by omega)⟩
  have hld : (lastX cs i j)[q]? = some d := by rw [lastX_get hj hlt]; exact hd
  have hje : (j : Int) - 1 - (q : Nat) = ((j - 1 - q : Nat) : Int) := by omega
  refine CW_skip ?_
  refine CW_seq ?_
  refine CW_block ?_
  refine CW_seq ?_
  refine CW_region ?_
  refine OW_run' hE.ok 6 rfl ?_
  refine OW_as' 18 (.d (int ((j - 1 - q : Nat) : Int))) (by exact congrArg (fun z => AV.d (int z)) hje) ?_
  refine OW_loc' hE (loc_indexAddr hE rfl rfl rfl rfl rfl (by omega) (x := encC d) (by simp [hd])) rfl rfl rfl ?_
  refine OW_run' hE.ok 1 rfl ?_
  refine OW_yield' hE hy hC hX (Wrap.id _) (q) rfl rfl rfl rfl rfl rfl (ysL_get hld) rfl rfl rfl ?_ ?_
  ·
   refine OW_run' hE.ok 1 rfl ?_
   refine OW_end rfl ?_
   refine CW_false rfl ?_
   refine CW_skip ?_
   refine CW_region ?_
   refine OW_run' hE.ok 3 rfl ?_
   refine OW_end rfl ?_
   exact ⟨⟨q + 1, by omega⟩, LE_sh (slh_set (v := .d (int (((j : Nat) : Int) - 1 - (q + 1 : Nat)))) (slh_set (v := .d (.iptr [.iptr (encCh ss cs)])) (slh_set (v := .d (.iptr [int ((i : Nat) : Int)])) (slh_set (v := .d (.fn (.yield l) [] [])) (slh_no _ _) (by rfl) rfl) (by rfl) rfl) (by rfl) rfl) (by show AV.d (.lit (.int .i64 (IntKind.i64.wrap (((j : Nat) : Int) - 1 - (q : Nat) - 1)))) = _; rw [wrap_sm (by omega) (by omega)]; simp [int]; omega) rfl) (hlh_no _ _), by show j - i - (q + 1) < j - i - q; omega⟩
  ·
   refine OW_run' hE.ok 1 rfl ?_
   refine OW_end rfl ?_
   refine CW_true rfl ?_
   exact CW_ret ⟨.inr rfl, .inr rfl, _, rfl⟩
 ·
  have hge : ¬ q < j - i := by have := h1; simp at this; omega
  refine CW_exit ?_
  have hN : q = (ysL (lastX cs i j)).length := by rw [ysL_length, lastX_len hj]; omega
  show RetI _ _ _ _ .normal _
  exact ⟨.inl rfl, .inl (by show C q = _; rw [← hN]), _, rfl⟩
theorem lastD (ss : List (List Ty)) (cs : List Chg) (i j : Nat) : Does Tryd.prog 86 [argCh ss cs, .d (int ((i : Nat) : Int)), .d (int ((j : Nat) : Int))] noHeap (.d (.fn (.func 97) [] [.iptr [int ((j : Nat) : Int)], .iptr [int ((i : Nat) : Int)], .iptr [.iptr (encCh ss cs)]])) := by
 refine Does_of T_ok mixed (N := 8) Tryd.func86 rfl rfl rfl (by rfl) fun F n Z hE hF J => ?_
 refine CW_seq ?_
 refine CW_region ?_
 refine OW_run' hE.ok 4 rfl ?_
 refine OW_end rfl ?_
 refine CW_seq ?_
 refine CW_region ?_
 refine OW_run' hE.ok 2 rfl ?_
 refine OW_end rfl ?_
 refine CW_ret ?_
 refine ⟨.inr rfl, rfl, ⟨_, rfl, rfl, ?_⟩, rfl⟩
 exact AVle.refl _
end Go.Proofs.YtchpllgeahnmmaaDoor
namespace Go.Proofs.YtchpllgeahnmmaaDoor
open Go Go.AL
set_option linter.unusedVariables false
set_option linter.unusedSimpArgs false
set_option maxHeartbeats 4000000
theorem backD (ss : List (List Ty)) (cs : List Chg) (ty f : ByteArray) (i j : Int) (hok : ChainOk ss cs) : Does Tryd.prog 61 [argCh ss cs, .d (str ty), .d (str f), .d (int i), .d (int j)] noHeap (.tup [.d (str (backAt ss cs ty f i j).1), .d (boo (backAt ss cs ty f i j).2)]) := by
 refine Does_of T_ok mixed (N := 71) Tryd.func61 rfl rfl rfl (by rfl) fun F n Z hE hF J => ?_
 refine CW_seq ?_
 refine CW_region ?_
 refine OW_run' hE.ok 1 rfl ?_
 refine OW_box' hE 1 rfl rfl rfl rfl rfl rfl ?_
 refine OW_alloc' hE 2 rfl rfl rfl rfl rfl rfl rfl ?_
 refine OW_alloc' hE 3 rfl rfl rfl rfl rfl rfl rfl ?_
 refine OW_end rfl ?_
 refine CW_seq ?_
 refine CW_seq ?_
 refine CW_region ?_
 refine OW_run' hE.ok 2 rfl ?_
 refine OW_call' hE (isD ss cs i) rfl rfl rfl rfl rfl rfl rfl ?_
 refine OW_run' hE.ok 2 rfl ?_
 refine OW_split' 21 rfl (fun h1 => ?_) (fun h1 => ?_)
 ·
  have g1 : (!isIn cs i) = true := h1
  refine OW_run' hE.ok 10 rfl ?_
  refine OW_end rfl ?_
  refine CW_true rfl ?_
  refine CW_seq ?_
  refine CW_region ?_
  refine OW_store' hE rfl rfl rfl rfl rfl rfl rfl rfl rfl rfl rfl rfl ?_
  refine OW_store' hE rfl rfl rfl rfl rfl rfl rfl rfl rfl rfl rfl rfl ?_
  refine OW_end rfl ?_
  refine CW_ret ?_
  refine ⟨.inr rfl, rfl, ⟨_, rfl, rfl, ?_⟩, rfl⟩
  rw [ba_bad (bad_1 (by simpa using g1))]
  exact AVle.refl _
 ·
  have g1 : (!isIn cs i) = false := h1
  refine OW_run' hE.ok 2 rfl ?_
  refine OW_call' hE (isD ss cs j) rfl rfl rfl rfl rfl rfl rfl ?_
  refine OW_run' hE.ok 3 rfl ?_
  refine OW_split' 27 rfl (fun h2 => ?_) (fun h2 => ?_)
  ·
   have g2 : (!isIn cs j) = true := h2
   refine OW_run' hE.ok 4 rfl ?_
   refine OW_end rfl ?_
   refine CW_true rfl ?_
   refine CW_seq ?_
   refine CW_region ?_
   refine OW_store' hE rfl rfl rfl rfl rfl rfl rfl rfl rfl rfl rfl rfl ?_
   refine OW_store' hE rfl rfl rfl rfl rfl rfl rfl rfl rfl rfl rfl rfl ?_
   refine OW_end rfl ?_
   refine CW_ret ?_
   refine ⟨.inr rfl, rfl, ⟨_, rfl, rfl, ?_⟩, rfl⟩
   rw [ba_bad (bad_2 (by simpa using g2))]
   exact AVle.refl _
  ·
   have g2 : (!isIn cs j) = false := h2
   refine OW_run' hE.ok 4 rfl ?_
   refine OW_end rfl ?_
   refine CW_cond _ rfl (fun h3 => ?_) (fun h3 => ?_)
   ·
    have g3 : decide (i > j) = true := h3
    refine CW_seq ?_
    refine CW_region ?_
    refine OW_store' hE rfl rfl rfl rfl rfl rfl rfl rfl rfl rfl rfl rfl ?_
    refine OW_store' hE rfl rfl rfl rfl rfl rfl rfl rfl rfl rfl rfl rfl ?_
    refine OW_end rfl ?_
    refine CW_ret ?_
    refine ⟨.inr rfl, rfl, ⟨_, rfl, rfl, ?_⟩, rfl⟩
    rw [ba_bad (bad_3 g3)]
    exact AVle.refl _
   ·
    have g3 : decide (i > j) = false := h3
    refine CW_skip ?_
    refine CW_seq ?_
    have b1 : isIn cs i = true := by simpa using g1
    have b2 : isIn cs j = true := by simpa using g2
    have hgood := good_3 b1 b2 g3
    obtain ⟨a, rfl, ha⟩ := isIn_at b1
    obtain ⟨b, rfl, hb⟩ := isIn_at b2
    have hab : a ≤ b := by have := g3; simp at this; omega
    obtain ⟨s, hs, hsr⟩ := hok.at hb
    have hlen := hok.len
    have hfew := hok.few
    refine CW_drawn2 hE 14 12 13 4 (by decide +kernel) (V := (encT (findT s ty).1).map .d) rfl rfl rfl rfl rfl rfl rfl rfl rfl (by decide +kernel) rfl rfl rfl rfl rfl ?_
    refine H2_run hE 5 rfl rfl rfl rfl rfl ?_
    refine H2_loc hE (fun b => loc_indexAddr hE rfl rfl rfl rfl rfl (by omega) (x := encS1 s) (by simp [hs])) rfl rfl rfl rfl rfl ?_
    refine H2_run hE 2 rfl rfl rfl rfl rfl ?_
    refine H2_call hE (findOk s ty) rfl rfl rfl rfl rfl rfl rfl rfl rfl ?_
    refine H2_run hE 3 rfl rfl rfl rfl rfl ?_
    refine H2_alloc rfl rfl rfl ?_
    refine H2_store rfl rfl rfl rfl rfl rfl rfl rfl ?_
    refine H2_end ?_
    refine OW_run' hE.ok 1 rfl ?_
    refine OW_end rfl ?_
    refine CW_seq ?_
    refine CW_seq ?_
    refine CW_region ?_
    refine OW_run' hE.ok 3 rfl ?_
    refine OW_split' 46 rfl (fun h4 => ?_) (fun h4 => ?_)
    ·
     have k1 : (!(findT s ty).2) = true := h4
     refine OW_run' hE.ok 5 rfl ?_
     refine OW_end rfl ?_
     refine CW_true rfl ?_
     refine CW_seq ?_
     refine CW_region ?_
     refine OW_store' hE rfl rfl rfl rfl rfl rfl rfl rfl rfl rfl rfl rfl ?_
     refine OW_store' hE rfl rfl rfl rfl rfl rfl rfl rfl rfl rfl rfl rfl ?_
     refine OW_end rfl ?_
     refine CW_ret ?_
     refine ⟨.inr rfl, rfl, ⟨_, rfl, rfl, ?_⟩, rfl⟩
     rw [ba_no hgood hs (by rw [k1]; rfl)]
     exact AVle.refl _
    ·
     have k1 : (!(findT s ty).2) = false := h4
     refine OW_run' hE.ok 2 rfl ?_
     refine OW_call' hE (fieldOk (findT s ty).1 f) rfl rfl rfl rfl rfl rfl rfl ?_
     refine OW_run' hE.ok 2 rfl ?_
     refine OW_end rfl ?_
     refine CW_cond _ rfl (fun h5 => ?_) (fun h5 => ?_)
     ·
      have k2 : decide (fieldAt (findT s ty).1 f < 0) = true := h5
      refine CW_seq ?_
      refine CW_region ?_
      refine OW_store' hE rfl rfl rfl rfl rfl rfl rfl rfl rfl rfl rfl rfl ?_
      refine OW_store' hE rfl rfl rfl rfl rfl rfl rfl rfl rfl rfl rfl rfl ?_
      refine OW_end rfl ?_
      refine CW_ret ?_
      refine ⟨.inr rfl, rfl, ⟨_, rfl, rfl, ?_⟩, rfl⟩
      rw [ba_no hgood hs (by rw [k1, k2]; rfl)]
      exact AVle.refl _
     ·
      have k2 : decide (fieldAt (findT s ty).1 f < 0) = false := h5
      refine CW_skip ?_
      refine CW_seq ?_
      refine CW_seq ?_
      refine CW_region ?_
      refine OW_run' hE.ok 3 rfl ?_
      refine OW_call' hE (lastD ss cs a b) rfl rfl rfl rfl rfl rfl rfl ?_
      refine OW_end rfl ?_
      refine CW_block ?_
      refine CW.le (show LE _ _ ⟨J, (sset (sset (sset (sset (sset noSlots 6 (.d (.iptr [str ty]))) 7 (.ptr 1 0)) 10 (.ptr 2 0)) 11 (.ptr 3 0)) 55 (.d (.fn (.func 97) [] [.iptr [int ((b : Nat) : Int)], .iptr [int ((a : Nat) : Int)], .iptr [.iptr (encCh ss cs)]]))), (hset (hset (hset noHeap 1 (some (.box 9 [.d (str (bkAt ty (lastX cs a b) f (0)))]))) 2 (some (.box 9 [.d (str nul)]))) 3 (some (.box 4 [.d (boo false)])))⟩ from LE_sh (slh_set (v := .d (.fn (.func 97) [] [.iptr [int ((b : Nat) : Int)], .iptr [int ((a : Nat) : Int)], .iptr [.iptr (encCh ss cs)]])) (slh_set (v := .ptr 3 0) (slh_set (v := .ptr 2 0) (slh_set (v := .ptr 1 0) (slh_set (v := .d (.iptr [str ty])) (slh_no _ _) (by rfl) rfl) (by rfl) rfl) (by rfl) rfl) (by rfl) rfl) (by rfl) rfl) (hlh_set (hlh_set (hlh_set (hlh_no _ _) rfl rfl) rfl rfl) rfl rfl)) ?_
      refine CW_rangeH hE hF (last1 ss cs a b hab hb hfew) rfl rfl rfl (ysL_kf (lastX cs a b)) rfl 9 (fun i => (hset (hset (hset noHeap 1 (some (.box 9 [.d (str (bkAt ty (lastX cs a b) f (i)))]))) 2 (some (.box 9 [.d (str nul)]))) 3 (some (.box 4 [.d (boo false)])))) (fun i => ∃ g, bkX ty ((lastX cs a b).take i) f = some g) rfl (fun _ => rfl) ⟨f, rfl⟩ (fun F' n' Z' Br Bb hE hB vs i args hargs hp => ?_) (fun hp vs => ?_)
      ·
       obtain ⟨c, hc, rfl⟩ := ysL_of hargs
       obtain ⟨g, hg⟩ := hp
       have hgi : bkAt ty (lastX cs a b) f i = g := bkAt_some hg
       refine CW_region ?_
       refine OW_alloc' hE 5 rfl rfl rfl rfl rfl rfl rfl ?_
       refine OW_store' hE rfl rfl rfl rfl rfl rfl rfl rfl rfl rfl rfl rfl ?_
       refine OW_end rfl ?_
       refine ⟨rfl, rfl, ?_⟩
       refine CW_block ?_
       refine CW_seq ?_
       refine CW_seq ?_
       refine CW_region ?_
       refine OW_run' hE.ok 4 rfl ?_
       refine OW_end rfl ?_
       refine CW_cond _ rfl (fun h6 => ?_) (fun h6 => ?_)
       ·
        have m1 : (!(c.ty.toList == ty.toList)) = true := h6
        have hnx : bkX ty ((lastX cs a b).take (i + 1)) f = some g := by rw [bkX_succ hc hg]; exact bk_off m1
        have hcur : bkAt ty (lastX cs a b) f i = bkAt ty (lastX cs a b) f (i + 1) := hgi.trans (bkAt_some hnx).symm
        refine CW_exit ?_
        exact ⟨⟨Bb J, noSlots, (hset (hset (hset (hset noHeap 1 (some (.box 9 [.d (str (bkAt ty (lastX cs a b) f (i + 1)))]))) 2 (some (.box 9 [.d (str nul)]))) 3 (some (.box 4 [.d (boo false)]))) 9 (some (.ghost _ vs)))⟩, LE_sh (slh_no _ _) (hlh_set (hlh_set (hlh_set (hlh_set (hlh_no _ _) (by exact congrArg (fun z => some (Ent.box 9 [.d (str z)])) hcur) rfl) rfl rfl) rfl rfl) rfl rfl), J, rfl, rfl, rfl, ⟨_, hnx⟩⟩
       ·
        have m1 : (!(c.ty.toList == ty.toList)) = false := h6
        refine CW_skip ?_
        refine CW_seq ?_
        refine CW_region ?_
        refine OW_run' hE.ok 2 rfl ?_
        refine OW_call' hE (backOk c (bkAt ty (lastX cs a b) f i)) rfl rfl rfl rfl rfl rfl rfl ?_
        refine OW_run' hE.ok 5 rfl ?_
        refine OW_end rfl ?_
        refine CW_seq ?_
        refine CW_seq ?_
        refine CW_region ?_
        refine OW_run' hE.ok 2 rfl ?_
        refine OW_end rfl ?_
        refine CW_cond _ rfl (fun h7 => ?_) (fun h7 => ?_)
        ·
         have m2 : (!(backX c (bkAt ty (lastX cs a b) f i)).2) = true := h7
         refine CW_seq ?_
         refine CW_region ?_
         refine OW_store' hE rfl rfl rfl rfl rfl rfl rfl rfl rfl rfl rfl rfl ?_
         refine OW_store' hE rfl rfl rfl rfl rfl rfl rfl rfl rfl rfl rfl rfl ?_
         refine OW_end rfl ?_
         refine CW_ret ⟨_, LE.refl _ _, J, _, fun h => h, rfl, rfl, ?_⟩
         refine ⟨.inr rfl, rfl, ⟨_, rfl, rfl, ?_⟩, rfl⟩
         rw [ba_none hgood hs (by rw [k1, k2]; rfl) (bkX_none (l := lastX cs a b) (i + 1) (by rw [bkX_succ hc hg]; exact bk_gone m1 (by rw [← hgi]; exact m2)))]; exact AVle.refl _
        ·
         have m2 : (!(backX c (bkAt ty (lastX cs a b) f i)).2) = false := h7
         have hnx : bkX ty ((lastX cs a b).take (i + 1)) f = some (backX c g).1 := by rw [bkX_succ hc hg]; exact bk_on m1 (by rw [← hgi]; exact m2)
         have hcur : (backX c (bkAt ty (lastX cs a b) f i)).1 = bkAt ty (lastX cs a b) f (i + 1) := by rw [hgi]; exact (bkAt_some hnx).symm
         refine CW_skip ?_
         refine CW_region ?_
         refine OW_run' hE.ok 1 rfl ?_
         refine OW_store' hE rfl rfl rfl rfl rfl rfl rfl rfl rfl rfl rfl rfl ?_
         refine OW_end rfl ?_
         exact ⟨⟨Bb J, noSlots, (hset (hset (hset (hset noHeap 1 (some (.box 9 [.d (str (bkAt ty (lastX cs a b) f (i + 1)))]))) 2 (some (.box 9 [.d (str nul)]))) 3 (some (.box 4 [.d (boo false)]))) 9 (some (.ghost _ vs)))⟩, LE_sh (slh_no _ _) (hlh_set (hlh_set (hlh_set (hlh_set (hlh_no _ _) (by exact congrArg (fun z => some (Ent.box 9 [.d (str z)])) hcur) rfl) rfl rfl) rfl rfl) rfl rfl), J, rfl, rfl, rfl, ⟨_, hnx⟩⟩
      ·
       obtain ⟨g, hg⟩ := hp
       have hbk := bkAt_some hg
       have hgl : bkX ty (lastX cs a b) f = some g := by rw [ysL_length, List.take_length] at hg; exact hg
       refine CW_seq ?_
       refine CW_region ?_
       refine OW_run' hE.ok 1 rfl ?_
       refine OW_store' hE rfl rfl rfl rfl rfl rfl rfl rfl rfl rfl rfl rfl ?_
       refine OW_store' hE rfl rfl rfl rfl rfl rfl rfl rfl rfl rfl rfl rfl ?_
       refine OW_end rfl ?_
       refine CW_ret ?_
       refine ⟨.inr rfl, rfl, ⟨_, rfl, rfl, ?_⟩, rfl⟩
       rw [ba_some hgood hs (by rw [k1, k2]; rfl) hgl]
       show AVle (.tup [.d (str (bkAt ty (lastX cs a b) f (ysL (lastX cs a b)).length)), .d (boo true)]) _
       rw [hbk]
       exact AVle.refl _
end Go.Proofs.YtchpllgeahnmmaaDoor
namespace Go.Proofs.YtchpllgeahnmmaaDoor
open Go Go.AL
set_option linter.unusedVariables false
set_option linter.unusedSimpArgs false
set_option maxHeartbeats 4000000
theorem known5  : Does Tryd.prog 26 [] noHeap (.d (boo true)) := by
 refine Does_of T_ok mixed (N := 114) Tryd.func26 rfl rfl rfl (by rfl) fun F n Z hE hF J => ?_
 have q0 := newOk k5S [k5C] k5_s k5_all; rw [k5_n] at q0
 have q1 := addOk [k5S, k5S1] [k5C] k5C2 k5_ok1; rw [k5_e] at q1; rw [k5_as] at q1; rw [k5_ac] at q1
 have q2 := moveD [k5S, k5S1, k5S2] [k5C, k5C2] k5E 0 2 k5_ok2; rw [k5_m] at q2
 have q3 := backD [k5S, k5S1, k5S2] [k5C, k5C2] kA kY 0 2 k5_ok2; rw [k5_b] at q3
 have q4 := backD [k5S, k5S1, k5S2] [k5C, k5C2] kA kZ 0 2 k5_ok2; rw [k5_b2] at q4
 have q5 := moveD [k5S, k5S1, k5S2] [k5C, k5C2] zeroEv 0 9 k5_ok2; rw [k5_m2] at q5
 have q6 := atD [k5S, k5S1, k5S2] [k5C, k5C2] 1 k5S1 rfl rfl
 refine CW_seq ?_
 refine CW_region ?_
 refine OW_run' hE.ok 1 rfl ?_
 refine OW_end rfl ?_
 refine CW_seq ?_
 refine CW_region ?_
 refine OW_build' hE rfl rfl rfl rfl rfl ?_
 refine OW_lits' hE rfl rfl rfl rfl rfl rfl rfl rfl rfl rfl rfl rfl ?_
 refine OW_build' hE rfl rfl rfl rfl rfl ?_
 refine OW_lits' hE rfl rfl rfl rfl rfl rfl rfl rfl rfl rfl rfl rfl ?_
 refine OW_build' hE rfl rfl rfl rfl rfl ?_
 refine OW_alloc' hE 1 rfl rfl rfl rfl rfl rfl rfl ?_
 refine OW_store' hE rfl rfl rfl rfl rfl rfl rfl rfl rfl rfl rfl rfl ?_
 refine OW_end rfl ?_
 refine CW_seq ?_
 refine CW_region ?_
 refine OW_run' hE.ok 1 rfl ?_
 refine OW_build' hE rfl rfl rfl rfl rfl ?_
 refine OW_lits' hE rfl rfl rfl rfl rfl rfl rfl rfl rfl rfl rfl rfl ?_
 refine OW_callM' hE (tr []) q0 rfl rfl rfl rfl rfl trivial rfl rfl ?_
 refine OW_run' hE.ok 5 rfl ?_
 refine OW_end rfl ?_
 refine CW_seq ?_
 refine CW_seq ?_
 refine CW.le (show LE _ _ ⟨J, (sset (sset noSlots 2 (.ptr 40 0)) 3 (.d (errC 74 0))), (hset (hset (hset noHeap 40 (some (.box 102 [.row 50, .row 51]))) 50 (some (.row 24 1 ([k5S, k5S1].map encS1)))) 51 (some (.row 43 7 ([k5C].map encC))))⟩ from LE_sh (slh_set (v := .d (errC 74 0)) (slh_set (v := .ptr 40 0) (slh_no _ _) (by rfl) rfl) (by rfl) rfl) (hlh_set (hlh_set (hlh_set (hlh_no _ _) rfl rfl) rfl rfl) rfl rfl)) ?_
 refine CW_region ?_
 refine OW_run' hE.ok 1 rfl ?_
 refine OW_loc' hE (loc_errNe hE rfl rfl (EN := 74) (z := 0) rfl) rfl rfl rfl ?_
 refine OW_run' hE.ok 2 rfl ?_
 refine OW_loc' hE (loc_ptrNil hE rfl rfl (k := 40) (off := 0) rfl) rfl rfl rfl ?_
 refine OW_run' hE.ok 1 rfl ?_
 refine OW_end rfl ?_
 refine CW_false rfl ?_
 refine CW_skip ?_
 refine CW_seq ?_
 refine CW_region ?_
 refine OW_run' hE.ok 1 rfl ?_
 refine OW_build' hE rfl rfl rfl rfl rfl ?_
 refine OW_build' hE rfl rfl rfl rfl rfl ?_
 refine OW_callM' hE (tr []) q1 rfl rfl rfl rfl rfl ⟨rfl, rfl, rfl, trivial⟩ rfl rfl ?_
 refine OW_run' hE.ok 1 rfl ?_
 refine OW_end rfl ?_
 refine CW_seq ?_
 refine CW.le (show LE _ _ ⟨J, (sset (sset (sset noSlots 2 (.ptr 40 0)) 3 (.d (errC 74 0))) 4 (.d (errC 74 0))), (hset (hset (hset noHeap 40 (some (.box 102 [.row 50, .row 51]))) 50 (some (.row 24 1 ([k5S, k5S1, k5S2].map encS1)))) 51 (some (.row 43 7 ([k5C, k5C2].map encC))))⟩ from LE_sh (slh_set (v := .d (errC 74 0)) (slh_set (v := .d (errC 74 0)) (slh_set (v := .ptr 40 0) (slh_no _ _) (by rfl) rfl) (by rfl) rfl) (by rfl) rfl) (hlh_set (hlh_set (hlh_set (hlh_no _ _) rfl rfl) rfl rfl) rfl rfl)) ?_
 refine CW.le (LE_freeze 50 24 rfl (by simp <;> omega)) ?_
 refine CW.le (LE_freeze 51 88 rfl (by simp <;> omega)) ?_
 refine CW.le (LE_freezeBox 40 (ds := encCh [k5S, k5S1, k5S2] [k5C, k5C2]) rfl rfl) ?_
 refine CW.le (show LE _ _ ⟨J, (sset (sset (sset noSlots 2 (.d (.iptr (encCh [k5S, k5S1, k5S2] [k5C, k5C2])))) 3 (.d (errC 74 0))) 4 (.d (errC 74 0))), noHeap⟩ from LE_sh (slh_set (v := .d (errC 74 0)) (slh_set (v := .d (errC 74 0)) (slh_set (v := .d (.iptr (encCh [k5S, k5S1, k5S2] [k5C, k5C2]))) (slh_no _ _) (by rfl) rfl) (by rfl) rfl) (by rfl) rfl) (hlh_no _ _)) ?_
 refine CW_region ?_
 refine OW_run' hE.ok 1 rfl ?_
 refine OW_build' hE rfl rfl rfl rfl rfl ?_
 refine OW_lits' hE rfl rfl rfl rfl rfl rfl rfl rfl rfl rfl rfl rfl ?_
 refine OW_build' hE rfl rfl rfl rfl rfl ?_
 refine OW_call' hE (q2) rfl rfl rfl rfl rfl rfl rfl ?_
 refine OW_run' hE.ok 3 rfl ?_
 refine OW_alloc' hE 2 rfl rfl rfl rfl rfl rfl rfl ?_
 refine OW_store' hE rfl rfl rfl rfl rfl rfl rfl rfl rfl rfl rfl rfl ?_
 refine OW_run' hE.ok 1 rfl ?_
 refine OW_end rfl ?_
 refine CW_seq ?_
 refine CW_region ?_
 refine OW_run' hE.ok 1 rfl ?_
 refine OW_call' hE (q3) rfl rfl rfl rfl rfl rfl rfl ?_
 refine OW_run' hE.ok 5 rfl ?_
 refine OW_end rfl ?_
 refine CW_seq ?_
 refine CW_region ?_
 refine OW_run' hE.ok 1 rfl ?_
 refine OW_call' hE (q4) rfl rfl rfl rfl rfl rfl rfl ?_
 refine OW_run' hE.ok 5 rfl ?_
 refine OW_end rfl ?_
 refine CW_seq ?_
 refine CW_region ?_
 refine OW_run' hE.ok 1 rfl ?_
 refine OW_build' hE rfl rfl rfl rfl rfl ?_
 refine OW.le (LE_slot 57 (argE zeroEv) (AVle.agg (.cons (.refl _) (.cons (.refl _) (.cons (.nilSl 3 32) .nil))))) ?_
 refine OW_call' hE (q5) rfl rfl rfl rfl rfl rfl rfl ?_
 refine OW_run' hE.ok 3 rfl ?_
 refine OW_alloc' hE 3 rfl rfl rfl rfl rfl rfl rfl ?_
 refine OW_store' hE rfl rfl rfl rfl rfl rfl rfl rfl rfl rfl rfl rfl ?_
 refine OW_run' hE.ok 1 rfl ?_
 refine OW_end rfl ?_
 refine CW_seq ?_
 refine CW_region ?_
 refine OW_run' hE.ok 1 rfl ?_
 refine OW_call' hE (q6) rfl rfl rfl rfl rfl rfl rfl ?_
 refine OW_run' hE.ok 3 rfl ?_
 refine OW_alloc' hE 4 rfl rfl rfl rfl rfl rfl rfl ?_
 refine OW_store' hE rfl rfl rfl rfl rfl rfl rfl rfl rfl rfl rfl rfl ?_
 refine OW_run' hE.ok 1 rfl ?_
 refine OW_end rfl ?_
 refine CW_seq ?_
 refine CW_region ?_
 refine OW_run' hE.ok 1 rfl ?_
 refine OW_loc' hE (loc_errEq hE rfl rfl (EN := 74) (z := 0) rfl) rfl rfl rfl ?_
 refine OW_run' hE.ok 2 rfl ?_
 refine OW_call' hE (nowD [k5S, k5S1, k5S2] [k5C, k5C2]) rfl rfl rfl rfl rfl rfl rfl ?_
 refine OW_run' hE.ok 4 rfl ?_
 refine OW_loc' hE (loc_errEq hE rfl rfl (EN := 74) (z := 0) rfl) rfl rfl rfl ?_
 refine OW_run' hE.ok 13 rfl ?_
 refine OW_as' 88 (.d (boo true)) (congrArg (fun b => AV.d (boo b)) (same_refl kX)) ?_
 refine OW_run' hE.ok 1 rfl ?_
 refine OW_run' hE.ok 7 rfl ?_
 refine OW_call' hE (errIs 20 20) rfl rfl rfl rfl rfl rfl rfl ?_
 refine OW_run' hE.ok 12 rfl ?_
 refine OW_call' hE (changesD [k5S, k5S1, k5S2] [k5C, k5C2]) rfl rfl rfl rfl rfl rfl rfl ?_
 refine OW_run' hE.ok 4 rfl ?_
 refine OW_end rfl ?_
 refine CW_ret ?_
 refine ⟨.inr rfl, rfl, ⟨[.d (boo true)], rfl, rfl, ?_⟩, rfl⟩
 exact AVle.refl _
end Go.Proofs.YtchpllgeahnmmaaDoor
