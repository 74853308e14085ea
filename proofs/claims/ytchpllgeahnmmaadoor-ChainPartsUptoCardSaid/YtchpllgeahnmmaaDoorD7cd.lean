/- Parts of an abstract logic over the kit's walks, and walks in it: D7cd. -/
import Derived.Test.YtchpllgeahnmmaaDoorD7ca
import Derived.Test.YtchpllgeahnmmaaDoorD7p
import Derived.Test.YtchpllgeahnmmaaDoorCp
namespace Go.Proofs.YtchpllgeahnmmaaDoor
open Go Go.AL
set_option linter.unusedVariables false
set_option linter.unusedSimpArgs false
set_option maxHeartbeats 4000000
theorem addOk (ss : List (List Ty)) (cs : List Chg) (c : Chg) (hok : ChainOk ss cs) : DoesM Tryd.prog 33 [(40, .box 102 [.row 50, .row 51]), (50, .row 24 1 (ss.map encS1)), (51, .row 43 7 (cs.map encC))] [.ptr 40 0, argC c] (.d (errC 74 (addE ss cs c))) [(40, .box 102 [.row 50, .row 51]), (50, .row 24 1 ((addS ss cs c).map encS1)), (51, .row 43 7 ((addC ss cs c).map encC))] [40] := by
  refine DoesM_of T_ok mixed (N := 50) Tryd.func33 rfl rfl rfl (by rfl) rfl rfl rfl rfl rfl rfl fun F n Z hE hF J V => ?_
  refine CW_seq ?_
  refine CW_region ?_
  refine OW_run' hE.ok 2 rfl ?_
  refine OW_end rfl ?_
  refine CW_seq ?_
  refine CW_seq ?_
  refine CW_region ?_
  refine OW_run' hE.ok 6 rfl ?_
  refine OW_end rfl ?_
  refine CW_cond _ rfl (fun h1 => ?_) (fun h1 => ?_)
  · skip
    have a1 : decide ((cs.length : Int) ≥ 20) = true := by have := h1; rw [List.length_map] at this; exact this
    refine CW_seq ?_
    refine CW_region ?_
    refine OW_run' hE.ok 2 rfl ?_
    refine OW_end rfl ?_
    rw [(add_full a1).1, (add_full a1).2.1, (add_full a1).2.2]
    exact CW_ret ⟨.inr rfl, rfl, ⟨_, rfl, AVle.refl _⟩, ⟨rfl, rfl, rfl, trivial⟩, rfl⟩
  · skip
    have a1 : decide ((cs.length : Int) ≥ 20) = false := by have := h1; rw [List.length_map] at this; exact this
    have hl20 : cs.length < 20 := by have := a1; simp at this; omega
    obtain ⟨s, hts, hsr⟩ := hok.at (Nat.le_refl _)
    have hlen := hok.len
    refine CW_skip ?_
    refine CW_seq ?_
    refine CW.le (show LE _ _ ⟨J, (sset (sset (sset noSlots 0 (.ptr 40 0)) 3 (.d (.iptr (encC c)))) 4 (.d (.lit .nilIface))), (hset (hset (hset (hset noHeap 40 (some (.box 102 [.row 50, .row 51]))) 50 (some (.row 24 1 (ss.map encS1)))) 51 (some (.row 43 7 (cs.map encC)))) 99 (some (.ghost [.row 40] V)))⟩ from LE_sh (slh_set (v := .d (.lit .nilIface)) (slh_set (v := .d (.iptr (encC c))) (slh_set (v := .ptr 40 0) (slh_no _ _) (by rfl) rfl) (by rfl) rfl) (by rfl) rfl) (hlh_set (hlh_set (hlh_set (hlh_set (hlh_no _ _) rfl rfl) rfl rfl) rfl rfl) rfl rfl)) ?_
    refine CW_drawnX hE 15 ⟨[5, 13, 14], HAS (hset (hset (hset (hset noHeap 40 (some (.box 102 [.row 50, .row 51]))) 50 (some (.row 24 1 (ss.map encS1)))) 51 (some (.row 43 7 (cs.map encC)))) 99 (some (.ghost [.row 40] V))) 13 14 3 (.box 24 [.d (.lit (.slice none 0 0))]) (.box 24 [.d (encS (applyX s c).1)]), []⟩ (by decide +kernel) rfl (has_dep (by simp) (by simp)) (fun q k hm => by cases hm) (LE.refl _ _) ?_
    refine HX_run hE 5 (h0 := (hset (hset (hset (hset noHeap 40 (some (.box 102 [.row 50, .row 51]))) 50 (some (.row 24 1 (ss.map encS1)))) 51 (some (.row 43 7 (cs.map encC)))) 99 (some (.ghost [.row 40] V)))) (has_more rfl) rfl rfl rfl ?_
    refine HX_callR hE (nowOk ss cs) rfl rfl rfl rfl rfl rfl rfl rfl (fun b _ => has_allE rfl b ⟨rfl, rfl, rfl, trivial⟩) (fun b _ => freshL_own _) rfl (fun b _ => has_other (by decide) (by decide) b) ?_
    refine HX_loc2 hE rfl rfl rfl (fun b _ => loc_idxRow hE rfl rfl rfl rfl (has_get rfl rfl b) (j := cs.length) rfl (by rw [List.length_map]; have := hok.len; omega)) rfl rfl rfl ?_
    refine HX_loc2 hE rfl rfl rfl (fun b _ => loc_loadRow hE rfl rfl (key := 50) (q := cs.length * 1) rfl (e := 24) (sz := 1) (xs := ss.map encS1) (j := cs.length) (off := 0) rfl (has_get rfl rfl b) (x := encS1 s) (by simp [hts]) (Nat.zero_le _) rfl) rfl rfl rfl ?_
    refine HX_run hE 1 (h0 := (hset (hset (hset (hset noHeap 40 (some (.box 102 [.row 50, .row 51]))) 50 (some (.row 24 1 (ss.map encS1)))) 51 (some (.row 43 7 (cs.map encC)))) 99 (some (.ghost [.row 40] V)))) (has_more rfl) rfl rfl rfl ?_
    refine HX_call hE (applyOk s c hsr) rfl rfl rfl rfl rfl rfl rfl rfl rfl rfl ?_
    refine HX_run hE 3 (h0 := (hset (hset (hset (hset noHeap 40 (some (.box 102 [.row 50, .row 51]))) 50 (some (.row 24 1 (ss.map encS1)))) 51 (some (.row 43 7 (cs.map encC)))) 99 (some (.ghost [.row 40] V)))) (has_more rfl) rfl rfl rfl ?_
    refine HX_alloc hE (k := 3) rfl rfl rfl rfl rfl rfl rfl rfl rfl (fun b hb => has_free rfl (by kernel_rfl) rfl hb) (fun b hb => has_alloc (by decide) rfl (by kernel_rfl) hb) ?_
    refine HX_store hE rfl rfl rfl rfl rfl rfl rfl rfl (fun b hb => has_at (by kernel_rfl) hb) rfl rfl rfl rfl rfl (fun b hb => has_store (by kernel_rfl) hb) ?_
    refine HX_end ?_
    refine OW_run' hE.ok 1 rfl ?_
    refine OW_end rfl ?_
    refine CW_seq ?_
    refine CW_seq ?_
    refine CW_region ?_
    refine OW_run' hE.ok 1 rfl ?_
    refine OW_loc' hE (loc_errNe hE rfl rfl rfl) rfl rfl rfl ?_
    refine OW_end rfl ?_
    refine CW_cond _ rfl (fun h2 => ?_) (fun h2 => ?_)
    · skip
      have he : ((applyX s c).2 != 0) = true := h2
      refine CW_seq ?_
      refine CW_region ?_
      refine OW_run' hE.ok 2 rfl ?_
      refine OW_end rfl ?_
      rw [(add_err a1 hts he).1, (add_err a1 hts he).2.1, (add_err a1 hts he).2.2]
      exact CW_ret ⟨.inr rfl, rfl, ⟨_, rfl, AVle.refl _⟩, ⟨rfl, rfl, rfl, trivial⟩, rfl⟩
    · skip
      have he : ((applyX s c).2 != 0) = false := h2
      refine CW_skip ?_
      refine CW_seq ?_
      refine CW.le (show LE _ _ ⟨J, (sset (sset (sset (sset noSlots 0 (.ptr 40 0)) 3 (.d (.iptr (encC c)))) 4 (.d (.lit .nilIface))) 5 (.ptr 3 0)), (hset (hset (hset (hset (hset noHeap 40 (some (.box 102 [.row 50, .row 51]))) 50 (some (.row 24 1 (ss.map encS1)))) 51 (some (.row 43 7 (cs.map encC)))) 99 (some (.ghost [.row 40] V))) 3 (some (.box 24 [.d (encS (applyX s c).1)])))⟩ from LE_sh (slh_set (v := .ptr 3 0) (slh_set (v := .d (.lit .nilIface)) (slh_set (v := .d (.iptr (encC c))) (slh_set (v := .ptr 40 0) (slh_no _ _) (by rfl) rfl) (by rfl) rfl) (by rfl) rfl) (by rfl) rfl) (hlh_set (hlh_set (hlh_set (hlh_set (hlh_set (hlh_no _ _) rfl rfl) rfl rfl) rfl rfl) rfl rfl) rfl rfl)) ?_
      refine CW_callRowName 50 60 rfl rfl fun v1 hv1 => ?_
      refine CW_callRowName 51 61 rfl rfl fun v2 hv2 => ?_
      refine CW.le (LE_boxLit 40 (k := 50) (G := 60) rfl hv1.ok rfl rfl) ?_
      refine CW.le (LE_boxLit 40 (k := 51) (G := 61) rfl hv2.ok rfl rfl) ?_
      refine CW.le (show LE _ _ ⟨J, (sset (sset (sset (sset noSlots 0 (.ptr 40 0)) 3 (.d (.iptr (encC c)))) 4 (.d (.lit .nilIface))) 5 (.ptr 3 0)), heapOf [(40, .box 102 [bif false then .row 50 else .d (.lit v1), .d (.lit v2)]), (50, .row 24 1 (bif false then ss.map encS1 ++ [encS1 (applyX s c).1] else ss.map encS1)), (51, .row 43 7 (bif false then cs.map encC ++ [encC c] else cs.map encC)), (60, bif false then .ghost [.any] [v1] else .ghost [.row 50] [v1]), (61, bif false then .ghost [.any] [v2] else .ghost [.row 51] [v2]), (3, .box 24 [.d (encS (applyX s c).1)]), (99, .ghost [.row 40] V)]⟩ from LE_sh (slh_set (v := .ptr 3 0) (slh_set (v := .d (.lit .nilIface)) (slh_set (v := .d (.iptr (encC c))) (slh_set (v := .ptr 40 0) (slh_no _ _) (by rfl) rfl) (by rfl) rfl) (by rfl) rfl) (by rfl) rfl) (hlh_set (hlh_set (hlh_set (hlh_set (hlh_set (hlh_set (hlh_set (hlh_no _ _) rfl rfl) rfl rfl) rfl rfl) rfl rfl) rfl rfl) rfl rfl) rfl rfl)) ?_
      refine CW_drawnT hE 19 ⟨fun b1 b2 b3 => heapOf [(40, .box 102 [bif b3 then .row 50 else .d (.lit v1), .d (.lit v2)]), (50, .row 24 1 (bif b1 then ss.map encS1 ++ [encS1 (applyX s c).1] else ss.map encS1)), (51, .row 43 7 (bif b2 then cs.map encC ++ [encC c] else cs.map encC)), (60, bif b1 then .ghost [.any] [v1] else .ghost [.row 50] [v1]), (61, bif b2 then .ghost [.any] [v2] else .ghost [.row 51] [v2]), (3, .box 24 [.d (encS (applyX s c).1)]), (99, .ghost [.row 40] V)], 8, 50, 15, 51, 18⟩ (by decide +kernel) rfl rfl (by kernel_rfl) (by repeat (first | exact nokeyS_no _ | refine nokeyS_set ?_ rfl)) (by repeat (first | exact nokeyS_no _ | refine nokeyS_set ?_ rfl)) (LE.refl _ _) ?_
      refine HT_run hE 5 (h0 := noHeap) (fun _ _ _ => noHeap_no) rfl rfl rfl rfl rfl ?_
      refine HT_loc1 hE (fun b2 => loc_loadBox hE rfl rfl rfl rfl rfl) rfl (by kernel_rfl) rfl rfl rfl rfl rfl rfl rfl ?_
      refine HT_loc2 hE rfl rfl rfl (fun b1 b2 b3 _ => loc_loadBox hE rfl rfl rfl rfl rfl) rfl rfl rfl rfl ?_
      refine HT_loc2 hE rfl rfl rfl (fun b1 b2 b3 _ => loc_lits hE (t := 100) (len := 1) (parts := #[(0, .tmp 36)]) rfl rfl rfl rfl rfl rfl rfl rfl (xs := [encS1 (applyX s c).1]) rfl) rfl rfl rfl rfl ?_
      refine HT_append1 hE (G := 60) (fun _ => rfl) rfl rfl rfl rfl rfl rfl rfl rfl rfl rfl rfl (fun _ => rfl) (.inl rfl) (by simp; omega) (by simp; omega) rfl (fun b2 s2 => LE_eq (by cases b2 <;> exact (congrArg (fun z => hset z 50 (some (.row 24 1 (ss.map encS1 ++ [encS1 (applyX s c).1])))) (unkH_heapOf 50 _)).trans (hset_heapOf _ _ _))) ?_
      refine HT_run hE 3 (h0 := noHeap) (fun _ _ _ => noHeap_no) rfl rfl rfl rfl rfl ?_
      refine HT_loc2 hE rfl rfl rfl (fun b1 b2 b3 _ => loc_loadBox hE rfl rfl rfl rfl rfl) rfl rfl rfl rfl ?_
      refine HT_run hE 1 (h0 := noHeap) (fun _ _ _ => noHeap_no) rfl rfl rfl rfl rfl ?_
      refine HT_loc2 hE rfl rfl rfl (fun b1 b2 b3 _ => loc_lits hE (t := 53) (len := 1) (parts := #[(0, .tmp 43)]) rfl rfl rfl rfl rfl rfl rfl rfl (xs := [encC c]) rfl) rfl rfl rfl rfl ?_
      refine HT_append2 hE (G := 61) (fun _ _ => rfl) rfl rfl rfl rfl rfl rfl rfl rfl rfl rfl rfl (fun _ _ => rfl) (.inl rfl) (by simp; omega) (by simp; omega) rfl (fun b1 b3 s2 _ => LE_eq (by cases b1 <;> cases b3 <;> exact (congrArg (fun z => hset z 51 (some (.row 43 7 (cs.map encC ++ [encC c])))) (unkH_heapOf 51 _)).trans (hset_heapOf _ _ _))) ?_
      refine HT_run hE 2 (h0 := noHeap) (fun _ _ _ => noHeap_no) rfl rfl rfl rfl rfl ?_
      refine HT_store3 hE rfl rfl rfl rfl rfl rfl rfl rfl (fun _ => rfl) rfl rfl rfl rfl rfl (fun b2 s2 => LE_eq (by cases b2 <;> exact hset_heapOf _ _ _)) ?_
      refine HT_end ?_
      refine OW_run' hE.ok 2 rfl ?_
      refine OW_store' hE rfl rfl rfl rfl rfl rfl rfl rfl rfl rfl rfl rfl ?_
      refine OW_end rfl ?_
      refine CW_seq ?_
      refine CW_region ?_
      refine OW_run' hE.ok 1 rfl ?_
      refine OW_end rfl ?_
      rw [(add_ok a1 hts he).1, (add_ok a1 hts he).2.1, (add_ok a1 hts he).2.2]
      exact CW_ret ⟨.inr rfl, rfl, ⟨_, rfl, AVle.refl _⟩, ⟨rfl, by exact congrArg (fun z => some (Ent.row 24 1 z)) (by rw [List.map_append]; rfl), by exact congrArg (fun z => some (Ent.row 43 7 z)) (by rw [List.map_append]; rfl), trivial⟩, rfl⟩
end Go.Proofs.YtchpllgeahnmmaaDoor
