/- Parts of an abstract logic over the kit's walks, and walks in it: D7h. -/
import Derived.Test.YtchpllgeahnmmaaDoorD7e
import Derived.Test.YtchpllgeahnmmaaDoorD7d
import Derived.Test.YtchpllgeahnmmaaDoorCp
namespace Go.Proofs.YtchpllgeahnmmaaDoor
open Go Go.AL
set_option linter.unusedVariables false
set_option linter.unusedSimpArgs false
set_option maxHeartbeats 4000000
theorem changesOk (a b : List D) (t : Ty) (c : Chg) (i nn : Nat) (ha : a.length = i * 2) (hfl : t.fields.length * 24 ≤ 140737488355328) : DoesM Tryd.prog 57 [(50, .rowA 72 2 nn (cX a b t.name (.row 70))), (70, .row 69 2 (t.fields.map encF))] [.ptr 50 (i * 2), argC c] (.d (errC 74 (changeT t c).2)) [(50, .rowA 72 2 nn (cX a b t.name (.row 70))), (70, .row 69 2 ((changeT t c).1.fields.map encF))] [50] := by
  refine DoesM_of T_ok mixed (N := 115) Tryd.func57 rfl rfl rfl (by rfl) rfl (closed_2 _ _ _ _ _ _ _) (closed_2 _ _ _ _ _ _ _) rfl rfl rfl fun F n Z hE hF J V => ?_
  refine CW_seq ?_
  refine CW_region ?_
  refine OW_run' hE.ok 2 rfl ?_
  refine OW_end rfl ?_
  refine CW_seq ?_
  refine CW_drawn' hE 5 (by decide +kernel) ?_
  refine HW_run hE 2 rfl rfl ?_
  refine HW_loc hE (loc_loadRowA hE rfl rfl rfl (q := i * 2) rfl (by exact cX_ty ha)) rfl rfl rfl rfl ?_
  refine HW_run hE 2 rfl rfl ?_
  refine HW_end ?_
  refine OW_callLend' hE (LE_freeze 70 24 rfl (by rw [List.length_map]; exact hfl)) (fieldOk t c.fld) rfl rfl rfl rfl rfl rfl ?_
  refine OW_run' hE.ok 1 rfl ?_
  refine OW_end rfl ?_
  refine CW_seq ?_
  refine CW_seq ?_
  refine CW_region ?_
  refine OW_run' hE.ok 3 rfl ?_
  refine OW_end rfl ?_
  refine CW_cond _ rfl (fun h1 => ?_) (fun h1 => ?_)
  · skip
    have a1 : (c.kind == 1) = true := h1
    refine CW_seq ?_
    refine CW_block ?_
    refine CW_seq ?_
    refine CW_region ?_
    refine OW_run' hE.ok 2 rfl ?_
    refine OW_call' hE (nameOk c.fld) rfl rfl rfl rfl rfl rfl rfl ?_
    refine OW_run' hE.ok 2 rfl ?_
    refine OW_split' 20 rfl (fun h2 => ?_) (fun h2 => ?_)
    · skip
      have a2 : (!isName c.fld) = true := h2
      refine OW_run' hE.ok 6 rfl ?_
      refine OW_end rfl ?_
      refine CW_true rfl ?_
      refine CW_seq ?_
      refine CW_region ?_
      refine OW_run' hE.ok 2 rfl ?_
      refine OW_end rfl ?_
      rw [ch_a1 a1 (.inl a2)]
      exact CW_ret ⟨.inr rfl, rfl, ⟨_, rfl, AVle.refl _⟩, ⟨rfl, rfl, trivial⟩, rfl⟩
    · skip
      have a2 : (!isName c.fld) = false := h2
      refine OW_run' hE.ok 2 rfl ?_
      refine OW_call' hE (isValOk c.dv) rfl rfl rfl rfl rfl rfl rfl ?_
      refine OW_run' hE.ok 3 rfl ?_
      refine OW_end rfl ?_
      refine CW_cond _ rfl (fun h3 => ?_) (fun h3 => ?_)
      · skip
        have a3 : (!isVal c.dv) = true := h3
        refine CW_seq ?_
        refine CW_region ?_
        refine OW_run' hE.ok 2 rfl ?_
        refine OW_end rfl ?_
        rw [ch_a1 a1 (.inr a3)]
        exact CW_ret ⟨.inr rfl, rfl, ⟨_, rfl, AVle.refl _⟩, ⟨rfl, rfl, trivial⟩, rfl⟩
      · skip
        have a3 : (!isVal c.dv) = false := h3
        refine CW_seq ?_
        refine CW_region ?_
        refine OW_run' hE.ok 3 rfl ?_
        refine OW_end rfl ?_
        refine CW_cond _ rfl (fun h4 => ?_) (fun h4 => ?_)
        · skip
          have a4 : decide (fieldAt t c.fld ≥ 0) = true := h4
          refine CW_seq ?_
          refine CW_region ?_
          refine OW_run' hE.ok 2 rfl ?_
          refine OW_end rfl ?_
          rw [ch_a2 a1 a2 a3 a4]
          exact CW_ret ⟨.inr rfl, rfl, ⟨_, rfl, AVle.refl _⟩, ⟨rfl, rfl, trivial⟩, rfl⟩
        · skip
          have a4 : decide (fieldAt t c.fld ≥ 0) = false := h4
          refine CW_seq ?_
          refine CW_region ?_
          refine OW_run' hE.ok 3 rfl ?_
          refine OW_loc' hE (loc_loadRowA hE rfl rfl rfl (q := i * 2 + 1) rfl (by exact cX_fl ha)) rfl rfl rfl ?_
          refine OW_run' hE.ok 3 rfl ?_
          refine OW_end rfl ?_
          refine CW_cond _ rfl (fun h5 => ?_) (fun h5 => ?_)
          · skip
            have a5 : decide ((t.fields.length : Int) ≥ 5) = true := by have := h5; rw [List.length_map] at this; exact this
            refine CW_seq ?_
            refine CW_region ?_
            refine OW_run' hE.ok 2 rfl ?_
            refine OW_end rfl ?_
            rw [ch_a3 a1 a2 a3 a4 a5]
            exact CW_ret ⟨.inr rfl, rfl, ⟨_, rfl, AVle.refl _⟩, ⟨rfl, rfl, trivial⟩, rfl⟩
          · skip
            have a5 : decide ((t.fields.length : Int) ≥ 5) = false := by have := h5; rw [List.length_map] at this; exact this
            have hl5 : t.fields.length < 5 := by have := a5; simp at this; omega
            refine CW_skip ?_
            refine CW_seq ?_
            refine CW_callRowName 70 60 rfl rfl fun v hv => ?_
            refine CW.le (LE_rowLit 50 (k := 70) (G := 60) rfl hv.ok rfl (cX_litK _ _ _ _ _)) ?_
            refine CW.le (show LE _ _ ⟨J, (sset (sset noSlots 0 (.ptr 50 (i * 2))) 3 (.d (.iptr (encC c)))), (hset (hset (hset (hset noHeap 50 (some (.rowA 72 2 nn (cX a b t.name (.d (.lit v)))))) 70 (some (.row 69 2 (t.fields.map encF)))) 60 (some (.ghost [.row 70] [v]))) 99 (some (.ghost [.row 50] V)))⟩ from LE_sh (slh_set (v := .d (.iptr (encC c))) (slh_set (v := .ptr 50 (i * 2)) (slh_no _ _) (by rfl) rfl) (by rfl) rfl) (hlh_set (hlh_set (hlh_set (hlh_set (hlh_no _ _) rfl (by exact cX_in rfl)) rfl rfl) rfl rfl) rfl rfl)) ?_
            have hk9 : ∀ z : Bool, (bif z then (hset (unkH 70 (hset (hset (hset (hset noHeap 50 (some (.rowA 72 2 nn (cX a b t.name (.d (.lit v)))))) 70 (some (.row 69 2 (t.fields.map encF)))) 60 (some (.ghost [.row 70] [v]))) 99 (some (.ghost [.row 50] V)))) 70 (some (.row 69 2 (t.fields.map encF ++ [encF ⟨c.fld, c.dv.k⟩])))) else (hset (hset (hset (hset noHeap 50 (some (.rowA 72 2 nn (cX a b t.name (.d (.lit v)))))) 70 (some (.row 69 2 (t.fields.map encF)))) 60 (some (.ghost [.row 70] [v]))) 99 (some (.ghost [.row 50] V)))) 50 = some (.rowA 72 2 nn (cX a b t.name (.d (.lit v)))) := fun z => by cases z; rfl; exact congrArg (fun q => some (Ent.rowA 72 2 nn q)) (cX_unk a b t.name 70 _)
            refine CW_drawnR hE 13 12 70 (h1 := (hset (unkH 70 (hset (hset (hset (hset noHeap 50 (some (.rowA 72 2 nn (cX a b t.name (.d (.lit v)))))) 70 (some (.row 69 2 (t.fields.map encF)))) 60 (some (.ghost [.row 70] [v]))) 99 (some (.ghost [.row 50] V)))) 70 (some (.row 69 2 (t.fields.map encF ++ [encF ⟨c.fld, c.dv.k⟩]))))) (by decide +kernel) rfl (by repeat (first | exact nokeyS_no _ | refine nokeyS_set ?_ rfl)) ?_
            refine HR_run hE 4 (h0 := noHeap) noHeap_no noHeap_no rfl rfl rfl ?_
            refine HR_loc hE (fun z => loc_loadRowA hE rfl rfl rfl (key := 50) (q := i * 2 + 1) (hk9 z) (by exact cX_fl ha)) rfl rfl rfl rfl rfl rfl ?_
            refine HR_run hE 5 (h0 := noHeap) noHeap_no noHeap_no rfl rfl rfl ?_
            refine HR_loc hE (fun b => loc_build hE rfl rfl) rfl rfl rfl rfl rfl rfl ?_
            refine HR_loc hE (fun q => loc_lits hE (t := 70) (len := 1) (parts := #[(0, .tmp 49)]) rfl rfl rfl rfl rfl rfl rfl rfl (xs := [encF ⟨c.fld, c.dv.k⟩]) rfl) rfl rfl rfl rfl rfl rfl ?_
            refine HR_append hE (G := 60) rfl rfl rfl rfl rfl rfl rfl rfl rfl rfl rfl rfl rfl (.inl rfl) (by simp <;> omega) (by simp <;> omega) rfl ?_
            refine HR_end ?_
            refine OW_run' hE.ok 2 rfl ?_
            refine OW_storeRowA' hE rfl rfl rfl rfl rfl (q := i * 2 + 1) rfl rfl rfl rfl rfl rfl (by rw [List.length_map, cX_len]; show i * 2 + 1 + 1 ≤ _; omega) (cs' := cX a b t.name (.row 70)) (by rw [cX_unk]; exact cX_over ha) ?_
            refine OW_end rfl ?_
            refine CW_seq ?_
            refine CW_region ?_
            refine OW_run' hE.ok 1 rfl ?_
            refine OW_end rfl ?_
            rw [ch_a4 a1 a2 a3 a4 a5]
            exact CW_ret ⟨.inr rfl, rfl, ⟨_, rfl, AVle.refl _⟩, ⟨rfl, by exact congrArg (fun z => some (Ent.row 69 2 z)) (by rw [List.map_append]; rfl), trivial⟩, rfl⟩
  · skip
    have a1 : (c.kind == 1) = false := h1
    refine CW_skip ?_
    refine CW_seq ?_
    refine CW_seq ?_
    refine CW_region ?_
    refine OW_run' hE.ok 2 rfl ?_
    refine OW_end rfl ?_
    refine CW_cond _ rfl (fun h6 => ?_) (fun h6 => ?_)
    · skip
      have b1 : decide (fieldAt t c.fld < 0) = true := h6
      refine CW_seq ?_
      refine CW_region ?_
      refine OW_run' hE.ok 2 rfl ?_
      refine OW_end rfl ?_
      rw [ch_b1 a1 b1]
      exact CW_ret ⟨.inr rfl, rfl, ⟨_, rfl, AVle.refl _⟩, ⟨rfl, rfl, trivial⟩, rfl⟩
    · skip
      have b1 : decide (fieldAt t c.fld < 0) = false := h6
      obtain ⟨k, f, hk, hf, hfn⟩ := fieldAt_yes (by simpa using b1)
      have hkl := (List.getElem?_eq_some_iff.1 hf).1
      refine CW_as' 5 (.d (int ((k : Nat) : Int))) (congrArg (fun z => AV.d (int z)) hk) ?_
      refine CW_skip ?_
      refine CW_seq ?_
      refine CW_seq ?_
      refine CW_region ?_
      refine OW_run' hE.ok 2 rfl ?_
      refine OW_end rfl ?_
      refine CW_block ?_
      refine CW_seq ?_
      refine CW_region ?_
      refine OW_run' hE.ok 2 rfl ?_
      refine OW_end rfl ?_
      refine CW_cond _ rfl (fun h7 => ?_) (fun h7 => ?_)
      · skip
        have a6 : (c.kind == 2) = true := h7
        refine CW_region ?_
        refine OW_run' hE.ok 4 rfl ?_
        refine OW_loc' hE (loc_loadRowA hE rfl rfl rfl (q := i * 2 + 1) rfl (by exact cX_fl ha)) rfl rfl rfl ?_
        refine OW_run' hE.ok 2 rfl ?_
        refine OW_run' hE.ok 1 rfl ?_
        refine OW_as' 68 (.d (int ((k + 1 : Nat) : Int))) (by show AV.d (.lit (.int .i64 (IntKind.i64.wrap ((k : Int) + 1)))) = _; rw [wrap_succ (by omega)]; rfl) ?_
        refine OW_callM' hE (tr [(7, 70)]) (delF t.fields k hkl (by omega)) rfl rfl rfl rfl rfl ⟨rfl, trivial⟩ rfl rfl ?_
        refine OW.le (show LE _ _ ⟨J, (sset (sset noSlots 61 (.ptr 50 (i * 2))) 69 (.row 70)), (hset (hset (hset noHeap 50 (some (.rowA 72 2 nn (cX a b t.name .any)))) 70 (some (.row 69 2 ((t.fields.eraseIdx k).map encF)))) 99 (some (.ghost [.row 50] V)))⟩ from LE_sh (slh_set (v := .row 70) (slh_set (v := .ptr 50 (i * 2)) (slh_no _ _) (by rfl) rfl) (by rfl) rfl) (hlh_set (hlh_set (hlh_set (hlh_no _ _) (by exact congrArg (fun z => some (Ent.rowA 72 2 nn z)) (cX_unP a b t.name _ _)) (by exact cX_in rfl)) rfl rfl) rfl rfl)) ?_
        refine OW_run' hE.ok 2 rfl ?_
        refine OW_storeRowA' hE rfl rfl rfl rfl rfl (q := i * 2 + 1) rfl rfl rfl rfl rfl rfl (by rw [cX_len]; show i * 2 + 1 + 1 ≤ _; omega) (cs' := cX a b t.name (.row 70)) (cX_over ha) ?_
        refine OW_end rfl ?_
        refine CW_seq ?_
        refine CW_region ?_
        refine OW_run' hE.ok 1 rfl ?_
        refine OW_end rfl ?_
        rw [ch_drop a1 b1 hk a6]
        exact CW_ret ⟨.inr rfl, rfl, ⟨_, rfl, AVle.refl _⟩, ⟨rfl, rfl, trivial⟩, rfl⟩
      · skip
        have a6 : (c.kind == 2) = false := h7
        refine CW_seq ?_
        refine CW_region ?_
        refine OW_run' hE.ok 2 rfl ?_
        refine OW_end rfl ?_
        refine CW_cond _ rfl (fun h8 => ?_) (fun h8 => ?_)
        · skip
          have a7 : (c.kind == 3) = true := h8
          refine CW_seq ?_
          refine CW_seq ?_
          refine CW_region ?_
          refine OW_run' hE.ok 2 rfl ?_
          refine OW_call' hE (nameOk c.to) rfl rfl rfl rfl rfl rfl rfl ?_
          refine OW_run' hE.ok 1 rfl ?_
          refine OW_end rfl ?_
          refine CW_cond _ rfl (fun h9 => ?_) (fun h9 => ?_)
          · skip
            have a8 : (!isName c.to) = true := h9
            refine CW_seq ?_
            refine CW_region ?_
            refine OW_run' hE.ok 2 rfl ?_
            refine OW_end rfl ?_
            rw [ch_r1 a1 b1 a6 a7 a8]
            exact CW_ret ⟨.inr rfl, rfl, ⟨_, rfl, AVle.refl _⟩, ⟨rfl, rfl, trivial⟩, rfl⟩
          · skip
            have a8 : (!isName c.to) = false := h9
            refine CW_skip ?_
            refine CW_seq ?_
            refine CW_seq ?_
            refine CW_drawn' hE 5 (by decide +kernel) ?_
            refine HW_run hE 2 rfl rfl ?_
            refine HW_loc hE (loc_loadRowA hE rfl rfl rfl (q := i * 2) rfl (by exact cX_ty ha)) rfl rfl rfl rfl ?_
            refine HW_run hE 2 rfl rfl ?_
            refine HW_end ?_
            refine OW_callLend' hE (LE_freeze 70 24 rfl (by rw [List.length_map]; exact hfl)) (fieldOk t c.to) rfl rfl rfl rfl rfl rfl ?_
            refine OW_run' hE.ok 1 rfl ?_
            refine OW_end rfl ?_
            refine CW_cond _ rfl (fun h10 => ?_) (fun h10 => ?_)
            · skip
              have a9 : decide (fieldAt t c.to ≥ 0) = true := h10
              refine CW_seq ?_
              refine CW_region ?_
              refine OW_run' hE.ok 2 rfl ?_
              refine OW_end rfl ?_
              rw [ch_r2 a1 b1 a6 a7 a8 a9]
              exact CW_ret ⟨.inr rfl, rfl, ⟨_, rfl, AVle.refl _⟩, ⟨rfl, rfl, trivial⟩, rfl⟩
            · skip
              have a9 : decide (fieldAt t c.to ≥ 0) = false := h10
              refine CW_skip ?_
              refine CW_drawn' hE 7 (by decide +kernel) ?_
              refine HW_run hE 3 rfl rfl ?_
              refine HW_loc hE (loc_loadRowA hE rfl rfl rfl (q := i * 2 + 1) rfl (by exact cX_fl ha)) rfl rfl rfl rfl ?_
              refine HW_run hE 3 rfl rfl ?_
              refine HW_end ?_
              refine OW_loc' hE (loc_idxRow hE rfl rfl rfl rfl rfl (j := k) rfl (by rw [List.length_map]; exact hkl)) rfl rfl rfl ?_
              refine OW_run' hE.ok 1 rfl ?_
              refine OW_storeRow' hE rfl rfl rfl rfl rfl (j := k) (off := 0) rfl rfl rfl (x := encF f) (by simp [hf]) (y := [str c.to]) rfl rfl rfl (by show 0 + 1 ≤ 2; omega) (xs' := (t.fields.set k ⟨c.to, f.kind⟩).map encF) (by rw [List.map_set]; rfl) ?_
              refine OW_end rfl ?_
              refine CW_seq ?_
              refine CW_region ?_
              refine OW_run' hE.ok 1 rfl ?_
              refine OW_end rfl ?_
              rw [ch_r3 a1 b1 a6 a7 a8 a9 hk hf]
              exact CW_ret ⟨.inr rfl, rfl, ⟨_, rfl, AVle.refl _⟩, ⟨rfl, rfl, trivial⟩, rfl⟩
        · skip
          have a7 : (c.kind == 3) = false := h8
          refine CW_seq ?_
          refine CW_region ?_
          refine OW_run' hE.ok 2 rfl ?_
          refine OW_end rfl ?_
          refine CW_cond _ rfl (fun h11 => ?_) (fun h11 => ?_)
          · skip
            have a10 : (c.kind == 4) = true := h11
            refine CW_seq ?_
            refine CW_seq ?_
            refine CW_region ?_
            refine OW_run' hE.ok 3 rfl ?_
            refine OW_loc' hE (loc_loadRowA hE rfl rfl rfl (q := i * 2 + 1) rfl (by exact cX_fl ha)) rfl rfl rfl ?_
            refine OW_run' hE.ok 1 rfl ?_
            refine OW_loc' hE (loc_idxRow hE rfl rfl rfl rfl rfl (j := k) rfl (by rw [List.length_map]; exact hkl)) rfl rfl rfl ?_
            refine OW_run' hE.ok 1 rfl ?_
            refine OW_loc' hE (loc_loadRow hE rfl rfl rfl (j := k) (off := 1) rfl rfl (x := encF f) (by simp [hf]) (by show 1 ≤ 2; omega) rfl) rfl rfl rfl ?_
            refine OW_run' hE.ok 1 rfl ?_
            refine OW_end rfl ?_
            refine CW_cond _ rfl (fun h12 => ?_) (fun h12 => ?_)
            · skip
              have a11 : (f.kind != 3) = true := h12
              refine CW_seq ?_
              refine CW_region ?_
              refine OW_run' hE.ok 2 rfl ?_
              refine OW_end rfl ?_
              rw [ch_w1 a1 b1 a6 a7 a10 hk hf a11]
              exact CW_ret ⟨.inr rfl, rfl, ⟨_, rfl, AVle.refl _⟩, ⟨rfl, rfl, trivial⟩, rfl⟩
            · skip
              have a11 : (f.kind != 3) = false := h12
              refine CW_skip ?_
              refine CW_region ?_
              refine OW_run' hE.ok 3 rfl ?_
              refine OW_loc' hE (loc_loadRowA hE rfl rfl rfl (q := i * 2 + 1) rfl (by exact cX_fl ha)) rfl rfl rfl ?_
              refine OW_run' hE.ok 1 rfl ?_
              refine OW_loc' hE (loc_idxRow hE rfl rfl rfl rfl rfl (j := k) rfl (by rw [List.length_map]; exact hkl)) rfl rfl rfl ?_
              refine OW_run' hE.ok 1 rfl ?_
              refine OW_storeRow' hE rfl rfl rfl rfl rfl (j := k) (off := 1) rfl rfl rfl (x := encF f) (by simp [hf]) (y := [int 1]) rfl rfl rfl (by show 1 + 1 ≤ 2; omega) (xs' := (t.fields.set k ⟨f.name, 1⟩).map encF) (by rw [List.map_set]; rfl) ?_
              refine OW_end rfl ?_
              refine CW_seq ?_
              refine CW_region ?_
              refine OW_run' hE.ok 1 rfl ?_
              refine OW_end rfl ?_
              rw [ch_w2 a1 b1 a6 a7 a10 hk hf a11]
              exact CW_ret ⟨.inr rfl, rfl, ⟨_, rfl, AVle.refl _⟩, ⟨rfl, rfl, trivial⟩, rfl⟩
          · skip
            have a10 : (c.kind == 4) = false := h11
            refine CW_skip ?_
            refine CW_seq ?_
            refine CW_region ?_
            refine OW_run' hE.ok 1 rfl ?_
            refine OW_end rfl ?_
            rw [ch_0 a1 b1 a6 a7 a10]
            exact CW_ret ⟨.inr rfl, rfl, ⟨_, rfl, AVle.refl _⟩, ⟨rfl, rfl, trivial⟩, rfl⟩
end Go.Proofs.YtchpllgeahnmmaaDoor
