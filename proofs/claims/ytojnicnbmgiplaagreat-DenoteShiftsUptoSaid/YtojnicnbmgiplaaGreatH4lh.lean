/- Parts of an abstract logic over the kit's walks, and walks in it: H4lh. -/
import Derived.Test.YtojnicnbmgiplaaGreatH4lk
import Derived.Test.YtojnicnbmgiplaaGreatHxi
import Derived.Test.YtojnicnbmgiplaaGreatH4l2
import Derived.Test.YtojnicnbmgiplaaGreatMat6
namespace Go.Proofs.YtojnicnbmgiplaaGreat
open Go Go.AL
set_option linter.unusedVariables false
set_option linter.unusedSimpArgs false
set_option maxHeartbeats 4000000
theorem shiftsOk (p : Pat) (l : List Ev) (at1 ts1 : UInt8) (hl : l.length ≤ 2000000) : Does Tryz.prog 6 [argP p, .d (.sl 3 48 (l.map encE)), .d (.lit (.int .u8 (at1.toNat : Int))), .d (.lit (.int .u8 (ts1.toNat : Int)))] noHeap (.d (boo true)) := by
  refine Does_of T_ok mixed (N := 155) Tryz.func6 rfl rfl rfl (by rfl) fun F n Z hE hF J => ?_
  have hat := at1.toNat_lt
  have hts := ts1.toNat_lt
  refine CW_seq ?_
  refine CW_region ?_
  refine OW_run' hE.ok 2 rfl ?_
  refine OW_end rfl ?_
  refine CW_seq ?_
  refine CW_seq ?_
  refine CW_region ?_
  refine OW_call' hE (known14Ok) rfl rfl rfl rfl rfl rfl rfl ?_
  refine OW_run' hE.ok 1 rfl ?_
  refine OW_end rfl ?_
  refine CW_false rfl ?_
  refine CW_skip ?_
  refine CW_seq ?_
  refine CW_region ?_
  refine OW_run' hE.ok 1 rfl ?_
  refine OW_callOwn' hE 77 (streamOk l 0 hl (by decide)) rfl rfl rfl rfl rfl rfl rfl ?_
  refine OW_run' hE.ok 5 rfl ?_
  refine OW.le (LE_freeze 77 64 rfl (by rw [List.length_map]; have := stream_len l 0; omega)) ?_
  refine OW_end rfl ?_
  refine CW_seq ?_
  refine CW_seq ?_
  refine CW_drawn' hE 10 (by decide +kernel) ?_
  refine HW_run hE 3 rfl rfl ?_
  refine HW_split 27 rfl (fun h1 => ?_) (fun h1 => ?_)
  · skip
    skip
    refine HW_run hE 7 rfl rfl ?_
    refine HW_end ?_
    refine OW_run' hE.ok 3 rfl ?_
    refine OW_end rfl ?_
    refine CW_true rfl ?_
    refine CW_seq ?_
    refine CW_region ?_
    refine OW_run' hE.ok 1 rfl ?_
    refine OW_end rfl ?_
    refine CW_ret ?_
    refine ⟨.inr rfl, rfl, ⟨[.d (boo true)], rfl, rfl, ?_⟩, rfl⟩
    exact AVle.refl _
  · skip
    have hs2 : (streamX l 0).2 = true := by have := h1; simpa using this
    have hst := stream_ok hs2
    refine HW_run hE 5 rfl rfl ?_
    refine HW_split 32 rfl (fun h2 => ?_) (fun h2 => ?_)
    · skip
      skip
      refine HW_run hE 2 rfl rfl ?_
      refine HW_end ?_
      refine OW_run' hE.ok 3 rfl ?_
      refine OW_end rfl ?_
      refine CW_true rfl ?_
      refine CW_seq ?_
      refine CW_region ?_
      refine OW_run' hE.ok 1 rfl ?_
      refine OW_end rfl ?_
      refine CW_ret ?_
      refine ⟨.inr rfl, rfl, ⟨[.d (boo true)], rfl, rfl, ?_⟩, rfl⟩
      exact AVle.refl _
    · skip
      have hl6 : l.length ≤ 6 := by have := h2; rw [List.length_map] at this; simp at this; omega
      refine HW_call hE (base11) rfl rfl rfl rfl rfl rfl rfl rfl ?_
      refine HW_run hE 1 rfl rfl ?_
      refine HW_end ?_
      refine OW_call' hE (refCheckOk bS p) rfl rfl rfl rfl rfl rfl rfl ?_
      refine OW_run' hE.ok 2 rfl ?_
      refine OW_end rfl ?_
      refine CW_cond _ rfl (fun h3 => ?_) (fun h3 => ?_)
      · skip
        skip
        refine CW_seq ?_
        refine CW_region ?_
        refine OW_run' hE.ok 1 rfl ?_
        refine OW_end rfl ?_
        refine CW_ret ?_
        refine ⟨.inr rfl, rfl, ⟨[.d (boo true)], rfl, rfl, ?_⟩, rfl⟩
        exact AVle.refl _
      · skip
        have hck : chkR bS p = 0 := bne_eq_false_iff_eq.1 h3
        have hpt := isPat_head (chk_isPat hck)
        refine CW_skip ?_
        refine CW_seq ?_
        refine CW.le (show LE _ _ ⟨J, (sset (sset (sset (sset noSlots 2 (.d (.lit (.int .u8 (at1.toNat : Int))))) 3 (.d (.lit (.int .u8 (ts1.toNat : Int))))) 4 (.d (.iptr (encP p)))) 9 (.d (SK (keptX l 0)))), noHeap⟩ from LE_sh (slh_set (v := .d (SK (keptX l 0))) (slh_set (v := .d (.iptr (encP p))) (slh_set (v := .d (.lit (.int .u8 (ts1.toNat : Int)))) (slh_set (v := .d (.lit (.int .u8 (at1.toNat : Int)))) (slh_no _ _) (by rfl) rfl) (by rfl) rfl) (by rfl) rfl) (by exact (congrArg (fun z : List Kp × Bool => AV.d (SK z.1)) hst.1)) rfl) (hlh_no _ _)) ?_
        have hkl := kept_len l 0
        have hkr := kept_rises l 0
        have q1 := matchesOk bS p (keptX l 0) hkr (by omega) (by omega)
        have q2 := matchesOk bS p ((keptX l 0).map (shKp (at1.toNat : Int) (ts1.toNat : Int))) (rises_sh hkr) (by rw [List.length_map]; omega) (by omega)
        rw [mat_sh] at q2
        obtain ⟨m1, m2⟩ := mat_rows (s := bS) (p := p) (l := (keptX l 0)) (by omega)
        refine CW_region ?_
        refine OW_run' hE.ok 1 rfl ?_
        refine OW.le (LE_nilSlot 11 50 52 4 rfl rfl) ?_
        refine OW_end rfl ?_
        refine CW_seq ?_
        refine CW_seq ?_
        refine CW_region ?_
        refine OW_run' hE.ok 1 rfl ?_
        refine OW_end rfl ?_
        refine CW_block ?_
        refine CW_loop (σ := {i : Nat // i ≤ (keptX l 0).length}) (fun i => ⟨J, (sset (sset (sset (sset (sset (sset noSlots 2 (.d (.lit (.int .u8 (at1.toNat : Int))))) 3 (.d (.lit (.int .u8 (ts1.toNat : Int))))) 4 (.d (.iptr (encP p)))) 9 (.d (SK (keptX l 0)))) 11 (.row 50)) 12 (.d (int ((i.1 : Nat) : Int)))), (hset noHeap 50 (some (.row 52 4 ((((keptX l 0).take i.1).map (shKp (at1.toNat : Int) (ts1.toNat : Int))).map encK))))⟩) (fun i => (keptX l 0).length - i.1) ⟨0, Nat.zero_le _⟩ (LE_sh (slh_set (slh_set (slh_set (slh_set (slh_set (slh_set (slh_no _ _) rfl rfl) rfl rfl) rfl rfl) rfl rfl) rfl rfl) rfl rfl) (hlh_set (hlh_no _ _) (congrArg (fun z => some (Ent.row 52 4 z)) (rfl)) rfl)) fun ⟨i, hi⟩ => ?_
        refine CW_seq ?_
        refine CW_seq ?_
        refine CW_region ?_
        refine OW_run' hE.ok 4 rfl ?_
        refine OW_end rfl ?_
        refine CW_cond _ rfl (fun h4 => ?_) (fun h4 => ?_)
        · skip
          have hlt : i < (keptX l 0).length := by have := h4; rw [List.length_map] at this; simp at this; omega
          obtain ⟨⟨ty, ts, vals⟩, he⟩ : ∃ e, l[i]? = some e := ⟨_, List.getElem?_eq_getElem (by omega)⟩
          have hx : (keptX l 0)[i]? = some (⟨((0 + i : Nat) : Int), ⟨ty, ts, vals⟩⟩ : Kp) := kept_get he
          have hte := evt_ts (okS_at hst.2 he).1
          simp only at hte
          refine CW_skip ?_
          refine CW_seq ?_
          refine CW_block ?_
          refine CW_seq ?_
          refine CW_region ?_
          refine OW_run' hE.ok 2 rfl ?_
          refine OW_loc' hE (loc_indexAddr hE rfl rfl rfl rfl rfl (by omega) (x := encK ⟨((0 + i : Nat) : Int), ⟨ty, ts, vals⟩⟩) (by rw [Int.toNat_natCast, List.getElem?_map, hx]; rfl)) rfl rfl rfl ?_
          refine OW_run' hE.ok 1 rfl ?_
          refine OW_alloc' hE 1 rfl rfl rfl rfl rfl rfl rfl ?_
          refine OW_store' hE rfl rfl rfl rfl rfl rfl rfl rfl rfl rfl rfl rfl ?_
          refine OW_end rfl ?_
          refine CW_seq ?_
          refine CW_region ?_
          refine OW_run' hE.ok 5 rfl ?_
          refine OW_as' 52 (.d (int (((0 + i : Nat) : Int) + (at1.toNat : Int)))) (by show AV.d (.lit (.int .i64 (IntKind.i64.wrap (((0 + i : Nat) : Int) + IntKind.i64.wrap ((at1.toNat : Nat) : Int))))) = _; rw [wrapN (by omega), wrap_id _ _ (by simp [IntKind.min, IntKind.signed, IntKind.bits]; omega) (by simp [IntKind.max, IntKind.signed, IntKind.bits]; omega)]; rfl) ?_
          refine OW_run' hE.ok 1 rfl ?_
          refine OW_run' hE.ok 5 rfl ?_
          refine OW_as' 58 (.d (int (ts + (ts1.toNat : Int)))) (by show AV.d (.lit (.int .i64 (IntKind.i64.wrap (ts + IntKind.i64.wrap ((ts1.toNat : Nat) : Int))))) = _; rw [wrapN (by omega), wrap_id _ _ (by simp [IntKind.min, IntKind.signed, IntKind.bits]; omega) (by simp [IntKind.max, IntKind.signed, IntKind.bits]; omega)]; rfl) ?_
          refine OW_run' hE.ok 1 rfl ?_
          refine OW_store' hE rfl rfl rfl rfl rfl rfl rfl rfl rfl rfl rfl rfl ?_
          refine OW_run' hE.ok 2 rfl ?_
          refine OW_store' hE rfl rfl rfl rfl rfl rfl rfl rfl rfl rfl rfl rfl ?_
          refine OW_end rfl ?_
          refine CW_seq ?_
          refine CW_seq ?_
          refine CW_region ?_
          refine OW_run' hE.ok 4 rfl ?_
          refine OW_end rfl ?_
          refine CW_cond _ rfl (fun h5 => ?_) (fun h5 => ?_)
          · skip
            skip
            refine CW_seq ?_
            refine CW_region ?_
            refine OW_run' hE.ok 1 rfl ?_
            refine OW_end rfl ?_
            refine CW_ret ?_
            refine ⟨.inr rfl, rfl, ⟨[.d (boo true)], rfl, rfl, ?_⟩, rfl⟩
            exact AVle.refl _
          · skip
            skip
            refine CW_skip ?_
            refine CW_region ?_
            refine OW_run' hE.ok 2 rfl ?_
            refine OW_loc' hE (loc_lits hE (t := 28) (len := 1) (parts := #[(0, .tmp 67)]) rfl rfl rfl rfl rfl rfl rfl rfl (xs := [encK ((shKp (at1.toNat : Int) (ts1.toNat : Int)) ⟨((0 + i : Nat) : Int), ⟨ty, ts, vals⟩⟩)]) rfl) rfl rfl rfl ?_
            refine OW_append' hE (key := 50) rfl rfl rfl rfl rfl rfl rfl rfl (.inl rfl) (by simp; omega) (by simp; omega) rfl ?_
            refine OW_run' hE.ok 1 rfl ?_
            refine OW_end rfl ?_
            refine CW_region ?_
            refine OW_run' hE.ok 3 rfl ?_
            refine OW_end rfl ?_
            refine ⟨⟨i + 1, by omega⟩, LE_sh (slh_set (v := .d (int ((i + 1 : Nat) : Int))) (slh_set (v := .row 50) (slh_set (v := .d (SK (keptX l 0))) (slh_set (v := .d (.iptr (encP p))) (slh_set (v := .d (.lit (.int .u8 (ts1.toNat : Int)))) (slh_set (v := .d (.lit (.int .u8 (at1.toNat : Int)))) (slh_no _ _) (by rfl) rfl) (by rfl) rfl) (by rfl) rfl) (by rfl) rfl) (by rfl) rfl) (by show AV.d (.lit (.int .i64 (IntKind.i64.wrap ((i : Int) + 1)))) = _; rw [wrap_succ (by omega)]; rfl) rfl) (hlh_set (hlh_no _ _) (congrArg (fun z => some (Ent.row 52 4 z)) (by rw [map_snoc hx, List.map_append]; rfl)) rfl), by show (keptX l 0).length - (i + 1) < (keptX l 0).length - i; omega⟩
        · skip
          have hge : (keptX l 0).length ≤ i := by have := h4; rw [List.length_map] at this; simp at this; omega
          refine CW_exit ?_
          show CW _ _ _ _
          refine CW_seq ?_
          refine CW.le (LE_freeze 50 64 rfl (by simp; omega)) ?_
          refine CW.le (show LE _ _ ⟨J, (sset (sset (sset (sset (sset noSlots 2 (.d (.lit (.int .u8 (at1.toNat : Int))))) 3 (.d (.lit (.int .u8 (ts1.toNat : Int))))) 4 (.d (.iptr (encP p)))) 9 (.d (SK (keptX l 0)))) 11 (.d (SK ((keptX l 0).map (shKp (at1.toNat : Int) (ts1.toNat : Int)))))), noHeap⟩ from LE_sh (slh_set (v := .d (SK ((keptX l 0).map (shKp (at1.toNat : Int) (ts1.toNat : Int))))) (slh_set (v := .d (SK (keptX l 0))) (slh_set (v := .d (.iptr (encP p))) (slh_set (v := .d (.lit (.int .u8 (ts1.toNat : Int)))) (slh_set (v := .d (.lit (.int .u8 (at1.toNat : Int)))) (slh_no _ _) (by rfl) rfl) (by rfl) rfl) (by rfl) rfl) (by rfl) rfl) (by exact (congrArg (fun z : List Kp => AV.d (.sl 4 64 ((z.map (shKp (at1.toNat : Int) (ts1.toNat : Int))).map encK))) (List.take_of_length_le (show (keptX l 0).length ≤ i by omega)))) rfl) (hlh_no _ _)) ?_
          refine CW_drawnG hE 7 [(3, 60, .row 43 1 ((matchesX bS p (keptX l 0)).map encR))] (by decide +kernel) rfl ?_
          refine HG_call hE (base11) rfl rfl rfl rfl rfl rfl rfl rfl rfl ?_
          refine HG_run hE 2 rfl rfl rfl rfl ?_
          refine HG_own hE (q1) rfl rfl rfl rfl rfl rfl rfl rfl ?_
          refine HG_call hE (base11) rfl rfl rfl rfl rfl rfl rfl rfl rfl ?_
          refine HG_run hE 2 rfl rfl rfl rfl ?_
          refine HG_end ?_
          refine OW_callRow' hE 61 q2 rfl rfl rfl rfl rfl rfl rfl ?_
          refine OW_run' hE.ok 2 rfl ?_
          refine OW.le (LE_freeze 60 24 rfl (by simp only [List.length_map]; omega)) ?_
          refine OW.le (LE_freeze 61 24 rfl (by simp only [List.length_map]; omega)) ?_
          refine OW_end rfl ?_
          refine CW_seq ?_
          refine CW_seq ?_
          refine CW.le (show LE _ _ ⟨J, (sset (sset (sset noSlots 2 (.d (.lit (.int .u8 (at1.toNat : Int))))) 14 (.d (.sl 1 24 ((matchesX bS p (keptX l 0)).map encR)))) 15 (.d (.sl 1 24 (((matchesX bS p (keptX l 0)).map (List.map (shBd (at1.toNat : Int)))).map encR)))), noHeap⟩ from LE_sh (slh_set (v := .d (.sl 1 24 (((matchesX bS p (keptX l 0)).map (List.map (shBd (at1.toNat : Int)))).map encR))) (slh_set (v := .d (.sl 1 24 ((matchesX bS p (keptX l 0)).map encR))) (slh_set (v := .d (.lit (.int .u8 (at1.toNat : Int)))) (slh_no _ _) (by rfl) rfl) (by rfl) rfl) (by rfl) rfl) (hlh_no _ _)) ?_
          refine CW_region ?_
          refine OW_run' hE.ok 4 rfl ?_
          refine OW_run' hE.ok 1 rfl ?_
          refine OW_as' 82 (.d (boo false)) (by exact congrArg (fun z => AV.d (boo z)) ((by show (((((matchesX bS p (keptX l 0)).map encR).length : Nat) : Int) != (((((matchesX bS p (keptX l 0)).map (List.map (shBd (at1.toNat : Int)))).map encR).length : Nat) : Int)) = false; rw [List.length_map, List.length_map, List.length_map]; exact bne_self_eq_false _))) ?_
          refine OW_end rfl ?_
          refine CW_false rfl ?_
          refine CW_skip ?_
          refine CW_seq ?_
          refine CW_seq ?_
          refine CW_region ?_
          refine OW_run' hE.ok 1 rfl ?_
          refine OW_end rfl ?_
          refine CW_block ?_
          refine CW_loop (σ := {i : Nat // i ≤ (matchesX bS p (keptX l 0)).length}) (fun i => ⟨J, (sset (sset (sset (sset noSlots 2 (.d (.lit (.int .u8 (at1.toNat : Int))))) 14 (.d (.sl 1 24 ((matchesX bS p (keptX l 0)).map encR)))) 15 (.d (.sl 1 24 (((matchesX bS p (keptX l 0)).map (List.map (shBd (at1.toNat : Int)))).map encR)))) 16 (.d (int ((i.1 : Nat) : Int)))), noHeap⟩) (fun i => (matchesX bS p (keptX l 0)).length - i.1) ⟨0, Nat.zero_le _⟩ (LE_sh (slh_set (slh_set (slh_set (slh_set (slh_no _ _) rfl rfl) rfl rfl) rfl rfl) rfl rfl) (hlh_no _ _)) fun ⟨i, hi⟩ => ?_
          refine CW_seq ?_
          refine CW_seq ?_
          refine CW_region ?_
          refine OW_run' hE.ok 4 rfl ?_
          refine OW_end rfl ?_
          refine CW_cond _ rfl (fun h6 => ?_) (fun h6 => ?_)
          · skip
            have hlt : i < (matchesX bS p (keptX l 0)).length := by have := h6; rw [List.length_map] at this; simp at this; omega
            obtain ⟨b, hb⟩ : ∃ b, (matchesX bS p (keptX l 0))[i]? = some b := ⟨_, List.getElem?_eq_getElem hlt⟩
            have hbl := m2 b (List.mem_of_getElem? hb)
            have hgb := (mat_gn (List.mem_of_getElem? hb)).1
            refine CW_skip ?_
            refine CW_seq ?_
            refine CW_block ?_
            refine CW_seq ?_
            refine CW_seq ?_
            refine CW_drawn' hE 12 (by decide +kernel) ?_
            refine HW_run hE 2 rfl rfl ?_
            refine HW_loc hE (loc_indexAddr hE rfl rfl rfl rfl rfl (by omega) (x := encR b) (by simp [hb])) rfl rfl rfl rfl ?_
            refine HW_run hE 5 rfl rfl ?_
            refine HW_loc hE (loc_indexAddr hE rfl rfl rfl rfl rfl (by omega) (x := encR (b.map (shBd (at1.toNat : Int)))) (by simp [hb])) rfl rfl rfl rfl ?_
            refine HW_run hE 3 rfl rfl ?_
            refine HW_end ?_
            refine OW_run' hE.ok 1 rfl ?_
            refine OW_as' 101 (.d (boo false)) (by exact congrArg (fun z => AV.d (boo z)) ((by show ((((b.map encBd).length : Nat) : Int) != ((((b.map (shBd (at1.toNat : Int))).map encBd).length : Nat) : Int)) = false; rw [List.length_map, List.length_map, List.length_map]; exact bne_self_eq_false _))) ?_
            refine OW_end rfl ?_
            refine CW_false rfl ?_
            refine CW_skip ?_
            refine CW_seq ?_
            refine CW_region ?_
            refine OW_run' hE.ok 1 rfl ?_
            refine OW_end rfl ?_
            refine CW_block ?_
            refine CW_loop (σ := {j : Nat // j ≤ b.length}) (fun j => ⟨J, (sset (sset (sset (sset (sset noSlots 2 (.d (.lit (.int .u8 (at1.toNat : Int))))) 14 (.d (.sl 1 24 ((matchesX bS p (keptX l 0)).map encR)))) 15 (.d (.sl 1 24 (((matchesX bS p (keptX l 0)).map (List.map (shBd (at1.toNat : Int)))).map encR)))) 16 (.d (int ((i : Nat) : Int)))) 17 (.d (int ((j.1 : Nat) : Int)))), noHeap⟩) (fun j => b.length - j.1) ⟨0, Nat.zero_le _⟩ (LE_sh (slh_set (slh_set (slh_set (slh_set (slh_set (slh_no _ _) rfl rfl) rfl rfl) rfl rfl) rfl rfl) rfl rfl) (hlh_no _ _)) fun ⟨j, hj⟩ => ?_
            refine CW_seq ?_
            refine CW_seq ?_
            refine CW_region ?_
            refine OW_run' hE.ok 3 rfl ?_
            refine OW_loc' hE (loc_indexAddr hE rfl rfl rfl rfl rfl (by omega) (x := encR b) (by simp [hb])) rfl rfl rfl ?_
            refine OW_run' hE.ok 4 rfl ?_
            refine OW_end rfl ?_
            refine CW_cond _ rfl (fun h7 => ?_) (fun h7 => ?_)
            · skip
              have hjl : j < b.length := by have := h7; rw [List.length_map] at this; simp at this; omega
              obtain ⟨y, hy⟩ : ∃ y, b[j]? = some y := ⟨_, List.getElem?_eq_getElem hjl⟩
              obtain ⟨i0, e0, hy0, he0, _⟩ := kept_has (gn_placed hgb y (List.mem_of_getElem? hy))
              have hi0 := (List.getElem?_eq_some_iff.1 he0).1
              refine CW_skip ?_
              refine CW_seq ?_
              refine CW_block ?_
              refine CW_seq ?_
              refine CW_drawn' hE 41 (by decide +kernel) ?_
              refine HW_run hE 2 rfl rfl ?_
              refine HW_loc hE (loc_indexAddr hE rfl rfl rfl rfl rfl (by omega) (x := encR b) (by simp [hb])) rfl rfl rfl rfl ?_
              refine HW_run hE 3 rfl rfl ?_
              refine HW_loc hE (loc_indexAddr hE rfl rfl rfl rfl rfl (by omega) (x := encBd y) (by simp [hy])) rfl rfl rfl rfl ?_
              refine HW_run hE 4 rfl rfl ?_
              refine HW_loc hE (loc_indexAddr hE rfl rfl rfl rfl rfl (by omega) (x := encR (b.map (shBd (at1.toNat : Int)))) (by simp [hb])) rfl rfl rfl rfl ?_
              refine HW_run hE 3 rfl rfl ?_
              refine HW_loc hE (loc_indexAddr hE rfl rfl rfl rfl rfl (by omega) (x := encBd ((shBd (at1.toNat : Int)) y)) (by simp [hy])) rfl rfl rfl rfl ?_
              refine HW_run hE 2 rfl rfl ?_
              refine HW_run hE 1 rfl rfl ?_
              refine HW_as 130 (.d (boo false)) (by exact congrArg (fun z => AV.d (boo z)) (bne_self_eq_false y.el)) ?_
              refine HW_run hE 3 rfl rfl ?_
              refine HW_loc hE (loc_indexAddr hE rfl rfl rfl rfl rfl (by omega) (x := encR b) (by simp [hb])) rfl rfl rfl rfl ?_
              refine HW_run hE 3 rfl rfl ?_
              refine HW_loc hE (loc_indexAddr hE rfl rfl rfl rfl rfl (by omega) (x := encBd y) (by simp [hy])) rfl rfl rfl rfl ?_
              refine HW_run hE 4 rfl rfl ?_
              refine HW_run hE 1 rfl rfl ?_
              refine HW_as 143 (.d (int (y.at_ + (at1.toNat : Int)))) (by show AV.d (.lit (.int .i64 (IntKind.i64.wrap (y.at_ + IntKind.i64.wrap ((at1.toNat : Nat) : Int))))) = _; rw [wrapN (by omega), wrap_id _ _ (by simp [IntKind.min, IntKind.signed, IntKind.bits]; omega) (by simp [IntKind.max, IntKind.signed, IntKind.bits]; omega)]; rfl) ?_
              refine HW_run hE 2 rfl rfl ?_
              refine HW_loc hE (loc_indexAddr hE rfl rfl rfl rfl rfl (by omega) (x := encR (b.map (shBd (at1.toNat : Int)))) (by simp [hb])) rfl rfl rfl rfl ?_
              refine HW_run hE 3 rfl rfl ?_
              refine HW_loc hE (loc_indexAddr hE rfl rfl rfl rfl rfl (by omega) (x := encBd ((shBd (at1.toNat : Int)) y)) (by simp [hy])) rfl rfl rfl rfl ?_
              refine HW_run hE 2 rfl rfl ?_
              refine HW_end ?_
              refine OW_run' hE.ok 1 rfl ?_
              refine OW_as' 153 (.d (boo false)) (by exact congrArg (fun z => AV.d (boo z)) (bne_self_eq_false (y.at_ + (at1.toNat : Int)))) ?_
              refine OW_run' hE.ok 1 rfl ?_
              refine OW_end rfl ?_
              refine CW_false rfl ?_
              refine CW_skip ?_
              refine CW_region ?_
              refine OW_run' hE.ok 3 rfl ?_
              refine OW_end rfl ?_
              refine ⟨⟨j + 1, by omega⟩, LE_sh (slh_set (v := .d (int ((j + 1 : Nat) : Int))) (slh_set (v := .d (int ((i : Nat) : Int))) (slh_set (v := .d (.sl 1 24 (((matchesX bS p (keptX l 0)).map (List.map (shBd (at1.toNat : Int)))).map encR))) (slh_set (v := .d (.sl 1 24 ((matchesX bS p (keptX l 0)).map encR))) (slh_set (v := .d (.lit (.int .u8 (at1.toNat : Int)))) (slh_no _ _) (by rfl) rfl) (by rfl) rfl) (by rfl) rfl) (by rfl) rfl) (by show AV.d (.lit (.int .i64 (IntKind.i64.wrap ((j : Int) + 1)))) = _; rw [wrap_succ (by omega)]; rfl) rfl) (hlh_no _ _), by show b.length - (j + 1) < b.length - j; omega⟩
            · skip
              refine CW_exit ?_
              show CW _ _ _ _
              refine CW_region ?_
              refine OW_run' hE.ok 3 rfl ?_
              refine OW_end rfl ?_
              refine ⟨⟨i + 1, by omega⟩, LE_sh (slh_set (v := .d (int ((i + 1 : Nat) : Int))) (slh_set (v := .d (.sl 1 24 (((matchesX bS p (keptX l 0)).map (List.map (shBd (at1.toNat : Int)))).map encR))) (slh_set (v := .d (.sl 1 24 ((matchesX bS p (keptX l 0)).map encR))) (slh_set (v := .d (.lit (.int .u8 (at1.toNat : Int)))) (slh_no _ _) (by rfl) rfl) (by rfl) rfl) (by rfl) rfl) (by show AV.d (.lit (.int .i64 (IntKind.i64.wrap ((i : Int) + 1)))) = _; rw [wrap_succ (by omega)]; rfl) rfl) (hlh_no _ _), by show (matchesX bS p (keptX l 0)).length - (i + 1) < (matchesX bS p (keptX l 0)).length - i; omega⟩
          · skip
            refine CW_exit ?_
            show CW _ _ _ _
            refine CW_seq ?_
            refine CW_region ?_
            refine OW_run' hE.ok 1 rfl ?_
            refine OW_end rfl ?_
            refine CW_ret ?_
            refine ⟨.inr rfl, rfl, ⟨[.d (boo true)], rfl, rfl, ?_⟩, rfl⟩
            exact AVle.refl _
end Go.Proofs.YtojnicnbmgiplaaGreat
