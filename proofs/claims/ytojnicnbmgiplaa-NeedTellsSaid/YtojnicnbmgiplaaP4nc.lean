/- Parts of an abstract logic over the kit's walks, and walks in it: P4nc. -/
import Derived.Test.YtojnicnbmgiplaaPxa
import Derived.Test.YtojnicnbmgiplaaNeed
import Derived.Test.YtojnicnbmgiplaaAg
import Derived.Test.YtojnicnbmgiplaaAe
namespace Go.Proofs.Ytojnicnbmgiplaa
open Go Go.AL
set_option linter.unusedVariables false
set_option linter.unusedSimpArgs false
set_option maxHeartbeats 4000000
theorem compactU (us : List Us) (hlen : us.length ≤ 140737488355328) : DoesM Try.prog 84 [(7, .row 32 2 (us.map encU))] [.row 7] (.row 7) [(7, .row 32 2 ((cG us).map encU))] [] := by
  refine DoesM_of T_ok mixed (N := 61) Try.func84 rfl rfl rfl (by rfl) rfl rfl rfl rfl rfl rfl fun F n Z hE hF J V => ?_
  refine CW_seq ?_
  refine CW_region ?_
  refine OW_run' hE.ok 1 rfl ?_
  refine OW_end rfl ?_
  refine CW_seq ?_
  refine CW_seq ?_
  refine CW_region ?_
  refine OW_run' hE.ok 1 rfl ?_
  refine OW_loc' hE (loc_lenRow hE rfl rfl rfl rfl) rfl rfl rfl ?_
  refine OW_run' hE.ok 1 rfl ?_
  refine OW_end rfl ?_
  refine CW_cond _ rfl (fun h1 => ?_) (fun h1 => ?_)
  · skip
    have hn : us.length < 2 := by have := h1; simp at this; omega
    refine CW_seq ?_
    refine CW_region ?_
    refine OW_run' hE.ok 2 rfl ?_
    refine OW_end rfl ?_
    refine CW_ret ⟨.inr rfl, rfl, ⟨_, rfl, AVle.refl _⟩, ⟨by rw [cG_small hn]; rfl, trivial⟩, rfl⟩
  · skip
    have hn : 2 ≤ us.length := by have := h1; simp at this; omega
    refine CW_skip ?_
    refine CW_seq ?_
    refine CW_seq ?_
    refine CW_region ?_
    refine OW_run' hE.ok 1 rfl ?_
    refine OW_end rfl ?_
    refine CW_block ?_
    refine CW_loop (σ := {k : Nat // 1 ≤ k ∧ k ≤ us.length ∧ cG (us.take k) = us.take k}) (fun k => ⟨J, (sset (sset noSlots 0 (.row 7)) 3 (.d (int ((k.1 : Nat) : Int)))), (hset (hset noHeap 7 (some (.row 32 2 (us.map encU)))) 99 (some (.ghost [] V)))⟩) (fun k => us.length - k.1) ⟨1, Nat.le_refl _, by omega, cG_take1 (by omega)⟩ (LE_sh (slh_set (slh_set (slh_no _ _) rfl rfl) rfl rfl) (hlh_set (hlh_set (hlh_no _ _) rfl rfl) rfl rfl)) fun ⟨k, hk1, hkn, hkd⟩ => ?_
    refine CW_seq ?_
    refine CW_seq ?_
    refine CW_region ?_
    refine OW_run' hE.ok 2 rfl ?_
    refine OW_loc' hE (loc_lenRow hE rfl rfl rfl rfl) rfl rfl rfl ?_
    refine OW_run' hE.ok 1 rfl ?_
    refine OW_end rfl ?_
    refine CW_cond _ rfl (fun h2 => ?_) (fun h2 => ?_)
    · skip
      have hlt : k < us.length := by have := h2; simp at this; omega
      obtain ⟨x, hx⟩ : ∃ x, us[k - 1]? = some x := ⟨_, List.getElem?_eq_getElem (by omega)⟩
      obtain ⟨y, hy⟩ : ∃ y, us[k]? = some y := ⟨_, List.getElem?_eq_getElem hlt⟩
      refine CW_skip ?_
      refine CW_seq ?_
      refine CW_block ?_
      refine CW_seq ?_
      refine CW_drawn' hE 9 (by decide +kernel) ?_
      refine HW_run hE 2 rfl rfl ?_
      refine HW_loc hE (loc_idxRow hE rfl rfl rfl rfl rfl (j := k) rfl (by rw [List.length_map]; omega)) rfl rfl rfl rfl ?_
      refine HW_loc hE (loc_loadRow hE rfl rfl rfl (j := k) (off := 0) (by omega) rfl (x := encU y) (by rw [List.getElem?_map, hy]; rfl) (Nat.zero_le _) rfl) rfl rfl rfl rfl ?_
      refine HW_run hE 2 rfl rfl ?_
      refine HW_run hE 1 rfl rfl ?_
      refine HW_as 22 (.d (int ((k - 1 : Nat) : Int))) (by show AV.d (.lit (.int .i64 (IntKind.i64.wrap (((k : Nat) : Int) - 1)))) = _; rw [show (((k : Nat) : Int) - 1) = ((k - 1 : Nat) : Int) by omega, wrapN (by omega)]; rfl) ?_
      refine HW_loc hE (loc_idxRow hE rfl rfl rfl rfl rfl (j := k - 1) rfl (by rw [List.length_map]; omega)) rfl rfl rfl rfl ?_
      refine HW_loc hE (loc_loadRow hE rfl rfl rfl (j := (k - 1)) (off := 0) (by omega) rfl (x := encU x) (by rw [List.getElem?_map, hx]; rfl) (Nat.zero_le _) rfl) rfl rfl rfl rfl ?_
      refine HW_end ?_
      refine OW_loc' hE (loc_eql rfl rfl rfl (r := sameU y x) (eqLaw_flat T_ok (t := 32) rfl (by decide +kernel) rfl (X := encU y) (Y := encU x) rfl rfl rfl)) rfl rfl rfl ?_
      refine OW_end rfl ?_
      refine CW_cond _ rfl (fun h3 => ?_) (fun h3 => ?_)
      · skip
        have hxy : y = x := sameU_eq h3
        rw [hxy] at hy
        have c0 := CmpG.start hk1 hx hy hkd
        refine CW_seq ?_
        refine CW_region ?_
        refine OW_run' hE.ok 2 rfl ?_
        refine OW_loc' hE (loc_viewRow hE rfl rfl rfl rfl rfl rfl (l := k) rfl (by rw [List.length_map]; show k < us.length; omega)) rfl rfl rfl ?_
        refine OW_as' 28 (.view 7 (k * 2) (us.length - k)) (by show AV.view 7 (k * 2) ((us.map encU).length - k) = _; rw [List.length_map]) ?_
        refine OW_run' hE.ok 1 rfl ?_
        refine OW_end rfl ?_
        refine CW_seq ?_
        refine CW_seq ?_
        refine CW_region ?_
        refine OW_run' hE.ok 1 rfl ?_
        refine OW_end rfl ?_
        refine CW_block ?_
        refine CW_loop (σ := {q : List Us × Nat × Nat // CmpG us q.1 q.2.1 q.2.2 ∧ k < q.2.2}) (fun q => ⟨J, (sset (sset (sset (sset noSlots 0 (.row 7)) 3 (.d (int ((q.1.2.1 : Nat) : Int)))) 4 (.view 7 (k * 2) (us.length - k))) 5 (.d (int ((q.1.2.2 - k : Nat) : Int)))), (hset (hset noHeap 7 (some (.row 32 2 (q.1.1.map encU)))) 99 (some (.ghost [] V)))⟩) (fun q => us.length - q.1.2.2) ⟨(us, k, k + 1), c0, by show k < k + 1; omega⟩ (LE_sh (slh_set (slh_set (slh_set (slh_set (slh_no _ _) rfl rfl) rfl rfl) rfl rfl) (congrArg (fun z => AV.d (int z)) (by show (1 : Int) = ((k + 1 - k : Nat) : Int); omega)) rfl) (hlh_set (hlh_set (hlh_no _ _) rfl rfl) rfl rfl)) fun ⟨⟨R, kk, p⟩, c, hkp⟩ => ?_
        simp only at c hkp
        have c1 := c.len
        have c2 := c.lo
        have c3 := c.kp
        have c4 := c.hi
        refine CW_seq ?_
        refine CW_seq ?_
        refine CW_region ?_
        refine OW_run' hE.ok 2 rfl ?_
        refine OW_loc' hE (loc_lenView hE rfl rfl rfl (by omega)) rfl rfl rfl ?_
        refine OW_run' hE.ok 1 rfl ?_
        refine OW_end rfl ?_
        refine CW_cond _ rfl (fun h4 => ?_) (fun h4 => ?_)
        · skip
          have hpl : p < us.length := by have := h4; simp at this; omega
          obtain ⟨x2, hx2⟩ : ∃ x, us[p - 1]? = some x := ⟨_, List.getElem?_eq_getElem (by omega)⟩
          obtain ⟨y2, hy2⟩ : ∃ y, us[p]? = some y := ⟨_, List.getElem?_eq_getElem hpl⟩
          refine CW_skip ?_
          refine CW_seq ?_
          refine CW_block ?_
          refine CW_seq ?_
          refine CW_drawn' hE 9 (by decide +kernel) ?_
          refine HW_run hE 2 rfl rfl ?_
          refine HW_loc hE (loc_idxView hE rfl rfl rfl rfl (j := (p - k)) rfl (by omega)) rfl rfl rfl rfl ?_
          refine HW_loc hE (loc_loadRow hE rfl rfl rfl (j := p) (off := 0) (by omega) rfl (x := encU y2) (by rw [List.getElem?_map, (c.at (by omega)).trans hy2]; rfl) (Nat.zero_le _) rfl) rfl rfl rfl rfl ?_
          refine HW_run hE 2 rfl rfl ?_
          refine HW_run hE 1 rfl rfl ?_
          refine HW_as 41 (.d (int (((p - k) - 1 : Nat) : Int))) (by show AV.d (.lit (.int .i64 (IntKind.i64.wrap ((((p - k) : Nat) : Int) - 1)))) = _; rw [show ((((p - k) : Nat) : Int) - 1) = (((p - k) - 1 : Nat) : Int) by omega, wrapN (by omega)]; rfl) ?_
          refine HW_loc hE (loc_idxView hE rfl rfl rfl rfl (j := (p - k - 1)) rfl (by omega)) rfl rfl rfl rfl ?_
          refine HW_loc hE (loc_loadRow hE rfl rfl rfl (j := (p - 1)) (off := 0) (by omega) rfl (x := encU x2) (by rw [List.getElem?_map, (c.at (by omega)).trans hx2]; rfl) (Nat.zero_le _) rfl) rfl rfl rfl rfl ?_
          refine HW_end ?_
          refine OW_loc' hE (loc_neq rfl rfl rfl (r := sameU y2 x2) (eqLaw_flat T_ok (t := 32) rfl (by decide +kernel) rfl (X := encU y2) (Y := encU x2) rfl rfl rfl)) rfl rfl rfl ?_
          refine OW_end rfl ?_
          refine CW_cond _ rfl (fun h5 => ?_) (fun h5 => ?_)
          · skip
            have hne2 : (y2 != x2) = true := h5
            obtain ⟨z, hz⟩ : ∃ z, R[kk]? = some z := ⟨_, List.getElem?_eq_getElem (by omega)⟩
            refine CW_seq ?_
            refine CW_region ?_
            refine OW_run' hE.ok 4 rfl ?_
            refine OW_loc' hE (loc_idxView hE rfl rfl rfl rfl (j := (p - k)) rfl (by omega)) rfl rfl rfl ?_
            refine OW_loc' hE (loc_loadRow hE rfl rfl rfl (j := p) (off := 0) (by omega) rfl (x := encU y2) (by rw [List.getElem?_map, (c.at (by omega)).trans hy2]; rfl) (Nat.zero_le _) rfl) rfl rfl rfl ?_
            refine OW_loc' hE (loc_idxRow hE rfl rfl rfl rfl rfl (j := kk) rfl (by rw [List.length_map]; show kk < R.length; omega)) rfl rfl rfl ?_
            refine OW_storeRow' hE rfl rfl rfl rfl rfl (j := kk) (off := 0) rfl (by omega) rfl (x := encU z) (by rw [List.getElem?_map, hz]; rfl) (y := encU y2) rfl rfl rfl (by show 0 + 2 ≤ 2; omega) (xs' := (R.set kk y2).map encU) (by rw [List.map_set]; rfl) ?_
            refine OW_end rfl ?_
            refine CW_region ?_
            refine OW_run' hE.ok 3 rfl ?_
            refine OW_end rfl ?_
            refine CW_region ?_
            refine OW_run' hE.ok 3 rfl ?_
            refine OW_end rfl ?_
            exact ⟨⟨(R.set kk y2, (kk + 1), p + 1), c.put hx2 hy2 hne2, by show k < p + 1; omega⟩, LE_sh (slh_set (v := .d (int ((p + 1 - k : Nat) : Int))) (slh_set (v := .view 7 (k * 2) (us.length - k)) (slh_set (v := .d (int (((kk + 1) : Nat) : Int))) (slh_set (v := .row 7) (slh_no _ _) (by rfl) rfl) (by show AV.d (.lit (.int .i64 (IntKind.i64.wrap ((kk : Int) + 1)))) = _; rw [wrap_succ (by omega)]; rfl) rfl) (by rfl) rfl) (by show AV.d (.lit (.int .i64 (IntKind.i64.wrap (((p - k : Nat) : Int) + 1)))) = _; rw [wrap_succ (by omega)]; exact congrArg (fun z => AV.d (int z)) (by omega)) rfl) (hlh_set (hlh_set (hlh_no _ _) rfl rfl) rfl rfl), by show us.length - (p + 1) < us.length - p; omega⟩
          · skip
            have hne2 : (y2 != x2) = false := h5
            refine CW_skip ?_
            refine CW_region ?_
            refine OW_run' hE.ok 3 rfl ?_
            refine OW_end rfl ?_
            exact ⟨⟨(R, kk, p + 1), c.skip hx2 hy2 hne2, by show k < p + 1; omega⟩, LE_sh (slh_set (v := .d (int ((p + 1 - k : Nat) : Int))) (slh_set (v := .view 7 (k * 2) (us.length - k)) (slh_set (v := .d (int ((kk : Nat) : Int))) (slh_set (v := .row 7) (slh_no _ _) (by rfl) rfl) (by rfl) rfl) (by rfl) rfl) (by show AV.d (.lit (.int .i64 (IntKind.i64.wrap (((p - k : Nat) : Int) + 1)))) = _; rw [wrap_succ (by omega)]; exact congrArg (fun z => AV.d (int z)) (by omega)) rfl) (hlh_set (hlh_set (hlh_no _ _) rfl rfl) rfl rfl), by show us.length - (p + 1) < us.length - p; omega⟩
        · skip
          have hpg : us.length ≤ p := by have := h4; simp at this; omega
          refine CW_exit ?_
          show CW _ _ _ _
          refine CW_seq ?_
          refine CW_region ?_
          refine OW_run' hE.ok 2 rfl ?_
          refine OW_loc' hE (loc_viewRow hE rfl rfl rfl rfl rfl rfl (l := kk) rfl (by rw [List.length_map]; show kk < R.length; omega)) rfl rfl rfl ?_
          refine OW_as' 56 (.view 7 (kk * 2) (us.length - kk)) (by show AV.view 7 (kk * 2) ((R.map encU).length - kk) = _; rw [List.length_map, c.len]) ?_
          refine OW_clearView' hE (l := kk) (m := us.length - kk) (zs := [str nul, str nul]) rfl rfl rfl rfl rfl rfl rfl rfl rfl rfl (by rw [List.length_map]; show kk + (us.length - kk) ≤ R.length; omega) (by omega) ?_
          refine OW_end rfl ?_
          refine CW_seq ?_
          refine CW_region ?_
          refine OW_run' hE.ok 2 rfl ?_
          refine OW_cutRow' hE rfl rfl rfl rfl rfl rfl rfl (u := kk) rfl (by simp only [List.length_append, List.length_take, List.length_map, List.length_replicate]; have h9 : R.length = us.length := c1; omega) rfl ?_
          refine OW_run' hE.ok 1 rfl ?_
          refine OW_end rfl ?_
          refine CW_ret ⟨.inr rfl, rfl, ⟨_, rfl, AVle.refl _⟩, ⟨by show some (Ent.row 32 2 (((R.map encU).take kk ++ List.replicate (us.length - kk) [str nul, str nul] ++ (R.map encU).drop (kk + (us.length - kk))).take kk)) = some (Ent.row 32 2 ((cG us).map encU)); rw [List.append_assoc, List.take_append_of_le_length (by simp only [List.length_take, List.length_map]; have h9 : R.length = us.length := c1; omega), List.take_take, Nat.min_self, ← List.map_take, cmpG_end c hpg], trivial⟩, rfl⟩
      · skip
        have hne : (y == x) = false := h3
        refine CW_skip ?_
        refine CW_region ?_
        refine OW_run' hE.ok 3 rfl ?_
        refine OW_end rfl ?_
        exact ⟨⟨k + 1, by omega, by omega, cG_next hk1 hx hy hne hkd⟩, LE_sh (slh_set (v := .d (int ((k + 1 : Nat) : Int))) (slh_set (v := .row 7) (slh_no _ _) (by rfl) rfl) (by show AV.d (.lit (.int .i64 (IntKind.i64.wrap ((k : Int) + 1)))) = _; rw [wrap_succ (by omega)]; rfl) rfl) (hlh_set (hlh_set (hlh_no _ _) rfl rfl) rfl rfl), by show us.length - (k + 1) < us.length - k; omega⟩
    · skip
      have hge : us.length ≤ k := by have := h2; simp at this; omega
      refine CW_exit ?_
      show CW _ _ _ _
      refine CW_seq ?_
      refine CW_region ?_
      refine OW_run' hE.ok 2 rfl ?_
      refine OW_end rfl ?_
      refine CW_ret ⟨.inr rfl, rfl, ⟨_, rfl, AVle.refl _⟩, ⟨by show some (Ent.row 32 2 (us.map encU)) = some (Ent.row 32 2 ((cG us).map encU)); rw [List.take_of_length_le hge] at hkd; rw [hkd], trivial⟩, rfl⟩
end Go.Proofs.Ytojnicnbmgiplaa
