/- Parts of an abstract logic over the kit's walks, and walks in it: D8i. -/
import Derived.Test.YtjiknbjkbakegaaDoorD8h
import Derived.Test.YtjiknbjkbakegaaDoorAe
namespace Go.Proofs.YtjiknbjkbakegaaDoor
open Go Go.AL
set_option linter.unusedVariables false
set_option linter.unusedSimpArgs false
set_option maxHeartbeats 4000000
theorem cloneD (l : List ByteArray) : Does Tryd.prog 37 [.d (.sl 1 16 (l.map encB))] noHeap (.d (.sl 1 16 (l.map encB))) := by
  refine Does_of T_ok mixed (N := 8) Tryd.func37 rfl rfl rfl (by rfl) fun F n Z hE hF J => ?_
  refine CW_know (know_sl (d := 0) rfl) fun hlen => ?_
  rw [List.length_map] at hlen
  refine CW_seq ?_
  refine CW_region ?_
  refine OW_run' hE.ok 1 rfl ?_
  refine OW_end rfl ?_
  refine CW_seq ?_
  refine CW_seq ?_
  refine CW_region ?_
  refine OW_run' hE.ok 1 rfl ?_
  refine OW_eqNil' hE rfl rfl rfl rfl rfl rfl rfl rfl (fun b hb => ?_)
  refine OW_end rfl ?_
  refine CW_cond _ rfl (fun h1 => ?_) (fun h1 => ?_)
  · skip
    refine CW_seq ?_
    refine CW_region ?_
    refine OW_run' hE.ok 1 rfl ?_
    refine OW_end rfl ?_
    refine CW_ret ?_
    refine ⟨.inr rfl, rfl, ⟨_, rfl, rfl, ?_⟩, rfl⟩
    rw [hb h1]
    exact AVle.nilSl 1 16
  · skip
    refine CW_skip ?_
    refine CW_seq ?_
    refine CW_region ?_
    refine OW_litsOwn' hE 7 rfl rfl rfl rfl rfl rfl rfl rfl rfl rfl rfl rfl ?_
    refine OW_run' hE.ok 1 rfl ?_
    refine OW_append' hE (key := 7) rfl rfl rfl rfl rfl rfl rfl rfl (.inl rfl) (by simp; omega) (by simp; omega) rfl ?_
    refine OW_run' hE.ok 1 rfl ?_
    refine OW.le (LE_freeze 7 16 rfl (by simp; omega)) ?_
    refine OW_end rfl ?_
    refine CW_ret ?_
    refine ⟨.inr rfl, rfl, ⟨_, rfl, rfl, ?_⟩, rfl⟩
    exact AVle.refl _

theorem normLOk (e : El) : Does Tryd.prog 36 [argL e] noHeap (argL (normL e)) := by
  refine Does_of T_ok mixed (N := 12) Tryd.func36 rfl rfl rfl (by rfl) fun F n Z hE hF J => ?_
  have q := normEOk e.cond
  have hn : normL e = { e with cond := normE e.cond } := rfl
  obtain ⟨o3, v3, a3, f3, k3, hN⟩ := Exp.shape (normE e.cond)
  rw [hN] at q hn
  rw [hn]
  obtain ⟨y1, y2, y3, y4, y5, y6, y7, y8, y9, rfl⟩ := El.shape e
  refine CW_seq ?_
  refine CW_region ?_
  refine OW_box' hE 1 rfl rfl rfl rfl rfl rfl ?_
  refine OW_alloc' hE 2 rfl rfl rfl rfl rfl rfl rfl ?_
  refine OW_end rfl ?_
  refine CW_seq ?_
  refine CW_drawn' hE 7 (by decide +kernel) ?_
  refine HW_run hE 2 rfl rfl ?_
  refine HW_call hE (cloneD _) rfl rfl rfl rfl rfl rfl rfl rfl ?_
  refine HW_run hE 2 rfl rfl ?_
  refine HW_call hE (q) rfl rfl rfl rfl rfl rfl rfl rfl ?_
  refine HW_run hE 1 rfl rfl ?_
  refine HW_end ?_
  refine OW_store' hE rfl rfl rfl rfl rfl rfl rfl rfl rfl rfl rfl rfl ?_
  refine OW_run' hE.ok 1 rfl ?_
  refine OW_store' hE rfl rfl rfl rfl rfl rfl rfl rfl rfl rfl rfl rfl ?_
  refine OW_end rfl ?_
  refine CW_seq ?_
  refine CW_region ?_
  refine OW_run' hE.ok 1 rfl ?_
  refine OW_store' hE rfl rfl rfl rfl rfl rfl rfl rfl rfl rfl rfl rfl ?_
  refine OW_end rfl ?_
  refine CW_ret ?_
  refine ⟨.inr rfl, rfl, ⟨_, rfl, rfl, ?_⟩, rfl⟩
  exact AVle.refl _

theorem normPOk (p : Pat) : Does Tryd.prog 22 [argP p] noHeap (argP (normP p)) := by
  refine Does_of T_ok mixed (N := 8) Tryd.func22 rfl rfl rfl (by rfl) fun F n Z hE hF J => ?_
  refine CW_seq ?_
  refine CW_region ?_
  refine OW_box' hE 1 rfl rfl rfl rfl rfl rfl ?_
  refine OW_alloc' hE 2 rfl rfl rfl rfl rfl rfl rfl ?_
  refine OW_end rfl ?_
  refine CW_seq ?_
  refine CW_region ?_
  refine OW_run' hE.ok 2 rfl ?_
  refine OW_call' hE (mapL p.els 36 [] [] normL (fun e _ => normLOk e)) rfl rfl rfl rfl rfl rfl rfl ?_
  refine OW_run' hE.ok 1 rfl ?_
  refine OW_store' hE rfl rfl rfl rfl rfl rfl rfl rfl rfl rfl rfl rfl ?_
  refine OW_end rfl ?_
  refine CW_seq ?_
  refine CW_region ?_
  refine OW_run' hE.ok 1 rfl ?_
  refine OW_store' hE rfl rfl rfl rfl rfl rfl rfl rfl rfl rfl rfl rfl ?_
  refine OW_end rfl ?_
  refine CW_ret ?_
  refine ⟨.inr rfl, rfl, ⟨_, rfl, rfl, ?_⟩, rfl⟩
  exact AVle.refl _

theorem refNormPOk (p : Pat) (hl : p.els.length ≤ 1000) : Does Tryd.prog 16 [argP p] noHeap (argP (normP p)) := by
  refine Does_of T_ok mixed (N := 30) Tryd.func16 rfl rfl rfl (by rfl) fun F n Z hE hF J => ?_
  refine CW_seq ?_
  refine CW_region ?_
  refine OW_run' hE.ok 1 rfl ?_
  refine OW_alloc' hE 1 rfl rfl rfl rfl rfl rfl rfl ?_
  refine OW_end rfl ?_
  refine CW_seq ?_
  refine CW_region ?_
  refine OW_run' hE.ok 1 rfl ?_
  refine OW_alloc' hE 2 rfl rfl rfl rfl rfl rfl rfl ?_
  refine OW_store' hE rfl rfl rfl rfl rfl rfl rfl rfl rfl rfl rfl rfl ?_
  refine OW_end rfl ?_
  refine CW_seq ?_
  refine CW_region ?_
  refine OW_run' hE.ok 2 rfl ?_
  refine OW_appendNil' hE 50 rfl rfl rfl rfl rfl rfl rfl rfl (.inl rfl) (by simp; omega) (by simp; omega) rfl ?_
  refine OW_run' hE.ok 1 rfl ?_
  refine OW_store' hE rfl rfl rfl rfl rfl rfl rfl rfl rfl rfl rfl rfl ?_
  refine OW_end rfl ?_
  refine CW_seq ?_
  refine CW_seq ?_
  refine CW_region ?_
  refine OW_run' hE.ok 1 rfl ?_
  refine OW_end rfl ?_
  refine CW_block ?_
  skip
  refine CW_loop (σ := {i : Nat // i ≤ p.els.length}) (fun i => ⟨J, (sset (sset (sset noSlots 2 (.ptr 1 0)) 3 (.ptr 2 0)) 4 (.d (int ((i.1 : Nat) : Int)))), (hset (hset (hset noHeap 1 (some (.box 24 [.d (.lit (.slice none 0 0)), .d (int 0), .d (str nul), .d (boo false)]))) 2 (some (.box 24 [.row 50, .d (int p.within), .d (str p.byf), .d (boo p.any)]))) 50 (some (.row 43 11 ((partN normL p.els i.1).map encL))))⟩) (fun i => p.els.length - i.1) ⟨0, Nat.zero_le _⟩ (LE_sh (slh_set (slh_set (slh_set (slh_no _ _) rfl rfl) rfl rfl) rfl rfl) (hlh_set (hlh_set (hlh_set (hlh_no _ _) rfl rfl) rfl rfl) rfl rfl)) fun ⟨i, hi⟩ => ?_
  refine CW_seq ?_
  refine CW_seq ?_
  refine CW_region ?_
  refine OW_run' hE.ok 5 rfl ?_
  refine OW_end rfl ?_
  refine CW_cond _ rfl (fun h1 => ?_) (fun h1 => ?_)
  · skip
    have hlt : i < p.els.length := by have := h1; simp [partN_len] at this; omega
    obtain ⟨e, he⟩ : ∃ e, p.els[i]? = some e := ⟨_, List.getElem?_eq_getElem hlt⟩
    have hst := partN_set (g := normL) he
    have hgt := partN_get (g := normL) he
    have q := refNormEOk e.cond
    have hn : normL e = { e with cond := normE e.cond } := rfl
    obtain ⟨o3, v3, a3, f3, k3, hN⟩ := Exp.shape (normE e.cond)
    rw [hN] at q hn
    rw [hn] at hst
    obtain ⟨y1, y2, y3, y4, y5, y6, y7, y8, y9, rfl⟩ := El.shape e
    refine CW_skip ?_
    refine CW_seq ?_
    refine CW_block ?_
    refine CW_drawn' hE 10 (by decide +kernel) ?_
    refine HW_run hE 6 rfl rfl ?_
    refine HW_loc hE (loc_idxRow hE rfl rfl rfl rfl rfl (j := i) rfl (by simp [partN_len]; omega)) rfl rfl rfl rfl ?_
    refine HW_run hE 1 rfl rfl ?_
    refine HW_loc hE (loc_loadRow hE rfl rfl rfl (j := i) (off := 4) (by omega) rfl (x := encL ⟨y1, y2, y3, y4, .mk y5 y6 y7 y8 y9⟩) (by simp [hgt]) (by simp [encL]) rfl) rfl rfl rfl rfl ?_
    refine HW_call hE (q) rfl rfl rfl rfl rfl rfl rfl rfl ?_
    refine HW_end ?_
    refine OW_loc' hE (loc_idxRow hE rfl rfl rfl rfl rfl (j := i) rfl (by simp [partN_len]; omega)) rfl rfl rfl ?_
    refine OW_run' hE.ok 1 rfl ?_
    refine OW_storeRow' hE rfl rfl rfl rfl rfl (j := i) (off := 4) rfl (by omega) rfl (x := encL ⟨y1, y2, y3, y4, .mk y5 y6 y7 y8 y9⟩) (by simp [hgt]) (y := encX (.mk o3 v3 a3 f3 k3)) rfl rfl rfl (by simp [encX]) (xs' := (partN normL p.els (i + 1)).map encL) (by rw [← hst, List.map_set]; rfl) ?_
    refine OW_end rfl ?_
    refine CW_region ?_
    refine OW_run' hE.ok 3 rfl ?_
    refine OW_end rfl ?_
    exact ⟨⟨i + 1, by omega⟩, LE_sh (slh_set (v := .d (int ((i + 1 : Nat) : Int))) (slh_set (v := .ptr 2 0) (slh_set (v := .ptr 1 0) (slh_no _ _) (by rfl) rfl) (by rfl) rfl) (by show AV.d (.lit (.int .i64 (IntKind.i64.wrap ((i : Int) + 1)))) = _; rw [wrap_succ (by omega)]; rfl) rfl) (hlh_set (hlh_set (hlh_set (hlh_no _ _) rfl rfl) rfl rfl) rfl rfl), by show p.els.length - (i + 1) < p.els.length - i; omega⟩
  · skip
    have hge : p.els.length ≤ i := by have := h1; simp [partN_len] at this; omega
    refine CW_exit ?_
    show CW _ _ _ _
    refine CW_seq ?_
    refine CW.le (show LE _ _ ⟨J, (sset (sset noSlots 2 (.ptr 1 0)) 3 (.ptr 2 0)), (hset (hset (hset noHeap 1 (some (.box 24 [.d (.lit (.slice none 0 0)), .d (int 0), .d (str nul), .d (boo false)]))) 2 (some (.box 24 [.row 50, .d (int p.within), .d (str p.byf), .d (boo p.any)]))) 50 (some (.row 43 11 ((p.els.map normL).map encL))))⟩ from LE_sh (slh_set (v := .ptr 2 0) (slh_set (v := .ptr 1 0) (slh_no _ _) (by rfl) rfl) (by rfl) rfl) (hlh_set (hlh_set (hlh_set (hlh_no _ _) rfl rfl) rfl rfl) (congrArg (fun z : List El => some (Ent.row 43 11 (z.map encL))) (partN_all hge)) rfl)) ?_
    refine CW.le (LE_freeze 50 144 rfl (by simp; omega)) ?_
    refine CW_region ?_
    refine OW_run' hE.ok 1 rfl ?_
    refine OW_store' hE rfl rfl rfl rfl rfl rfl rfl rfl rfl rfl rfl rfl ?_
    refine OW_end rfl ?_
    refine CW_ret ?_
    refine ⟨.inr rfl, rfl, ⟨_, rfl, rfl, ?_⟩, rfl⟩
    exact AVle.refl _
end Go.Proofs.YtjiknbjkbakegaaDoor
