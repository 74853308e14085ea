/- Parts of an abstract logic over the kit's walks, and walks in it: H4ly. -/
import Derived.Test.YtojnicnbmgiplaaGreatH4lk
import Derived.Test.YtojnicnbmgiplaaGreatHxi
import Derived.Test.YtojnicnbmgiplaaGreatH4l2
import Derived.Test.YtojnicnbmgiplaaGreatMat7
namespace Go.Proofs.YtojnicnbmgiplaaGreat
open Go Go.AL
set_option linter.unusedVariables false
set_option linter.unusedSimpArgs false
set_option maxHeartbeats 4000000
theorem numOk (e : Ev) : Does Tryz.prog 22 [argE e] noHeap (.d (int (numX e))) := by
  refine Does_of T_ok mixed (N := 26) Tryz.func22 rfl rfl rfl (by rfl) fun F n Z hE hF J => ?_
  obtain ⟨ty, ts, vals⟩ := e
  refine CW_seq ?_
  refine CW_region ?_
  refine OW_run' hE.ok 2 rfl ?_
  refine OW_end rfl ?_
  refine CW_seq ?_
  refine CW_seq ?_
  refine CW_region ?_
  refine OW_run' hE.ok 4 rfl ?_
  refine OW_split' 6 rfl (fun h1 => ?_) (fun h1 => ?_)
  · skip
    have g1 : same ty (ch 116) = true := h1
    refine OW_run' hE.ok 5 rfl ?_
    refine OW_end rfl ?_
    refine CW_cond _ rfl (fun h2 => ?_) (fun h2 => ?_)
    · skip
      have g2 : (vals.length == 3) = true := by have h0 := h2; have h1 : ((((vals.map encV).length : Nat) : Int) == 3) = true := h0; rw [List.length_map] at h1; simp at h1 ⊢; omega
      have g3 : vals.length = 3 := by simpa using g2
      obtain ⟨v, hv⟩ : ∃ v, vals[1]? = some v := ⟨_, List.getElem?_eq_getElem (by omega)⟩
      refine CW_seq ?_
      refine CW_region ?_
      refine OW_run' hE.ok 2 rfl ?_
      refine OW_loc' hE (loc_indexAddr hE rfl rfl rfl rfl rfl (by omega) (x := encV v) (by rw [List.getElem?_map]; show (vals[1]?).map encV = _; rw [hv]; rfl)) rfl rfl rfl ?_
      refine OW_run' hE.ok 3 rfl ?_
      refine OW_end rfl ?_
      refine CW_ret ?_
      refine ⟨.inr rfl, rfl, ⟨[.d (int v.n)], rfl, rfl, ?_⟩, rfl⟩
      rw [show numX ⟨ty, ts, vals⟩ = v.n by unfold numX; rw [g1, g2]; show (vals.getD 1 nulV).n = _; rw [List.getD_eq_getElem?_getD, hv]; rfl]
      exact AVle.refl _
    · skip
      have g2 : (vals.length == 3) = false := by have h0 := h2; have h1 : ((((vals.map encV).length : Nat) : Int) == 3) = false := h0; rw [List.length_map] at h1; simp at h1 ⊢; omega
      refine CW_skip ?_
      refine CW_seq ?_
      refine CW_seq ?_
      refine CW_region ?_
      refine OW_run' hE.ok 4 rfl ?_
      refine OW_end rfl ?_
      refine CW_cond _ rfl (fun h3 => ?_) (fun h3 => ?_)
      · skip
        have g4 : (vals.length == 1) = true := by have h0 := h3; have h1 : ((((vals.map encV).length : Nat) : Int) == 1) = true := h0; rw [List.length_map] at h1; simp at h1 ⊢; omega
        have g5 : vals.length = 1 := by simpa using g4
        obtain ⟨v, hv⟩ : ∃ v, vals[0]? = some v := ⟨_, List.getElem?_eq_getElem (by omega)⟩
        refine CW_seq ?_
        refine CW_region ?_
        refine OW_run' hE.ok 2 rfl ?_
        refine OW_loc' hE (loc_indexAddr hE rfl rfl rfl rfl rfl (by omega) (x := encV v) (by rw [List.getElem?_map]; show (vals[0]?).map encV = _; rw [hv]; rfl)) rfl rfl rfl ?_
        refine OW_run' hE.ok 3 rfl ?_
        refine OW_end rfl ?_
        refine CW_ret ?_
        refine ⟨.inr rfl, rfl, ⟨[.d (int v.n)], rfl, rfl, ?_⟩, rfl⟩
        rw [show numX ⟨ty, ts, vals⟩ = v.n by unfold numX; rw [g1, g2, g4]; show (vals.getD 0 nulV).n = _; rw [List.getD_eq_getElem?_getD, hv]; rfl]
        exact AVle.refl _
      · skip
        have g4 : (vals.length == 1) = false := by have h0 := h3; have h1 : ((((vals.map encV).length : Nat) : Int) == 1) = false := h0; rw [List.length_map] at h1; simp at h1 ⊢; omega
        refine CW_skip ?_
        refine CW_seq ?_
        refine CW_region ?_
        refine OW_run' hE.ok 1 rfl ?_
        refine OW_end rfl ?_
        refine CW_ret ?_
        refine ⟨.inr rfl, rfl, ⟨[.d (int 0)], rfl, rfl, ?_⟩, rfl⟩
        rw [show numX ⟨ty, ts, vals⟩ = 0 by unfold numX; rw [g1, g2, g4]; rfl]
        exact AVle.refl _
  · skip
    have g1 : same ty (ch 116) = false := h1
    refine OW_run' hE.ok 5 rfl ?_
    refine OW_end rfl ?_
    refine CW_false rfl ?_
    refine CW_skip ?_
    refine CW_seq ?_
    refine CW_seq ?_
    refine CW_region ?_
    refine OW_run' hE.ok 4 rfl ?_
    refine OW_end rfl ?_
    refine CW_cond _ rfl (fun h4 => ?_) (fun h4 => ?_)
    · skip
      have g4 : (vals.length == 1) = true := by have h0 := h4; have h1 : ((((vals.map encV).length : Nat) : Int) == 1) = true := h0; rw [List.length_map] at h1; simp at h1 ⊢; omega
      have g5 : vals.length = 1 := by simpa using g4
      obtain ⟨v, hv⟩ : ∃ v, vals[0]? = some v := ⟨_, List.getElem?_eq_getElem (by omega)⟩
      refine CW_seq ?_
      refine CW_region ?_
      refine OW_run' hE.ok 2 rfl ?_
      refine OW_loc' hE (loc_indexAddr hE rfl rfl rfl rfl rfl (by omega) (x := encV v) (by rw [List.getElem?_map]; show (vals[0]?).map encV = _; rw [hv]; rfl)) rfl rfl rfl ?_
      refine OW_run' hE.ok 3 rfl ?_
      refine OW_end rfl ?_
      refine CW_ret ?_
      refine ⟨.inr rfl, rfl, ⟨[.d (int v.n)], rfl, rfl, ?_⟩, rfl⟩
      rw [show numX ⟨ty, ts, vals⟩ = v.n by unfold numX; rw [g1, g4]; show (vals.getD 0 nulV).n = _; rw [List.getD_eq_getElem?_getD, hv]; rfl]
      exact AVle.refl _
    · skip
      have g4 : (vals.length == 1) = false := by have h0 := h4; have h1 : ((((vals.map encV).length : Nat) : Int) == 1) = false := h0; rw [List.length_map] at h1; simp at h1 ⊢; omega
      refine CW_skip ?_
      refine CW_seq ?_
      refine CW_region ?_
      refine OW_run' hE.ok 1 rfl ?_
      refine OW_end rfl ?_
      refine CW_ret ?_
      refine ⟨.inr rfl, rfl, ⟨[.d (int 0)], rfl, rfl, ?_⟩, rfl⟩
      rw [show numX ⟨ty, ts, vals⟩ = 0 by unfold numX; rw [g1, g4]; rfl]
      exact AVle.refl _

theorem byOk (p : Pat) (l : List Ev) (hl : l.length ≤ 2000000) : Does Tryz.prog 7 [argP p, .d (.sl 3 48 (l.map encE))] noHeap (.d (boo true)) := by
  refine Does_of T_ok mixed (N := 111) Tryz.func7 rfl rfl rfl (by rfl) fun F n Z hE hF J => ?_
  obtain ⟨els, wi, byf, any⟩ := p
  refine CW_seq ?_
  refine CW_region ?_
  refine OW_box' hE 1 rfl rfl rfl rfl rfl rfl ?_
  refine OW_run' hE.ok 1 rfl ?_
  refine OW_end rfl ?_
  refine CW_seq ?_
  refine CW_seq ?_
  refine CW_region ?_
  refine OW_call' hE (known14Ok) rfl rfl rfl rfl rfl rfl rfl ?_
  refine OW_run' hE.ok 1 rfl ?_
  refine OW_end rfl ?_
  refine CW_false rfl ?_
  refine CW_skip ?_
  refine CW_seq ?_
  refine CW_region ?_
  refine OW_run' hE.ok 1 rfl ?_
  refine OW_callOwn' hE 77 (streamOk l 0 hl (by decide)) rfl rfl rfl rfl rfl rfl rfl ?_
  refine OW_run' hE.ok 5 rfl ?_
  refine OW.le (LE_freeze 77 64 rfl (by rw [List.length_map]; have := stream_len l 0; omega)) ?_
  refine OW_end rfl ?_
  refine CW_seq ?_
  refine CW_region ?_
  refine OW_run' hE.ok 1 rfl ?_
  refine OW_store' hE rfl rfl rfl rfl rfl rfl rfl rfl rfl rfl rfl rfl ?_
  refine OW_run' hE.ok 1 rfl ?_
  refine OW_store' hE rfl rfl rfl rfl rfl rfl rfl rfl rfl rfl rfl rfl ?_
  refine OW_end rfl ?_
  refine CW_seq ?_
  refine CW_seq ?_
  refine CW.le (LE_freezeBox 1 (ds := encP (⟨els, wi, ch 110, true⟩ : Pat)) rfl rfl) ?_
  refine CW.le (show LE _ _ ⟨J, (sset (sset (sset (sset noSlots 1 (.d (.sl 3 48 (l.map encE)))) 2 (.d (.iptr (encP (⟨els, wi, ch 110, true⟩ : Pat))))) 5 (.d (SK (streamX l 0).1))) 6 (.d (boo (streamX l 0).2))), noHeap⟩ from LE_sh (slh_set (v := .d (boo (streamX l 0).2)) (slh_set (v := .d (SK (streamX l 0).1)) (slh_set (v := .d (.iptr (encP (⟨els, wi, ch 110, true⟩ : Pat)))) (slh_set (v := .d (.sl 3 48 (l.map encE))) (slh_no _ _) (by rfl) rfl) (by rfl) rfl) (by rfl) rfl) (by rfl) rfl) (hlh_no _ _)) ?_
  refine CW_region ?_
  refine OW_run' hE.ok 3 rfl ?_
  refine OW_split' 26 rfl (fun h1 => ?_) (fun h1 => ?_)
  · skip
    skip
    refine OW_run' hE.ok 9 rfl ?_
    refine OW_end rfl ?_
    refine CW_true rfl ?_
    refine CW_seq ?_
    refine CW_region ?_
    refine OW_run' hE.ok 1 rfl ?_
    refine OW_end rfl ?_
    refine CW_ret ?_
    refine ⟨.inr rfl, rfl, ⟨[.d (boo true)], rfl, rfl, ?_⟩, rfl⟩
    exact AVle.refl _
  · skip
    have hs2 : (streamX l 0).2 = true := by have := h1; simpa using this
    have hst := stream_ok hs2
    refine OW_run' hE.ok 5 rfl ?_
    refine OW_split' 31 rfl (fun h2 => ?_) (fun h2 => ?_)
    · skip
      skip
      refine OW_run' hE.ok 4 rfl ?_
      refine OW_end rfl ?_
      refine CW_true rfl ?_
      refine CW_seq ?_
      refine CW_region ?_
      refine OW_run' hE.ok 1 rfl ?_
      refine OW_end rfl ?_
      refine CW_ret ?_
      refine ⟨.inr rfl, rfl, ⟨[.d (boo true)], rfl, rfl, ?_⟩, rfl⟩
      exact AVle.refl _
    · skip
      have hl6 : l.length ≤ 6 := by have := h2; rw [List.length_map] at this; simp at this; omega
      refine OW_run' hE.ok 1 rfl ?_
      refine OW_call' hE (suitsOk (⟨els, wi, ch 110, true⟩ : Pat)) rfl rfl rfl rfl rfl rfl rfl ?_
      refine OW_run' hE.ok 2 rfl ?_
      refine OW_end rfl ?_
      refine CW_cond _ rfl (fun h3 => ?_) (fun h3 => ?_)
      · skip
        skip
        refine CW_seq ?_
        refine CW_region ?_
        refine OW_run' hE.ok 1 rfl ?_
        refine OW_end rfl ?_
        refine CW_ret ?_
        refine ⟨.inr rfl, rfl, ⟨[.d (boo true)], rfl, rfl, ?_⟩, rfl⟩
        exact AVle.refl _
      · skip
        have hck : chkR bS (⟨els, wi, ch 110, true⟩ : Pat) = 0 := by have := h3; simpa using this
        have hpt := isPat_head (chk_isPat hck)
        simp only at hpt
        refine CW_skip ?_
        refine CW_seq ?_
        refine CW.le (show LE _ _ ⟨J, (sset (sset noSlots 2 (.d (.iptr (encP (⟨els, wi, ch 110, true⟩ : Pat))))) 5 (.d (SK (keptX l 0)))), noHeap⟩ from LE_sh (slh_set (v := .d (SK (keptX l 0))) (slh_set (v := .d (.iptr (encP (⟨els, wi, ch 110, true⟩ : Pat)))) (slh_no _ _) (by rfl) rfl) (by exact (congrArg (fun z : List Kp × Bool => AV.d (SK z.1)) hst.1)) rfl) (hlh_no _ _)) ?_
        have hkl := kept_len l 0
        have hkr := kept_rises l 0
        have q1 := matchesOk bS (⟨els, wi, ch 110, true⟩ : Pat) (keptX l 0) hkr (by omega) (by simp only; omega)
        obtain ⟨m1, m2⟩ := mat_rows (s := bS) (p := (⟨els, wi, ch 110, true⟩ : Pat)) (l := (keptX l 0)) (by omega)
        have hok : ∀ x ∈ (keptX l 0), evtR bS x.ev = 0 := kept_ok hst.2
        refine CW_drawn' hE 3 (by decide +kernel) ?_
        refine HW_call hE (base11) rfl rfl rfl rfl rfl rfl rfl rfl ?_
        refine HW_run hE 2 rfl rfl ?_
        refine HW_end ?_
        refine OW_callRow' hE 60 q1 rfl rfl rfl rfl rfl rfl rfl ?_
        refine OW_run' hE.ok 1 rfl ?_
        refine OW.le (LE_freeze 60 24 rfl (by rw [List.length_map]; omega)) ?_
        refine OW_end rfl ?_
        refine CW_seq ?_
        refine CW_region ?_
        refine OW_run' hE.ok 1 rfl ?_
        refine OW_end rfl ?_
        refine CW_seq ?_
        refine CW_seq ?_
        refine CW_region ?_
        refine OW_run' hE.ok 1 rfl ?_
        refine OW_end rfl ?_
        refine CW_block ?_
        refine CW_loop (σ := {i : Nat // i ≤ (keptX l 0).length}) (fun i => ⟨J, (sset (sset (sset (sset (sset noSlots 2 (.d (.iptr (encP (⟨els, wi, ch 110, true⟩ : Pat))))) 5 (.d (SK (keptX l 0)))) 7 (.d (.sl 1 24 ((matchesX bS (⟨els, wi, ch 110, true⟩ : Pat) (keptX l 0)).map encR)))) 8 (.d (int ((cntC (⟨els, wi, ch 110, true⟩ : Pat) (keptX l 0) i.1 : Nat) : Int)))) 9 (.d (int ((i.1 : Nat) : Int)))), noHeap⟩) (fun i => (keptX l 0).length - i.1) ⟨0, Nat.zero_le _⟩ (LE_sh (slh_set (slh_set (slh_set (slh_set (slh_set (slh_no _ _) rfl rfl) rfl rfl) rfl rfl) (congrArg (fun z : Nat => AV.d (int (z : Int))) cnt_0.symm) rfl) rfl rfl) (hlh_no _ _)) fun ⟨i, hi⟩ => ?_
        refine CW_seq ?_
        refine CW_seq ?_
        refine CW_region ?_
        refine OW_run' hE.ok 4 rfl ?_
        refine OW_end rfl ?_
        refine CW_cond _ rfl (fun h4 => ?_) (fun h4 => ?_)
        · skip
          have hlt : i < (keptX l 0).length := (by have := h4; rw [List.length_map] at this; simp at this; omega)
          obtain ⟨x, hx⟩ : ∃ x, (keptX l 0)[i]? = some x := ⟨_, List.getElem?_eq_getElem hlt⟩
          have hcn := cnt_le (p := (⟨els, wi, ch 110, true⟩ : Pat)) (l := (keptX l 0)) i
          refine CW_skip ?_
          refine CW_seq ?_
          refine CW_block ?_
          refine CW_seq ?_
          refine CW_region ?_
          refine OW_run' hE.ok 1 rfl ?_
          refine OW_end rfl ?_
          refine CW_seq ?_
          refine CW_seq ?_
          refine CW_region ?_
          refine OW_run' hE.ok 1 rfl ?_
          refine OW_end rfl ?_
          refine CW_block ?_
          refine CW_loop (σ := {j : Nat // j ≤ i}) (fun j => ⟨J, (sset (sset (sset (sset (sset (sset (sset noSlots 2 (.d (.iptr (encP (⟨els, wi, ch 110, true⟩ : Pat))))) 5 (.d (SK (keptX l 0)))) 7 (.d (.sl 1 24 ((matchesX bS (⟨els, wi, ch 110, true⟩ : Pat) (keptX l 0)).map encR)))) 8 (.d (int ((cntC (⟨els, wi, ch 110, true⟩ : Pat) (keptX l 0) i : Nat) : Int)))) 9 (.d (int ((i : Nat) : Int)))) 10 (.d (boo (((keptX l 0).take j.1).all fun y => numX y.ev != numX x.ev)))) 11 (.d (int ((j.1 : Nat) : Int)))), noHeap⟩) (fun j => i - j.1) ⟨0, Nat.zero_le _⟩ (LE_sh (slh_set (slh_set (slh_set (slh_set (slh_set (slh_set (slh_set (slh_no _ _) rfl rfl) rfl rfl) rfl rfl) rfl rfl) rfl rfl) rfl rfl) rfl rfl) (hlh_no _ _)) fun ⟨j, hj⟩ => ?_
          refine CW_seq ?_
          refine CW_seq ?_
          refine CW_region ?_
          refine OW_run' hE.ok 3 rfl ?_
          refine OW_end rfl ?_
          refine CW_cond _ rfl (fun h5 => ?_) (fun h5 => ?_)
          · skip
            have hjl : j < i := by have := h5; simp at this; omega
            obtain ⟨y, hy⟩ : ∃ y, (keptX l 0)[j]? = some y := ⟨_, List.getElem?_eq_getElem (by omega)⟩
            refine CW_skip ?_
            refine CW_seq ?_
            refine CW_block ?_
            refine CW_drawn' hE 13 (by decide +kernel) ?_
            refine HW_run hE 2 rfl rfl ?_
            refine HW_split 52 rfl (fun h6 => ?_) (fun h6 => ?_)
            · skip
              have g1 : (((keptX l 0).take j).all fun y => numX y.ev != numX x.ev) = true := h6
              refine HW_run hE 2 rfl rfl ?_
              refine HW_loc hE (loc_indexAddr hE rfl rfl rfl rfl rfl (by omega) (x := encK y) (by simp [hy])) rfl rfl rfl rfl ?_
              refine HW_run hE 2 rfl rfl ?_
              refine HW_call hE (numOk y.ev) rfl rfl rfl rfl rfl rfl rfl rfl ?_
              refine HW_run hE 2 rfl rfl ?_
              refine HW_loc hE (loc_indexAddr hE rfl rfl rfl rfl rfl (by omega) (x := encK x) (by simp [hx])) rfl rfl rfl rfl ?_
              refine HW_run hE 2 rfl rfl ?_
              refine HW_end ?_
              refine OW_call' hE (numOk x.ev) rfl rfl rfl rfl rfl rfl rfl ?_
              refine OW_run' hE.ok 3 rfl ?_
              refine OW_end rfl ?_
              refine CW_region ?_
              refine OW_run' hE.ok 3 rfl ?_
              refine OW_end rfl ?_
              refine ⟨⟨j + 1, by omega⟩, LE_sh (slh_set (v := .d (int ((j + 1 : Nat) : Int))) (slh_set (v := .d (boo (((keptX l 0).take (j + 1)).all fun y => numX y.ev != numX x.ev))) (slh_set (v := .d (int ((i : Nat) : Int))) (slh_set (v := .d (int ((cntC (⟨els, wi, ch 110, true⟩ : Pat) (keptX l 0) i : Nat) : Int))) (slh_set (v := .d (.sl 1 24 ((matchesX bS (⟨els, wi, ch 110, true⟩ : Pat) (keptX l 0)).map encR))) (slh_set (v := .d (SK (keptX l 0))) (slh_set (v := .d (.iptr (encP (⟨els, wi, ch 110, true⟩ : Pat)))) (slh_no _ _) (by rfl) rfl) (by rfl) rfl) (by rfl) rfl) (by rfl) rfl) (by rfl) rfl) (by exact (congrArg (fun z => AV.d (boo z)) (by rw [all_snoc hy, g1]; rfl))) rfl) (by show AV.d (.lit (.int .i64 (IntKind.i64.wrap ((j : Int) + 1)))) = _; rw [wrap_succ (by omega)]; rfl) rfl) (hlh_no _ _), by show i - (j + 1) < i - j; omega⟩
            · skip
              have g1 : (((keptX l 0).take j).all fun y => numX y.ev != numX x.ev) = false := h6
              refine HW_run hE 11 rfl rfl ?_
              refine HW_end ?_
              refine OW_run' hE.ok 4 rfl ?_
              refine OW_end rfl ?_
              refine CW_region ?_
              refine OW_run' hE.ok 3 rfl ?_
              refine OW_end rfl ?_
              refine ⟨⟨j + 1, by omega⟩, LE_sh (slh_set (v := .d (int ((j + 1 : Nat) : Int))) (slh_set (v := .d (boo (((keptX l 0).take (j + 1)).all fun y => numX y.ev != numX x.ev))) (slh_set (v := .d (int ((i : Nat) : Int))) (slh_set (v := .d (int ((cntC (⟨els, wi, ch 110, true⟩ : Pat) (keptX l 0) i : Nat) : Int))) (slh_set (v := .d (.sl 1 24 ((matchesX bS (⟨els, wi, ch 110, true⟩ : Pat) (keptX l 0)).map encR))) (slh_set (v := .d (SK (keptX l 0))) (slh_set (v := .d (.iptr (encP (⟨els, wi, ch 110, true⟩ : Pat)))) (slh_no _ _) (by rfl) rfl) (by rfl) rfl) (by rfl) rfl) (by rfl) rfl) (by rfl) rfl) (by exact (congrArg (fun z => AV.d (boo z)) (by rw [all_snoc hy, g1]; rfl))) rfl) (by show AV.d (.lit (.int .i64 (IntKind.i64.wrap ((j : Int) + 1)))) = _; rw [wrap_succ (by omega)]; rfl) rfl) (hlh_no _ _), by show i - (j + 1) < i - j; omega⟩
          · skip
            have hji : i = j := by have := h5; simp at this; omega
            subst hji
            refine CW_exit ?_
            show CW _ _ _ _
            refine CW_seq ?_
            refine CW_seq ?_
            refine CW_region ?_
            refine OW_run' hE.ok 2 rfl ?_
            refine OW_end rfl ?_
            refine CW_cond _ rfl (fun h7 => ?_) (fun h7 => ?_)
            · skip
              have g2 : (((keptX l 0).take i).all fun y => numX y.ev != numX x.ev) = false := by have h0 : (!(((keptX l 0).take i).all fun y => numX y.ev != numX x.ev)) = true := h7; simpa using h0
              refine CW_exit ?_
              show CW _ _ _ _
              refine CW_region ?_
              refine OW_run' hE.ok 3 rfl ?_
              refine OW_end rfl ?_
              refine ⟨⟨i + 1, by omega⟩, LE_sh (slh_set (v := .d (int ((i + 1 : Nat) : Int))) (slh_set (v := .d (int ((cntC (⟨els, wi, ch 110, true⟩ : Pat) (keptX l 0) (i + 1) : Nat) : Int))) (slh_set (v := .d (.sl 1 24 ((matchesX bS (⟨els, wi, ch 110, true⟩ : Pat) (keptX l 0)).map encR))) (slh_set (v := .d (SK (keptX l 0))) (slh_set (v := .d (.iptr (encP (⟨els, wi, ch 110, true⟩ : Pat)))) (slh_no _ _) (by rfl) rfl) (by rfl) rfl) (by rfl) rfl) (by exact (congrArg (fun z : Nat => AV.d (int (z : Int))) (cnt_same hx g2).symm)) rfl) (by show AV.d (.lit (.int .i64 (IntKind.i64.wrap ((i : Int) + 1)))) = _; rw [wrap_succ (by omega)]; rfl) rfl) (hlh_no _ _), by show (keptX l 0).length - (i + 1) < (keptX l 0).length - i; omega⟩
            · skip
              have g2 : (((keptX l 0).take i).all fun y => numX y.ev != numX x.ev) = true := by have h0 : (!(((keptX l 0).take i).all fun y => numX y.ev != numX x.ev)) = false := h7; simpa using h0
              refine CW_skip ?_
              refine CW_seq ?_
              refine CW_region ?_
              refine OW_run' hE.ok 1 rfl ?_
              refine OW.le (LE_nilSlot 12 50 52 4 rfl rfl) ?_
              refine OW_end rfl ?_
              refine CW_seq ?_
              refine CW_seq ?_
              refine CW_region ?_
              refine OW_run' hE.ok 1 rfl ?_
              refine OW_end rfl ?_
              refine CW_block ?_
              refine CW_loop (σ := {j : Nat // j ≤ (keptX l 0).length}) (fun j => ⟨J, (sset (sset (sset (sset (sset (sset (sset noSlots 2 (.d (.iptr (encP (⟨els, wi, ch 110, true⟩ : Pat))))) 5 (.d (SK (keptX l 0)))) 7 (.d (.sl 1 24 ((matchesX bS (⟨els, wi, ch 110, true⟩ : Pat) (keptX l 0)).map encR)))) 8 (.d (int ((cntC (⟨els, wi, ch 110, true⟩ : Pat) (keptX l 0) i : Nat) : Int)))) 9 (.d (int ((i : Nat) : Int)))) 12 (.row 50)) 13 (.d (int ((j.1 : Nat) : Int)))), (hset noHeap 50 (some (.row 52 4 ((((keptX l 0).take j.1).filter fun y => numX y.ev == numX x.ev).map encK))))⟩) (fun j => (keptX l 0).length - j.1) ⟨0, Nat.zero_le _⟩ (LE_sh (slh_set (slh_set (slh_set (slh_set (slh_set (slh_set (slh_set (slh_no _ _) rfl rfl) rfl rfl) rfl rfl) rfl rfl) rfl rfl) rfl rfl) rfl rfl) (hlh_set (hlh_no _ _) (congrArg (fun z => some (Ent.row 52 4 z)) (rfl)) rfl)) fun ⟨j, hj⟩ => ?_
              refine CW_seq ?_
              refine CW_seq ?_
              refine CW_region ?_
              refine OW_run' hE.ok 4 rfl ?_
              refine OW_end rfl ?_
              refine CW_cond _ rfl (fun h8 => ?_) (fun h8 => ?_)
              · skip
                have hjl : j < (keptX l 0).length := (by have := h8; rw [List.length_map] at this; simp at this; omega)
                obtain ⟨y, hy⟩ : ∃ y, (keptX l 0)[j]? = some y := ⟨_, List.getElem?_eq_getElem hjl⟩
                have hf1 := List.length_filter_le (fun y : Kp => numX y.ev == numX x.ev) ((keptX l 0).take j)
                rw [List.length_take] at hf1
                refine CW_skip ?_
                refine CW_seq ?_
                refine CW_block ?_
                refine CW_seq ?_
                refine CW_drawn' hE 11 (by decide +kernel) ?_
                refine HW_run hE 2 rfl rfl ?_
                refine HW_loc hE (loc_indexAddr hE rfl rfl rfl rfl rfl (by omega) (x := encK y) (by simp [hy])) rfl rfl rfl rfl ?_
                refine HW_run hE 2 rfl rfl ?_
                refine HW_call hE (numOk y.ev) rfl rfl rfl rfl rfl rfl rfl rfl ?_
                refine HW_run hE 2 rfl rfl ?_
                refine HW_loc hE (loc_indexAddr hE rfl rfl rfl rfl rfl (by omega) (x := encK x) (by simp [hx])) rfl rfl rfl rfl ?_
                refine HW_run hE 2 rfl rfl ?_
                refine HW_end ?_
                refine OW_call' hE (numOk x.ev) rfl rfl rfl rfl rfl rfl rfl ?_
                refine OW_run' hE.ok 1 rfl ?_
                refine OW_end rfl ?_
                refine CW_cond _ rfl (fun h9 => ?_) (fun h9 => ?_)
                · skip
                  have g3 : (numX y.ev == numX x.ev) = true := h9
                  refine CW_region ?_
                  refine OW_run' hE.ok 3 rfl ?_
                  refine OW_loc' hE (loc_indexAddr hE rfl rfl rfl rfl rfl (by omega) (x := encK y) (by simp [hy])) rfl rfl rfl ?_
                  refine OW_run' hE.ok 1 rfl ?_
                  refine OW_loc' hE (loc_lits hE (t := 28) (len := 1) (parts := #[(0, .tmp 92)]) rfl rfl rfl rfl rfl rfl rfl rfl (xs := [encK y]) rfl) rfl rfl rfl ?_
                  refine OW_append' hE (key := 50) rfl rfl rfl rfl rfl rfl rfl rfl (.inl rfl) (by simp only [List.length_map, List.length_cons, List.length_nil]; omega) (by simp only [List.length_map, List.length_cons, List.length_nil]; omega) rfl ?_
                  refine OW_run' hE.ok 1 rfl ?_
                  refine OW_end rfl ?_
                  refine CW_region ?_
                  refine OW_run' hE.ok 3 rfl ?_
                  refine OW_end rfl ?_
                  refine ⟨⟨j + 1, by omega⟩, LE_sh (slh_set (v := .d (int ((j + 1 : Nat) : Int))) (slh_set (v := .row 50) (slh_set (v := .d (int ((i : Nat) : Int))) (slh_set (v := .d (int ((cntC (⟨els, wi, ch 110, true⟩ : Pat) (keptX l 0) i : Nat) : Int))) (slh_set (v := .d (.sl 1 24 ((matchesX bS (⟨els, wi, ch 110, true⟩ : Pat) (keptX l 0)).map encR))) (slh_set (v := .d (SK (keptX l 0))) (slh_set (v := .d (.iptr (encP (⟨els, wi, ch 110, true⟩ : Pat)))) (slh_no _ _) (by rfl) rfl) (by rfl) rfl) (by rfl) rfl) (by rfl) rfl) (by rfl) rfl) (by rfl) rfl) (by show AV.d (.lit (.int .i64 (IntKind.i64.wrap ((j : Int) + 1)))) = _; rw [wrap_succ (by omega)]; rfl) rfl) (hlh_set (hlh_no _ _) (congrArg (fun z => some (Ent.row 52 4 z)) (by rw [filt_snoc_t hy g3, List.map_append]; rfl)) rfl), by show (keptX l 0).length - (j + 1) < (keptX l 0).length - j; omega⟩
                · skip
                  have g3 : (numX y.ev == numX x.ev) = false := h9
                  refine CW_skip ?_
                  refine CW_region ?_
                  refine OW_run' hE.ok 3 rfl ?_
                  refine OW_end rfl ?_
                  refine ⟨⟨j + 1, by omega⟩, LE_sh (slh_set (v := .d (int ((j + 1 : Nat) : Int))) (slh_set (v := .row 50) (slh_set (v := .d (int ((i : Nat) : Int))) (slh_set (v := .d (int ((cntC (⟨els, wi, ch 110, true⟩ : Pat) (keptX l 0) i : Nat) : Int))) (slh_set (v := .d (.sl 1 24 ((matchesX bS (⟨els, wi, ch 110, true⟩ : Pat) (keptX l 0)).map encR))) (slh_set (v := .d (SK (keptX l 0))) (slh_set (v := .d (.iptr (encP (⟨els, wi, ch 110, true⟩ : Pat)))) (slh_no _ _) (by rfl) rfl) (by rfl) rfl) (by rfl) rfl) (by rfl) rfl) (by rfl) rfl) (by rfl) rfl) (by show AV.d (.lit (.int .i64 (IntKind.i64.wrap ((j : Int) + 1)))) = _; rw [wrap_succ (by omega)]; rfl) rfl) (hlh_set (hlh_no _ _) (congrArg (fun z => some (Ent.row 52 4 z)) (by rw [filt_snoc_f hy g3])) rfl), by show (keptX l 0).length - (j + 1) < (keptX l 0).length - j; omega⟩
              · skip
                have hjg : (keptX l 0).length ≤ j := (by have := h8; rw [List.length_map] at this; simp at this; omega)
                have htk : (keptX l 0).take j = (keptX l 0) := List.take_of_length_le hjg
                refine CW_exit ?_
                show CW _ _ _ _
                refine CW_seq ?_
                have hf2 := List.length_filter_le (fun y : Kp => numX y.ev == numX x.ev) ((keptX l 0).take j)
                rw [List.length_take] at hf2
                refine CW.le (LE_freeze 50 64 rfl (by rw [List.length_map]; exact Nat.le_trans (Nat.mul_le_mul_right 64 (Nat.le_trans (List.length_filter_le _ _) (List.length_take_le' _ _))) (by omega))) ?_
                refine CW.le (show LE _ _ ⟨J, (sset (sset (sset (sset (sset (sset noSlots 2 (.d (.iptr (encP (⟨els, wi, ch 110, true⟩ : Pat))))) 5 (.d (SK (keptX l 0)))) 7 (.d (.sl 1 24 ((matchesX bS (⟨els, wi, ch 110, true⟩ : Pat) (keptX l 0)).map encR)))) 8 (.d (int ((cntC (⟨els, wi, ch 110, true⟩ : Pat) (keptX l 0) i : Nat) : Int)))) 9 (.d (int ((i : Nat) : Int)))) 12 (.d (SK (partK (keptX l 0) (numX x.ev))))), noHeap⟩ from LE_sh (slh_set (v := .d (SK (partK (keptX l 0) (numX x.ev)))) (slh_set (v := .d (int ((i : Nat) : Int))) (slh_set (v := .d (int ((cntC (⟨els, wi, ch 110, true⟩ : Pat) (keptX l 0) i : Nat) : Int))) (slh_set (v := .d (.sl 1 24 ((matchesX bS (⟨els, wi, ch 110, true⟩ : Pat) (keptX l 0)).map encR))) (slh_set (v := .d (SK (keptX l 0))) (slh_set (v := .d (.iptr (encP (⟨els, wi, ch 110, true⟩ : Pat)))) (slh_no _ _) (by rfl) rfl) (by rfl) rfl) (by rfl) rfl) (by rfl) rfl) (by rfl) rfl) (by exact (congrArg (fun z : List Kp => AV.d (.sl 4 64 ((z.filter fun y => numX y.ev == numX x.ev).map encK))) htk)) rfl) (hlh_no _ _)) ?_
                have hpl : (partK (keptX l 0) (numX x.ev)).length ≤ 6 := Nat.le_trans (List.length_filter_le _ _) (by omega)
                have q2 := matchesOk bS (⟨els, wi, ch 110, true⟩ : Pat) (partK (keptX l 0) (numX x.ev)) (part_rises hkr) (by omega) (by simp only; omega)
                obtain ⟨m3, m4⟩ := mat_rows (s := bS) (p := (⟨els, wi, ch 110, true⟩ : Pat)) (l := (partK (keptX l 0) (numX x.ev))) (by omega)
                have r1 := withinOk (matchesX bS (⟨els, wi, ch 110, true⟩ : Pat) (partK (keptX l 0) (numX x.ev))) (matchesX bS (⟨els, wi, ch 110, true⟩ : Pat) (keptX l 0)) m3 m1 m4
                rw [within_yes fun b hb => ((mat_part (p := (⟨els, wi, ch 110, true⟩ : Pat)) hok rfl hkr rfl).1 hb).1] at r1
                have hmore := cnt_more (p := (⟨els, wi, ch 110, true⟩ : Pat)) hok rfl hkr rfl hx g2
                have hcn1 := cnt_le (p := (⟨els, wi, ch 110, true⟩ : Pat)) (l := (keptX l 0)) (i + 1)
                refine CW_drawn' hE 3 (by decide +kernel) ?_
                refine HW_call hE (base11) rfl rfl rfl rfl rfl rfl rfl rfl ?_
                refine HW_run hE 2 rfl rfl ?_
                refine HW_end ?_
                refine OW_callRow' hE 61 q2 rfl rfl rfl rfl rfl rfl rfl ?_
                refine OW_run' hE.ok 1 rfl ?_
                refine OW.le (LE_freeze 61 24 rfl (by rw [List.length_map]; omega)) ?_
                refine OW_end rfl ?_
                refine CW_seq ?_
                refine CW_region ?_
                refine OW_run' hE.ok 3 rfl ?_
                refine OW_run' hE.ok 1 rfl ?_
                refine OW_as' 102 (.d (int ((cntC (⟨els, wi, ch 110, true⟩ : Pat) (keptX l 0) (i + 1) : Nat) : Int))) (by show AV.d (.lit (.int .i64 (IntKind.i64.wrap (((cntC (⟨els, wi, ch 110, true⟩ : Pat) (keptX l 0) i : Nat) : Int) + ((((matchesX bS (⟨els, wi, ch 110, true⟩ : Pat) (partK (keptX l 0) (numX x.ev))).map encR).length : Nat) : Int))))) = _; rw [List.length_map, hmore, show (((cntC (⟨els, wi, ch 110, true⟩ : Pat) (keptX l 0) i : Nat) : Int) + (((matchesX bS (⟨els, wi, ch 110, true⟩ : Pat) (partK (keptX l 0) (numX x.ev))).length : Nat) : Int)) = ((cntC (⟨els, wi, ch 110, true⟩ : Pat) (keptX l 0) i + (matchesX bS (⟨els, wi, ch 110, true⟩ : Pat) (partK (keptX l 0) (numX x.ev))).length : Nat) : Int) by omega, wrapN (by omega)]; rfl) ?_
                refine OW_run' hE.ok 1 rfl ?_
                refine OW_end rfl ?_
                refine CW_seq ?_
                refine CW_region ?_
                refine OW_run' hE.ok 2 rfl ?_
                refine OW_call' hE (r1) rfl rfl rfl rfl rfl rfl rfl ?_
                refine OW_run' hE.ok 1 rfl ?_
                refine OW_end rfl ?_
                refine CW_false rfl ?_
                refine CW_skip ?_
                refine CW_region ?_
                refine OW_run' hE.ok 3 rfl ?_
                refine OW_end rfl ?_
                refine ⟨⟨i + 1, by omega⟩, LE_sh (slh_set (v := .d (int ((i + 1 : Nat) : Int))) (slh_set (v := .d (int ((cntC (⟨els, wi, ch 110, true⟩ : Pat) (keptX l 0) (i + 1) : Nat) : Int))) (slh_set (v := .d (.sl 1 24 ((matchesX bS (⟨els, wi, ch 110, true⟩ : Pat) (keptX l 0)).map encR))) (slh_set (v := .d (SK (keptX l 0))) (slh_set (v := .d (.iptr (encP (⟨els, wi, ch 110, true⟩ : Pat)))) (slh_no _ _) (by rfl) rfl) (by rfl) rfl) (by rfl) rfl) (by rfl) rfl) (by show AV.d (.lit (.int .i64 (IntKind.i64.wrap ((i : Int) + 1)))) = _; rw [wrap_succ (by omega)]; rfl) rfl) (hlh_no _ _), by show (keptX l 0).length - (i + 1) < (keptX l 0).length - i; omega⟩
        · skip
          have hge : i = (keptX l 0).length := by have := h4; rw [List.length_map] at this; simp at this; omega
          subst hge
          refine CW_exit ?_
          show CW _ _ _ _
          refine CW_seq ?_
          refine CW_region ?_
          refine OW_run' hE.ok 3 rfl ?_
          refine OW_run' hE.ok 1 rfl ?_
          refine OW_as' 110 (.d (boo true)) (by refine congrArg (fun z => AV.d (boo z)) (show (((cntC (⟨els, wi, ch 110, true⟩ : Pat) (keptX l 0) (keptX l 0).length : Nat) : Int) == ((((matchesX bS (⟨els, wi, ch 110, true⟩ : Pat) (keptX l 0)).map encR).length : Nat) : Int)) = true from ?_); rw [List.length_map, cnt_all hkr]; exact beq_self_eq_true _) ?_
          refine OW_run' hE.ok 1 rfl ?_
          refine OW_end rfl ?_
          refine CW_ret ?_
          refine ⟨.inr rfl, rfl, ⟨[.d (boo true)], rfl, rfl, ?_⟩, rfl⟩
          exact AVle.refl _
end Go.Proofs.YtojnicnbmgiplaaGreat
