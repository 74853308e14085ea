/- Parts of an abstract logic over the kit's walks, and walks in it: H4la. -/
import Derived.Test.YtojnicnbmgiplaaGreatH4lk
import Derived.Test.YtojnicnbmgiplaaGreatHxi
import Derived.Test.YtojnicnbmgiplaaGreatH4l2
import Derived.Test.YtojnicnbmgiplaaGreatAf
namespace Go.Proofs.YtojnicnbmgiplaaGreat
open Go Go.AL
set_option linter.unusedVariables false
set_option linter.unusedSimpArgs false
set_option maxHeartbeats 4000000
theorem anyOk (p : Pat) (l : List Ev) (mo : UInt8) (hl : l.length ≤ 2000000) : Does Tryz.prog 5 [argP p, .d (.sl 3 48 (l.map encE)), .d (.lit (.int .u8 (mo.toNat : Int)))] noHeap (.d (boo true)) := by
  refine Does_of T_ok mixed (N := 61) Tryz.func5 rfl rfl rfl (by rfl) fun F n Z hE hF J => ?_
  obtain ⟨els, wi, byf, any⟩ := p
  have hmo := mo.toNat_lt
  refine CW_seq ?_
  refine CW_region ?_
  refine OW_box' hE 1 rfl rfl rfl rfl rfl rfl ?_
  refine OW_run' hE.ok 1 rfl ?_
  refine OW_end rfl ?_
  refine CW_seq ?_
  refine CW_seq ?_
  refine CW_region ?_
  refine OW_call' hE (known14Ok) rfl rfl rfl rfl rfl rfl rfl ?_
  refine OW_run' hE.ok 1 rfl ?_
  refine OW_end rfl ?_
  refine CW_false rfl ?_
  refine CW_skip ?_
  refine CW_seq ?_
  refine CW_region ?_
  refine OW_run' hE.ok 1 rfl ?_
  refine OW_callOwn' hE 77 (streamOk l 0 hl (by decide)) rfl rfl rfl rfl rfl rfl rfl ?_
  refine OW_run' hE.ok 5 rfl ?_
  refine OW.le (LE_freeze 77 64 rfl (by rw [List.length_map]; have := stream_len l 0; omega)) ?_
  refine OW_end rfl ?_
  refine CW_seq ?_
  refine CW_seq ?_
  refine CW_drawn' hE 10 (by decide +kernel) ?_
  refine HW_run hE 3 rfl rfl ?_
  refine HW_split 21 rfl (fun h1 => ?_) (fun h1 => ?_)
  · skip
    skip
    refine HW_run hE 7 rfl rfl ?_
    refine HW_end ?_
    refine OW_run' hE.ok 3 rfl ?_
    refine OW_end rfl ?_
    refine CW_true rfl ?_
    refine CW_seq ?_
    refine CW_region ?_
    refine OW_run' hE.ok 1 rfl ?_
    refine OW_end rfl ?_
    refine CW_ret ?_
    refine ⟨.inr rfl, rfl, ⟨[.d (boo true)], rfl, rfl, ?_⟩, rfl⟩
    exact AVle.refl _
  · skip
    have hs2 : (streamX l 0).2 = true := by have := h1; simpa using this
    have hst := stream_ok hs2
    refine HW_run hE 5 rfl rfl ?_
    refine HW_split 26 rfl (fun h2 => ?_) (fun h2 => ?_)
    · skip
      skip
      refine HW_run hE 2 rfl rfl ?_
      refine HW_end ?_
      refine OW_run' hE.ok 3 rfl ?_
      refine OW_end rfl ?_
      refine CW_true rfl ?_
      refine CW_seq ?_
      refine CW_region ?_
      refine OW_run' hE.ok 1 rfl ?_
      refine OW_end rfl ?_
      refine CW_ret ?_
      refine ⟨.inr rfl, rfl, ⟨[.d (boo true)], rfl, rfl, ?_⟩, rfl⟩
      exact AVle.refl _
    · skip
      have hl6 : l.length ≤ 6 := by have := h2; rw [List.length_map] at this; simp at this; omega
      refine HW_call hE (base11) rfl rfl rfl rfl rfl rfl rfl rfl ?_
      refine HW_run hE 1 rfl rfl ?_
      refine HW_end ?_
      refine OW_call' hE (refCheckOk bS (⟨els, wi, byf, any⟩ : Pat)) rfl rfl rfl rfl rfl rfl rfl ?_
      refine OW_run' hE.ok 2 rfl ?_
      refine OW_end rfl ?_
      refine CW_cond _ rfl (fun h3 => ?_) (fun h3 => ?_)
      · skip
        skip
        refine CW_seq ?_
        refine CW_region ?_
        refine OW_run' hE.ok 1 rfl ?_
        refine OW_end rfl ?_
        refine CW_ret ?_
        refine ⟨.inr rfl, rfl, ⟨[.d (boo true)], rfl, rfl, ?_⟩, rfl⟩
        exact AVle.refl _
      · skip
        have hck : chkR bS (⟨els, wi, byf, any⟩ : Pat) = 0 := bne_eq_false_iff_eq.1 h3
        have hpt := isPat_head (chk_isPat hck)
        simp only at hpt
        refine CW_skip ?_
        refine CW_seq ?_
        refine CW.le (show LE _ _ ⟨J, (sset (sset (sset noSlots 2 (.d (.lit (.int .u8 (mo.toNat : Int))))) 3 (.ptr 1 0)) 7 (.d (SK (keptX l 0)))), (hset noHeap 1 (some (.box 24 [.d (.sl 11 144 (els.map encL)), .d (int wi), .d (str byf), .d (boo any)])))⟩ from LE_sh (slh_set (v := .d (SK (keptX l 0))) (slh_set (v := .ptr 1 0) (slh_set (v := .d (.lit (.int .u8 (mo.toNat : Int)))) (slh_no _ _) (by rfl) rfl) (by rfl) rfl) (by exact (congrArg (fun z : List Kp × Bool => AV.d (SK z.1)) hst.1)) rfl) (hlh_set (hlh_no _ _) rfl rfl)) ?_
        have hkl := kept_len l 0
        have hkr := kept_rises l 0
        obtain ⟨w2, hw2⟩ : ∃ w2, (if wi + (mo.toNat : Int) < 1000 then wi + (mo.toNat : Int) else 1000) = w2 := ⟨_, rfl⟩
        have hww : wi ≤ w2 := by rw [← hw2]; split <;> omega
        have q1 := matchesOk bS (⟨els, wi, byf, false⟩ : Pat) (keptX l 0) hkr (by omega) (by simp only; omega)
        have q2 := matchesOk bS (⟨els, wi, byf, true⟩ : Pat) (keptX l 0) hkr (by omega) (by simp only; omega)
        have q3 := matchesOk bS (⟨els, w2, byf, true⟩ : Pat) (keptX l 0) hkr (by omega) (by simp only; omega)
        obtain ⟨m1, m2⟩ := mat_rows (s := bS) (p := (⟨els, wi, byf, false⟩ : Pat)) (l := (keptX l 0)) (by omega)
        obtain ⟨m3, m4⟩ := mat_rows (s := bS) (p := (⟨els, wi, byf, true⟩ : Pat)) (l := (keptX l 0)) (by omega)
        obtain ⟨m5, m6⟩ := mat_rows (s := bS) (p := (⟨els, w2, byf, true⟩ : Pat)) (l := (keptX l 0)) (by omega)
        have r1 := withinOk (matchesX bS (⟨els, wi, byf, false⟩ : Pat) (keptX l 0)) (matchesX bS (⟨els, wi, byf, true⟩ : Pat) (keptX l 0)) m1 m3 m2
        rw [within_yes fun x hx => any_in hkr (Int.le_refl _) hx] at r1
        have r2 := withinOk (matchesX bS (⟨els, wi, byf, true⟩ : Pat) (keptX l 0)) (matchesX bS (⟨els, w2, byf, true⟩ : Pat) (keptX l 0)) m3 m5 m4
        rw [within_yes fun x hx => any_in hkr hww hx] at r2
        refine CW_region ?_
        refine OW_run' hE.ok 1 rfl ?_
        refine OW_store' hE rfl rfl rfl rfl rfl rfl rfl rfl rfl rfl rfl rfl ?_
        refine OW_end rfl ?_
        refine CW_seq ?_
        refine CW.le (show LE _ _ ⟨J, (sset (sset (sset noSlots 2 (.d (.lit (.int .u8 (mo.toNat : Int))))) 3 (.ptr 1 0)) 7 (.d (SK (keptX l 0)))), (hset noHeap 1 (some (.box 24 [.d (.sl 11 144 (els.map encL)), .d (int wi), .d (str byf), .d (boo false)])))⟩ from LE_sh (slh_set (v := .d (SK (keptX l 0))) (slh_set (v := .ptr 1 0) (slh_set (v := .d (.lit (.int .u8 (mo.toNat : Int)))) (slh_no _ _) (by rfl) rfl) (by rfl) rfl) (by rfl) rfl) (hlh_set (hlh_no _ _) rfl rfl)) ?_
        refine CW_drawn' hE 3 (by decide +kernel) ?_
        refine HW_call hE (base11) rfl rfl rfl rfl rfl rfl rfl rfl ?_
        refine HW_run hE 2 rfl rfl ?_
        refine HW_end ?_
        refine OW_callRow' hE 60 q1 rfl rfl rfl rfl rfl rfl rfl ?_
        refine OW_run' hE.ok 1 rfl ?_
        refine OW.le (LE_freeze 60 24 rfl (by rw [List.length_map]; omega)) ?_
        refine OW_end rfl ?_
        refine CW_seq ?_
        refine CW.le (show LE _ _ ⟨J, (sset (sset (sset (sset noSlots 2 (.d (.lit (.int .u8 (mo.toNat : Int))))) 3 (.ptr 1 0)) 7 (.d (SK (keptX l 0)))) 9 (.d (.sl 1 24 ((matchesX bS (⟨els, wi, byf, false⟩ : Pat) (keptX l 0)).map encR)))), (hset noHeap 1 (some (.box 24 [.d (.sl 11 144 (els.map encL)), .d (int wi), .d (str byf), .d (boo false)])))⟩ from LE_sh (slh_set (v := .d (.sl 1 24 ((matchesX bS (⟨els, wi, byf, false⟩ : Pat) (keptX l 0)).map encR))) (slh_set (v := .d (SK (keptX l 0))) (slh_set (v := .ptr 1 0) (slh_set (v := .d (.lit (.int .u8 (mo.toNat : Int)))) (slh_no _ _) (by rfl) rfl) (by rfl) rfl) (by rfl) rfl) (by rfl) rfl) (hlh_set (hlh_no _ _) rfl rfl)) ?_
        refine CW_region ?_
        refine OW_run' hE.ok 1 rfl ?_
        refine OW_store' hE rfl rfl rfl rfl rfl rfl rfl rfl rfl rfl rfl rfl ?_
        refine OW_end rfl ?_
        refine CW_seq ?_
        refine CW.le (show LE _ _ ⟨J, (sset (sset (sset (sset noSlots 2 (.d (.lit (.int .u8 (mo.toNat : Int))))) 3 (.ptr 1 0)) 7 (.d (SK (keptX l 0)))) 9 (.d (.sl 1 24 ((matchesX bS (⟨els, wi, byf, false⟩ : Pat) (keptX l 0)).map encR)))), (hset noHeap 1 (some (.box 24 [.d (.sl 11 144 (els.map encL)), .d (int wi), .d (str byf), .d (boo true)])))⟩ from LE_sh (slh_set (v := .d (.sl 1 24 ((matchesX bS (⟨els, wi, byf, false⟩ : Pat) (keptX l 0)).map encR))) (slh_set (v := .d (SK (keptX l 0))) (slh_set (v := .ptr 1 0) (slh_set (v := .d (.lit (.int .u8 (mo.toNat : Int)))) (slh_no _ _) (by rfl) rfl) (by rfl) rfl) (by rfl) rfl) (by rfl) rfl) (hlh_set (hlh_no _ _) rfl rfl)) ?_
        refine CW_drawn' hE 3 (by decide +kernel) ?_
        refine HW_call hE (base11) rfl rfl rfl rfl rfl rfl rfl rfl ?_
        refine HW_run hE 2 rfl rfl ?_
        refine HW_end ?_
        refine OW_callRow' hE 61 q2 rfl rfl rfl rfl rfl rfl rfl ?_
        refine OW_run' hE.ok 1 rfl ?_
        refine OW.le (LE_freeze 61 24 rfl (by rw [List.length_map]; omega)) ?_
        refine OW_end rfl ?_
        refine CW_seq ?_
        refine CW.le (show LE _ _ ⟨J, (sset (sset (sset (sset (sset noSlots 2 (.d (.lit (.int .u8 (mo.toNat : Int))))) 3 (.ptr 1 0)) 7 (.d (SK (keptX l 0)))) 9 (.d (.sl 1 24 ((matchesX bS (⟨els, wi, byf, false⟩ : Pat) (keptX l 0)).map encR)))) 10 (.d (.sl 1 24 ((matchesX bS (⟨els, wi, byf, true⟩ : Pat) (keptX l 0)).map encR)))), (hset noHeap 1 (some (.box 24 [.d (.sl 11 144 (els.map encL)), .d (int wi), .d (str byf), .d (boo true)])))⟩ from LE_sh (slh_set (v := .d (.sl 1 24 ((matchesX bS (⟨els, wi, byf, true⟩ : Pat) (keptX l 0)).map encR))) (slh_set (v := .d (.sl 1 24 ((matchesX bS (⟨els, wi, byf, false⟩ : Pat) (keptX l 0)).map encR))) (slh_set (v := .d (SK (keptX l 0))) (slh_set (v := .ptr 1 0) (slh_set (v := .d (.lit (.int .u8 (mo.toNat : Int)))) (slh_no _ _) (by rfl) rfl) (by rfl) rfl) (by rfl) rfl) (by rfl) rfl) (by rfl) rfl) (hlh_set (hlh_no _ _) rfl rfl)) ?_
        refine CW_region ?_
        refine OW_run' hE.ok 5 rfl ?_
        refine OW_as' 46 (.d (int (wi + (mo.toNat : Int)))) (by show AV.d (.lit (.int .i64 (IntKind.i64.wrap (wi + IntKind.i64.wrap ((mo.toNat : Nat) : Int))))) = _; rw [wrapN (by omega), wrap_id _ _ (by simp [IntKind.min, IntKind.signed, IntKind.bits]; omega) (by simp [IntKind.max, IntKind.signed, IntKind.bits]; omega)]; rfl) ?_
        refine OW_loc' hE (loc_min2 hE rfl rfl rfl) rfl rfl rfl ?_
        refine OW_as' 47 (.d (int w2)) (by exact congrArg (fun z => AV.d (int z)) hw2) ?_
        refine OW_run' hE.ok 1 rfl ?_
        refine OW_store' hE rfl rfl rfl rfl rfl rfl rfl rfl rfl rfl rfl rfl ?_
        refine OW_end rfl ?_
        refine CW_seq ?_
        refine CW.le (show LE _ _ ⟨J, (sset (sset (sset (sset (sset noSlots 2 (.d (.lit (.int .u8 (mo.toNat : Int))))) 3 (.ptr 1 0)) 7 (.d (SK (keptX l 0)))) 9 (.d (.sl 1 24 ((matchesX bS (⟨els, wi, byf, false⟩ : Pat) (keptX l 0)).map encR)))) 10 (.d (.sl 1 24 ((matchesX bS (⟨els, wi, byf, true⟩ : Pat) (keptX l 0)).map encR)))), (hset noHeap 1 (some (.box 24 [.d (.sl 11 144 (els.map encL)), .d (int w2), .d (str byf), .d (boo true)])))⟩ from LE_sh (slh_set (v := .d (.sl 1 24 ((matchesX bS (⟨els, wi, byf, true⟩ : Pat) (keptX l 0)).map encR))) (slh_set (v := .d (.sl 1 24 ((matchesX bS (⟨els, wi, byf, false⟩ : Pat) (keptX l 0)).map encR))) (slh_set (v := .d (SK (keptX l 0))) (slh_set (v := .ptr 1 0) (slh_set (v := .d (.lit (.int .u8 (mo.toNat : Int)))) (slh_no _ _) (by rfl) rfl) (by rfl) rfl) (by rfl) rfl) (by rfl) rfl) (by rfl) rfl) (hlh_set (hlh_no _ _) rfl rfl)) ?_
        refine CW_drawn' hE 3 (by decide +kernel) ?_
        refine HW_call hE (base11) rfl rfl rfl rfl rfl rfl rfl rfl ?_
        refine HW_run hE 2 rfl rfl ?_
        refine HW_end ?_
        refine OW_callRow' hE 62 q3 rfl rfl rfl rfl rfl rfl rfl ?_
        refine OW_run' hE.ok 1 rfl ?_
        refine OW.le (LE_freeze 62 24 rfl (by rw [List.length_map]; omega)) ?_
        refine OW_end rfl ?_
        refine CW_seq ?_
        refine CW.le (show LE _ _ ⟨J, (sset (sset (sset noSlots 9 (.d (.sl 1 24 ((matchesX bS (⟨els, wi, byf, false⟩ : Pat) (keptX l 0)).map encR)))) 10 (.d (.sl 1 24 ((matchesX bS (⟨els, wi, byf, true⟩ : Pat) (keptX l 0)).map encR)))) 11 (.d (.sl 1 24 ((matchesX bS (⟨els, w2, byf, true⟩ : Pat) (keptX l 0)).map encR)))), noHeap⟩ from LE_sh (slh_set (v := .d (.sl 1 24 ((matchesX bS (⟨els, w2, byf, true⟩ : Pat) (keptX l 0)).map encR))) (slh_set (v := .d (.sl 1 24 ((matchesX bS (⟨els, wi, byf, true⟩ : Pat) (keptX l 0)).map encR))) (slh_set (v := .d (.sl 1 24 ((matchesX bS (⟨els, wi, byf, false⟩ : Pat) (keptX l 0)).map encR))) (slh_no _ _) (by rfl) rfl) (by rfl) rfl) (by rfl) rfl) (hlh_no _ _)) ?_
        refine CW_region ?_
        refine OW_run' hE.ok 2 rfl ?_
        refine OW_call' hE (r1) rfl rfl rfl rfl rfl rfl rfl ?_
        refine OW_run' hE.ok 3 rfl ?_
        refine OW_call' hE (r2) rfl rfl rfl rfl rfl rfl rfl ?_
        refine OW_run' hE.ok 2 rfl ?_
        refine OW_end rfl ?_
        refine CW_ret ?_
        refine ⟨.inr rfl, rfl, ⟨[.d (boo true)], rfl, rfl, ?_⟩, rfl⟩
        exact AVle.refl _
end Go.Proofs.YtojnicnbmgiplaaGreat
