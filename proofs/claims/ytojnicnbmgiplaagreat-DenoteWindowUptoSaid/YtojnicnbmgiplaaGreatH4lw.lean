/- Parts of an abstract logic over the kit's walks, and walks in it: H4lw. -/
import Derived.Test.YtojnicnbmgiplaaGreatH4lk
import Derived.Test.YtojnicnbmgiplaaGreatHxi
import Derived.Test.YtojnicnbmgiplaaGreatMa
namespace Go.Proofs.YtojnicnbmgiplaaGreat
open Go Go.AL
set_option linter.unusedVariables false
set_option linter.unusedSimpArgs false
set_option maxHeartbeats 4000000
theorem windowOk (p : Pat) (l : List Ev) (none1 : Bool) (hl : l.length ≤ 2000000) : Does Tryz.prog 8 [argP p, .d (.sl 3 48 (l.map encE)), .d (boo none1)] noHeap (.d (boo true)) := by
  refine Does_of T_ok mixed (N := 101) Tryz.func8 rfl rfl rfl (by rfl) fun F n Z hE hF J => ?_
  obtain ⟨els, wi, byf, any⟩ := p
  refine CW_seq ?_
  refine CW_region ?_
  refine OW_box' hE 1 rfl rfl rfl rfl rfl rfl ?_
  refine OW_run' hE.ok 1 rfl ?_
  refine OW_end rfl ?_
  refine CW_seq ?_
  refine CW_seq ?_
  refine CW_region ?_
  refine OW_call' hE (known14Ok) rfl rfl rfl rfl rfl rfl rfl ?_
  refine OW_run' hE.ok 1 rfl ?_
  refine OW_end rfl ?_
  refine CW_false rfl ?_
  refine CW_skip ?_
  refine CW_seq ?_
  refine CW_region ?_
  refine OW_run' hE.ok 1 rfl ?_
  refine OW_callOwn' hE 77 (streamOk l 0 hl (by decide)) rfl rfl rfl rfl rfl rfl rfl ?_
  refine OW_run' hE.ok 5 rfl ?_
  refine OW.le (LE_freeze 77 64 rfl (by rw [List.length_map]; have := stream_len l 0; omega)) ?_
  refine OW_end rfl ?_
  refine CW_cutE (fun w1 : Int => ⟨J, (sset (sset (sset (sset noSlots 1 (.d (.sl 3 48 (l.map encE)))) 3 (.ptr 1 0)) 7 (.d (SK (streamX l 0).1))) 8 (.d (boo (streamX l 0).2))), (hset noHeap 1 (some (.box 24 [.d (.sl 11 144 (els.map encL)), .d (int w1), .d (str byf), .d (boo any)])))⟩) (fun _ => True) ?_ ?_
  · skip
    refine CW_seq ?_
    refine CW_region ?_
    refine OW_run' hE.ok 1 rfl ?_
    refine OW_end rfl ?_
    refine CW_cond _ rfl (fun h1 => ?_) (fun h1 => ?_)
    · skip
      refine CW_region ?_
      refine OW_run' hE.ok 1 rfl ?_
      refine OW_store' hE rfl rfl rfl rfl rfl rfl rfl rfl rfl rfl rfl rfl ?_
      refine OW_end rfl ?_
      exact ⟨0, trivial, LE_sh (slh_set (v := .d (boo (streamX l 0).2)) (slh_set (v := .d (SK (streamX l 0).1)) (slh_set (v := .ptr 1 0) (slh_set (v := .d (.sl 3 48 (l.map encE))) (slh_no _ _) (by rfl) rfl) (by rfl) rfl) (by rfl) rfl) (by rfl) rfl) (hlh_set (hlh_no _ _) rfl rfl)⟩
    · skip
      refine CW_skip ?_
      exact ⟨wi, trivial, LE_sh (slh_set (v := .d (boo (streamX l 0).2)) (slh_set (v := .d (SK (streamX l 0).1)) (slh_set (v := .ptr 1 0) (slh_set (v := .d (.sl 3 48 (l.map encE))) (slh_no _ _) (by rfl) rfl) (by rfl) rfl) (by rfl) rfl) (by rfl) rfl) (hlh_set (hlh_no _ _) rfl rfl)⟩
  · skip
    rintro w1 _
    refine CW_seq ?_
    refine CW_seq ?_
    refine CW.le (LE_freezeBox 1 (ds := encP (⟨els, w1, byf, any⟩ : Pat)) rfl rfl) ?_
    refine CW.le (show LE _ _ ⟨J, (sset (sset (sset (sset noSlots 1 (.d (.sl 3 48 (l.map encE)))) 3 (.d (.iptr (encP (⟨els, w1, byf, any⟩ : Pat))))) 7 (.d (SK (streamX l 0).1))) 8 (.d (boo (streamX l 0).2))), noHeap⟩ from LE_sh (slh_set (v := .d (boo (streamX l 0).2)) (slh_set (v := .d (SK (streamX l 0).1)) (slh_set (v := .d (.iptr (encP (⟨els, w1, byf, any⟩ : Pat)))) (slh_set (v := .d (.sl 3 48 (l.map encE))) (slh_no _ _) (by rfl) rfl) (by rfl) rfl) (by rfl) rfl) (by rfl) rfl) (hlh_no _ _)) ?_
    refine CW_region ?_
    refine OW_run' hE.ok 3 rfl ?_
    refine OW_split' 24 rfl (fun h2 => ?_) (fun h2 => ?_)
    · skip
      skip
      refine OW_run' hE.ok 9 rfl ?_
      refine OW_end rfl ?_
      refine CW_true rfl ?_
      refine CW_seq ?_
      refine CW_region ?_
      refine OW_run' hE.ok 1 rfl ?_
      refine OW_end rfl ?_
      refine CW_ret ?_
      refine ⟨.inr rfl, rfl, ⟨[.d (boo true)], rfl, rfl, ?_⟩, rfl⟩
      exact AVle.refl _
    · skip
      have hs2 : (streamX l 0).2 = true := by have := h2; simpa using this
      have hst := stream_ok hs2
      refine OW_run' hE.ok 5 rfl ?_
      refine OW_split' 29 rfl (fun h3 => ?_) (fun h3 => ?_)
      · skip
        skip
        refine OW_run' hE.ok 4 rfl ?_
        refine OW_end rfl ?_
        refine CW_true rfl ?_
        refine CW_seq ?_
        refine CW_region ?_
        refine OW_run' hE.ok 1 rfl ?_
        refine OW_end rfl ?_
        refine CW_ret ?_
        refine ⟨.inr rfl, rfl, ⟨[.d (boo true)], rfl, rfl, ?_⟩, rfl⟩
        exact AVle.refl _
      · skip
        have hl7 : l.length ≤ 7 := by have := h3; rw [List.length_map] at this; simp at this; omega
        refine OW_run' hE.ok 1 rfl ?_
        refine OW_call' hE (suitsOk (⟨els, w1, byf, any⟩ : Pat)) rfl rfl rfl rfl rfl rfl rfl ?_
        refine OW_run' hE.ok 2 rfl ?_
        refine OW_end rfl ?_
        refine CW_cond _ rfl (fun h4 => ?_) (fun h4 => ?_)
        · skip
          skip
          refine CW_seq ?_
          refine CW_region ?_
          refine OW_run' hE.ok 1 rfl ?_
          refine OW_end rfl ?_
          refine CW_ret ?_
          refine ⟨.inr rfl, rfl, ⟨[.d (boo true)], rfl, rfl, ?_⟩, rfl⟩
          exact AVle.refl _
        · skip
          have hck : chkR bS (⟨els, w1, byf, any⟩ : Pat) = 0 := by have := h4; simpa using this
          have hpt := isPat_head (chk_isPat hck)
          refine CW_skip ?_
          refine CW_seq ?_
          refine CW.le (show LE _ _ ⟨J, (sset (sset noSlots 3 (.d (.iptr (encP (⟨els, w1, byf, any⟩ : Pat))))) 7 (.d (SK (keptX l 0)))), noHeap⟩ from LE_sh (slh_set (v := .d (SK (keptX l 0))) (slh_set (v := .d (.iptr (encP (⟨els, w1, byf, any⟩ : Pat)))) (slh_no _ _) (by rfl) rfl) (by exact (congrArg (fun z : List Kp × Bool => AV.d (SK z.1)) hst.1)) rfl) (hlh_no _ _)) ?_
          have hkl := kept_len l 0
          have qM := matchesOk bS (⟨els, w1, byf, any⟩ : Pat) (keptX l 0) (kept_rises l 0) (by omega) (by omega)
          refine CW_drawn' hE 3 (by decide +kernel) ?_
          refine HW_call hE (base11) rfl rfl rfl rfl rfl rfl rfl rfl ?_
          refine HW_run hE 2 rfl rfl ?_
          refine HW_end ?_
          refine OW_callRow' hE 60 qM rfl rfl rfl rfl rfl rfl rfl ?_
          refine OW_run' hE.ok 1 rfl ?_
          have hol := out_len (s := bS) (p := (⟨els, w1, byf, any⟩ : Pat)) (l := (keptX l 0)) (keptX l 0).length
          have hpow : 4 ^ (keptX l 0).length ≤ 4194304 := Nat.le_trans (Nat.pow_le_pow_right (by decide) (show (keptX l 0).length ≤ 11 by omega)) (by decide)
          have hml : (matchesX bS (⟨els, w1, byf, any⟩ : Pat) (keptX l 0)).length ≤ 4194304 := Nat.le_trans hol hpow
          refine OW.le (LE_freeze 60 24 rfl (by rw [List.length_map]; omega)) ?_
          refine OW_end rfl ?_
          refine CW_seq ?_
          refine CW_seq ?_
          refine CW_region ?_
          refine OW_run' hE.ok 1 rfl ?_
          refine OW_end rfl ?_
          refine CW_block ?_
          refine CW_loop (σ := {i : Nat // i ≤ (matchesX bS (⟨els, w1, byf, any⟩ : Pat) (keptX l 0)).length}) (fun i => ⟨J, (sset (sset (sset (sset noSlots 3 (.d (.iptr (encP (⟨els, w1, byf, any⟩ : Pat))))) 7 (.d (SK (keptX l 0)))) 9 (.d (.sl 1 24 ((matchesX bS (⟨els, w1, byf, any⟩ : Pat) (keptX l 0)).map encR)))) 10 (.d (int ((i.1 : Nat) : Int)))), noHeap⟩) (fun i => (matchesX bS (⟨els, w1, byf, any⟩ : Pat) (keptX l 0)).length - i.1) ⟨0, Nat.zero_le _⟩ (LE_sh (slh_set (slh_set (slh_set (slh_set (slh_no _ _) rfl rfl) rfl rfl) rfl rfl) rfl rfl) (hlh_no _ _)) fun ⟨i, hi⟩ => ?_
          refine CW_seq ?_
          refine CW_seq ?_
          refine CW_region ?_
          refine OW_run' hE.ok 4 rfl ?_
          refine OW_end rfl ?_
          refine CW_cond _ rfl (fun h5 => ?_) (fun h5 => ?_)
          · skip
            have hlt : i < (matchesX bS (⟨els, w1, byf, any⟩ : Pat) (keptX l 0)).length := by have := h5; rw [List.length_map] at this; simp at this; omega
            obtain ⟨b, hb⟩ : ∃ b, (matchesX bS (⟨els, w1, byf, any⟩ : Pat) (keptX l 0))[i]? = some b := ⟨_, List.getElem?_eq_getElem hlt⟩
            have hbi := rowin_of (List.mem_of_getElem? hb)
            have hb1 := hbi.1
            have hbl := hbi.2.2
            obtain ⟨b0, lst, i0, j0, d, e, hb0, hlst, hi0, hj0, hd, he, g1, g2, g3⟩ := window_law hst.2 hpt.2.2.1 (List.mem_of_getElem? hb)
            have hil := (List.getElem?_eq_some_iff.1 hd).1
            have hjl := (List.getElem?_eq_some_iff.1 he).1
            refine CW_skip ?_
            refine CW_seq ?_
            refine CW_block ?_
            refine CW_seq ?_
            refine CW_region ?_
            refine OW_run' hE.ok 2 rfl ?_
            refine OW_loc' hE (loc_indexAddr hE rfl rfl rfl rfl rfl (by omega) (x := encR b) (by simp [hb])) rfl rfl rfl ?_
            refine OW_run' hE.ok 3 rfl ?_
            refine OW_end rfl ?_
            refine CW_seq ?_
            refine CW_seq ?_
            refine CW_region ?_
            refine OW_run' hE.ok 3 rfl ?_
            refine OW_as' 51 (.d (boo false)) (by exact congrArg (fun z => AV.d (boo z)) ((by show (((b.map encBd).length : Int) == 0) = false; rw [List.length_map]; exact beq_eq_false_iff_ne.2 (by omega)))) ?_
            refine OW_run' hE.ok 1 rfl ?_
            refine OW_run' hE.ok 1 rfl ?_
            refine OW_loc' hE (loc_indexAddr hE rfl rfl rfl rfl rfl (by omega) (x := encBd b0) (by rw [List.getElem?_map]; show (b[0]?).map encBd = _; rw [hb0]; rfl)) rfl rfl rfl ?_
            refine OW_run' hE.ok 3 rfl ?_
            refine OW_as' 57 (.d (boo false)) (by exact congrArg (fun z => AV.d (boo z)) ((by show decide (b0.at_ < 0) = false; rw [hi0]; exact decide_eq_false (by omega)))) ?_
            refine OW_run' hE.ok 1 rfl ?_
            refine OW_run' hE.ok 5 rfl ?_
            refine OW_as' 63 (.d (int ((b.length - 1 : Nat) : Int))) (by show AV.d (.lit (.int .i64 (IntKind.i64.wrap (((b.map encBd).length : Int) - 1)))) = _; rw [List.length_map, show ((b.length : Int) - 1) = ((b.length - 1 : Nat) : Int) by omega, wrapN (by omega)]; rfl) ?_
            refine OW_loc' hE (loc_indexAddr hE rfl rfl rfl rfl rfl (by omega) (x := encBd lst) (by rw [Int.toNat_natCast, List.getElem?_map, hlst]; rfl)) rfl rfl rfl ?_
            refine OW_run' hE.ok 5 rfl ?_
            refine OW_as' 69 (.d (boo false)) (by exact congrArg (fun z => AV.d (boo z)) ((by show decide (lst.at_ ≥ (((keptX l 0).map encK).length : Int)) = false; rw [hj0, List.length_map, kept_len]; exact decide_eq_false (by omega)))) ?_
            refine OW_run' hE.ok 1 rfl ?_
            refine OW_end rfl ?_
            refine CW_false rfl ?_
            refine CW_skip ?_
            refine CW_seq ?_
            refine CW_drawn' hE 21 (by decide +kernel) ?_
            refine HW_run hE 5 rfl rfl ?_
            refine HW_as 75 (.d (int ((b.length - 1 : Nat) : Int))) (by show AV.d (.lit (.int .i64 (IntKind.i64.wrap (((b.map encBd).length : Int) - 1)))) = _; rw [List.length_map, show ((b.length : Int) - 1) = ((b.length - 1 : Nat) : Int) by omega, wrapN (by omega)]; rfl) ?_
            refine HW_loc hE (loc_indexAddr hE rfl rfl rfl rfl rfl (by omega) (x := encBd lst) (by rw [Int.toNat_natCast, List.getElem?_map, hlst]; rfl)) rfl rfl rfl rfl ?_
            refine HW_run hE 2 rfl rfl ?_
            refine HW_as 78 (.d (int ((0 + j0 : Nat) : Int))) (by exact congrArg (fun z => AV.d (int z)) hj0) ?_
            refine HW_loc hE (loc_indexAddr hE rfl rfl rfl rfl rfl (by omega) (x := encK ⟨((0 + j0 : Nat) : Int), e⟩) (by rw [Int.toNat_natCast, List.getElem?_map, show (keptX l 0)[0 + j0]? = some ⟨((0 + j0 : Nat) : Int), e⟩ from (congrArg (fun z => (keptX l 0)[z]?) (Nat.zero_add j0)).trans (kept_get he)]; rfl)) rfl rfl rfl rfl ?_
            refine HW_run hE 5 rfl rfl ?_
            refine HW_loc hE (loc_indexAddr hE rfl rfl rfl rfl rfl (by omega) (x := encBd b0) (by rw [List.getElem?_map]; show (b[0]?).map encBd = _; rw [hb0]; rfl)) rfl rfl rfl rfl ?_
            refine HW_run hE 2 rfl rfl ?_
            refine HW_as 87 (.d (int ((0 + i0 : Nat) : Int))) (by exact congrArg (fun z => AV.d (int z)) hi0) ?_
            refine HW_loc hE (loc_indexAddr hE rfl rfl rfl rfl rfl (by omega) (x := encK ⟨((0 + i0 : Nat) : Int), d⟩) (by rw [Int.toNat_natCast, List.getElem?_map, show (keptX l 0)[0 + i0]? = some ⟨((0 + i0 : Nat) : Int), d⟩ from (congrArg (fun z => (keptX l 0)[z]?) (Nat.zero_add i0)).trans (kept_get hd)]; rfl)) rfl rfl rfl rfl ?_
            refine HW_run hE 3 rfl rfl ?_
            refine HW_end ?_
            refine OW_run' hE.ok 1 rfl ?_
            refine OW_as' 92 (.d (int (e.ts - d.ts))) (by exact congrArg (fun z => AV.d (int z)) g3) ?_
            refine OW_run' hE.ok 1 rfl ?_
            refine OW_end rfl ?_
            refine CW_seq ?_
            refine CW_region ?_
            refine OW_run' hE.ok 2 rfl ?_
            refine OW_as' 94 (.d (boo false)) (by exact congrArg (fun z => AV.d (boo z)) (decide_eq_false (show ¬ (e.ts - d.ts < 0) by omega))) ?_
            refine OW_run' hE.ok 1 rfl ?_
            refine OW_run' hE.ok 4 rfl ?_
            refine OW_as' 99 (.d (boo false)) (by exact congrArg (fun z => AV.d (boo z)) (decide_eq_false (show ¬ (e.ts - d.ts > w1) by have : e.ts - d.ts ≤ w1 := g2; omega))) ?_
            refine OW_run' hE.ok 1 rfl ?_
            refine OW_end rfl ?_
            refine CW_false rfl ?_
            refine CW_skip ?_
            refine CW_region ?_
            refine OW_run' hE.ok 3 rfl ?_
            refine OW_end rfl ?_
            refine ⟨⟨i + 1, by omega⟩, LE_sh (slh_set (v := .d (int ((i + 1 : Nat) : Int))) (slh_set (v := .d (.sl 1 24 ((matchesX bS (⟨els, w1, byf, any⟩ : Pat) (keptX l 0)).map encR))) (slh_set (v := .d (SK (keptX l 0))) (slh_set (v := .d (.iptr (encP (⟨els, w1, byf, any⟩ : Pat)))) (slh_no _ _) (by rfl) rfl) (by rfl) rfl) (by rfl) rfl) (by show AV.d (.lit (.int .i64 (IntKind.i64.wrap ((i : Int) + 1)))) = _; rw [wrap_succ (by omega)]; rfl) rfl) (hlh_no _ _), by show (matchesX bS (⟨els, w1, byf, any⟩ : Pat) (keptX l 0)).length - (i + 1) < (matchesX bS (⟨els, w1, byf, any⟩ : Pat) (keptX l 0)).length - i; omega⟩
          · skip
            refine CW_exit ?_
            show CW _ _ _ _
            refine CW_seq ?_
            refine CW_region ?_
            refine OW_run' hE.ok 1 rfl ?_
            refine OW_end rfl ?_
            refine CW_ret ?_
            refine ⟨.inr rfl, rfl, ⟨[.d (boo true)], rfl, rfl, ?_⟩, rfl⟩
            exact AVle.refl _
end Go.Proofs.YtojnicnbmgiplaaGreat
