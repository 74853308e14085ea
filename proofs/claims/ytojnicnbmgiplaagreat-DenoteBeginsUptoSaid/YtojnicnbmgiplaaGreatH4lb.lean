/- Parts of an abstract logic over the kit's walks, and walks in it: H4lb. -/
import Derived.Test.YtojnicnbmgiplaaGreatH4lk
import Derived.Test.YtojnicnbmgiplaaGreatHxi
import Derived.Test.YtojnicnbmgiplaaGreatMat4
namespace Go.Proofs.YtojnicnbmgiplaaGreat
open Go Go.AL
set_option linter.unusedVariables false
set_option linter.unusedSimpArgs false
set_option maxHeartbeats 4000000
theorem beginsOk (p : Pat) (l : List Ev) (hl : l.length ≤ 2000000) : Does Tryz.prog 4 [argP p, .d (.sl 3 48 (l.map encE))] noHeap (.d (boo true)) := by
  refine Does_of T_ok mixed (N := 127) Tryz.func4 rfl rfl rfl (by rfl) fun F n Z hE hF J => ?_
  refine CW_seq ?_
  refine CW_region ?_
  refine OW_run' hE.ok 2 rfl ?_
  refine OW_end rfl ?_
  refine CW_seq ?_
  refine CW_seq ?_
  refine CW_region ?_
  refine OW_call' hE (known14Ok) rfl rfl rfl rfl rfl rfl rfl ?_
  refine OW_run' hE.ok 1 rfl ?_
  refine OW_end rfl ?_
  refine CW_false rfl ?_
  refine CW_skip ?_
  refine CW_seq ?_
  refine CW_region ?_
  refine OW_run' hE.ok 1 rfl ?_
  refine OW_callOwn' hE 77 (streamOk l 3 hl (by decide)) rfl rfl rfl rfl rfl rfl rfl ?_
  refine OW_run' hE.ok 5 rfl ?_
  refine OW.le (LE_freeze 77 64 rfl (by rw [List.length_map]; have := stream_len l 3; omega)) ?_
  refine OW_end rfl ?_
  refine CW_seq ?_
  refine CW_seq ?_
  refine CW_drawn' hE 10 (by decide +kernel) ?_
  refine HW_run hE 3 rfl rfl ?_
  refine HW_split 20 rfl (fun h1 => ?_) (fun h1 => ?_)
  · skip
    skip
    refine HW_run hE 7 rfl rfl ?_
    refine HW_end ?_
    refine OW_run' hE.ok 3 rfl ?_
    refine OW_end rfl ?_
    refine CW_true rfl ?_
    refine CW_seq ?_
    refine CW_region ?_
    refine OW_run' hE.ok 1 rfl ?_
    refine OW_end rfl ?_
    refine CW_ret ?_
    refine ⟨.inr rfl, rfl, ⟨[.d (boo true)], rfl, rfl, ?_⟩, rfl⟩
    exact AVle.refl _
  · skip
    have hs2 : (streamX l 3).2 = true := by have := h1; simpa using this
    have hst := stream_ok hs2
    refine HW_run hE 5 rfl rfl ?_
    refine HW_split 25 rfl (fun h2 => ?_) (fun h2 => ?_)
    · skip
      skip
      refine HW_run hE 2 rfl rfl ?_
      refine HW_end ?_
      refine OW_run' hE.ok 3 rfl ?_
      refine OW_end rfl ?_
      refine CW_true rfl ?_
      refine CW_seq ?_
      refine CW_region ?_
      refine OW_run' hE.ok 1 rfl ?_
      refine OW_end rfl ?_
      refine CW_ret ?_
      refine ⟨.inr rfl, rfl, ⟨[.d (boo true)], rfl, rfl, ?_⟩, rfl⟩
      exact AVle.refl _
    · skip
      have hl7 : l.length ≤ 7 := by have := h2; rw [List.length_map] at this; simp at this; omega
      refine HW_call hE (base11) rfl rfl rfl rfl rfl rfl rfl rfl ?_
      refine HW_run hE 1 rfl rfl ?_
      refine HW_end ?_
      refine OW_call' hE (refCheckOk bS p) rfl rfl rfl rfl rfl rfl rfl ?_
      refine OW_run' hE.ok 2 rfl ?_
      refine OW_end rfl ?_
      refine CW_cond _ rfl (fun h3 => ?_) (fun h3 => ?_)
      · skip
        skip
        refine CW_seq ?_
        refine CW_region ?_
        refine OW_run' hE.ok 1 rfl ?_
        refine OW_end rfl ?_
        refine CW_ret ?_
        refine ⟨.inr rfl, rfl, ⟨[.d (boo true)], rfl, rfl, ?_⟩, rfl⟩
        exact AVle.refl _
      · skip
        have hck : chkR bS p = 0 := bne_eq_false_iff_eq.1 h3
        have hpt := isPat_head (chk_isPat hck)
        refine CW_skip ?_
        refine CW_seq ?_
        refine CW.le (show LE _ _ ⟨J, (sset (sset noSlots 2 (.d (.iptr (encP p)))) 5 (.d (SK (keptX l 3)))), noHeap⟩ from LE_sh (slh_set (v := .d (SK (keptX l 3))) (slh_set (v := .d (.iptr (encP p))) (slh_no _ _) (by rfl) rfl) (by exact (congrArg (fun z : List Kp × Bool => AV.d (SK z.1)) hst.1)) rfl) (hlh_no _ _)) ?_
        have hkl := kept_len l 3
        have hkr := kept_rises l 3
        have qM := matchesOk bS p (keptX l 3) hkr (by omega) (by omega)
        refine CW_drawn' hE 3 (by decide +kernel) ?_
        refine HW_call hE (base11) rfl rfl rfl rfl rfl rfl rfl rfl ?_
        refine HW_run hE 2 rfl rfl ?_
        refine HW_end ?_
        refine OW_callRow' hE 60 qM rfl rfl rfl rfl rfl rfl rfl ?_
        refine OW_run' hE.ok 1 rfl ?_
        have hol := out_len (s := bS) (p := p) (l := (keptX l 3)) (keptX l 3).length
        have hpow : 4 ^ (keptX l 3).length ≤ 4194304 := Nat.le_trans (Nat.pow_le_pow_right (by decide) (show (keptX l 3).length ≤ 11 by omega)) (by decide)
        have hml : (matchesX bS p (keptX l 3)).length ≤ 4194304 := Nat.le_trans hol hpow
        refine OW.le (LE_freeze 60 24 rfl (by rw [List.length_map]; omega)) ?_
        refine OW_end rfl ?_
        refine CW_seq ?_
        refine CW_seq ?_
        refine CW_region ?_
        refine OW_run' hE.ok 1 rfl ?_
        refine OW_end rfl ?_
        refine CW_block ?_
        refine CW_loop (σ := {i : Nat // i ≤ (matchesX bS p (keptX l 3)).length}) (fun i => ⟨J, (sset (sset (sset (sset noSlots 2 (.d (.iptr (encP p)))) 5 (.d (SK (keptX l 3)))) 7 (.d (.sl 1 24 ((matchesX bS p (keptX l 3)).map encR)))) 8 (.d (int ((i.1 : Nat) : Int)))), noHeap⟩) (fun i => (matchesX bS p (keptX l 3)).length - i.1) ⟨0, Nat.zero_le _⟩ (LE_sh (slh_set (slh_set (slh_set (slh_set (slh_no _ _) rfl rfl) rfl rfl) rfl rfl) rfl rfl) (hlh_no _ _)) fun ⟨i, hi⟩ => ?_
        refine CW_seq ?_
        refine CW_seq ?_
        refine CW_region ?_
        refine OW_run' hE.ok 4 rfl ?_
        refine OW_end rfl ?_
        refine CW_cond _ rfl (fun h4 => ?_) (fun h4 => ?_)
        · skip
          have hlt : i < (matchesX bS p (keptX l 3)).length := by have := h4; rw [List.length_map] at this; simp at this; omega
          obtain ⟨b, hb⟩ : ∃ b, (matchesX bS p (keptX l 3))[i]? = some b := ⟨_, List.getElem?_eq_getElem hlt⟩
          have hbm := List.mem_of_getElem? hb
          have hbi := rowin_of hbm
          have hb1 := hbi.1
          have hbl := hbi.2.2
          obtain ⟨lst, hlst⟩ : ∃ q, b[b.length - 1]? = some q := ⟨_, List.getElem?_eq_getElem (by omega)⟩
          have hla := lastBd_at hlst
          have hgm := mat_good hkr hbm
          have hlI : (lst.el == (p.els.length : Int) - 1) = true := by have := hgm.2.2; unfold lastIs at this; rwa [hla] at this
          refine CW_skip ?_
          refine CW_seq ?_
          refine CW_block ?_
          refine CW_seq ?_
          refine CW_seq ?_
          refine CW_region ?_
          refine OW_run' hE.ok 1 rfl ?_
          refine OW_end rfl ?_
          refine CW_block ?_
          refine CW_loop (σ := {k : Nat // k ≤ b.length}) (fun k => ⟨J, (sset (sset (sset (sset (sset noSlots 2 (.d (.iptr (encP p)))) 5 (.d (SK (keptX l 3)))) 7 (.d (.sl 1 24 ((matchesX bS p (keptX l 3)).map encR)))) 8 (.d (int ((i : Nat) : Int)))) 9 (.d (int ((k.1 + 1 : Nat) : Int)))), noHeap⟩) (fun k => b.length - k.1) ⟨0, Nat.zero_le _⟩ (LE_sh (slh_set (slh_set (slh_set (slh_set (slh_set (slh_no _ _) rfl rfl) rfl rfl) rfl rfl) rfl rfl) rfl rfl) (hlh_no _ _)) fun ⟨k, hk⟩ => ?_
          refine CW_seq ?_
          refine CW_seq ?_
          refine CW_region ?_
          refine OW_run' hE.ok 3 rfl ?_
          refine OW_loc' hE (loc_indexAddr hE rfl rfl rfl rfl rfl (by omega) (x := encR b) (by simp [hb])) rfl rfl rfl ?_
          refine OW_run' hE.ok 4 rfl ?_
          refine OW_end rfl ?_
          refine CW_cond _ rfl (fun h5 => ?_) (fun h5 => ?_)
          · skip
            have hkb : k + 1 ≤ b.length := by have := h5; rw [List.length_map] at this; simp at this; omega
            refine CW_skip ?_
            refine CW_seq ?_
            refine CW_block ?_
            refine CW_seq ?_
            refine CW_drawn' hE 10 (by decide +kernel) ?_
            refine HW_call hE (base11) rfl rfl rfl rfl rfl rfl rfl rfl ?_
            refine HW_run hE 4 rfl rfl ?_
            refine HW_loc hE (loc_indexAddr hE rfl rfl rfl rfl rfl (by omega) (x := encR b) (by simp [hb])) rfl rfl rfl rfl ?_
            refine HW_run hE 3 rfl rfl ?_
            refine HW_loc hE (loc_slice hE (lo := none) (hi := some (.tmp 59)) rfl rfl rfl rfl (l := 0) (u := k + 1) rfl ⟨.i64, rfl⟩ (by omega) (by simp; omega)) rfl rfl rfl rfl ?_
            refine HW_as 60 (.d (SBd (b.take (k + 1)))) (by unfold SBd; rw [List.map_take]; rfl) ?_
            refine HW_end ?_
            refine OW_call' hE ((by have q := prefixOk bS p (keptX l 3) (b.take (k + 1)) hkr (by rw [List.length_take]; omega) (by omega); rw [begins_pre hkr hbm (Nat.succ_pos k)] at q; exact q)) rfl rfl rfl rfl rfl rfl rfl ?_
            refine OW_run' hE.ok 1 rfl ?_
            refine OW_end rfl ?_
            refine CW_false rfl ?_
            refine CW_skip ?_
            refine CW_region ?_
            refine OW_run' hE.ok 3 rfl ?_
            refine OW_end rfl ?_
            refine ⟨⟨k + 1, by omega⟩, LE_sh (slh_set (v := .d (int ((k + 1 + 1 : Nat) : Int))) (slh_set (v := .d (int ((i : Nat) : Int))) (slh_set (v := .d (.sl 1 24 ((matchesX bS p (keptX l 3)).map encR))) (slh_set (v := .d (SK (keptX l 3))) (slh_set (v := .d (.iptr (encP p))) (slh_no _ _) (by rfl) rfl) (by rfl) rfl) (by rfl) rfl) (by rfl) rfl) (by show AV.d (.lit (.int .i64 (IntKind.i64.wrap (((k + 1 : Nat) : Int) + 1)))) = _; rw [wrap_succ (by omega)]; rfl) rfl) (hlh_no _ _), by show b.length - (k + 1) < b.length - k; omega⟩
          · skip
            skip
            refine CW_exit ?_
            show CW _ _ _ _
            refine CW_seq ?_
            refine CW_region ?_
            refine OW_run' hE.ok 2 rfl ?_
            refine OW_loc' hE (loc_indexAddr hE rfl rfl rfl rfl rfl (by omega) (x := encR b) (by simp [hb])) rfl rfl rfl ?_
            refine OW_run' hE.ok 3 rfl ?_
            refine OW_end rfl ?_
            refine CW_seq ?_
            refine CW.le (show LE _ _ ⟨J, (sset (sset (sset (sset (sset noSlots 2 (.d (.iptr (encP p)))) 5 (.d (SK (keptX l 3)))) 7 (.d (.sl 1 24 ((matchesX bS p (keptX l 3)).map encR)))) 8 (.d (int ((i : Nat) : Int)))) 10 (.d (SBd b))), noHeap⟩ from LE_sh (slh_set (v := .d (SBd b)) (slh_set (v := .d (int ((i : Nat) : Int))) (slh_set (v := .d (.sl 1 24 ((matchesX bS p (keptX l 3)).map encR))) (slh_set (v := .d (SK (keptX l 3))) (slh_set (v := .d (.iptr (encP p))) (slh_no _ _) (by rfl) rfl) (by rfl) rfl) (by rfl) rfl) (by rfl) rfl) (by rfl) rfl) (hlh_no _ _)) ?_
            refine CW_drawn' hE 56 (by decide +kernel) ?_
            refine HW_run hE 3 rfl rfl ?_
            refine HW_as 70 (.d (boo false)) (by exact congrArg (fun z => AV.d (boo z)) ((by show (((b.map encBd).length : Int) == 0) = false; rw [List.length_map]; exact beq_eq_false_iff_ne.2 (by omega)))) ?_
            refine HW_run hE 1 rfl rfl ?_
            refine HW_run hE 4 rfl rfl ?_
            refine HW_as 75 (.d (int ((b.length - 1 : Nat) : Int))) (by show AV.d (.lit (.int .i64 (IntKind.i64.wrap (((b.map encBd).length : Int) - 1)))) = _; rw [List.length_map, show ((b.length : Int) - 1) = ((b.length - 1 : Nat) : Int) by omega, wrapN (by omega)]; rfl) ?_
            refine HW_loc hE (loc_indexAddr hE rfl rfl rfl rfl rfl (by omega) (x := encBd lst) (by rw [Int.toNat_natCast, List.getElem?_map, hlst]; rfl)) rfl rfl rfl rfl ?_
            refine HW_run hE 6 rfl rfl ?_
            refine HW_as 82 (.d (int ((p.els.length : Int) - 1))) (by show AV.d (.lit (.int .i64 (IntKind.i64.wrap (((p.els.map encL).length : Int) - 1)))) = _; rw [List.length_map, wrap_id _ _ (by simp [IntKind.min, IntKind.signed, IntKind.bits]; omega) (by simp [IntKind.max, IntKind.signed, IntKind.bits]; omega)]; rfl) ?_
            refine HW_run hE 1 rfl rfl ?_
            refine HW_as 83 (.d (boo false)) (by exact congrArg (fun z => AV.d (boo z)) ((by show (lst.el != (p.els.length : Int) - 1) = false; unfold bne; rw [hlI]; rfl))) ?_
            refine HW_run hE 1 rfl rfl ?_
            refine HW_run hE 4 rfl rfl ?_
            refine HW_split 88 rfl (fun h6 => ?_) (fun h6 => ?_)
            · skip
              have hi0 : 0 < i := by have h0 : decide (((i : Nat) : Int) > 0) = true := h6; simp at h0; omega
              obtain ⟨a, ha⟩ : ∃ a, (matchesX bS p (keptX l 3))[i - 1]? = some a := ⟨_, List.getElem?_eq_getElem (by omega)⟩
              have hai := rowin_of (List.mem_of_getElem? ha)
              have ha1 := hai.1
              have hal := hai.2.2
              obtain ⟨lsa, hlsa⟩ : ∃ q, a[a.length - 1]? = some q := ⟨_, List.getElem?_eq_getElem (by omega)⟩
              have hlaa := lastBd_at hlsa
              have hor := begins_ord hkr hi0 ha hb
              refine HW_run hE 3 rfl rfl ?_
              refine HW_as 91 (.d (int ((i - 1 : Nat) : Int))) (by show AV.d (.lit (.int .i64 (IntKind.i64.wrap (((i : Nat) : Int) - 1)))) = _; rw [show (((i : Nat) : Int) - 1) = ((i - 1 : Nat) : Int) by omega, wrapN (by omega)]; rfl) ?_
              refine HW_loc hE (loc_indexAddr hE rfl rfl rfl rfl rfl (by omega) (x := encR a) (by rw [Int.toNat_natCast, List.getElem?_map, ha]; rfl)) rfl rfl rfl rfl ?_
              refine HW_run hE 3 rfl rfl ?_
              refine HW_call hE (lessBdOk a b (by omega) (by omega)) rfl rfl rfl rfl rfl rfl rfl rfl ?_
              refine HW_run hE 3 rfl rfl ?_
              refine HW_split 99 rfl (fun h7 => ?_) (fun h7 => ?_)
              · skip
                have hge : ¬ lsa.at_ ≥ lst.at_ := by have h0 : (!decide (orderX a b < 0)) = true := h7; simp at h0; rcases hor with h1 | h1; exact absurd h1 (by omega); rw [hlaa, hla] at h1; omega
                refine HW_run hE 3 rfl rfl ?_
                refine HW_as 102 (.d (int ((i - 1 : Nat) : Int))) (by show AV.d (.lit (.int .i64 (IntKind.i64.wrap (((i : Nat) : Int) - 1)))) = _; rw [show (((i : Nat) : Int) - 1) = ((i - 1 : Nat) : Int) by omega, wrapN (by omega)]; rfl) ?_
                refine HW_loc hE (loc_indexAddr hE rfl rfl rfl rfl rfl (by omega) (x := encR a) (by rw [Int.toNat_natCast, List.getElem?_map, ha]; rfl)) rfl rfl rfl rfl ?_
                refine HW_run hE 5 rfl rfl ?_
                refine HW_as 108 (.d (int ((i - 1 : Nat) : Int))) (by show AV.d (.lit (.int .i64 (IntKind.i64.wrap (((i : Nat) : Int) - 1)))) = _; rw [show (((i : Nat) : Int) - 1) = ((i - 1 : Nat) : Int) by omega, wrapN (by omega)]; rfl) ?_
                refine HW_loc hE (loc_indexAddr hE rfl rfl rfl rfl rfl (by omega) (x := encR a) (by rw [Int.toNat_natCast, List.getElem?_map, ha]; rfl)) rfl rfl rfl rfl ?_
                refine HW_run hE 4 rfl rfl ?_
                refine HW_as 113 (.d (int ((a.length - 1 : Nat) : Int))) (by show AV.d (.lit (.int .i64 (IntKind.i64.wrap (((a.map encBd).length : Int) - 1)))) = _; rw [List.length_map, show ((a.length : Int) - 1) = ((a.length - 1 : Nat) : Int) by omega, wrapN (by omega)]; rfl) ?_
                refine HW_loc hE (loc_indexAddr hE rfl rfl rfl rfl rfl (by omega) (x := encBd lsa) (by rw [Int.toNat_natCast, List.getElem?_map, hlsa]; rfl)) rfl rfl rfl rfl ?_
                refine HW_run hE 6 rfl rfl ?_
                refine HW_as 120 (.d (int ((b.length - 1 : Nat) : Int))) (by show AV.d (.lit (.int .i64 (IntKind.i64.wrap (((b.map encBd).length : Int) - 1)))) = _; rw [List.length_map, show ((b.length : Int) - 1) = ((b.length - 1 : Nat) : Int) by omega, wrapN (by omega)]; rfl) ?_
                refine HW_loc hE (loc_indexAddr hE rfl rfl rfl rfl rfl (by omega) (x := encBd lst) (by rw [Int.toNat_natCast, List.getElem?_map, hlst]; rfl)) rfl rfl rfl rfl ?_
                refine HW_run hE 2 rfl rfl ?_
                refine HW_end ?_
                refine OW_run' hE.ok 1 rfl ?_
                refine OW_as' 124 (.d (boo false)) (by exact congrArg (fun z => AV.d (boo z)) (decide_eq_false hge)) ?_
                refine OW_run' hE.ok 2 rfl ?_
                refine OW_end rfl ?_
                refine CW_false rfl ?_
                refine CW_skip ?_
                refine CW_region ?_
                refine OW_run' hE.ok 3 rfl ?_
                refine OW_end rfl ?_
                refine ⟨⟨i + 1, by omega⟩, LE_sh (slh_set (v := .d (int ((i + 1 : Nat) : Int))) (slh_set (v := .d (.sl 1 24 ((matchesX bS p (keptX l 3)).map encR))) (slh_set (v := .d (SK (keptX l 3))) (slh_set (v := .d (.iptr (encP p))) (slh_no _ _) (by rfl) rfl) (by rfl) rfl) (by rfl) rfl) (by show AV.d (.lit (.int .i64 (IntKind.i64.wrap ((i : Int) + 1)))) = _; rw [wrap_succ (by omega)]; rfl) rfl) (hlh_no _ _), by show (matchesX bS p (keptX l 3)).length - (i + 1) < (matchesX bS p (keptX l 3)).length - i; omega⟩
              · skip
                skip
                refine HW_run hE 24 rfl rfl ?_
                refine HW_end ?_
                refine OW_run' hE.ok 3 rfl ?_
                refine OW_end rfl ?_
                refine CW_false rfl ?_
                refine CW_skip ?_
                refine CW_region ?_
                refine OW_run' hE.ok 3 rfl ?_
                refine OW_end rfl ?_
                refine ⟨⟨i + 1, by omega⟩, LE_sh (slh_set (v := .d (int ((i + 1 : Nat) : Int))) (slh_set (v := .d (.sl 1 24 ((matchesX bS p (keptX l 3)).map encR))) (slh_set (v := .d (SK (keptX l 3))) (slh_set (v := .d (.iptr (encP p))) (slh_no _ _) (by rfl) rfl) (by rfl) rfl) (by rfl) rfl) (by show AV.d (.lit (.int .i64 (IntKind.i64.wrap ((i : Int) + 1)))) = _; rw [wrap_succ (by omega)]; rfl) rfl) (hlh_no _ _), by show (matchesX bS p (keptX l 3)).length - (i + 1) < (matchesX bS p (keptX l 3)).length - i; omega⟩
            · skip
              skip
              refine HW_run hE 35 rfl rfl ?_
              refine HW_end ?_
              refine OW_run' hE.ok 3 rfl ?_
              refine OW_end rfl ?_
              refine CW_false rfl ?_
              refine CW_skip ?_
              refine CW_region ?_
              refine OW_run' hE.ok 3 rfl ?_
              refine OW_end rfl ?_
              refine ⟨⟨i + 1, by omega⟩, LE_sh (slh_set (v := .d (int ((i + 1 : Nat) : Int))) (slh_set (v := .d (.sl 1 24 ((matchesX bS p (keptX l 3)).map encR))) (slh_set (v := .d (SK (keptX l 3))) (slh_set (v := .d (.iptr (encP p))) (slh_no _ _) (by rfl) rfl) (by rfl) rfl) (by rfl) rfl) (by show AV.d (.lit (.int .i64 (IntKind.i64.wrap ((i : Int) + 1)))) = _; rw [wrap_succ (by omega)]; rfl) rfl) (hlh_no _ _), by show (matchesX bS p (keptX l 3)).length - (i + 1) < (matchesX bS p (keptX l 3)).length - i; omega⟩
        · skip
          refine CW_exit ?_
          show CW _ _ _ _
          refine CW_seq ?_
          refine CW_region ?_
          refine OW_run' hE.ok 1 rfl ?_
          refine OW_end rfl ?_
          refine CW_ret ?_
          refine ⟨.inr rfl, rfl, ⟨[.d (boo true)], rfl, rfl, ?_⟩, rfl⟩
          exact AVle.refl _
end Go.Proofs.YtojnicnbmgiplaaGreat
