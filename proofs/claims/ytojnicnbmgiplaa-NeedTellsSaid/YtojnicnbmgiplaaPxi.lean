/- Parts of an abstract logic over the kit's walks, and walks in it: P4ck. -/
import Derived.Test.YtojnicnbmgiplaaP4q5
import Derived.Test.YtojnicnbmgiplaaPxg
import Derived.Test.YtojnicnbmgiplaaMa
import Derived.Test.YtojnicnbmgiplaaAg
namespace Go.Proofs.Ytojnicnbmgiplaa
open Go Go.AL
set_option linter.unusedVariables false
set_option linter.unusedSimpArgs false
set_option maxHeartbeats 4000000
theorem refCheckOk (s : List Ty) (p : Pat) : Does Try.prog 11 [argS s, argP p] noHeap (.d (int (chkR s p))) := by
  refine Does_of T_ok mixed (N := 153) Try.func11 rfl rfl rfl (by rfl) fun F n Z hE hF J => ?_
  refine CW_seq ?_
  refine CW_region ?_
  refine OW_run' hE.ok 3 rfl ?_
  refine OW_end rfl ?_
  refine CW_seq ?_
  refine CW_seq ?_
  refine CW_region ?_
  refine OW_run' hE.ok 1 rfl ?_
  refine OW_call' hE (refIsPatOk p) rfl rfl rfl rfl rfl rfl rfl ?_
  refine OW_run' hE.ok 1 rfl ?_
  refine OW_end rfl ?_
  refine CW_cond _ rfl (fun h1 => ?_) (fun h1 => ?_)
  · skip
    have g0 : isPat p = false := by have := h1; simpa using this
    refine CW_seq ?_
    refine CW_region ?_
    refine OW_run' hE.ok 1 rfl ?_
    refine OW_end rfl ?_
    refine CW_ret ?_
    refine ⟨.inr rfl, rfl, ⟨[.d (int 10)], rfl, rfl, ?_⟩, rfl⟩
    rw [chk_1 g0]
    exact AVle.refl _
  · skip
    have g0 : isPat p = true := by have := h1; simpa using this
    have hh := isPat_head g0
    refine CW_skip ?_
    refine CW_seq ?_
    refine CW_region ?_
    refine OW_run' hE.ok 1 rfl ?_
    refine OW.le (LE_slotLe 5 rfl (AVle.nilSl 11 144)) ?_
    refine OW_end rfl ?_
    refine CW_seq ?_
    refine CW_seq ?_
    refine CW_region ?_
    refine OW_run' hE.ok 1 rfl ?_
    refine OW_end rfl ?_
    refine CW_block ?_
    refine CW_loop (σ := {q : Nat × List El // q.1 ≤ p.els.length ∧ elsR s [] p.els = elsR s q.2 (p.els.drop q.1) ∧ q.2.length ≤ q.1}) (fun q => ⟨J, (sset (sset (sset (sset noSlots 2 (.d (.iptr [encS s]))) 3 (.d (.iptr (encP p)))) 5 (.d (.sl 11 144 (q.1.2.map encL)))) 6 (.d (int ((q.1.1 : Nat) : Int)))), noHeap⟩) (fun q => p.els.length - q.1.1) ⟨(0, []), Nat.zero_le _, rfl, Nat.le_refl _⟩ (LE_sh (slh_set (slh_set (slh_set (slh_set (slh_no _ _) rfl rfl) rfl rfl) rfl rfl) rfl rfl) (hlh_no _ _)) fun ⟨(i, seen), hi, hq, hsl⟩ => ?_
    simp only at hi hq hsl
    refine CW_seq ?_
    refine CW_seq ?_
    refine CW_region ?_
    refine OW_run' hE.ok 5 rfl ?_
    refine OW_end rfl ?_
    refine CW_cond _ rfl (fun h2 => ?_) (fun h2 => ?_)
    · skip
      have hlt : i < p.els.length := by have := h2; rw [List.length_map] at this; simp at this; omega
      obtain ⟨e, he⟩ : ∃ e, p.els[i]? = some e := ⟨_, List.getElem?_eq_getElem hlt⟩
      obtain ⟨y1, y2, y3, y4, y5, y6, y7, y8, y9, rfl⟩ := El.shape e
      refine CW_skip ?_
      refine CW_seq ?_
      refine CW_block ?_
      refine CW_seq ?_
      refine CW_region ?_
      refine OW_run' hE.ok 3 rfl ?_
      refine OW_loc' hE (loc_indexAddr hE rfl rfl rfl rfl rfl (by omega) (x := encL (⟨y1, y2, y3, y4, .mk y5 y6 y7 y8 y9⟩ : El)) (by simp [he])) rfl rfl rfl ?_
      refine OW_run' hE.ok 1 rfl ?_
      refine OW_alloc' hE 1 rfl rfl rfl rfl rfl rfl rfl ?_
      refine OW_store' hE rfl rfl rfl rfl rfl rfl rfl rfl rfl rfl rfl rfl ?_
      refine OW.le (LE_freezeBox 1 (ds := encL (⟨y1, y2, y3, y4, .mk y5 y6 y7 y8 y9⟩ : El)) rfl rfl) ?_
      refine OW_end rfl ?_
      refine CW_seq ?_
      refine CW_seq ?_
      refine CW_region ?_
      refine OW_run' hE.ok 1 rfl ?_
      refine OW_end rfl ?_
      refine CW_block ?_
      refine CW_loop (σ := {j : Nat // j ≤ y2.length ∧ ∀ k t, k < j → y2[k]? = some t → (findT s t).2 = true}) (fun j => ⟨J, (sset (sset (sset (sset (sset (sset noSlots 2 (.d (.iptr [encS s]))) 3 (.d (.iptr (encP p)))) 5 (.d (.sl 11 144 (seen.map encL)))) 6 (.d (int ((i : Nat) : Int)))) 7 (.d (.iptr (encL (⟨y1, y2, y3, y4, .mk y5 y6 y7 y8 y9⟩ : El))))) 8 (.d (int ((j.1 : Nat) : Int)))), noHeap⟩) (fun j => y2.length - j.1) ⟨0, Nat.zero_le _, fun k t hk => by omega⟩ (LE_sh (slh_set (slh_set (slh_set (slh_set (slh_set (slh_set (slh_no _ _) rfl rfl) rfl rfl) rfl rfl) rfl rfl) rfl rfl) rfl rfl) (hlh_no _ _)) fun ⟨j, hj, hpj⟩ => ?_
      refine CW_seq ?_
      refine CW_seq ?_
      refine CW_region ?_
      refine OW_run' hE.ok 5 rfl ?_
      refine OW_end rfl ?_
      refine CW_cond _ rfl (fun h3 => ?_) (fun h3 => ?_)
      · skip
        refine CW_know (know_sl (d := 39) rfl) fun hlen => ?_
        simp only [List.length_map] at hlen
        have hjl : j < y2.length := by have := h3; rw [List.length_map] at this; simp at this; omega
        obtain ⟨t, ht⟩ : ∃ t, y2[j]? = some t := ⟨_, List.getElem?_eq_getElem hjl⟩
        refine CW_skip ?_
        refine CW_seq ?_
        refine CW_block ?_
        refine CW_seq ?_
        refine CW_drawn2 hE 12 10 11 2 (by decide +kernel) (V := (encT (findT s t).1).map .d) rfl rfl rfl rfl rfl rfl rfl rfl rfl (by decide +kernel) rfl rfl rfl rfl rfl ?_
        refine H2_run hE 4 rfl rfl rfl rfl rfl ?_
        refine H2_loc hE (fun b => loc_indexAddr hE rfl rfl rfl rfl rfl (by omega) (x := encB t) (by simp [ht])) rfl rfl rfl rfl rfl ?_
        refine H2_run hE 1 rfl rfl rfl rfl rfl ?_
        refine H2_call hE (refFindOk s t) rfl rfl rfl rfl rfl rfl rfl rfl rfl ?_
        refine H2_run hE 3 rfl rfl rfl rfl rfl ?_
        refine H2_alloc rfl rfl rfl ?_
        refine H2_store rfl rfl rfl rfl rfl rfl rfl rfl ?_
        refine H2_end ?_
        refine OW_run' hE.ok 1 rfl ?_
        refine OW_end rfl ?_
        refine CW_seq ?_
        refine CW_region ?_
        refine OW_run' hE.ok 2 rfl ?_
        refine OW_end rfl ?_
        refine CW_cond _ rfl (fun h4 => ?_) (fun h4 => ?_)
        · skip
          have g1 : (!(findT s t).2) = true := h4
          refine CW_seq ?_
          refine CW_region ?_
          refine OW_run' hE.ok 1 rfl ?_
          refine OW_end rfl ?_
          refine CW_ret ?_
          refine ⟨.inr rfl, rfl, ⟨[.d (int 13)], rfl, rfl, ?_⟩, rfl⟩
          rw [chk_2 (c := 13) g0 (by rw [hq, els_step he, show elR s seen (⟨y1, y2, y3, y4, .mk y5 y6 y7 y8 y9⟩ : El) = 13 by unfold elR; rw [tysOk_bad ht (by simpa using g1)]; rfl]; rfl) rfl]
          exact AVle.refl _
        · skip
          have g1 : (!(findT s t).2) = false := h4
          refine CW_skip ?_
          refine CW_region ?_
          refine OW_run' hE.ok 3 rfl ?_
          refine OW_end rfl ?_
          refine ⟨⟨j + 1, by omega, fun k t' hk hk' => ?_⟩, LE_sh (slh_set (v := .d (int ((j + 1 : Nat) : Int))) (slh_set (v := .d (.iptr (encL (⟨y1, y2, y3, y4, .mk y5 y6 y7 y8 y9⟩ : El)))) (slh_set (v := .d (int ((i : Nat) : Int))) (slh_set (v := .d (.sl 11 144 (seen.map encL))) (slh_set (v := .d (.iptr (encP p))) (slh_set (v := .d (.iptr [encS s])) (slh_no _ _) (by rfl) rfl) (by rfl) rfl) (by rfl) rfl) (by rfl) rfl) (by rfl) rfl) (by show AV.d (.lit (.int .i64 (IntKind.i64.wrap ((j : Int) + 1)))) = _; rw [wrap_succ (by omega)]; rfl) rfl) (hlh_no _ _), by show y2.length - (j + 1) < y2.length - j; omega⟩
          by_cases hkj : k = j
          · subst hkj; rw [ht] at hk'; cases hk'; exact by simpa using g1
          · exact hpj k t' (by omega) hk'
      · skip
        have hjg : y2.length ≤ j := by have := h3; rw [List.length_map] at this; simp at this; omega
        have hty : tysOk s (⟨y1, y2, y3, y4, .mk y5 y6 y7 y8 y9⟩ : El).tys = true := tysOk_all fun k t hk => hpj k t (by have := (List.getElem?_eq_some_iff.1 hk).1; show k < j; have : k < y2.length := this; omega) hk
        refine CW_exit ?_
        show CW _ _ _ _
        refine CW_seq ?_
        refine CW.le (show LE _ _ ⟨J, (sset (sset (sset (sset (sset noSlots 2 (.d (.iptr [encS s]))) 3 (.d (.iptr (encP p)))) 5 (.d (.sl 11 144 (seen.map encL)))) 6 (.d (int ((i : Nat) : Int)))) 7 (.d (.iptr (encL (⟨y1, y2, y3, y4, .mk y5 y6 y7 y8 y9⟩ : El))))), noHeap⟩ from LE_sh (slh_set (v := .d (.iptr (encL (⟨y1, y2, y3, y4, .mk y5 y6 y7 y8 y9⟩ : El)))) (slh_set (v := .d (int ((i : Nat) : Int))) (slh_set (v := .d (.sl 11 144 (seen.map encL))) (slh_set (v := .d (.iptr (encP p))) (slh_set (v := .d (.iptr [encS s])) (slh_no _ _) (by rfl) rfl) (by rfl) rfl) (by rfl) rfl) (by rfl) rfl) (by rfl) rfl) (hlh_no _ _)) ?_
        refine CW_drawnG hE 4 [(1, 60, .row 66 11 (seen.map encL))] (by decide +kernel) rfl ?_
        refine HG_run hE 1 rfl rfl rfl rfl ?_
        refine HG_appendNil hE rfl rfl rfl rfl rfl rfl rfl rfl rfl rfl (by simp; omega) (by simp; omega) rfl ?_
        refine HG_run hE 1 rfl rfl rfl rfl ?_
        refine HG_loc hE (fun b => loc_lits hE (t := 25) (len := 1) (parts := #[(0, .tmp 58)]) rfl rfl rfl rfl rfl rfl rfl rfl (xs := [encL (⟨y1, y2, y3, y4, .mk y5 y6 y7 y8 y9⟩ : El)]) rfl) rfl rfl rfl rfl rfl ?_
        refine HG_end ?_
        refine OW_append' hE (key := 60) rfl rfl rfl rfl rfl rfl rfl rfl (.inl rfl) (by simp; omega) (by simp; omega) rfl ?_
        refine OW_run' hE.ok 1 rfl ?_
        refine OW.le (LE_freeze 60 144 rfl (by simp; omega)) ?_
        refine OW_end rfl ?_
        refine CW_cutE (fun _ : Unit => ⟨J, (sset (sset (sset (sset (sset (sset noSlots 2 (.d (.iptr [encS s]))) 3 (.d (.iptr (encP p)))) 5 (.d (.sl 11 144 (seen.map encL)))) 6 (.d (int ((i : Nat) : Int)))) 7 (.d (.iptr (encL (⟨y1, y2, y3, y4, .mk y5 y6 y7 y8 y9⟩ : El))))) 11 (.d (.sl 11 144 ((seen ++ [(⟨y1, y2, y3, y4, .mk y5 y6 y7 y8 y9⟩ : El)]).map encL)))), noHeap⟩) (fun _ => elR s seen (⟨y1, y2, y3, y4, .mk y5 y6 y7 y8 y9⟩ : El) = 0) ?_ ?_
        · skip
          refine CW_seq ?_
          refine CW.le (show LE _ _ ⟨J, (sset (sset (sset (sset (sset (sset noSlots 2 (.d (.iptr [encS s]))) 3 (.d (.iptr (encP p)))) 5 (.d (.sl 11 144 (seen.map encL)))) 6 (.d (int ((i : Nat) : Int)))) 7 (.d (.iptr (encL (⟨y1, y2, y3, y4, .mk y5 y6 y7 y8 y9⟩ : El))))) 11 (.d (.sl 11 144 ((seen ++ [(⟨y1, y2, y3, y4, .mk y5 y6 y7 y8 y9⟩ : El)]).map encL)))), noHeap⟩ from LE_sh (slh_set (v := .d (.sl 11 144 ((seen ++ [(⟨y1, y2, y3, y4, .mk y5 y6 y7 y8 y9⟩ : El)]).map encL))) (slh_set (v := .d (.iptr (encL (⟨y1, y2, y3, y4, .mk y5 y6 y7 y8 y9⟩ : El)))) (slh_set (v := .d (int ((i : Nat) : Int))) (slh_set (v := .d (.sl 11 144 (seen.map encL))) (slh_set (v := .d (.iptr (encP p))) (slh_set (v := .d (.iptr [encS s])) (slh_no _ _) (by rfl) rfl) (by rfl) rfl) (by rfl) rfl) (by rfl) rfl) (by rfl) rfl) (by show AV.d (.sl 11 144 (seen.map encL ++ [encL (⟨y1, y2, y3, y4, .mk y5 y6 y7 y8 y9⟩ : El)])) = _; rw [List.map_append]; rfl) rfl) (hlh_no _ _)) ?_
          refine CW_region ?_
          refine OW_run' hE.ok 4 rfl ?_
          refine OW_end rfl ?_
          refine CW_cond _ rfl (fun h5 => ?_) (fun h5 => ?_)
          · skip
            have g2 : (y5 != 0) = true := h5
            refine CW_seq ?_
            refine CW_region ?_
            refine OW_run' hE.ok 4 rfl ?_
            refine OW_call' hE (refKindOk s (seen ++ [(⟨y1, y2, y3, y4, .mk y5 y6 y7 y8 y9⟩ : El)]) (.mk y5 y6 y7 y8 y9)) rfl rfl rfl rfl rfl rfl rfl ?_
            refine OW_run' hE.ok 5 rfl ?_
            refine OW_end rfl ?_
            refine CW_seq ?_
            refine CW_seq ?_
            refine CW_region ?_
            refine OW_run' hE.ok 2 rfl ?_
            refine OW_end rfl ?_
            refine CW_cond _ rfl (fun h6 => ?_) (fun h6 => ?_)
            · skip
              have g3 : ((kindR s (seen ++ [(⟨y1, y2, y3, y4, .mk y5 y6 y7 y8 y9⟩ : El)]) (.mk y5 y6 y7 y8 y9)).2 != 0) = true := h6
              refine CW_seq ?_
              refine CW_region ?_
              refine OW_run' hE.ok 2 rfl ?_
              refine OW_end rfl ?_
              refine CW_ret ?_
              refine ⟨.inr rfl, rfl, ⟨[.d (int (kindR s (seen ++ [(⟨y1, y2, y3, y4, .mk y5 y6 y7 y8 y9⟩ : El)]) (.mk y5 y6 y7 y8 y9)).2)], rfl, rfl, ?_⟩, rfl⟩
              rw [chk_2 (c := (kindR s (seen ++ [(⟨y1, y2, y3, y4, .mk y5 y6 y7 y8 y9⟩ : El)]) (.mk y5 y6 y7 y8 y9)).2) g0 (by rw [hq, els_step he, show elR s seen (⟨y1, y2, y3, y4, .mk y5 y6 y7 y8 y9⟩ : El) = (kindR s (seen ++ [(⟨y1, y2, y3, y4, .mk y5 y6 y7 y8 y9⟩ : El)]) (.mk y5 y6 y7 y8 y9)).2 by unfold elR; rw [hty]; show condR s seen (⟨y1, y2, y3, y4, .mk y5 y6 y7 y8 y9⟩ : El) = _; unfold condR; rw [show (⟨y1, y2, y3, y4, .mk y5 y6 y7 y8 y9⟩ : El).cond.op = y5 from rfl]; rw [g2, g3]; rfl, g3]; rfl) g3]
              exact AVle.refl _
            · skip
              have g3 : ((kindR s (seen ++ [(⟨y1, y2, y3, y4, .mk y5 y6 y7 y8 y9⟩ : El)]) (.mk y5 y6 y7 y8 y9)).2 != 0) = false := h6
              refine CW_skip ?_
              refine CW_seq ?_
              refine CW_region ?_
              refine OW_run' hE.ok 2 rfl ?_
              refine OW_end rfl ?_
              refine CW_cond _ rfl (fun h7 => ?_) (fun h7 => ?_)
              · skip
                have g4 : ((kindR s (seen ++ [(⟨y1, y2, y3, y4, .mk y5 y6 y7 y8 y9⟩ : El)]) (.mk y5 y6 y7 y8 y9)).1 != 3) = true := h7
                refine CW_seq ?_
                refine CW_region ?_
                refine OW_run' hE.ok 1 rfl ?_
                refine OW_end rfl ?_
                refine CW_ret ?_
                refine ⟨.inr rfl, rfl, ⟨[.d (int 14)], rfl, rfl, ?_⟩, rfl⟩
                rw [chk_2 (c := 14) g0 (by rw [hq, els_step he, show elR s seen (⟨y1, y2, y3, y4, .mk y5 y6 y7 y8 y9⟩ : El) = 14 by unfold elR; rw [hty]; show condR s seen (⟨y1, y2, y3, y4, .mk y5 y6 y7 y8 y9⟩ : El) = _; unfold condR; rw [show (⟨y1, y2, y3, y4, .mk y5 y6 y7 y8 y9⟩ : El).cond.op = y5 from rfl]; rw [g2, g3, g4]; rfl]; rfl) rfl]
                exact AVle.refl _
              · skip
                have g4 : ((kindR s (seen ++ [(⟨y1, y2, y3, y4, .mk y5 y6 y7 y8 y9⟩ : El)]) (.mk y5 y6 y7 y8 y9)).1 != 3) = false := h7
                refine CW_skip ?_
                exact ⟨(), (show elR s seen (⟨y1, y2, y3, y4, .mk y5 y6 y7 y8 y9⟩ : El) = 0 by unfold elR; rw [hty]; show condR s seen (⟨y1, y2, y3, y4, .mk y5 y6 y7 y8 y9⟩ : El) = _; unfold condR; rw [show (⟨y1, y2, y3, y4, .mk y5 y6 y7 y8 y9⟩ : El).cond.op = y5 from rfl]; rw [g2, g3, g4]; rfl), LE_sh (slh_set (v := .d (.sl 11 144 ((seen ++ [(⟨y1, y2, y3, y4, .mk y5 y6 y7 y8 y9⟩ : El)]).map encL))) (slh_set (v := .d (.iptr (encL (⟨y1, y2, y3, y4, .mk y5 y6 y7 y8 y9⟩ : El)))) (slh_set (v := .d (int ((i : Nat) : Int))) (slh_set (v := .d (.sl 11 144 (seen.map encL))) (slh_set (v := .d (.iptr (encP p))) (slh_set (v := .d (.iptr [encS s])) (slh_no _ _) (by rfl) rfl) (by rfl) rfl) (by rfl) rfl) (by rfl) rfl) (by rfl) rfl) (by rfl) rfl) (hlh_no _ _)⟩
          · skip
            have g2 : (y5 != 0) = false := h5
            refine CW_skip ?_
            exact ⟨(), (show elR s seen (⟨y1, y2, y3, y4, .mk y5 y6 y7 y8 y9⟩ : El) = 0 by unfold elR; rw [hty]; show condR s seen (⟨y1, y2, y3, y4, .mk y5 y6 y7 y8 y9⟩ : El) = _; unfold condR; rw [show (⟨y1, y2, y3, y4, .mk y5 y6 y7 y8 y9⟩ : El).cond.op = y5 from rfl]; rw [g2]; rfl), LE_sh (slh_set (v := .d (.sl 11 144 ((seen ++ [(⟨y1, y2, y3, y4, .mk y5 y6 y7 y8 y9⟩ : El)]).map encL))) (slh_set (v := .d (.iptr (encL (⟨y1, y2, y3, y4, .mk y5 y6 y7 y8 y9⟩ : El)))) (slh_set (v := .d (int ((i : Nat) : Int))) (slh_set (v := .d (.sl 11 144 (seen.map encL))) (slh_set (v := .d (.iptr (encP p))) (slh_set (v := .d (.iptr [encS s])) (slh_no _ _) (by rfl) rfl) (by rfl) rfl) (by rfl) rfl) (by rfl) rfl) (by rfl) rfl) (by rfl) rfl) (hlh_no _ _)⟩
        · skip
          rintro _ h0
          have h0 : (elR s seen (⟨y1, y2, y3, y4, .mk y5 y6 y7 y8 y9⟩ : El) != 0) = false := by rw [h0]; rfl
          have h0' := h0
          rw [show elR s seen (⟨y1, y2, y3, y4, .mk y5 y6 y7 y8 y9⟩ : El) = elR s seen (⟨y1, y2, y3, y4, .mk y5 y6 y7 y8 y9⟩ : El) from rfl] at h0
          refine CW_seq ?_
          refine CW_region ?_
          refine OW_run' hE.ok 3 rfl ?_
          refine OW_end rfl ?_
          refine CW_cond _ rfl (fun h8 => ?_) (fun h8 => ?_)
          · skip
            have g5 : (!y4) = true := h8
            refine CW_region ?_
            refine OW_run' hE.ok 2 rfl ?_
            refine OW_end rfl ?_
            refine CW_region ?_
            refine OW_run' hE.ok 3 rfl ?_
            refine OW_end rfl ?_
            refine ⟨⟨(i + 1, (seen ++ [(⟨y1, y2, y3, y4, .mk y5 y6 y7 y8 y9⟩ : El)])), by omega, hq.trans ((els_step he).trans (by rw [h0]; show elsR s (seenN seen (⟨y1, y2, y3, y4, .mk y5 y6 y7 y8 y9⟩ : El)) _ = _; unfold seenN; rw [g5]; rfl)), by simp; omega⟩, LE_sh (slh_set (v := .d (int ((i + 1 : Nat) : Int))) (slh_set (v := .d (.sl 11 144 ((seen ++ [(⟨y1, y2, y3, y4, .mk y5 y6 y7 y8 y9⟩ : El)]).map encL))) (slh_set (v := .d (.iptr (encP p))) (slh_set (v := .d (.iptr [encS s])) (slh_no _ _) (by rfl) rfl) (by rfl) rfl) (by rfl) rfl) (by show AV.d (.lit (.int .i64 (IntKind.i64.wrap ((i : Int) + 1)))) = _; rw [wrap_succ (by omega)]; rfl) rfl) (hlh_no _ _), by show p.els.length - (i + 1) < p.els.length - i; omega⟩
          · skip
            have g5 : (!y4) = false := h8
            refine CW_skip ?_
            refine CW_region ?_
            refine OW_run' hE.ok 3 rfl ?_
            refine OW_end rfl ?_
            refine ⟨⟨(i + 1, seen), by omega, hq.trans ((els_step he).trans (by rw [h0]; show elsR s (seenN seen (⟨y1, y2, y3, y4, .mk y5 y6 y7 y8 y9⟩ : El)) _ = _; unfold seenN; rw [g5]; rfl)), by simp; omega⟩, LE_sh (slh_set (v := .d (int ((i + 1 : Nat) : Int))) (slh_set (v := .d (.sl 11 144 (seen.map encL))) (slh_set (v := .d (.iptr (encP p))) (slh_set (v := .d (.iptr [encS s])) (slh_no _ _) (by rfl) rfl) (by rfl) rfl) (by rfl) rfl) (by show AV.d (.lit (.int .i64 (IntKind.i64.wrap ((i : Int) + 1)))) = _; rw [wrap_succ (by omega)]; rfl) rfl) (hlh_no _ _), by show p.els.length - (i + 1) < p.els.length - i; omega⟩
    · skip
      have hge : p.els.length ≤ i := by have := h2; rw [List.length_map] at this; simp at this; omega
      have hels : elsR s [] p.els = 0 := hq.trans (els_end hge)
      refine CW_exit ?_
      show CW _ _ _ _
      refine CW_seq ?_
      refine CW_seq ?_
      refine CW_region ?_
      refine OW_run' hE.ok 3 rfl ?_
      refine OW_end rfl ?_
      refine CW_cond _ rfl (fun h9 => ?_) (fun h9 => ?_)
      · skip
        have g6 : same p.byf nul = true := h9
        refine CW_seq ?_
        refine CW_region ?_
        refine OW_run' hE.ok 1 rfl ?_
        refine OW_end rfl ?_
        refine CW_ret ?_
        refine ⟨.inr rfl, rfl, ⟨[.d (int 0)], rfl, rfl, ?_⟩, rfl⟩
        rw [chk_3 g0 hels g6]
        exact AVle.refl _
      · skip
        have g6 : same p.byf nul = false := h9
        refine CW_skip ?_
        refine CW_seq ?_
        refine CW_region ?_
        refine OW_run' hE.ok 1 rfl ?_
        refine OW_end rfl ?_
        refine CW_seq ?_
        refine CW_seq ?_
        refine CW_region ?_
        refine OW_run' hE.ok 1 rfl ?_
        refine OW_end rfl ?_
        refine CW_block ?_
        refine CW_loop (σ := {i : Nat // i ≤ p.els.length ∧ ∀ k e, k < i → p.els[k]? = some e → byT s p.byf e = true}) (fun i => ⟨J, (sset (sset (sset (sset noSlots 2 (.d (.iptr [encS s]))) 3 (.d (.iptr (encP p)))) 14 (.d (int 0))) 15 (.d (int ((i.1 : Nat) : Int)))), noHeap⟩) (fun i => p.els.length - i.1) ⟨0, Nat.zero_le _, fun k e hk => by omega⟩ (LE_sh (slh_set (slh_set (slh_set (slh_set (slh_no _ _) rfl rfl) rfl rfl) rfl rfl) rfl rfl) (hlh_no _ _)) fun ⟨i, hi, hpi⟩ => ?_
        refine CW_seq ?_
        refine CW_seq ?_
        refine CW_region ?_
        refine OW_run' hE.ok 5 rfl ?_
        refine OW_end rfl ?_
        refine CW_cond _ rfl (fun h10 => ?_) (fun h10 => ?_)
        · skip
          have hlt : i < p.els.length := by have := h10; rw [List.length_map] at this; simp at this; omega
          obtain ⟨e, he⟩ : ∃ e, p.els[i]? = some e := ⟨_, List.getElem?_eq_getElem hlt⟩
          obtain ⟨y1, y2, y3, y4, y5, y6, y7, y8, y9, rfl⟩ := El.shape e
          refine CW_skip ?_
          refine CW_seq ?_
          refine CW_block ?_
          refine CW_seq ?_
          refine CW_region ?_
          refine OW_run' hE.ok 1 rfl ?_
          refine OW_end rfl ?_
          refine CW_block ?_
          refine CW_loop (σ := {j : Nat // j ≤ y2.length ∧ ∀ k t, k < j → y2[k]? = some t → byF s p.byf t = true}) (fun j => ⟨J, (sset (sset (sset (sset (sset noSlots 2 (.d (.iptr [encS s]))) 3 (.d (.iptr (encP p)))) 14 (.d (int 0))) 15 (.d (int ((i : Nat) : Int)))) 16 (.d (int ((j.1 : Nat) : Int)))), noHeap⟩) (fun j => y2.length - j.1) ⟨0, Nat.zero_le _, fun k t hk => by omega⟩ (LE_sh (slh_set (slh_set (slh_set (slh_set (slh_set (slh_no _ _) rfl rfl) rfl rfl) rfl rfl) rfl rfl) rfl rfl) (hlh_no _ _)) fun ⟨j, hj, hpj⟩ => ?_
          refine CW_seq ?_
          refine CW_seq ?_
          refine CW_region ?_
          refine OW_run' hE.ok 4 rfl ?_
          refine OW_loc' hE (loc_indexAddr hE rfl rfl rfl rfl rfl (by omega) (x := encL (⟨y1, y2, y3, y4, .mk y5 y6 y7 y8 y9⟩ : El)) (by simp [he])) rfl rfl rfl ?_
          refine OW_run' hE.ok 4 rfl ?_
          refine OW_end rfl ?_
          refine CW_cond _ rfl (fun h11 => ?_) (fun h11 => ?_)
          · skip
            refine CW_know (know_sl (d := 98) rfl) fun hlen => ?_
            simp only [List.length_map] at hlen
            have hjl : j < y2.length := by have := h11; rw [List.length_map] at this; simp at this; omega
            obtain ⟨t, ht⟩ : ∃ t, y2[j]? = some t := ⟨_, List.getElem?_eq_getElem hjl⟩
            refine CW_skip ?_
            refine CW_seq ?_
            refine CW_block ?_
            refine CW_seq ?_
            refine CW_drawn2 hE 16 14 15 3 (by decide +kernel) (V := (encT (findT s t).1).map .d) rfl rfl rfl rfl rfl rfl rfl rfl rfl (by decide +kernel) rfl rfl rfl rfl rfl ?_
            refine H2_run hE 4 rfl rfl rfl rfl rfl ?_
            refine H2_loc hE (fun b => loc_indexAddr hE rfl rfl rfl rfl rfl (by omega) (x := encL (⟨y1, y2, y3, y4, .mk y5 y6 y7 y8 y9⟩ : El)) (by simp [he])) rfl rfl rfl rfl rfl ?_
            refine H2_run hE 3 rfl rfl rfl rfl rfl ?_
            refine H2_loc hE (fun b => loc_indexAddr hE rfl rfl rfl rfl rfl (by omega) (x := encB t) (by simp [ht])) rfl rfl rfl rfl rfl ?_
            refine H2_run hE 1 rfl rfl rfl rfl rfl ?_
            refine H2_call hE (refFindOk s t) rfl rfl rfl rfl rfl rfl rfl rfl rfl ?_
            refine H2_run hE 3 rfl rfl rfl rfl rfl ?_
            refine H2_alloc rfl rfl rfl ?_
            refine H2_store rfl rfl rfl rfl rfl rfl rfl rfl ?_
            refine H2_end ?_
            refine OW_run' hE.ok 1 rfl ?_
            refine OW_end rfl ?_
            refine CW_seq ?_
            refine CW_region ?_
            refine OW_run' hE.ok 3 rfl ?_
            refine OW_call' hE (refFieldOk (findT s t).1 p.byf) rfl rfl rfl rfl rfl rfl rfl ?_
            refine OW_run' hE.ok 1 rfl ?_
            refine OW_end rfl ?_
            refine CW_cond _ rfl (fun h12 => ?_) (fun h12 => ?_)
            · skip
              have g7 : decide (fieldAt (findT s t).1 p.byf < 0) = true := h12
              refine CW_seq ?_
              refine CW_region ?_
              refine OW_run' hE.ok 1 rfl ?_
              refine OW_end rfl ?_
              refine CW_ret ?_
              refine ⟨.inr rfl, rfl, ⟨[.d (int 13)], rfl, rfl, ?_⟩, rfl⟩
              rw [chk_4 g0 hels g6, byR_bad he (byT_bad (i := j) ht (by unfold byF; rw [g7]; rfl))]
              exact AVle.refl _
            · skip
              have g7 : decide (fieldAt (findT s t).1 p.byf < 0) = false := h12
              refine CW_skip ?_
              refine CW_region ?_
              refine OW_run' hE.ok 3 rfl ?_
              refine OW_end rfl ?_
              refine ⟨⟨j + 1, by omega, fun k t' hk hk' => ?_⟩, LE_sh (slh_set (v := .d (int ((j + 1 : Nat) : Int))) (slh_set (v := .d (int ((i : Nat) : Int))) (slh_set (v := .d (int 0)) (slh_set (v := .d (.iptr (encP p))) (slh_set (v := .d (.iptr [encS s])) (slh_no _ _) (by rfl) rfl) (by rfl) rfl) (by rfl) rfl) (by rfl) rfl) (by show AV.d (.lit (.int .i64 (IntKind.i64.wrap ((j : Int) + 1)))) = _; rw [wrap_succ (by omega)]; rfl) rfl) (hlh_no _ _), by show y2.length - (j + 1) < y2.length - j; omega⟩
              by_cases hkj : k = j
              · subst hkj; rw [ht] at hk'; cases hk'; exact (by unfold byF; rw [g7]; rfl)
              · exact hpj k t' (by omega) hk'
          · skip
            have hjg : y2.length ≤ j := by have := h11; rw [List.length_map] at this; simp at this; omega
            refine CW_exit ?_
            show CW _ _ _ _
            refine CW_region ?_
            refine OW_run' hE.ok 3 rfl ?_
            refine OW_end rfl ?_
            have hbt : byT s p.byf (⟨y1, y2, y3, y4, .mk y5 y6 y7 y8 y9⟩ : El) = true := byT_all (e := (⟨y1, y2, y3, y4, .mk y5 y6 y7 y8 y9⟩ : El)) fun k t hk => hpj k t (by have : k < y2.length := (List.getElem?_eq_some_iff.1 hk).1; omega) hk
            refine ⟨⟨i + 1, by omega, fun k e' hk hk' => ?_⟩, LE_sh (slh_set (v := .d (int ((i + 1 : Nat) : Int))) (slh_set (v := .d (int 0)) (slh_set (v := .d (.iptr (encP p))) (slh_set (v := .d (.iptr [encS s])) (slh_no _ _) (by rfl) rfl) (by rfl) rfl) (by rfl) rfl) (by show AV.d (.lit (.int .i64 (IntKind.i64.wrap ((i : Int) + 1)))) = _; rw [wrap_succ (by omega)]; rfl) rfl) (hlh_no _ _), by show p.els.length - (i + 1) < p.els.length - i; omega⟩
            by_cases hki : k = i
            · subst hki; rw [he] at hk'; cases hk'; exact hbt
            · exact hpi k e' (by omega) hk'
        · skip
          have hge : p.els.length ≤ i := by have := h10; rw [List.length_map] at this; simp at this; omega
          have hall := byR_all (s := s) (p := p) fun j e hj => hpi j e (by have := (List.getElem?_eq_some_iff.1 hj).1; omega) hj
          refine CW_exit ?_
          show CW _ _ _ _
          refine CW_seq ?_
          refine CW_seq ?_
          refine CW_region ?_
          refine OW_run' hE.ok 1 rfl ?_
          refine OW_end rfl ?_
          refine CW_block ?_
          refine CW_loop (σ := {q : Nat × Int // q.1 ≤ p.els.length ∧ kinR s p.byf 0 false p.els = kinR s p.byf q.2 (decide (q.1 > 0)) (p.els.drop q.1)}) (fun q => ⟨J, (sset (sset (sset (sset noSlots 2 (.d (.iptr [encS s]))) 3 (.d (.iptr (encP p)))) 14 (.d (int q.1.2))) 19 (.d (int ((q.1.1 : Nat) : Int)))), noHeap⟩) (fun q => p.els.length - q.1.1) ⟨(0, 0), Nat.zero_le _, rfl⟩ (LE_sh (slh_set (slh_set (slh_set (slh_set (slh_no _ _) rfl rfl) rfl rfl) rfl rfl) rfl rfl) (hlh_no _ _)) fun ⟨(i, first), hi, hq⟩ => ?_
          simp only at hi hq
          refine CW_seq ?_
          refine CW_seq ?_
          refine CW_region ?_
          refine OW_run' hE.ok 5 rfl ?_
          refine OW_end rfl ?_
          refine CW_cond _ rfl (fun h13 => ?_) (fun h13 => ?_)
          · skip
            have hlt : i < p.els.length := by have := h13; rw [List.length_map] at this; simp at this; omega
            obtain ⟨e, he⟩ : ∃ e, p.els[i]? = some e := ⟨_, List.getElem?_eq_getElem hlt⟩
            obtain ⟨y1, y2, y3, y4, y5, y6, y7, y8, y9, rfl⟩ := El.shape e
            refine CW_skip ?_
            refine CW_seq ?_
            refine CW_block ?_
            refine CW_seq ?_
            refine CW_drawn' hE 13 (by decide +kernel) ?_
            refine HW_run hE 4 rfl rfl ?_
            refine HW_loc hE (loc_indexAddr hE rfl rfl rfl rfl rfl (by omega) (x := encL (⟨y1, y2, y3, y4, .mk y5 y6 y7 y8 y9⟩ : El)) (by simp [he])) rfl rfl rfl rfl ?_
            refine HW_run hE 3 rfl rfl ?_
            refine HW_call hE (refFkOk s (⟨y1, y2, y3, y4, .mk y5 y6 y7 y8 y9⟩ : El) p.byf) rfl rfl rfl rfl rfl rfl rfl rfl ?_
            refine HW_run hE 4 rfl rfl ?_
            refine HW_end ?_
            refine OW_run' hE.ok 1 rfl ?_
            refine OW_end rfl ?_
            refine CW_seq ?_
            refine CW_seq ?_
            refine CW_region ?_
            refine OW_run' hE.ok 3 rfl ?_
            refine OW_split' 143 rfl (fun h14 => ?_) (fun h14 => ?_)
            · skip
              have g8 : ((fkR s y2 p.byf).2 != 0) = true := h14
              refine OW_run' hE.ok 8 rfl ?_
              refine OW_end rfl ?_
              refine CW_true rfl ?_
              refine CW_seq ?_
              refine CW_region ?_
              refine OW_run' hE.ok 1 rfl ?_
              refine OW_end rfl ?_
              refine CW_ret ?_
              refine ⟨.inr rfl, rfl, ⟨[.d (int 14)], rfl, rfl, ?_⟩, rfl⟩
              rw [chk_4 g0 hels g6, hall, hq, kin_step he, g8]
              exact AVle.refl _
            · skip
              have g8 : ((fkR s y2 p.byf).2 != 0) = false := h14
              refine OW_run' hE.ok 3 rfl ?_
              refine OW_split' 146 rfl (fun h15 => ?_) (fun h15 => ?_)
              · skip
                have gi : decide (i > 0) = true := by have h0 : decide (((i : Nat) : Int) > 0) = true := h15; simp at h0 ⊢; omega
                refine OW_run' hE.ok 5 rfl ?_
                refine OW_end rfl ?_
                refine CW_cond _ rfl (fun h16 => ?_) (fun h16 => ?_)
                · skip
                  have g9 : ((fkR s y2 p.byf).1 != first) = true := h16
                  refine CW_seq ?_
                  refine CW_region ?_
                  refine OW_run' hE.ok 1 rfl ?_
                  refine OW_end rfl ?_
                  refine CW_ret ?_
                  refine ⟨.inr rfl, rfl, ⟨[.d (int 14)], rfl, rfl, ?_⟩, rfl⟩
                  rw [chk_4 g0 hels g6, hall, hq, kin_step he, g8, gi, g9]
                  exact AVle.refl _
                · skip
                  have g9 : ((fkR s y2 p.byf).1 != first) = false := h16
                  refine CW_skip ?_
                  refine CW_region ?_
                  refine OW_run' hE.ok 2 rfl ?_
                  refine OW_end rfl ?_
                  refine CW_region ?_
                  refine OW_run' hE.ok 3 rfl ?_
                  refine OW_end rfl ?_
                  refine ⟨⟨(i + 1, (fkR s y2 p.byf).1), by omega, hq.trans ((kin_step he).trans (by rw [g8, gi, g9]; rfl))⟩, LE_sh (slh_set (v := .d (int ((i + 1 : Nat) : Int))) (slh_set (v := .d (int (fkR s y2 p.byf).1)) (slh_set (v := .d (.iptr (encP p))) (slh_set (v := .d (.iptr [encS s])) (slh_no _ _) (by rfl) rfl) (by rfl) rfl) (by rfl) rfl) (by show AV.d (.lit (.int .i64 (IntKind.i64.wrap ((i : Int) + 1)))) = _; rw [wrap_succ (by omega)]; rfl) rfl) (hlh_no _ _), by show p.els.length - (i + 1) < p.els.length - i; omega⟩
              · skip
                have gi : decide (i > 0) = false := by have h0 : decide (((i : Nat) : Int) > 0) = false := h15; simp at h0 ⊢; omega
                refine OW_run' hE.ok 5 rfl ?_
                refine OW_end rfl ?_
                refine CW_false rfl ?_
                refine CW_skip ?_
                refine CW_region ?_
                refine OW_run' hE.ok 2 rfl ?_
                refine OW_end rfl ?_
                refine CW_region ?_
                refine OW_run' hE.ok 3 rfl ?_
                refine OW_end rfl ?_
                refine ⟨⟨(i + 1, (fkR s y2 p.byf).1), by omega, hq.trans ((kin_step he).trans (by rw [g8, gi]; rfl))⟩, LE_sh (slh_set (v := .d (int ((i + 1 : Nat) : Int))) (slh_set (v := .d (int (fkR s y2 p.byf).1)) (slh_set (v := .d (.iptr (encP p))) (slh_set (v := .d (.iptr [encS s])) (slh_no _ _) (by rfl) rfl) (by rfl) rfl) (by rfl) rfl) (by show AV.d (.lit (.int .i64 (IntKind.i64.wrap ((i : Int) + 1)))) = _; rw [wrap_succ (by omega)]; rfl) rfl) (hlh_no _ _), by show p.els.length - (i + 1) < p.els.length - i; omega⟩
          · skip
            have hge : p.els.length ≤ i := by have := h13; rw [List.length_map] at this; simp at this; omega
            refine CW_exit ?_
            show CW _ _ _ _
            refine CW_seq ?_
            refine CW_region ?_
            refine OW_run' hE.ok 1 rfl ?_
            refine OW_end rfl ?_
            refine CW_ret ?_
            refine ⟨.inr rfl, rfl, ⟨[.d (int 0)], rfl, rfl, ?_⟩, rfl⟩
            rw [chk_4 g0 hels g6, hall, hq, kin_end hge]
            exact AVle.refl _
end Go.Proofs.Ytojnicnbmgiplaa
