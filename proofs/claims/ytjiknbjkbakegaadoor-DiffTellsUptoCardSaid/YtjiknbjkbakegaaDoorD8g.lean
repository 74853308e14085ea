/- Parts of an abstract logic over the kit's walks, and walks in it: D8g. -/
import Derived.Test.YtjiknbjkbakegaaDoorD8d
namespace Go.Proofs.YtjiknbjkbakegaaDoor
open Go Go.AL
set_option linter.unusedVariables false
set_option linter.unusedSimpArgs false
set_option maxHeartbeats 4000000
theorem refNormStep (op : Int) (v : Vl) (al fi : ByteArray) (ks : List Exp) (hw : arX (.mk op v al fi ks) = true) (ih : ∀ k ∈ ks, Does Tryd.prog 33 [argX k] noHeap (argX (normX k))) : Does Tryd.prog 33 [argX (.mk op v al fi ks)] noHeap (argX (normX (.mk op v al fi ks))) := by
  refine Does_of T_ok mixed (N := 84) Tryd.func33 rfl rfl rfl (by rfl) fun F n Z hE hF J => ?_
  refine CW_seq ?_
  refine CW_region ?_
  refine OW_run' hE.ok 1 rfl ?_
  refine OW_alloc' hE 1 rfl rfl rfl rfl rfl rfl rfl ?_
  refine OW_end rfl ?_
  refine CW_seq ?_
  refine CW_region ?_
  refine OW_run' hE.ok 8 rfl ?_
  refine OW_build' hE rfl rfl rfl rfl rfl ?_
  refine OW_alloc' hE 2 rfl rfl rfl rfl rfl rfl rfl ?_
  refine OW_store' hE rfl rfl rfl rfl rfl rfl rfl rfl rfl rfl rfl rfl ?_
  refine OW_end rfl ?_
  refine CW_seq ?_
  refine CW_seq ?_
  refine CW_region ?_
  refine OW_run' hE.ok 1 rfl ?_
  refine OW_end rfl ?_
  refine CW_block ?_
  rw [hset_hset]
  refine CW.le (LE_nilCell 2 50 6 41 7 rfl rfl rfl) ?_
  refine CW_loop (σ := {i : Nat // i ≤ ks.length}) (fun i => ⟨J, (sset (sset (sset (sset noSlots 1 (.d (.iptr (encX (.mk op v al fi ks))))) 2 (.ptr 1 0)) 3 (.ptr 2 0)) 4 (.d (int ((i.1 : Nat) : Int)))), (hset (hset (hset noHeap 1 (some (.box 41 [.d (int 0), .d (int 0), .d (int 0), .d (str nul), .d (str nul), .d (str nul), .d (.lit (.slice none 0 0))]))) 2 (some (.box 41 [.d (int op), .d (int v.k), .d (int v.n), .d (str v.s), .d (str al), .d (str fi), .row 50]))) 50 (some (.row 41 7 (encXs (normXs (ks.take i.1))))))⟩) (fun i => ks.length - i.1) ⟨0, Nat.zero_le _⟩ (LE_sh (slh_set (slh_set (slh_set (slh_set (slh_no _ _) rfl rfl) rfl rfl) rfl rfl) rfl rfl) (hlh_set (hlh_set (hlh_set (hlh_no _ _) rfl rfl) rfl rfl) rfl rfl)) fun ⟨i, hi⟩ => ?_
  refine CW_seq ?_
  refine CW_seq ?_
  refine CW_region ?_
  refine OW_run' hE.ok 5 rfl ?_
  refine OW_end rfl ?_
  refine CW_cond _ rfl (fun h1 => ?_) (fun h1 => ?_)
  · skip
    refine CW_know (know_sl (d := 17) rfl) fun hlen => ?_
    rw [encXs_length] at hlen
    have hlt : i < ks.length := by have := h1; simp [encXs_length] at this; omega
    obtain ⟨k, hk⟩ : ∃ k, ks[i]? = some k := ⟨_, List.getElem?_eq_getElem hlt⟩
    have hI := ih k (List.mem_of_getElem? hk)
    obtain ⟨o3, v3, a3, f3, k3, hN⟩ := Exp.shape (normX k)
    rw [hN] at hI
    obtain ⟨o1, v1, a1, f1, k1, rfl⟩ := Exp.shape k
    refine CW_skip ?_
    refine CW_seq ?_
    refine CW_block ?_
    refine CW_drawn' hE 9 (by decide +kernel) ?_
    refine HW_run hE 5 rfl rfl ?_
    refine HW_loc hE (loc_indexAddr hE rfl rfl rfl rfl rfl (by omega) (x := encX (.mk o1 v1 a1 f1 k1)) (encXs_get hk)) rfl rfl rfl rfl ?_
    refine HW_run hE 1 rfl rfl ?_
    refine HW_call hE (hI) rfl rfl rfl rfl rfl rfl rfl rfl ?_
    refine HW_loc hE (loc_lits hE (t := 39) (len := 1) (parts := #[(0, .tmp 29)]) rfl rfl rfl rfl rfl rfl rfl rfl (xs := [encX (.mk o3 v3 a3 f3 k3)]) rfl) rfl rfl rfl rfl ?_
    refine HW_end ?_
    refine OW_append' hE (key := 50) rfl rfl rfl rfl rfl rfl rfl rfl (.inl rfl) (by simp [encXs_length, normXs_len]; omega) (by simp [encXs_length, normXs_len]; omega) rfl ?_
    refine OW_run' hE.ok 1 rfl ?_
    refine OW_store' hE rfl rfl rfl rfl rfl rfl rfl rfl rfl rfl rfl rfl ?_
    refine OW_end rfl ?_
    refine CW_region ?_
    refine OW_run' hE.ok 3 rfl ?_
    refine OW_end rfl ?_
    exact ⟨⟨i + 1, by omega⟩, LE_sh (slh_set (v := .d (int ((i + 1 : Nat) : Int))) (slh_set (v := .ptr 2 0) (slh_set (v := .ptr 1 0) (slh_set (v := .d (.iptr (encX (.mk op v al fi ks)))) (slh_no _ _) (by rfl) rfl) (by rfl) rfl) (by rfl) rfl) (by show AV.d (.lit (.int .i64 (IntKind.i64.wrap ((i : Int) + 1)))) = _; rw [wrap_succ (by omega)]; rfl) rfl) (hlh_set (hlh_set (hlh_set (hlh_no _ _) rfl rfl) rfl rfl) (congrArg (fun z => some (Ent.row 41 7 z)) (by rw [normXs_snoc hk, hN, encXs_eq, encXs_eq, List.map_append]; rfl)) rfl), by show ks.length - (i + 1) < ks.length - i; omega⟩
  · skip
    refine CW_know (know_sl (d := 17) rfl) fun hlen => ?_
    rw [encXs_length] at hlen
    have hge : ks.length ≤ i := by have := h1; simp [encXs_length] at this; omega
    refine CW_exit ?_
    show CW _ _ _ _
    refine CW_seq ?_
    refine CW_seq ?_
    refine CW.le (LE_freeze 50 96 rfl (by rw [List.take_of_length_le hge]; simp [encXs_length, normXs_len]; omega)) ?_
    refine CW.le (show LE _ _ ⟨J, (sset (sset noSlots 2 (.ptr 1 0)) 3 (.ptr 2 0)), (hset (hset noHeap 1 (some (.box 41 [.d (int 0), .d (int 0), .d (int 0), .d (str nul), .d (str nul), .d (str nul), .d (.lit (.slice none 0 0))]))) 2 (some (.box 41 [.d (int op), .d (int v.k), .d (int v.n), .d (str v.s), .d (str al), .d (str fi), .d (.sl 7 96 (encXs (normXs ks)))])))⟩ from LE_sh (slh_set (v := .ptr 2 0) (slh_set (v := .ptr 1 0) (slh_no _ _) (by rfl) rfl) (by rfl) rfl) (hlh_set (hlh_set (hlh_no _ _) rfl rfl) (congrArg (fun z => some (Ent.box 41 [.d (int op), .d (int v.k), .d (int v.n), .d (str v.s), .d (str al), .d (str fi), .d (.sl 7 96 (encXs (normXs z)))])) (List.take_of_length_le hge)) rfl)) ?_
    refine CW_region ?_
    refine OW_run' hE.ok 3 rfl ?_
    refine OW_end rfl ?_
    refine CW_cond _ rfl (fun h2 => ?_) (fun h2 => ?_)
    · skip
      have g1 : (op == 12) = false := by have := h2; revert this; show (!(op == 12)) = true → _; cases (op == 12) <;> simp
      refine CW_seq ?_
      refine CW_region ?_
      refine OW_run' hE.ok 1 rfl ?_
      refine OW_store' hE rfl rfl rfl rfl rfl rfl rfl rfl rfl rfl rfl rfl ?_
      refine OW_end rfl ?_
      refine CW_ret ?_
      refine ⟨.inr rfl, rfl, ⟨_, rfl, rfl, ?_⟩, rfl⟩
      rw [show normX (.mk op v al fi ks) = .mk op v al fi (normXs ks) by unfold normX turnX; rw [g1]; rfl]
      exact AVle.refl _
    · skip
      have e12 : op = 12 := by have := h2; simpa using this
      subst e12
      obtain ⟨y, hy⟩ := len1 (ks := normXs ks) (by rw [normXs_len]; have := ar_len hw; rwa [kids12] at this)
      have hwy : arX y = true := ars_norm ks (fun k hk => ar_mem hw hk) y (by rw [hy]; simp)
      obtain ⟨o1, v1, a1, f1, k1, rfl⟩ := Exp.shape y
      have hl1 := ar_len hwy
      refine CW_skip ?_
      refine CW_seq ?_
      refine CW_region ?_
      refine OW_run' hE.ok 2 rfl ?_
      refine OW_loc' hE (loc_indexAddr hE rfl rfl rfl rfl rfl (by omega) (x := encX (.mk o1 v1 a1 f1 k1)) (by rw [hy]; rfl)) rfl rfl rfl ?_
      refine OW_run' hE.ok 1 rfl ?_
      refine OW_alloc' hE 3 rfl rfl rfl rfl rfl rfl rfl ?_
      refine OW_store' hE rfl rfl rfl rfl rfl rfl rfl rfl rfl rfl rfl rfl ?_
      refine OW_end rfl ?_
      refine CW_seq ?_
      refine CW_seq ?_
      refine CW_region ?_
      refine OW_run' hE.ok 2 rfl ?_
      refine OW_end rfl ?_
      refine CW_block ?_
      refine CW_seq ?_
      refine CW_region ?_
      refine OW_run' hE.ok 2 rfl ?_
      refine OW_end rfl ?_
      refine CW_cond _ rfl (fun h3 => ?_) (fun h3 => ?_)
      · skip
        have g2 : (o1 == 12) = true := h3
        have eo : o1 = 12 := by simpa using g2
        subst eo
        rw [kids12] at hl1
        obtain ⟨zz, rfl⟩ := len1 hl1
        obtain ⟨o4, v4, a4, f4, k4, rfl⟩ := Exp.shape zz
        refine CW_seq ?_
        refine CW_region ?_
        refine OW_run' hE.ok 2 rfl ?_
        refine OW_loc' hE (loc_indexAddr hE rfl rfl rfl rfl rfl (by omega) (x := encX (.mk o4 v4 a4 f4 k4)) rfl) rfl rfl rfl ?_
        refine OW_run' hE.ok 1 rfl ?_
        refine OW_store' hE rfl rfl rfl rfl rfl rfl rfl rfl rfl rfl rfl rfl ?_
        refine OW_end rfl ?_
        refine CW_ret ?_
        refine ⟨.inr rfl, rfl, ⟨_, rfl, rfl, ?_⟩, rfl⟩
        rw [show normX (.mk 12 v al fi ks) = (.mk o4 v4 a4 f4 k4) by unfold normX turnX; rw [hy]; rfl]
        exact AVle.refl _
      · skip
        have g2 : (o1 == 12) = false := h3
        refine CW_seq ?_
        refine CW_region ?_
        refine OW_run' hE.ok 2 rfl ?_
        refine OW_end rfl ?_
        refine CW_cond _ rfl (fun h4 => ?_) (fun h4 => ?_)
        · skip
          have g3 : (o1 == 6) = true := h4
          refine CW_seq ?_
          refine CW_region ?_
          refine OW_run' hE.ok 2 rfl ?_
          refine OW_build' hE rfl rfl rfl rfl rfl ?_
          refine OW_store' hE rfl rfl rfl rfl rfl rfl rfl rfl rfl rfl rfl rfl ?_
          refine OW_end rfl ?_
          refine CW_ret ?_
          refine ⟨.inr rfl, rfl, ⟨_, rfl, rfl, ?_⟩, rfl⟩
          rw [show normX (.mk 12 v al fi ks) = (.mk 7 zV nul nul k1) by unfold normX turnX; rw [hy]; show (bif o1 == 12 then _ else bif o1 == 6 then _ else bif o1 == 7 then _ else bif o1 == 8 then _ else bif o1 == 9 then _ else _) = _; rw [g2, g3]; rfl]
          exact AVle.refl _
        · skip
          have g3 : (o1 == 6) = false := h4
          refine CW_seq ?_
          refine CW_region ?_
          refine OW_run' hE.ok 2 rfl ?_
          refine OW_end rfl ?_
          refine CW_cond _ rfl (fun h5 => ?_) (fun h5 => ?_)
          · skip
            have g4 : (o1 == 7) = true := h5
            refine CW_seq ?_
            refine CW_region ?_
            refine OW_run' hE.ok 2 rfl ?_
            refine OW_build' hE rfl rfl rfl rfl rfl ?_
            refine OW_store' hE rfl rfl rfl rfl rfl rfl rfl rfl rfl rfl rfl rfl ?_
            refine OW_end rfl ?_
            refine CW_ret ?_
            refine ⟨.inr rfl, rfl, ⟨_, rfl, rfl, ?_⟩, rfl⟩
            rw [show normX (.mk 12 v al fi ks) = (.mk 6 zV nul nul k1) by unfold normX turnX; rw [hy]; show (bif o1 == 12 then _ else bif o1 == 6 then _ else bif o1 == 7 then _ else bif o1 == 8 then _ else bif o1 == 9 then _ else _) = _; rw [g2, g3, g4]; rfl]
            exact AVle.refl _
          · skip
            have g4 : (o1 == 7) = false := h5
            refine CW_seq ?_
            refine CW_region ?_
            refine OW_run' hE.ok 2 rfl ?_
            refine OW_end rfl ?_
            refine CW_cond _ rfl (fun h6 => ?_) (fun h6 => ?_)
            · skip
              have g5 : (o1 == 8) = true := h6
              have eo : o1 = 8 := by simpa using g5
              subst eo
              rw [kids8] at hl1
              obtain ⟨pp, qq, rfl⟩ := len2 hl1
              obtain ⟨o4, v4, a4, f4, k4, rfl⟩ := Exp.shape pp
              obtain ⟨o5, v5, a5, f5, k5, rfl⟩ := Exp.shape qq
              refine CW_seq ?_
              refine CW_drawn' hE 8 (by decide +kernel) ?_
              refine HW_run hE 2 rfl rfl ?_
              refine HW_loc hE (loc_indexAddr hE rfl rfl rfl rfl rfl (by omega) (x := encX (.mk o5 v5 a5 f5 k5)) rfl) rfl rfl rfl rfl ?_
              refine HW_run hE 3 rfl rfl ?_
              refine HW_loc hE (loc_indexAddr hE rfl rfl rfl rfl rfl (by omega) (x := encX (.mk o4 v4 a4 f4 k4)) rfl) rfl rfl rfl rfl ?_
              refine HW_run hE 1 rfl rfl ?_
              refine HW_end ?_
              refine OW_lits' hE rfl rfl rfl rfl rfl rfl rfl rfl rfl rfl rfl rfl ?_
              refine OW_build' hE rfl rfl rfl rfl rfl ?_
              refine OW_store' hE rfl rfl rfl rfl rfl rfl rfl rfl rfl rfl rfl rfl ?_
              refine OW_end rfl ?_
              refine CW_ret ?_
              refine ⟨.inr rfl, rfl, ⟨_, rfl, rfl, ?_⟩, rfl⟩
              rw [show normX (.mk 12 v al fi ks) = (.mk 9 zV nul nul [(.mk o5 v5 a5 f5 k5), (.mk o4 v4 a4 f4 k4)]) by unfold normX turnX; rw [hy]; rfl]
              exact AVle.refl _
            · skip
              have g5 : (o1 == 8) = false := h6
              refine CW_seq ?_
              refine CW_region ?_
              refine OW_run' hE.ok 2 rfl ?_
              refine OW_end rfl ?_
              refine CW_cond _ rfl (fun h7 => ?_) (fun h7 => ?_)
              · skip
                have g6 : (o1 == 9) = true := h7
                have eo : o1 = 9 := by simpa using g6
                subst eo
                rw [kids9] at hl1
                obtain ⟨pp, qq, rfl⟩ := len2 hl1
                obtain ⟨o4, v4, a4, f4, k4, rfl⟩ := Exp.shape pp
                obtain ⟨o5, v5, a5, f5, k5, rfl⟩ := Exp.shape qq
                refine CW_seq ?_
                refine CW_drawn' hE 8 (by decide +kernel) ?_
                refine HW_run hE 2 rfl rfl ?_
                refine HW_loc hE (loc_indexAddr hE rfl rfl rfl rfl rfl (by omega) (x := encX (.mk o5 v5 a5 f5 k5)) rfl) rfl rfl rfl rfl ?_
                refine HW_run hE 3 rfl rfl ?_
                refine HW_loc hE (loc_indexAddr hE rfl rfl rfl rfl rfl (by omega) (x := encX (.mk o4 v4 a4 f4 k4)) rfl) rfl rfl rfl rfl ?_
                refine HW_run hE 1 rfl rfl ?_
                refine HW_end ?_
                refine OW_lits' hE rfl rfl rfl rfl rfl rfl rfl rfl rfl rfl rfl rfl ?_
                refine OW_build' hE rfl rfl rfl rfl rfl ?_
                refine OW_store' hE rfl rfl rfl rfl rfl rfl rfl rfl rfl rfl rfl rfl ?_
                refine OW_end rfl ?_
                refine CW_ret ?_
                refine ⟨.inr rfl, rfl, ⟨_, rfl, rfl, ?_⟩, rfl⟩
                rw [show normX (.mk 12 v al fi ks) = (.mk 8 zV nul nul [(.mk o5 v5 a5 f5 k5), (.mk o4 v4 a4 f4 k4)]) by unfold normX turnX; rw [hy]; rfl]
                exact AVle.refl _
              · skip
                have g6 : (o1 == 9) = false := h7
                refine CW_skip ?_
                refine CW_seq ?_
                refine CW_region ?_
                refine OW_run' hE.ok 1 rfl ?_
                refine OW_store' hE rfl rfl rfl rfl rfl rfl rfl rfl rfl rfl rfl rfl ?_
                refine OW_end rfl ?_
                refine CW_ret ?_
                refine ⟨.inr rfl, rfl, ⟨_, rfl, rfl, ?_⟩, rfl⟩
                rw [show normX (.mk 12 v al fi ks) = .mk 12 v al fi (normXs ks) by unfold normX turnX; rw [show (normXs ks).headD zeroX = (.mk o1 v1 a1 f1 k1) by rw [hy]; rfl]; show (bif o1 == 12 then _ else bif o1 == 6 then _ else bif o1 == 7 then _ else bif o1 == 8 then _ else bif o1 == 9 then _ else _) = _; rw [g2, g3, g4, g5, g6]; rfl]
                exact AVle.refl _

theorem refNormAll : ∀ (n : Nat) (x : Exp), SizeOf.sizeOf x < n → arX x = true → Does Tryd.prog 33 [argX x] noHeap (argX (normX x))
  | 0, x, h => by omega
  | n + 1, .mk op v al fi ks, h => fun hw => refNormStep op v al fi ks hw fun k hk => refNormAll n k (by have := List.sizeOf_lt_of_mem hk; simp at h; omega) (ar_mem hw hk)

theorem refNormEOk (x : Exp) : Does Tryd.prog 19 [argX x] noHeap (argX (normE x)) := by
  refine Does_of T_ok mixed (N := 9) Tryd.func19 rfl rfl rfl (by rfl) fun F n Z hE hF J => ?_
  have q := fun h => refNormAll _ x (Nat.lt_succ_self _) (isX_ar h)
  have q2 := refIsXOk x
  have hn : normE x = bif isX x then normX x else x := rfl
  obtain ⟨o3, v3, a3, f3, k3, hN⟩ := Exp.shape (normX x)
  rw [hN] at q hn
  obtain ⟨o1, v1, a1, f1, k1, rfl⟩ := Exp.shape x
  refine CW_seq ?_
  refine CW_region ?_
  refine OW_run' hE.ok 1 rfl ?_
  refine OW_alloc' hE 1 rfl rfl rfl rfl rfl rfl rfl ?_
  refine OW_end rfl ?_
  refine CW_seq ?_
  refine CW_seq ?_
  refine CW_region ?_
  refine OW_run' hE.ok 1 rfl ?_
  refine OW_call' hE (q2) rfl rfl rfl rfl rfl rfl rfl ?_
  refine OW_run' hE.ok 1 rfl ?_
  refine OW_end rfl ?_
  refine CW_cond _ rfl (fun h1 => ?_) (fun h1 => ?_)
  · skip
    have g1 : isX (.mk o1 v1 a1 f1 k1) = false := by simpa using h1
    refine CW_seq ?_
    refine CW_region ?_
    refine OW_run' hE.ok 1 rfl ?_
    refine OW_store' hE rfl rfl rfl rfl rfl rfl rfl rfl rfl rfl rfl rfl ?_
    refine OW_end rfl ?_
    refine CW_ret ?_
    refine ⟨.inr rfl, rfl, ⟨_, rfl, rfl, ?_⟩, rfl⟩
    rw [hn, g1]
    exact AVle.refl _
  · skip
    have g1 : isX (.mk o1 v1 a1 f1 k1) = true := by simpa using h1
    refine CW_skip ?_
    refine CW_seq ?_
    refine CW_region ?_
    refine OW_run' hE.ok 1 rfl ?_
    refine OW_call' hE (q g1) rfl rfl rfl rfl rfl rfl rfl ?_
    refine OW_store' hE rfl rfl rfl rfl rfl rfl rfl rfl rfl rfl rfl rfl ?_
    refine OW_end rfl ?_
    refine CW_ret ?_
    refine ⟨.inr rfl, rfl, ⟨_, rfl, rfl, ?_⟩, rfl⟩
    rw [hn, g1]
    exact AVle.refl _
end Go.Proofs.YtjiknbjkbakegaaDoor
