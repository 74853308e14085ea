/- Parts of an abstract logic over the kit's walks, and walks in it: D8rd. -/
import Derived.Test.YtjiknbjkbakegaaDoorD8e
import Derived.Test.YtjiknbjkbakegaaDoorD8i
import Derived.Test.YtjiknbjkbakegaaDoorDif2
import Derived.Test.YtjiknbjkbakegaaDoorAf
namespace Go.Proofs.YtjiknbjkbakegaaDoor
open Go Go.AL
set_option linter.unusedVariables false
set_option linter.unusedSimpArgs false
set_option maxHeartbeats 4000000
theorem refDiffOk (p q : Pat) (hl : p.els.length ≤ 1000) (hlq : q.els.length ≤ 1000) : Does Tryd.prog 10 [argP p, argP q] noHeap (.d (.sl 2 16 ((difX (normP p) (normP q)).map encDl))) := by
  refine Does_of T_ok mixed (N := 123) Tryd.func10 rfl rfl rfl (by rfl) fun F n Z hE hF J => ?_
  have c1 := refNormPOk p hl
  have c2 := refNormPOk q hlq
  have hlP : (normP p).els.length ≤ 1000 := by simpa [normP] using hl
  obtain ⟨P, hP⟩ : ∃ z, normP p = z := ⟨_, rfl⟩
  obtain ⟨Q, hQ⟩ : ∃ z, normP q = z := ⟨_, rfl⟩
  rw [hP] at c1 hlP
  rw [hQ] at c2
  rw [hP, hQ]
  clear hP hQ
  have l1 := whenD_few (!(P.within == Q.within)) ⟨1, 0⟩
  have l2 := whenD_few (!same P.byf Q.byf) ⟨2, 0⟩
  refine CW_seq ?_
  refine CW_region ?_
  refine OW_run' hE.ok 3 rfl ?_
  refine OW_end rfl ?_
  refine CW_seq ?_
  refine CW_drawnG hE 6 [(4, 61, .box 24 [.d (.lit (.slice none 0 0)), .d (int 0), .d (str nul), .d (boo false)]), (5, 62, .box 24 [.d (.lit (.slice none 0 0)), .d (int 0), .d (str nul), .d (boo false)])] (by decide +kernel) rfl ?_
  refine HG_run hE 1 rfl rfl rfl rfl ?_
  refine HG_call hE (c1) rfl rfl rfl rfl rfl rfl rfl rfl rfl ?_
  refine HG_run hE 1 rfl rfl rfl rfl ?_
  refine HG_call hE (c2) rfl rfl rfl rfl rfl rfl rfl rfl rfl ?_
  refine HG_alloc hE rfl rfl rfl rfl rfl rfl rfl rfl ?_
  refine HG_alloc hE rfl rfl rfl rfl rfl rfl rfl rfl ?_
  refine HG_end ?_
  refine OW_store' hE rfl rfl rfl rfl rfl rfl rfl rfl rfl rfl rfl rfl ?_
  refine OW_store' hE rfl rfl rfl rfl rfl rfl rfl rfl rfl rfl rfl rfl ?_
  refine OW_end rfl ?_
  refine CW_seq ?_
  refine CW_region ?_
  refine OW_run' hE.ok 1 rfl ?_
  refine OW.le (LE_nilSlot 7 50 26 2 rfl rfl) ?_
  refine OW_end rfl ?_
  refine CW_cutE (fun _ : Unit => ⟨J, (sset (sset (sset noSlots 5 (.ptr 61 0)) 6 (.ptr 62 0)) 7 (.row 50)), (hset (hset (hset noHeap 61 (some (.box 24 ((encP P).map .d)))) 62 (some (.box 24 ((encP Q).map .d)))) 50 (some (.row 26 2 (((([] : List Dl) ++ whenD (!(P.within == Q.within)) ⟨1, 0⟩)).map encDl))))⟩) (fun _ => True) ?_ ?_
  · skip
    refine CW_seq ?_
    refine CW_region ?_
    refine OW_run' hE.ok 5 rfl ?_
    refine OW_end rfl ?_
    refine CW_cond _ rfl (fun h1 => ?_) (fun h1 => ?_)
    · skip
      have g1 : (!(P.within == Q.within)) = true := h1
      refine CW_region ?_
      refine OW_run' hE.ok 1 rfl ?_
      refine OW_build' hE rfl rfl rfl rfl rfl ?_
      refine OW_lits' hE rfl rfl rfl rfl rfl rfl rfl rfl rfl rfl rfl rfl ?_
      refine OW_append' hE (key := 50) rfl rfl rfl rfl rfl rfl rfl rfl (.inl rfl) (by simp <;> omega) (by simp <;> omega) rfl ?_
      refine OW_run' hE.ok 1 rfl ?_
      refine OW_end rfl ?_
      exact ⟨(), trivial, LE_sh (slh_set (slh_set (slh_set (slh_no _ _) rfl rfl) rfl rfl) rfl rfl) (hlh_set (hlh_set (hlh_set (hlh_no _ _) rfl rfl) rfl rfl) (congrArg (fun z => some (Ent.row 26 2 z)) (apD_t (l := ([] : List Dl)) (d := ⟨1, 0⟩) g1)) rfl)⟩
    · skip
      have g1 : (!(P.within == Q.within)) = false := h1
      refine CW_skip ?_
      exact ⟨(), trivial, LE_sh (slh_set (slh_set (slh_set (slh_no _ _) rfl rfl) rfl rfl) rfl rfl) (hlh_set (hlh_set (hlh_set (hlh_no _ _) rfl rfl) rfl rfl) (congrArg (fun z => some (Ent.row 26 2 z)) (apD_f (l := ([] : List Dl)) (d := ⟨1, 0⟩) g1)) rfl)⟩
  · skip
    rintro _ _
    refine CW_cutE (fun _ : Unit => ⟨J, (sset (sset (sset noSlots 5 (.ptr 61 0)) 6 (.ptr 62 0)) 7 (.row 50)), (hset (hset (hset noHeap 61 (some (.box 24 ((encP P).map .d)))) 62 (some (.box 24 ((encP Q).map .d)))) 50 (some (.row 26 2 ((((([] : List Dl) ++ whenD (!(P.within == Q.within)) ⟨1, 0⟩) ++ whenD (!same P.byf Q.byf) ⟨2, 0⟩)).map encDl))))⟩) (fun _ => True) ?_ ?_
    · skip
      refine CW_seq ?_
      refine CW_region ?_
      refine OW_run' hE.ok 5 rfl ?_
      refine OW_end rfl ?_
      refine CW_cond _ rfl (fun h2 => ?_) (fun h2 => ?_)
      · skip
        have g2 : (!same P.byf Q.byf) = true := h2
        refine CW_region ?_
        refine OW_run' hE.ok 1 rfl ?_
        refine OW_build' hE rfl rfl rfl rfl rfl ?_
        refine OW_lits' hE rfl rfl rfl rfl rfl rfl rfl rfl rfl rfl rfl rfl ?_
        refine OW_append' hE (key := 50) rfl rfl rfl rfl rfl rfl rfl rfl (.inl rfl) (by simp <;> omega) (by simp <;> omega) rfl ?_
        refine OW_run' hE.ok 1 rfl ?_
        refine OW_end rfl ?_
        exact ⟨(), trivial, LE_sh (slh_set (slh_set (slh_set (slh_no _ _) rfl rfl) rfl rfl) rfl rfl) (hlh_set (hlh_set (hlh_set (hlh_no _ _) rfl rfl) rfl rfl) (congrArg (fun z => some (Ent.row 26 2 z)) (apD_t (l := (([] : List Dl) ++ whenD (!(P.within == Q.within)) ⟨1, 0⟩)) (d := ⟨2, 0⟩) g2)) rfl)⟩
      · skip
        have g2 : (!same P.byf Q.byf) = false := h2
        refine CW_skip ?_
        exact ⟨(), trivial, LE_sh (slh_set (slh_set (slh_set (slh_no _ _) rfl rfl) rfl rfl) rfl rfl) (hlh_set (hlh_set (hlh_set (hlh_no _ _) rfl rfl) rfl rfl) (congrArg (fun z => some (Ent.row 26 2 z)) (apD_f (l := (([] : List Dl) ++ whenD (!(P.within == Q.within)) ⟨1, 0⟩)) (d := ⟨2, 0⟩) g2)) rfl)⟩
    · skip
      rintro _ _
      refine CW_cutE (fun _ : Unit => ⟨J, (sset (sset (sset noSlots 5 (.ptr 61 0)) 6 (.ptr 62 0)) 7 (.row 50)), (hset (hset (hset noHeap 61 (some (.box 24 ((encP P).map .d)))) 62 (some (.box 24 ((encP Q).map .d)))) 50 (some (.row 26 2 (((((([] : List Dl) ++ whenD (!(P.within == Q.within)) ⟨1, 0⟩) ++ whenD (!same P.byf Q.byf) ⟨2, 0⟩) ++ whenD (!(P.any == Q.any)) ⟨3, 0⟩)).map encDl))))⟩) (fun _ => True) ?_ ?_
      · skip
        refine CW_seq ?_
        refine CW_region ?_
        refine OW_run' hE.ok 5 rfl ?_
        refine OW_end rfl ?_
        refine CW_cond _ rfl (fun h3 => ?_) (fun h3 => ?_)
        · skip
          have g3 : (!(P.any == Q.any)) = true := h3
          refine CW_region ?_
          refine OW_run' hE.ok 1 rfl ?_
          refine OW_build' hE rfl rfl rfl rfl rfl ?_
          refine OW_lits' hE rfl rfl rfl rfl rfl rfl rfl rfl rfl rfl rfl rfl ?_
          refine OW_append' hE (key := 50) rfl rfl rfl rfl rfl rfl rfl rfl (.inl rfl) (by simp <;> omega) (by simp <;> omega) rfl ?_
          refine OW_run' hE.ok 1 rfl ?_
          refine OW_end rfl ?_
          exact ⟨(), trivial, LE_sh (slh_set (slh_set (slh_set (slh_no _ _) rfl rfl) rfl rfl) rfl rfl) (hlh_set (hlh_set (hlh_set (hlh_no _ _) rfl rfl) rfl rfl) (congrArg (fun z => some (Ent.row 26 2 z)) (apD_t (l := ((([] : List Dl) ++ whenD (!(P.within == Q.within)) ⟨1, 0⟩) ++ whenD (!same P.byf Q.byf) ⟨2, 0⟩)) (d := ⟨3, 0⟩) g3)) rfl)⟩
        · skip
          have g3 : (!(P.any == Q.any)) = false := h3
          refine CW_skip ?_
          exact ⟨(), trivial, LE_sh (slh_set (slh_set (slh_set (slh_no _ _) rfl rfl) rfl rfl) rfl rfl) (hlh_set (hlh_set (hlh_set (hlh_no _ _) rfl rfl) rfl rfl) (congrArg (fun z => some (Ent.row 26 2 z)) (apD_f (l := ((([] : List Dl) ++ whenD (!(P.within == Q.within)) ⟨1, 0⟩) ++ whenD (!same P.byf Q.byf) ⟨2, 0⟩)) (d := ⟨3, 0⟩) g3)) rfl)⟩
      · skip
        rintro _ _
        have hh : (((([] : List Dl) ++ whenD (!(P.within == Q.within)) ⟨1, 0⟩) ++ whenD (!same P.byf Q.byf) ⟨2, 0⟩) ++ whenD (!(P.any == Q.any)) ⟨3, 0⟩) = difH P Q := by unfold difH; simp [List.append_assoc]
        rw [hh]
        have n1 := difH_few P Q
        refine CW_seq ?_
        refine CW_seq ?_
        refine CW_region ?_
        refine OW_run' hE.ok 7 rfl ?_
        refine OW_end rfl ?_
        refine CW_cond _ rfl (fun h4 => ?_) (fun h4 => ?_)
        · skip
          have hne : (P.els.length == Q.els.length) = false := by have := h4; simp at this; simp; omega
          refine CW_seq ?_
          refine CW_region ?_
          refine OW_run' hE.ok 1 rfl ?_
          refine OW_build' hE rfl rfl rfl rfl rfl ?_
          refine OW_lits' hE rfl rfl rfl rfl rfl rfl rfl rfl rfl rfl rfl rfl ?_
          refine OW_append' hE (key := 50) rfl rfl rfl rfl rfl rfl rfl rfl (.inl rfl) (by simp <;> omega) (by simp <;> omega) rfl ?_
          refine OW_run' hE.ok 1 rfl ?_
          refine OW.le (LE_freeze 50 16 rfl (by simp; omega)) ?_
          refine OW_end rfl ?_
          refine CW_ret ?_
          refine ⟨.inr rfl, rfl, ⟨_, rfl, rfl, ?_⟩, rfl⟩
          refine AVle.of ?_
          unfold difX; rw [hne]; simp; rfl
        · skip
          have heq : (P.els.length == Q.els.length) = true := by have := h4; simp at this; simp; omega
          have heq2 : P.els.length = Q.els.length := by simpa using heq
          refine CW_skip ?_
          refine CW_seq ?_
          refine CW_seq ?_
          refine CW_region ?_
          refine OW_run' hE.ok 1 rfl ?_
          refine OW_end rfl ?_
          refine CW_block ?_
          refine CW_loop (σ := {i : Nat // i ≤ P.els.length}) (fun i => ⟨J, (sset (sset (sset (sset noSlots 5 (.ptr 61 0)) 6 (.ptr 62 0)) 7 (.row 50)) 8 (.d (int ((i.1 : Nat) : Int)))), (hset (hset (hset noHeap 61 (some (.box 24 ((encP P).map .d)))) 62 (some (.box 24 ((encP Q).map .d)))) 50 (some (.row 26 2 ((difH P Q ++ difs P.els Q.els i.1).map encDl))))⟩) (fun i => P.els.length - i.1) ⟨0, Nat.zero_le _⟩ (LE_sh (slh_set (slh_set (slh_set (slh_set (slh_no _ _) rfl rfl) rfl rfl) rfl rfl) rfl rfl) (hlh_set (hlh_set (hlh_set (hlh_no _ _) rfl rfl) rfl rfl) (congrArg (fun z : List Dl => some (Ent.row 26 2 (z.map encDl))) (by simp [difs])) rfl)) fun ⟨i, hi⟩ => ?_
          refine CW_seq ?_
          refine CW_seq ?_
          refine CW_region ?_
          refine OW_run' hE.ok 5 rfl ?_
          refine OW_end rfl ?_
          refine CW_cond _ rfl (fun h5 => ?_) (fun h5 => ?_)
          · skip
            have hlt : i < P.els.length := by have := h5; simp at this; omega
            obtain ⟨a, ha⟩ : ∃ a, P.els[i]? = some a := ⟨_, List.getElem?_eq_getElem hlt⟩
            obtain ⟨b, hb⟩ : ∃ b, Q.els[i]? = some b := ⟨_, List.getElem?_eq_getElem (by omega)⟩
            obtain ⟨y1, y2, y3, y4, y5, y6, y7, y8, y9, rfl⟩ := El.shape a
            obtain ⟨z1, z2, z3, z4, z5, z6, z7, z8, z9, rfl⟩ := El.shape b
            have n1 := difH_few P Q
            have n2 := difs_few P.els Q.els i
            have l5 := whenD_few (!same y1 z1) ⟨5, (i : Int)⟩
            have l6 := whenD_few (!allSame same y2 z2) ⟨6, (i : Int)⟩
            have l7 := whenD_few (!(y3 == z3)) ⟨7, (i : Int)⟩
            have l8 := whenD_few (!(y4 == z4)) ⟨8, (i : Int)⟩
            refine CW_skip ?_
            refine CW_cutE (fun _ : Unit => ⟨J, (sset (sset (sset (sset (sset (sset noSlots 5 (.ptr 61 0)) 6 (.ptr 62 0)) 7 (.row 50)) 8 (.d (int ((i : Nat) : Int)))) 9 (.ptr 63 0)) 10 (.ptr 64 0)), (hset (hset (hset (hset (hset noHeap 61 (some (.box 24 ((encP P).map .d)))) 62 (some (.box 24 ((encP Q).map .d)))) 50 (some (.row 26 2 ((((((((difH P Q ++ difs P.els Q.els i) ++ whenD (!same y1 z1) ⟨5, (i : Int)⟩) ++ whenD (!allSame same y2 z2) ⟨6, (i : Int)⟩) ++ whenD (!(y3 == z3)) ⟨7, (i : Int)⟩) ++ whenD (!(y4 == z4)) ⟨8, (i : Int)⟩) ++ whenD (!sameX (.mk y5 y6 y7 y8 y9) (.mk z5 z6 z7 z8 z9)) ⟨9, (i : Int)⟩)).map encDl)))) 63 (some (.box 43 ((encL ⟨y1, y2, y3, y4, .mk y5 y6 y7 y8 y9⟩).map .d)))) 64 (some (.box 43 ((encL ⟨z1, z2, z3, z4, .mk z5 z6 z7 z8 z9⟩).map .d))))⟩) (fun _ => True) ?_ ?_
            · skip
              refine CW_block ?_
              refine CW_seq ?_
              refine CW_drawnU hE 13 [(10, 63, .box 43 [.d (str nul), .d (.lit (.slice none 0 0)), .d (boo false), .d (boo false), .d (int 0), .d (int 0), .d (int 0), .d (str nul), .d (str nul), .d (str nul), .d (.lit (.slice none 0 0))]), (11, 64, .box 43 [.d (str nul), .d (.lit (.slice none 0 0)), .d (boo false), .d (boo false), .d (int 0), .d (int 0), .d (int 0), .d (str nul), .d (str nul), .d (str nul), .d (.lit (.slice none 0 0))])] ⟨10, 12, 63, .box 43 [.d (str nul), .d (.lit (.slice none 0 0)), .d (boo false), .d (boo false), .d (int 0), .d (int 0), .d (int 0), .d (str nul), .d (str nul), .d (str nul), .d (.lit (.slice none 0 0))], .box 43 ((encL ⟨y1, y2, y3, y4, .mk y5 y6 y7 y8 y9⟩).map .d)⟩ (by decide +kernel) rfl (List.mem_cons_self ..) rfl rfl (by kernel_rfl) ?_
              refine HU_run hE 3 rfl rfl rfl rfl rfl rfl ?_
              refine HU_loc hE (fun b => loc_indexAddr hE rfl rfl rfl rfl rfl (by omega) (x := encL ⟨y1, y2, y3, y4, .mk y5 y6 y7 y8 y9⟩) (by simp [ha])) rfl rfl rfl rfl rfl rfl ?_
              refine HU_run hE 4 rfl rfl rfl rfl rfl rfl ?_
              refine HU_loc hE (fun b => loc_indexAddr hE rfl rfl rfl rfl rfl (by omega) (x := encL ⟨z1, z2, z3, z4, .mk z5 z6 z7 z8 z9⟩) (by simp [hb])) rfl rfl rfl rfl rfl rfl ?_
              refine HU_run hE 1 rfl rfl rfl rfl rfl rfl ?_
              refine HU_alloc hE rfl rfl rfl rfl rfl rfl rfl rfl rfl ?_
              refine HU_alloc hE rfl rfl rfl rfl rfl rfl rfl rfl rfl ?_
              refine HU_store hE rfl rfl rfl rfl rfl rfl rfl rfl rfl rfl rfl rfl rfl rfl rfl ?_
              refine HU_end ?_
              refine OW_store' hE rfl rfl rfl rfl rfl rfl rfl rfl rfl rfl rfl rfl ?_
              refine OW_end rfl ?_
              refine CW_cutE (fun _ : Unit => ⟨J, (sset (sset (sset (sset (sset (sset noSlots 5 (.ptr 61 0)) 6 (.ptr 62 0)) 7 (.row 50)) 8 (.d (int ((i : Nat) : Int)))) 9 (.ptr 63 0)) 10 (.ptr 64 0)), (hset (hset (hset (hset (hset noHeap 61 (some (.box 24 ((encP P).map .d)))) 62 (some (.box 24 ((encP Q).map .d)))) 50 (some (.row 26 2 ((((difH P Q ++ difs P.els Q.els i) ++ whenD (!same y1 z1) ⟨5, (i : Int)⟩)).map encDl)))) 63 (some (.box 43 ((encL ⟨y1, y2, y3, y4, .mk y5 y6 y7 y8 y9⟩).map .d)))) 64 (some (.box 43 ((encL ⟨z1, z2, z3, z4, .mk z5 z6 z7 z8 z9⟩).map .d))))⟩) (fun _ => True) ?_ ?_
              · skip
                refine CW_seq ?_
                refine CW_region ?_
                refine OW_run' hE.ok 5 rfl ?_
                refine OW_end rfl ?_
                refine CW_cond _ rfl (fun h6 => ?_) (fun h6 => ?_)
                · skip
                  have k1 : (!same y1 z1) = true := h6
                  refine CW_region ?_
                  refine OW_run' hE.ok 2 rfl ?_
                  refine OW_build' hE rfl rfl rfl rfl rfl ?_
                  refine OW_lits' hE rfl rfl rfl rfl rfl rfl rfl rfl rfl rfl rfl rfl ?_
                  refine OW_append' hE (key := 50) rfl rfl rfl rfl rfl rfl rfl rfl (.inl rfl) (by simp <;> omega) (by simp <;> omega) rfl ?_
                  refine OW_run' hE.ok 1 rfl ?_
                  refine OW_end rfl ?_
                  exact ⟨(), trivial, LE_sh (slh_set (slh_set (slh_set (slh_set (slh_set (slh_set (slh_no _ _) rfl rfl) rfl rfl) rfl rfl) rfl rfl) rfl rfl) rfl rfl) (hlh_set (hlh_set (hlh_set (hlh_set (hlh_set (hlh_no _ _) rfl rfl) rfl rfl) (congrArg (fun z => some (Ent.row 26 2 z)) (apD_t (l := (difH P Q ++ difs P.els Q.els i)) (d := ⟨5, (i : Int)⟩) k1)) rfl) rfl rfl) rfl rfl)⟩
                · skip
                  have k1 : (!same y1 z1) = false := h6
                  refine CW_skip ?_
                  exact ⟨(), trivial, LE_sh (slh_set (slh_set (slh_set (slh_set (slh_set (slh_set (slh_no _ _) rfl rfl) rfl rfl) rfl rfl) rfl rfl) rfl rfl) rfl rfl) (hlh_set (hlh_set (hlh_set (hlh_set (hlh_set (hlh_no _ _) rfl rfl) rfl rfl) (congrArg (fun z => some (Ent.row 26 2 z)) (apD_f (l := (difH P Q ++ difs P.els Q.els i)) (d := ⟨5, (i : Int)⟩) k1)) rfl) rfl rfl) rfl rfl)⟩
              · skip
                rintro _ _
                refine CW_cutE (fun _ : Unit => ⟨J, (sset (sset (sset (sset (sset (sset noSlots 5 (.ptr 61 0)) 6 (.ptr 62 0)) 7 (.row 50)) 8 (.d (int ((i : Nat) : Int)))) 9 (.ptr 63 0)) 10 (.ptr 64 0)), (hset (hset (hset (hset (hset noHeap 61 (some (.box 24 ((encP P).map .d)))) 62 (some (.box 24 ((encP Q).map .d)))) 50 (some (.row 26 2 (((((difH P Q ++ difs P.els Q.els i) ++ whenD (!same y1 z1) ⟨5, (i : Int)⟩) ++ whenD (!allSame same y2 z2) ⟨6, (i : Int)⟩)).map encDl)))) 63 (some (.box 43 ((encL ⟨y1, y2, y3, y4, .mk y5 y6 y7 y8 y9⟩).map .d)))) 64 (some (.box 43 ((encL ⟨z1, z2, z3, z4, .mk z5 z6 z7 z8 z9⟩).map .d))))⟩) (fun _ => True) ?_ ?_
                · skip
                  refine CW_seq ?_
                  refine CW_region ?_
                  refine OW_run' hE.ok 4 rfl ?_
                  refine OW_call' hE (sameTextsOk y2 z2) rfl rfl rfl rfl rfl rfl rfl ?_
                  refine OW_run' hE.ok 1 rfl ?_
                  refine OW_end rfl ?_
                  refine CW_cond _ rfl (fun h7 => ?_) (fun h7 => ?_)
                  · skip
                    have k2 : (!allSame same y2 z2) = true := h7
                    refine CW_region ?_
                    refine OW_run' hE.ok 2 rfl ?_
                    refine OW_build' hE rfl rfl rfl rfl rfl ?_
                    refine OW_lits' hE rfl rfl rfl rfl rfl rfl rfl rfl rfl rfl rfl rfl ?_
                    refine OW_append' hE (key := 50) rfl rfl rfl rfl rfl rfl rfl rfl (.inl rfl) (by simp <;> omega) (by simp <;> omega) rfl ?_
                    refine OW_run' hE.ok 1 rfl ?_
                    refine OW_end rfl ?_
                    exact ⟨(), trivial, LE_sh (slh_set (slh_set (slh_set (slh_set (slh_set (slh_set (slh_no _ _) rfl rfl) rfl rfl) rfl rfl) rfl rfl) rfl rfl) rfl rfl) (hlh_set (hlh_set (hlh_set (hlh_set (hlh_set (hlh_no _ _) rfl rfl) rfl rfl) (congrArg (fun z => some (Ent.row 26 2 z)) (apD_t (l := ((difH P Q ++ difs P.els Q.els i) ++ whenD (!same y1 z1) ⟨5, (i : Int)⟩)) (d := ⟨6, (i : Int)⟩) k2)) rfl) rfl rfl) rfl rfl)⟩
                  · skip
                    have k2 : (!allSame same y2 z2) = false := h7
                    refine CW_skip ?_
                    exact ⟨(), trivial, LE_sh (slh_set (slh_set (slh_set (slh_set (slh_set (slh_set (slh_no _ _) rfl rfl) rfl rfl) rfl rfl) rfl rfl) rfl rfl) rfl rfl) (hlh_set (hlh_set (hlh_set (hlh_set (hlh_set (hlh_no _ _) rfl rfl) rfl rfl) (congrArg (fun z => some (Ent.row 26 2 z)) (apD_f (l := ((difH P Q ++ difs P.els Q.els i) ++ whenD (!same y1 z1) ⟨5, (i : Int)⟩)) (d := ⟨6, (i : Int)⟩) k2)) rfl) rfl rfl) rfl rfl)⟩
                · skip
                  rintro _ _
                  refine CW_cutE (fun _ : Unit => ⟨J, (sset (sset (sset (sset (sset (sset noSlots 5 (.ptr 61 0)) 6 (.ptr 62 0)) 7 (.row 50)) 8 (.d (int ((i : Nat) : Int)))) 9 (.ptr 63 0)) 10 (.ptr 64 0)), (hset (hset (hset (hset (hset noHeap 61 (some (.box 24 ((encP P).map .d)))) 62 (some (.box 24 ((encP Q).map .d)))) 50 (some (.row 26 2 ((((((difH P Q ++ difs P.els Q.els i) ++ whenD (!same y1 z1) ⟨5, (i : Int)⟩) ++ whenD (!allSame same y2 z2) ⟨6, (i : Int)⟩) ++ whenD (!(y3 == z3)) ⟨7, (i : Int)⟩)).map encDl)))) 63 (some (.box 43 ((encL ⟨y1, y2, y3, y4, .mk y5 y6 y7 y8 y9⟩).map .d)))) 64 (some (.box 43 ((encL ⟨z1, z2, z3, z4, .mk z5 z6 z7 z8 z9⟩).map .d))))⟩) (fun _ => True) ?_ ?_
                  · skip
                    refine CW_seq ?_
                    refine CW_region ?_
                    refine OW_run' hE.ok 5 rfl ?_
                    refine OW_end rfl ?_
                    refine CW_cond _ rfl (fun h8 => ?_) (fun h8 => ?_)
                    · skip
                      have k3 : (!(y3 == z3)) = true := h8
                      refine CW_region ?_
                      refine OW_run' hE.ok 2 rfl ?_
                      refine OW_build' hE rfl rfl rfl rfl rfl ?_
                      refine OW_lits' hE rfl rfl rfl rfl rfl rfl rfl rfl rfl rfl rfl rfl ?_
                      refine OW_append' hE (key := 50) rfl rfl rfl rfl rfl rfl rfl rfl (.inl rfl) (by simp <;> omega) (by simp <;> omega) rfl ?_
                      refine OW_run' hE.ok 1 rfl ?_
                      refine OW_end rfl ?_
                      exact ⟨(), trivial, LE_sh (slh_set (slh_set (slh_set (slh_set (slh_set (slh_set (slh_no _ _) rfl rfl) rfl rfl) rfl rfl) rfl rfl) rfl rfl) rfl rfl) (hlh_set (hlh_set (hlh_set (hlh_set (hlh_set (hlh_no _ _) rfl rfl) rfl rfl) (congrArg (fun z => some (Ent.row 26 2 z)) (apD_t (l := (((difH P Q ++ difs P.els Q.els i) ++ whenD (!same y1 z1) ⟨5, (i : Int)⟩) ++ whenD (!allSame same y2 z2) ⟨6, (i : Int)⟩)) (d := ⟨7, (i : Int)⟩) k3)) rfl) rfl rfl) rfl rfl)⟩
                    · skip
                      have k3 : (!(y3 == z3)) = false := h8
                      refine CW_skip ?_
                      exact ⟨(), trivial, LE_sh (slh_set (slh_set (slh_set (slh_set (slh_set (slh_set (slh_no _ _) rfl rfl) rfl rfl) rfl rfl) rfl rfl) rfl rfl) rfl rfl) (hlh_set (hlh_set (hlh_set (hlh_set (hlh_set (hlh_no _ _) rfl rfl) rfl rfl) (congrArg (fun z => some (Ent.row 26 2 z)) (apD_f (l := (((difH P Q ++ difs P.els Q.els i) ++ whenD (!same y1 z1) ⟨5, (i : Int)⟩) ++ whenD (!allSame same y2 z2) ⟨6, (i : Int)⟩)) (d := ⟨7, (i : Int)⟩) k3)) rfl) rfl rfl) rfl rfl)⟩
                  · skip
                    rintro _ _
                    refine CW_cutE (fun _ : Unit => ⟨J, (sset (sset (sset (sset (sset (sset noSlots 5 (.ptr 61 0)) 6 (.ptr 62 0)) 7 (.row 50)) 8 (.d (int ((i : Nat) : Int)))) 9 (.ptr 63 0)) 10 (.ptr 64 0)), (hset (hset (hset (hset (hset noHeap 61 (some (.box 24 ((encP P).map .d)))) 62 (some (.box 24 ((encP Q).map .d)))) 50 (some (.row 26 2 (((((((difH P Q ++ difs P.els Q.els i) ++ whenD (!same y1 z1) ⟨5, (i : Int)⟩) ++ whenD (!allSame same y2 z2) ⟨6, (i : Int)⟩) ++ whenD (!(y3 == z3)) ⟨7, (i : Int)⟩) ++ whenD (!(y4 == z4)) ⟨8, (i : Int)⟩)).map encDl)))) 63 (some (.box 43 ((encL ⟨y1, y2, y3, y4, .mk y5 y6 y7 y8 y9⟩).map .d)))) 64 (some (.box 43 ((encL ⟨z1, z2, z3, z4, .mk z5 z6 z7 z8 z9⟩).map .d))))⟩) (fun _ => True) ?_ ?_
                    · skip
                      refine CW_seq ?_
                      refine CW_region ?_
                      refine OW_run' hE.ok 5 rfl ?_
                      refine OW_end rfl ?_
                      refine CW_cond _ rfl (fun h9 => ?_) (fun h9 => ?_)
                      · skip
                        have k4 : (!(y4 == z4)) = true := h9
                        refine CW_region ?_
                        refine OW_run' hE.ok 2 rfl ?_
                        refine OW_build' hE rfl rfl rfl rfl rfl ?_
                        refine OW_lits' hE rfl rfl rfl rfl rfl rfl rfl rfl rfl rfl rfl rfl ?_
                        refine OW_append' hE (key := 50) rfl rfl rfl rfl rfl rfl rfl rfl (.inl rfl) (by simp <;> omega) (by simp <;> omega) rfl ?_
                        refine OW_run' hE.ok 1 rfl ?_
                        refine OW_end rfl ?_
                        exact ⟨(), trivial, LE_sh (slh_set (slh_set (slh_set (slh_set (slh_set (slh_set (slh_no _ _) rfl rfl) rfl rfl) rfl rfl) rfl rfl) rfl rfl) rfl rfl) (hlh_set (hlh_set (hlh_set (hlh_set (hlh_set (hlh_no _ _) rfl rfl) rfl rfl) (congrArg (fun z => some (Ent.row 26 2 z)) (apD_t (l := ((((difH P Q ++ difs P.els Q.els i) ++ whenD (!same y1 z1) ⟨5, (i : Int)⟩) ++ whenD (!allSame same y2 z2) ⟨6, (i : Int)⟩) ++ whenD (!(y3 == z3)) ⟨7, (i : Int)⟩)) (d := ⟨8, (i : Int)⟩) k4)) rfl) rfl rfl) rfl rfl)⟩
                      · skip
                        have k4 : (!(y4 == z4)) = false := h9
                        refine CW_skip ?_
                        exact ⟨(), trivial, LE_sh (slh_set (slh_set (slh_set (slh_set (slh_set (slh_set (slh_no _ _) rfl rfl) rfl rfl) rfl rfl) rfl rfl) rfl rfl) rfl rfl) (hlh_set (hlh_set (hlh_set (hlh_set (hlh_set (hlh_no _ _) rfl rfl) rfl rfl) (congrArg (fun z => some (Ent.row 26 2 z)) (apD_f (l := ((((difH P Q ++ difs P.els Q.els i) ++ whenD (!same y1 z1) ⟨5, (i : Int)⟩) ++ whenD (!allSame same y2 z2) ⟨6, (i : Int)⟩) ++ whenD (!(y3 == z3)) ⟨7, (i : Int)⟩)) (d := ⟨8, (i : Int)⟩) k4)) rfl) rfl rfl) rfl rfl)⟩
                    · skip
                      rintro _ _
                      refine CW_seq ?_
                      refine CW_region ?_
                      refine OW_run' hE.ok 4 rfl ?_
                      refine OW_call' hE (refSameXOk (.mk y5 y6 y7 y8 y9) (.mk z5 z6 z7 z8 z9)) rfl rfl rfl rfl rfl rfl rfl ?_
                      refine OW_run' hE.ok 1 rfl ?_
                      refine OW_end rfl ?_
                      refine CW_cond _ rfl (fun h10 => ?_) (fun h10 => ?_)
                      · skip
                        have k5 : (!sameX (.mk y5 y6 y7 y8 y9) (.mk z5 z6 z7 z8 z9)) = true := h10
                        refine CW_region ?_
                        refine OW_run' hE.ok 2 rfl ?_
                        refine OW_build' hE rfl rfl rfl rfl rfl ?_
                        refine OW_lits' hE rfl rfl rfl rfl rfl rfl rfl rfl rfl rfl rfl rfl ?_
                        refine OW_append' hE (key := 50) rfl rfl rfl rfl rfl rfl rfl rfl (.inl rfl) (by simp <;> omega) (by simp <;> omega) rfl ?_
                        refine OW_run' hE.ok 1 rfl ?_
                        refine OW_end rfl ?_
                        exact ⟨(), trivial, LE_sh (slh_set (slh_set (slh_set (slh_set (slh_set (slh_set (slh_no _ _) rfl rfl) rfl rfl) rfl rfl) rfl rfl) rfl rfl) rfl rfl) (hlh_set (hlh_set (hlh_set (hlh_set (hlh_set (hlh_no _ _) rfl rfl) rfl rfl) (congrArg (fun z => some (Ent.row 26 2 z)) (apD_t (l := (((((difH P Q ++ difs P.els Q.els i) ++ whenD (!same y1 z1) ⟨5, (i : Int)⟩) ++ whenD (!allSame same y2 z2) ⟨6, (i : Int)⟩) ++ whenD (!(y3 == z3)) ⟨7, (i : Int)⟩) ++ whenD (!(y4 == z4)) ⟨8, (i : Int)⟩)) (d := ⟨9, (i : Int)⟩) k5)) rfl) rfl rfl) rfl rfl)⟩
                      · skip
                        have k5 : (!sameX (.mk y5 y6 y7 y8 y9) (.mk z5 z6 z7 z8 z9)) = false := h10
                        refine CW_skip ?_
                        exact ⟨(), trivial, LE_sh (slh_set (slh_set (slh_set (slh_set (slh_set (slh_set (slh_no _ _) rfl rfl) rfl rfl) rfl rfl) rfl rfl) rfl rfl) rfl rfl) (hlh_set (hlh_set (hlh_set (hlh_set (hlh_set (hlh_no _ _) rfl rfl) rfl rfl) (congrArg (fun z => some (Ent.row 26 2 z)) (apD_f (l := (((((difH P Q ++ difs P.els Q.els i) ++ whenD (!same y1 z1) ⟨5, (i : Int)⟩) ++ whenD (!allSame same y2 z2) ⟨6, (i : Int)⟩) ++ whenD (!(y3 == z3)) ⟨7, (i : Int)⟩) ++ whenD (!(y4 == z4)) ⟨8, (i : Int)⟩)) (d := ⟨9, (i : Int)⟩) k5)) rfl) rfl rfl) rfl rfl)⟩
            · skip
              rintro _ _
              have hh : ((((((difH P Q ++ difs P.els Q.els i) ++ whenD (!same y1 z1) ⟨5, (i : Int)⟩) ++ whenD (!allSame same y2 z2) ⟨6, (i : Int)⟩) ++ whenD (!(y3 == z3)) ⟨7, (i : Int)⟩) ++ whenD (!(y4 == z4)) ⟨8, (i : Int)⟩) ++ whenD (!sameX (.mk y5 y6 y7 y8 y9) (.mk z5 z6 z7 z8 z9)) ⟨9, (i : Int)⟩) = difH P Q ++ difs P.els Q.els (i + 1) := by rw [difs_succ, difAt_some ha hb, difL_eq]; simp only [List.append_assoc]
              rw [hh]
              refine CW_region ?_
              refine OW_run' hE.ok 3 rfl ?_
              refine OW_end rfl ?_
              exact ⟨⟨i + 1, by omega⟩, LE_sh (slh_set (v := .d (int ((i + 1 : Nat) : Int))) (slh_set (v := .row 50) (slh_set (v := .ptr 62 0) (slh_set (v := .ptr 61 0) (slh_no _ _) (by rfl) rfl) (by rfl) rfl) (by rfl) rfl) (by show AV.d (.lit (.int .i64 (IntKind.i64.wrap ((i : Int) + 1)))) = _; rw [wrap_succ (by omega)]; rfl) rfl) (hlh_set (hlh_set (hlh_set (hlh_no _ _) rfl rfl) rfl rfl) rfl rfl), by show P.els.length - (i + 1) < P.els.length - i; omega⟩
          · skip
            have hge : P.els.length ≤ i := by have := h5; simp at this; omega
            obtain rfl : i = P.els.length := by omega
            refine CW_exit ?_
            show CW _ _ _ _
            refine CW_seq ?_
            refine CW_region ?_
            refine OW_run' hE.ok 2 rfl ?_
            have n1 := difH_few P Q; have n2 := difs_few P.els Q.els P.els.length
            refine OW.le (LE_freeze 50 16 rfl (by simp; omega)) ?_
            refine OW_end rfl ?_
            refine CW_ret ?_
            refine ⟨.inr rfl, rfl, ⟨_, rfl, rfl, ?_⟩, rfl⟩
            refine AVle.of ?_
            unfold difX; rw [heq]; rfl
end Go.Proofs.YtjiknbjkbakegaaDoor
