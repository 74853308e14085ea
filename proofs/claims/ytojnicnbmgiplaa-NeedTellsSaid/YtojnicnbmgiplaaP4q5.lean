/- Parts of an abstract logic over the kit's walks, and walks in it: P4q5. -/
import Derived.Test.YtojnicnbmgiplaaPxf
namespace Go.Proofs.Ytojnicnbmgiplaa
open Go Go.AL
set_option linter.unusedVariables false
set_option linter.unusedSimpArgs false
set_option maxHeartbeats 4000000
theorem refIsPatOk (p : Pat) : Does Try.prog 39 [argP p] noHeap (.d (boo (isPat p))) := by
  refine Does_of T_ok mixed (N := 144) Try.func39 rfl rfl rfl (by rfl) fun F n Z hE hF J => ?_
  refine CW_seq ?_
  refine CW_region ?_
  refine OW_run' hE.ok 2 rfl ?_
  refine OW_end rfl ?_
  refine CW_seq ?_
  refine CW_region ?_
  refine OW_run' hE.ok 4 rfl ?_
  refine OW_as' 3 (.d (int ((p.els.length : Nat) : Int))) (by show AV.d (.lit (.int .i64 (((p.els.map encL).length : Nat) : Int))) = _; rw [List.length_map]; rfl) ?_
  refine OW_end rfl ?_
  refine CW_cutE (fun _ : Unit => ⟨J, (sset (sset noSlots 1 (.d (.iptr (encP p)))) 3 (.d (int ((p.els.length : Nat) : Int)))), noHeap⟩) (fun _ => headP p = true ∧ p.els.length ≤ 5) ?_ ?_
  · skip
    refine CW_seq ?_
    refine CW_region ?_
    refine OW_run' hE.ok 3 rfl ?_
    refine OW_split' 12 rfl (fun h1 => ?_) (fun h1 => ?_)
    · skip
      have g1 : decide ((p.els.length : Int) < 1) = true := h1
      refine OW_run' hE.ok 40 rfl ?_
      refine OW_end rfl ?_
      refine CW_true rfl ?_
      refine CW_seq ?_
      refine CW_region ?_
      refine OW_run' hE.ok 1 rfl ?_
      refine OW_end rfl ?_
      refine CW_ret ?_
      refine ⟨.inr rfl, rfl, ⟨_, rfl, rfl, ?_⟩, rfl⟩
      exact AVle.of (congrArg (fun b => AV.d (boo b)) (by unfold isPat headP; rw [g1]; simp))
    · skip
      have g1 : decide ((p.els.length : Int) < 1) = false := h1
      refine OW_run' hE.ok 4 rfl ?_
      refine OW_split' 16 rfl (fun h2 => ?_) (fun h2 => ?_)
      · skip
        have g2 : decide ((p.els.length : Int) > 5) = true := h2
        refine OW_run' hE.ok 36 rfl ?_
        refine OW_end rfl ?_
        refine CW_true rfl ?_
        refine CW_seq ?_
        refine CW_region ?_
        refine OW_run' hE.ok 1 rfl ?_
        refine OW_end rfl ?_
        refine CW_ret ?_
        refine ⟨.inr rfl, rfl, ⟨_, rfl, rfl, ?_⟩, rfl⟩
        exact AVle.of (congrArg (fun b => AV.d (boo b)) (by unfold isPat headP; rw [g2]; simp))
      · skip
        have g2 : decide ((p.els.length : Int) > 5) = false := h2
        refine OW_run' hE.ok 5 rfl ?_
        refine OW_split' 21 rfl (fun h3 => ?_) (fun h3 => ?_)
        · skip
          have g3 : decide (p.within < 0) = true := h3
          refine OW_run' hE.ok 31 rfl ?_
          refine OW_end rfl ?_
          refine CW_true rfl ?_
          refine CW_seq ?_
          refine CW_region ?_
          refine OW_run' hE.ok 1 rfl ?_
          refine OW_end rfl ?_
          refine CW_ret ?_
          refine ⟨.inr rfl, rfl, ⟨_, rfl, rfl, ?_⟩, rfl⟩
          exact AVle.of (congrArg (fun b => AV.d (boo b)) (by unfold isPat headP; rw [g3]; simp))
        · skip
          have g3 : decide (p.within < 0) = false := h3
          refine OW_run' hE.ok 5 rfl ?_
          refine OW_split' 26 rfl (fun h4 => ?_) (fun h4 => ?_)
          · skip
            have g4 : decide (p.within > 1000) = true := h4
            refine OW_run' hE.ok 26 rfl ?_
            refine OW_end rfl ?_
            refine CW_true rfl ?_
            refine CW_seq ?_
            refine CW_region ?_
            refine OW_run' hE.ok 1 rfl ?_
            refine OW_end rfl ?_
            refine CW_ret ?_
            refine ⟨.inr rfl, rfl, ⟨_, rfl, rfl, ?_⟩, rfl⟩
            exact AVle.of (congrArg (fun b => AV.d (boo b)) (by unfold isPat headP; rw [g4]; simp))
          · skip
            have g4 : decide (p.within > 1000) = false := h4
            refine OW.le (show LE _ _ ⟨J, (sset (sset (sset noSlots 1 (.d (.iptr (encP p)))) 3 (.d (int ((p.els.length : Nat) : Int)))) 26 (.d (boo false))), noHeap⟩ from LE_sh (slh_set (slh_set (slh_set (slh_no _ _) rfl rfl) rfl rfl) rfl rfl) (hlh_no _ _)) ?_
            refine OW_run' hE.ok 4 rfl ?_
            refine OW_split' 30 rfl (fun h5 => ?_) (fun h5 => ?_)
            · skip
              have g5 : same p.byf nul = false := by have := h5; revert this; show (!(same p.byf nul)) = true → _; cases same p.byf nul <;> simp
              refine OW_run' hE.ok 2 rfl ?_
              refine OW_call' hE (refNameOk _) rfl rfl rfl rfl rfl rfl rfl ?_
              refine OW_run' hE.ok 4 rfl ?_
              refine OW_split' 37 rfl (fun h6 => ?_) (fun h6 => ?_)
              · skip
                have g6 : isName p.byf = false := by simpa using h6
                refine OW_run' hE.ok 15 rfl ?_
                refine OW_end rfl ?_
                refine CW_true rfl ?_
                refine CW_seq ?_
                refine CW_region ?_
                refine OW_run' hE.ok 1 rfl ?_
                refine OW_end rfl ?_
                refine CW_ret ?_
                refine ⟨.inr rfl, rfl, ⟨_, rfl, rfl, ?_⟩, rfl⟩
                exact AVle.of (congrArg (fun b => AV.d (boo b)) (by unfold isPat headP; rw [g5, g6]; simp))
              · skip
                have g6 : (!same p.byf nul && !isName p.byf) = false := by rw [g5, show isName p.byf = true by simpa using h6]; rfl
                have hn1 : 1 ≤ p.els.length := by simp at g1; omega
                have hn5 : p.els.length ≤ 5 := by simp at g2; omega
                obtain ⟨e0, he0⟩ : ∃ e, p.els[0]? = some e := ⟨_, List.getElem?_eq_getElem (by omega)⟩
                obtain ⟨e1, he1⟩ : ∃ e, p.els[p.els.length - 1]? = some e := ⟨_, List.getElem?_eq_getElem (by omega)⟩
                have n0 := negAt_of he0
                have n1 := negAt_of he1
                refine OW_run' hE.ok 2 rfl ?_
                refine OW_loc' hE (loc_indexAddr hE rfl rfl rfl rfl rfl (by omega) (x := encL e0) (by simp [he0])) rfl rfl rfl ?_
                refine OW_run' hE.ok 4 rfl ?_
                refine OW_split' 44 rfl (fun h7 => ?_) (fun h7 => ?_)
                · skip
                  have g7 : e0.neg = true := h7
                  refine OW_run' hE.ok 8 rfl ?_
                  refine OW_end rfl ?_
                  refine CW_true rfl ?_
                  refine CW_seq ?_
                  refine CW_region ?_
                  refine OW_run' hE.ok 1 rfl ?_
                  refine OW_end rfl ?_
                  refine CW_ret ?_
                  refine ⟨.inr rfl, rfl, ⟨_, rfl, rfl, ?_⟩, rfl⟩
                  exact AVle.of (congrArg (fun b => AV.d (boo b)) (by unfold isPat headP; rw [n0, g7]; simp))
                · skip
                  have g7 : e0.neg = false := h7
                  refine OW.le (show LE _ _ ⟨J, (sset (sset (sset noSlots 1 (.d (.iptr (encP p)))) 3 (.d (int ((p.els.length : Nat) : Int)))) 44 (.d (boo false))), noHeap⟩ from LE_sh (slh_set (slh_set (slh_set (slh_no _ _) rfl rfl) rfl rfl) rfl rfl) (hlh_no _ _)) ?_
                  refine OW_run' hE.ok 4 rfl ?_
                  refine OW_as' 48 (.d (int ((p.els.length - 1 : Nat) : Int))) (by show AV.d (.lit (.int .i64 (IntKind.i64.wrap ((p.els.length : Int) - 1)))) = _; rw [show ((p.els.length : Int) - 1) = ((p.els.length - 1 : Nat) : Int) by omega, wrapN (by omega)]; rfl) ?_
                  refine OW_loc' hE (loc_indexAddr hE rfl rfl rfl rfl rfl (by omega) (x := encL e1) (by simp [he1])) rfl rfl rfl ?_
                  refine OW_run' hE.ok 3 rfl ?_
                  refine OW_end rfl ?_
                  refine CW_cond _ rfl (fun h8 => ?_) (fun h8 => ?_)
                  · skip
                    have g8 : e1.neg = true := h8
                    refine CW_seq ?_
                    refine CW_region ?_
                    refine OW_run' hE.ok 1 rfl ?_
                    refine OW_end rfl ?_
                    refine CW_ret ?_
                    refine ⟨.inr rfl, rfl, ⟨_, rfl, rfl, ?_⟩, rfl⟩
                    exact AVle.of (congrArg (fun b => AV.d (boo b)) (by unfold isPat headP; rw [n1, g8]; simp))
                  · skip
                    have g8 : e1.neg = false := h8
                    refine CW_skip ?_
                    exact ⟨(), ⟨by unfold headP; rw [g1, g2, n0, g7, n1, g8, g3, g4, g6]; rfl, hn5⟩, LE_sh (slh_set (slh_set (slh_no _ _) rfl rfl) rfl rfl) (hlh_no _ _)⟩
            · skip
              have g5 : same p.byf nul = true := by have := h5; revert this; show (!(same p.byf nul)) = false → _; cases same p.byf nul <;> simp
              have g6 : (!same p.byf nul && !isName p.byf) = false := by rw [g5]; rfl
              have hn1 : 1 ≤ p.els.length := by simp at g1; omega
              have hn5 : p.els.length ≤ 5 := by simp at g2; omega
              obtain ⟨e0, he0⟩ : ∃ e, p.els[0]? = some e := ⟨_, List.getElem?_eq_getElem (by omega)⟩
              obtain ⟨e1, he1⟩ : ∃ e, p.els[p.els.length - 1]? = some e := ⟨_, List.getElem?_eq_getElem (by omega)⟩
              have n0 := negAt_of he0
              have n1 := negAt_of he1
              refine OW_run' hE.ok 9 rfl ?_
              refine OW_loc' hE (loc_indexAddr hE rfl rfl rfl rfl rfl (by omega) (x := encL e0) (by simp [he0])) rfl rfl rfl ?_
              refine OW_run' hE.ok 4 rfl ?_
              refine OW_split' 44 rfl (fun h9 => ?_) (fun h9 => ?_)
              · skip
                have g7 : e0.neg = true := h9
                refine OW_run' hE.ok 8 rfl ?_
                refine OW_end rfl ?_
                refine CW_true rfl ?_
                refine CW_seq ?_
                refine CW_region ?_
                refine OW_run' hE.ok 1 rfl ?_
                refine OW_end rfl ?_
                refine CW_ret ?_
                refine ⟨.inr rfl, rfl, ⟨_, rfl, rfl, ?_⟩, rfl⟩
                exact AVle.of (congrArg (fun b => AV.d (boo b)) (by unfold isPat headP; rw [n0, g7]; simp))
              · skip
                have g7 : e0.neg = false := h9
                refine OW.le (show LE _ _ ⟨J, (sset (sset (sset noSlots 1 (.d (.iptr (encP p)))) 3 (.d (int ((p.els.length : Nat) : Int)))) 44 (.d (boo false))), noHeap⟩ from LE_sh (slh_set (slh_set (slh_set (slh_no _ _) rfl rfl) rfl rfl) rfl rfl) (hlh_no _ _)) ?_
                refine OW_run' hE.ok 4 rfl ?_
                refine OW_as' 48 (.d (int ((p.els.length - 1 : Nat) : Int))) (by show AV.d (.lit (.int .i64 (IntKind.i64.wrap ((p.els.length : Int) - 1)))) = _; rw [show ((p.els.length : Int) - 1) = ((p.els.length - 1 : Nat) : Int) by omega, wrapN (by omega)]; rfl) ?_
                refine OW_loc' hE (loc_indexAddr hE rfl rfl rfl rfl rfl (by omega) (x := encL e1) (by simp [he1])) rfl rfl rfl ?_
                refine OW_run' hE.ok 3 rfl ?_
                refine OW_end rfl ?_
                refine CW_cond _ rfl (fun h10 => ?_) (fun h10 => ?_)
                · skip
                  have g8 : e1.neg = true := h10
                  refine CW_seq ?_
                  refine CW_region ?_
                  refine OW_run' hE.ok 1 rfl ?_
                  refine OW_end rfl ?_
                  refine CW_ret ?_
                  refine ⟨.inr rfl, rfl, ⟨_, rfl, rfl, ?_⟩, rfl⟩
                  exact AVle.of (congrArg (fun b => AV.d (boo b)) (by unfold isPat headP; rw [n1, g8]; simp))
                · skip
                  have g8 : e1.neg = false := h10
                  refine CW_skip ?_
                  exact ⟨(), ⟨by unfold headP; rw [g1, g2, n0, g7, n1, g8, g3, g4, g6]; rfl, hn5⟩, LE_sh (slh_set (slh_set (slh_no _ _) rfl rfl) rfl rfl) (hlh_no _ _)⟩
  · skip
    rintro _ ⟨hH, hn5⟩
    refine CW_seq ?_
    refine CW_seq ?_
    refine CW_region ?_
    refine OW_run' hE.ok 1 rfl ?_
    refine OW_end rfl ?_
    refine CW_block ?_
    refine CW_loop (σ := {i : Nat // i ≤ p.els.length ∧ ∀ j e, j < i → p.els[j]? = some e → elOk p j e = true}) (fun i => ⟨J, (sset (sset (sset noSlots 1 (.d (.iptr (encP p)))) 3 (.d (int ((p.els.length : Nat) : Int)))) 4 (.d (int ((i.1 : Nat) : Int)))), noHeap⟩) (fun i => p.els.length - i.1) ⟨0, Nat.zero_le _, fun j e hj => by omega⟩ (LE_sh (slh_set (slh_set (slh_set (slh_no _ _) rfl rfl) rfl rfl) rfl rfl) (hlh_no _ _)) fun ⟨i, hi, hp⟩ => ?_
    refine CW_seq ?_
    refine CW_seq ?_
    refine CW_region ?_
    refine OW_run' hE.ok 3 rfl ?_
    refine OW_end rfl ?_
    refine CW_cond _ rfl (fun h11 => ?_) (fun h11 => ?_)
    · skip
      have hlt : i < p.els.length := by have := h11; simp at this; omega
      obtain ⟨e, he⟩ : ∃ e, p.els[i]? = some e := ⟨_, List.getElem?_eq_getElem hlt⟩
      have hsx := refSameXOk e.cond zeroX
      have hix := refIsXOk e.cond
      obtain ⟨y1, y2, y3, y4, y5, y6, y7, y8, y9, rfl⟩ := El.shape e
      refine CW_skip ?_
      refine CW_seq ?_
      refine CW_block ?_
      refine CW_seq ?_
      refine CW_region ?_
      refine OW_run' hE.ok 3 rfl ?_
      refine OW_loc' hE (loc_indexAddr hE rfl rfl rfl rfl rfl (by omega) (x := encL ⟨y1, y2, y3, y4, .mk y5 y6 y7 y8 y9⟩) (by simp [he])) rfl rfl rfl ?_
      refine OW_run' hE.ok 1 rfl ?_
      refine OW_alloc' hE 1 rfl rfl rfl rfl rfl rfl rfl ?_
      refine OW_store' hE rfl rfl rfl rfl rfl rfl rfl rfl rfl rfl rfl rfl ?_
      refine OW_end rfl ?_
      refine CW_cutE (fun _ : Unit => ⟨J, (sset (sset (sset (sset noSlots 1 (.d (.iptr (encP p)))) 3 (.d (int ((p.els.length : Nat) : Int)))) 4 (.d (int ((i : Nat) : Int)))) 5 (.ptr 1 0)), (hset noHeap 1 (some (.box 66 ((encL ⟨y1, y2, y3, y4, .mk y5 y6 y7 y8 y9⟩).map .d))))⟩) (fun _ => elHead p i ⟨y1, y2, y3, y4, .mk y5 y6 y7 y8 y9⟩ = true) ?_ ?_
      · skip
        refine CW_seq ?_
        refine CW_region ?_
        refine OW_run' hE.ok 2 rfl ?_
        refine OW_call' hE (refNameOk _) rfl rfl rfl rfl rfl rfl rfl ?_
        refine OW_run' hE.ok 2 rfl ?_
        refine OW_split' 67 rfl (fun h12 => ?_) (fun h12 => ?_)
        · skip
          have g1 : isName y1 = false := by simpa using h12
          refine OW_run' hE.ok 51 rfl ?_
          refine OW_end rfl ?_
          refine CW_true rfl ?_
          refine CW_seq ?_
          refine CW_region ?_
          refine OW_run' hE.ok 1 rfl ?_
          refine OW_end rfl ?_
          refine CW_ret ?_
          refine ⟨.inr rfl, rfl, ⟨_, rfl, rfl, ?_⟩, rfl⟩
          exact AVle.of (congrArg (fun b => AV.d (boo b)) (by rw [isPat_bad hH he (by rw [elOk_eq, elHead_of he]; dsimp only; rw [g1]; rfl)]))
        · skip
          have g1 : isName y1 = true := by simpa using h12
          refine OW_run' hE.ok 4 rfl ?_
          refine OW_call' hE (refAliasOk _ _) rfl rfl rfl rfl rfl rfl rfl ?_
          refine OW_run' hE.ok 4 rfl ?_
          refine OW_split' 76 rfl (fun h13 => ?_) (fun h13 => ?_)
          · skip
            have g2 : (idx (fun x => same x.al y1) p.els == (i : Int)) = false := by have := h13; simpa using this
            refine OW_run' hE.ok 42 rfl ?_
            refine OW_end rfl ?_
            refine CW_true rfl ?_
            refine CW_seq ?_
            refine CW_region ?_
            refine OW_run' hE.ok 1 rfl ?_
            refine OW_end rfl ?_
            refine CW_ret ?_
            refine ⟨.inr rfl, rfl, ⟨_, rfl, rfl, ?_⟩, rfl⟩
            exact AVle.of (congrArg (fun b => AV.d (boo b)) (by rw [isPat_bad hH he (by rw [elOk_eq, elHead_of he]; dsimp only; rw [g1, g2]; rfl)]))
          · skip
            have g2 : (idx (fun x => same x.al y1) p.els == (i : Int)) = true := by have := h13; simpa using this
            refine OW.le (show LE _ _ ⟨J, (sset (sset (sset (sset (sset noSlots 1 (.d (.iptr (encP p)))) 3 (.d (int ((p.els.length : Nat) : Int)))) 4 (.d (int ((i : Nat) : Int)))) 5 (.ptr 1 0)) 76 (.d (boo false))), (hset noHeap 1 (some (.box 66 ((encL ⟨y1, y2, y3, y4, .mk y5 y6 y7 y8 y9⟩).map .d))))⟩ from LE_sh (slh_set (slh_set (slh_set (slh_set (slh_set (slh_no _ _) rfl rfl) rfl rfl) rfl rfl) rfl rfl) rfl rfl) (hlh_set (hlh_no _ _) rfl rfl)) ?_
            refine OW_run' hE.ok 6 rfl ?_
            refine OW_split' 82 rfl (fun h14 => ?_) (fun h14 => ?_)
            · skip
              have g3 : decide ((y2.length : Int) < 1) = true := by have := h14; simp only [List.length_map] at this; exact this
              refine OW_run' hE.ok 36 rfl ?_
              refine OW_end rfl ?_
              refine CW_true rfl ?_
              refine CW_seq ?_
              refine CW_region ?_
              refine OW_run' hE.ok 1 rfl ?_
              refine OW_end rfl ?_
              refine CW_ret ?_
              refine ⟨.inr rfl, rfl, ⟨_, rfl, rfl, ?_⟩, rfl⟩
              exact AVle.of (congrArg (fun b => AV.d (boo b)) (by rw [isPat_bad hH he (by rw [elOk_eq, elHead_of he]; dsimp only; rw [g1, g2, g3]; rfl)]))
            · skip
              have g3 : decide ((y2.length : Int) < 1) = false := by have := h14; simp only [List.length_map] at this; exact this
              refine OW_run' hE.ok 6 rfl ?_
              refine OW_split' 88 rfl (fun h15 => ?_) (fun h15 => ?_)
              · skip
                have g4 : decide ((y2.length : Int) > 3) = true := by have := h15; simp only [List.length_map] at this; exact this
                refine OW_run' hE.ok 30 rfl ?_
                refine OW_end rfl ?_
                refine CW_true rfl ?_
                refine CW_seq ?_
                refine CW_region ?_
                refine OW_run' hE.ok 1 rfl ?_
                refine OW_end rfl ?_
                refine CW_ret ?_
                refine ⟨.inr rfl, rfl, ⟨_, rfl, rfl, ?_⟩, rfl⟩
                exact AVle.of (congrArg (fun b => AV.d (boo b)) (by rw [isPat_bad hH he (by rw [elOk_eq, elHead_of he]; dsimp only; rw [g1, g2, g3, g4]; rfl)]))
              · skip
                have g4 : decide ((y2.length : Int) > 3) = false := by have := h15; simp only [List.length_map] at this; exact this
                refine OW_run' hE.ok 2 rfl ?_
                refine OW_call' hE (refRiseOk _) rfl rfl rfl rfl rfl rfl rfl ?_
                refine OW_run' hE.ok 3 rfl ?_
                refine OW_split' 94 rfl (fun h16 => ?_) (fun h16 => ?_)
                · skip
                  have g5 : rise y2 = false := by simpa using h16
                  refine OW_run' hE.ok 24 rfl ?_
                  refine OW_end rfl ?_
                  refine CW_true rfl ?_
                  refine CW_seq ?_
                  refine CW_region ?_
                  refine OW_run' hE.ok 1 rfl ?_
                  refine OW_end rfl ?_
                  refine CW_ret ?_
                  refine ⟨.inr rfl, rfl, ⟨_, rfl, rfl, ?_⟩, rfl⟩
                  exact AVle.of (congrArg (fun b => AV.d (boo b)) (by rw [isPat_bad hH he (by rw [elOk_eq, elHead_of he]; dsimp only; rw [g1, g2, g3, g4, g5]; rfl)]))
                · skip
                  have g5 : rise y2 = true := by simpa using h16
                  refine OW.le (show LE _ _ ⟨J, (sset (sset (sset (sset (sset noSlots 1 (.d (.iptr (encP p)))) 3 (.d (int ((p.els.length : Nat) : Int)))) 4 (.d (int ((i : Nat) : Int)))) 5 (.ptr 1 0)) 94 (.d (boo false))), (hset noHeap 1 (some (.box 66 ((encL ⟨y1, y2, y3, y4, .mk y5 y6 y7 y8 y9⟩).map .d))))⟩ from LE_sh (slh_set (slh_set (slh_set (slh_set (slh_set (slh_no _ _) rfl rfl) rfl rfl) rfl rfl) rfl rfl) rfl rfl) (hlh_set (hlh_no _ _) rfl rfl)) ?_
                  refine OW_run' hE.ok 3 rfl ?_
                  refine OW_split' 97 rfl (fun h17 => ?_) (fun h17 => ?_)
                  · skip
                    have g6 : y3 = true := h17
                    refine OW_run' hE.ok 5 rfl ?_
                    refine OW_split' 102 rfl (fun h18 => ?_) (fun h18 => ?_)
                    · skip
                      have g7 : y4 = true := h18
                      refine OW_run' hE.ok 16 rfl ?_
                      refine OW_end rfl ?_
                      refine CW_true rfl ?_
                      refine CW_seq ?_
                      refine CW_region ?_
                      refine OW_run' hE.ok 1 rfl ?_
                      refine OW_end rfl ?_
                      refine CW_ret ?_
                      refine ⟨.inr rfl, rfl, ⟨_, rfl, rfl, ?_⟩, rfl⟩
                      exact AVle.of (congrArg (fun b => AV.d (boo b)) (by rw [isPat_bad hH he (by rw [elOk_eq, elHead_of he]; dsimp only; rw [g1, g2, g3, g4, g5, g6, g7]; rfl)]))
                    · skip
                      have g7 : y4 = false := h18
                      refine OW_run' hE.ok 3 rfl ?_
                      refine OW_split' 105 rfl (fun h19 => ?_) (fun h19 => ?_)
                      · skip
                        have g8 : decide ((i : Int) > 0) = true := h19
                        refine OW.le (show LE _ _ ⟨J, (sset (sset (sset (sset (sset (sset noSlots 1 (.d (.iptr (encP p)))) 3 (.d (int ((p.els.length : Nat) : Int)))) 4 (.d (int ((i : Nat) : Int)))) 5 (.ptr 1 0)) 102 (.d (boo false))) 105 (.d (boo true))), (hset noHeap 1 (some (.box 66 ((encL ⟨y1, y2, y3, y4, .mk y5 y6 y7 y8 y9⟩).map .d))))⟩ from LE_sh (slh_set (slh_set (slh_set (slh_set (slh_set (slh_set (slh_no _ _) rfl rfl) rfl rfl) rfl rfl) rfl rfl) rfl rfl) rfl rfl) (hlh_set (hlh_no _ _) rfl rfl)) ?_
                        refine OW_run' hE.ok 4 rfl ?_
                        refine OW_split' 109 rfl (fun h20 => ?_) (fun h20 => ?_)
                        · skip
                          have g9 : y4 = true := h20
                          have hi0 : 1 ≤ i := by simp at g8; omega
                          obtain ⟨e2, he2⟩ : ∃ e, p.els[i - 1]? = some e := ⟨_, List.getElem?_eq_getElem (by omega)⟩
                          have n2 := negAt_of he2
                          refine OW_run' hE.ok 4 rfl ?_
                          refine OW_as' 113 (.d (int ((i - 1 : Nat) : Int))) (by show AV.d (.lit (.int .i64 (IntKind.i64.wrap ((i : Int) - 1)))) = _; rw [show ((i : Int) - 1) = ((i - 1 : Nat) : Int) by omega, wrapN (by omega)]; rfl) ?_
                          refine OW_loc' hE (loc_indexAddr hE rfl rfl rfl rfl rfl (by omega) (x := encL e2) (by simp [he2])) rfl rfl rfl ?_
                          refine OW_run' hE.ok 4 rfl ?_
                          refine OW_end rfl ?_
                          refine CW_cond _ rfl (fun h21 => ?_) (fun h21 => ?_)
                          · skip
                            have g10 : e2.neg = true := h21
                            refine CW_seq ?_
                            refine CW_region ?_
                            refine OW_run' hE.ok 1 rfl ?_
                            refine OW_end rfl ?_
                            refine CW_ret ?_
                            refine ⟨.inr rfl, rfl, ⟨_, rfl, rfl, ?_⟩, rfl⟩
                            exact absurd g9 (by rw [g7]; simp)
                          · skip
                            have g10 : e2.neg = false := h21
                            refine CW_skip ?_
                            refine ⟨(), ?_, LE_sh (slh_set (slh_set (slh_set (slh_set (slh_no _ _) rfl rfl) rfl rfl) rfl rfl) rfl rfl) (hlh_set (hlh_no _ _) rfl rfl)⟩
                            show elHead p i ⟨y1, y2, y3, y4, .mk y5 y6 y7 y8 y9⟩ = true
                            rw [elHead_of he]
                            dsimp only
                            exact absurd g9 (by rw [g7]; simp)
                        · skip
                          have g9 : y4 = false := h20
                          refine OW_run' hE.ok 9 rfl ?_
                          refine OW_end rfl ?_
                          refine CW_false rfl ?_
                          refine CW_skip ?_
                          refine ⟨(), ?_, LE_sh (slh_set (slh_set (slh_set (slh_set (slh_no _ _) rfl rfl) rfl rfl) rfl rfl) rfl rfl) (hlh_set (hlh_no _ _) rfl rfl)⟩
                          show elHead p i ⟨y1, y2, y3, y4, .mk y5 y6 y7 y8 y9⟩ = true
                          rw [elHead_of he]
                          dsimp only
                          rw [g1, g2, g3, g4, g5, g6, g9]; rfl
                      · skip
                        have g8 : decide ((i : Int) > 0) = false := h19
                        refine OW.le (show LE _ _ ⟨J, (sset (sset (sset (sset (sset (sset noSlots 1 (.d (.iptr (encP p)))) 3 (.d (int ((p.els.length : Nat) : Int)))) 4 (.d (int ((i : Nat) : Int)))) 5 (.ptr 1 0)) 102 (.d (boo false))) 105 (.d (boo false))), (hset noHeap 1 (some (.box 66 ((encL ⟨y1, y2, y3, y4, .mk y5 y6 y7 y8 y9⟩).map .d))))⟩ from LE_sh (slh_set (slh_set (slh_set (slh_set (slh_set (slh_set (slh_no _ _) rfl rfl) rfl rfl) rfl rfl) rfl rfl) rfl rfl) rfl rfl) (hlh_set (hlh_no _ _) rfl rfl)) ?_
                        refine OW_run' hE.ok 13 rfl ?_
                        refine OW_end rfl ?_
                        refine CW_false rfl ?_
                        refine CW_skip ?_
                        refine ⟨(), ?_, LE_sh (slh_set (slh_set (slh_set (slh_set (slh_no _ _) rfl rfl) rfl rfl) rfl rfl) rfl rfl) (hlh_set (hlh_no _ _) rfl rfl)⟩
                        show elHead p i ⟨y1, y2, y3, y4, .mk y5 y6 y7 y8 y9⟩ = true
                        rw [elHead_of he]
                        dsimp only
                        rw [g1, g2, g3, g4, g5, g6, g7]; rfl
                  · skip
                    have g6 : y3 = false := h17
                    refine OW_run' hE.ok 8 rfl ?_
                    refine OW_split' 105 rfl (fun h22 => ?_) (fun h22 => ?_)
                    · skip
                      have g8 : decide ((i : Int) > 0) = true := h22
                      refine OW.le (show LE _ _ ⟨J, (sset (sset (sset (sset (sset (sset noSlots 1 (.d (.iptr (encP p)))) 3 (.d (int ((p.els.length : Nat) : Int)))) 4 (.d (int ((i : Nat) : Int)))) 5 (.ptr 1 0)) 102 (.d (boo false))) 105 (.d (boo true))), (hset noHeap 1 (some (.box 66 ((encL ⟨y1, y2, y3, y4, .mk y5 y6 y7 y8 y9⟩).map .d))))⟩ from LE_sh (slh_set (slh_set (slh_set (slh_set (slh_set (slh_set (slh_no _ _) rfl rfl) rfl rfl) rfl rfl) rfl rfl) rfl rfl) rfl rfl) (hlh_set (hlh_no _ _) rfl rfl)) ?_
                      refine OW_run' hE.ok 4 rfl ?_
                      refine OW_split' 109 rfl (fun h23 => ?_) (fun h23 => ?_)
                      · skip
                        have g9 : y4 = true := h23
                        have hi0 : 1 ≤ i := by simp at g8; omega
                        obtain ⟨e2, he2⟩ : ∃ e, p.els[i - 1]? = some e := ⟨_, List.getElem?_eq_getElem (by omega)⟩
                        have n2 := negAt_of he2
                        refine OW_run' hE.ok 4 rfl ?_
                        refine OW_as' 113 (.d (int ((i - 1 : Nat) : Int))) (by show AV.d (.lit (.int .i64 (IntKind.i64.wrap ((i : Int) - 1)))) = _; rw [show ((i : Int) - 1) = ((i - 1 : Nat) : Int) by omega, wrapN (by omega)]; rfl) ?_
                        refine OW_loc' hE (loc_indexAddr hE rfl rfl rfl rfl rfl (by omega) (x := encL e2) (by simp [he2])) rfl rfl rfl ?_
                        refine OW_run' hE.ok 4 rfl ?_
                        refine OW_end rfl ?_
                        refine CW_cond _ rfl (fun h24 => ?_) (fun h24 => ?_)
                        · skip
                          have g10 : e2.neg = true := h24
                          refine CW_seq ?_
                          refine CW_region ?_
                          refine OW_run' hE.ok 1 rfl ?_
                          refine OW_end rfl ?_
                          refine CW_ret ?_
                          refine ⟨.inr rfl, rfl, ⟨_, rfl, rfl, ?_⟩, rfl⟩
                          exact AVle.of (congrArg (fun b => AV.d (boo b)) (by rw [isPat_bad hH he (by rw [elOk_eq, elHead_of he]; dsimp only; rw [g1, g2, g3, g4, g5, g6, g9, n2, g10]; rfl)]))
                        · skip
                          have g10 : e2.neg = false := h24
                          refine CW_skip ?_
                          refine ⟨(), ?_, LE_sh (slh_set (slh_set (slh_set (slh_set (slh_no _ _) rfl rfl) rfl rfl) rfl rfl) rfl rfl) (hlh_set (hlh_no _ _) rfl rfl)⟩
                          show elHead p i ⟨y1, y2, y3, y4, .mk y5 y6 y7 y8 y9⟩ = true
                          rw [elHead_of he]
                          dsimp only
                          rw [g1, g2, g3, g4, g5, g6, n2, g10]; simp
                      · skip
                        have g9 : y4 = false := h23
                        refine OW_run' hE.ok 9 rfl ?_
                        refine OW_end rfl ?_
                        refine CW_false rfl ?_
                        refine CW_skip ?_
                        refine ⟨(), ?_, LE_sh (slh_set (slh_set (slh_set (slh_set (slh_no _ _) rfl rfl) rfl rfl) rfl rfl) rfl rfl) (hlh_set (hlh_no _ _) rfl rfl)⟩
                        show elHead p i ⟨y1, y2, y3, y4, .mk y5 y6 y7 y8 y9⟩ = true
                        rw [elHead_of he]
                        dsimp only
                        rw [g1, g2, g3, g4, g5, g6, g9]; rfl
                    · skip
                      have g8 : decide ((i : Int) > 0) = false := h22
                      refine OW.le (show LE _ _ ⟨J, (sset (sset (sset (sset (sset (sset noSlots 1 (.d (.iptr (encP p)))) 3 (.d (int ((p.els.length : Nat) : Int)))) 4 (.d (int ((i : Nat) : Int)))) 5 (.ptr 1 0)) 102 (.d (boo false))) 105 (.d (boo false))), (hset noHeap 1 (some (.box 66 ((encL ⟨y1, y2, y3, y4, .mk y5 y6 y7 y8 y9⟩).map .d))))⟩ from LE_sh (slh_set (slh_set (slh_set (slh_set (slh_set (slh_set (slh_no _ _) rfl rfl) rfl rfl) rfl rfl) rfl rfl) rfl rfl) rfl rfl) (hlh_set (hlh_no _ _) rfl rfl)) ?_
                      refine OW_run' hE.ok 13 rfl ?_
                      refine OW_end rfl ?_
                      refine CW_false rfl ?_
                      refine CW_skip ?_
                      refine ⟨(), ?_, LE_sh (slh_set (slh_set (slh_set (slh_set (slh_no _ _) rfl rfl) rfl rfl) rfl rfl) rfl rfl) (hlh_set (hlh_no _ _) rfl rfl)⟩
                      show elHead p i ⟨y1, y2, y3, y4, .mk y5 y6 y7 y8 y9⟩ = true
                      rw [elHead_of he]
                      dsimp only
                      have : i = 0 := by simp at g8; omega
                      subst this; rw [g1, g2, g3, g4, g5, g6, headP_first hH]; simp
      · skip
        rintro _ hHd
        refine CW_seq ?_
        refine CW_seq ?_
        refine CW_region ?_
        refine OW_run' hE.ok 1 rfl ?_
        refine OW_end rfl ?_
        refine CW_block ?_
        refine CW_loop (σ := {q : Nat // q ≤ y2.length ∧ ∀ j t, j < q → y2[j]? = some t → isName t = true}) (fun q => ⟨J, (sset (sset (sset (sset (sset noSlots 1 (.d (.iptr (encP p)))) 3 (.d (int ((p.els.length : Nat) : Int)))) 4 (.d (int ((i : Nat) : Int)))) 5 (.ptr 1 0)) 6 (.d (int ((q.1 : Nat) : Int)))), (hset noHeap 1 (some (.box 66 ((encL ⟨y1, y2, y3, y4, .mk y5 y6 y7 y8 y9⟩).map .d))))⟩) (fun q => y2.length - q.1) ⟨0, Nat.zero_le _, fun j t hj => by omega⟩ (LE_sh (slh_set (slh_set (slh_set (slh_set (slh_set (slh_no _ _) rfl rfl) rfl rfl) rfl rfl) rfl rfl) rfl rfl) (hlh_set (hlh_no _ _) rfl rfl)) fun ⟨q, hq, hpq⟩ => ?_
        refine CW_seq ?_
        refine CW_seq ?_
        refine CW_region ?_
        refine OW_run' hE.ok 5 rfl ?_
        refine OW_end rfl ?_
        refine CW_cond _ rfl (fun h25 => ?_) (fun h25 => ?_)
        · skip
          refine CW_know (know_sl (d := 121) rfl) fun hlen => ?_
          simp only [List.length_map] at hlen
          have hltq : q < y2.length := by have := h25; simp at this; omega
          obtain ⟨t, ht⟩ : ∃ t, y2[q]? = some t := ⟨_, List.getElem?_eq_getElem hltq⟩
          refine CW_skip ?_
          refine CW_seq ?_
          refine CW_block ?_
          refine CW_seq ?_
          refine CW_region ?_
          refine OW_run' hE.ok 3 rfl ?_
          refine OW_loc' hE (loc_indexAddr hE rfl rfl rfl rfl rfl (by omega) (x := encB t) (by simp [ht])) rfl rfl rfl ?_
          refine OW_run' hE.ok 1 rfl ?_
          refine OW_call' hE (refNameOk _) rfl rfl rfl rfl rfl rfl rfl ?_
          refine OW_run' hE.ok 1 rfl ?_
          refine OW_end rfl ?_
          refine CW_cond _ rfl (fun h26 => ?_) (fun h26 => ?_)
          · skip
            have hnm : isName t = false := by simpa using h26
            refine CW_seq ?_
            refine CW_region ?_
            refine OW_run' hE.ok 1 rfl ?_
            refine OW_end rfl ?_
            refine CW_ret ?_
            refine ⟨.inr rfl, rfl, ⟨_, rfl, rfl, ?_⟩, rfl⟩
            exact AVle.of (congrArg (fun b => AV.d (boo b)) (by rw [isPat_bad hH he (by rw [elOk_eq, elTail_bad ht hnm, Bool.and_false])]))
          · skip
            have hnm : isName t = true := by simpa using h26
            refine CW_skip ?_
            refine CW_region ?_
            refine OW_run' hE.ok 3 rfl ?_
            refine OW_end rfl ?_
            refine ⟨⟨q + 1, by omega, fun j x hj hx => ?_⟩, LE_sh (slh_set (slh_set (slh_set (slh_set (slh_set (slh_no _ _) rfl rfl) rfl rfl) rfl rfl) rfl rfl) (by show AV.d (.lit (.int .i64 (IntKind.i64.wrap ((q : Int) + 1)))) = _; rw [wrap_succ (by omega)]; rfl) rfl) (hlh_set (hlh_no _ _) rfl rfl), by show y2.length - (q + 1) < y2.length - q; omega⟩
            by_cases hji : j = q
            · subst hji; rw [ht] at hx; cases hx; exact hnm
            · exact hpq j x (by omega) hx
        · skip
          have hgq : y2.length ≤ q := by have := h25; simp at this; omega
          have hall := all_of_get (p := isName) hgq hpq
          refine CW_exit ?_
          show CW _ _ _ _
          refine CW_seq ?_
          refine CW_region ?_
          refine OW_run' hE.ok 2 rfl ?_
          refine OW_build' hE rfl rfl rfl rfl rfl ?_
          refine OW.le (LE_slot 135 (argX zeroX) nilX_le) ?_
          refine OW_call' hE (hsx) rfl rfl rfl rfl rfl rfl rfl ?_
          refine OW_run' hE.ok 2 rfl ?_
          refine OW_split' 138 rfl (fun h27 => ?_) (fun h27 => ?_)
          · skip
            have t1 : sameX (.mk y5 y6 y7 y8 y9) zeroX = false := by simpa using h27
            refine OW_run' hE.ok 2 rfl ?_
            refine OW_call' hE (hix) rfl rfl rfl rfl rfl rfl rfl ?_
            refine OW_run' hE.ok 2 rfl ?_
            refine OW_end rfl ?_
            refine CW_cond _ rfl (fun h28 => ?_) (fun h28 => ?_)
            · skip
              have t2 : isX (.mk y5 y6 y7 y8 y9) = false := by simpa using h28
              refine CW_seq ?_
              refine CW_region ?_
              refine OW_run' hE.ok 1 rfl ?_
              refine OW_end rfl ?_
              refine CW_ret ?_
              refine ⟨.inr rfl, rfl, ⟨_, rfl, rfl, ?_⟩, rfl⟩
              exact AVle.of (congrArg (fun b => AV.d (boo b)) (by rw [isPat_bad hH he (by rw [elOk_eq]; unfold elTail; dsimp only; rw [t1, t2]; simp)]))
            · skip
              have t2 : isX (.mk y5 y6 y7 y8 y9) = true := by simpa using h28
              refine CW_skip ?_
              refine CW_region ?_
              refine OW_run' hE.ok 3 rfl ?_
              refine OW_end rfl ?_
              refine ⟨⟨i + 1, by omega, fun j x hj hx => ?_⟩, LE_sh (slh_set (slh_set (slh_set (slh_no _ _) rfl rfl) rfl rfl) (by show AV.d (.lit (.int .i64 (IntKind.i64.wrap ((i : Int) + 1)))) = _; rw [wrap_succ (by omega)]; rfl) rfl) (hlh_no _ _), by show p.els.length - (i + 1) < p.els.length - i; omega⟩
              by_cases hji : j = i
              · subst hji; rw [he] at hx; cases hx; rw [elOk_eq, hHd]; unfold elTail; dsimp only; first | (rw [hall, t1]; rfl) | (rw [hall, t2]; simp)
              · exact hp j x (by omega) hx
          · skip
            have t1 : sameX (.mk y5 y6 y7 y8 y9) zeroX = true := by simpa using h27
            refine OW_run' hE.ok 5 rfl ?_
            refine OW_end rfl ?_
            refine CW_false rfl ?_
            refine CW_skip ?_
            refine CW_region ?_
            refine OW_run' hE.ok 3 rfl ?_
            refine OW_end rfl ?_
            refine ⟨⟨i + 1, by omega, fun j x hj hx => ?_⟩, LE_sh (slh_set (slh_set (slh_set (slh_no _ _) rfl rfl) rfl rfl) (by show AV.d (.lit (.int .i64 (IntKind.i64.wrap ((i : Int) + 1)))) = _; rw [wrap_succ (by omega)]; rfl) rfl) (hlh_no _ _), by show p.els.length - (i + 1) < p.els.length - i; omega⟩
            by_cases hji : j = i
            · subst hji; rw [he] at hx; cases hx; rw [elOk_eq, hHd]; unfold elTail; dsimp only; first | (rw [hall, t1]; rfl) | (rw [hall, t2]; simp)
            · exact hp j x (by omega) hx
    · skip
      have hge : p.els.length ≤ i := by have := h11; simp at this; omega
      refine CW_exit ?_
      show CW _ _ _ _
      refine CW_seq ?_
      refine CW_region ?_
      refine OW_run' hE.ok 1 rfl ?_
      refine OW_end rfl ?_
      refine CW_ret ?_
      refine ⟨.inr rfl, rfl, ⟨_, rfl, rfl, ?_⟩, rfl⟩
      exact AVle.of (congrArg (fun b => AV.d (boo b)) (by unfold isPat; rw [hH, elsOk_all (fun i e hi he => hp i e (by omega) he)]; rfl))
end Go.Proofs.Ytojnicnbmgiplaa
