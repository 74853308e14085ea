/- Parts of an abstract logic over the kit's walks, and walks in it: D8w. -/
import Derived.Test.YtjiknbjkbakegaaDoorD8b
namespace Go.Proofs.YtjiknbjkbakegaaDoor
open Go Go.AL
set_option linter.unusedVariables false
set_option linter.unusedSimpArgs false
set_option maxHeartbeats 4000000
theorem wideOk (p : Pat) (hb : ∀ e ∈ p.els, (nodesX e.cond 1).length ≤ 1048576) : Does Tryd.prog 7 [argP p] noHeap (.d (boo (wideP p))) := by
  refine Does_of T_ok mixed (N := 34) Tryd.func7 rfl rfl rfl (by rfl) fun F n Z hE hF J => ?_
  refine CW_seq ?_
  refine CW_region ?_
  refine OW_run' hE.ok 2 rfl ?_
  refine OW_end rfl ?_
  refine CW_seq ?_
  refine CW_seq ?_
  refine CW_region ?_
  refine OW_run' hE.ok 1 rfl ?_
  refine OW_end rfl ?_
  refine CW_block ?_
  refine CW_loop (σ := {i : Nat // i ≤ p.els.length ∧ ∀ j e, j < i → p.els[j]? = some e → wideE e = false}) (fun i => ⟨J, (sset (sset noSlots 1 (.d (.iptr (encP p)))) 3 (.d (int ((i.1 : Nat) : Int)))), noHeap⟩) (fun i => p.els.length - i.1) ⟨0, Nat.zero_le _, fun j e hj => by omega⟩ (LE_sh (slh_set (slh_set (slh_no _ _) rfl rfl) rfl rfl) (hlh_no _ _)) fun ⟨i, hi, hw⟩ => ?_
  refine CW_seq ?_
  refine CW_seq ?_
  refine CW_region ?_
  refine OW_run' hE.ok 5 rfl ?_
  refine OW_end rfl ?_
  refine CW_cond _ rfl (fun h1 => ?_) (fun h1 => ?_)
  · skip
    refine CW_know (know_sl (d := 6) rfl) fun hlen => ?_
    rw [List.length_map] at hlen
    have hlt : i < p.els.length := by have := h1; simp at this; omega
    obtain ⟨e, he⟩ : ∃ e, p.els[i]? = some e := ⟨_, List.getElem?_eq_getElem hlt⟩
    have hI := refNodesOk e.cond (hb e (List.mem_of_getElem? he))
    obtain ⟨y1, y2, y3, y4, y5, y6, y7, y8, y9, rfl⟩ := El.shape e
    refine CW_skip ?_
    refine CW_seq ?_
    refine CW_block ?_
    refine CW_seq ?_
    refine CW_region ?_
    refine OW_run' hE.ok 3 rfl ?_
    refine OW_loc' hE (loc_indexAddr hE rfl rfl rfl rfl rfl (by omega) (x := encL ⟨y1, y2, y3, y4, .mk y5 y6 y7 y8 y9⟩) (by simp [he])) rfl rfl rfl ?_
    refine OW_run' hE.ok 5 rfl ?_
    refine OW_split' 19 rfl (fun h2 => ?_) (fun h2 => ?_)
    · skip
      have g1 : decide ((y2.length : Int) > 10) = true := by have := h2; simp only [List.length_map] at this; exact this
      refine OW_run' hE.ok 10 rfl ?_
      refine OW_end rfl ?_
      refine CW_true rfl ?_
      refine CW_seq ?_
      refine CW_region ?_
      refine OW_run' hE.ok 1 rfl ?_
      refine OW_end rfl ?_
      refine CW_ret ?_
      refine ⟨.inr rfl, rfl, ⟨_, rfl, rfl, ?_⟩, rfl⟩
      exact AVle.of (congrArg (fun b => AV.d (boo b)) (by rw [wideP_bad he (by unfold wideE; dsimp only; rw [g1]; rfl)]))
    · skip
      have g1 : decide ((y2.length : Int) > 10) = false := by have := h2; simp only [List.length_map] at this; exact this
      refine OW_run' hE.ok 3 rfl ?_
      refine OW_loc' hE (loc_indexAddr hE rfl rfl rfl rfl rfl (by omega) (x := encL ⟨y1, y2, y3, y4, .mk y5 y6 y7 y8 y9⟩) (by simp [he])) rfl rfl rfl ?_
      refine OW_run' hE.ok 2 rfl ?_
      refine OW_call' hE (hI) rfl rfl rfl rfl rfl rfl rfl ?_
      refine OW_run' hE.ok 3 rfl ?_
      refine OW_end rfl ?_
      refine CW_cond _ rfl (fun h3 => ?_) (fun h3 => ?_)
      · skip
        have g2 : decide (((nodesX (.mk y5 y6 y7 y8 y9) 1).length : Int) > 100) = true := by have := h3; simp only [encXs_length] at this; exact this
        refine CW_seq ?_
        refine CW_region ?_
        refine OW_run' hE.ok 1 rfl ?_
        refine OW_end rfl ?_
        refine CW_ret ?_
        refine ⟨.inr rfl, rfl, ⟨_, rfl, rfl, ?_⟩, rfl⟩
        exact AVle.of (congrArg (fun b => AV.d (boo b)) (by rw [wideP_bad he (by unfold wideE; dsimp only; rw [g2, Bool.or_true])]))
      · skip
        have g2 : decide (((nodesX (.mk y5 y6 y7 y8 y9) 1).length : Int) > 100) = false := by have := h3; simp only [encXs_length] at this; exact this
        refine CW_skip ?_
        refine CW_region ?_
        refine OW_run' hE.ok 3 rfl ?_
        refine OW_end rfl ?_
        refine ⟨⟨i + 1, by omega, fun j x hj hx => ?_⟩, LE_sh (slh_set (v := .d (int ((i + 1 : Nat) : Int))) (slh_set (v := .d (.iptr (encP p))) (slh_no _ _) (by rfl) rfl) (by show AV.d (.lit (.int .i64 (IntKind.i64.wrap ((i : Int) + 1)))) = _; rw [wrap_succ (by omega)]; rfl) rfl) (hlh_no _ _), by show p.els.length - (i + 1) < p.els.length - i; omega⟩
        by_cases hji : j = i
        · subst hji; rw [he] at hx; cases hx; unfold wideE; dsimp only; rw [g1, g2]; rfl
        · exact hw j x (by omega) hx
  · skip
    have hge : p.els.length ≤ i := by have := h1; simp at this; omega
    refine CW_exit ?_
    show CW _ _ _ _
    refine CW_seq ?_
    refine CW_region ?_
    refine OW_run' hE.ok 5 rfl ?_
    refine OW_end rfl ?_
    refine CW_ret ?_
    refine ⟨.inr rfl, rfl, ⟨_, rfl, rfl, ?_⟩, rfl⟩
    exact AVle.of (congrArg (fun b => AV.d (boo b)) (by rw [wideP_end hge hw]; show decide (((p.els.map encL).length : Int) > 10) = _; rw [List.length_map]))
end Go.Proofs.YtjiknbjkbakegaaDoor
