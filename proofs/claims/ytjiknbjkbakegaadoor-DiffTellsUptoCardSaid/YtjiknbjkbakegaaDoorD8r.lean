/- Parts of an abstract logic over the kit's walks, and walks in it: D8r. -/
import Derived.Test.YtjiknbjkbakegaaDoorD8f
namespace Go.Proofs.YtjiknbjkbakegaaDoor
open Go Go.AL
set_option linter.unusedVariables false
set_option linter.unusedSimpArgs false
set_option maxHeartbeats 4000000
theorem shrOk (p q : Pat) (hl : p.els.length ≤ 1000) : Does Tryd.prog 11 [argP p, argP q] noHeap (.d (boo (shrX p q))) := by
  refine Does_of T_ok mixed (N := 24) Tryd.func11 rfl rfl rfl (by rfl) fun F n Z hE hF J => ?_
  have c1 := diffOk p q hl
  have hs : shrX p q = (onlyD (difX (normP p) (normP q)) && decide (q.within ≤ p.within)) := rfl
  obtain ⟨X, hX⟩ : ∃ z, difX (normP p) (normP q) = z := ⟨_, rfl⟩
  rw [hX] at c1 hs
  rw [hs]
  clear hs hX
  refine CW_seq ?_
  refine CW_region ?_
  refine OW_run' hE.ok 3 rfl ?_
  refine OW_end rfl ?_
  refine CW_seq ?_
  refine CW_seq ?_
  refine CW_region ?_
  refine OW_run' hE.ok 2 rfl ?_
  refine OW_call' hE (c1) rfl rfl rfl rfl rfl rfl rfl ?_
  refine OW_run' hE.ok 2 rfl ?_
  refine OW_end rfl ?_
  refine CW_block ?_
  refine CW_loop (σ := {i : Nat // i ≤ X.length ∧ ∀ j a, j < i → X[j]? = some a → (a.kind == 1) = true}) (fun i => ⟨J, (sset (sset (sset (sset (sset noSlots 2 (.d (.iptr (encP p)))) 3 (.d (.iptr (encP q)))) 9 (.d (.sl 2 16 ((X).map encDl)))) 10 (.d (int ((X.length : Nat) : Int)))) 11 (.d (int ((i.1 : Nat) : Int)))), noHeap⟩) (fun i => X.length - i.1) ⟨0, Nat.zero_le _, by omega⟩ (LE_sh (slh_set (slh_set (slh_set (slh_set (slh_set (slh_no _ _) rfl rfl) rfl rfl) rfl rfl) (by show AV.d (.lit (.int .i64 ((X.map encDl).length : Int))) = _; rw [List.length_map]; rfl) rfl) rfl rfl) (hlh_no _ _)) fun ⟨i, hi, hp⟩ => ?_
  refine CW_seq ?_
  refine CW_region ?_
  refine OW_run' hE.ok 1 rfl ?_
  refine OW_end rfl ?_
  refine CW_seq ?_
  refine CW_cond _ rfl (fun h1 => ?_) (fun h1 => ?_)
  · skip
    refine CW_know (know_sl (d := 9) rfl) fun hlen => ?_
    rw [List.length_map] at hlen
    have hlt : i < X.length := by have h0 : (i : Int) < (X.length : Int) := of_decide_eq_true h1; omega
    obtain ⟨a, ha⟩ : ∃ a, X[i]? = some a := ⟨_, List.getElem?_eq_getElem hlt⟩
    refine CW_skip ?_
    refine CW_seq ?_
    refine CW_block ?_
    refine CW_seq ?_
    refine CW_region ?_
    refine OW_loc' hE (loc_indexAddr hE rfl rfl rfl rfl rfl (by omega) (x := encDl a) (by simp [ha])) rfl rfl rfl ?_
    refine OW_run' hE.ok 1 rfl ?_
    refine OW_alloc' hE 1 rfl rfl rfl rfl rfl rfl rfl ?_
    refine OW_store' hE rfl rfl rfl rfl rfl rfl rfl rfl rfl rfl rfl rfl ?_
    refine OW_end rfl ?_
    refine CW_seq ?_
    refine CW_region ?_
    refine OW_run' hE.ok 3 rfl ?_
    refine OW_end rfl ?_
    refine CW_cond _ rfl (fun h2 => ?_) (fun h2 => ?_)
    · skip
      have gk : (a.kind == 1) = false := by have h0 : (a.kind != 1) = true := h2; simpa using h0
      refine CW_seq ?_
      refine CW_region ?_
      refine OW_run' hE.ok 1 rfl ?_
      refine OW_end rfl ?_
      refine CW_ret ?_
      refine ⟨.inr rfl, rfl, ⟨_, rfl, rfl, ?_⟩, rfl⟩
      exact AVle.of (congrArg (fun b => AV.d (boo b)) (by rw [onlyD_bad ha gk]; rfl))
    · skip
      have gk : (a.kind == 1) = true := by have h0 : (a.kind != 1) = false := h2; simpa using h0
      refine CW_skip ?_
      refine CW_region ?_
      refine OW_run' hE.ok 2 rfl ?_
      refine OW_end rfl ?_
      refine ⟨⟨i + 1, by omega, fun j x hj hx => ?_⟩, LE_sh (slh_set (v := .d (int ((i + 1 : Nat) : Int))) (slh_set (v := .d (int ((X.length : Nat) : Int))) (slh_set (v := .d (.sl 2 16 ((X).map encDl))) (slh_set (v := .d (.iptr (encP q))) (slh_set (v := .d (.iptr (encP p))) (slh_no _ _) (by rfl) rfl) (by rfl) rfl) (by rfl) rfl) (by rfl) rfl) (by show AV.d (.lit (.int .i64 (IntKind.i64.wrap ((i : Int) + 1)))) = _; rw [wrap_succ (by omega)]; rfl) rfl) (hlh_no _ _), by show X.length - (i + 1) < X.length - i; omega⟩
      by_cases hji : j = i
      · subst hji; rw [ha] at hx; cases hx; exact gk
      · exact hp j x (by omega) hx
  · skip
    have hge : X.length ≤ i := by have h0 : ¬ ((i : Int) < (X.length : Int)) := of_decide_eq_false h1; omega
    refine CW_exit ?_
    show CW _ _ _ _
    refine CW_seq ?_
    refine CW_region ?_
    refine OW_run' hE.ok 6 rfl ?_
    refine OW_end rfl ?_
    refine CW_ret ?_
    refine ⟨.inr rfl, rfl, ⟨_, rfl, rfl, ?_⟩, rfl⟩
    exact AVle.of (congrArg (fun b => AV.d (boo b)) (by rw [onlyD_all (fun j a hj => hp j a (by omega))]; rfl))
end Go.Proofs.YtjiknbjkbakegaaDoor
