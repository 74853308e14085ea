/- Parts of an abstract logic over the kit's walks, and walks in it: P4nh. -/
import Derived.Test.YtojnicnbmgiplaaPxa
import Derived.Test.YtojnicnbmgiplaaNeed
import Derived.Test.YtojnicnbmgiplaaDe
namespace Go.Proofs.Ytojnicnbmgiplaa
open Go Go.AL
set_option linter.unusedVariables false
set_option linter.unusedSimpArgs false
set_option maxHeartbeats 4000000
theorem indexU (l : List Us) (u : Us) : Does Try.prog 88 [.d (.sl 2 32 (l.map encU)), argU u] noHeap (.d (int (idx (fun x => sameU u x) l))) := by
  refine Does_of T_ok mixed (N := 19) Try.func88 rfl rfl rfl (by rfl) fun F n Z hE hF J => ?_
  refine CW_know (know_sl (d := 0) rfl) fun hlen => ?_
  rw [List.length_map] at hlen
  refine CW_seq ?_
  refine CW_region ?_
  refine OW_run' hE.ok 2 rfl ?_
  refine OW_end rfl ?_
  refine CW_seq ?_
  refine CW_seq ?_
  refine CW_region ?_
  refine OW_run' hE.ok 3 rfl ?_
  refine OW_end rfl ?_
  refine CW_block ?_
  refine CW_loop (σ := {i : Nat // i ≤ l.length ∧ ∀ j a, j < i → l[j]? = some a → sameU u a = false}) (fun i => ⟨J, (sset (sset (sset (sset noSlots 0 (.d (.sl 2 32 (l.map encU)))) 3 (.d (.iptr (encU u)))) 7 (.d (int ((l.length : Nat) : Int)))) 8 (.d (int ((i.1 : Nat) : Int)))), noHeap⟩) (fun i => l.length - i.1) ⟨0, Nat.zero_le _, fun j a hj => by omega⟩ (LE_sh (slh_set (slh_set (slh_set (slh_set (slh_no _ _) rfl rfl) rfl rfl) (by show AV.d (.lit (.int .i64 ((l.map encU).length : Int))) = _; rw [List.length_map]; rfl) rfl) rfl rfl) (hlh_no _ _)) fun ⟨i, hi, hp⟩ => ?_
  refine CW_seq ?_
  refine CW_region ?_
  refine OW_run' hE.ok 1 rfl ?_
  refine OW_end rfl ?_
  refine CW_seq ?_
  refine CW_cond _ rfl (fun h1 => ?_) (fun h1 => ?_)
  · skip
    have hlt : i < l.length := by have := h1; simp at this; omega
    obtain ⟨a, ha⟩ : ∃ a, l[i]? = some a := ⟨_, List.getElem?_eq_getElem hlt⟩
    refine CW_skip ?_
    refine CW_seq ?_
    refine CW_block ?_
    refine CW_seq ?_
    refine CW_region ?_
    refine OW_run' hE.ok 2 rfl ?_
    refine OW_end rfl ?_
    refine CW_seq ?_
    refine CW_drawn' hE 5 (by decide +kernel) ?_
    refine HW_run hE 3 rfl rfl ?_
    refine HW_loc hE (loc_indexAddr hE rfl rfl rfl rfl rfl (by omega) (x := encU a) (by simp [ha])) rfl rfl rfl rfl ?_
    refine HW_run hE 1 rfl rfl ?_
    refine HW_end ?_
    refine OW_loc' hE (loc_eql rfl rfl rfl (r := sameU u a) (eqLaw_flat T_ok (t := 32) rfl (by decide +kernel) rfl (X := encU u) (Y := encU a) rfl rfl rfl)) rfl rfl rfl ?_
    refine OW_end rfl ?_
    refine CW_cond _ rfl (fun h2 => ?_) (fun h2 => ?_)
    · skip
      have g1 : sameU u a = true := h2
      refine CW_seq ?_
      refine CW_region ?_
      refine OW_run' hE.ok 2 rfl ?_
      refine OW_end rfl ?_
      refine CW_ret ?_
      refine ⟨.inr rfl, rfl, ⟨_, rfl, rfl, ?_⟩, rfl⟩
      rw [idx_some ha g1 hp]
      exact AVle.refl _
    · skip
      have g1 : sameU u a = false := h2
      refine CW_skip ?_
      refine CW_region ?_
      refine OW_run' hE.ok 2 rfl ?_
      refine OW_end rfl ?_
      refine ⟨⟨i + 1, by omega, fun j b hj hb => ?_⟩, LE_sh (slh_set (v := .d (int ((i + 1 : Nat) : Int))) (slh_set (v := .d (int ((l.length : Nat) : Int))) (slh_set (v := .d (.iptr (encU u))) (slh_set (v := .d (.sl 2 32 (l.map encU))) (slh_no _ _) (by rfl) rfl) (by rfl) rfl) (by rfl) rfl) (by show AV.d (.lit (.int .i64 (IntKind.i64.wrap ((i : Int) + 1)))) = _; rw [wrap_succ (by omega)]; rfl) rfl) (hlh_no _ _), by show l.length - (i + 1) < l.length - i; omega⟩
      by_cases hji : j = i
      · subst hji; rw [ha] at hb; cases hb; exact g1
      · exact hp j b (by omega) hb
  · skip
    have hge : ¬ i < l.length := by have := h1; simp at this; omega
    refine CW_exit ?_
    show CW _ _ _ _
    refine CW_seq ?_
    refine CW_region ?_
    refine OW_run' hE.ok 1 rfl ?_
    refine OW_end rfl ?_
    refine CW_ret ?_
    refine ⟨.inr rfl, rfl, ⟨_, rfl, rfl, ?_⟩, rfl⟩
    rw [idx_none (fun j b hj => hp j b (by omega))]
    exact AVle.refl _

theorem containsU (l : List Us) (u : Us) : Does Try.prog 52 [.d (.sl 2 32 (l.map encU)), argU u] noHeap (.d (boo (hasU l u))) := by
  refine Does_of T_ok mixed (N := 9) Try.func52 rfl rfl rfl (by rfl) fun F n Z hE hF J => ?_
  refine CW_seq ?_
  refine CW_region ?_
  refine OW_run' hE.ok 2 rfl ?_
  refine OW_end rfl ?_
  refine CW_seq ?_
  refine CW_region ?_
  refine OW_run' hE.ok 2 rfl ?_
  refine OW_call' hE (indexU l u) rfl rfl rfl rfl rfl rfl rfl ?_
  refine OW_run' hE.ok 2 rfl ?_
  refine OW_end rfl ?_
  refine CW_ret ?_
  refine ⟨.inr rfl, rfl, ⟨_, rfl, rfl, ?_⟩, rfl⟩
  exact AVle.of (congrArg (fun b => AV.d (boo b)) (idx_any _ l))

theorem hasUOk (l : List Us) (u : Us) : Does Try.prog 16 [.d (.sl 2 32 (l.map encU)), argU u] noHeap (.d (boo (hasU l u))) := by
  refine Does_of T_ok mixed (N := 8) Try.func16 rfl rfl rfl (by rfl) fun F n Z hE hF J => ?_
  refine CW_seq ?_
  refine CW_region ?_
  refine OW_run' hE.ok 2 rfl ?_
  refine OW_end rfl ?_
  refine CW_seq ?_
  refine CW_region ?_
  refine OW_run' hE.ok 2 rfl ?_
  refine OW_call' hE (containsU l u) rfl rfl rfl rfl rfl rfl rfl ?_
  refine OW_run' hE.ok 1 rfl ?_
  refine OW_end rfl ?_
  refine CW_ret ?_
  refine ⟨.inr rfl, rfl, ⟨_, rfl, rfl, ?_⟩, rfl⟩
  exact AVle.refl _
end Go.Proofs.Ytojnicnbmgiplaa
