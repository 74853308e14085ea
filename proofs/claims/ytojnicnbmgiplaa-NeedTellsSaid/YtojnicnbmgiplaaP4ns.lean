/- Parts of an abstract logic over the kit's walks, and walks in it: P4ns. -/
import Derived.Test.YtojnicnbmgiplaaPxa
import Derived.Test.YtojnicnbmgiplaaNeed3
import Derived.Test.YtojnicnbmgiplaaEz
namespace Go.Proofs.Ytojnicnbmgiplaa
open Go Go.AL
set_option linter.unusedVariables false
set_option linter.unusedSimpArgs false
set_option maxHeartbeats 4000000
theorem sameUsOk (a b : List Us) : Does Try.prog 15 [.d (.sl 2 32 (a.map encU)), .d (.sl 2 32 (b.map encU))] noHeap (.d (boo (sameUs a b))) := by
  refine Does_of T_ok mixed (N := 26) Try.func15 rfl rfl rfl (by rfl) fun F n Z hE hF J => ?_
  refine CW_know (know_sl (d := 0) rfl) fun hlen => ?_
  rw [List.length_map] at hlen
  refine CW_seq ?_
  refine CW_region ?_
  refine OW_run' hE.ok 1 rfl ?_
  refine OW_end rfl ?_
  refine CW_seq ?_
  refine CW_seq ?_
  refine CW_region ?_
  refine OW_run' hE.ok 5 rfl ?_
  refine OW_end rfl ?_
  refine CW_cond _ rfl (fun h1 => ?_) (fun h1 => ?_)
  · skip
    have hne : a.length ≠ b.length := by have := h1; rw [List.length_map, List.length_map] at this; simp at this; omega
    refine CW_seq ?_
    refine CW_region ?_
    refine OW_run' hE.ok 1 rfl ?_
    refine OW_end rfl ?_
    refine CW_ret ?_
    refine ⟨.inr rfl, rfl, ⟨_, rfl, rfl, ?_⟩, rfl⟩
    exact AVle.of (congrArg (fun b => AV.d (boo b)) (by rw [sameUs, allSame_len hne]))
  · skip
    have hll : a.length = b.length := by have := h1; rw [List.length_map, List.length_map] at this; simp at this; omega
    refine CW_skip ?_
    refine CW_seq ?_
    refine CW_seq ?_
    refine CW_region ?_
    refine OW_run' hE.ok 1 rfl ?_
    refine OW_end rfl ?_
    refine CW_block ?_
    refine CW_loop (σ := {i : Nat // i ≤ a.length ∧ ∀ j x y, j < i → a[j]? = some x → b[j]? = some y → sameU x y = true}) (fun i => ⟨J, (sset (sset (sset noSlots 0 (.d (.sl 2 32 (a.map encU)))) 1 (.d (.sl 2 32 (b.map encU)))) 5 (.d (int ((i.1 : Nat) : Int)))), noHeap⟩) (fun i => a.length - i.1) ⟨0, Nat.zero_le _, fun j x y hj => by omega⟩ (LE_sh (slh_set (slh_set (slh_set (slh_no _ _) rfl rfl) rfl rfl) rfl rfl) (hlh_no _ _)) fun ⟨i, hi, hp⟩ => ?_
    refine CW_seq ?_
    refine CW_seq ?_
    refine CW_region ?_
    refine OW_run' hE.ok 4 rfl ?_
    refine OW_end rfl ?_
    refine CW_cond _ rfl (fun h2 => ?_) (fun h2 => ?_)
    · skip
      have hlt : i < a.length := by have := h2; rw [List.length_map] at this; simp at this; omega
      obtain ⟨x, hx⟩ : ∃ x, a[i]? = some x := ⟨_, List.getElem?_eq_getElem hlt⟩
      obtain ⟨y, hy⟩ : ∃ y, b[i]? = some y := ⟨_, List.getElem?_eq_getElem (by omega)⟩
      refine CW_skip ?_
      refine CW_seq ?_
      refine CW_block ?_
      refine CW_seq ?_
      refine CW_drawn' hE 8 (by decide +kernel) ?_
      refine HW_run hE 2 rfl rfl ?_
      refine HW_loc hE (loc_indexAddr hE rfl rfl rfl rfl rfl (by omega) (x := encU x) (by simp [hx])) rfl rfl rfl rfl ?_
      refine HW_run hE 3 rfl rfl ?_
      refine HW_loc hE (loc_indexAddr hE rfl rfl rfl rfl rfl (by omega) (x := encU y) (by simp [hy])) rfl rfl rfl rfl ?_
      refine HW_run hE 1 rfl rfl ?_
      refine HW_end ?_
      refine OW_loc' hE (loc_neq rfl rfl rfl (r := sameU x y) (eqLaw_flat T_ok (t := 32) rfl (by decide +kernel) rfl (X := encU x) (Y := encU y) rfl rfl rfl)) rfl rfl rfl ?_
      refine OW_end rfl ?_
      refine CW_cond _ rfl (fun h3 => ?_) (fun h3 => ?_)
      · skip
        have g1 : sameU x y = false := by have h9 : (!sameU x y) = true := h3; simpa using h9
        refine CW_seq ?_
        refine CW_region ?_
        refine OW_run' hE.ok 1 rfl ?_
        refine OW_end rfl ?_
        refine CW_ret ?_
        refine ⟨.inr rfl, rfl, ⟨_, rfl, rfl, ?_⟩, rfl⟩
        exact AVle.of (congrArg (fun b => AV.d (boo b)) (by rw [sameUs, allSame_ne hx hy g1]))
      · skip
        have g1 : sameU x y = true := by have h9 : (!sameU x y) = false := h3; simpa using h9
        refine CW_skip ?_
        refine CW_region ?_
        refine OW_run' hE.ok 3 rfl ?_
        refine OW_end rfl ?_
        refine ⟨⟨i + 1, by omega, fun j u v hj hu hv => ?_⟩, LE_sh (slh_set (v := .d (int ((i + 1 : Nat) : Int))) (slh_set (v := .d (.sl 2 32 (b.map encU))) (slh_set (v := .d (.sl 2 32 (a.map encU))) (slh_no _ _) (by rfl) rfl) (by rfl) rfl) (by show AV.d (.lit (.int .i64 (IntKind.i64.wrap ((i : Int) + 1)))) = _; rw [wrap_succ (by omega)]; rfl) rfl) (hlh_no _ _), by show a.length - (i + 1) < a.length - i; omega⟩
        by_cases hji : j = i
        · subst hji; rw [hx] at hu; rw [hy] at hv; cases hu; cases hv; exact g1
        · exact hp j u v (by omega) hu hv
    · skip
      have hge : a.length ≤ i := by have := h2; rw [List.length_map] at this; simp at this; omega
      refine CW_exit ?_
      show CW _ _ _ _
      refine CW_seq ?_
      refine CW_region ?_
      refine OW_run' hE.ok 1 rfl ?_
      refine OW_end rfl ?_
      refine CW_ret ?_
      refine ⟨.inr rfl, rfl, ⟨_, rfl, rfl, ?_⟩, rfl⟩
      exact AVle.of (congrArg (fun b => AV.d (boo b)) (by rw [sameUs, allSame_all hll (fun j x y hj => hp j x y (by omega))]))

theorem refSameEOk (a b : Ev) : Does Try.prog 18 [argE a, argE b] noHeap (.d (boo (sameEv a b))) := by
  refine Does_of T_ok mixed (N := 45) Try.func18 rfl rfl rfl (by rfl) fun F n Z hE hF J => ?_
  refine CW_seq ?_
  refine CW_region ?_
  refine OW_run' hE.ok 3 rfl ?_
  refine OW_end rfl ?_
  refine CW_seq ?_
  refine CW_seq ?_
  refine CW_region ?_
  refine OW_run' hE.ok 6 rfl ?_
  refine OW_split' 11 rfl (fun h1 => ?_) (fun h1 => ?_)
  · skip
    have g1 : (!(a.ty.toList == b.ty.toList)) = true := h1
    refine OW_run' hE.ok 15 rfl ?_
    refine OW_end rfl ?_
    refine CW_true rfl ?_
    refine CW_seq ?_
    refine CW_region ?_
    refine OW_run' hE.ok 1 rfl ?_
    refine OW_end rfl ?_
    refine CW_ret ?_
    refine ⟨.inr rfl, rfl, ⟨_, rfl, rfl, ?_⟩, rfl⟩
    exact AVle.of (congrArg (fun b => AV.d (boo b)) (by rw [evS_ty g1]))
  · skip
    have g1 : (!(a.ty.toList == b.ty.toList)) = false := h1
    refine OW_run' hE.ok 7 rfl ?_
    refine OW_split' 18 rfl (fun h2 => ?_) (fun h2 => ?_)
    · skip
      have g2 : (a.ts != b.ts) = true := h2
      refine OW_run' hE.ok 8 rfl ?_
      refine OW_end rfl ?_
      refine CW_true rfl ?_
      refine CW_seq ?_
      refine CW_region ?_
      refine OW_run' hE.ok 1 rfl ?_
      refine OW_end rfl ?_
      refine CW_ret ?_
      refine ⟨.inr rfl, rfl, ⟨_, rfl, rfl, ?_⟩, rfl⟩
      exact AVle.of (congrArg (fun b => AV.d (boo b)) (by rw [evS_ts g2]))
    · skip
      have g2 : (a.ts != b.ts) = false := h2
      refine OW_run' hE.ok 8 rfl ?_
      refine OW_end rfl ?_
      refine CW_cond _ rfl (fun h3 => ?_) (fun h3 => ?_)
      · skip
        have g3 : a.vals.length ≠ b.vals.length := by have := h3; simp at this; omega
        refine CW_seq ?_
        refine CW_region ?_
        refine OW_run' hE.ok 1 rfl ?_
        refine OW_end rfl ?_
        refine CW_ret ?_
        refine ⟨.inr rfl, rfl, ⟨_, rfl, rfl, ?_⟩, rfl⟩
        exact AVle.of (congrArg (fun b => AV.d (boo b)) (by rw [evS_len g3]))
      · skip
        have g3 : a.vals.length = b.vals.length := by have := h3; simp at this; omega
        refine CW_skip ?_
        refine CW_seq ?_
        refine CW_seq ?_
        refine CW_region ?_
        refine OW_run' hE.ok 1 rfl ?_
        refine OW_end rfl ?_
        refine CW_block ?_
        skip
        refine CW_loop (σ := {i : Nat // i ≤ a.vals.length ∧ ∀ (j : Nat) (x y : Vl), j < i → a.vals[j]? = some x → b.vals[j]? = some y → sameV x y = true}) (fun i => ⟨J, (sset (sset (sset noSlots 2 (.d (.iptr (encE a)))) 3 (.d (.iptr (encE b)))) 5 (.d (int ((i.1 : Nat) : Int)))), noHeap⟩) (fun i => a.vals.length - i.1) ⟨0, Nat.zero_le _, fun j x y hj => by omega⟩ (LE_sh (slh_set (slh_set (slh_set (slh_no _ _) rfl rfl) rfl rfl) rfl rfl) (hlh_no _ _)) fun ⟨i, hi, hp⟩ => ?_
        refine CW_seq ?_
        refine CW_seq ?_
        refine CW_region ?_
        refine OW_run' hE.ok 5 rfl ?_
        refine OW_end rfl ?_
        refine CW_cond _ rfl (fun h4 => ?_) (fun h4 => ?_)
        · skip
          refine CW_know (know_sl (d := 29) rfl) fun hlen => ?_
          simp only [List.length_map] at hlen
          have hlt : i < a.vals.length := by have := h4; simp at this; omega
          obtain ⟨x, hx⟩ : ∃ x, a.vals[i]? = some x := ⟨_, List.getElem?_eq_getElem hlt⟩
          obtain ⟨y, hy⟩ : ∃ y, b.vals[i]? = some y := ⟨_, List.getElem?_eq_getElem (by omega)⟩
          refine CW_skip ?_
          refine CW_seq ?_
          refine CW_block ?_
          refine CW_seq ?_
          refine CW_drawn' hE 10 (by decide +kernel) ?_
          refine HW_run hE 3 rfl rfl ?_
          refine HW_loc hE (loc_indexAddr hE rfl rfl rfl rfl rfl (by omega) (x := encV x) (by simp [hx])) rfl rfl rfl rfl ?_
          refine HW_run hE 4 rfl rfl ?_
          refine HW_loc hE (loc_indexAddr hE rfl rfl rfl rfl rfl (by omega) (x := encV y) (by simp [hy])) rfl rfl rfl rfl ?_
          refine HW_run hE 1 rfl rfl ?_
          refine HW_end ?_
          refine OW_loc' hE (loc_neq rfl rfl rfl (r := sameV x y) (eqLaw_flat T_ok (t := 61) rfl (by decide +kernel) rfl (X := encV x) (Y := encV y) rfl rfl rfl)) rfl rfl rfl ?_
          refine OW_end rfl ?_
          refine CW_cond _ rfl (fun h5 => ?_) (fun h5 => ?_)
          · skip
            have hdiff : sameV x y = false := by simpa using h5
            refine CW_seq ?_
            refine CW_region ?_
            refine OW_run' hE.ok 1 rfl ?_
            refine OW_end rfl ?_
            refine CW_ret ?_
            refine ⟨.inr rfl, rfl, ⟨_, rfl, rfl, ?_⟩, rfl⟩
            exact AVle.of (congrArg (fun b => AV.d (boo b)) (by rw [evS_val hx hy hdiff]))
          · skip
            have hsame : sameV x y = true := by simpa using h5
            refine CW_skip ?_
            refine CW_region ?_
            refine OW_run' hE.ok 3 rfl ?_
            refine OW_end rfl ?_
            refine ⟨⟨i + 1, by omega, fun j u v hj hu hv => ?_⟩, LE_sh (slh_set (v := .d (int ((i + 1 : Nat) : Int))) (slh_set (v := .d (.iptr (encE b))) (slh_set (v := .d (.iptr (encE a))) (slh_no _ _) (by rfl) rfl) (by rfl) rfl) (by show AV.d (.lit (.int .i64 (IntKind.i64.wrap ((i : Int) + 1)))) = _; rw [wrap_succ (by omega)]; rfl) rfl) (hlh_no _ _), by show a.vals.length - (i + 1) < a.vals.length - i; omega⟩
            by_cases hji : j = i
            · subst hji; rw [hx] at hu; rw [hy] at hv; cases hu; cases hv; exact hsame
            · exact hp j u v (by omega) hu hv
        · skip
          have hge : a.vals.length ≤ i := by have := h4; simp at this; omega
          refine CW_exit ?_
          show CW _ _ _ _
          refine CW_seq ?_
          refine CW_region ?_
          refine OW_run' hE.ok 1 rfl ?_
          refine OW_end rfl ?_
          refine CW_ret ?_
          refine ⟨.inr rfl, rfl, ⟨_, rfl, rfl, ?_⟩, rfl⟩
          exact AVle.of (congrArg (fun b => AV.d (boo b)) (by rw [evS_ok g1 g2 g3 (fun j u v hj => hp j u v (by have := (List.getElem?_eq_some_iff.1 hj).1; omega) hj)]))
end Go.Proofs.Ytojnicnbmgiplaa
