/- Parts of an abstract logic over the kit's walks, and walks in it: D8k. -/
import Derived.Test.YtjiknbjkbakegaaDoorD8i
import Derived.Test.YtjiknbjkbakegaaDoorD8xp
import Derived.Test.YtjiknbjkbakegaaDoorDif2
namespace Go.Proofs.YtjiknbjkbakegaaDoor
open Go Go.AL
set_option linter.unusedVariables false
set_option linter.unusedSimpArgs false
set_option maxHeartbeats 4000000
theorem elemFn (a b : El) : Does Tryd.prog 24 [argL a, argL b] noHeap (.d (.fn (.func 39) [] [.iptr (encL a), .iptr (encL b)])) := by
  refine Does_of T_ok mixed (N := 6) Tryd.func24 rfl rfl rfl (by rfl) fun F n Z hE hF J => ?_
  obtain ⟨y1, y2, y3, y4, y5, y6, y7, y8, y9, rfl⟩ := El.shape a
  obtain ⟨z1, z2, z3, z4, z5, z6, z7, z8, z9, rfl⟩ := El.shape b
  refine CW_seq ?_
  refine CW_region ?_
  refine OW_run' hE.ok 3 rfl ?_
  refine OW_end rfl ?_
  refine CW_seq ?_
  refine CW_region ?_
  refine OW_run' hE.ok 2 rfl ?_
  refine OW_end rfl ?_
  refine CW_ret ?_
  refine ⟨.inr rfl, rfl, ⟨_, rfl, rfl, ?_⟩, rfl⟩
  exact AVle.refl _

theorem elem1 (a b : El) : Iter Tryd.prog 39 [] [.d (.iptr (encL a)), .d (.iptr (encL b))] (ysK (difB a b) 5) := by
  refine Iter_of T_ok mixed (N := 47) Tryd.func39 rfl rfl rfl (by rfl) fun F n Z hE hF l C X hC hX hy => ?_
  obtain ⟨y1, y2, y3, y4, y5, y6, y7, y8, y9, rfl⟩ := El.shape a
  obtain ⟨z1, z2, z3, z4, z5, z6, z7, z8, z9, rfl⟩ := El.shape b
  refine CW_seq ?_
  refine CW_fork hE 29 (by decide +kernel) ?_
  refine HW_run hE 9 rfl rfl ?_
  refine HW_call hE (equalS y2 z2) rfl rfl rfl rfl rfl rfl rfl rfl ?_
  refine HW_run hE 15 rfl rfl ?_
  refine HW_call hE (sameXOk (.mk y5 y6 y7 y8 y9) (.mk z5 z6 z7 z8 z9)) rfl rfl rfl rfl rfl rfl rfl rfl ?_
  refine HW_run hE 1 rfl rfl ?_
  refine HW_loc hE (loc_buildA hE rfl rfl) rfl rfl rfl rfl ?_
  refine HW_run hE 1 rfl rfl ?_
  refine AW_end (by decide +kernel) ?_
  refine CW_block ?_
  refine CW_loop (σ := {i : Nat // i ≤ 5}) (fun i => ⟨C (kindsB ((difB ⟨y1, y2, y3, y4, .mk y5 y6 y7 y8 y9⟩ ⟨z1, z2, z3, z4, .mk z5 z6 z7 z8 z9⟩).take i.1) 5).length, (sset (sset (sset noSlots 0 (.d (.fn (.yield l) [] []))) 33 (.agg ((difB ⟨y1, y2, y3, y4, .mk y5 y6 y7 y8 y9⟩ ⟨z1, z2, z3, z4, .mk z5 z6 z7 z8 z9⟩).map fun b => .d (boo b)))) 34 (.d (int ((i.1 : Nat) : Int)))), noHeap⟩) (fun i => 5 - i.1) ⟨0, Nat.zero_le _⟩ (LE_sh (slh_set (slh_set (slh_set (slh_no _ _) rfl rfl) rfl rfl) rfl rfl) (hlh_no _ _)) fun ⟨i, hi⟩ => ?_
  refine CW_seq ?_
  refine CW_region ?_
  refine OW_run' hE.ok 1 rfl ?_
  refine OW_end rfl ?_
  refine CW_seq ?_
  refine CW_cond _ rfl (fun h1 => ?_) (fun h1 => ?_)
  · skip
    have hlt : i < 5 := by have h0 : (i : Int) < 5 := of_decide_eq_true h1; omega
    obtain ⟨bb, hbb⟩ : ∃ bb, (difB ⟨y1, y2, y3, y4, .mk y5 y6 y7 y8 y9⟩ ⟨z1, z2, z3, z4, .mk z5 z6 z7 z8 z9⟩)[i]? = some bb := ⟨_, List.getElem?_eq_getElem (by show i < 5; exact hlt)⟩
    refine CW_skip ?_
    refine CW_seq ?_
    refine CW_block ?_
    refine CW_seq ?_
    refine CW_region ?_
    refine OW_run' hE.ok 1 rfl ?_
    refine OW_loc' hE (loc_indexA hE rfl rfl rfl rfl (i := ((i : Nat) : Int)) rfl (by omega) (by omega) (R := .d (boo bb)) (by exact kindsB_cell hbb)) rfl rfl rfl ?_
    refine OW_run' hE.ok 2 rfl ?_
    refine OW_end rfl ?_
    refine CW_seq ?_
    refine CW_region ?_
    refine OW_run' hE.ok 2 rfl ?_
    refine OW_split' 39 rfl (fun h2 => ?_) (fun h2 => ?_)
    · skip
      have ht : bb = true := h2
      refine OW_run' hE.ok 3 rfl ?_
      refine OW_as' 42 (.d (int ((5 + i : Nat) : Int))) (by show AV.d (.lit (.int .i64 (IntKind.i64.wrap (5 + ((i : Nat) : Int))))) = _; rw [show (5 + ((i : Nat) : Int)) = ((5 + i : Nat) : Int) by omega, wrapN (by omega)]; rfl) ?_
      refine OW_yield' hE hy hC hX (Wrap.id _) ((kindsB ((difB ⟨y1, y2, y3, y4, .mk y5 y6 y7 y8 y9⟩ ⟨z1, z2, z3, z4, .mk z5 z6 z7 z8 z9⟩).take i) 5).length) rfl rfl rfl rfl rfl rfl (kindsB_get hbb ht) rfl rfl rfl ?_ ?_
      · skip
        refine OW_run' hE.ok 2 rfl ?_
        refine OW_end rfl ?_
        refine CW_false rfl ?_
        refine CW_skip ?_
        refine CW_region ?_
        refine OW_run' hE.ok 2 rfl ?_
        refine OW_end rfl ?_
        refine ⟨⟨i + 1, by omega⟩, ?_, by show 5 - (i + 1) < 5 - i; omega⟩
        show LE _ _ ⟨C (kindsB ((difB ⟨y1, y2, y3, y4, .mk y5 y6 y7 y8 y9⟩ ⟨z1, z2, z3, z4, .mk z5 z6 z7 z8 z9⟩).take (i + 1)) 5).length, _, _⟩
        rw [kindsB_t hbb ht]
        exact LE_sh (slh_set (v := .d (int ((i + 1 : Nat) : Int))) (slh_set (v := .agg ((difB ⟨y1, y2, y3, y4, .mk y5 y6 y7 y8 y9⟩ ⟨z1, z2, z3, z4, .mk z5 z6 z7 z8 z9⟩).map fun b => .d (boo b))) (slh_set (v := .d (.fn (.yield l) [] [])) (slh_no _ _) (by rfl) rfl) (by rfl) rfl) (by show AV.d (.lit (.int .i64 (IntKind.i64.wrap ((i : Int) + 1)))) = _; rw [wrap_succ (by omega)]; rfl) rfl) (hlh_no _ _)
      · skip
        refine OW_run' hE.ok 2 rfl ?_
        refine OW_end rfl ?_
        refine CW_true rfl ?_
        exact CW_ret ⟨.inr rfl, .inr rfl, _, rfl⟩
    · skip
      have ht : bb = false := h2
      refine OW_run' hE.ok 6 rfl ?_
      refine OW_end rfl ?_
      refine CW_false rfl ?_
      refine CW_skip ?_
      refine CW_region ?_
      refine OW_run' hE.ok 2 rfl ?_
      refine OW_end rfl ?_
      refine ⟨⟨i + 1, by omega⟩, ?_, by show 5 - (i + 1) < 5 - i; omega⟩
      show LE _ _ ⟨C (kindsB ((difB ⟨y1, y2, y3, y4, .mk y5 y6 y7 y8 y9⟩ ⟨z1, z2, z3, z4, .mk z5 z6 z7 z8 z9⟩).take (i + 1)) 5).length, _, _⟩
      rw [kindsB_f hbb ht]
      exact LE_sh (slh_set (v := .d (int ((i + 1 : Nat) : Int))) (slh_set (v := .agg ((difB ⟨y1, y2, y3, y4, .mk y5 y6 y7 y8 y9⟩ ⟨z1, z2, z3, z4, .mk z5 z6 z7 z8 z9⟩).map fun b => .d (boo b))) (slh_set (v := .d (.fn (.yield l) [] [])) (slh_no _ _) (by rfl) rfl) (by rfl) rfl) (by show AV.d (.lit (.int .i64 (IntKind.i64.wrap ((i : Int) + 1)))) = _; rw [wrap_succ (by omega)]; rfl) rfl) (hlh_no _ _)
  · skip
    have hge : 5 ≤ i := by have h0 : ¬ ((i : Int) < 5) := of_decide_eq_false h1; omega
    refine CW_exit ?_
    have hN : (difB ⟨y1, y2, y3, y4, .mk y5 y6 y7 y8 y9⟩ ⟨z1, z2, z3, z4, .mk z5 z6 z7 z8 z9⟩).take i = difB ⟨y1, y2, y3, y4, .mk y5 y6 y7 y8 y9⟩ ⟨z1, z2, z3, z4, .mk z5 z6 z7 z8 z9⟩ := List.take_of_length_le (by show 5 ≤ i; exact hge)
    show RetI _ _ _ _ .normal _
    exact ⟨.inl rfl, .inl (by show C _ = _; rw [hN]; unfold ysK; rw [List.length_map]), _, rfl⟩
end Go.Proofs.YtjiknbjkbakegaaDoor
