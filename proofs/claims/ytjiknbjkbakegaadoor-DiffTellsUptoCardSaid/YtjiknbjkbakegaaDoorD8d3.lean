/- Parts of an abstract logic over the kit's walks, and walks in it: D8d3. -/
import Derived.Test.YtjiknbjkbakegaaDoorD8d2
namespace Go.Proofs.YtjiknbjkbakegaaDoor
open Go Go.AL
set_option linter.unusedVariables false
set_option linter.unusedSimpArgs false
set_option maxHeartbeats 4000000
theorem dTextOk (d : Dl) (hn : -9223372036854775808 ≤ d.pl ∧ d.pl ≤ 9223372036854775807) : Does Tryd.prog 14 [.agg ((encDl d).map .d)] noHeap (.d (str (textD d ⟨(Lib.itoa d.pl).toArray⟩))) := by
  refine Does_of T_ok mixed (N := 26) Tryd.func14 rfl rfl rfl (by rfl) fun F n Z hE hF J => ?_
  refine CW_seq ?_
  refine CW_region ?_
  refine OW_run' hE.ok 2 rfl ?_
  refine OW_end rfl ?_
  refine CW_seq ?_
  refine CW_seq ?_
  refine CW_region ?_
  refine OW_run' hE.ok 4 rfl ?_
  refine OW_split' 7 rfl (fun h1 => ?_) (fun h1 => ?_)
  · skip
    have y1 : decide (d.kind < 1) = true := h1
    refine OW_run' hE.ok 4 rfl ?_
    refine OW_end rfl ?_
    refine CW_true rfl ?_
    refine CW_seq ?_
    refine CW_region ?_
    refine OW_run' hE.ok 1 rfl ?_
    refine OW_end rfl ?_
    refine CW_ret ?_
    refine ⟨.inr rfl, rfl, ⟨_, rfl, rfl, ?_⟩, rfl⟩
    exact AVle.of (congrArg (fun b => AV.d (str b)) (by unfold textD; rw [y1]; rfl))
  · skip
    have y1 : decide (d.kind < 1) = false := h1
    refine OW_run' hE.ok 4 rfl ?_
    refine OW_end rfl ?_
    refine CW_cond _ rfl (fun h2 => ?_) (fun h2 => ?_)
    · skip
      have y2 : decide (d.kind > 9) = true := h2
      refine CW_seq ?_
      refine CW_region ?_
      refine OW_run' hE.ok 1 rfl ?_
      refine OW_end rfl ?_
      refine CW_ret ?_
      refine ⟨.inr rfl, rfl, ⟨_, rfl, rfl, ?_⟩, rfl⟩
      exact AVle.of (congrArg (fun b => AV.d (str b)) (by unfold textD; rw [y1, y2]; rfl))
    · skip
      have y2 : decide (d.kind > 9) = false := h2
      obtain ⟨k, hk, hk9⟩ : ∃ k : Nat, d.kind = ((k + 1 : Nat) : Int) ∧ k < 9 := ⟨(d.kind - 1).toNat, by have := of_decide_eq_false y1; have := of_decide_eq_false y2; omega, by have := of_decide_eq_false y1; have := of_decide_eq_false y2; omega⟩
      have hdl := itoa_few hn
      refine CW_skip ?_
      refine CW_seq ?_
      refine CW_region ?_
      refine OW_loc' hE (loc_buildA hE rfl (R := .agg ((nul :: nmD).map fun s => .d (str s))) (by kernel_rfl)) rfl rfl rfl ?_
      refine OW_run' hE.ok 2 rfl ?_
      refine OW_as' 14 (.d (int ((k + 1 : Nat) : Int))) (by show AV.d (.lit (.int .i64 d.kind)) = _; rw [hk]; rfl) ?_
      refine OW_loc' hE (loc_indexA hE rfl rfl rfl rfl (i := ((k + 1 : Nat) : Int)) rfl (by omega) (by omega) (R := .d (str (nmD.getD k nul))) (by exact nmD_load' hk9)) rfl rfl rfl ?_
      refine OW_run' hE.ok 1 rfl ?_
      refine OW_end rfl ?_
      refine CW_seq ?_
      refine CW_seq ?_
      refine CW_region ?_
      refine OW_run' hE.ok 3 rfl ?_
      refine OW_end rfl ?_
      refine CW_cond _ rfl (fun h3 => ?_) (fun h3 => ?_)
      · skip
        have y3 : decide (d.kind ≥ 5) = true := h3
        refine CW_region ?_
        refine OW_run' hE.ok 1 rfl ?_
        have nf := nmD_few k
        refine OW_loc' hE (loc_concat hE rfl rfl rfl (by show (nmD.getD k nul).size + 1 ≤ _; omega)) rfl rfl rfl ?_
        refine OW_run' hE.ok 2 rfl ?_
        refine OW_call' hE (decOk d.pl hn) rfl rfl rfl rfl rfl rfl rfl ?_
        refine OW_loc' hE (loc_concat hE rfl rfl rfl (by rw [ByteArray.size_append]; show (nmD.getD k nul).size + 1 + (Lib.itoa d.pl).toArray.size ≤ _; rw [List.size_toArray]; omega)) rfl rfl rfl ?_
        refine OW_run' hE.ok 1 rfl ?_
        refine OW_end rfl ?_
        refine CW_seq ?_
        refine CW_region ?_
        refine OW_run' hE.ok 2 rfl ?_
        refine OW_end rfl ?_
        refine CW_ret ?_
        refine ⟨.inr rfl, rfl, ⟨_, rfl, rfl, ?_⟩, rfl⟩
        exact AVle.of (congrArg (fun b => AV.d (str b)) (by rw [textD_at hk hk9, y3]; exact ByteArray.append_assoc ..))
      · skip
        have y3 : decide (d.kind ≥ 5) = false := h3
        refine CW_skip ?_
        refine CW_seq ?_
        refine CW_region ?_
        refine OW_run' hE.ok 2 rfl ?_
        refine OW_end rfl ?_
        refine CW_ret ?_
        refine ⟨.inr rfl, rfl, ⟨_, rfl, rfl, ?_⟩, rfl⟩
        exact AVle.of (congrArg (fun b => AV.d (str b)) (by rw [textD_at hk hk9, y3]; rfl))
end Go.Proofs.YtjiknbjkbakegaaDoor
