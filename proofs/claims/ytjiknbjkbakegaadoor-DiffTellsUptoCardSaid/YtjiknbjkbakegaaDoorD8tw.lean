/- Parts of an abstract logic over the kit's walks, and walks in it: D8tw. -/
import Derived.Test.YtjiknbjkbakegaaDoorD8it
import Derived.Test.YtjiknbjkbakegaaDoorDif2
import Derived.Test.YtjiknbjkbakegaaDoorAe
namespace Go.Proofs.YtjiknbjkbakegaaDoor
open Go Go.AL
set_option linter.unusedVariables false
set_option linter.unusedSimpArgs false
set_option maxHeartbeats 4000000
theorem textW (d : Dl) (hn : -9223372036854775808 ≤ d.pl ∧ d.pl ≤ 9223372036854775807) : DoesW Tryd.prog Tab 13 [.agg ((encDl d).map .d)] (.d (str (textD d ⟨(Lib.itoa d.pl).toArray⟩))) := by
  refine DoesW_of tab_grew T_ok mixed (N := 29) Tryd.func13 rfl rfl rfl (by rfl) fun F n Z hE hF J hJ => ?_
  have hz : (⟨(Lib.itoa d.pl).toArray⟩ : ByteArray).size ≤ 1000 := by have := itoa_few hn; show (Lib.itoa d.pl).toArray.size ≤ _; rw [List.size_toArray]; omega
  obtain ⟨z, hzz⟩ : ∃ z, (⟨(Lib.itoa d.pl).toArray⟩ : ByteArray) = z := ⟨_, rfl⟩
  have hI := itoaW d.pl
  rw [hzz] at hI hz
  rw [hzz]
  clear hzz
  refine CW_seq ?_
  refine CW_region ?_
  refine OW_run' hE.ok 2 rfl ?_
  refine OW_end rfl ?_
  refine CW_seq ?_
  refine CW_region ?_
  refine OW_loc' hE (loc_buildA hE rfl (R := .agg (nmD.map fun s => .d (str s))) (by kernel_rfl)) rfl rfl rfl ?_
  refine OW_alloc' hE 1 rfl rfl rfl rfl rfl rfl rfl ?_
  refine OW_store' hE rfl rfl rfl rfl rfl rfl rfl rfl rfl rfl rfl rfl ?_
  refine OW_end rfl ?_
  refine CW_seq ?_
  refine CW_seq ?_
  refine CW_region ?_
  refine OW_run' hE.ok 4 rfl ?_
  refine OW_split' 9 rfl (fun h1 => ?_) (fun h1 => ?_)
  · skip
    have y1 : decide (d.kind < 1) = true := h1
    refine OW_run' hE.ok 4 rfl ?_
    refine OW_end rfl ?_
    refine CW_true rfl ?_
    refine CW_seq ?_
    refine CW_region ?_
    refine OW_run' hE.ok 1 rfl ?_
    refine OW_end rfl ?_
    refine CW_ret ?_
    refine ⟨.inr rfl, rfl, ⟨_, rfl, rfl, ?_⟩, rfl⟩
    exact AVle.of (congrArg (fun b => AV.d (str b)) (by unfold textD; rw [y1]; rfl))
  · skip
    have y1 : decide (d.kind < 1) = false := h1
    refine OW_run' hE.ok 4 rfl ?_
    refine OW_end rfl ?_
    refine CW_cond _ rfl (fun h2 => ?_) (fun h2 => ?_)
    · skip
      have y2 : decide (d.kind > 9) = true := h2
      refine CW_seq ?_
      refine CW_region ?_
      refine OW_run' hE.ok 1 rfl ?_
      refine OW_end rfl ?_
      refine CW_ret ?_
      refine ⟨.inr rfl, rfl, ⟨_, rfl, rfl, ?_⟩, rfl⟩
      exact AVle.of (congrArg (fun b => AV.d (str b)) (by unfold textD; rw [y1, y2]; rfl))
    · skip
      have y2 : decide (d.kind > 9) = false := h2
      obtain ⟨k, hk, hk9⟩ : ∃ k : Nat, d.kind = ((k + 1 : Nat) : Int) ∧ k < 9 := ⟨(d.kind - 1).toNat, by have := of_decide_eq_false y1; have := of_decide_eq_false y2; omega, by have := of_decide_eq_false y1; have := of_decide_eq_false y2; omega⟩
      refine CW_skip ?_
      refine CW_seq ?_
      refine CW_region ?_
      refine OW_run' hE.ok 3 rfl ?_
      refine OW_as' 16 (.d (int ((k : Nat) : Int))) (by show AV.d (.lit (.int .i64 (IntKind.i64.wrap (d.kind - 1)))) = _; rw [hk, show (((k + 1 : Nat) : Int) - 1) = ((k : Nat) : Int) by omega, wrapN (by omega)]; rfl) ?_
      refine OW_loc' hE (loc_addrA hE rfl rfl rfl rfl (i := ((k : Nat) : Int)) rfl (by omega) (by omega)) rfl rfl rfl ?_
      refine OW_as' 17 (.ptr 1 k) (by show AV.ptr 1 (0 + ((k : Nat) : Int).toNat * 1) = _; rw [Int.toNat_natCast, Nat.zero_add, Nat.mul_one]) ?_
      refine OW_loc' hE (loc_loadBox hE rfl rfl rfl rfl (by exact nmD_load hk9)) rfl rfl rfl ?_
      refine OW_run' hE.ok 1 rfl ?_
      refine OW_end rfl ?_
      refine CW_seq ?_
      refine CW_seq ?_
      refine CW_region ?_
      refine OW_run' hE.ok 3 rfl ?_
      refine OW_end rfl ?_
      refine CW_cond _ rfl (fun h3 => ?_) (fun h3 => ?_)
      · skip
        have y3 : decide (d.kind ≥ 5) = true := h3
        refine CW_region ?_
        refine OW_run' hE.ok 3 rfl ?_
        refine OW_callW' hE hI hJ rfl rfl rfl rfl rfl rfl rfl ?_
        refine OW_loc' hE (loc_concat hE rfl rfl rfl (by show 1 + z.size ≤ _; omega)) rfl rfl rfl ?_
        refine OW_loc' hE (loc_concat hE rfl rfl rfl (by have := nmD_few k; rw [ByteArray.size_append]; show (nmD.getD k nul).size + (1 + z.size) ≤ _; omega)) rfl rfl rfl ?_
        refine OW_run' hE.ok 1 rfl ?_
        refine OW_end rfl ?_
        refine CW_seq ?_
        refine CW_region ?_
        refine OW_run' hE.ok 2 rfl ?_
        refine OW_end rfl ?_
        refine CW_ret ?_
        refine ⟨.inr rfl, rfl, ⟨_, rfl, rfl, ?_⟩, rfl⟩
        exact AVle.of (congrArg (fun b => AV.d (str b)) (by rw [textD_at hk hk9, y3]; rfl))
      · skip
        have y3 : decide (d.kind ≥ 5) = false := h3
        refine CW_skip ?_
        refine CW_seq ?_
        refine CW_region ?_
        refine OW_run' hE.ok 2 rfl ?_
        refine OW_end rfl ?_
        refine CW_ret ?_
        refine ⟨.inr rfl, rfl, ⟨_, rfl, rfl, ?_⟩, rfl⟩
        exact AVle.of (congrArg (fun b => AV.d (str b)) (by rw [textD_at hk hk9, y3]; rfl))
end Go.Proofs.YtjiknbjkbakegaaDoor
