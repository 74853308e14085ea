/- Parts of an abstract logic over the kit's walks, and walks in it: P4no. -/
import Derived.Test.YtojnicnbmgiplaaPxd
import Derived.Test.YtojnicnbmgiplaaNeed
import Derived.Test.YtojnicnbmgiplaaAg
namespace Go.Proofs.Ytojnicnbmgiplaa
open Go Go.AL
set_option linter.unusedVariables false
set_option linter.unusedSimpArgs false
set_option maxHeartbeats 4000000
theorem isNaNS (s : ByteArray) : Does Try.prog 85 [.d (str s)] noHeap (.d (boo false)) := by
  refine Does_of T_ok mixed (N := 6) Try.func85 rfl rfl rfl (by rfl) fun F n Z hE hF J => ?_
  refine CW_seq ?_
  refine CW_region ?_
  refine OW_run' hE.ok 1 rfl ?_
  refine OW_end rfl ?_
  refine CW_seq ?_
  refine CW_region ?_
  refine OW_run' hE.ok 4 rfl ?_
  refine OW_end rfl ?_
  refine CW_ret ?_
  refine ⟨.inr rfl, rfl, ⟨_, rfl, rfl, ?_⟩, rfl⟩
  exact AVle.of (congrArg (fun b => AV.d (boo b)) (by simp))

theorem cmpSOk (a b : ByteArray) : Does Try.prog 48 [.d (str a), .d (str b)] noHeap (.d (int (cmpS a b))) := by
  refine Does_of T_ok mixed (N := 20) Try.func48 rfl rfl rfl (by rfl) fun F n Z hE hF J => ?_
  refine CW_seq ?_
  refine CW_region ?_
  refine OW_run' hE.ok 1 rfl ?_
  refine OW_end rfl ?_
  refine CW_seq ?_
  refine CW_region ?_
  refine OW_run' hE.ok 1 rfl ?_
  refine OW_call' hE (isNaNS a) rfl rfl rfl rfl rfl rfl rfl ?_
  refine OW_run' hE.ok 1 rfl ?_
  refine OW_end rfl ?_
  refine CW_seq ?_
  refine CW_region ?_
  refine OW_run' hE.ok 1 rfl ?_
  refine OW_call' hE (isNaNS b) rfl rfl rfl rfl rfl rfl rfl ?_
  refine OW_run' hE.ok 1 rfl ?_
  refine OW_end rfl ?_
  refine CW_seq ?_
  refine CW_seq ?_
  refine CW_region ?_
  refine OW_run' hE.ok 1 rfl ?_
  refine OW_end rfl ?_
  refine CW_false rfl ?_
  refine CW_skip ?_
  refine CW_seq ?_
  refine CW_seq ?_
  refine CW_region ?_
  refine OW_run' hE.ok 1 rfl ?_
  refine OW_end rfl ?_
  refine CW_false rfl ?_
  refine CW_skip ?_
  refine CW_seq ?_
  refine CW_seq ?_
  refine CW_region ?_
  refine OW_run' hE.ok 3 rfl ?_
  refine OW_end rfl ?_
  refine CW_cond _ rfl (fun h1 => ?_) (fun h1 => ?_)
  · skip
    have g1 : less a b = true := h1
    refine CW_seq ?_
    refine CW_region ?_
    refine OW_run' hE.ok 1 rfl ?_
    refine OW_end rfl ?_
    refine CW_ret ?_
    refine ⟨.inr rfl, rfl, ⟨_, rfl, rfl, ?_⟩, rfl⟩
    rw [show cmpS a b = -1 by unfold cmpS; rw [g1]; rfl]
    exact AVle.refl _
  · skip
    have g1 : less a b = false := h1
    refine CW_skip ?_
    refine CW_seq ?_
    refine CW_seq ?_
    refine CW_region ?_
    refine OW_run' hE.ok 3 rfl ?_
    refine OW_end rfl ?_
    refine CW_cond _ rfl (fun h2 => ?_) (fun h2 => ?_)
    · skip
      have g2 : (!(less a b || same a b)) = true := h2
      rw [← less_tot, Bool.not_not] at g2
      refine CW_seq ?_
      refine CW_region ?_
      refine OW_run' hE.ok 1 rfl ?_
      refine OW_end rfl ?_
      refine CW_ret ?_
      refine ⟨.inr rfl, rfl, ⟨_, rfl, rfl, ?_⟩, rfl⟩
      rw [show cmpS a b = 1 by unfold cmpS; rw [g1, g2]; rfl]
      exact AVle.refl _
    · skip
      have g2 : (!(less a b || same a b)) = false := h2
      rw [← less_tot, Bool.not_not] at g2
      refine CW_skip ?_
      refine CW_seq ?_
      refine CW_region ?_
      refine OW_run' hE.ok 1 rfl ?_
      refine OW_end rfl ?_
      refine CW_ret ?_
      refine ⟨.inr rfl, rfl, ⟨_, rfl, rfl, ?_⟩, rfl⟩
      rw [show cmpS a b = 0 by unfold cmpS; rw [g1, g2]; rfl]
      exact AVle.refl _

theorem orderUOk (x y : Us) : Does Try.prog 46 [argU x, argU y] noHeap (.d (int (cmpU x y))) := by
  refine Does_of T_ok mixed (N := 17) Try.func46 rfl rfl rfl (by rfl) fun F n Z hE hF J => ?_
  refine CW_seq ?_
  refine CW_region ?_
  refine OW_run' hE.ok 3 rfl ?_
  refine OW_end rfl ?_
  refine CW_seq ?_
  refine CW_drawn' hE 12 (by decide +kernel) ?_
  refine HW_run hE 4 rfl rfl ?_
  refine HW_call hE (cmpSOk x.ty y.ty) rfl rfl rfl rfl rfl rfl rfl rfl ?_
  refine HW_run hE 4 rfl rfl ?_
  refine HW_call hE (cmpSOk x.field y.field) rfl rfl rfl rfl rfl rfl rfl rfl ?_
  refine HW_loc hE (loc_lits hE (t := 130) (len := 2) (parts := #[(0, .tmp 9), (1, .tmp 14)]) rfl rfl rfl rfl rfl rfl rfl rfl (xs := intRow [cmpS x.ty y.ty, cmpS x.field y.field]) rfl) rfl rfl rfl rfl ?_
  refine HW_call hE (orOk [cmpS x.ty y.ty, cmpS x.field y.field] (by simp)) rfl rfl rfl rfl rfl rfl rfl rfl ?_
  refine HW_end ?_
  refine OW_run' hE.ok 1 rfl ?_
  refine OW_end rfl ?_
  refine CW_ret ?_
  refine ⟨.inr rfl, rfl, ⟨_, rfl, rfl, ?_⟩, rfl⟩
  unfold cmpU
  rw [← orL_two]
  exact AVle.refl _
end Go.Proofs.Ytojnicnbmgiplaa
