/- Parts of an abstract logic over the kit's walks, and walks in it: D7n. -/
import Derived.Test.YtchpllgeahnmmaaDoorD7v
import Derived.Test.YtchpllgeahnmmaaDoorD7r
import Derived.Test.YtchpllgeahnmmaaDoorEz
namespace Go.Proofs.YtchpllgeahnmmaaDoor
open Go Go.AL
set_option linter.unusedVariables false
set_option linter.unusedSimpArgs false
set_option maxHeartbeats 4000000
theorem refAddOk (t : Ty) (c : Chg) (k : Int) : Does Tryd.prog 59 [argT t, argC c, .d (int k)] noHeap (.d (int (bif !isName c.fld || !isVal c.dv then 10 else bif decide (k ≥ 0) then 13 else bif decide ((t.fields.length : Int) ≥ 5) then 12 else (0 : Int)))) := by
  refine Does_of T_ok mixed (N := 26) Tryd.func59 rfl rfl rfl (by rfl) fun F n Z hE hF J => ?_
  refine CW_seq ?_
  refine CW_region ?_
  refine OW_run' hE.ok 3 rfl ?_
  refine OW_end rfl ?_
  refine CW_seq ?_
  refine CW_block ?_
  refine CW_seq ?_
  refine CW_region ?_
  refine OW_run' hE.ok 2 rfl ?_
  refine OW_call' hE (refNameOk c.fld) rfl rfl rfl rfl rfl rfl rfl ?_
  refine OW_run' hE.ok 2 rfl ?_
  refine OW_split' 12 rfl (fun h1 => ?_) (fun h1 => ?_)
  · skip
    have a1 : (!isName c.fld) = true := h1
    refine OW_run' hE.ok 6 rfl ?_
    refine OW_end rfl ?_
    refine CW_true rfl ?_
    refine CW_seq ?_
    refine CW_region ?_
    refine OW_run' hE.ok 1 rfl ?_
    refine OW_end rfl ?_
    refine CW_ret ?_
    refine ⟨.inr rfl, rfl, ⟨_, rfl, rfl, ?_⟩, rfl⟩
    exact AVle.of (congrArg (fun b => AV.d (int b)) (by rw [a1]; rfl))
  · skip
    have a1 : (!isName c.fld) = false := h1
    refine OW_run' hE.ok 2 rfl ?_
    refine OW_call' hE (refIsValOk c.dv) rfl rfl rfl rfl rfl rfl rfl ?_
    refine OW_run' hE.ok 3 rfl ?_
    refine OW_end rfl ?_
    refine CW_cond _ rfl (fun h2 => ?_) (fun h2 => ?_)
    · skip
      have a2 : (!isVal c.dv) = true := h2
      refine CW_seq ?_
      refine CW_region ?_
      refine OW_run' hE.ok 1 rfl ?_
      refine OW_end rfl ?_
      refine CW_ret ?_
      refine ⟨.inr rfl, rfl, ⟨_, rfl, rfl, ?_⟩, rfl⟩
      exact AVle.of (congrArg (fun b => AV.d (int b)) (by rw [a1, a2]; rfl))
    · skip
      have a2 : (!isVal c.dv) = false := h2
      refine CW_seq ?_
      refine CW_region ?_
      refine OW_run' hE.ok 3 rfl ?_
      refine OW_end rfl ?_
      refine CW_cond _ rfl (fun h3 => ?_) (fun h3 => ?_)
      · skip
        have a3 : decide (k ≥ 0) = true := h3
        refine CW_seq ?_
        refine CW_region ?_
        refine OW_run' hE.ok 1 rfl ?_
        refine OW_end rfl ?_
        refine CW_ret ?_
        refine ⟨.inr rfl, rfl, ⟨_, rfl, rfl, ?_⟩, rfl⟩
        exact AVle.of (congrArg (fun b => AV.d (int b)) (by rw [a1, a2, a3]; rfl))
      · skip
        have a3 : decide (k ≥ 0) = false := h3
        refine CW_seq ?_
        refine CW_region ?_
        refine OW_run' hE.ok 5 rfl ?_
        refine OW_end rfl ?_
        refine CW_cond _ rfl (fun h4 => ?_) (fun h4 => ?_)
        · skip
          have a4 : decide ((t.fields.length : Int) ≥ 5) = true := by have := h4; rw [List.length_map] at this; exact this
          refine CW_seq ?_
          refine CW_region ?_
          refine OW_run' hE.ok 1 rfl ?_
          refine OW_end rfl ?_
          refine CW_ret ?_
          refine ⟨.inr rfl, rfl, ⟨_, rfl, rfl, ?_⟩, rfl⟩
          exact AVle.of (congrArg (fun b => AV.d (int b)) (by rw [a1, a2, a3, a4]; rfl))
        · skip
          have a4 : decide ((t.fields.length : Int) ≥ 5) = false := by have := h4; rw [List.length_map] at this; exact this
          refine CW_skip ?_
          refine CW_seq ?_
          refine CW_region ?_
          refine OW_run' hE.ok 1 rfl ?_
          refine OW_end rfl ?_
          refine CW_ret ?_
          refine ⟨.inr rfl, rfl, ⟨_, rfl, rfl, ?_⟩, rfl⟩
          exact AVle.of (congrArg (fun b => AV.d (int b)) (by rw [a1, a2, a3, a4]; rfl))
end Go.Proofs.YtchpllgeahnmmaaDoor
