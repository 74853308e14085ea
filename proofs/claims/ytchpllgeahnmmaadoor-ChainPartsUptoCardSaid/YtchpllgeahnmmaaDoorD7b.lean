/- Parts of an abstract logic over the kit's walks, and walks in it: D7b. -/
import Derived.Test.YtchpllgeahnmmaaDoorD7a
import Derived.Test.YtchpllgeahnmmaaDoorEz
namespace Go.Proofs.YtchpllgeahnmmaaDoor
open Go Go.AL
set_option linter.unusedVariables false
set_option linter.unusedSimpArgs false
set_option maxHeartbeats 4000000
theorem backOk (c : Chg) (f : ByteArray) : Does Tryd.prog 22 [argC c, .d (str f)] noHeap (.tup [.d (str (backX c f).1), .d (boo (backX c f).2)]) := by
  refine Does_of T_ok mixed (N := 29) Tryd.func22 rfl rfl rfl (by rfl) fun F n Z hE hF J => ?_
  refine CW_seq ?_
  refine CW_region ?_
  refine OW_run' hE.ok 3 rfl ?_
  refine OW_end rfl ?_
  refine CW_seq ?_
  refine CW_block ?_
  refine CW_seq ?_
  refine CW_region ?_
  refine OW_run' hE.ok 4 rfl ?_
  refine OW_split' 10 rfl (fun h1 => ?_) (fun h1 => ?_)
  · skip
    have a1 : (c.kind == 3) = true := h1
    refine OW_run' hE.ok 6 rfl ?_
    refine OW_end rfl ?_
    refine CW_cond _ rfl (fun h2 => ?_) (fun h2 => ?_)
    · skip
      have a2 : same f c.to = true := h2
      refine CW_seq ?_
      refine CW_region ?_
      refine OW_run' hE.ok 4 rfl ?_
      refine OW_end rfl ?_
      refine CW_ret ?_
      refine ⟨.inr rfl, rfl, ⟨_, rfl, rfl, ?_⟩, rfl⟩
      rw [back_1 a1 a2]
      exact AVle.refl _
    · skip
      have a2 : same f c.to = false := h2
      refine CW_seq ?_
      refine CW_region ?_
      refine OW_run' hE.ok 4 rfl ?_
      refine OW_split' 22 rfl (fun h3 => ?_) (fun h3 => ?_)
      · skip
        have a3 : (c.kind == 1) = true := h3
        refine OW_run' hE.ok 6 rfl ?_
        refine OW_end rfl ?_
        refine CW_cond _ rfl (fun h4 => ?_) (fun h4 => ?_)
        · skip
          have a4 : same f c.fld = true := h4
          refine CW_seq ?_
          refine CW_region ?_
          refine OW_run' hE.ok 2 rfl ?_
          refine OW_end rfl ?_
          refine CW_ret ?_
          refine ⟨.inr rfl, rfl, ⟨_, rfl, rfl, ?_⟩, rfl⟩
          rw [back_2 (.inr a2) a3 a4]
          exact AVle.refl _
        · skip
          have a4 : same f c.fld = false := h4
          refine CW_skip ?_
          refine CW_seq ?_
          refine CW_region ?_
          refine OW_run' hE.ok 3 rfl ?_
          refine OW_end rfl ?_
          refine CW_ret ?_
          refine ⟨.inr rfl, rfl, ⟨_, rfl, rfl, ?_⟩, rfl⟩
          rw [back_3 (.inr a2) (.inr a4)]
          exact AVle.refl _
      · skip
        have a3 : (c.kind == 1) = false := h3
        refine OW_run' hE.ok 6 rfl ?_
        refine OW_end rfl ?_
        refine CW_false rfl ?_
        refine CW_skip ?_
        refine CW_seq ?_
        refine CW_region ?_
        refine OW_run' hE.ok 3 rfl ?_
        refine OW_end rfl ?_
        refine CW_ret ?_
        refine ⟨.inr rfl, rfl, ⟨_, rfl, rfl, ?_⟩, rfl⟩
        rw [back_3 (.inr a2) (.inl a3)]
        exact AVle.refl _
  · skip
    have a1 : (c.kind == 3) = false := h1
    refine OW_run' hE.ok 6 rfl ?_
    refine OW_end rfl ?_
    refine CW_false rfl ?_
    refine CW_seq ?_
    refine CW_region ?_
    refine OW_run' hE.ok 4 rfl ?_
    refine OW_split' 22 rfl (fun h5 => ?_) (fun h5 => ?_)
    · skip
      have a3 : (c.kind == 1) = true := h5
      refine OW_run' hE.ok 6 rfl ?_
      refine OW_end rfl ?_
      refine CW_cond _ rfl (fun h6 => ?_) (fun h6 => ?_)
      · skip
        have a4 : same f c.fld = true := h6
        refine CW_seq ?_
        refine CW_region ?_
        refine OW_run' hE.ok 2 rfl ?_
        refine OW_end rfl ?_
        refine CW_ret ?_
        refine ⟨.inr rfl, rfl, ⟨_, rfl, rfl, ?_⟩, rfl⟩
        rw [back_2 (.inl a1) a3 a4]
        exact AVle.refl _
      · skip
        have a4 : same f c.fld = false := h6
        refine CW_skip ?_
        refine CW_seq ?_
        refine CW_region ?_
        refine OW_run' hE.ok 3 rfl ?_
        refine OW_end rfl ?_
        refine CW_ret ?_
        refine ⟨.inr rfl, rfl, ⟨_, rfl, rfl, ?_⟩, rfl⟩
        rw [back_3 (.inl a1) (.inr a4)]
        exact AVle.refl _
    · skip
      have a3 : (c.kind == 1) = false := h5
      refine OW_run' hE.ok 6 rfl ?_
      refine OW_end rfl ?_
      refine CW_false rfl ?_
      refine CW_skip ?_
      refine CW_seq ?_
      refine CW_region ?_
      refine OW_run' hE.ok 3 rfl ?_
      refine OW_end rfl ?_
      refine CW_ret ?_
      refine ⟨.inr rfl, rfl, ⟨_, rfl, rfl, ?_⟩, rfl⟩
      rw [back_3 (.inl a1) (.inl a3)]
      exact AVle.refl _

end Go.Proofs.YtchpllgeahnmmaaDoor
