/- Parts of an abstract logic over the kit's walks, and walks in it: D7cn. -/
import Derived.Test.YtchpllgeahnmmaaDoorD7cg
import Derived.Test.YtchpllgeahnmmaaDoorChn4
namespace Go.Proofs.YtchpllgeahnmmaaDoor
open Go Go.AL
set_option linter.unusedVariables false
set_option linter.unusedSimpArgs false
set_option maxHeartbeats 4000000
theorem newBad (s : List Ty) (l : List Chg) (hs : isSchema s = false) : Does Tryd.prog 27 [argS s, .d (.sl 7 88 (l.map encC))] noHeap (.tup [.d (.lit (.pointer none)), .d (errC 74 10)]) := by
  refine Does_of T_ok mixed (N := 30) Tryd.func27 rfl rfl rfl (by rfl) fun F n Z hE hF J => ?_
  refine CW_seq ?_
  refine CW_region ?_
  refine OW_run' hE.ok 1 rfl ?_
  refine OW_alloc' hE 1 rfl rfl rfl rfl rfl rfl rfl ?_
  refine OW_alloc' hE 2 rfl rfl rfl rfl rfl rfl rfl ?_
  refine OW_end rfl ?_
  refine CW_seq ?_
  refine CW_seq ?_
  refine CW_region ?_
  refine OW_run' hE.ok 1 rfl ?_
  refine OW_call' hE ((by have hq := isOk s; rw [hs] at hq; exact hq)) rfl rfl rfl rfl rfl rfl rfl ?_
  refine OW_run' hE.ok 1 rfl ?_
  refine OW_end rfl ?_
  refine CW_true rfl ?_
  refine CW_seq ?_
  refine CW_region ?_
  refine OW_run' hE.ok 1 rfl ?_
  refine OW_store' hE rfl rfl rfl rfl rfl rfl rfl rfl rfl rfl rfl rfl ?_
  refine OW_store' hE rfl rfl rfl rfl rfl rfl rfl rfl rfl rfl rfl rfl ?_
  refine OW_end rfl ?_
  refine CW_ret ?_
  refine ⟨.inr rfl, rfl, ⟨_, rfl, rfl, ?_⟩, rfl⟩
  exact AVle.refl _

theorem newBadNil (s : List Ty) (hs : isSchema s = false) : Does Tryd.prog 27 [argS s, .d (.lit (.slice none 0 0))] noHeap (.tup [.d (.lit (.pointer none)), .d (errC 74 10)]) :=
  Does.narrow (newBad s [] hs) (AVles.cons (.refl _) (.cons (.nilSl 7 88) .nil))
end Go.Proofs.YtchpllgeahnmmaaDoor
