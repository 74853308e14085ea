/- Parts of an abstract logic over the kit's walks, and walks in it: D7ca. -/
import Derived.Test.YtchpllgeahnmmaaDoorD7a
import Derived.Test.YtchpllgeahnmmaaDoorCh
import Derived.Test.YtchpllgeahnmmaaDoorAf
namespace Go.Proofs.YtchpllgeahnmmaaDoor
open Go Go.AL
set_option linter.unusedVariables false
set_option linter.unusedSimpArgs false
set_option maxHeartbeats 4000000
theorem nowOk (ss : List (List Ty)) (cs : List Chg) : DoesM Tryd.prog 32 [(40, .box 102 [.row 50, .row 51]), (50, .row 24 1 (ss.map encS1)), (51, .row 43 7 (cs.map encC))] [.ptr 40 0] (.d (int ((cs.length : Nat) : Int))) [(40, .box 102 [.row 50, .row 51]), (50, .row 24 1 (ss.map encS1)), (51, .row 43 7 (cs.map encC))] [40, 50, 51] := by
  refine DoesM_of T_ok mixed (N := 8) Tryd.func32 rfl rfl rfl (by rfl) rfl rfl rfl rfl rfl rfl fun F n Z hE hF J V => ?_
  refine CW_seq ?_
  refine CW_region ?_
  refine OW_run' hE.ok 1 rfl ?_
  refine OW_end rfl ?_
  refine CW_seq ?_
  refine CW_region ?_
  refine OW_run' hE.ok 5 rfl ?_
  refine OW_as' 7 (.d (int ((cs.length : Nat) : Int))) (by show AV.d (.lit (.int .i64 ((cs.map encC).length : Int))) = _; rw [List.length_map]; rfl) ?_
  refine OW_run' hE.ok 1 rfl ?_
  refine OW_end rfl ?_
  exact CW_ret ⟨.inr rfl, rfl, ⟨_, rfl, AVle.refl _⟩, ⟨rfl, rfl, rfl, trivial⟩, rfl⟩

end Go.Proofs.YtchpllgeahnmmaaDoor
