/- Parts of an abstract logic over the kit's walks, and walks in it: R9h0. -/
import Derived.Test.YtaghhofbaoaajaaRxa
import Derived.Test.YtaghhofbaoaajaaDe
import Derived.Test.YtaghhofbaoaajaaAf
namespace Go.Proofs.Ytaghhofbaoaajaa
open Go Go.AL
set_option linter.unusedVariables false
set_option linter.unusedSimpArgs false
set_option maxHeartbeats 4000000
theorem baseOk  : Does Try.prog 11 [] noHeap (argS bS) := by
  refine Does_of T_ok mixed (N := 11) Try.func11 rfl rfl rfl (by rfl) fun F n Z hE hF J => ?_
  refine CW_seq ?_
  refine CW_region ?_
  refine OW_alloc' hE 1 rfl rfl rfl rfl rfl rfl rfl ?_
  refine OW_end rfl ?_
  refine CW_seq ?_
  refine CW_region ?_
  refine OW_build' hE rfl rfl rfl rfl rfl ?_
  refine OW_build' hE rfl rfl rfl rfl rfl ?_
  refine OW_build' hE rfl rfl rfl rfl rfl ?_
  refine OW_lits' hE rfl rfl rfl rfl rfl rfl rfl rfl rfl rfl rfl rfl ?_
  refine OW_build' hE rfl rfl rfl rfl rfl ?_
  refine OW_build' hE rfl rfl rfl rfl rfl ?_
  refine OW_lits' hE rfl rfl rfl rfl rfl rfl rfl rfl rfl rfl rfl rfl ?_
  refine OW_build' hE rfl rfl rfl rfl rfl ?_
  refine OW_lits' hE rfl rfl rfl rfl rfl rfl rfl rfl rfl rfl rfl rfl ?_
  refine OW_build' hE rfl rfl rfl rfl rfl ?_
  refine OW_store' hE rfl rfl rfl rfl rfl rfl rfl rfl rfl rfl rfl rfl ?_
  refine OW_end rfl ?_
  refine CW_ret ?_
  refine ⟨.inr rfl, rfl, ⟨_, rfl, rfl, ?_⟩, rfl⟩
  exact AVle.refl _

theorem elOf (a t : ByteArray) : Does Try.prog 8 [.d (str a), .d (str t)] noHeap (argL ⟨a, [t], false, false, zeroX⟩) := by
  refine Does_of T_ok mixed (N := 9) Try.func8 rfl rfl rfl (by rfl) fun F n Z hE hF J => ?_
  refine CW_seq ?_
  refine CW_region ?_
  refine OW_alloc' hE 1 rfl rfl rfl rfl rfl rfl rfl ?_
  refine OW_end rfl ?_
  refine CW_seq ?_
  refine CW_region ?_
  refine OW_run' hE.ok 2 rfl ?_
  refine OW_lits' hE rfl rfl rfl rfl rfl rfl rfl rfl rfl rfl rfl rfl ?_
  refine OW_build' hE rfl rfl rfl rfl rfl ?_
  refine OW_store' hE rfl rfl rfl rfl rfl rfl rfl rfl rfl rfl rfl rfl ?_
  refine OW_end rfl ?_
  refine CW_ret ?_
  refine ⟨.inr rfl, rfl, ⟨_, rfl, rfl, ?_⟩, rfl⟩
  exact AVle.agg (.cons (.refl _) (.cons (.refl _) (.cons (.refl _) (.cons (.refl _) (.cons (.refl _) (.cons (.refl _) (.cons (.refl _) (.cons (.refl _) (.cons (.refl _) (.cons (.refl _) (.cons (.nilSl 7 96) .nil)))))))))))

theorem evOf (ts n : Int) : Does Try.prog 6 [.d (str (ch 116)), .d (int ts), .d (int n)] noHeap (argE (evT ts n)) := by
  refine Does_of T_ok mixed (N := 21) Try.func6 rfl rfl rfl (by rfl) fun F n Z hE hF J => ?_
  refine CW_seq ?_
  refine CW_region ?_
  refine OW_alloc' hE 1 rfl rfl rfl rfl rfl rfl rfl ?_
  refine OW_end rfl ?_
  refine CW_seq ?_
  refine CW_seq ?_
  refine CW_region ?_
  refine OW_run' hE.ok 2 rfl ?_
  refine OW_as' 8 (.d (boo false)) (by show AV.d (.lit (.bool ((ch 116).toList == (⟨#[117]⟩ : ByteArray).toList))) = _; rw [show ((ch 116).toList == (⟨#[117]⟩ : ByteArray).toList) = false by decide +kernel]; rfl) ?_
  refine OW_end rfl ?_
  refine CW_false rfl ?_
  refine CW_skip ?_
  refine CW_seq ?_
  refine CW_region ?_
  refine OW_run' hE.ok 1 rfl ?_
  refine OW_build' hE rfl rfl rfl rfl rfl ?_
  refine OW_run' hE.ok 1 rfl ?_
  refine OW_build' hE rfl rfl rfl rfl rfl ?_
  refine OW_build' hE rfl rfl rfl rfl rfl ?_
  refine OW_lits' hE rfl rfl rfl rfl rfl rfl rfl rfl rfl rfl rfl rfl ?_
  refine OW_build' hE rfl rfl rfl rfl rfl ?_
  refine OW_store' hE rfl rfl rfl rfl rfl rfl rfl rfl rfl rfl rfl rfl ?_
  refine OW_end rfl ?_
  refine CW_ret ?_
  refine ⟨.inr rfl, rfl, ⟨_, rfl, rfl, ?_⟩, rfl⟩
  exact AVle.refl _
end Go.Proofs.Ytaghhofbaoaajaa
