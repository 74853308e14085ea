/- Parts of an abstract logic over the kit's walks, and walks in it: R9dec. -/
import Derived.Test.YtaghhofbaoaajaaRxa
import Derived.Test.YtaghhofbaoaajaaAc
import Derived.Test.YtaghhofbaoaajaaBa
import Derived.Test.YtaghhofbaoaajaaRows
import Derived.WalkKit
import Derived.ProofKit
import Derived.OpenShut
import Derived.ShutString
import Derived.SizedLaws
import Derived.Carry
/- What arguments are, in seat r9. -/
namespace Go.Proofs.Ytaghhofbaoaajaa
open Go Go.AL Go.ChangeShapes Go.WideShapes Go.ChangeAt Go.RowKit
set_option linter.unusedVariables false
set_option linter.unusedSimpArgs false

theorem dec5 {n : Nat} {x : List D} (h : DTc T n 5 x) : ∃ u : UInt8, x = [.lit (.int .u8 (u.toNat : Int))] := by
  cases n with
  | zero => exact h.elim
  | succ n =>
    have h : ∃ m, x = [.lit (.int .u8 m)] ∧ IntKind.u8.min ≤ m ∧ m ≤ IntKind.u8.max := h
    obtain ⟨s, rfl, h1, h2⟩ := h
    have e1 : IntKind.u8.min = 0 := rfl
    have e2 : IntKind.u8.max = 255 := rfl
    obtain ⟨m, rfl⟩ := Int.eq_ofNat_of_zero_le (show 0 ≤ s by omega)
    refine ⟨UInt8.ofNat m, ?_⟩
    rw [UInt8.toNat_ofNat_of_lt' (by show m < 256; omega)]
theorem closed9 : closedT T [5, 22] = true := by decide +kernel
theorem own : ownKnob Try.prog.godebug = none := by kernel_rfl
theorem laidOut : laidOutB Try.prog = true := by kernel_rfl
end Go.Proofs.Ytaghhofbaoaajaa
