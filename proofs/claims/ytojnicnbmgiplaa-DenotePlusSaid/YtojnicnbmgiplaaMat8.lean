/- Parts of an abstract logic over the kit's walks, and walks in it: Mat8. -/
import Derived.Test.YtojnicnbmgiplaaMat5
/- Some of one, then another one: counted. -/
namespace Go.AL
open Go.Proofs Go.Sort
set_option linter.unusedVariables false
set_option linter.unusedSimpArgs false
def eU (a : ByteArray) : El := ⟨a, [ch 117], false, false, zeroX⟩
def pPl (any : Bool) : Pat := ⟨[⟨ch 97, [ch 116], true, false, zeroX⟩, eU (ch 98)], 100, nul, any⟩
def evsT (k : Nat) : List Ev := (List.range k).map fun i => evT ((i : Nat) : Int) 0
def evsP (k : Nat) : List Ev := evsT k ++ [evU ((k : Nat) : Int) 0]
theorem plus_any : ∀ k, k < 7 → 0 < k → (outC bS (pPl true) (keptX (evsP k) 0) (k + 1)).length = 2 ^ k - 1 := by decide +kernel
theorem plus_next : ∀ k, k < 7 → 0 < k → (outC bS (pPl false) (keptX (evsP k) 0) (k + 1)).length = k := by decide +kernel
theorem plus_ok : ∀ k, k < 7 → okS (evsP k) = true := by decide +kernel
theorem evsT_len (k : Nat) : (evsT k).length = k := by simp [evsT]
theorem evsP_len (k : Nat) : (evsP k).length = k + 1 := by simp [evsP, evsT]
theorem evsT_get {k i : Nat} (h : i < k) : (evsT k)[i]? = some (evT ((i : Nat) : Int) 0) := by
  unfold evsT; rw [List.getElem?_map, List.getElem?_range h]; rfl
theorem evsT_snoc {k i : Nat} (h : i < k) : (evsT k).take (i + 1) = (evsT k).take i ++ [evT ((i : Nat) : Int) 0] := by
  rw [List.take_add_one, evsT_get h]; rfl
theorem plus_stream {k : Nat} (h : k < 7) : streamX (evsP k) 0 = (keptX (evsP k) 0, true) := by unfold streamX; rw [plus_ok k h]; rfl
theorem plus_len {k : Nat} (h : k < 7) (h0 : 0 < k) : (matchesX bS (pPl true) (keptX (evsP k) 0)).length = 2 ^ k - 1 ∧ (matchesX bS (pPl false) (keptX (evsP k) 0)).length = k := by
  unfold matchesX
  rw [outC_eq, outC_eq, kept_len, evsP_len]
  exact ⟨plus_any k h h0, plus_next k h h0⟩
end Go.AL
