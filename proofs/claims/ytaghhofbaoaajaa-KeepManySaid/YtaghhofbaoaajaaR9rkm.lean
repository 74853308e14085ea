/- Parts of an abstract logic over the kit's walks, and walks in it: R9rkm. -/
import Derived.Test.YtaghhofbaoaajaaR9dec
import Derived.Test.YtaghhofbaoaajaaR9km
import Derived.Test.YtaghhofbaoaajaaAc
import Derived.Test.YtaghhofbaoaajaaRows
import Derived.WalkKit
import Derived.ProofKit
import Derived.OpenShut
import Derived.ShutString
import Derived.SizedLaws
import Derived.Carry
namespace Go.Proofs.Ytaghhofbaoaajaa
open Go Go.AL Go.ChangeShapes Go.WideShapes Go.ChangeAt Go.RowKit
set_option linter.unusedVariables false
set_option linter.unusedSimpArgs false
namespace keepMany
set_option maxRecDepth 100000 in
theorem lifted (os : Os) (started : os.Started) (H : Type) (enc : TypeId × Value → H) :
    ReturnsInHanded {} Try.checked os 4 .any (Rows.keepManySpec.pre6 enc Try.prog Try.f4 Rows.keepManyRow.domain false) (Rows.keepManySpec.post enc Try.prog Try.f4 false true false false) := by
  refine returnsInHanded_of_change_sized (C := Try.checked) own started (by kernel_rfl) Try.func4
    (ChangeSpec.witness6 (enc := enc) (C := Try.checked) false ⟨#[], #[.int .u8 0], []⟩ 8 (by kernel_rfl) (by kernel_rfl) (by kernel_rfl) (by kernel_rfl)) ?_
  intro W base args ds gs before hval0 hW hcnd hsz _
  have hval : ∀ (j : Nat) t v, Try.f4.params[j]? = some t → args[j]? = some v → Value.okWide Try.prog W .any base t v := hval0
  have hW' := hW
  obtain ⟨p, q, hA0, hV, rfl, hfz, hnd⟩ := hW
  have hA : DataW.TrodAll enc Try.prog W 0 (fun _ => true) true Try.f4.params.toList args.toList ds p := hA0
  rw [Try.params4] at hA hval hsz
  obtain ⟨v0, vs0, d0, ds0, p0, q0, hargs, rfl, rfl, h0, r0⟩ := trodAll_cons hA
  obtain ⟨rfl, rfl, rfl⟩ := trodAll_nil r0
  obtain rfl : args = #[v0] := by cases args; simp_all
  obtain ⟨rfl, rfl⟩ := trodVars_none hV
  have lt : ∀ {t : TypeId} {v : Value} {d : DataW H} {p : List MemPlace}, DataW.Trod enc Try.prog W 0 (fun _ => true) true t v d p → ∀ x ∈ p, x.block < W.heap.size := fun h => by
    obtain ⟨m, hm⟩ := h; exact DataW.trod_lt m _ _ _ hm
  have hwt : ∀ (j : Nat) (t : TypeId) (d : DataW H), ([5] : List TypeId)[j]? = some t → [d0][j]? = some d → ∀ m ∈ d.weights Try.prog t, m ≤ reachBytes := fun j t d ht hd m hm => by
    have := List.all_eq_true.1 hsz m (DataW.weights_mem_each (j := j) (t := t) (d := d) (by
      rcases j with _ | j
      · simpa using ht
      · simp at ht) (by
      rcases j with _ | j
      · simpa using hd
      · simp at hd) m hm)
    simpa using this
  obtain ⟨n0, x0, e0, a0⟩ := arg_ok T_ok closed9 (hval 0 5 v0 rfl rfl) h0 rfl (hwt 0 5 d0 rfl rfl)
  obtain ⟨n1, rfl⟩ := dec5 e0
  have hv : RAs (cx noM noHeap noι W) [.d (.lit (.int .u8 (n1.toNat : Int)))] [v0] := by
    simp only [RAs]
    exact ⟨v0, _, rfl, a0, rfl⟩
  clear hA0 hval0
  refine (law_ends (keepManyOk n1) hv).mono fun e W' ⟨he, bel⟩ => ?_
  subst he
  exact ⟨_, rfl, _, _, _, [], _, [], hW', trodAll_mk1 (shut_bool Try.underlying4 _), (trodAll_cons_mk (Below.trod laidOut (by kernel_rfl) (of_decide_eq_true (by kernel_rfl)) h0 bel (lt h0)) trodAll_mk0), rfl, bel.frame _, fun h => by cases h⟩
theorem over : Rows.keepManyRow.holds Try.pinned (OpenSpec.ofChange Rows.keepManySpec) :=
  OpenClaim.holds_of_wide 4 Try.f4 rfl rfl rfl rfl rfl rfl rfl ⟨rfl, rfl, rfl, rfl, rfl⟩ rfl rfl rfl rfl rfl (by kernel_rfl) Try.func4 (by kernel_rfl)
    (of_decide_eq_true (by kernel_rfl)) (by unfold Func.isWrapper; first | (rw [if_pos (by decide +kernel)]; kernel_rfl) | (rw [if_neg (by decide +kernel)]; exact ⟨rfl, rfl⟩))
    (fun os started H enc _ => lifted os started H enc)
theorem proved : Rows.KeepManySaid := over
end keepMany
end Go.Proofs.Ytaghhofbaoaajaa
