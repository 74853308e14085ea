/- Parts of an abstract logic over the kit's walks, and walks in it: P4rt. -/
import Derived.Test.YtojnicnbmgiplaaP4de2
import Derived.Test.YtojnicnbmgiplaaP4nx
import Derived.Test.YtojnicnbmgiplaaAe
import Derived.Test.YtojnicnbmgiplaaRows
import Derived.WalkKit
import Derived.ProofKit
import Derived.OpenShut
import Derived.ShutString
import Derived.SizedLaws
import Derived.JoinedCond
import Derived.Deep.CondSized
import Derived.Carry
namespace Go.Proofs.Ytojnicnbmgiplaa
open Go Go.AL Go.ChangeShapes Go.WideShapes Go.ChangeAt Go.RowKit
set_option linter.unusedVariables false
set_option linter.unusedSimpArgs false
namespace needTells
set_option maxRecDepth 100000 in
theorem lifted (os : Os) (started : os.Started) (H : Type) (enc : TypeId × Value → H) :
    ReturnsInHanded {} Try.checked os 3 .any (Rows.needTellsSpec.pre6 enc Try.prog Try.f3 Rows.needTellsRow.domain false) (Rows.needTellsSpec.post enc Try.prog Try.f3 false true false false) := by
  refine returnsInHanded_of_change_sized (C := Try.checked) own started (by kernel_rfl) Try.func3
    (ChangeSpec.witness6 (enc := enc) (C := Try.checked) false ⟨#[], #[.agg #[.slice none 0 0], .agg #[.slice none 0 0, .int .i64 0, .string ⟨#[]⟩, .bool false], .agg #[.string ⟨#[]⟩, .int .i64 0, .slice none 0 0], .agg #[.string ⟨#[]⟩, .string ⟨#[]⟩]], []⟩ 8 (by kernel_rfl) (by kernel_rfl) (by kernel_rfl) (by kernel_rfl)) ?_
  intro W base args ds gs before hval0 hW hcnd hsz _
  have hval : ∀ (j : Nat) t v, Try.f3.params[j]? = some t → args[j]? = some v → Value.okWide Try.prog W .any base t v := hval0
  have hW' := hW
  obtain ⟨p, q, hA0, hV, rfl, hfz, hnd⟩ := hW
  have hA : DataW.TrodAll enc Try.prog W 0 (fun _ => true) true Try.f3.params.toList args.toList ds p := hA0
  rw [Try.params3] at hA hval hsz
  obtain ⟨v0, vs0, d0, ds0, p0, q0, hargs, rfl, rfl, h0, r0⟩ := trodAll_cons hA
  obtain ⟨v1, vs1, d1, ds1, p1, q1, rfl, rfl, rfl, h1, r1⟩ := trodAll_cons r0
  obtain ⟨v2, vs2, d2, ds2, p2, q2, rfl, rfl, rfl, h2, r2⟩ := trodAll_cons r1
  obtain ⟨v3, vs3, d3, ds3, p3, q3, rfl, rfl, rfl, h3, r3⟩ := trodAll_cons r2
  obtain ⟨rfl, rfl, rfl⟩ := trodAll_nil r3
  obtain rfl : args = #[v0, v1, v2, v3] := by cases args; simp_all
  obtain ⟨rfl, rfl⟩ := trodVars_none hV
  have lt : ∀ {t : TypeId} {v : Value} {d : DataW H} {p : List MemPlace}, DataW.Trod enc Try.prog W 0 (fun _ => true) true t v d p → ∀ x ∈ p, x.block < W.heap.size := fun h => by
    obtain ⟨m, hm⟩ := h; exact DataW.trod_lt m _ _ _ hm
  have hwt : ∀ (j : Nat) (t : TypeId) (d : DataW H), ([24, 27, 30, 32] : List TypeId)[j]? = some t → [d0, d1, d2, d3][j]? = some d → ∀ m ∈ d.weights Try.prog t, m ≤ reachBytes := fun j t d ht hd m hm => by
    have := List.all_eq_true.1 hsz m (DataW.weights_mem_each (j := j) (t := t) (d := d) (by
      rcases j with _ | _ | _ | _ | j
      · simpa using ht
      · simpa using ht
      · simpa using ht
      · simpa using ht
      · simp at ht) (by
      rcases j with _ | _ | _ | _ | j
      · simpa using hd
      · simpa using hd
      · simpa using hd
      · simpa using hd
      · simp at hd) m hm)
    simpa using this
  obtain ⟨n0, x0, e0, a0⟩ := arg_ok T_ok closedD (hval 0 24 v0 rfl rfl) h0 rfl (hwt 0 24 d0 rfl rfl)
  obtain ⟨n1, x1, e1, a1⟩ := arg_ok T_ok closedD (hval 1 27 v1 rfl rfl) h1 rfl (hwt 1 27 d1 rfl rfl)
  obtain ⟨n2, x2, e2, a2⟩ := arg_ok T_ok closedD (hval 2 30 v2 rfl rfl) h2 rfl (hwt 2 30 d2 rfl rfl)
  obtain ⟨n3, x3, e3, a3⟩ := arg_ok T_ok closedD (hval 3 32 v3 rfl rfl) h3 rfl (hwt 3 32 d3 rfl rfl)
  obtain ⟨s1, rfl⟩ := dec24 e0
  obtain ⟨p1, rfl⟩ := dec27 e1
  obtain ⟨e1, rfl⟩ := dec30 e2
  obtain ⟨u1, rfl⟩ := dec32 e3
  have hv : RAs (cx noM noHeap noι W) [argS s1, argP p1, argE e1, argU u1] [v0, v1, v2, v3] := by
    simp only [RAs]
    exact ⟨v0, _, rfl, a0, v1, _, rfl, a1, v2, _, rfl, a2, v3, _, rfl, a3, rfl⟩
  clear hA0 hval0
  refine (law_ends (tells13 s1 p1 e1 u1) hv).mono fun e W' ⟨he, bel⟩ => ?_
  subst he
  exact ⟨_, rfl, _, _, _, [], _, [], hW', trodAll_mk1 (shut_bool Try.underlying4 _), (trodAll_cons_mk (Below.trod laidOut (by kernel_rfl) (of_decide_eq_true (by kernel_rfl)) h0 bel (lt h0)) (trodAll_cons_mk (Below.trod laidOut (by kernel_rfl) (of_decide_eq_true (by kernel_rfl)) h1 bel (lt h1)) (trodAll_cons_mk (Below.trod laidOut (by kernel_rfl) (of_decide_eq_true (by kernel_rfl)) h2 bel (lt h2)) (trodAll_cons_mk (Below.trod laidOut (by kernel_rfl) (of_decide_eq_true (by kernel_rfl)) h3 bel (lt h3)) trodAll_mk0)))), rfl, bel.frame _, fun h => by cases h⟩
theorem over : Rows.needTellsRow.holds Try.pinned (OpenSpec.ofChange Rows.needTellsSpec) :=
  OpenClaim.holds_of_wide 3 Try.f3 rfl rfl rfl rfl rfl rfl rfl ⟨rfl, rfl, rfl, rfl, rfl⟩ rfl rfl rfl rfl rfl (by kernel_rfl) Try.func3 (by kernel_rfl)
    (of_decide_eq_true (by kernel_rfl)) (by unfold Func.isWrapper; first | (rw [if_pos (by decide +kernel)]; kernel_rfl) | (rw [if_neg (by decide +kernel)]; exact ⟨rfl, rfl⟩))
    (fun os started H enc _ => lifted os started H enc)
theorem proved : Rows.NeedTellsSaid := over
end needTells
end Go.Proofs.Ytojnicnbmgiplaa
