/- Parts of an abstract logic over the kit's walks, and walks in it: Q1r. -/
import Derived.Test.YtencfmpapdnnaaaQ1dec
import Derived.Test.YtencfmpapdnnaaaQ1m
import Derived.Test.YtencfmpapdnnaaaAe
import Derived.Test.YtencfmpapdnnaaaRows
import Derived.WalkKit
import Derived.ProofKit
import Derived.OpenShut
import Derived.ShutString
import Derived.SizedLaws
import Derived.JoinedCond
import Derived.Deep.CondSized
import Derived.Carry
namespace Go.Proofs.Ytencfmpapdnnaaa
open Go Go.AL Go.ChangeShapes Go.WideShapes Go.ChangeAt Go.RowKit
set_option linter.unusedVariables false
set_option linter.unusedSimpArgs false
namespace evalChecked
set_option maxRecDepth 100000 in
theorem contract (H : Type) (enc : TypeId × Value → H) (W : World) (base : Nat) (args : Array Value) (ds gs : List (DataW H)) (before : List MemPlace)
    (hval0 : ∀ (j : Nat) t v, Try.f8.params[j]? = some t → args[j]? = some v → Value.okWide Try.prog W .any base t v)
    (hW : DataW.Whole enc Try.prog Try.f8.params.toList Rows.evalCheckedSpec.vars false W args.toList ds gs before) (hk : Rows.uptoSmall H (ds ++ gs) = true)
    (hsz : (DataW.weightsEach Try.prog (Try.f8.params.toList ++ Rows.evalCheckedSpec.plain.varTypes Try.prog) (ds ++ gs)).all (· ≤ reachBytes) = true) :
    Calls Try.prog 8 args W fun e W' => ∃ v, e = .returned v ∧ Rows.evalCheckedSpec.post enc Try.prog Try.f8 false true false false W args v W' := by
  obtain ⟨M, hM, hB⟩ : ∃ M, M ≤ 1048576 ∧ Rows.uptoBulkAll (ds ++ gs) ≤ M := ⟨_, Nat.le_refl _, small_all hk⟩
  clear hk
  have hval : ∀ (j : Nat) t v, Try.f8.params[j]? = some t → args[j]? = some v → Value.okWide Try.prog W .any base t v := hval0
  have hW' := hW
  obtain ⟨p, q, hA0, hV, rfl, hfz, hnd⟩ := hW
  have hA : DataW.TrodAll enc Try.prog W 0 (fun _ => true) true Try.f8.params.toList args.toList ds p := hA0
  rw [Try.params8] at hA hval hsz
  obtain ⟨v0, vs0, d0, ds0, p0, q0, hargs, rfl, rfl, h0, r0⟩ := trodAll_cons hA
  obtain ⟨v1, vs1, d1, ds1, p1, q1, rfl, rfl, rfl, h1, r1⟩ := trodAll_cons r0
  obtain ⟨v2, vs2, d2, ds2, p2, q2, rfl, rfl, rfl, h2, r2⟩ := trodAll_cons r1
  obtain ⟨v3, vs3, d3, ds3, p3, q3, rfl, rfl, rfl, h3, r3⟩ := trodAll_cons r2
  obtain ⟨v4, vs4, d4, ds4, p4, q4, rfl, rfl, rfl, h4, r4⟩ := trodAll_cons r3
  obtain ⟨rfl, rfl, rfl⟩ := trodAll_nil r4
  obtain rfl : args = #[v0, v1, v2, v3, v4] := by cases args; simp_all
  obtain ⟨rfl, rfl⟩ := trodVars_none hV
  have lt : ∀ {t : TypeId} {v : Value} {d : DataW H} {p : List MemPlace}, DataW.Trod enc Try.prog W 0 (fun _ => true) true t v d p → ∀ x ∈ p, x.block < W.heap.size := fun h => by
    obtain ⟨m, hm⟩ := h; exact DataW.trod_lt m _ _ _ hm
  have hwt : ∀ (j : Nat) (t : TypeId) (d : DataW H), ([28, 4, 4, 2, 9] : List TypeId)[j]? = some t → [d0, d1, d2, d3, d4][j]? = some d → ∀ m ∈ d.weights Try.prog t, m ≤ reachBytes := fun j t d ht hd m hm => by
    have := List.all_eq_true.1 hsz m (DataW.weights_mem_each (j := j) (t := t) (d := d) (by
      rcases j with _ | _ | _ | _ | _ | j
      · simpa using ht
      · simpa using ht
      · simpa using ht
      · simpa using ht
      · simpa using ht
      · simp at ht) (by
      rcases j with _ | _ | _ | _ | _ | j
      · simpa using hd
      · simpa using hd
      · simpa using hd
      · simpa using hd
      · simpa using hd
      · simp at hd) m hm)
    simpa using this
  simp only [List.append_nil, Rows.uptoBulkAll] at hB
  obtain ⟨n0, x0, e0, a0, b0⟩ := arg_okB T_ok closedC bulkR (hval 0 28 v0 rfl rfl) h0 rfl (hwt 0 28 d0 rfl rfl)
  obtain ⟨n1, x1, e1, a1, b1⟩ := arg_okB T_ok closedC bulkR (hval 1 4 v1 rfl rfl) h1 rfl (hwt 1 4 d1 rfl rfl)
  obtain ⟨n2, x2, e2, a2, b2⟩ := arg_okB T_ok closedC bulkR (hval 2 4 v2 rfl rfl) h2 rfl (hwt 2 4 d2 rfl rfl)
  obtain ⟨n3, x3, e3, a3, b3⟩ := arg_okB T_ok closedC bulkR (hval 3 2 v3 rfl rfl) h3 rfl (hwt 3 2 d3 rfl rfl)
  obtain ⟨n4, x4, e4, a4, b4⟩ := arg_okB T_ok closedC bulkR (hval 4 9 v4 rfl rfl) h4 rfl (hwt 4 9 d4 rfl rfl)
  obtain ⟨x, rfl⟩ := dec28 e0
  obtain ⟨b, rfl⟩ := dec4 e1
  obtain ⟨ng, rfl⟩ := dec4 e2
  obtain ⟨m, rfl⟩ := dec2 e3
  obtain ⟨s, rfl⟩ := dec9 e4
  have hv : RAs (cx noM noHeap noι W) [argX x, .d (boo b), .d (boo ng), .d (int m), .d (str s)] [v0, v1, v2, v3, v4] := by
    simp only [RAs]
    exact ⟨v0, _, rfl, a0, v1, _, rfl, a1, v2, _, rfl, a2, v3, _, rfl, a3, v4, _, rfl, a4, rfl⟩
  clear hA0 hval0
  have hx : (nodesX x 1).length ≤ 1048576 := by have := nodes_bulk x 1; omega
  refine (law_ends (checkedOk x b ng m s hx) hv).mono fun e W' ⟨he, bel⟩ => ?_
  subst he
  exact ⟨_, rfl, _, _, _, [], _, [], hW', trodAll_mk1 (shut_bool Try.underlying4 _), (trodAll_cons_mk (Below.trod laidOut (by kernel_rfl) (of_decide_eq_true (by kernel_rfl)) h0 bel (lt h0)) (trodAll_cons_mk (Below.trod laidOut (by kernel_rfl) (of_decide_eq_true (by kernel_rfl)) h1 bel (lt h1)) (trodAll_cons_mk (Below.trod laidOut (by kernel_rfl) (of_decide_eq_true (by kernel_rfl)) h2 bel (lt h2)) (trodAll_cons_mk (Below.trod laidOut (by kernel_rfl) (of_decide_eq_true (by kernel_rfl)) h3 bel (lt h3)) (trodAll_cons_mk (Below.trod laidOut (by kernel_rfl) (of_decide_eq_true (by kernel_rfl)) h4 bel (lt h4)) trodAll_mk0))))), rfl, bel.frame _, fun h => by cases h⟩
set_option maxRecDepth 100000 in
theorem lifted (os : Os) (started : os.Started) (H : Type) (enc : TypeId × Value → H) (F : Stop.Interp) :
    ReturnsInHanded {} Try.checked os 8 .any ((Rows.OpenSpec.upto Rows.evalCheckedSpec).pre6 enc Try.prog Try.f8 Rows.evalCheckedUptoRow.domain false) (((Rows.OpenSpec.upto Rows.evalCheckedSpec).at F).post enc Try.prog Try.f8 false true false false) := by
  refine returnsInHanded_of_cond_sized (C := Try.checked) (s := Rows.OpenSpec.upto Rows.evalCheckedSpec) (k := Rows.uptoSmall) rfl own started (by kernel_rfl) Try.func8
    (OpenSpec.witness (enc := enc) (C := Try.checked) (s := Rows.OpenSpec.upto Rows.evalCheckedSpec) (k := Rows.uptoSmall) rfl false ⟨#[], #[.agg #[.int .i64 0, .int .i64 0, .int .i64 0, .string ⟨#[]⟩, .string ⟨#[]⟩, .string ⟨#[]⟩, .slice none 0 0], .bool false, .bool false, .int .i64 0, .string ⟨#[]⟩], []⟩ 8 (by kernel_rfl) (by kernel_rfl) (by kernel_rfl)
      (x := ([.agg [.lit (.int .i64 0), .agg [.lit (.int .i64 0), .lit (.int .i64 0), .lit (.string [])], .lit (.string []), .lit (.string []), .nil], .lit (.bool false), .lit (.bool false), .lit (.int .i64 0), .lit (.string [])], [], [])) (by kernel_rfl) rfl (by kernel_rfl)) ?_
  intro W base args ds gs before hval hW _ hk hsz _
  exact contract H enc W base args ds gs before hval hW hk hsz
theorem over : Rows.evalCheckedUptoRow.holds Try.pinned (Rows.OpenSpec.upto Rows.evalCheckedSpec) :=
  OpenClaim.holds_of_cond 8 Try.f8 rfl rfl rfl rfl rfl rfl rfl ⟨rfl, rfl, rfl, rfl, rfl⟩ rfl rfl rfl rfl rfl (by kernel_rfl) Try.func8 (by kernel_rfl)
    (of_decide_eq_true (by kernel_rfl)) (by unfold Func.isWrapper; first | (rw [if_pos (by decide +kernel)]; kernel_rfl) | (rw [if_neg (by decide +kernel)]; exact ⟨rfl, rfl⟩))
    (fun os started H enc _ F => lifted os started H enc F)
theorem proved : Rows.EvalCheckedUptoSaid := over
end evalChecked
end Go.Proofs.Ytencfmpapdnnaaa
