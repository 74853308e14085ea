/- Parts of an abstract logic over the kit's walks, and walks in it: N2ra. -/
import Derived.Test.YthffbfjnahipcaaN2dec
import Derived.Test.YthffbfjnahipcaaN2a2
import Derived.Test.YthffbfjnahipcaaAe
import Derived.Test.YthffbfjnahipcaaRows
import Derived.WalkKit
import Derived.ProofKit
import Derived.OpenShut
import Derived.ShutString
import Derived.SizedLaws
import Derived.JoinedCond
import Derived.Deep.CondSized
import Derived.Carry
namespace Go.Proofs.Ythffbfjnahipcaa
open Go Go.AL Go.ChangeShapes Go.WideShapes Go.ChangeAt Go.RowKit
set_option linter.unusedVariables false
set_option linter.unusedSimpArgs false
namespace normAliases
set_option maxRecDepth 100000 in
theorem contract (H : Type) (enc : TypeId × Value → H) (W : World) (base : Nat) (args : Array Value) (ds gs : List (DataW H)) (before : List MemPlace)
    (hval0 : ∀ (j : Nat) t v, Try.f10.params[j]? = some t → args[j]? = some v → Value.okWide Try.prog W .any base t v)
    (hW : DataW.Whole enc Try.prog Try.f10.params.toList Rows.normAliasesSpec.vars false W args.toList ds gs before) (hk : Rows.uptoSmall H (ds ++ gs) = true)
    (hsz : (DataW.weightsEach Try.prog (Try.f10.params.toList ++ Rows.normAliasesSpec.plain.varTypes Try.prog) (ds ++ gs)).all (· ≤ reachBytes) = true) :
    Calls Try.prog 10 args W fun e W' => ∃ v, e = .returned v ∧ Rows.normAliasesSpec.post enc Try.prog Try.f10 false true false false W args v W' := by
  obtain ⟨M, hM, hB⟩ : ∃ M, M ≤ 1048576 ∧ Rows.uptoBulkAll (ds ++ gs) ≤ M := ⟨_, Nat.le_refl _, small_all hk⟩
  clear hk
  have hval : ∀ (j : Nat) t v, Try.f10.params[j]? = some t → args[j]? = some v → Value.okWide Try.prog W .any base t v := hval0
  have hW' := hW
  obtain ⟨p, q, hA0, hV, rfl, hfz, hnd⟩ := hW
  have hA : DataW.TrodAll enc Try.prog W 0 (fun _ => true) true Try.f10.params.toList args.toList ds p := hA0
  rw [Try.params10] at hA hval hsz
  obtain ⟨v0, vs0, d0, ds0, p0, q0, hargs, rfl, rfl, h0, r0⟩ := trodAll_cons hA
  obtain ⟨v1, vs1, d1, ds1, p1, q1, rfl, rfl, rfl, h1, r1⟩ := trodAll_cons r0
  obtain ⟨v2, vs2, d2, ds2, p2, q2, rfl, rfl, rfl, h2, r2⟩ := trodAll_cons r1
  obtain ⟨rfl, rfl, rfl⟩ := trodAll_nil r2
  obtain rfl : args = #[v0, v1, v2] := by cases args; simp_all
  obtain ⟨rfl, rfl⟩ := trodVars_none hV
  have lt : ∀ {t : TypeId} {v : Value} {d : DataW H} {p : List MemPlace}, DataW.Trod enc Try.prog W 0 (fun _ => true) true t v d p → ∀ x ∈ p, x.block < W.heap.size := fun h => by
    obtain ⟨m, hm⟩ := h; exact DataW.trod_lt m _ _ _ hm
  have hwt : ∀ (j : Nat) (t : TypeId) (d : DataW H), ([37, 5, 5] : List TypeId)[j]? = some t → [d0, d1, d2][j]? = some d → ∀ m ∈ d.weights Try.prog t, m ≤ reachBytes := fun j t d ht hd m hm => by
    have := List.all_eq_true.1 hsz m (DataW.weights_mem_each (j := j) (t := t) (d := d) (by
      rcases j with _ | _ | _ | j
      · simpa using ht
      · simpa using ht
      · simpa using ht
      · simp at ht) (by
      rcases j with _ | _ | _ | j
      · simpa using hd
      · simpa using hd
      · simpa using hd
      · simp at hd) m hm)
    simpa using this
  simp only [List.append_nil, Rows.uptoBulkAll] at hB
  obtain ⟨n0, x0, e0, a0, b0⟩ := arg_okB T_ok closed12 bulkR (hval 0 37 v0 rfl rfl) h0 rfl (hwt 0 37 d0 rfl rfl)
  obtain ⟨n1, x1, e1, a1, b1⟩ := arg_okB T_ok closed12 bulkR (hval 1 5 v1 rfl rfl) h1 rfl (hwt 1 5 d1 rfl rfl)
  obtain ⟨n2, x2, e2, a2, b2⟩ := arg_okB T_ok closed12 bulkR (hval 2 5 v2 rfl rfl) h2 rfl (hwt 2 5 d2 rfl rfl)
  obtain ⟨p, rfl⟩ := dec37 e0
  obtain ⟨at1, rfl⟩ := dec5 e1
  obtain ⟨ch1, rfl⟩ := dec5 e2
  have hv : RAs (cx noM noHeap noι W) [argP p, .d (.lit (.int .u8 (at1.toNat : Int))), .d (.lit (.int .u8 (ch1.toNat : Int)))] [v0, v1, v2] := by
    simp only [RAs]
    exact ⟨v0, _, rfl, a0, v1, _, rfl, a1, v2, _, rfl, a2, rfl⟩
  clear hA0 hval0
  have hp : ∀ e ∈ p.els, (nodesX e.cond 1).length ≤ 1048576 := fun e he => by have := pat_bulk he 1; omega
  refine (law_ends (normAliasesOk p at1 ch1 hp) hv).mono fun e W' ⟨he, bel⟩ => ?_
  subst he
  exact ⟨_, rfl, _, _, _, [], _, [], hW', trodAll_mk1 (shut_bool Try.underlying4 _), (trodAll_cons_mk (Below.trod laidOut (by kernel_rfl) (of_decide_eq_true (by kernel_rfl)) h0 bel (lt h0)) (trodAll_cons_mk (Below.trod laidOut (by kernel_rfl) (of_decide_eq_true (by kernel_rfl)) h1 bel (lt h1)) (trodAll_cons_mk (Below.trod laidOut (by kernel_rfl) (of_decide_eq_true (by kernel_rfl)) h2 bel (lt h2)) trodAll_mk0))), rfl, bel.frame _, fun h => by cases h⟩
set_option maxRecDepth 100000 in
theorem lifted (os : Os) (started : os.Started) (H : Type) (enc : TypeId × Value → H) (F : Stop.Interp) :
    ReturnsInHanded {} Try.checked os 10 .any ((Rows.OpenSpec.upto Rows.normAliasesSpec).pre6 enc Try.prog Try.f10 Rows.normAliasesUptoRow.domain false) (((Rows.OpenSpec.upto Rows.normAliasesSpec).at F).post enc Try.prog Try.f10 false true false false) := by
  refine returnsInHanded_of_cond_sized (C := Try.checked) (s := Rows.OpenSpec.upto Rows.normAliasesSpec) (k := Rows.uptoSmall) rfl own started (by kernel_rfl) Try.func10
    (OpenSpec.witness (enc := enc) (C := Try.checked) (s := Rows.OpenSpec.upto Rows.normAliasesSpec) (k := Rows.uptoSmall) rfl false ⟨#[], #[.agg #[.slice none 0 0, .int .i64 0, .string ⟨#[]⟩, .bool false], .int .u8 0, .int .u8 0], []⟩ 8 (by kernel_rfl) (by kernel_rfl) (by kernel_rfl)
      (x := ([.agg [.nil, .lit (.int .i64 0), .lit (.string []), .lit (.bool false)], .lit (.int .u8 0), .lit (.int .u8 0)], [], [])) (by kernel_rfl) rfl (by kernel_rfl)) ?_
  intro W base args ds gs before hval hW _ hk hsz _
  exact contract H enc W base args ds gs before hval hW hk hsz
theorem over : Rows.normAliasesUptoRow.holds Try.pinned (Rows.OpenSpec.upto Rows.normAliasesSpec) :=
  OpenClaim.holds_of_cond 10 Try.f10 rfl rfl rfl rfl rfl rfl rfl ⟨rfl, rfl, rfl, rfl, rfl⟩ rfl rfl rfl rfl rfl (by kernel_rfl) Try.func10 (by kernel_rfl)
    (of_decide_eq_true (by kernel_rfl)) (by unfold Func.isWrapper; first | (rw [if_pos (by decide +kernel)]; kernel_rfl) | (rw [if_neg (by decide +kernel)]; exact ⟨rfl, rfl⟩))
    (fun os started H enc _ F => lifted os started H enc F)
theorem proved : Rows.NormAliasesUptoSaid := over
end normAliases
end Go.Proofs.Ythffbfjnahipcaa
