/- Parts of an abstract logic over the kit's walks, and walks in it: H4ry. -/
import Derived.Test.YtojnicnbmgiplaaGreatH4dec
import Derived.Test.YtojnicnbmgiplaaGreatH4ly
import Derived.Test.YtojnicnbmgiplaaGreatAe
import Derived.Test.YtojnicnbmgiplaaGreatRows
import Derived.WalkKit
import Derived.ProofKit
import Derived.OpenShut
import Derived.ShutString
import Derived.SizedLaws
import Derived.JoinedCond
import Derived.Deep.CondSized
import Derived.Carry
namespace Go.Proofs.YtojnicnbmgiplaaGreat
open Go Go.AL Go.ChangeShapes Go.WideShapes Go.ChangeAt Go.RowKit
set_option linter.unusedVariables false
set_option linter.unusedSimpArgs false
namespace denoteBy
set_option maxRecDepth 100000 in
theorem contract (H : Type) (enc : TypeId × Value → H) (W : World) (base : Nat) (args : Array Value) (ds gs : List (DataW H)) (before : List MemPlace)
    (hval0 : ∀ (j : Nat) t v, Tryz.f7.params[j]? = some t → args[j]? = some v → Value.okWide Tryz.prog W .any base t v)
    (hW : DataW.Whole enc Tryz.prog Tryz.f7.params.toList Rows.denoteBySpec.vars false W args.toList ds gs before) (hk : Rows.uptoSmall H (ds ++ gs) = true)
    (hsz : (DataW.weightsEach Tryz.prog (Tryz.f7.params.toList ++ Rows.denoteBySpec.plain.varTypes Tryz.prog) (ds ++ gs)).all (· ≤ reachBytes) = true) :
    Calls Tryz.prog 7 args W fun e W' => ∃ v, e = .returned v ∧ Rows.denoteBySpec.post enc Tryz.prog Tryz.f7 false true false false W args v W' := by
  obtain ⟨M, hM, hB⟩ : ∃ M, M ≤ 1048576 ∧ Rows.uptoBulkAll (ds ++ gs) ≤ M := ⟨_, Nat.le_refl _, small_all hk⟩
  clear hk
  have hval : ∀ (j : Nat) t v, Tryz.f7.params[j]? = some t → args[j]? = some v → Value.okWide Tryz.prog W .any base t v := hval0
  have hW' := hW
  obtain ⟨p, q, hA0, hV, rfl, hfz, hnd⟩ := hW
  have hA : DataW.TrodAll enc Tryz.prog W 0 (fun _ => true) true Tryz.f7.params.toList args.toList ds p := hA0
  rw [Tryz.params7] at hA hval hsz
  obtain ⟨v0, vs0, d0, ds0, p0, q0, hargs, rfl, rfl, h0, r0⟩ := trodAll_cons hA
  obtain ⟨v1, vs1, d1, ds1, p1, q1, rfl, rfl, rfl, h1, r1⟩ := trodAll_cons r0
  obtain ⟨rfl, rfl, rfl⟩ := trodAll_nil r1
  obtain rfl : args = #[v0, v1] := by cases args; simp_all
  obtain ⟨rfl, rfl⟩ := trodVars_none hV
  have lt : ∀ {t : TypeId} {v : Value} {d : DataW H} {p : List MemPlace}, DataW.Trod enc Tryz.prog W 0 (fun _ => true) true t v d p → ∀ x ∈ p, x.block < W.heap.size := fun h => by
    obtain ⟨m, hm⟩ := h; exact DataW.trod_lt m _ _ _ hm
  have hwt : ∀ (j : Nat) (t : TypeId) (d : DataW H), ([24, 25] : List TypeId)[j]? = some t → [d0, d1][j]? = some d → ∀ m ∈ d.weights Tryz.prog t, m ≤ reachBytes := fun j t d ht hd m hm => by
    have := List.all_eq_true.1 hsz m (DataW.weights_mem_each (j := j) (t := t) (d := d) (by
      rcases j with _ | _ | j
      · simpa using ht
      · simpa using ht
      · simp at ht) (by
      rcases j with _ | _ | j
      · simpa using hd
      · simpa using hd
      · simp at hd) m hm)
    simpa using this
  simp only [List.append_nil, Rows.uptoBulkAll] at hB
  obtain ⟨n0, x0, e0, a0, b0⟩ := arg_okB T_ok closedD bulkR (hval 0 24 v0 rfl rfl) h0 rfl (hwt 0 24 d0 rfl rfl)
  obtain ⟨n1, x1, e1, a1, b1⟩ := arg_okB T_ok closedD bulkR (hval 1 25 v1 rfl rfl) h1 rfl (hwt 1 25 d1 rfl rfl)
  obtain ⟨p, rfl⟩ := dec24 e0
  obtain ⟨l, rfl⟩ := dec25 e1
  have hv : RAs (cx noM noHeap noι W) [argP p, .d (.sl 3 48 (l.map encE))] [v0, v1] := by
    simp only [RAs]
    exact ⟨v0, _, rfl, a0, v1, _, rfl, a1, rfl⟩
  clear hA0 hval0
  have hl : l.length ≤ 2000000 := by have := evs_bulk l; omega
  refine (law_ends (byOk p l hl) hv).mono fun e W' ⟨he, bel⟩ => ?_
  subst he
  exact ⟨_, rfl, _, _, _, [], _, [], hW', trodAll_mk1 (shut_bool Tryz.underlying4 _), (trodAll_cons_mk (Below.trod laidOut (by kernel_rfl) (of_decide_eq_true (by kernel_rfl)) h0 bel (lt h0)) (trodAll_cons_mk (Below.trod laidOut (by kernel_rfl) (of_decide_eq_true (by kernel_rfl)) h1 bel (lt h1)) trodAll_mk0)), rfl, bel.frame _, fun h => by cases h⟩
set_option maxRecDepth 100000 in
theorem lifted (os : Os) (started : os.Started) (H : Type) (enc : TypeId × Value → H) (F : Stop.Interp) :
    ReturnsInHanded {} Tryz.checked os 7 .any ((Rows.OpenSpec.upto Rows.denoteBySpec).pre6 enc Tryz.prog Tryz.f7 Rows.denoteByUptoRow.domain false) (((Rows.OpenSpec.upto Rows.denoteBySpec).at F).post enc Tryz.prog Tryz.f7 false true false false) := by
  refine returnsInHanded_of_cond_sized (C := Tryz.checked) (s := Rows.OpenSpec.upto Rows.denoteBySpec) (k := Rows.uptoSmall) rfl own started (by kernel_rfl) Tryz.func7
    (OpenSpec.witness (enc := enc) (C := Tryz.checked) (s := Rows.OpenSpec.upto Rows.denoteBySpec) (k := Rows.uptoSmall) rfl false ⟨#[], #[.agg #[.slice none 0 0, .int .i64 0, .string ⟨#[]⟩, .bool false], .slice none 0 0], []⟩ 8 (by kernel_rfl) (by kernel_rfl) (by kernel_rfl)
      (x := ([.agg [.nil, .lit (.int .i64 0), .lit (.string []), .lit (.bool false)], .nil], [], [])) (by kernel_rfl) rfl (by kernel_rfl)) ?_
  intro W base args ds gs before hval hW _ hk hsz _
  exact contract H enc W base args ds gs before hval hW hk hsz
theorem over : Rows.denoteByUptoRow.holds Tryz.pinned (Rows.OpenSpec.upto Rows.denoteBySpec) :=
  OpenClaim.holds_of_cond 7 Tryz.f7 rfl rfl rfl rfl rfl rfl rfl ⟨rfl, rfl, rfl, rfl, rfl⟩ rfl rfl rfl rfl rfl (by kernel_rfl) Tryz.func7 (by kernel_rfl)
    (of_decide_eq_true (by kernel_rfl)) (by unfold Func.isWrapper; first | (rw [if_pos (by decide +kernel)]; kernel_rfl) | (rw [if_neg (by decide +kernel)]; exact ⟨rfl, rfl⟩))
    (fun os started H enc _ F => lifted os started H enc F)
theorem proved : Rows.DenoteByUptoSaid := over
end denoteBy
end Go.Proofs.YtojnicnbmgiplaaGreat
