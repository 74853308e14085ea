/- Parts of an abstract logic over the kit's walks, and walks in it: D8rt. -/
import Derived.Test.YtjiknbjkbakegaaDoorD8dt
import Derived.Test.YtjiknbjkbakegaaDoorD8st
import Derived.Test.YtjiknbjkbakegaaDoorAe
import Derived.Test.YtjiknbjkbakegaaDoorCards
import Derived.Test.YtjiknbjkbakegaaDoorTie
import Derived.WalkKit
import Derived.ProofKit
import Derived.OpenShut
import Derived.ShutString
import Derived.SizedLaws
import Derived.JoinedCond
import Derived.Deep.CondSized
import Derived.Deep.DeepHandedRow
import Derived.Lib.LaidTab
import Derived.Carry
namespace Go.Proofs.YtjiknbjkbakegaaDoor
open Go Go.AL Go.ChangeShapes Go.WideShapes Go.ChangeAt Go.RowKit
set_option linter.unusedVariables false
set_option linter.unusedSimpArgs false
namespace diffTells
set_option maxRecDepth 100000 in
theorem contract (H : Type) (enc : TypeId × Value → H) (W : World) (base : Nat) (args : Array Value) (ds gs : List (DataW H)) (before : List MemPlace)
    (hval0 : ∀ (j : Nat) t v, Tryd.f3.params[j]? = some t → args[j]? = some v → Value.okWide Tryd.prog W .any base t v)
    (hW : DataW.Whole enc Tryd.prog Tryd.f3.params.toList Rows.diffTellsSpec.vars false W args.toList ds gs before) (hk : Rows.uptoSmall H (ds ++ gs) = true)
    (hsz : (DataW.weightsEach Tryd.prog (Tryd.f3.params.toList ++ Rows.diffTellsSpec.plain.varTypes Tryd.prog) (ds ++ gs)).all (· ≤ reachBytes) = true) (hL : laidMetH Tryd.prog Rows.diffTellsUptoRow.laid W) :
    Calls Tryd.prog 3 args W fun e W' => ∃ v, e = .returned v ∧ Rows.diffTellsSpec.post enc Tryd.prog Tryd.f3 false true false false W args v W' := by
  obtain ⟨M, hM, hB⟩ : ∃ M, M ≤ 1048576 ∧ Rows.uptoBulkAll (ds ++ gs) ≤ M := ⟨_, Nat.le_refl _, small_all hk⟩
  clear hk
  have hval : ∀ (j : Nat) t v, Tryd.f3.params[j]? = some t → args[j]? = some v → Value.okWide Tryd.prog W .any base t v := hval0
  have hW' := hW
  obtain ⟨p, q, hA0, hV, rfl, hfz, hnd⟩ := hW
  have hA : DataW.TrodAll enc Tryd.prog W 0 (fun _ => true) true Tryd.f3.params.toList args.toList ds p := hA0
  rw [Tryd.params3] at hA hval hsz
  obtain ⟨v0, vs0, d0, ds0, p0, q0, hargs, rfl, rfl, h0, r0⟩ := trodAll_cons hA
  obtain ⟨v1, vs1, d1, ds1, p1, q1, rfl, rfl, rfl, h1, r1⟩ := trodAll_cons r0
  obtain ⟨v2, vs2, d2, ds2, p2, q2, rfl, rfl, rfl, h2, r2⟩ := trodAll_cons r1
  obtain ⟨rfl, rfl, rfl⟩ := trodAll_nil r2
  obtain rfl : args = #[v0, v1, v2] := by cases args; simp_all
  obtain ⟨rfl, rfl⟩ := trodVars_none hV
  have lt : ∀ {t : TypeId} {v : Value} {d : DataW H} {p : List MemPlace}, DataW.Trod enc Tryd.prog W 0 (fun _ => true) true t v d p → ∀ x ∈ p, x.block < W.heap.size := fun h => by
    obtain ⟨m, hm⟩ := h; exact DataW.trod_lt m _ _ _ hm
  have hwt : ∀ (j : Nat) (t : TypeId) (d : DataW H), ([24, 24, 26] : List TypeId)[j]? = some t → [d0, d1, d2][j]? = some d → ∀ m ∈ d.weights Tryd.prog t, m ≤ reachBytes := fun j t d ht hd m hm => by
    have := List.all_eq_true.1 hsz m (DataW.weights_mem_each (j := j) (t := t) (d := d) (by
      rcases j with _ | _ | _ | j
      · simpa using ht
      · simpa using ht
      · simpa using ht
      · simp at ht) (by
      rcases j with _ | _ | _ | j
      · simpa using hd
      · simpa using hd
      · simpa using hd
      · simp at hd) m hm)
    simpa using this
  simp only [List.append_nil, Rows.uptoBulkAll] at hB
  obtain ⟨n0, x0, e0, a0, b0⟩ := arg_okB T_ok closedT19 bulkR (hval 0 24 v0 rfl rfl) h0 rfl (hwt 0 24 d0 rfl rfl)
  obtain ⟨n1, x1, e1, a1, b1⟩ := arg_okB T_ok closedT19 bulkR (hval 1 24 v1 rfl rfl) h1 rfl (hwt 1 24 d1 rfl rfl)
  obtain ⟨n2, x2, e2, a2, b2⟩ := arg_okB T_ok closedT19 bulkR (hval 2 26 v2 rfl rfl) h2 rfl (hwt 2 26 d2 rfl rfl)
  obtain ⟨p, rfl⟩ := dec24 e0
  obtain ⟨q, rfl⟩ := dec24 e1
  obtain ⟨d, hn, rfl⟩ := dec26 e2
  have hv : RAs (cx noM noHeap noι W) [argP p, argP q, .agg ((encDl d).map .d)] [v0, v1, v2] := by
    simp only [RAs]
    exact ⟨v0, _, rfl, a0, v1, _, rfl, a1, v2, _, rfl, a2, rfl⟩
  clear hA0 hval0
  have hp : ∀ e ∈ p.els, (nodesX e.cond 1).length ≤ 1048576 := fun e he => by have := pat_bulk he 1; omega
  have hq : ∀ e ∈ q.els, (nodesX e.cond 1).length ≤ 1048576 := fun e he => by have := pat_bulk he 1; omega
  refine (law_endsW (diffTellsOk p q d hn hp hq) (tab_of hL) hv).mono fun e W' ⟨he, bel⟩ => ?_
  subst he
  exact ⟨_, rfl, _, _, _, [], _, [], hW', trodAll_mk1 (shut_bool Tryd.underlying4 _), (trodAll_cons_mk (Below.trod laidOut (by kernel_rfl) (of_decide_eq_true (by kernel_rfl)) h0 bel (lt h0)) (trodAll_cons_mk (Below.trod laidOut (by kernel_rfl) (of_decide_eq_true (by kernel_rfl)) h1 bel (lt h1)) (trodAll_cons_mk (Below.trod laidOut (by kernel_rfl) (of_decide_eq_true (by kernel_rfl)) h2 bel (lt h2)) trodAll_mk0))), rfl, bel.frame _, fun h => by cases h⟩
theorem laid_met (os : Os) : laidMet Tryd.prog Rows.diffTellsUptoRow.laid ((laidWorld os).forCall (fun _ _ => 0) ⟨#[], #[.agg #[.slice none 0 0, .int .i64 0, .string ⟨#[]⟩, .bool false], .agg #[.slice none 0 0, .int .i64 0, .string ⟨#[]⟩, .bool false], .agg #[.int .i64 0, .int .i64 0]], []⟩).memory :=
  laidMet_of_run' 8 (by kernel_rfl) (by kernel_rfl)
theorem reads (os : Os) {H : Type} (enc : TypeId × Value → H) : ∃ places, DataW.whole enc Tryd.prog ((laidWorld os).forCall (fun _ _ => 0) ⟨#[], #[.agg #[.slice none 0 0, .int .i64 0, .string ⟨#[]⟩, .bool false], .agg #[.slice none 0 0, .int .i64 0, .string ⟨#[]⟩, .bool false], .agg #[.int .i64 0, .int .i64 0]], []⟩).memory Tryd.f3.params.toList Rows.diffTellsSpec.vars false #[Value.agg #[.slice none 0 0, .int .i64 0, .string ⟨#[]⟩, .bool false], Value.agg #[.slice none 0 0, .int .i64 0, .string ⟨#[]⟩, .bool false], Value.agg #[.int .i64 0, .int .i64 0]].toList 8 = some ([.agg [.nil, .lit (.int .i64 0), .lit (.string []), .lit (.bool false)], .agg [.nil, .lit (.int .i64 0), .lit (.string []), .lit (.bool false)], .agg [.lit (.int .i64 0), .lit (.int .i64 0)]], [], places) :=
  ⟨[], by kernel_rfl⟩
set_option maxRecDepth 100000 in
theorem lifted (os : Os) (started : os.Started) (H : Type) (enc : TypeId × Value → H) (F : Stop.Interp) :
    ReturnsInHanded {} Tryd.checked os 3 .any ((Rows.OpenSpec.upto Rows.diffTellsSpec).preRow enc Tryd.prog Tryd.f3 Rows.diffTellsUptoRow.domain false Rows.diffTellsUptoRow.laid) (((Rows.OpenSpec.upto Rows.diffTellsSpec).at F).post enc Tryd.prog Tryd.f3 false true false false) := by
  obtain ⟨places, hx⟩ := reads os enc
  refine returnsInHanded_of_row (C := Tryd.checked) (s := Rows.OpenSpec.upto Rows.diffTellsSpec) own started (by kernel_rfl) Tryd.func3
    (witness_row_at (enc := enc) (C := Tryd.checked) false (laidWorld os) #[.agg #[.slice none 0 0, .int .i64 0, .string ⟨#[]⟩, .bool false], .agg #[.slice none 0 0, .int .i64 0, .string ⟨#[]⟩, .bool false], .agg #[.int .i64 0, .int .i64 0]] rfl (by kernel_rfl) (by kernel_rfl) (by kernel_rfl)
      (OpenSpec.preRow_of_cond 8 hx (by kernel_rfl) (fun k hk => by cases hk; kernel_rfl) (by kernel_rfl) (laid_met os))) ?_
  intro W base args ds gs before hval hW _ hcond hsz hL _ _
  exact contract H enc W base args ds gs before hval hW (hcond _ rfl) hsz hL
theorem said : Rows.DiffTellsUptoSaid :=
  OpenClaim.holds_of_cond 3 Tryd.f3 rfl rfl rfl rfl rfl rfl rfl ⟨rfl, rfl, rfl, rfl, rfl⟩ rfl rfl rfl rfl rfl (by kernel_rfl) Tryd.func3 (by kernel_rfl)
    (of_decide_eq_true (by kernel_rfl)) (by unfold Func.isWrapper; first | (rw [if_pos (by decide +kernel)]; kernel_rfl) | (rw [if_neg (by decide +kernel)]; exact ⟨rfl, rfl⟩))
    (fun os started H enc _ F => by rw [OpenClaim.pre_eq_preRow]; exact lifted os started H enc F)
theorem plain (f : FuncId) (fn : Func) (hf : Tryd.pinned.checked.prog.funcNamed "pastern/pasternlaw19.DiffTells" = some f) (hfn : Tryd.pinned.checked.prog.funcs[f]? = some fn) :
    false = Tryd.pinned.checked.prog.looks [] ∧ ∀ (j : Nat) t, fn.params[j]? = some t → Tryd.pinned.checked.prog.wantsStandIn t = false := by
  obtain rfl : f = 3 := Option.some.inj ((show Tryd.prog.funcNamed "pastern/pasternlaw19.DiffTells" = some 3 by kernel_rfl).symm.trans hf) |>.symm
  obtain rfl : fn = Tryd.f3 := (Option.some.inj (Tryd.func3.symm.trans hfn)).symm
  refine ⟨by kernel_rfl, fun j t ht => ?_⟩
  rw [Tryd.params3] at ht
  have h : t = 24 ∨ t = 26 := by have h0 := Array.mem_of_getElem? ht; simp at h0; first | exact h0 | exact Or.comm.1 h0 | (rcases h0 with h0 | h0 | h0 <;> simp [h0]) | (rcases h0 with h0 | h0 <;> simp [h0])
  rcases h with rfl | rfl
  · exact (show Tryd.prog.wantsStandIn 24 = false by kernel_rfl)
  · exact (show Tryd.prog.wantsStandIn 26 = false by kernel_rfl)
theorem card : Rows.DiffTellsUptoCardSaid :=
  Claim7.holds_tied_plain_at .later [] _ _ _ _ said (fun _ h => by cases h) (by kernel_rfl) (fun _ h => by cases h) diffTellsUpto_row_tie rfl ⟨rfl, rfl⟩ (by kernel_rfl) rfl plain (by kernel_rfl)
end diffTells
end Go.Proofs.YtjiknbjkbakegaaDoor
