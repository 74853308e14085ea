/- Part of an abstract logic over the kit's walks, and walks in it: R1row. -/
import Derived.Test.YtdlikopmjhfalaaR1k
import Derived.Test.YtdlikopmjhfalaaA18
import Derived.Test.YtdlikopmjhfalaaRows
import Derived.WalkKit
import Derived.ProofKit
import Derived.OpenShut
import Derived.ShutString
import Derived.SizedLaws
import Derived.Carry
namespace Go.Proofs.Ytdlikopmjhfalaa
open Go Go.AL Go.ChangeShapes Go.WideShapes Go.ChangeAt Go.RowKit
set_option linter.unusedVariables false
set_option linter.unusedSimpArgs false

theorem dec_list {α : Type} {enc : α → List D} : ∀ {xs : List (List D)}, (∀ x ∈ xs, ∃ a, x = enc a) → ∃ l : List α, xs = l.map enc
  | [], _ => ⟨[], rfl⟩
  | x :: xs, h => by
    obtain ⟨a, rfl⟩ := h x (by simp)
    obtain ⟨l, rfl⟩ := dec_list (xs := xs) fun y hy => h y (by simp [hy])
    exact ⟨a :: l, rfl⟩
theorem dec9 {n : Nat} {x : List D} (h : DTc T n 9 x) : ∃ s, x = [str s] := by
  cases n with
  | zero => exact h.elim
  | succ n =>
    have h : ∃ s, x = [.lit (.string s)] ∧ s.size ≤ 140737488351232 := h
    obtain ⟨s, rfl, _⟩ := h
    exact ⟨s, rfl⟩
theorem dec3 {n : Nat} {x : List D} (h : DTc T n 3 x) : ∃ m, x = [int m] := by
  cases n with
  | zero => exact h.elim
  | succ n =>
    have h : ∃ m, x = [.lit (.int .i64 m)] ∧ IntKind.i64.min ≤ m ∧ m ≤ IntKind.i64.max := h
    obtain ⟨s, rfl, _⟩ := h
    exact ⟨s, rfl⟩
theorem dec31 {n : Nat} {x : List D} (h : DTc T n 31 x) : ∃ f, x = encF f := by
  cases n with
  | zero => exact h.elim
  | succ n =>
    have h : partsT (DTc T n) [9, 3] x := h
    obtain ⟨p, _, rfl, h1, p2, _, rfl, h2, rfl⟩ := h
    obtain ⟨s, rfl⟩ := dec9 h1
    obtain ⟨m, rfl⟩ := dec3 h2
    exact ⟨⟨s, m⟩, rfl⟩
theorem dec27 {n : Nat} {x : List D} (h : DTc T n 27 x) : ∃ l : List Fld, x = [.sl 2 24 (l.map encF)] := by
  cases n with
  | zero => exact h.elim
  | succ n =>
    have h : ∃ xs : List (List D), x = [.sl 2 24 xs] ∧ (∀ y ∈ xs, DTc T n 31 y) ∧ xs.length * 24 ≤ 140737488351232 := h
    obtain ⟨xs, rfl, h1, _⟩ := h
    obtain ⟨l, rfl⟩ := dec_list fun y hy => dec31 (h1 y hy)
    exact ⟨l, rfl⟩
theorem dec29 {n : Nat} {x : List D} (h : DTc T n 29 x) : ∃ t, x = encT t := by
  cases n with
  | zero => exact h.elim
  | succ n =>
    have h : partsT (DTc T n) [9, 27] x := h
    obtain ⟨p, _, rfl, h1, p2, _, rfl, h2, rfl⟩ := h
    obtain ⟨s, rfl⟩ := dec9 h1
    obtain ⟨l, rfl⟩ := dec27 h2
    exact ⟨⟨s, l⟩, rfl⟩
theorem dec25 {n : Nat} {x : List D} (h : DTc T n 25 x) : ∃ s, x = [encS s] := by
  cases n with
  | zero => exact h.elim
  | succ n =>
    have h : partsT (DTc T n) [23] x := h
    obtain ⟨p, _, rfl, h1, rfl⟩ := h
    cases n with
    | zero => exact h1.elim
    | succ n =>
      have h1 : ∃ xs : List (List D), p = [.sl 2 40 xs] ∧ (∀ y ∈ xs, DTc T n 29 y) ∧ xs.length * 40 ≤ 140737488351232 := h1
      obtain ⟨xs, rfl, h1, _⟩ := h1
      obtain ⟨l, rfl⟩ := dec_list fun y hy => dec29 (h1 y hy)
      exact ⟨l, rfl⟩
theorem closed2 : closedT T [3, 9, 31, 27, 29, 23, 25] = true := by decide +kernel
theorem own : ownKnob Try.prog.godebug = none := by kernel_rfl
theorem laidOut : laidOutB Try.prog = true := by kernel_rfl
namespace schemaFinds
set_option maxRecDepth 100000 in
theorem lifted (os : Os) (started : os.Started) (H : Type) (enc : TypeId × Value → H) :
    ReturnsInHanded {} Try.checked os 4 .any (Rows.schemaFindsSpec.pre6 enc Try.prog Try.f4 Rows.schemaFindsRow.domain false) (Rows.schemaFindsSpec.post enc Try.prog Try.f4 false true false false) := by
  refine returnsInHanded_of_change_sized (C := Try.checked) own started (by kernel_rfl) Try.func4
    (ChangeSpec.witness6 (enc := enc) (C := Try.checked) false ⟨#[], #[.agg #[.slice none 0 0], .string ⟨#[]⟩], []⟩ 8 (by kernel_rfl) (by kernel_rfl) (by kernel_rfl) (by kernel_rfl)) ?_
  intro W base args ds gs before hval0 hW hcnd hsz _
  have hval : ∀ (j : Nat) t v, Try.f4.params[j]? = some t → args[j]? = some v → Value.okWide Try.prog W .any base t v := hval0
  have hW' := hW
  obtain ⟨p, q, hA0, hV, rfl, hfz, hnd⟩ := hW
  have hA : DataW.TrodAll enc Try.prog W 0 (fun _ => true) true Try.f4.params.toList args.toList ds p := hA0
  rw [Try.params4] at hA hval hsz
  obtain ⟨v0, vs0, d0, ds0, p0, q0, hargs, rfl, rfl, h0, r0⟩ := trodAll_cons hA
  obtain ⟨v1, vs1, d1, ds1, p1, q1, rfl, rfl, rfl, h1, r1⟩ := trodAll_cons r0
  obtain ⟨rfl, rfl, rfl⟩ := trodAll_nil r1
  obtain rfl : args = #[v0, v1] := by cases args; simp_all
  obtain ⟨rfl, rfl⟩ := trodVars_none hV
  have lt : ∀ {t : TypeId} {v : Value} {d : DataW H} {p : List MemPlace}, DataW.Trod enc Try.prog W 0 (fun _ => true) true t v d p → ∀ x ∈ p, x.block < W.heap.size := fun h => by
    obtain ⟨m, hm⟩ := h; exact DataW.trod_lt m _ _ _ hm
  have hwt : ∀ (j : Nat) (t : TypeId) (d : DataW H), ([25, 9] : List TypeId)[j]? = some t → [d0, d1][j]? = some d → ∀ m ∈ d.weights Try.prog t, m ≤ reachBytes := fun j t d ht hd m hm => by
    have := List.all_eq_true.1 hsz m (DataW.weights_mem_each (j := j) (t := t) (d := d) (by
      rcases j with _ | _ | j
      · simpa using ht
      · simpa using ht
      · simp at ht) (by
      rcases j with _ | _ | j
      · simpa using hd
      · simpa using hd
      · simp at hd) m hm)
    simpa using this
  obtain ⟨n0, x0, e0, a0⟩ := arg_ok T_ok closed2 (hval 0 25 v0 rfl rfl) h0 rfl (hwt 0 25 d0 rfl rfl)
  obtain ⟨n1, x1, e1, a1⟩ := arg_ok T_ok closed2 (hval 1 9 v1 rfl rfl) h1 rfl (hwt 1 9 d1 rfl rfl)
  obtain ⟨s, rfl⟩ := dec25 e0
  obtain ⟨nm, rfl⟩ := dec9 e1
  have hv : RAs (cx noM noHeap noι W) [argS s, .d (str nm)] [v0, v1] := by
    simp only [RAs]
    exact ⟨v0, _, rfl, a0, v1, _, rfl, a1, rfl⟩
  clear hA0 hval0
  refine (law_ends (findsOk s nm) hv).mono fun e W' ⟨he, bel⟩ => ?_
  subst he
  exact ⟨_, rfl, _, _, _, [], _, [], hW', trodAll_mk1 (shut_bool Try.underlying4 _), (trodAll_cons_mk (Below.trod laidOut (by kernel_rfl) (of_decide_eq_true (by kernel_rfl)) h0 bel (lt h0)) (trodAll_cons_mk (Below.trod laidOut (by kernel_rfl) (of_decide_eq_true (by kernel_rfl)) h1 bel (lt h1)) trodAll_mk0)), rfl, bel.frame _, fun h => by cases h⟩

theorem over : Rows.schemaFindsRow.holds Try.pinned (OpenSpec.ofChange Rows.schemaFindsSpec) :=
  OpenClaim.holds_of_wide 4 Try.f4 rfl rfl rfl rfl rfl rfl rfl ⟨rfl, rfl, rfl, rfl, rfl⟩ rfl rfl rfl rfl rfl (by kernel_rfl) Try.func4 (by kernel_rfl)
    (of_decide_eq_true (by kernel_rfl)) (by unfold Func.isWrapper; first | (rw [if_pos (by decide +kernel)]; kernel_rfl) | (rw [if_neg (by decide +kernel)]; exact ⟨rfl, rfl⟩))
    (fun os started H enc _ => lifted os started H enc)
theorem proved : Rows.SchemaFindsSaid := over
#print axioms proved
end schemaFinds
end Go.Proofs.Ytdlikopmjhfalaa
