/- Parts of an abstract logic over the kit's walks, and walks in it: Need3. -/
import Derived.Test.YtaghhofbaoaajaaNeed2
import Derived.Test.YtaghhofbaoaajaaMa
import Derived.Test.YtaghhofbaoaajaaELa
/- How many uses there may be; the known ones; plain data. -/
namespace Go.AL
open Go.Proofs Go.Sort
set_option linter.unusedVariables false
set_option linter.unusedSimpArgs false
theorem nodes_few {x : Exp} (h : (sameX x zeroX || isX x) = true) : (nodesX x 1).length ≤ 24 := by
  rw [Bool.or_eq_true] at h
  rcases h with h | h
  · obtain ⟨o, v, a, f, k, rfl⟩ := Exp.shape x
    have ho : (o == 0) = true := by
      unfold zeroX sameX at h
      rw [Bool.and_eq_true] at h
      exact h.1
    unfold nodesX
    rw [ho]
    exact Nat.zero_le _
  · unfold isX at h
    simp only [Bool.and_eq_true, decide_eq_true_eq] at h
    exact h.2.1
theorem isPat_at {p : Pat} (h : isPat p = true) {i : Nat} {e : El} (he : p.els[i]? = some e) : elOk p i e = true := by
  unfold isPat at h
  rw [Bool.and_eq_true] at h
  have := h.2
  unfold elsOk at this
  have := List.all_eq_true.1 this i (List.mem_range.2 (List.getElem?_eq_some_iff.1 he).1)
  rwa [he] at this
theorem pat_few {p : Pat} (h : isPat p = true) : p.els.length ≤ 5 ∧ ∀ e ∈ p.els, (nodesX e.cond 1).length ≤ 24 ∧ e.tys.length ≤ 3 := by
  refine ⟨(isPat_head h).2.1, fun e he => ?_⟩
  obtain ⟨i, hi⟩ := List.getElem?_of_mem he
  have h1 := isPat_at h hi
  unfold elOk isElemX headL at h1
  simp only [Bool.and_eq_true, Bool.not_eq_true', decide_eq_false_iff_not] at h1
  exact ⟨nodes_few h1.1.2.2, by have := h1.1.1.2.2.1; omega⟩
theorem fm_few {α β : Type} {f : α → List β} {n : Nat} : ∀ {l : List α}, (∀ x ∈ l, (f x).length ≤ n) → (l.flatMap f).length ≤ l.length * n
  | [], _ => by simp
  | x :: l, h => by
    have h1 := h x (by simp)
    have h2 := fm_few (l := l) fun y hy => h y (by simp [hy])
    rw [List.flatMap_cons, List.length_append, List.length_cons, Nat.add_mul]
    omega
theorem uses_few {p : Pat} (h : isPat p = true) : (usesAll p).length ≤ 375 := by
  obtain ⟨h1, h2⟩ := pat_few h
  have h3 : ∀ e ∈ p.els, (usesE p e).length ≤ 75 := fun e he => by
    obtain ⟨g1, g2⟩ := h2 e he
    unfold usesE
    rw [List.length_append]
    have q1 : (usesB p e).length ≤ 3 := by
      unfold usesB
      cases same p.byf nul with
      | true => exact Nat.zero_le _
      | false => show (e.tys.map _).length ≤ 3; rw [List.length_map]; exact g2
    have q2 : (usesC p e).length ≤ (nodesX e.cond 1).length * 3 := fm_few fun x _ => by
      unfold usesN
      rw [List.length_map]
      exact types_len fun d hd => (h2 d hd).2
    omega
  have := fm_few h3
  unfold usesAll
  omega
/-! ### The known ones -/
deriving instance DecidableEq for Us
end Go.AL
