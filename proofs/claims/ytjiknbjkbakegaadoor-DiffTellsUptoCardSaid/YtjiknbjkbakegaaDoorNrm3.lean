/- Parts of an abstract logic over the kit's walks, and walks in it: Nrm3. -/
import Derived.Test.YtjiknbjkbakegaaDoorNrm2
/- Other names change nothing: plain laws. Nothing of a program. -/
namespace Go.AL
set_option linter.unusedVariables false
set_option linter.unusedSimpArgs false


/-! ### The elements' names -/
/-- The other row: the same names, but for the k-th. -/
structure Called (P Q : List El) (k : Nat) (a : ByteArray) : Prop where
  len : P.length = Q.length
  at_ : ∀ (j : Nat) (e : El), P[j]? = some e → ∃ e', Q[j]? = some e' ∧ e'.al = (if j = k then frB else e.al)
  kth : ∃ e, P[k]? = some e ∧ e.al = a
  once : ∀ (j : Nat) (e : El), P[j]? = some e → idx (fun x => same x.al e.al) P = (j : Int)
  none : ∀ (j : Nat) (e : El), P[j]? = some e → same e.al frB = false
theorem Called.to {P Q : List El} {k : Nat} {a : ByteArray} (c : Called P Q k a) (s : ByteArray) : nm P Q s = re1 a frB s := by
  obtain ⟨ek, hk, ha⟩ := c.kth
  unfold re1
  rcases idx_cases (fun x : El => same x.al s) P with ⟨j, e, h1, h2, h3, _⟩ | ⟨h1, h2⟩
  · have hs : e.al = s := same_eq h3
    obtain ⟨e', h4, h5⟩ := c.at_ j e h2
    rw [nm_some h1 h4, h5]
    by_cases hj : j = k
    · subst hj
      have : e = ek := by rw [hk] at h2; exact (Option.some.inj h2).symm
      subst this
      rw [if_pos rfl, ← hs, ha, same_refl]; rfl
    · rw [if_neg hj, hs]
      cases hsa : same s a with
      | false => rfl
      | true =>
        have e1 : s = a := same_eq hsa
        have h6 := c.once k ek hk
        rw [ha, ← e1] at h6
        rw [h1] at h6
        exact absurd (by omega) hj
  · rw [nm_none (.inl (by rw [h1]; decide))]
    cases hsa : same s a with
    | false => rfl
    | true =>
      have e1 : s = a := same_eq hsa
      have := h2 ek (List.mem_of_getElem? hk)
      rw [ha, e1, same_refl] at this
      cases this
theorem Called.back {P Q : List El} {k : Nat} {a : ByteArray} (c : Called P Q k a) (s : ByteArray) (hs : same s frB = false) : nm Q P (re1 a frB s) = s := by
  obtain ⟨ek, hk, ha⟩ := c.kth
  unfold re1
  have hQ : ∀ (j : Nat) (e' : El), Q[j]? = some e' → ∃ e, P[j]? = some e ∧ e'.al = (if j = k then frB else e.al) := fun j e' h => by
    have hlt := (List.getElem?_eq_some_iff.1 h).1
    have hlt' : j < P.length := by rw [c.len]; exact hlt
    obtain ⟨e'', h1, h2⟩ := c.at_ j P[j] (List.getElem?_eq_getElem hlt')
    rw [h] at h1
    cases h1
    exact ⟨_, List.getElem?_eq_getElem hlt', h2⟩
  cases hsa : same s a with
  | true =>
    have e1 : s = a := same_eq hsa
    simp only [cond_true]
    rcases idx_cases (fun x : El => same x.al frB) Q with ⟨j, e', h1, h2, h3, _⟩ | ⟨h1, h2⟩
    · obtain ⟨e, h4, h5⟩ := hQ j e' h2
      by_cases hj : j = k
      · subst hj
        rw [nm_some h1 h4]
        have : e = ek := by rw [hk] at h4; exact (Option.some.inj h4).symm
        rw [this, ha, e1]
      · rw [if_neg hj] at h5
        have h3 : same e'.al frB = true := h3
        rw [h5, c.none j e h4] at h3
        cases h3
    · obtain ⟨e', h4, h5⟩ := c.at_ k ek hk
      have := h2 e' (List.mem_of_getElem? h4)
      rw [h5, if_pos rfl, same_refl] at this
      cases this
  | false =>
    simp only [cond_false]
    rcases idx_cases (fun x : El => same x.al s) Q with ⟨j, e', h1, h2, h3, _⟩ | ⟨h1, h2⟩
    · obtain ⟨e, h4, h5⟩ := hQ j e' h2
      have h3 : e'.al = s := same_eq h3
      by_cases hj : j = k
      · rw [if_pos hj, h3] at h5
        rw [h5, same_refl] at hs
        cases hs
      · rw [if_neg hj, h3] at h5
        rw [nm_some h1 h4, h5]
    · rw [nm_none (.inl (by rw [h1]; decide))]
/-! ### Equal or not -/
end Go.AL
