/- Parts of an abstract logic over the kit's walks, and walks in it: Evo. -/
import Derived.Test.YtaghhofbaoaajaaMe
/- Schemas changed, events moved: plain data; nothing of a program. -/
namespace Go.AL
set_option linter.unusedVariables false
set_option linter.unusedSimpArgs false

/-! ### Types, as they may be -/
structure TypeOk (t : Ty) : Prop where
  nm : isName t.name = true
  few : t.fields.length ≤ 5
  each : ∀ f ∈ t.fields, isName f.name = true ∧ 1 ≤ f.kind ∧ f.kind ≤ 3
  diff : ∀ (i j : Nat) (f g : Fld), t.fields[i]? = some f → t.fields[j]? = some g → same f.name g.name = true → i = j
theorem fieldAt_at {t : Ty} {i : Nat} {f : Fld} (hd : ∀ (i j : Nat) (f g : Fld), t.fields[i]? = some f → t.fields[j]? = some g → same f.name g.name = true → i = j) (h : t.fields[i]? = some f) : fieldAt t f.name = (i : Int) := by
  unfold fieldAt
  refine idx_some h (same_refl _) fun j g hj hg => ?_
  cases hq : same g.name f.name with
  | false => rfl
  | true => have := hd j i g f hg h hq; omega
theorem TypeOk.of {t : Ty} (h : isType t = true) : TypeOk t := by
  unfold isType at h
  simp only [Bool.and_eq_true, decide_eq_true_eq] at h
  obtain ⟨⟨h1, h2⟩, h3⟩ := h
  have hf : ∀ (i : Nat) (f : Fld), t.fields[i]? = some f → okF t i f = true := fun i f hf => by
    unfold okFs at h3
    rw [List.all_eq_true] at h3
    have := h3 i (by simpa using (List.getElem?_eq_some_iff.1 hf).1)
    simpa [hf] using this
  refine ⟨h1, h2, fun f hm => ?_, fun i j f g hi hj hs => ?_⟩
  · obtain ⟨i, hi⟩ := List.getElem?_of_mem hm
    have := hf i f hi
    unfold okF at this
    simp only [Bool.and_eq_true, decide_eq_true_eq] at this
    exact ⟨this.1.1.1, this.1.1.2, this.1.2⟩
  · have h1 := hf i f hi
    have h2 := hf j g hj
    unfold okF at h1 h2
    simp only [Bool.and_eq_true, beq_iff_eq] at h1 h2
    have e := same_eq hs
    have := h1.2
    rw [e, h2.2] at this
    omega
theorem TypeOk.is {t : Ty} (h : TypeOk t) : isType t = true := by
  refine type_ok h.nm (by have := h.few; simp; omega) (okFs_all fun i f _ hf => ?_)
  obtain ⟨h1, h2, h3⟩ := h.each f (List.mem_of_getElem? hf)
  exact okF_yes h1 (by simp; omega) (by simp; omega) (by rw [fieldAt_at h.diff hf]; simp)
end Go.AL
