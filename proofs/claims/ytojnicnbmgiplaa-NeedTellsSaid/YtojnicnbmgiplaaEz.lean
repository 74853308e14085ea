/- Parts of an abstract logic over the kit's walks, and walks in it: Evo, Evo4. -/
import Derived.Test.YtojnicnbmgiplaaMe
import Derived.Test.YtojnicnbmgiplaaAf
/- Schemas changed, events moved: plain data; nothing of a program. -/
namespace Go.AL
set_option linter.unusedVariables false
set_option linter.unusedSimpArgs false

/-! ### Types, as they may be -/
structure TypeOk (t : Ty) : Prop where
  nm : isName t.name = true
  few : t.fields.length ≤ 5
  each : ∀ f ∈ t.fields, isName f.name = true ∧ 1 ≤ f.kind ∧ f.kind ≤ 3
  diff : ∀ (i j : Nat) (f g : Fld), t.fields[i]? = some f → t.fields[j]? = some g → same f.name g.name = true → i = j
theorem fieldAt_at {t : Ty} {i : Nat} {f : Fld} (hd : ∀ (i j : Nat) (f g : Fld), t.fields[i]? = some f → t.fields[j]? = some g → same f.name g.name = true → i = j) (h : t.fields[i]? = some f) : fieldAt t f.name = (i : Int) := by
  unfold fieldAt
  refine idx_some h (same_refl _) fun j g hj hg => ?_
  cases hq : same g.name f.name with
  | false => rfl
  | true => have := hd j i g f hg h hq; omega
theorem TypeOk.of {t : Ty} (h : isType t = true) : TypeOk t := by
  unfold isType at h
  simp only [Bool.and_eq_true, decide_eq_true_eq] at h
  obtain ⟨⟨h1, h2⟩, h3⟩ := h
  have hf : ∀ (i : Nat) (f : Fld), t.fields[i]? = some f → okF t i f = true := fun i f hf => by
    unfold okFs at h3
    rw [List.all_eq_true] at h3
    have := h3 i (by simpa using (List.getElem?_eq_some_iff.1 hf).1)
    simpa [hf] using this
  refine ⟨h1, h2, fun f hm => ?_, fun i j f g hi hj hs => ?_⟩
  · obtain ⟨i, hi⟩ := List.getElem?_of_mem hm
    have := hf i f hi
    unfold okF at this
    simp only [Bool.and_eq_true, decide_eq_true_eq] at this
    exact ⟨this.1.1.1, this.1.1.2, this.1.2⟩
  · have h1 := hf i f hi
    have h2 := hf j g hj
    unfold okF at h1 h2
    simp only [Bool.and_eq_true, beq_iff_eq] at h1 h2
    have e := same_eq hs
    have := h1.2
    rw [e, h2.2] at this
    omega
theorem TypeOk.is {t : Ty} (h : TypeOk t) : isType t = true := by
  refine type_ok h.nm (by have := h.few; simp; omega) (okFs_all fun i f _ hf => ?_)
  obtain ⟨h1, h2, h3⟩ := h.each f (List.mem_of_getElem? hf)
  exact okF_yes h1 (by simp; omega) (by simp; omega) (by rw [fieldAt_at h.diff hf]; simp)
end Go.AL
/- Schemas changed: what the tests on a change tell; a row without one. Plain data; nothing of a program. -/
namespace Go.AL
set_option linter.unusedVariables false
set_option linter.unusedSimpArgs false
theorem evS_ty {a b : Ev} (h : (!(a.ty.toList == b.ty.toList)) = true) : sameEv a b = false := by
  have : same a.ty b.ty = false := by simpa [same] using h
  simp [sameEv, this]
theorem evS_ts {a b : Ev} (h : (a.ts != b.ts) = true) : sameEv a b = false := by
  have : (a.ts == b.ts) = false := by simpa using h
  simp [sameEv, this]
theorem evS_len {a b : Ev} (h : a.vals.length ≠ b.vals.length) : sameEv a b = false := by simp [sameEv, allSame_len h]
theorem evS_val {a b : Ev} {i : Nat} {x y : Vl} (hx : a.vals[i]? = some x) (hy : b.vals[i]? = some y) (h : sameV x y = false) : sameEv a b = false := by simp [sameEv, allSame_ne hx hy h]
theorem evS_ok {a b : Ev} (h1 : (!(a.ty.toList == b.ty.toList)) = false) (h2 : (a.ts != b.ts) = false) (h3 : a.vals.length = b.vals.length) (hp : ∀ (j : Nat) (u v : Vl), a.vals[j]? = some u → b.vals[j]? = some v → sameV u v = true) : sameEv a b = true := by
  have g1 : same a.ty b.ty = true := by simpa [same] using h1
  have g2 : (a.ts == b.ts) = true := by simpa using h2
  simp [sameEv, g1, g2, allSame_all h3 (fun j a b _ => hp j a b)]
end Go.AL
