/- Parts of an abstract logic over the kit's walks, and walks in it: Mean, Mean2, Mean3, Mean4, Mean5. -/
import Derived.Test.YtchpllgeahnmmaaDoorNrm2
import Derived.Test.YtchpllgeahnmmaaDoorBa
import Derived.Test.YtchpllgeahnmmaaDoorELa
namespace Go.AL
set_option linter.unusedVariables false
set_option linter.unusedSimpArgs false
def kindsAs : List Vl → List Fld → Bool
  | [], [] => true
  | v :: vs, f :: fs => v.k == f.kind && kindsAs vs fs
  | _, _ => false
def evtR (s : List Ty) (e : Ev) : Int :=
  bif !(findT s e.ty).2 then 13
  else bif decide (e.ts < 0) || (decide (e.ts > 1073741824) || ((e.vals.length : Int) != ((findT s e.ty).1.fields.length : Int))) then 10
  else bif !(e.vals.all isVal) then 10
  else bif kindsAs e.vals (findT s e.ty).1.fields then 0 else 14
theorem findT_at {s : List Ty} {nm : ByteArray} {i : Nat} {t : Ty} (h : s[i]? = some t) (hs : same t.name nm = true) (hn : ∀ (j : Nat) (a : Ty), j < i → s[j]? = some a → same a.name nm = false) : findT s nm = (t, true) := by
  have e := idx_some (p := fun t : Ty => same t.name nm) h hs hn
  obtain ⟨i', a, h1, h2, h3⟩ := find_pos (s := s) (nm := nm) (by rw [e]; simp)
  rw [h1] at e
  have : i' = i := by omega
  subst this
  rw [h2] at h
  cases h
  exact h3
theorem findT_no {s : List Ty} {nm : ByteArray} (hn : ∀ (j : Nat) (a : Ty), j < s.length → s[j]? = some a → same a.name nm = false) : findT s nm = (zeroT, false) := by
  have e := idx_none (p := fun t : Ty => same t.name nm) hn
  exact find_neg (by rw [e]; rfl)
end Go.AL
namespace Go.AL
set_option linter.unusedVariables false
set_option linter.unusedSimpArgs false
theorem val_k {v : Vl} (h : isVal v = true) : v.k = 1 ∨ v.k = 2 ∨ v.k = 3 := by
  by_cases h1 : v.k = 1
  · exact .inl h1
  · by_cases h2 : v.k = 2
    · exact .inr (.inl h2)
    · by_cases h3 : v.k = 3
      · exact .inr (.inr h3)
      · unfold isVal at h
        rw [show (v.k == 1) = false by simpa using h1, show (v.k == 2) = false by simpa using h2, show (v.k == 3) = false by simpa using h3] at h
        cases h
theorem kindsAs_at : ∀ {vs : List Vl} {fs : List Fld} {i : Nat} {v : Vl} {f : Fld}, kindsAs vs fs = true → vs[i]? = some v → fs[i]? = some f → v.k = f.kind
  | [], _, i, v, f, _, h, _ => by simp at h
  | _ :: _, [], i, v, f, h, _, _ => by simp [kindsAs] at h
  | a :: vs, b :: fs, i, v, f, h, h1, h2 => by
    simp only [kindsAs, Bool.and_eq_true, beq_iff_eq] at h
    cases i with
    | zero => simp at h1 h2; rw [← h1, ← h2]; exact h.1
    | succ i => exact kindsAs_at h.2 (by simpa using h1) (by simpa using h2)
theorem evt_facts {s : List Ty} {e : Ev} (h : evtR s e = 0) : (findT s e.ty).2 = true ∧ e.vals.length = (findT s e.ty).1.fields.length ∧ (∀ v ∈ e.vals, isVal v = true) ∧ kindsAs e.vals (findT s e.ty).1.fields = true := by
  unfold evtR at h
  cases h1 : (findT s e.ty).2 with
  | false => rw [h1] at h; simp at h
  | true =>
    rw [h1] at h
    simp only [Bool.not_true, cond_false] at h
    cases h2 : (decide (e.ts < 0) || (decide (e.ts > 1073741824) || ((e.vals.length : Int) != ((findT s e.ty).1.fields.length : Int)))) with
    | true => rw [h2] at h; simp at h
    | false =>
      rw [h2] at h
      simp only [cond_false] at h
      cases h3 : e.vals.all isVal with
      | false => rw [h3] at h; simp at h
      | true =>
        rw [h3] at h
        simp only [Bool.not_true, cond_false] at h
        cases h4 : kindsAs e.vals (findT s e.ty).1.fields with
        | false => rw [h4] at h; simp at h
        | true =>
          simp only [Bool.or_eq_false_iff, bne_eq_false_iff_eq] at h2
          exact ⟨rfl, by have := h2.2.2; omega, fun v hv => List.all_eq_true.1 h3 v hv, rfl⟩
end Go.AL
namespace Go.AL
set_option linter.unusedVariables false
set_option linter.unusedSimpArgs false
end Go.AL
namespace Go.AL
set_option linter.unusedVariables false
set_option linter.unusedSimpArgs false
end Go.AL
namespace Go.AL
set_option linter.unusedVariables false
set_option linter.unusedSimpArgs false
theorem sch_long {s : List Ty} (h : decide ((s.length : Int) > 5) = true) : isSchema s = false := by
  have : decide (s.length ≤ 5) = false := by simp at h ⊢; omega
  simp [isSchema, this]
theorem sch_badT {s : List Ty} {i : Nat} {t : Ty} (h : s[i]? = some t) (hb : isType t = false) : isSchema s = false := isSchema_bad h hb
theorem type_name {t : Ty} (h : isName t.name = false) : isType t = false := by simp [isType, h]
theorem type_long {t : Ty} (h : decide ((t.fields.length : Int) > 5) = true) : isType t = false := by
  have : decide (t.fields.length ≤ 5) = false := by simp at h ⊢; omega
  simp [isType, this]
theorem sch_badR {s : List Ty} {i : Nat} {a b : Ty} (h1 : s[i]? = some a) (h2 : s[i + 1]? = some b) (hl : Op.bytesLess a.name.toList b.name.toList = false) : isSchema s = false := by
  have : rise (s.map (·.name)) = false := rise_bad (i := i) (a := a.name) (b := b.name) (by simp [h1]) (by simp [h2]) hl
  simp [isSchema, this]
theorem type_ok {t : Ty} (h1 : isName t.name = true) (h2 : decide ((t.fields.length : Int) > 5) = false) (h3 : okFs t = true) : isType t = true := by
  have : decide (t.fields.length ≤ 5) = true := by simp at h2 ⊢; omega
  simp [isType, h1, this, h3]
theorem sch_ok {s : List Ty} (h : decide ((s.length : Int) > 5) = false) (ht : ∀ (j : Nat) (a : Ty), j < s.length → s[j]? = some a → isType a = true) (hr : ∀ (j : Nat) (a b : Ty), j + 1 < s.length → s[j]? = some a → s[j + 1]? = some b → Op.bytesLess a.name.toList b.name.toList = true) : isSchema s = true := by
  have e1 : decide (s.length ≤ 5) = true := by simp at h ⊢; omega
  have e2 : s.all isType = true := all_of ht
  have e3 : rise (s.map (·.name)) = true := rise_all fun j a b hj ha hb => by
    simp only [List.getElem?_map, Option.map_eq_some_iff] at ha hb
    obtain ⟨x, hx, rfl⟩ := ha
    obtain ⟨y, hy, rfl⟩ := hb
    exact hr j x y (by simpa using hj) hx hy
  simp [isSchema, e1, e2, e3]
theorem okF_no {t : Ty} {i : Nat} {f : Fld} (h : isName f.name = false ∨ decide (f.kind < 1) = true ∨ decide (f.kind > 3) = true ∨ (fieldAt t f.name != (i : Int)) = true) : okF t i f = false := by
  unfold okF
  rcases h with h | h | h | h
  · simp [h]
  · have : decide (1 ≤ f.kind) = false := by simp at h ⊢; omega
    simp [this]
  · have : decide (f.kind ≤ 3) = false := by simp at h ⊢; omega
    simp [this]
  · have : (fieldAt t f.name == (i : Int)) = false := by simp at h ⊢; exact h
    simp [this]
theorem okF_yes {t : Ty} {i : Nat} {f : Fld} (h1 : isName f.name = true) (h2 : decide (f.kind < 1) = false) (h3 : decide (f.kind > 3) = false) (h4 : (fieldAt t f.name != (i : Int)) = false) : okF t i f = true := by
  unfold okF
  have e2 : decide (1 ≤ f.kind) = true := by simp at h2 ⊢; omega
  have e3 : decide (f.kind ≤ 3) = true := by simp at h3 ⊢; omega
  have e4 : (fieldAt t f.name == (i : Int)) = true := by simp at h4 ⊢; exact h4
  simp [h1, e2, e3, e4]
theorem evt_none {s : List Ty} {e : Ev} (h : (findT s e.ty).2 = false) : evtR s e = 13 := by simp [evtR, h]
theorem evt_form {s : List Ty} {e : Ev} (h : (findT s e.ty).2 = true) (h2 : (decide (e.ts < 0) || (decide (e.ts > 1073741824) || ((e.vals.length : Int) != ((findT s e.ty).1.fields.length : Int)))) = true) : evtR s e = 10 := by
  unfold evtR; rw [h, h2]; rfl
theorem evt_val {s : List Ty} {e : Ev} (h : (findT s e.ty).2 = true) (h2 : (decide (e.ts < 0) || (decide (e.ts > 1073741824) || ((e.vals.length : Int) != ((findT s e.ty).1.fields.length : Int)))) = false) {i : Nat} {v : Vl} (hv : e.vals[i]? = some v) (hb : isVal v = false) : evtR s e = 10 := by
  have : e.vals.all isVal = false := by rw [List.all_eq_false]; exact ⟨v, List.mem_of_getElem? hv, by simp [hb]⟩
  unfold evtR; rw [h, h2, this]; rfl
theorem kindsAs_no : ∀ {vs : List Vl} {fs : List Fld} {i : Nat} {v : Vl} {f : Fld}, vs[i]? = some v → fs[i]? = some f → (v.k != f.kind) = true → kindsAs vs fs = false
  | [], _, i, v, f, h, _, _ => by simp at h
  | _ :: _, [], i, v, f, _, h, _ => by simp at h
  | x :: vs, y :: fs, 0, v, f, h1, h2, h3 => by
    simp at h1 h2; subst h1; subst h2
    have : (x.k == y.kind) = false := by simpa using h3
    simp only [kindsAs, this, Bool.false_and]
  | x :: vs, y :: fs, i + 1, v, f, h1, h2, h3 => by simp only [kindsAs, kindsAs_no (vs := vs) (fs := fs) (i := i) (by simpa using h1) (by simpa using h2) h3, Bool.and_false]
theorem kindsAs_yes : ∀ {vs : List Vl} {fs : List Fld}, vs.length = fs.length → (∀ (i : Nat) (v : Vl) (f : Fld), vs[i]? = some v → fs[i]? = some f → (v.k != f.kind) = false) → kindsAs vs fs = true
  | [], [], _, _ => rfl
  | [], _ :: _, h, _ => by simp at h
  | _ :: _, [], h, _ => by simp at h
  | x :: vs, y :: fs, hl, h => by
    have h0 : (x.k == y.kind) = true := by have := h 0 x y rfl rfl; simpa using this
    simp only [kindsAs, h0, Bool.true_and]
    exact kindsAs_yes (by simpa using hl) fun i v f h1 h2 => h (i + 1) v f (by simpa using h1) (by simpa using h2)
theorem evt_kind {s : List Ty} {e : Ev} (h : (findT s e.ty).2 = true) (h2 : (decide (e.ts < 0) || (decide (e.ts > 1073741824) || ((e.vals.length : Int) != ((findT s e.ty).1.fields.length : Int)))) = false) (h3 : e.vals.all isVal = true) (h4 : kindsAs e.vals (findT s e.ty).1.fields = false) : evtR s e = 14 := by
  unfold evtR; rw [h, h2, h3, h4]; rfl
theorem evt_yes {s : List Ty} {e : Ev} (h : (findT s e.ty).2 = true) (h2 : (decide (e.ts < 0) || (decide (e.ts > 1073741824) || ((e.vals.length : Int) != ((findT s e.ty).1.fields.length : Int)))) = false) (h3 : e.vals.all isVal = true) (h4 : kindsAs e.vals (findT s e.ty).1.fields = true) : evtR s e = 0 := by
  unfold evtR; rw [h, h2, h3, h4]; rfl
end Go.AL
