/- Plain laws on schemas. -/
import Derived.Test.YthffbfjnahipcaaSch
namespace Go.AL
set_option linter.unusedVariables false

theorem less_irrefl : ∀ l : List UInt8, Op.bytesLess l l = false
  | [] => rfl
  | a :: l => by simp [Op.bytesLess, less_irrefl l]
theorem less_trans : ∀ {x y z : List UInt8}, Op.bytesLess x y = true → Op.bytesLess y z = true → Op.bytesLess x z = true
  | _, [], _, h, _ => by simp [Op.bytesLess] at h
  | _, _ :: _, [], _, h => by simp [Op.bytesLess] at h
  | [], b :: y, c :: z, _, _ => rfl
  | a :: x, b :: y, c :: z, h1, h2 => by
    simp only [Op.bytesLess, Bool.or_eq_true, decide_eq_true_eq, Bool.and_eq_true, beq_iff_eq] at h1 h2 ⊢
    rcases h1 with h1 | ⟨rfl, h1⟩
    · rcases h2 with h2 | ⟨rfl, h2⟩
      · exact .inl (UInt8.lt_trans h1 h2)
      · exact .inl h1
    · rcases h2 with h2 | ⟨rfl, h2⟩
      · exact .inl h2
      · exact .inr ⟨rfl, less_trans h1 h2⟩
theorem rise_tail {x : ByteArray} {l : List ByteArray} (h : rise (x :: l) = true) : rise l = true := by
  cases l with
  | nil => rfl
  | cons y l => simp only [rise, Bool.and_eq_true] at h; exact h.2
theorem rise_head : ∀ {l : List ByteArray} {x : ByteArray}, rise (x :: l) = true → ∀ y ∈ l, Op.bytesLess x.toList y.toList = true
  | [], x, _, y, hy => by simp at hy
  | z :: l, x, h, y, hy => by
    simp only [rise, Bool.and_eq_true] at h
    rcases List.mem_cons.1 hy with rfl | hy
    · exact h.1
    · exact less_trans h.1 (rise_head h.2 y hy)
theorem same_refl (a : ByteArray) : same a a = true := by simp [same]
theorem rise_find {f : Ty → ByteArray} : ∀ {l : List Ty} {i : Nat} {t : Ty}, rise (l.map f) = true → l[i]? = some t → l.find? (fun u => same (f u) (f t)) = some t
  | [], i, t, _, h => by simp at h
  | u :: l, 0, t, _, h => by
    simp at h; subst h
    simp [List.find?, same_refl]
  | u :: l, i + 1, t, hr, h => by
    have h' : l[i]? = some t := by simpa using h
    have hless := rise_head (l := l.map f) (x := f u) hr (f t) (List.mem_map.2 ⟨t, List.mem_of_getElem? h', rfl⟩)
    have hne : same (f u) (f t) = false := by
      cases hs : same (f u) (f t) with
      | false => rfl
      | true =>
        have : (f u).toList = (f t).toList := by simpa [same] using hs
        rw [this, less_irrefl] at hless
        cases hless
    rw [List.find?_cons_of_neg (by simp [hne])]
    exact rise_find (rise_tail hr) h'
theorem sch_rise {s : List Ty} (h : isSchema s = true) : rise (s.map (·.name)) = true := by
  simp only [isSchema, Bool.and_eq_true] at h; exact h.2
theorem find_self {s : List Ty} {i : Nat} {t : Ty} (h : isSchema s = true) (ht : s[i]? = some t) : findT s t.name = (t, true) := by
  have := rise_find (f := (·.name)) (sch_rise h) ht
  unfold findT
  rw [this]
theorem sch_type {s : List Ty} {i : Nat} {t : Ty} (h : isSchema s = true) (ht : s[i]? = some t) : isType t = true := by
  simp only [isSchema, Bool.and_eq_true] at h
  exact List.all_eq_true.1 h.1.1 t (List.mem_of_getElem? ht)
theorem field_self {s : List Ty} {i k : Nat} {t : Ty} {f : Fld} (h : isSchema s = true) (ht : s[i]? = some t) (hf : t.fields[k]? = some f) : fieldAt t f.name = (k : Nat) := by
  have h1 := sch_type h ht
  simp only [isType, Bool.and_eq_true, okFs] at h1
  have h2 := List.all_eq_true.1 h1.2 k (by simpa using (List.getElem?_eq_some_iff.1 hf).1)
  rw [hf] at h2
  simp only [okF, Bool.and_eq_true, beq_iff_eq] at h2
  exact h2.2
theorem find_any (s : List Ty) (nm : ByteArray) : (findT s nm).2 = s.any fun t => same t.name nm := by
  unfold findT
  cases h : s.find? (fun t => same t.name nm) with
  | none =>
    rw [List.find?_eq_none] at h
    symm
    rw [List.any_eq_false]
    exact h
  | some t =>
    symm
    rw [List.any_eq_true]
    exact ⟨t, List.mem_of_find?_eq_some h, by have := List.find?_some h; simpa using this⟩
def met (s : List Ty) (nm : ByteArray) (i : Nat) : Bool := (s.take i).any fun t => same t.name nm
theorem met_succ {s : List Ty} {nm : ByteArray} {i : Nat} {t : Ty} (h : s[i]? = some t) : met s nm (i + 1) = (met s nm i || same t.name nm) := by
  simp [met, List.take_add_one, h, List.any_append]
theorem met_all {s : List Ty} {nm : ByteArray} {i : Nat} (h : s.length ≤ i) : met s nm i = (findT s nm).2 := by
  rw [find_any, met, List.take_of_length_le h]

/-! what 'known' asks -/
def kA : ByteArray := ⟨#[97]⟩
def kB : ByteArray := ⟨#[98]⟩
def kC : ByteArray := ⟨#[99]⟩
def kX : ByteArray := ⟨#[120]⟩
def kY : ByteArray := ⟨#[121]⟩
def kAA : ByteArray := ⟨#[65]⟩
def kT : Ty := ⟨kA, [⟨kX, 1⟩]⟩
def kS : List Ty := [kT, ⟨kB, []⟩]
theorem k1 : findT kS kA = (kT, true) := by simp [findT, kS, kT, same]
theorem k2 : findT kS kC = (zeroT, false) := by simp [findT, kS, kT, same, kA, kB, kC, ByteArray.toList_eq]
theorem kf1 : fieldAt kT kX = 0 := by decide +kernel
theorem kf2 : fieldAt kT kY = -1 := by decide +kernel
theorem k3 : isSchema kS = true := by decide +kernel
theorem k4 : isSchema [⟨kAA, []⟩] = false := by decide +kernel
theorem k5 : sameS kS kS = true := by decide +kernel
theorem k6 : sameS kS [] = false := by decide +kernel
end Go.AL
