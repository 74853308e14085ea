/- Parts of an abstract logic over the kit's walks, and walks in it: Sch, Sch2, Val, Ex, Pat, Ev, Eva, X6m, E11. -/
import Derived.Test.YtjiknbjkbakegaaDoorAd
import Derived.Test.YtjiknbjkbakegaaDoorAe
/- Schemas as plain data, and what the functions on them compute. Nothing of a program. -/
namespace Go.AL
set_option linter.unusedVariables false

abbrev Str := ByteArray
def same (a b : ByteArray) : Bool := a.toList == b.toList
def int (n : Int) : D := .lit (.int .i64 n)
def str (s : ByteArray) : D := .lit (.string s)
def boo (b : Bool) : D := .lit (.bool b)

/-- The first place at which p holds; -1. -/
def idx {α : Type} (p : α → Bool) (l : List α) : Int := match l.findIdx? p with | some i => i | none => -1
theorem idx_some {α : Type} {p : α → Bool} {l : List α} {i : Nat} {a : α} (ha : l[i]? = some a) (hp : p a = true) (hn : ∀ j b, j < i → l[j]? = some b → p b = false) : idx p l = i := by
  have : l.findIdx? p = some i := by
    rw [List.findIdx?_eq_some_iff_getElem]
    obtain ⟨hlt, rfl⟩ := List.getElem?_eq_some_iff.1 ha
    exact ⟨hlt, hp, fun j hj => by simpa using hn j _ hj (List.getElem?_eq_getElem (by omega))⟩
  simp [idx, this]
theorem idx_none {α : Type} {p : α → Bool} {l : List α} (hn : ∀ j b, j < l.length → l[j]? = some b → p b = false) : idx p l = -1 := by
  have : l.findIdx? p = none := by
    rw [List.findIdx?_eq_none_iff]
    intro x hx
    obtain ⟨j, hj⟩ := List.getElem?_of_mem hx
    exact hn j x (List.getElem?_eq_some_iff.1 hj).1 hj
  simp [idx, this]
theorem idx_cases {α : Type} (p : α → Bool) (l : List α) : (∃ i a, idx p l = (i : Nat) ∧ l[i]? = some a ∧ p a = true ∧ ∀ j b, j < i → l[j]? = some b → p b = false) ∨ (idx p l = -1 ∧ ∀ a ∈ l, p a = false) := by
  unfold idx
  cases h : l.findIdx? p with
  | none =>
    right
    rw [List.findIdx?_eq_none_iff] at h
    exact ⟨rfl, h⟩
  | some i =>
    left
    rw [List.findIdx?_eq_some_iff_getElem] at h
    obtain ⟨hlt, hp, hn⟩ := h
    refine ⟨i, l[i], rfl, List.getElem?_eq_getElem hlt, hp, fun j b hj hb => ?_⟩
    obtain ⟨hl, rfl⟩ := List.getElem?_eq_some_iff.1 hb
    simpa using hn j hj

theorem kfs_d : ∀ xs : List D, kfs (xs.map .d) = true
  | [] => rfl
  | x :: xs => by simp [kfs, kf, kfs_d xs]
theorem kfs_append : ∀ {xs ys : List AV}, kfs xs = true → kfs ys = true → kfs (xs ++ ys) = true
  | [], ys, _, h => h
  | x :: xs, ys, h, h' => by
    simp [kfs] at h ⊢
    exact ⟨h.1, kfs_append h.2 h'⟩
theorem kfs_fn {first cap : List D} {mid : List AV} (h : kfs mid = true) : kfs (first.map .d ++ mid ++ cap.map .d) = true := kfs_append (kfs_append (kfs_d first) h) (kfs_d cap)

/-- What 'for i, x := range slices.All(l)' is handed. -/
def ysI {α : Type} (enc : α → List D) (l : List α) : List (List AV) := l.zipIdx.map fun x => [.d (int x.2), .agg ((enc x.1).map .d)]
theorem ysI_length {α : Type} (enc : α → List D) (l : List α) : (ysI enc l).length = l.length := by simp [ysI]
theorem ysI_get {α : Type} {enc : α → List D} {l : List α} {i : Nat} {a : α} (h : l[i]? = some a) : (ysI enc l)[i]? = some [.d (int i), .agg ((enc a).map .d)] := by
  simp [ysI, List.getElem?_zipIdx, h]
theorem ysI_of {α : Type} {enc : α → List D} {l : List α} {i : Nat} {args : List AV} (h : (ysI enc l)[i]? = some args) : ∃ a, l[i]? = some a ∧ args = [.d (int i), .agg ((enc a).map .d)] := by
  simp only [ysI, List.getElem?_map, List.getElem?_zipIdx, Option.map_map, Option.map_eq_some_iff] at h
  obtain ⟨a, ha, rfl⟩ := h
  exact ⟨a, ha, by simp⟩
theorem ysI_kf {α : Type} (enc : α → List D) (l : List α) : ∀ y ∈ ysI enc l, kfs y = true ∧ y.length = 2 := by
  intro y hy
  simp only [ysI, List.mem_map] at hy
  obtain ⟨x, _, rfl⟩ := hy
  exact ⟨by simp [kfs, kf, kfs_d], rfl⟩

def encB (s : ByteArray) : List D := [str s]
/-- Neighbours. -/
def pairsOf : List ByteArray → List (List AV)
  | x :: y :: l => [.d (str x), .d (str y)] :: pairsOf (y :: l)
  | _ => []
theorem pairsOf_length : ∀ l : List ByteArray, (pairsOf l).length = l.length - 1
  | [] => rfl
  | [_] => rfl
  | x :: y :: l => by simp only [pairsOf, List.length_cons, pairsOf_length (y :: l)]; omega
theorem pairsOf_get : ∀ {l : List ByteArray} {i : Nat} {a b : ByteArray}, l[i]? = some a → l[i + 1]? = some b → (pairsOf l)[i]? = some [.d (str a), .d (str b)]
  | [], i, a, b, h, _ => by simp at h
  | [x], i, a, b, _, h => by simp at h
  | x :: y :: l, 0, a, b, h1, h2 => by simp at h1 h2; subst h1; subst h2; rfl
  | x :: y :: l, i + 1, a, b, h1, h2 => by
    simp only [pairsOf, List.getElem?_cons_succ]
    exact pairsOf_get (by simpa using h1) (by simpa using h2)
theorem pairsOf_of {l : List ByteArray} {i : Nat} {args : List AV} (h : (pairsOf l)[i]? = some args) : ∃ a b, l[i]? = some a ∧ l[i + 1]? = some b ∧ args = [.d (str a), .d (str b)] := by
  have hlt := (List.getElem?_eq_some_iff.1 h).1
  rw [pairsOf_length] at hlt
  have h1 : l[i]? = some (l[i]'(by omega)) := List.getElem?_eq_getElem (by omega)
  have h2 : l[i + 1]? = some (l[i + 1]'(by omega)) := List.getElem?_eq_getElem (by omega)
  refine ⟨_, _, h1, h2, ?_⟩
  have := pairsOf_get h1 h2
  rw [h] at this
  exact Option.some.inj this
theorem pairsOf_kf : ∀ (l : List ByteArray), ∀ y ∈ pairsOf l, kfs y = true ∧ y.length = 2
  | [], y, h => by simp [pairsOf] at h
  | [_], y, h => by simp [pairsOf] at h
  | x :: z :: l, y, h => by
    simp only [pairsOf, List.mem_cons] at h
    rcases h with rfl | h
    · exact ⟨rfl, rfl⟩
    · exact pairsOf_kf (z :: l) y h
theorem wrap_pred {i : Nat} (h : i ≤ 140737488355328) : IntKind.i64.wrap (((i + 1 : Nat) : Int) - 1) = ((i : Nat) : Int) := by
  rw [wrap_id]
  · omega
  · have : IntKind.i64.min = -9223372036854775808 := rfl
    omega
  · have : IntKind.i64.max = 9223372036854775807 := rfl
    omega
theorem take_snoc {α β : Type} {f : α → β} {l : List α} {i : Nat} {a : α} (h : l[i]? = some a) : (l.take (i + 1)).map f = (l.take i).map f ++ [f a] := by
  rw [List.take_add_one, h]; simp

structure Fld where
  name : ByteArray
  kind : Int
structure Ty where
  name : ByteArray
  fields : List Fld
def encF (f : Fld) : List D := [str f.name, int f.kind]
def encT (t : Ty) : List D := [str t.name, .sl 2 24 (t.fields.map encF)]
def encS (s : List Ty) : D := .sl 2 40 (s.map encT)
def argF (f : Fld) : AV := .agg ((encF f).map .d)
def argT (t : Ty) : AV := .agg ((encT t).map .d)
def argS (s : List Ty) : AV := .agg [.d (encS s)]
def zeroT : Ty := ⟨⟨#[]⟩, []⟩

def findT (s : List Ty) (nm : ByteArray) : Ty × Bool := match s.find? (fun t => same t.name nm) with | some t => (t, true) | none => (zeroT, false)
theorem find_neg {s : List Ty} {nm : ByteArray} (h : decide (idx (fun t => same t.name nm) s < 0) = true) : findT s nm = (zeroT, false) := by
  rcases idx_cases (fun t : Ty => same t.name nm) s with ⟨i, a, h1, _⟩ | ⟨_, h2⟩
  · rw [h1] at h; simp at h; omega
  · have : s.find? (fun t => same t.name nm) = none := by
      rw [List.find?_eq_none]
      intro x hx; simp [h2 x hx]
    simp [findT, this]
theorem find_pos {s : List Ty} {nm : ByteArray} (h : decide (idx (fun t => same t.name nm) s < 0) = false) : ∃ (i : Nat) (a : Ty), idx (fun t => same t.name nm) s = (i : Nat) ∧ s[i]? = some a ∧ findT s nm = (a, true) := by
  rcases idx_cases (fun t : Ty => same t.name nm) s with ⟨i, a, h1, h2, h3, h4⟩ | ⟨h1, _⟩
  · refine ⟨i, a, h1, h2, ?_⟩
    have : s.find? (fun t => same t.name nm) = some a := by
      rw [List.find?_eq_some_iff_getElem]
      obtain ⟨hlt, rfl⟩ := List.getElem?_eq_some_iff.1 h2
      exact ⟨h3, i, hlt, rfl, fun j hj => by simpa using h4 j _ hj (List.getElem?_eq_getElem (by omega))⟩
    simp [findT, this]
  · rw [h1] at h; simp at h
def fieldAt (t : Ty) (nm : ByteArray) : Int := idx (fun f => same f.name nm) t.fields
def sameF (a b : Fld) : Bool := same a.name b.name && a.kind == b.kind
def allSame {α : Type} (p : α → α → Bool) : List α → List α → Bool
  | [], [] => true
  | x :: xs, y :: ys => p x y && allSame p xs ys
  | _, _ => false
theorem allSame_len {α : Type} {p : α → α → Bool} : ∀ {l r : List α}, l.length ≠ r.length → allSame p l r = false
  | [], [], h => by simp at h
  | [], _ :: _, _ => rfl
  | _ :: _, [], _ => rfl
  | x :: l, y :: r, h => by
    simp only [allSame, allSame_len (l := l) (r := r) (by simpa using h), Bool.and_false]
theorem allSame_ne {α : Type} {p : α → α → Bool} : ∀ {l r : List α} {i : Nat} {a b : α}, l[i]? = some a → r[i]? = some b → p a b = false → allSame p l r = false
  | [], _, i, a, b, h, _, _ => by simp at h
  | _ :: _, [], i, a, b, _, h, _ => by simp at h
  | x :: l, y :: r, i, a, b, h1, h2, h3 => by
    cases i with
    | zero =>
      simp at h1 h2
      subst h1; subst h2
      simp [allSame, h3]
    | succ i =>
      simp only [allSame, allSame_ne (l := l) (r := r) (i := i) (by simpa using h1) (by simpa using h2) h3, Bool.and_false]
theorem allSame_all {α : Type} {p : α → α → Bool} : ∀ {l r : List α}, l.length = r.length → (∀ j a b, j < l.length → l[j]? = some a → r[j]? = some b → p a b = true) → allSame p l r = true
  | [], [], _, _ => rfl
  | [], _ :: _, h, _ => by simp at h
  | _ :: _, [], h, _ => by simp at h
  | x :: l, y :: r, h, hp => by
    simp only [allSame, Bool.and_eq_true]
    exact ⟨hp 0 x y (by simp) rfl rfl, allSame_all (by simpa using h) fun j a b hj ha hb => hp (j + 1) a b (by simpa using hj) (by simpa using ha) (by simpa using hb)⟩
def sameT (a b : Ty) : Bool := same a.name b.name && allSame sameF a.fields b.fields
def sameS (a b : List Ty) : Bool := allSame sameT a b
def small (c : UInt8) : Bool := !(decide (c.toNat < 97)) && !(decide (c.toNat > 122))
def isName (s : ByteArray) : Bool := s.data.toList.all small && s.data.toList != [] && decide (s.size ≤ 8)
theorem small_lo {c : UInt8} (h : decide ((c.toNat : Int) < 97) = true) : small c = false := by
  have : c.toNat < 97 := by simp at h; omega
  simp [small, this]
theorem small_hi {c : UInt8} (h : decide ((c.toNat : Int) > 122) = true) : small c = false := by
  have : 122 < c.toNat := by simp at h; omega
  simp [small, this]
theorem small_ok {c : UInt8} (h1 : decide ((c.toNat : Int) < 97) = false) (h2 : decide ((c.toNat : Int) > 122) = false) : small c = true := by
  simp at h1 h2
  simp [small]; omega
theorem all_small {s : ByteArray} {i : Nat} (hi : i ≤ s.size) (hge : ¬ i < s.size) (hp : ∀ j c, j < i → s.data.toList[j]? = some c → small c = true) : s.data.toList.all small = true := by
  rw [List.all_eq_true]
  intro c hc
  obtain ⟨j, hj⟩ := List.getElem?_of_mem hc
  have : j < s.size := by have := (List.getElem?_eq_some_iff.1 hj).1; simpa using this
  exact hp j c (by omega) hj
theorem isName_bad {s : ByteArray} {i : Nat} {c : UInt8} (h : s.data.toList[i]? = some c) (hb : small c = false) : isName s = false := by
  have : s.data.toList.all small = false := by
    rw [List.all_eq_false]
    exact ⟨c, List.mem_of_getElem? h, by simp [hb]⟩
  simp only [isName, this, Bool.false_and]
theorem name_end {s : ByteArray} (hall : s.data.toList.all small = true) : isName s = (!(s.toList == (⟨#[]⟩ : ByteArray).toList) && decide ((s.size : Int) ≤ 8)) := by
  have : decide ((s.size : Int) ≤ 8) = decide (s.size ≤ 8) := by simp; omega
  rw [this, ByteArray.toList_eq, ByteArray.toList_eq]
  simp only [isName, hall, Bool.true_and]
  rfl
def rise : List ByteArray → Bool
  | x :: y :: l => Op.bytesLess x.toList y.toList && rise (y :: l)
  | _ => true
theorem rise_all : ∀ {l : List ByteArray}, (∀ j a b, j + 1 < l.length → l[j]? = some a → l[j + 1]? = some b → Op.bytesLess a.toList b.toList = true) → rise l = true
  | [], _ => rfl
  | [_], _ => rfl
  | x :: y :: l, h => by
    simp only [rise, Bool.and_eq_true]
    exact ⟨h 0 x y (by simp) rfl rfl, rise_all fun j a b hj ha hb => h (j + 1) a b (by simpa using hj) (by simpa using ha) (by simpa using hb)⟩
theorem rise_bad : ∀ {l : List ByteArray} {i : Nat} {a b : ByteArray}, l[i]? = some a → l[i + 1]? = some b → Op.bytesLess a.toList b.toList = false → rise l = false
  | [], i, a, b, h, _, _ => by simp at h
  | [_], i, a, b, _, h, _ => by simp at h
  | x :: y :: l, 0, a, b, h1, h2, h3 => by
    simp at h1 h2; subst h1; subst h2
    simp only [rise, h3, Bool.false_and]
  | x :: y :: l, i + 1, a, b, h1, h2, h3 => by
    simp only [rise, rise_bad (l := y :: l) (i := i) (by simpa using h1) (by simpa using h2) h3, Bool.and_false]
def okF (t : Ty) (i : Nat) (f : Fld) : Bool := isName f.name && decide (1 ≤ f.kind) && decide (f.kind ≤ 3) && fieldAt t f.name == (i : Int)
def okFs (t : Ty) : Bool := (List.range t.fields.length).all fun i => match t.fields[i]? with
  | some f => okF t i f
  | none => false
def isType (t : Ty) : Bool := isName t.name && decide (t.fields.length ≤ 5) && okFs t
theorem okFs_bad {t : Ty} {i : Nat} {f : Fld} (h : t.fields[i]? = some f) (hb : okF t i f = false) : isType t = false := by
  have : okFs t = false := by
    unfold okFs
    rw [List.all_eq_false]
    exact ⟨i, by simpa using (List.getElem?_eq_some_iff.1 h).1, by simp [h, hb]⟩
  simp only [isType, this, Bool.and_false]
theorem okFs_all {t : Ty} (h : ∀ i f, i < t.fields.length → t.fields[i]? = some f → okF t i f = true) : okFs t = true := by
  unfold okFs
  rw [List.all_eq_true]
  intro i hi
  have hi : i < t.fields.length := by simpa using hi
  rw [List.getElem?_eq_getElem hi]
  exact h i _ hi (List.getElem?_eq_getElem hi)
theorem isSchema_bad {s : List Ty} {i : Nat} {t : Ty} (h : s[i]? = some t) (hb : isType t = false) : (s.all isType && decide (s.length ≤ 5) && rise (s.map (·.name))) = false := by
  have : s.all isType = false := by
    rw [List.all_eq_false]
    exact ⟨t, List.mem_of_getElem? h, by simp [hb]⟩
  simp [this]
theorem all_of {α : Type} {p : α → Bool} {l : List α} (h : ∀ j a, j < l.length → l[j]? = some a → p a = true) : l.all p = true := by
  rw [List.all_eq_true]
  intro x hx
  obtain ⟨j, hj⟩ := List.getElem?_of_mem hx
  exact h j x (List.getElem?_eq_some_iff.1 hj).1 hj
def isSchema (s : List Ty) : Bool := s.all isType && decide (s.length ≤ 5) && rise (s.map (·.name))
end Go.AL
/- Plain laws on schemas. -/
namespace Go.AL
set_option linter.unusedVariables false

theorem less_irrefl : ∀ l : List UInt8, Op.bytesLess l l = false
  | [] => rfl
  | a :: l => by simp [Op.bytesLess, less_irrefl l]
theorem less_trans : ∀ {x y z : List UInt8}, Op.bytesLess x y = true → Op.bytesLess y z = true → Op.bytesLess x z = true
  | _, [], _, h, _ => by simp [Op.bytesLess] at h
  | _, _ :: _, [], _, h => by simp [Op.bytesLess] at h
  | [], b :: y, c :: z, _, _ => rfl
  | a :: x, b :: y, c :: z, h1, h2 => by
    simp only [Op.bytesLess, Bool.or_eq_true, decide_eq_true_eq, Bool.and_eq_true, beq_iff_eq] at h1 h2 ⊢
    rcases h1 with h1 | ⟨rfl, h1⟩
    · rcases h2 with h2 | ⟨rfl, h2⟩
      · exact .inl (UInt8.lt_trans h1 h2)
      · exact .inl h1
    · rcases h2 with h2 | ⟨rfl, h2⟩
      · exact .inl h2
      · exact .inr ⟨rfl, less_trans h1 h2⟩
theorem rise_tail {x : ByteArray} {l : List ByteArray} (h : rise (x :: l) = true) : rise l = true := by
  cases l with
  | nil => rfl
  | cons y l => simp only [rise, Bool.and_eq_true] at h; exact h.2
theorem rise_head : ∀ {l : List ByteArray} {x : ByteArray}, rise (x :: l) = true → ∀ y ∈ l, Op.bytesLess x.toList y.toList = true
  | [], x, _, y, hy => by simp at hy
  | z :: l, x, h, y, hy => by
    simp only [rise, Bool.and_eq_true] at h
    rcases List.mem_cons.1 hy with rfl | hy
    · exact h.1
    · exact less_trans h.1 (rise_head h.2 y hy)
theorem same_refl (a : ByteArray) : same a a = true := by simp [same]
theorem rise_find {f : Ty → ByteArray} : ∀ {l : List Ty} {i : Nat} {t : Ty}, rise (l.map f) = true → l[i]? = some t → l.find? (fun u => same (f u) (f t)) = some t
  | [], i, t, _, h => by simp at h
  | u :: l, 0, t, _, h => by
    simp at h; subst h
    simp [List.find?, same_refl]
  | u :: l, i + 1, t, hr, h => by
    have h' : l[i]? = some t := by simpa using h
    have hless := rise_head (l := l.map f) (x := f u) hr (f t) (List.mem_map.2 ⟨t, List.mem_of_getElem? h', rfl⟩)
    have hne : same (f u) (f t) = false := by
      cases hs : same (f u) (f t) with
      | false => rfl
      | true =>
        have : (f u).toList = (f t).toList := by simpa [same] using hs
        rw [this, less_irrefl] at hless
        cases hless
    rw [List.find?_cons_of_neg (by simp [hne])]
    exact rise_find (rise_tail hr) h'
theorem sch_rise {s : List Ty} (h : isSchema s = true) : rise (s.map (·.name)) = true := by
  simp only [isSchema, Bool.and_eq_true] at h; exact h.2
theorem find_self {s : List Ty} {i : Nat} {t : Ty} (h : isSchema s = true) (ht : s[i]? = some t) : findT s t.name = (t, true) := by
  have := rise_find (f := (·.name)) (sch_rise h) ht
  unfold findT
  rw [this]
theorem sch_type {s : List Ty} {i : Nat} {t : Ty} (h : isSchema s = true) (ht : s[i]? = some t) : isType t = true := by
  simp only [isSchema, Bool.and_eq_true] at h
  exact List.all_eq_true.1 h.1.1 t (List.mem_of_getElem? ht)
theorem field_self {s : List Ty} {i k : Nat} {t : Ty} {f : Fld} (h : isSchema s = true) (ht : s[i]? = some t) (hf : t.fields[k]? = some f) : fieldAt t f.name = (k : Nat) := by
  have h1 := sch_type h ht
  simp only [isType, Bool.and_eq_true, okFs] at h1
  have h2 := List.all_eq_true.1 h1.2 k (by simpa using (List.getElem?_eq_some_iff.1 hf).1)
  rw [hf] at h2
  simp only [okF, Bool.and_eq_true, beq_iff_eq] at h2
  exact h2.2
theorem find_any (s : List Ty) (nm : ByteArray) : (findT s nm).2 = s.any fun t => same t.name nm := by
  unfold findT
  cases h : s.find? (fun t => same t.name nm) with
  | none =>
    rw [List.find?_eq_none] at h
    symm
    rw [List.any_eq_false]
    exact h
  | some t =>
    symm
    rw [List.any_eq_true]
    exact ⟨t, List.mem_of_find?_eq_some h, by have := List.find?_some h; simpa using this⟩
def met (s : List Ty) (nm : ByteArray) (i : Nat) : Bool := (s.take i).any fun t => same t.name nm
theorem met_succ {s : List Ty} {nm : ByteArray} {i : Nat} {t : Ty} (h : s[i]? = some t) : met s nm (i + 1) = (met s nm i || same t.name nm) := by
  simp [met, List.take_add_one, h, List.any_append]
theorem met_all {s : List Ty} {nm : ByteArray} {i : Nat} (h : s.length ≤ i) : met s nm i = (findT s nm).2 := by
  rw [find_any, met, List.take_of_length_le h]

/-! what 'known' asks -/
def kA : ByteArray := ⟨#[97]⟩
def kB : ByteArray := ⟨#[98]⟩
def kC : ByteArray := ⟨#[99]⟩
def kX : ByteArray := ⟨#[120]⟩
def kY : ByteArray := ⟨#[121]⟩
def kAA : ByteArray := ⟨#[65]⟩
def kT : Ty := ⟨kA, [⟨kX, 1⟩]⟩
def kS : List Ty := [kT, ⟨kB, []⟩]
theorem k1 : findT kS kA = (kT, true) := by simp [findT, kS, kT, same]
theorem k2 : findT kS kC = (zeroT, false) := by simp [findT, kS, kT, same, kA, kB, kC, ByteArray.toList_eq]
theorem kf1 : fieldAt kT kX = 0 := by decide +kernel
theorem kf2 : fieldAt kT kY = -1 := by decide +kernel
theorem k3 : isSchema kS = true := by decide +kernel
theorem k4 : isSchema [⟨kAA, []⟩] = false := by decide +kernel
theorem k5 : sameS kS kS = true := by decide +kernel
theorem k6 : sameS kS [] = false := by decide +kernel
end Go.AL
/- Values and rows of texts as plain data. Nothing of a program. -/
namespace Go.AL
set_option linter.unusedVariables false
set_option linter.unusedSimpArgs false

structure Vl where
  k : Int
  n : Int
  s : ByteArray
def encV (v : Vl) : List D := [int v.k, int v.n, str v.s]
def argV (v : Vl) : AV := .agg ((encV v).map .d)
def nul : ByteArray := ⟨#[]⟩
def zeroV (k : Int) : Vl := bif decide (k < 1) || decide (k > 3) then ⟨0, 0, nul⟩ else ⟨k, 0, nul⟩
theorem zeroV_lo {k : Int} (h : decide (k < 1) = true) : zeroV k = ⟨0, 0, nul⟩ := by unfold zeroV; rw [h]; rfl
theorem zeroV_hi {k : Int} (h1 : decide (k < 1) = false) (h : decide (k > 3) = true) : zeroV k = ⟨0, 0, nul⟩ := by unfold zeroV; rw [h1, h]; rfl
theorem zeroV_in {k : Int} (h1 : decide (k < 1) = false) (h : decide (k > 3) = false) : zeroV k = ⟨k, 0, nul⟩ := by unfold zeroV; rw [h1, h]; rfl
def shownC (c : UInt8) : Bool := !(decide (c.toNat < 32)) && !(decide (c.toNat > 126))
def isText (s : ByteArray) : Bool := s.data.toList.all shownC && decide (s.size ≤ 16)
def isVal (v : Vl) : Bool :=
  bif v.k == 1 then same v.s nul else bif v.k == 2 then (v.n == 0) && isText v.s else bif v.k == 3 then ((v.n == 0) || (v.n == 1)) && same v.s nul else false
def sameV (a b : Vl) : Bool := a.k == b.k && (a.n == b.n && same a.s b.s)

theorem shown_lo {c : UInt8} (h : decide ((c.toNat : Int) < 32) = true) : shownC c = false := by
  have : c.toNat < 32 := by simp at h; omega
  simp [shownC, this]
theorem shown_hi {c : UInt8} (h : decide ((c.toNat : Int) > 126) = true) : shownC c = false := by
  have : 126 < c.toNat := by simp at h; omega
  simp [shownC, this]
theorem shown_ok {c : UInt8} (h1 : decide ((c.toNat : Int) < 32) = false) (h2 : decide ((c.toNat : Int) > 126) = false) : shownC c = true := by
  simp at h1 h2
  simp [shownC]; omega
theorem allShown {s : ByteArray} {i : Nat} (hi : i ≤ s.size) (hge : ¬ i < s.size) (hp : ∀ j c, j < i → s.data.toList[j]? = some c → shownC c = true) : s.data.toList.all shownC = true := by
  rw [List.all_eq_true]
  intro c hc
  obtain ⟨j, hj⟩ := List.getElem?_of_mem hc
  have : j < s.size := by have := (List.getElem?_eq_some_iff.1 hj).1; simpa using this
  exact hp j c (by omega) hj
theorem isText_bad {s : ByteArray} {i : Nat} {c : UInt8} (h : s.data.toList[i]? = some c) (hb : shownC c = false) : isText s = false := by
  have : s.data.toList.all shownC = false := by
    rw [List.all_eq_false]
    exact ⟨c, List.mem_of_getElem? h, by simp [hb]⟩
  simp only [isText, this, Bool.false_and]
theorem text_end {s : ByteArray} (hall : s.data.toList.all shownC = true) : isText s = decide ((s.size : Int) ≤ 16) := by
  have : decide ((s.size : Int) ≤ 16) = decide (s.size ≤ 16) := by simp; omega
  rw [this]
  simp only [isText, hall, Bool.true_and]

theorem name_end2 {s : ByteArray} (hall : s.data.toList.all small = true) : isName s = (decide ((s.size : Int) ≥ 1) && decide ((s.size : Int) ≤ 8)) := by
  have h1 : decide ((s.size : Int) ≤ 8) = decide (s.size ≤ 8) := by simp; omega
  have h2 : decide ((s.size : Int) ≥ 1) = (s.data.toList != []) := by
    have hl : s.data.toList.length = s.size := by simp
    cases h : s.data.toList with
    | nil => rw [h] at hl; simp at hl; simp [← hl]
    | cons a l =>
      rw [h] at hl; simp at hl
      have h3 : (1 : Int) ≤ s.size := by omega
      simp [h3]
  rw [h1, h2]
  simp only [isName, hall, Bool.true_and]

/-! ### Rows that rise -/
def less (a b : ByteArray) : Bool := Op.bytesLess a.toList b.toList
theorem less_self (a : ByteArray) : less a a = false := less_irrefl _
theorem less_asymm {a b : ByteArray} (h : less a b = true) : less b a = false := by
  cases h2 : less b a with
  | false => rfl
  | true => have := less_trans h h2; rw [less_irrefl] at this; cases this
theorem less_same {a b : ByteArray} (h : less a b = true) : same a b = false := by
  cases h2 : same a b with
  | false => rfl
  | true =>
    have : a.toList = b.toList := by simpa [same] using h2
    unfold less at h
    rw [this, less_irrefl] at h; cases h
theorem less_same' {a b : ByteArray} (h : less a b = true) : same b a = false := by
  have := less_same h
  simp [same] at this ⊢
  exact fun e => this e.symm
theorem lessL_total : ∀ {x y : List UInt8}, Op.bytesLess x y = false → Op.bytesLess y x = false → x = y
  | [], [], _, _ => rfl
  | [], _ :: _, h, _ => by simp [Op.bytesLess] at h
  | _ :: _, [], _, h => by simp [Op.bytesLess] at h
  | a :: x, b :: y, h1, h2 => by
    simp only [Op.bytesLess, Bool.or_eq_false_iff, decide_eq_false_iff_not, Bool.and_eq_false_iff, beq_eq_false_iff_ne] at h1 h2
    have hab : a = b := by
      have := h1.1; have := h2.1
      exact UInt8.le_antisymm (UInt8.not_lt.1 h2.1) (UInt8.not_lt.1 h1.1)
    subst hab
    have e1 : Op.bytesLess x y = false := by rcases h1.2 with h | h; exact absurd rfl h; exact h
    have e2 : Op.bytesLess y x = false := by rcases h2.2 with h | h; exact absurd rfl h; exact h
    rw [lessL_total e1 e2]
theorem less_total {a b : ByteArray} (h1 : same a b = false) (h2 : less a b = false) : less b a = true := by
  cases h3 : less b a with
  | true => rfl
  | false => have := lessL_total h2 h3; simp [same, this] at h1
theorem rise_lt : ∀ {l : List ByteArray} {i j : Nat} {a b : ByteArray}, rise l = true → i < j → l[i]? = some a → l[j]? = some b → less a b = true
  | [], i, j, a, b, _, _, h, _ => by simp at h
  | x :: l, 0, 0, a, b, _, h, _, _ => by omega
  | x :: l, 0, j + 1, a, b, hr, _, h1, h2 => by
    simp at h1; subst h1
    exact rise_head hr b (List.mem_of_getElem? (by simpa using h2))
  | x :: l, i + 1, 0, a, b, _, h, _, _ => by omega
  | x :: l, i + 1, j + 1, a, b, hr, h, h1, h2 => rise_lt (rise_tail hr) (by omega : i < j) (by simpa using h1) (by simpa using h2)

def ins (s : ByteArray) : List ByteArray → List ByteArray
  | [] => [s]
  | x :: l => bif same x s then x :: l else bif less s x then s :: x :: l else x :: ins s l
theorem ins_found : ∀ {l : List ByteArray} {s : ByteArray} {i : Nat} {a : ByteArray}, l[i]? = some a → same a s = true → (∀ j b, j < i → l[j]? = some b → same b s = false ∧ less s b = false) → ins s l = l
  | [], s, i, a, h, _, _ => by simp at h
  | x :: l, s, 0, a, h, hs, _ => by simp at h; subst h; simp [ins, hs]
  | x :: l, s, i + 1, a, h, hs, hp => by
    obtain ⟨h1, h2⟩ := hp 0 x (by omega) rfl
    simp only [ins, h1, h2, cond_false]
    rw [ins_found (i := i) (by simpa using h) hs fun j b hj hb => hp (j + 1) b (by omega) (by simpa using hb)]
theorem ins_gt : ∀ {l : List ByteArray} {s : ByteArray} {i : Nat} {a : ByteArray}, l[i]? = some a → same a s = false → less s a = true → (∀ j b, j < i → l[j]? = some b → same b s = false ∧ less s b = false) → ins s l = l.take i ++ [s] ++ l.drop i
  | [], s, i, a, h, _, _, _ => by simp at h
  | x :: l, s, 0, a, h, hs, hg, _ => by simp at h; subst h; simp [ins, hs, hg]
  | x :: l, s, i + 1, a, h, hs, hg, hp => by
    obtain ⟨h1, h2⟩ := hp 0 x (by omega) rfl
    simp only [ins, h1, h2, cond_false]
    rw [ins_gt (i := i) (by simpa using h) hs hg fun j b hj hb => hp (j + 1) b (by omega) (by simpa using hb)]
    simp
theorem ins_end : ∀ {l : List ByteArray} {s : ByteArray}, (∀ j b, j < l.length → l[j]? = some b → same b s = false ∧ less s b = false) → ins s l = l ++ [s]
  | [], s, _ => rfl
  | x :: l, s, hp => by
    obtain ⟨h1, h2⟩ := hp 0 x (by simp) rfl
    simp only [ins, h1, h2, cond_false]
    rw [ins_end fun j b hj hb => hp (j + 1) b (by simpa using hj) (by simpa using hb)]
    simp
theorem ins_length (s : ByteArray) : ∀ l : List ByteArray, (ins s l).length ≤ l.length + 1
  | [] => by simp [ins]
  | x :: l => by
    unfold ins
    cases same x s <;> cases less s x <;> simp
    exact ins_length s l
theorem rise_cons {x : ByteArray} {l : List ByteArray} (h : rise l = true) (hx : ∀ y, l[0]? = some y → less x y = true) : rise (x :: l) = true := by
  cases l with
  | nil => rfl
  | cons y l => simp only [rise, Bool.and_eq_true]; exact ⟨hx y rfl, h⟩
theorem ins_head {s : ByteArray} : ∀ {l : List ByteArray} {y : ByteArray}, (ins s l)[0]? = some y → y = s ∨ l[0]? = some y
  | [], y, h => by simp [ins] at h; exact .inl h.symm
  | x :: l, y, h => by
    unfold ins at h
    cases h1 : same x s <;> cases h2 : less s x <;> simp [h1, h2] at h
    · right; simp [h]
    · left; exact h.symm
    · right; simp [h]
    · right; simp [h]
theorem rise_ins {s : ByteArray} : ∀ {l : List ByteArray}, rise l = true → rise (ins s l) = true
  | [], _ => rfl
  | x :: l, h => by
    unfold ins
    cases h1 : same x s with
    | true => simpa using h
    | false =>
      cases h2 : less s x with
      | true => simp only [cond_true, cond_false]; exact rise_cons h fun y hy => by simp at hy; subst hy; exact h2
      | false =>
        simp only [cond_false]
        refine rise_cons (rise_ins (rise_tail h)) fun y hy => ?_
        rcases ins_head hy with rfl | hy
        · refine less_total ?_ h2
          simp [same] at h1 ⊢
          exact fun e => h1 e.symm
        · exact rise_head h y (List.mem_of_getElem? hy)
theorem same_rfl (a : ByteArray) : same a a = true := same_refl a
theorem ins_cons (s x : ByteArray) (l : List ByteArray) : ins s (x :: l) = bif same x s then x :: l else bif less s x then s :: x :: l else x :: ins s l := rfl
theorem ins_again (s : ByteArray) : ∀ l : List ByteArray, ins s (ins s l) = ins s l
  | [] => by simp [ins, same_rfl]
  | x :: l => by
    rw [ins_cons]
    cases h1 : same x s with
    | true => simp [ins_cons, h1]
    | false =>
      cases h2 : less s x with
      | true => simp [ins_cons, same_rfl]
      | false => simp only [cond_false, ins_cons, h1, h2]; rw [ins_again s l]

/-- Where a text belongs, and whether it is there. -/
def posT (s : ByteArray) (l : List ByteArray) : Nat := l.findIdx fun a => !less a s
def there (s : ByteArray) (l : List ByteArray) : Bool := match l[posT s l]? with
  | some a => same a s
  | none => false
theorem posT_of {s : ByteArray} {l : List ByteArray} {i : Nat} (hi : i ≤ l.length) (h1 : ∀ j a, j < i → l[j]? = some a → less a s = true) (h2 : ∀ j a, i ≤ j → l[j]? = some a → less a s = false) : posT s l = i := by
  unfold posT
  rcases Nat.lt_or_ge i l.length with hlt | hge
  · rw [List.findIdx_eq hlt]
    exact ⟨by simp [h2 i _ (Nat.le_refl _) (List.getElem?_eq_getElem hlt)], fun j hj => by simp [h1 j _ hj (List.getElem?_eq_getElem (by omega))]⟩
  · have : i = l.length := by omega
    subst this
    rw [List.findIdx_eq_length]
    intro x hx
    obtain ⟨j, hj⟩ := List.getElem?_of_mem hx
    simp [h1 j x (List.getElem?_eq_some_iff.1 hj).1 hj]
theorem posT_le (s : ByteArray) (l : List ByteArray) : posT s l ≤ l.length := List.findIdx_le_length
theorem pos_lt {s : ByteArray} {l : List ByteArray} {j : Nat} {a : ByteArray} (hj : j < posT s l) (h : l[j]? = some a) : less a s = true := by
  obtain ⟨hlt, rfl⟩ := List.getElem?_eq_some_iff.1 h
  have := List.not_of_lt_findIdx hj
  simpa using this
theorem pos_at {s : ByteArray} {l : List ByteArray} {a : ByteArray} (h : l[posT s l]? = some a) : less a s = false := by
  obtain ⟨hlt, rfl⟩ := List.getElem?_eq_some_iff.1 h
  have h2 : (!less (l[posT s l]) s) = true := List.findIdx_getElem (w := hlt)
  simpa using h2
theorem there_at {s : ByteArray} {l : List ByteArray} {i : Nat} {a : ByteArray} {b : Bool} (hp : posT s l = i) (h : l[i]? = some a) (hs : same a s = b) : there s l = b := by unfold there; rw [hp, h]; exact hs
theorem there_no {s : ByteArray} {l : List ByteArray} {i : Nat} (hp : posT s l = i) (h : l[i]? = none) : there s l = false := by unfold there; rw [hp, h]
theorem ins_pos_found {s : ByteArray} {l : List ByteArray} (h : there s l = true) : ins s l = l := by
  unfold there at h
  split at h
  · rename_i a ha
    exact ins_found ha h fun j b hj hb => by
      have := pos_lt hj hb
      exact ⟨less_same this, less_asymm this⟩
  · cases h
theorem ins_pos {s : ByteArray} {l : List ByteArray} (h : there s l = false) : ins s l = l.take (posT s l) ++ [s] ++ l.drop (posT s l) := by
  unfold there at h
  split at h
  · rename_i a ha
    refine ins_gt ha h (less_total h (pos_at ha)) fun j b hj hb => ?_
    have := pos_lt hj hb
    exact ⟨less_same this, less_asymm this⟩
  · rename_i ha
    have hl : posT s l = l.length := by
      have := posT_le s l
      have := List.getElem?_eq_none_iff.1 ha
      omega
    rw [ins_end fun j b hj hb => ?_, hl]
    · simp
    · have := pos_lt (s := s) (by rw [hl]; exact hj) hb
      exact ⟨less_same this, less_asymm this⟩
theorem bs_left {s : ByteArray} {l : List ByteArray} (hr : rise l = true) {m : Nat} {a : ByteArray} (ha : l[m]? = some a) (hl : less a s = true) : ∀ j b, j < m + 1 → l[j]? = some b → less b s = true := fun j b hj hb => by
  by_cases hjm : j = m
  · subst hjm; rw [ha] at hb; cases hb; exact hl
  · exact less_trans (rise_lt hr (by omega : j < m) hb ha) hl
theorem bs_right {s : ByteArray} {l : List ByteArray} (hr : rise l = true) {m : Nat} {a : ByteArray} (ha : l[m]? = some a) (hl : less a s = false) : ∀ j b, m ≤ j → l[j]? = some b → less b s = false := fun j b hj hb => by
  by_cases hjm : j = m
  · subst hjm; rw [ha] at hb; cases hb; exact hl
  · cases h2 : less b s with
    | false => rfl
    | true => have := less_trans (rise_lt hr (by omega : m < j) ha hb) h2; unfold less at hl; rw [this] at hl; cases hl
def sameTexts (a b : List ByteArray) : Bool := allSame same a b
theorem sameTexts_refl : ∀ l : List ByteArray, sameTexts l l = true
  | [] => rfl
  | x :: l => by
    have := sameTexts_refl l
    unfold sameTexts at this ⊢
    simp [allSame, same_rfl, this]

def kabc : ByteArray := ⟨#[97, 98, 99]⟩
def kaB : ByteArray := ⟨#[97, 66]⟩
theorem w1 : isVal ⟨1, -5, nul⟩ = true := by simp [isVal, same]
theorem w2 : isVal ⟨0, 0, nul⟩ = false := by simp [isVal, same]
theorem w3 : isVal ⟨3, 2, nul⟩ = false := by simp [isVal, same]
theorem w4 : zeroV 2 = ⟨2, 0, nul⟩ := by simp [zeroV]
theorem w5 : sameV ⟨2, 0, nul⟩ ⟨2, 0, nul⟩ = true := by simp [sameV, same]
theorem w6 : isName kabc = true := by decide +kernel
theorem w7 : isName kaB = false := by decide +kernel
theorem w8 : rise [kA, kB] = true := by simp [rise, kA, kB, ByteArray.toList_eq, Op.bytesLess]
theorem w9 : rise [kA, kA] = false := by simp [rise, less_irrefl]
theorem w10 : ins kB [kA, kC] = [kA, kB, kC] := by simp [ins, same, less, kA, kB, kC, ByteArray.toList_eq, Op.bytesLess]
theorem w11 : rise [kA, kC] = true := by simp [rise, kA, kC, ByteArray.toList_eq, Op.bytesLess]
theorem sameV_rfl (v : Vl) : sameV v v = true := by simp [sameV, same_rfl]
theorem w12 : sameV ⟨0, 0, nul⟩ ⟨0, 0, nul⟩ = true := sameV_rfl _
theorem isVal_in {k : Int} (h1 : decide (k < 1) = false) (h2 : decide (k > 3) = false) : isVal ⟨k, 0, nul⟩ = true := by
  simp at h1 h2
  have : k = 1 ∨ k = 2 ∨ k = 3 := by omega
  rcases this with rfl | rfl | rfl
  · simp [isVal, same]
  · have : isText nul = true := by decide +kernel
    simp [isVal, this]
  · simp [isVal, same]

/-! ### Rows of bytes -/
def fillB (c : UInt8) (i k : Nat) : List UInt8 := List.replicate i c ++ List.replicate (k - i) 0
theorem fill_start (c : UInt8) (k : Nat) : List.replicate k [D.lit (.int .u8 0)] = bytesD (fillB c 0 k) := by simp [bytesD, fillB]
theorem bytes_set (l : List UInt8) (j : Nat) (c : UInt8) : (bytesD l).set j [D.lit (.int .u8 c.toNat)] = bytesD (l.set j c) := by simp [bytesD, List.map_set]
theorem fill_next {c : UInt8} {i k : Nat} (h : i < k) : (bytesD (fillB c i k)).set i [D.lit (.int .u8 c.toNat)] = bytesD (fillB c (i + 1) k) := by
  rw [bytes_set]
  congr 1
  unfold fillB
  obtain ⟨m, hm⟩ : ∃ m, k - i = m + 1 := ⟨k - i - 1, by omega⟩
  rw [hm, show k - (i + 1) = m by omega, List.replicate_succ, List.set_append_right _ _ (by simp)]
  simp [List.replicate_succ']
theorem fill_end (c : UInt8) (k : Nat) : fillB c k k = List.replicate k c := by simp [fillB]
theorem bytesD_length (l : List UInt8) : (bytesD l).length = l.length := by simp [bytesD]
theorem all_set {p : UInt8 → Bool} {a c : UInt8} {k j : Nat} (ha : p a = true) (hj : j < k) : ((List.replicate k a).set j c).all p = p c := by
  rw [List.set_eq_take_append_cons_drop, if_pos (by simpa using hj)]
  simp [ha]
theorem text_fill {k j : Nat} {c : UInt8} (hj : j < k) : isVal ⟨2, 0, ⟨((List.replicate k 120).set j c).toArray⟩⟩ = (decide ((k : Int) ≤ 16) && (decide ((c.toNat : Int) ≥ 32) && decide ((c.toNat : Int) ≤ 126))) := by
  have h1 : decide ((k : Int) ≤ 16) = decide (k ≤ 16) := by simp; omega
  have h2 : shownC c = (decide ((c.toNat : Int) ≥ 32) && decide ((c.toNat : Int) ≤ 126)) := by
    unfold shownC
    congr 1
    · rw [Bool.eq_iff_iff]; simp; omega
    · rw [Bool.eq_iff_iff]; simp; omega
  simp only [isVal, isText, List.toList_toArray]
  rw [all_set (p := shownC) (by decide) hj, h1, ← h2]
  have : ByteArray.size ⟨((List.replicate k (120 : UInt8)).set j c).toArray⟩ = k := by show ((List.replicate k (120 : UInt8)).set j c).toArray.size = k; simp
  rw [this]
  simp [Bool.and_comm]
theorem text_none : isVal ⟨2, 0, ⟨(List.replicate 0 (120 : UInt8)).toArray⟩⟩ = true := by decide +kernel
theorem text_one (s : ByteArray) : isVal ⟨2, 1, s⟩ = false := by simp [isVal]
theorem name_fill {k j : Nat} {c : UInt8} (hj : j < k) : isName ⟨((List.replicate k 110).set j c).toArray⟩ = (decide ((k : Int) ≤ 8) && (decide ((c.toNat : Int) ≥ 97) && decide ((c.toNat : Int) ≤ 122))) := by
  have h1 : decide ((k : Int) ≤ 8) = decide (k ≤ 8) := by simp; omega
  have h2 : small c = (decide ((c.toNat : Int) ≥ 97) && decide ((c.toNat : Int) ≤ 122)) := by
    unfold small
    congr 1
    · rw [Bool.eq_iff_iff]; simp; omega
    · rw [Bool.eq_iff_iff]; simp; omega
  simp only [isName, List.toList_toArray]
  rw [all_set (p := small) (by decide) hj, h1, ← h2]
  have : ByteArray.size ⟨((List.replicate k (110 : UInt8)).set j c).toArray⟩ = k := by show ((List.replicate k (110 : UInt8)).set j c).toArray.size = k; simp
  rw [this]
  have h3 : (((List.replicate k (110 : UInt8)).set j c) != []) = true := by
    cases k with
    | zero => omega
    | succ k => cases j <;> simp [List.replicate_succ]
  rw [h3]
  simp [Bool.and_comm]
theorem name_none : isName ⟨(List.replicate 0 (110 : UInt8)).toArray⟩ = false := by decide +kernel
end Go.AL
/- Conditions (trees) as plain data. Nothing of a program. -/
namespace Go.AL
set_option linter.unusedVariables false
set_option linter.unusedSimpArgs false

inductive Exp where
  | mk (op : Int) (val : Vl) (al fi : ByteArray) (kids : List Exp)
mutual
def encX : Exp → List D
  | .mk op v al fi ks => [int op, int v.k, int v.n, str v.s, str al, str fi, .sl 7 96 (encXs ks)]
def encXs : List Exp → List (List D)
  | [] => []
  | k :: ks => encX k :: encXs ks
end
theorem encXs_eq : ∀ ks : List Exp, encXs ks = ks.map encX
  | [] => by simp [encXs]
  | k :: ks => by simp [encXs, encXs_eq ks]
theorem encXs_length (ks : List Exp) : (encXs ks).length = ks.length := by simp [encXs_eq]
theorem encXs_get {ks : List Exp} {i : Nat} {k : Exp} (h : ks[i]? = some k) : (encXs ks)[i]? = some (encX k) := by simp [encXs_eq, h]
def argX (x : Exp) : AV := .agg ((encX x).map .d)
def Exp.op : Exp → Int | .mk op _ _ _ _ => op
def Exp.kids : Exp → List Exp | .mk _ _ _ _ ks => ks
def zeroX : Exp := .mk 0 ⟨0, 0, nul⟩ nul nul []

theorem Exp.shape (x : Exp) : ∃ o v a f k, x = .mk o v a f k := by cases x; exact ⟨_, _, _, _, _, rfl⟩
theorem any_idxX {α : Type} {p : α → Bool} {l : List α} : decide (idx p l ≥ 0) = l.any p := by
  rcases idx_cases p l with ⟨i, a, h1, h2, h3, _⟩ | ⟨h1, h2⟩
  · rw [h1]
    have : l.any p = true := List.any_eq_true.2 ⟨a, List.mem_of_getElem? h2, h3⟩
    rw [this]; simp
  · rw [h1]
    have : l.any p = false := by rw [List.any_eq_false]; intro x hx; simp [h2 x hx]
    rw [this]; rfl
/-! ### How deep -/
mutual
def depthX : Exp → Nat → Int
  | .mk op _ _ _ ks, a => bif op == 0 || decide ((a : Int) > 20) then 0 else depthXs ks (a + 1) 0 + 1
def depthXs : List Exp → Nat → Int → Int
  | [], _, n => n
  | k :: ks, a, n => depthXs ks a (max n (depthX k a))
end
theorem depthXs_snoc : ∀ {ks : List Exp} {i : Nat} {k : Exp} (a : Nat) (n : Int), ks[i]? = some k → depthXs (ks.take (i + 1)) a n = max (depthXs (ks.take i) a n) (depthX k a)
  | [], i, k, a, n, h => by simp at h
  | x :: ks, 0, k, a, n, h => by simp at h; subst h; simp [depthXs]
  | x :: ks, i + 1, k, a, n, h => by
    simp only [List.take_succ_cons, depthXs]
    exact depthXs_snoc a _ (by simpa using h)
mutual
theorem depthX_le : ∀ (x : Exp) (a : Nat), 0 ≤ depthX x a ∧ (depthX x a ≤ 21 - (a : Int) ∨ depthX x a = 0)
  | .mk op v al fi ks, a => by
    unfold depthX
    by_cases h : (op == 0 || decide ((a : Int) > 20)) = true
    · rw [h]; exact ⟨Int.le_refl 0, .inr rfl⟩
    · have h' : (op == 0 || decide ((a : Int) > 20)) = false := by simpa using h
      rw [h']
      simp only [cond_false]
      simp only [Bool.or_eq_false_iff, decide_eq_false_iff_not] at h'
      have := depthXs_le ks (a + 1) 0 (Int.le_refl 0) (by omega)
      omega
theorem depthXs_le : ∀ (ks : List Exp) (a : Nat) (n : Int), 0 ≤ n → n ≤ max (21 - (a : Int)) 0 → 0 ≤ depthXs ks a n ∧ depthXs ks a n ≤ max (21 - (a : Int)) 0
  | [], a, n, h0, h1 => by simp only [depthXs]; exact ⟨h0, h1⟩
  | k :: ks, a, n, h0, h1 => by
    simp only [depthXs]
    have := depthX_le k a
    exact depthXs_le ks a _ (by omega) (by omega)
end

/-! ### All nodes -/
mutual
def nodesX : Exp → Nat → List Exp
  | .mk op v al fi ks, a => bif op == 0 || decide ((a : Int) > 20) then [] else .mk op v al fi ks :: nodesXs ks (a + 1)
def nodesXs : List Exp → Nat → List Exp
  | [], _ => []
  | k :: ks, a => nodesX k a ++ nodesXs ks a
end
theorem nodesXs_snoc : ∀ {ks : List Exp} {i : Nat} {k : Exp} (a : Nat), ks[i]? = some k → nodesXs (ks.take (i + 1)) a = nodesXs (ks.take i) a ++ nodesX k a
  | [], i, k, a, h => by simp at h
  | x :: ks, 0, k, a, h => by simp at h; subst h; simp [nodesXs]
  | x :: ks, i + 1, k, a, h => by
    simp only [List.take_succ_cons, nodesXs, List.append_assoc]
    rw [nodesXs_snoc a (by simpa using h)]
theorem nodesXs_split : ∀ (ks : List Exp) (i : Nat) (a : Nat), nodesXs ks a = nodesXs (ks.take i) a ++ nodesXs (ks.drop i) a
  | [], i, a => by simp [nodesXs]
  | x :: ks, 0, a => by simp [nodesXs]
  | x :: ks, i + 1, a => by
    simp only [List.take_succ_cons, List.drop_succ_cons, nodesXs, List.append_assoc]
    rw [nodesXs_split ks i a]
def ysX (l : List Exp) : List (List AV) := l.map fun y => [argX y]
theorem ysX_length (l : List Exp) : (ysX l).length = l.length := by simp [ysX]
theorem ysX_get {l : List Exp} {i : Nat} {y : Exp} (h : l[i]? = some y) : (ysX l)[i]? = some [argX y] := by simp [ysX, h]
theorem ysX_of {l : List Exp} {i : Nat} {args : List AV} (h : (ysX l)[i]? = some args) : ∃ y, l[i]? = some y ∧ args = [argX y] := by
  simp only [ysX, List.getElem?_map, Option.map_eq_some_iff] at h
  obtain ⟨y, hy, rfl⟩ := h
  exact ⟨y, hy, rfl⟩
theorem argX_kf (x : Exp) : kf (argX x) = true := by simp [argX, kf, kfs_d]
theorem ysX_kf (l : List Exp) : ∀ y ∈ ysX l, kfs y = true ∧ y.length = 1 := by
  intro y hy
  simp only [ysX, List.mem_map] at hy
  obtain ⟨x, _, rfl⟩ := hy
  exact ⟨by simp [kfs, argX_kf], rfl⟩
/-- A node of a kid, in the whole row. -/
theorem node_at {op : Int} {v : Vl} {al fi : ByteArray} {ks : List Exp} {a i j : Nat} {k y : Exp} (h : (op == 0 || decide ((a : Int) > 20)) = false) (hk : ks[i]? = some k) (hy : (nodesX k (a + 1))[j]? = some y) :
    (nodesX (.mk op v al fi ks) a)[1 + (nodesXs (ks.take i) (a + 1)).length + j]? = some y := by
  unfold nodesX
  rw [h]
  simp only [cond_false]
  rw [show 1 + (nodesXs (ks.take i) (a + 1)).length + j = ((nodesXs (ks.take i) (a + 1)).length + j) + 1 by omega, List.getElem?_cons_succ, nodesXs_split ks (i + 1), nodesXs_snoc _ hk, List.append_assoc]
  rw [List.getElem?_append_right (by omega), Nat.add_sub_cancel_left, List.getElem?_append_left (List.getElem?_eq_some_iff.1 hy).1]
  exact hy

theorem nodesX_no {op : Int} {v : Vl} {al fi : ByteArray} {ks : List Exp} {a : Nat} (h : (op == 0 || decide ((a : Int) > 20)) = true) : nodesX (.mk op v al fi ks) a = [] := by unfold nodesX; rw [h]; rfl
theorem nodesX_len {op : Int} {v : Vl} {al fi : ByteArray} {ks : List Exp} {a : Nat} (h : (op == 0 || decide ((a : Int) > 20)) = false) : (nodesX (.mk op v al fi ks) a).length = 1 + (nodesXs ks (a + 1)).length := by unfold nodesX; rw [h]; simp; omega
theorem node0 {op : Int} {v : Vl} {al fi : ByteArray} {ks : List Exp} {a : Nat} (h : (op == 0 || decide ((a : Int) > 20)) = false) : (nodesX (.mk op v al fi ks) a)[0]? = some (.mk op v al fi ks) := by unfold nodesX; rw [h]; rfl

/-! ### The same, a node, a condition -/
mutual
def sameX : Exp → Exp → Bool
  | .mk o1 v1 a1 f1 k1, .mk o2 v2 a2 f2 k2 => (o1 == o2) && (sameV v1 v2 && (same a1 a2 && (same f1 f2 && sameXs k1 k2)))
def sameXs : List Exp → List Exp → Bool
  | [], [] => true
  | x :: xs, y :: ys => sameX x y && sameXs xs ys
  | _, _ => false
end
theorem sameXs_eq : ∀ (l r : List Exp), sameXs l r = allSame sameX l r
  | [], [] => by simp [sameXs, allSame]
  | [], _ :: _ => by simp [sameXs, allSame]
  | _ :: _, [] => by simp [sameXs, allSame]
  | x :: l, y :: r => by simp [sameXs, allSame, sameXs_eq l r]
def kidsN (op : Int) : Int := bif op == 12 then 1 else bif decide (op ≥ 3) && decide (op ≤ 11) then 2 else 0
def isNodeX : Exp → Bool
  | .mk op v al fi ks =>
    bif (decide (op < 1) || decide (op > 12)) || (((ks.length : Int) != kidsN op)) then false
    else bif ks.any (fun k => k.op == 0) then false
    else bif op == 1 then isVal v && !(!(same al nul) || !(same fi nul))
    else bif op == 2 then !(!(sameV v ⟨0, 0, nul⟩)) && (isName al && isName fi)
    else !(!(sameV v ⟨0, 0, nul⟩)) && !(!(same al nul) || !(same fi nul))
def isX (x : Exp) : Bool := decide (depthX x 1 ≤ 5) && (decide ((nodesX x 1).length ≤ 24) && ((nodesX x 1).all isNodeX && decide (0 < (nodesX x 1).length)))
theorem big24 {n i : Nat} (h : i < n) (h2 : decide (IntKind.i64.wrap ((i : Int) + 1) > 24) = true) : decide (n ≤ 24) = false := by
  by_cases hb : i ≤ 140737488355328
  · rw [wrap_succ hb] at h2; simp at h2 ⊢; omega
  · simp; omega
theorem lt24 {i : Nat} (h : i ≤ 24) (h2 : decide (IntKind.i64.wrap ((i : Int) + 1) > 24) = false) : i + 1 ≤ 24 := by
  rw [wrap_succ (by omega)] at h2; simp at h2; omega
end Go.AL
/- Patterns as plain data. Nothing of a program. -/
namespace Go.AL
set_option linter.unusedVariables false
set_option linter.unusedSimpArgs false

structure El where
  al : ByteArray
  tys : List ByteArray
  plus : Bool
  neg : Bool
  cond : Exp
def encL (e : El) : List D := str e.al :: .sl 1 16 (e.tys.map encB) :: boo e.plus :: boo e.neg :: encX e.cond
def argL (e : El) : AV := .agg ((encL e).map .d)
structure Pat where
  els : List El
  within : Int
  byf : ByteArray
  any : Bool
def encP (p : Pat) : List D := [.sl 11 144 (p.els.map encL), int p.within, str p.byf, boo p.any]
def argP (p : Pat) : AV := .agg ((encP p).map .d)
theorem El.shape (e : El) : ∃ al tys p n o v a f k, e = ⟨al, tys, p, n, .mk o v a f k⟩ := by
  obtain ⟨al, tys, p, n, c⟩ := e
  cases c
  exact ⟨_, _, _, _, _, _, _, _, _, rfl⟩
def sameL (a b : El) : Bool := same a.al b.al && (allSame same a.tys b.tys && ((a.plus == b.plus) && ((a.neg == b.neg) && sameX a.cond b.cond)))
def sameP (a b : Pat) : Bool := allSame sameL a.els b.els && ((a.within == b.within) && (same a.byf b.byf && (a.any == b.any)))
def headL (e : El) : Bool := isName e.al && (!(decide ((e.tys.length : Int) < 1)) && (!(decide ((e.tys.length : Int) > 3)) && (rise e.tys && !(e.plus && e.neg))))
def isElemX (e : El) : Bool := headL e && (e.tys.all isName && (sameX e.cond zeroX || isX e.cond))
def negAt (p : Pat) (i : Nat) : Bool := match p.els[i]? with
  | some e => e.neg
  | none => false
def headP (p : Pat) : Bool := !(decide ((p.els.length : Int) < 1)) && (!(decide ((p.els.length : Int) > 5)) && (!(negAt p 0) && (!(negAt p (p.els.length - 1)) && (!(decide (p.within < 0)) && (!(decide (p.within > 1000)) && !(!(same p.byf nul) && !(isName p.byf)))))))
def elOk (p : Pat) (i : Nat) (e : El) : Bool := isElemX e && (!((p.els.take i).any fun x => same x.al e.al) && !(e.neg && negAt p (i - 1)))
def elsOk (p : Pat) : Bool := (List.range p.els.length).all fun i => match p.els[i]? with
  | some e => elOk p i e
  | none => false
def isPat (p : Pat) : Bool := headP p && elsOk p
theorem elsOk_bad {p : Pat} {i : Nat} {e : El} (h : p.els[i]? = some e) (hb : elOk p i e = false) : elsOk p = false := by
  unfold elsOk
  rw [List.all_eq_false]
  exact ⟨i, by simpa using (List.getElem?_eq_some_iff.1 h).1, by simp [h, hb]⟩
theorem elsOk_all {p : Pat} (h : ∀ i e, i < p.els.length → p.els[i]? = some e → elOk p i e = true) : elsOk p = true := by
  unfold elsOk
  rw [List.all_eq_true]
  intro i hi
  have hi : i < p.els.length := by simpa using hi
  rw [List.getElem?_eq_getElem hi]
  exact h i _ hi (List.getElem?_eq_getElem hi)
theorem isPat_bad {p : Pat} {i : Nat} {e : El} (hh : headP p = true) (h : p.els[i]? = some e) (hb : elOk p i e = false) : isPat p = false := by
  unfold isPat; rw [hh, elsOk_bad h hb]; rfl
theorem negAt_of {p : Pat} {i : Nat} {e : El} (h : p.els[i]? = some e) : negAt p i = e.neg := by unfold negAt; rw [h]
theorem isElem_bad {e : El} {i : Nat} {t : ByteArray} (hh : headL e = true) (h : e.tys[i]? = some t) (hb : isName t = false) : isElemX e = false := by
  have : e.tys.all isName = false := by rw [List.all_eq_false]; exact ⟨t, List.mem_of_getElem? h, by simp [hb]⟩
  unfold isElemX; rw [hh, this]; rfl
theorem headP_first {p : Pat} (h : headP p = true) : negAt p 0 = false := by
  unfold headP at h
  simp only [Bool.and_eq_true, Bool.not_eq_true'] at h
  exact h.2.2.1
theorem wrapS {n : Nat} (h : n ≤ 140737488355328) : IntKind.i64.wrap (n : Int) = (n : Int) :=
  wrap_id _ _ (by have : IntKind.i64.min = -9223372036854775808 := rfl; omega) (by have : IntKind.i64.max = 9223372036854775807 := rfl; omega)

theorem Does_le {P : Program} {f : Nat} {A A' : List AV} {h : Heap} {R : AV} (hA : AVles A' A) (d : Does P f A h R) : Does P f A' h R :=
  ⟨d.1, fun n Z w vs hZ hv => d.2 n Z w vs hZ (hA _ _ hv)⟩
def nilX : AV := .agg [.d (int 0), .d (int 0), .d (int 0), .d (str nul), .d (str nul), .d (str nul), .d (.lit (.slice none 0 0))]
theorem nilX_le : AVle nilX (argX zeroX) := AVle.agg (.cons (.refl _) (.cons (.refl _) (.cons (.refl _) (.cons (.refl _) (.cons (.refl _) (.cons (.refl _) (.cons (.nilSl 7 96) .nil)))))))
def zeroP : Pat := ⟨[], 0, nul, false⟩
def nilP : AV := .agg [.d (.lit (.slice none 0 0)), .d (int 0), .d (str nul), .d (boo false)]
theorem nilP_le : AVle nilP (argP zeroP) := AVle.agg (.cons (.nilSl 11 144) (.cons (.refl _) (.cons (.refl _) (.cons (.refl _) .nil))))
/-! what 'known' asks -/
def kTt : ByteArray := ⟨#[116]⟩
def x6a : Exp := .mk 2 ⟨0, 0, nul⟩ kA kX []
def x6b : Exp := .mk 1 ⟨1, 3, nul⟩ nul nul []
def x6e : Exp := .mk 8 ⟨0, 0, nul⟩ nul nul [x6a, x6b]
def kP : Pat := ⟨[⟨kA, [kTt], false, false, x6e⟩], 5, nul, false⟩
theorem z1 : kidsN 12 = 1 := rfl
theorem z2 : kidsN 11 = 2 := rfl
theorem z3 : kidsN 1 = 0 := rfl
theorem z4 : isX x6e = true := by decide +kernel
theorem z5 : isX zeroX = false := by decide +kernel
theorem z6 : depthX x6e 1 = 2 := by decide +kernel
theorem z7 : nodesX x6e 1 = [x6e, x6a, x6b] := rfl
theorem z8 : sameX x6e x6e = true := by decide +kernel
theorem z9 : sameX x6e x6b = false := by decide +kernel
theorem z10 : isPat kP = true := by decide +kernel
theorem z11 : isPat zeroP = false := by decide +kernel
theorem z12 : sameP kP kP = true := by decide +kernel
theorem z13 : sameP kP zeroP = false := by decide +kernel
end Go.AL
/- Events as plain data. Nothing of a program. -/
namespace Go.AL
set_option linter.unusedVariables false
set_option linter.unusedSimpArgs false

structure Ev where
  ty : ByteArray
  ts : Int
  vals : List Vl
def encE (e : Ev) : List D := [str e.ty, int e.ts, .sl 3 32 (e.vals.map encV)]
def argE (e : Ev) : AV := .agg ((encE e).map .d)
def errN (t : TypeId) (c : Int) : D := .iface t (int c)
def nilE : D := .lit .nilIface
def sameEv (a b : Ev) : Bool := same a.ty b.ty && ((a.ts == b.ts) && allSame sameV a.vals b.vals)
def kk : List Vl → List Fld → Bool
  | v :: vs, f :: fs => (v.k == f.kind) && kk vs fs
  | _, _ => true
theorem kk_bad : ∀ {vs : List Vl} {fs : List Fld} {i : Nat} {v : Vl} {f : Fld}, vs[i]? = some v → fs[i]? = some f → (v.k == f.kind) = false → kk vs fs = false
  | [], _, i, v, f, h, _, _ => by simp at h
  | _ :: _, [], i, v, f, _, h, _ => by simp at h
  | x :: vs, y :: fs, 0, v, f, h1, h2, h3 => by simp at h1 h2; subst h1; subst h2; simp only [kk, h3, Bool.false_and]
  | x :: vs, y :: fs, i + 1, v, f, h1, h2, h3 => by simp only [kk, kk_bad (vs := vs) (fs := fs) (i := i) (by simpa using h1) (by simpa using h2) h3, Bool.and_false]
theorem kk_all : ∀ {vs : List Vl} {fs : List Fld}, (∀ i v f, i < vs.length → vs[i]? = some v → fs[i]? = some f → (v.k == f.kind) = true) → kk vs fs = true
  | [], _, _ => by simp [kk]
  | _ :: _, [], _ => by simp [kk]
  | x :: vs, y :: fs, h => by
    simp only [kk, Bool.and_eq_true]
    exact ⟨h 0 x y (by simp) rfl rfl, kk_all fun i v f hi h1 h2 => h (i + 1) v f (by simpa using hi) (by simpa using h1) (by simpa using h2)⟩
/-- What is wrong with an event; t: the errors' type. -/
def evForm (t : Ty) (e : Ev) : Bool := !(decide (e.ts < 0)) && !(decide (e.ts > 1073741824)) && (e.vals.length == t.fields.length) && e.vals.all isVal
def evErr (T : TypeId) (s : List Ty) (e : Ev) : D :=
  bif !(findT s e.ty).2 then errN T 13 else bif !(evForm (findT s e.ty).1 e) then errN T 10 else bif kk e.vals (findT s e.ty).1.fields then nilE else errN T 14
theorem evErr_none {T : TypeId} {s : List Ty} {e : Ev} (h : (findT s e.ty).2 = false) : evErr T s e = errN T 13 := by simp [evErr, h]
theorem evErr_form {T : TypeId} {s : List Ty} {e : Ev} (h : (findT s e.ty).2 = true) (hf : evForm (findT s e.ty).1 e = false) : evErr T s e = errN T 10 := by simp [evErr, h, hf]
theorem evErr_kind {T : TypeId} {s : List Ty} {e : Ev} (h : (findT s e.ty).2 = true) (hf : evForm (findT s e.ty).1 e = true) (hk : kk e.vals (findT s e.ty).1.fields = false) : evErr T s e = errN T 14 := by simp [evErr, h, hf, hk]
theorem evErr_ok {T : TypeId} {s : List Ty} {e : Ev} (h : (findT s e.ty).2 = true) (hf : evForm (findT s e.ty).1 e = true) (hk : kk e.vals (findT s e.ty).1.fields = true) : evErr T s e = nilE := by simp [evErr, h, hf, hk]
def hasD (x : Vl) : Bool := !isVal x
theorem any_idx {α : Type} {p : α → Bool} {l : List α} : decide (idx p l ≥ 0) = l.any p := by
  rcases idx_cases p l with ⟨i, a, h1, h2, h3, _⟩ | ⟨h1, h2⟩
  · rw [h1]
    have : l.any p = true := List.any_eq_true.2 ⟨a, List.mem_of_getElem? h2, h3⟩
    rw [this]; simp
  · rw [h1]
    have : l.any p = false := by rw [List.any_eq_false]; intro x hx; simp [h2 x hx]
    rw [this]; rfl
theorem all_any {l : List Vl} : l.all isVal = !(l.any fun v => !isVal v) := by
  induction l with
  | nil => rfl
  | cons x l ih => simp [List.all_cons, List.any_cons, ih]
def getV (s : List Ty) (e : Ev) (nm : ByteArray) : Vl × Bool :=
  bif !(findT s e.ty).2 || (decide (fieldAt (findT s e.ty).1 nm < 0) || decide (fieldAt (findT s e.ty).1 nm ≥ (e.vals.length : Int))) then (⟨0, 0, nul⟩, false) else (e.vals.getD (fieldAt (findT s e.ty).1 nm).toNat ⟨0, 0, nul⟩, true)
theorem getV_no {s : List Ty} {e : Ev} {nm : ByteArray} (h : (!(findT s e.ty).2 || (decide (fieldAt (findT s e.ty).1 nm < 0) || decide (fieldAt (findT s e.ty).1 nm ≥ (e.vals.length : Int)))) = true) : getV s e nm = (⟨0, 0, nul⟩, false) := by unfold getV; rw [h]; rfl
theorem getV_ok {s : List Ty} {e : Ev} {nm : ByteArray} {i : Nat} {v : Vl} (h1 : (findT s e.ty).2 = true) (hi : fieldAt (findT s e.ty).1 nm = (i : Int)) (hv : e.vals[i]? = some v) : getV s e nm = (v, true) := by
  have hlt := (List.getElem?_eq_some_iff.1 hv).1
  unfold getV
  rw [h1, hi]
  have e1 : decide ((i : Int) < 0) = false := by simp
  have e2 : decide ((i : Int) ≥ (e.vals.length : Int)) = false := by simp; omega
  rw [e1, e2]
  simp [List.getD, hv]
theorem getV_in {s : List Ty} {e : Ev} {nm : ByteArray} (h1 : (findT s e.ty).2 = true) (h2 : decide (fieldAt (findT s e.ty).1 nm < 0) = false) (h3 : decide (fieldAt (findT s e.ty).1 nm ≥ (e.vals.length : Int)) = false) :
    ∃ (i : Nat) (v : Vl), fieldAt (findT s e.ty).1 nm = (i : Int) ∧ e.vals[i]? = some v ∧ getV s e nm = (v, true) := by
  simp at h2 h3
  obtain ⟨i, hi⟩ := Int.eq_ofNat_of_zero_le h2
  have hlt : i < e.vals.length := by omega
  exact ⟨i, e.vals[i], hi, List.getElem?_eq_getElem hlt, getV_ok h1 hi (List.getElem?_eq_getElem hlt)⟩
theorem sameV_symm (a b : Vl) : sameV a b = sameV b a := by
  unfold sameV same
  rw [Bool.beq_comm (a := a.k), Bool.beq_comm (a := a.n), Bool.beq_comm (a := a.s.toList)]
theorem allSame_refl : ∀ l : List Vl, allSame sameV l l = true
  | [] => rfl
  | x :: l => by simp [allSame, sameV_rfl, allSame_refl l]
theorem allSame_set : ∀ {l : List Vl} {k : Nat} {v w : Vl}, l[k]? = some v → allSame sameV (l.set k w) l = sameV w v
  | [], k, v, w, h => by simp at h
  | x :: l, 0, v, w, h => by simp at h; subst h; simp [allSame, allSame_refl]
  | x :: l, k + 1, v, w, h => by simp [allSame, sameV_rfl, allSame_set (l := l) (k := k) (w := w) (by simpa using h)]
theorem sameEv_refl (e : Ev) : sameEv e e = true := by simp [sameEv, same_rfl, allSame_refl]
theorem sameEv_set {e : Ev} {k : Nat} {v w : Vl} (h : e.vals[k]? = some v) : sameEv ⟨e.ty, e.ts, e.vals.set k w⟩ e = sameV v w := by
  rw [sameV_symm v w]; simp [sameEv, same_rfl, allSame_set h]
theorem encV_set {l : List Vl} {k : Nat} {x : List D} {w : Vl} : (l.map encV).set k (x.take 0 ++ encV w ++ x.drop (0 + 3)) = (l.set k w).map encV ∨ x.length ≠ 3 := by
  by_cases h : x.length = 3
  · left; rw [List.drop_of_length_le (by omega)]; simp [List.map_set]
  · exact .inr h

/-! ### Events of given kinds -/
theorem wrapN {n : Nat} (h : n ≤ 140737488355328) : IntKind.i64.wrap (n : Int) = (n : Int) :=
  wrap_id _ _ (by have : IntKind.i64.min = -9223372036854775808 := rfl; omega) (by have : IntKind.i64.max = 9223372036854775807 := rfl; omega)
theorem wrapB {n : Nat} (h : n < 256) : IntKind.u8.wrap (n : Int) = ((UInt8.ofNat n).toNat : Int) := by
  rw [UInt8.toNat_ofNat_of_lt' h]
  exact wrap_id _ _ (by have : IntKind.u8.min = 0 := rfl; omega) (by have : IntKind.u8.max = 255 := rfl; omega)
def kt : ByteArray := ⟨#[116]⟩
def fldK (j : Nat) (u : UInt8) : Fld := ⟨⟨#[UInt8.ofNat (97 + j)]⟩, ((u.toNat % 3 + 1 : Nat) : Int)⟩
def fsK (l : List UInt8) : List Fld := l.zipIdx.map fun p => fldK p.2 p.1
def valK (u : UInt8) : Vl := ⟨((u.toNat % 3 + 1 : Nat) : Int), 0, nul⟩
def vsK (l : List UInt8) : List Vl := l.map valK
theorem fsK_length (l : List UInt8) : (fsK l).length = l.length := by simp [fsK]
theorem vsK_length (l : List UInt8) : (vsK l).length = l.length := by simp [vsK]
theorem fsK_get {l : List UInt8} {i : Nat} {u : UInt8} (h : l[i]? = some u) : (fsK l)[i]? = some (fldK i u) := by simp [fsK, List.getElem?_zipIdx, h]
theorem vsK_get {l : List UInt8} {i : Nat} {u : UInt8} (h : l[i]? = some u) : (vsK l)[i]? = some (valK u) := by simp [vsK, h]
theorem fsK_snoc {l : List UInt8} {i : Nat} {u : UInt8} (h : l[i]? = some u) : fsK (l.take (i + 1)) = fsK (l.take i) ++ [fldK i u] := by
  have hlt := (List.getElem?_eq_some_iff.1 h).1
  unfold fsK
  rw [List.take_add_one, h, List.zipIdx_append]
  have hm : min i l.length = i := by omega
  simp [hm]
theorem vsK_snoc {l : List UInt8} {i : Nat} {u : UInt8} (h : l[i]? = some u) : vsK (l.take (i + 1)) = vsK (l.take i) ++ [valK u] := by
  unfold vsK
  rw [List.take_add_one, h]
  simp
theorem isVal_small {m : Nat} (h : m < 3) : isVal ⟨((m + 1 : Nat) : Int), 0, nul⟩ = true := by
  refine isVal_in ?_ ?_ <;> simp <;> omega
theorem vsK_all (l : List UInt8) : (vsK l).all isVal = true := by
  rw [List.all_eq_true]
  intro v hv
  obtain ⟨u, _, rfl⟩ := List.mem_map.1 hv
  exact isVal_small (Nat.mod_lt _ (by omega))
theorem kk_K (l : List UInt8) : kk (vsK l) (fsK l) = true := kk_all fun i v f hi h1 h2 => by
  obtain ⟨u, hu⟩ : ∃ u, l[i]? = some u := ⟨_, List.getElem?_eq_getElem (by rw [vsK_length] at hi; exact hi)⟩
  rw [vsK_get hu] at h1
  rw [fsK_get hu] at h2
  cases h1; cases h2
  simp [valK, fldK]
def turnK (u : UInt8) : Vl := ⟨(((u.toNat % 3 + 1) % 3 + 1 : Nat) : Int), 0, nul⟩
theorem kk_turn {l : List UInt8} {j : Nat} {u : UInt8} (h : l[j]? = some u) : kk ((vsK l).set j (turnK u)) (fsK l) = false := by
  have hlt := (List.getElem?_eq_some_iff.1 h).1
  refine kk_bad (i := j) (v := turnK u) (f := fldK j u) (by rw [List.getElem?_set_self (by rw [vsK_length]; exact hlt)]) (fsK_get h) ?_
  simp [turnK, fldK]; omega
theorem all_turn {l : List UInt8} {j : Nat} {u : UInt8} : ((vsK l).set j (turnK u)).all isVal = true := by
  rw [List.all_eq_true]
  intro v hv
  rcases List.mem_or_eq_of_mem_set hv with hv | rfl
  · exact List.all_eq_true.1 (vsK_all l) v hv
  · exact isVal_small (Nat.mod_lt _ (by omega))
def wantD (T : TypeId) (w : Int) : D := bif w == 0 then nilE else errN T w
theorem findK (fs : List Fld) : findT [⟨kt, fs⟩] kt = (⟨kt, fs⟩, true) := by simp [findT, same]
/-- What is told of an event at each point. -/
def K0 (l : List UInt8) (p : List Vl × Int) : Prop := p.1.all isVal = true ∧ p.1.length = l.length ∧ ((p.2 = 0 ∧ kk p.1 (fsK l) = true) ∨ (p.2 = 14 ∧ kk p.1 (fsK l) = false))
def K1 (l : List UInt8) (p : List Vl × Int) : Prop := p.1.all isVal = true ∧ p.1.length ≤ l.length + 1 ∧ ((p.2 = 0 ∧ p.1.length = l.length ∧ kk p.1 (fsK l) = true) ∨ (p.2 = 14 ∧ p.1.length = l.length ∧ kk p.1 (fsK l) = false) ∨ (p.2 = 10 ∧ p.1.length ≠ l.length))
theorem K1_of {l : List UInt8} {p : List Vl × Int} (h : K0 l p) : K1 l p := by
  obtain ⟨h1, h2, h3 | h3⟩ := h
  · exact ⟨h1, by omega, .inl ⟨h3.1, h2, h3.2⟩⟩
  · exact ⟨h1, by omega, .inr (.inl ⟨h3.1, h2, h3.2⟩)⟩
theorem K1_more {l : List UInt8} {vs : List Vl} {w : Int} (h : K0 l (vs, w)) : K1 l (vs ++ [⟨1, 0, nul⟩], 10) := by
  obtain ⟨h1, h2, _⟩ := h
  simp only at h1 h2
  have h3 : isVal ⟨1, 0, nul⟩ = true := by simp [isVal, same]
  exact ⟨by simp [List.all_append, h3] at h1 ⊢; exact h1, by simp; omega, .inr (.inr ⟨rfl, by simp; omega⟩)⟩
theorem K1_less {l : List UInt8} {vs : List Vl} {w : Int} (h : K0 l (vs, w)) (h0 : 0 < vs.length) : K1 l (vs.take (vs.length - 1), 10) := by
  obtain ⟨h1, h2, _⟩ := h
  simp only at h1 h2
  refine ⟨?_, by simp; omega, .inr (.inr ⟨rfl, by simp; omega⟩)⟩
  rw [List.all_eq_true] at h1 ⊢
  exact fun v hv => h1 v (List.mem_of_mem_take hv)
def K3 (T : TypeId) (l : List UInt8) (ts : Int) (p : List Vl × Int) : Prop := evErr T [⟨kt, fsK l⟩] ⟨kt, ts, p.1⟩ = wantD T p.2 ∧ p.1.length ≤ l.length + 1 ∧ (p.2 = 0 ∨ p.2 = 10 ∨ p.2 = 14)
theorem K3_late {T : TypeId} {l : List UInt8} {ts : Int} {vs : List Vl} {w : Int} (h : decide (ts < 0) = true ∨ decide (ts > 1073741824) = true) (hK : K1 l (vs, w)) : K3 T l ts (vs, 10) := by
  refine ⟨evErr_form (by simp [findK]) ?_, hK.2.1, .inr (.inl rfl)⟩
  rcases h with h | h <;> simp only [evForm, h] <;> simp
theorem K3_of {T : TypeId} {l : List UInt8} {ts : Int} {p : List Vl × Int} (h1 : decide (ts < 0) = false) (h2 : decide (ts > 1073741824) = false) (h : K1 l p) : K3 T l ts p := by
  obtain ⟨ha, hle, h⟩ := h
  have hfd : findT [⟨kt, fsK l⟩] (⟨kt, ts, p.1⟩ : Ev).ty = (⟨kt, fsK l⟩, true) := findK _
  rcases h with ⟨hw, hl, hk⟩ | ⟨hw, hl, hk⟩ | ⟨hw, hl⟩
  · refine ⟨?_, hle, .inl hw⟩
    rw [hw, evErr_ok (by rw [hfd]) (by rw [hfd]; simp only [evForm, h1, h2, ha, hl, fsK_length]; simp) (by rw [hfd]; exact hk)]; rfl
  · refine ⟨?_, hle, .inr (.inr hw)⟩
    rw [hw, evErr_kind (by rw [hfd]) (by rw [hfd]; simp only [evForm, h1, h2, ha, hl, fsK_length]; simp) (by rw [hfd]; exact hk)]; rfl
  · refine ⟨?_, hle, .inr (.inl hw)⟩
    rw [hw, evErr_form (by rw [hfd]) (by rw [hfd]; simp [evForm, fsK_length, hl])]; rfl
theorem wantD_none (T : TypeId) : wantD T 0 = nilE := rfl

/-! what 'known' asks -/
def kS3 : List Ty := [⟨kA, [⟨kX, 1⟩]⟩]
def kE3 : Ev := ⟨kA, 3, [⟨1, 7, nul⟩]⟩
theorem x1 : getV kS3 kE3 kX = (⟨1, 7, nul⟩, true) := by
  refine getV_ok (i := 0) ?_ ?_ rfl <;> decide +kernel
theorem x2 : getV kS3 kE3 kY = (⟨0, 0, nul⟩, false) := getV_no (by decide +kernel)
theorem x3 (T : TypeId) : evErr T kS3 kE3 = nilE := evErr_ok (by decide +kernel) (by decide +kernel) (by decide +kernel)
theorem x4 (T : TypeId) : evErr T kS3 ⟨kB, 0, []⟩ = errN T 13 := evErr_none (by decide +kernel)
theorem x5 (T : TypeId) : evErr T kS3 ⟨kA, 0, []⟩ = errN T 10 := evErr_form (by decide +kernel) (by decide +kernel)
theorem x6 : sameEv kE3 kE3 = true := sameEv_refl _
theorem x7 : sameEv kE3 ⟨nul, 0, []⟩ = false := by decide +kernel
end Go.AL
/- What conditions tell, as plain data. Nothing of a program. -/
namespace Go.AL
set_option linter.unusedVariables false
set_option linter.unusedSimpArgs false

structure Bi where
  al : ByteArray
  ev : Ev
def encBi (b : Bi) : List D := str b.al :: encE b.ev
def argBi (b : Bi) : AV := .agg ((encBi b).map .d)
theorem Bi.shape (b : Bi) : ∃ al ty ts vals, b = ⟨al, ⟨ty, ts, vals⟩⟩ := by obtain ⟨al, ⟨ty, ts, vals⟩⟩ := b; exact ⟨_, _, _, _, rfl⟩
def nulV : Vl := ⟨0, 0, nul⟩
def truthV (b : Bool) : Vl := ⟨3, bif b then 1 else 0, nul⟩
def wr (n : Int) : Int := IntKind.i64.wrap n
def maxI : Int := 9223372036854775807
def minI : Int := -9223372036854775808
def sumX (a b : Int) : Int × Bool := bif (decide (b > 0) && decide (a > wr (maxI - b))) || (decide (b < 0) && decide (a < wr (minI - b))) then (0, false) else (wr (a + b), true)
def diffX (a b : Int) : Int × Bool := bif (decide (b < 0) && decide (a > wr (maxI + b))) || (decide (b > 0) && decide (a < wr (minI + b))) then (0, false) else (wr (a - b), true)
def prodX (a b : Int) : Int × Bool :=
  bif a == 0 || b == 0 then (0, true)
  else bif (wr ((wr (a * b)).tdiv b) != a) || ((a == -1 && b == minI) || (b == -1 && a == minI)) then (0, false) else (wr (a * b), true)
def countsR (op a b : Int) : Int × Bool := bif op == 3 then sumX a b else bif op == 4 then diffX a b else prodX a b
def countsX (op a b : Int) : Vl × Int := bif !(countsR op a b).2 then (nulV, 16) else (⟨1, (countsR op a b).1, nul⟩, 0)
def lessV (a b : Vl) : Bool := bif a.k == 1 then decide (a.n < b.n) else less a.s b.s
def pairX (op : Int) (a b : Vl) : Vl × Int :=
  bif (op == 3 || op == 4 || op == 5) && (a.k == b.k && a.k == 1) then countsX op a.n b.n
  else bif op == 6 && a.k == b.k then (truthV (sameV a b), 0)
  else bif op == 7 && a.k == b.k then (truthV (!sameV a b), 0)
  else bif op == 8 && (a.k == b.k && a.k != 3) then (truthV (lessV a b), 0)
  else bif op == 9 && (a.k == b.k && a.k != 3) then (truthV (!lessV b a), 0)
  else (nulV, 14)
def lastB (l : List Bi) (al : ByteArray) : Option Bi := l.reverse.find? fun b => same b.al al
def fieldV (s : List Ty) (l : List Bi) (al fi : ByteArray) : Vl × Int := match lastB l al with
  | some b => bif (getV s b.ev fi).2 then ((getV s b.ev fi).1, 0) else (nulV, 13)
  | none => (nulV, 13)
/-- What a sign tells of its parts' values. -/
def finX (op : Int) (vs : List Vl) : Vl × Int :=
  bif op == 12 then (bif (vs.getD 0 nulV).k == 3 then (truthV ((vs.getD 0 nulV).n == 0), 0) else (nulV, 14)) else pairX op (vs.getD 0 nulV) (vs.getD 1 nulV)
mutual
def evX (s : List Ty) (l : List Bi) : Exp → Vl × Int
  | .mk op v al fi ks =>
    bif op == 1 then (v, 0) else bif op == 2 then fieldV s l al fi else bif op == 10 || op == 11 then chX s l op ks nulV
    else bif (evXs s l ks).2 == 0 then finX op (evXs s l ks).1 else (nulV, (evXs s l ks).2)
def chX (s : List Ty) (l : List Bi) (op : Int) : List Exp → Vl → Vl × Int
  | [], last => (last, 0)
  | k :: ks, last =>
    bif (evX s l k).2 != 0 then (nulV, (evX s l k).2)
    else bif (evX s l k).1.k != 3 then (nulV, 14)
    else bif ((evX s l k).1.n == 1) == (op == 11) then ((evX s l k).1, 0)
    else chX s l op ks (evX s l k).1
def evXs (s : List Ty) (l : List Bi) : List Exp → List Vl × Int
  | [] => ([], 0)
  | k :: ks =>
    bif (evX s l k).2 != 0 then ([], (evX s l k).2)
    else bif (evXs s l ks).2 != 0 then ([], (evXs s l ks).2) else ((evX s l k).1 :: (evXs s l ks).1, 0)
end
def evalX (s : List Ty) (l : List Bi) (x : Exp) : Vl × Int := bif isX x then evX s l x else (nulV, 10)
def holdsX (s : List Ty) (l : List Bi) (x : Exp) : Bool := sameX x zeroX || ((evalX s l x).2 == 0 && sameV (evalX s l x).1 (truthV true))
/-- An error as a value: nought is none. -/
def errC (T : TypeId) (c : Int) : D := bif c == 0 then nilE else errN T c

/-! ### All nodes are right -/
mutual
def wfX : Exp → Bool
  | .mk op v al fi ks => isNodeX (.mk op v al fi ks) && wfXs ks
def wfXs : List Exp → Bool
  | [] => true
  | k :: ks => wfX k && wfXs ks
end
theorem wfXs_mem : ∀ {ks : List Exp} {k : Exp}, wfXs ks = true → k ∈ ks → wfX k = true
  | x :: ks, k, h, hk => by
    simp only [wfXs, Bool.and_eq_true] at h
    rcases List.mem_cons.1 hk with rfl | hk
    · exact h.1
    · exact wfXs_mem h.2 hk
theorem wfXs_of : ∀ {ks : List Exp}, (∀ k ∈ ks, wfX k = true) → wfXs ks = true
  | [], _ => by simp [wfXs]
  | x :: ks, h => by simp only [wfXs, Bool.and_eq_true]; exact ⟨h x (by simp), wfXs_of fun k hk => h k (by simp [hk])⟩
theorem depthXs_ge : ∀ {ks : List Exp} {k : Exp} {a : Nat} {n : Int}, k ∈ ks → depthX k a ≤ depthXs ks a n ∧ n ≤ depthXs ks a n
  | x :: ks, k, a, n, hk => by
    simp only [depthXs]
    have h0 : ∀ (ks : List Exp) (n : Int), n ≤ depthXs ks a n := by
      intro ks
      induction ks with
      | nil => intro n; simp [depthXs]
      | cons y ks ih => intro n; simp only [depthXs]; have := ih (max n (depthX y a)); omega
    have h1 := h0 ks (max n (depthX x a))
    rcases List.mem_cons.1 hk with rfl | hk
    · omega
    · have := depthXs_ge (n := max n (depthX x a)) (a := a) hk
      omega
theorem nodesXs_mem : ∀ {ks : List Exp} {k y : Exp} {a : Nat}, k ∈ ks → y ∈ nodesX k a → y ∈ nodesXs ks a
  | x :: ks, k, y, a, hk, hy => by
    simp only [nodesXs, List.mem_append]
    rcases List.mem_cons.1 hk with rfl | hk
    · exact .inl hy
    · exact .inr (nodesXs_mem hk hy)
theorem wf_of : ∀ (d : Nat) (x : Exp) (a : Nat), a + d ≤ 20 → depthX x a ≤ (d : Int) → x.op ≠ 0 → (∀ y ∈ nodesX x a, isNodeX y = true) → wfX x = true
  | 0, .mk op v al fi ks, a, ha, hd, ho, hn => by
    have h : (op == 0 || decide ((a : Int) > 20)) = false := by
      simp only [Bool.or_eq_false_iff, decide_eq_false_iff_not]
      exact ⟨by simpa [Exp.op] using ho, by omega⟩
    unfold depthX at hd
    rw [h] at hd
    simp only [cond_false] at hd
    have : ∀ (ks : List Exp) (n : Int), n ≤ depthXs ks (a + 1) n := by
      intro ks
      induction ks with
      | nil => intro n; simp [depthXs]
      | cons y ks ih => intro n; simp only [depthXs]; have := ih (max n (depthX y (a + 1))); omega
    have := this ks 0
    omega
  | d + 1, .mk op v al fi ks, a, ha, hd, ho, hn => by
    have h : (op == 0 || decide ((a : Int) > 20)) = false := by
      simp only [Bool.or_eq_false_iff, decide_eq_false_iff_not]
      exact ⟨by simpa [Exp.op] using ho, by omega⟩
    have h0 := List.mem_of_getElem? (node0 (op := op) (v := v) (al := al) (fi := fi) (ks := ks) (a := a) h)
    have hx := hn _ h0
    have hk0 : ∀ k ∈ ks, k.op ≠ 0 := by
      intro k hk e
      have : ks.any (fun k => k.op == 0) = true := List.any_eq_true.2 ⟨k, hk, by simp [e]⟩
      have hx := hx
      unfold isNodeX at hx
      dsimp only at hx
      rw [this] at hx
      simp at hx
    unfold depthX at hd
    rw [h] at hd
    simp only [cond_false] at hd
    unfold wfX
    rw [hx]
    refine wfXs_of fun k hk => wf_of d k (a + 1) (by omega) ?_ (hk0 k hk) fun y hy => hn y ?_
    · have := (depthXs_ge (a := a + 1) (n := 0) hk).1
      omega
    · unfold nodesX
      rw [h]
      simp only [cond_false]
      exact List.mem_cons_of_mem _ (nodesXs_mem hk hy)
theorem wf_isX {x : Exp} (h : isX x = true) : wfX x = true := by
  simp only [isX, Bool.and_eq_true, decide_eq_true_eq, List.all_eq_true] at h
  refine wf_of 5 x 1 (by omega) (by omega) ?_ h.2.2.1
  obtain ⟨op, v, al, fi, ks⟩ := x
  intro e
  have e' : op = 0 := e
  subst e'
  have := h.2.2.2
  rw [nodesX_no (by simp)] at this
  simp at this
theorem wf_kids {op : Int} {v : Vl} {al fi : ByteArray} {ks : List Exp} (h : wfX (.mk op v al fi ks) = true) : 1 ≤ op ∧ op ≤ 12 ∧ (ks.length : Int) = kidsN op ∧ ∀ k ∈ ks, wfX k = true := by
  unfold wfX at h
  simp only [Bool.and_eq_true] at h
  refine ⟨?_, ?_, ?_, fun k hk => wfXs_mem h.2 hk⟩ <;>
  · have h1 := h.1
    unfold isNodeX at h1
    dsimp only at h1
    cases hb : (decide (op < 1) || decide (op > 12)) || (((ks.length : Int) != kidsN op)) with
    | true => rw [hb] at h1; simp at h1
    | false =>
      simp only [Bool.or_eq_false_iff, decide_eq_false_iff_not, bne_eq_false_iff_eq] at hb
      omega

/-! ### Backward through the binds -/
def ysB (l : List Bi) : List (List AV) := (l.zipIdx.reverse).map fun x => [.d (int ((x.2 : Nat) : Int)), argBi x.1]
theorem ysB_length (l : List Bi) : (ysB l).length = l.length := by simp [ysB]
theorem ysB_get {l : List Bi} {i : Nat} {b : Bi} (hi : i < l.length) (h : l[l.length - 1 - i]? = some b) : (ysB l)[i]? = some [.d (int ((l.length - 1 - i : Nat) : Int)), argBi b] := by
  simp only [ysB, List.getElem?_map]
  rw [List.getElem?_reverse (by simpa using hi)]
  simp only [List.length_zipIdx, List.getElem?_zipIdx, h]
  simp
theorem ysB_of {l : List Bi} {i : Nat} {args : List AV} (h : (ysB l)[i]? = some args) : ∃ b, l.reverse[i]? = some b ∧ args = [.d (int ((l.length - 1 - i : Nat) : Int)), argBi b] := by
  have hi : i < l.length := by have := (List.getElem?_eq_some_iff.1 h).1; simpa [ysB] using this
  have hg : l[l.length - 1 - i]? = some l[l.length - 1 - i] := List.getElem?_eq_getElem (by omega)
  rw [ysB_get hi hg] at h
  cases h
  exact ⟨_, by rw [List.getElem?_reverse hi]; exact hg, rfl⟩
theorem ysB_kf (l : List Bi) : ∀ y ∈ ysB l, kfs y = true ∧ y.length = 2 := by
  intro y hy
  simp only [ysB, List.mem_map] at hy
  obtain ⟨x, _, rfl⟩ := hy
  exact ⟨by simp [kfs, kf, argBi, kfs_d], rfl⟩
theorem lastB_some {l : List Bi} {i : Nat} {b : Bi} {al : ByteArray} (hb : l.reverse[i]? = some b) (hp : ∀ j c, j < i → l.reverse[j]? = some c → same c.al al = false) (h : same b.al al = true) : lastB l al = some b := by
  unfold lastB
  generalize l.reverse = r at hb hp
  induction r generalizing i with
  | nil => simp at hb
  | cons x r ih =>
    cases i with
    | zero => simp at hb; subst hb; simp [List.find?, h]
    | succ i =>
      have h0 := hp 0 x (by omega) rfl
      rw [List.find?_cons_of_neg (by simp [h0])]
      exact ih (i := i) (by simpa using hb) fun j c hj hc => hp (j + 1) c (by omega) (by simpa using hc)
theorem lastB_none {l : List Bi} {al : ByteArray} (hp : ∀ j c, j < l.length → l.reverse[j]? = some c → same c.al al = false) : lastB l al = none := by
  unfold lastB
  rw [List.find?_eq_none]
  intro x hx
  obtain ⟨j, hj⟩ := List.getElem?_of_mem hx
  have := hp j x (by have := (List.getElem?_eq_some_iff.1 hj).1; simpa using this) hj
  simp [this]
theorem fieldV_ok {s : List Ty} {l : List Bi} {al fi : ByteArray} {b : Bi} (h : lastB l al = some b) (hg : (getV s b.ev fi).2 = true) : fieldV s l al fi = ((getV s b.ev fi).1, 0) := by unfold fieldV; rw [h]; simp [hg]
theorem fieldV_no {s : List Ty} {l : List Bi} {al fi : ByteArray} {b : Bi} (h : lastB l al = some b) (hg : (getV s b.ev fi).2 = false) : fieldV s l al fi = (nulV, 13) := by unfold fieldV; rw [h]; simp [hg]
theorem fieldV_none {s : List Ty} {l : List Bi} {al fi : ByteArray} (h : lastB l al = none) : fieldV s l al fi = (nulV, 13) := by unfold fieldV; rw [h]

/-! ### Kids -/
theorem chX_err {s : List Ty} {l : List Bi} {op : Int} {k : Exp} {ks : List Exp} {last : Vl} (h : ((evX s l k).2 == 0) = false) : chX s l op (k :: ks) last = (nulV, (evX s l k).2) := by
  unfold chX; simp only [bne, h]; rfl
theorem chX_kind {s : List Ty} {l : List Bi} {op : Int} {k : Exp} {ks : List Exp} {last : Vl} (h : ((evX s l k).2 == 0) = true) (h2 : ((evX s l k).1.k != 3) = true) : chX s l op (k :: ks) last = (nulV, 14) := by
  unfold chX; simp only [bne, h]; simp only [bne] at h2; rw [h2]; rfl
theorem chX_stop {s : List Ty} {l : List Bi} {op : Int} {k : Exp} {ks : List Exp} {last : Vl} (h : ((evX s l k).2 == 0) = true) (h2 : ((evX s l k).1.k != 3) = false) (h3 : (((evX s l k).1.n == 1) == (op == 11)) = true) : chX s l op (k :: ks) last = ((evX s l k).1, 0) := by
  unfold chX; simp only [bne, h]; simp only [bne] at h2; rw [h2, h3]; rfl
theorem chX_next {s : List Ty} {l : List Bi} {op : Int} {k : Exp} {ks : List Exp} {last : Vl} (h : ((evX s l k).2 == 0) = true) (h2 : ((evX s l k).1.k != 3) = false) (h3 : (((evX s l k).1.n == 1) == (op == 11)) = false) : chX s l op (k :: ks) last = chX s l op ks (evX s l k).1 := by
  conv => lhs; unfold chX
  simp only [bne, h]; simp only [bne] at h2; rw [h2, h3]; rfl
theorem len_two {α : Type} {l : List α} (h : l.length = 2) : ∃ a b, l = [a, b] := by
  match l, h with
  | [a, b], _ => exact ⟨a, b, rfl⟩
theorem kidsN_two {op : Int} (h : 3 ≤ op ∧ op ≤ 9) : kidsN op = 2 := by
  have e0 : (op == 12) = false := by simp; omega
  have e1 : decide (op ≥ 3) = true := by simp; omega
  have e2 : decide (op ≤ 11) = true := by simp; omega
  unfold kidsN; rw [e0, e1, e2]; rfl
theorem drop_get {α : Type} {l : List α} {i : Nat} {x : α} (h : l[i]? = some x) : l.drop i = x :: l.drop (i + 1) := by
  obtain ⟨hlt, rfl⟩ := List.getElem?_eq_some_iff.1 h
  exact List.drop_eq_getElem_cons hlt
theorem evXs_if {s : List Ty} {l : List Bi} {k : Exp} {ks : List Exp} : evXs s l (k :: ks) = if (evX s l k).2 = 0 then (if (evXs s l ks).2 = 0 then ((evX s l k).1 :: (evXs s l ks).1, 0) else ([], (evXs s l ks).2)) else ([], (evX s l k).2) := by
  rw [evXs]
  by_cases h1 : (evX s l k).2 = 0
  · by_cases h2 : (evXs s l ks).2 = 0
    · simp [h1, h2]
    · have : ((evXs s l ks).2 != 0) = true := by simpa using h2
      simp [h1, h2, this]
  · have : ((evX s l k).2 != 0) = true := by simpa using h1
    simp [h1, this]
theorem evXs_snoc {s : List Ty} {l : List Bi} : ∀ {ks : List Exp} {i : Nat} {k : Exp}, ks[i]? = some k → (evXs s l (ks.take i)).2 = 0 → ((evX s l k).2 == 0) = true → evXs s l (ks.take (i + 1)) = ((evXs s l (ks.take i)).1 ++ [(evX s l k).1], 0)
  | [], i, k, h, _, _ => by simp at h
  | x :: ks, 0, k, h, _, h2 => by
    simp at h; subst h
    have h2 : (evX s l x).2 = 0 := by simpa using h2
    simp [evXs_if, evXs, h2]
  | x :: ks, i + 1, k, h, h1, h2 => by
    simp only [List.take_succ_cons, evXs_if] at h1 ⊢
    by_cases hx : (evX s l x).2 = 0
    · by_cases hr : (evXs s l (ks.take i)).2 = 0
      · have := evXs_snoc (ks := ks) (i := i) (by simpa using h) hr h2
        rw [this]
        simp [hx, hr]
      · simp [hx, hr] at h1
    · simp [hx] at h1
theorem evXs_err {s : List Ty} {l : List Bi} : ∀ {ks : List Exp} {i : Nat} {k : Exp}, ks[i]? = some k → (evXs s l (ks.take i)).2 = 0 → ((evX s l k).2 == 0) = false → (evXs s l ks).2 = (evX s l k).2
  | [], i, k, h, _, _ => by simp at h
  | x :: ks, 0, k, h, _, h2 => by
    simp at h; subst h
    have h2 : (evX s l x).2 ≠ 0 := by simpa using h2
    simp [evXs_if, h2]
  | x :: ks, i + 1, k, h, h1, h2 => by
    simp only [List.take_succ_cons, evXs_if] at h1 ⊢
    by_cases hx : (evX s l x).2 = 0
    · by_cases hr : (evXs s l (ks.take i)).2 = 0
      · have := evXs_err (ks := ks) (i := i) (by simpa using h) hr h2
        have h3 : (evX s l k).2 ≠ 0 := by simpa using h2
        have h4 : (evXs s l ks).2 ≠ 0 := by rw [this]; exact h3
        simp [hx, this, h3]
      · simp [hx, hr] at h1
    · simp [hx] at h1
theorem evXs_len {s : List Ty} {l : List Bi} : ∀ {ks : List Exp}, (evXs s l ks).2 = 0 → (evXs s l ks).1.length = ks.length
  | [], _ => by simp [evXs]
  | x :: ks, h => by
    simp only [evXs_if] at h ⊢
    by_cases hx : (evX s l x).2 = 0
    · by_cases hr : (evXs s l ks).2 = 0
      · simp [hx, hr, evXs_len hr]
      · simp [hx, hr] at h
    · simp [hx] at h
theorem evX_lit {s : List Ty} {l : List Bi} {op : Int} {v : Vl} {al fi : ByteArray} {ks : List Exp} (h : (op == 1) = true) : evX s l (.mk op v al fi ks) = (v, 0) := by unfold evX; rw [h]; rfl
theorem evX_field {s : List Ty} {l : List Bi} {op : Int} {v : Vl} {al fi : ByteArray} {ks : List Exp} (h1 : (op == 1) = false) (h : (op == 2) = true) : evX s l (.mk op v al fi ks) = fieldV s l al fi := by unfold evX; rw [h1, h]; rfl
theorem evX_choice {s : List Ty} {l : List Bi} {op : Int} {v : Vl} {al fi : ByteArray} {ks : List Exp} (h1 : (op == 1) = false) (h2 : (op == 2) = false) (h : (op == 10 || op == 11) = true) : evX s l (.mk op v al fi ks) = chX s l op ks nulV := by unfold evX; rw [h1, h2, h]; rfl
theorem evX_err {s : List Ty} {l : List Bi} {op : Int} {v : Vl} {al fi : ByteArray} {ks : List Exp} (h1 : (op == 1) = false) (h2 : (op == 2) = false) (h3 : (op == 10 || op == 11) = false) (h : ((evXs s l ks).2 == 0) = false) : evX s l (.mk op v al fi ks) = (nulV, (evXs s l ks).2) := by unfold evX; rw [h1, h2, h3, h]; rfl
theorem evX_fin {s : List Ty} {l : List Bi} {op : Int} {v : Vl} {al fi : ByteArray} {ks : List Exp} (h1 : (op == 1) = false) (h2 : (op == 2) = false) (h3 : (op == 10 || op == 11) = false) (h : (evXs s l ks).2 = 0) : evX s l (.mk op v al fi ks) = finX op (evXs s l ks).1 := by unfold evX; rw [h1, h2, h3, h]; rfl
end Go.AL
/- What law 6's own functions build. Nothing of a program. -/
namespace Go.AL
set_option linter.unusedVariables false
set_option linter.unusedSimpArgs false

/-! ### As deep as may be -/
def litX (c : Int) : Exp := .mk 1 ⟨1, c, nul⟩ nul nul []
def dOp (i : Nat) : Int := bif i == 0 then 1 else 3
def dVal (i : Nat) : Vl := bif i == 0 then ⟨1, 1, nul⟩ else ⟨0, 0, nul⟩
def dKids (full : Bool) : Nat → List Exp
  | 0 => []
  | i + 1 => [.mk (dOp i) (dVal i) nul nul (dKids full i), bif full then .mk (dOp i) (dVal i) nul nul (dKids full i) else litX 2]
def deepX (full : Bool) (i : Nat) : Exp := .mk (dOp i) (dVal i) nul nul (dKids full i)
def dN (full : Bool) (k : Nat) : Nat := bif full then 2 ^ k - 1 else 2 * k - 1
def deepT (full : Bool) (j : Nat) : Bool :=
  (isX (deepX full j) == (decide (j + 1 ≤ 5) && decide (dN full (j + 1) ≤ 24))) && (decide (depthX (deepX full j) 1 = ((j + 1 : Nat) : Int)) && decide ((nodesX (deepX full j) 1).length = dN full (j + 1)))
theorem deepT_all : ((List.range 7).all fun j => deepT true j && deepT false j) = true := by decide +kernel
theorem deepT_of {full : Bool} {j : Nat} (h : j < 7) : deepT full j = true := by
  have := List.all_eq_true.1 deepT_all j (by simpa using h)
  simp only [Bool.and_eq_true] at this
  cases full
  · exact this.2
  · exact this.1
theorem deep_is {full : Bool} {j : Nat} (h : j < 7) : isX (deepX full j) = (decide (((j + 1 : Nat) : Int) ≤ 5) && decide (((dN full (j + 1) : Nat) : Int) ≤ 24)) := by
  have h := deepT_of (full := full) h
  simp only [deepT, Bool.and_eq_true, beq_iff_eq, decide_eq_true_eq] at h
  rw [h.1]
  congr 1 <;> (apply decide_eq_decide.2; omega)
theorem deep_depth {full : Bool} {j : Nat} (h : j < 7) : depthX (deepX full j) 1 = ((j + 1 : Nat) : Int) := by
  have h := deepT_of (full := full) h
  simp only [deepT, Bool.and_eq_true, beq_iff_eq, decide_eq_true_eq] at h
  exact h.2.1
theorem deep_nodes {full : Bool} {j : Nat} (h : j < 7) : (nodesX (deepX full j) 1).length = dN full (j + 1) := by
  have h := deepT_of (full := full) h
  simp only [deepT, Bool.and_eq_true, beq_iff_eq, decide_eq_true_eq] at h
  exact h.2.2
theorem dN_le {full : Bool} {k : Nat} (h : k ≤ 7) : dN full k ≤ 127 := by
  have : (2 : Nat) ^ k ≤ 2 ^ 7 := Nat.pow_le_pow_right (by omega) h
  cases full <;> simp [dN] <;> omega

/-! ### As many parts as may be -/
def shK (k : Nat) : List Exp := (List.range k).map fun (j : Nat) => litX (j : Int)
def shN (b : Bool) (x : ByteArray) : ByteArray := bif b then x else nul
def shV (b : Bool) : Int := bif b then 1 else 0
def shX (o k : Nat) (name val : Bool) : Exp := .mk (o : Int) ⟨shV val, shV val, nul⟩ (shN name kA) (shN name kX) (shK k)
def shG (o k : Nat) (name val : Bool) : Bool := decide ((o : Int) ≥ 1) && (decide ((o : Int) ≤ 12) && (((k : Int) == kidsN (o : Int)) && ((name == ((o : Int) == 2)) && (val == ((o : Int) == 1)))))
theorem shK_snoc (i : Nat) : shK i ++ [litX (i : Int)] = shK (i + 1) := by simp [shK, List.range_succ]
theorem encXs_append (a b : List Exp) : encXs (a ++ b) = encXs a ++ encXs b := by simp [encXs_eq]
theorem shK_len (k : Nat) : (shK k).length = k := by simp [shK]
theorem encK_snoc (i : Nat) : encXs (shK i) ++ [encX (litX (i : Int))] = encXs (shK (i + 1)) := by rw [← shK_snoc, encXs_append]; rfl
theorem shT_all : ((List.range 14).all fun o => (List.range 4).all fun k => [true, false].all fun a => [true, false].all fun b => isX (shX o k a b) == shG o k a b) = true := by decide +kernel
theorem sh_ok {o k : Nat} {a b : Bool} (ho : o < 14) (hk : k < 4) : isX (shX o k a b) = shG o k a b := by
  have h1 := List.all_eq_true.1 shT_all o (by simpa using ho)
  have h2 := List.all_eq_true.1 h1 k (by simpa using hk)
  have h3 := List.all_eq_true.1 h2 a (by cases a <;> simp)
  have h4 := List.all_eq_true.1 h3 b (by cases b <;> simp)
  simpa using h4

/-! ### What a pattern may not be -/
theorem encX_len (x : Exp) : (encX x).length = 7 := by cases x; simp [encX]
theorem encL_len (e : El) : (encL e).length = 11 := by simp [encL, encX_len]
def ruA (c : Nat) (i : Nat) : ByteArray := (⟨#[UInt8.ofNat c]⟩ : ByteArray) ++ (⟨[UInt8.ofNat (97 + i)].toArray⟩ : ByteArray)
def kU : ByteArray := ⟨#[117]⟩
def kBB : ByteArray := ⟨#[66]⟩
def kAB : ByteArray := ⟨#[97, 98]⟩
def ruN (k i : Nat) : Bool := (((i % 2 : Nat) : Int) == 1) && decide ((i : Int) < ((k - 1 : Nat) : Int))
def ruE (k i : Nat) : El := ⟨ruA 97 i, [kTt, kU], false, ruN k i, zeroX⟩
def ruEs (k i : Nat) : List El := (List.range i).map (ruE k)
theorem ruEs_len (k i : Nat) : (ruEs k i).length = i := by simp [ruEs]
theorem ruEs_get {k i j : Nat} (h : j < i) : (ruEs k i)[j]? = some (ruE k j) := by simp [ruEs, h]
theorem ruEs_snoc (k i : Nat) : (ruEs k i).map encL ++ [encL (ruE k i)] = (ruEs k (i + 1)).map encL := by simp [ruEs, List.range_succ]
def ruP (k : Nat) : Pat := ⟨ruEs k k, 10, nul, false⟩
def ruS (k : Nat) (c : Nat) : List El :=
  match c with
  | 0 => (ruEs k k).set 0 { ruE k 0 with neg := true }
  | 1 => (ruEs k k).set (k - 1) { ruE k (k - 1) with neg := true }
  | 2 => (ruEs k k).set 0 { ruE k 0 with tys := [kU, kTt] }
  | 3 => (ruEs k k).set 0 { ruE k 0 with al := kAB }
  | 6 => (ruEs k k).set 0 { ruE k 0 with tys := [] }
  | 7 => (ruEs k k).set 0 { ruE k 0 with plus := true }
  | _ => ruEs k k
def ruW (c : Nat) : Int := bif c == 4 then 1001 else 10
def ruY (c : Nat) : ByteArray := bif c == 5 then kBB else nul
def ruQ (k c : Nat) : Pat := ⟨ruS k c, ruW c, ruY c, c == 8⟩
def ruB (k c : Nat) : Bool := bif c == 3 then decide ((k : Int) > 1) else decide (c < 7)
theorem ruT_all : ((List.range 5).all fun k => isPat (ruP (k + 1)) && (List.range 9).all fun c => isPat (ruQ (k + 1) c) == !ruB (k + 1) c) = true := by decide +kernel
theorem ru_good {k : Nat} (h1 : 1 ≤ k) (h5 : k ≤ 5) : isPat (ruP k) = true := by
  obtain ⟨j, rfl⟩ : ∃ j, k = j + 1 := ⟨k - 1, by omega⟩
  have h := List.all_eq_true.1 ruT_all j (by simp; omega)
  simp only [Bool.and_eq_true] at h
  exact h.1
theorem ru_bad {k c : Nat} (h1 : 1 ≤ k) (h5 : k ≤ 5) (hc : c < 9) : isPat (ruQ k c) = !ruB k c := by
  obtain ⟨j, rfl⟩ : ∃ j, k = j + 1 := ⟨k - 1, by omega⟩
  have h := List.all_eq_true.1 ruT_all j (by simp; omega)
  simp only [Bool.and_eq_true] at h
  have h := List.all_eq_true.1 h.2 c (by simpa using hc)
  simpa using h
theorem ruS_len (k c : Nat) : (ruS k c).length = k := by unfold ruS; split <;> simp [ruEs_len]
theorem map_len11 {l : List El} : ∀ x ∈ l.map encL, x.length = 11 := by
  intro x hx
  obtain ⟨e, _, rfl⟩ := List.mem_map.1 hx
  exact encL_len e

/-! ### As many elements as may be -/
def liT (j : Nat) : List ByteArray := (List.range j).map (ruA 116)
def liE (j i : Nat) : El := ⟨ruA 97 i, liT j, false, false, zeroX⟩
def liEs (j k : Nat) : List El := (List.range k).map (liE j)
def liP (j k : Nat) (w : Int) : Pat := ⟨liEs j k, w, nul, false⟩
def liG (j k : Nat) (w : Int) : Bool := decide ((k : Int) ≥ 1) && (decide ((k : Int) ≤ 5) && (decide ((j : Int) ≥ 1) && (decide ((j : Int) ≤ 3) && (decide (w ≥ 0) && decide (w ≤ 1000)))))
theorem liT_len (j : Nat) : (liT j).length = j := by simp [liT]
theorem liEs_len (j k : Nat) : (liEs j k).length = k := by simp [liEs]
theorem liT_snoc (j : Nat) : (liT j).map encB ++ [encB (ruA 116 j)] = (liT (j + 1)).map encB := by simp [liT, List.range_succ]
theorem liEs_snoc (j k : Nat) : (liEs j k).map encL ++ [encL (liE j k)] = (liEs j (k + 1)).map encL := by simp [liEs, List.range_succ]
theorem liT_all : ((List.range 7).all fun k => (List.range 5).all fun j => isPat (liP j k 0) == liG j k 0) = true := by decide +kernel
theorem isPat_within (els : List El) (w : Int) : isPat ⟨els, w, nul, false⟩ = (isPat ⟨els, 0, nul, false⟩ && (decide (w ≥ 0) && decide (w ≤ 1000))) := by
  have h1 : elsOk ⟨els, w, nul, false⟩ = elsOk ⟨els, 0, nul, false⟩ := rfl
  have h2 : ∀ i, negAt ⟨els, w, nul, false⟩ i = negAt ⟨els, 0, nul, false⟩ i := fun _ => rfl
  have h3 : decide (w ≥ 0) = !decide (w < 0) := by by_cases h : w < 0 <;> simp [h] <;> omega
  have h4 : decide (w ≤ 1000) = !decide (w > 1000) := by by_cases h : w > 1000 <;> simp [h] <;> omega
  unfold isPat
  rw [h1, h3, h4]
  unfold headP
  simp only [h2]
  rw [show decide ((0 : Int) < 0) = false from rfl, show decide ((0 : Int) > 1000) = false from rfl]
  generalize (!(!same nul nul && !isName nul)) = z
  generalize decide (w < 0) = a
  generalize decide (w > 1000) = b
  generalize elsOk _ = c
  generalize negAt _ _ = d
  generalize negAt _ _ = e
  generalize (!decide ((els.length : Int) < 1)) = f
  generalize (!decide ((els.length : Int) > 5)) = g
  cases a <;> cases b <;> cases c <;> cases d <;> cases e <;> cases f <;> cases g <;> cases z <;> rfl
theorem li_ok {j k : Nat} {w : Int} (hj : j < 5) (hk : k < 7) : isPat (liP j k w) = liG j k w := by
  have h := List.all_eq_true.1 liT_all k (by simpa using hk)
  have h := List.all_eq_true.1 h j (by simpa using hj)
  have h : isPat (liP j k 0) = liG j k 0 := by simpa using h
  have e : isPat (liP j k w) = (isPat (liP j k 0) && (decide (w ≥ 0) && decide (w ≤ 1000))) := isPat_within _ _
  rw [e, h]
  unfold liG
  simp [Bool.and_assoc]
end Go.AL
/- What law 11's own functions build, and what is told of it. Nothing of a program. -/
namespace Go.AL
set_option linter.unusedVariables false
set_option linter.unusedSimpArgs false

def ch (c : UInt8) : ByteArray := ⟨#[c]⟩
def fldX (a f : ByteArray) : Exp := .mk 2 ⟨0, 0, nul⟩ a f []
def twoX (op : Int) (x y : Exp) : Exp := .mk op ⟨0, 0, nul⟩ nul nul [x, y]
def bS : List Ty := [⟨ch 116, [⟨ch 98, 3⟩, ⟨ch 110, 1⟩, ⟨ch 115, 2⟩]⟩, ⟨ch 117, [⟨ch 110, 1⟩]⟩]
def lB : List Bi := [⟨ch 97, ⟨ch 117, 0, [⟨1, 3, nul⟩]⟩⟩]
theorem nilB_le : AVle (.d (.lit (.slice none 0 0))) (.d (.sl 4 64 (([] : List Bi).map encBi))) := AVle.nilSl 4 64
theorem same_eq {a b : ByteArray} (h : same a b = true) : a = b := by
  unfold same at h
  rw [ByteArray.toList_eq, ByteArray.toList_eq] at h
  have : a.data.toList = b.data.toList := by simpa using h
  obtain ⟨⟨x⟩⟩ := a
  obtain ⟨⟨y⟩⟩ := b
  simp at this
  rw [this]
theorem sameV_eq {a b : Vl} (h : sameV a b = true) : a = b := by
  unfold sameV at h
  simp only [Bool.and_eq_true, beq_iff_eq] at h
  obtain ⟨k, n, s⟩ := a
  obtain ⟨k2, n2, s2⟩ := b
  obtain ⟨h1, h2, h3⟩ := h
  have h3 := same_eq h3
  simp only at h1 h2 h3
  rw [h1, h2, h3]
theorem vi_eq {r : Vl × Int} {v : Vl} {c : Int} (h : (sameV r.1 v && r.2 == c) = true) : r = (v, c) := by
  obtain ⟨a, b⟩ := r
  simp only [Bool.and_eq_true, beq_iff_eq] at h
  rw [sameV_eq h.1, h.2]
theorem ek1 : evalX bS lB (twoX 5 (fldX (ch 97) (ch 110)) (litX 4)) = (⟨1, 12, nul⟩, 0) := vi_eq (by decide +kernel)
theorem ek2 : evalX bS [] (twoX 3 (litX 9223372036854775807) (litX 1)) = (nulV, 16) := vi_eq (by decide +kernel)
theorem ek3 : evalX bS lB (fldX (ch 122) (ch 110)) = (nulV, 13) := vi_eq (by decide +kernel)
theorem ek4 : holdsX bS [] zeroX = true := by decide +kernel
theorem ek5 : holdsX bS lB (twoX 8 (fldX (ch 97) (ch 110)) (litX 4)) = true := by decide +kernel
theorem ek6 : holdsX bS [] (litX 1) = false := by decide +kernel

/-! ### AND, OR -/
def loBad : Exp := twoX 6 (twoX 3 (litX 9223372036854775807) (litX 1)) (litX 0)
def loV : Nat → Exp
  | 0 => .mk 1 ⟨3, 0, nul⟩ nul nul []
  | 1 => .mk 1 ⟨3, 1, nul⟩ nul nul []
  | _ => loBad
def loCs : List D := encX (loV 0) ++ (encX (loV 1) ++ encX (loV 2))
def loO (b : Bool) : Int := bif b then 11 else 10
def loS (b : Bool) : Int := bif b then 1 else 0
def loE (b : Bool) (i j : Nat) : Bool := bif ((i : Int) == 2) then true else bif ((i : Int) == loS b) then false else ((j : Int) == 2)
def loW (b : Bool) (i j : Nat) : Int := bif ((i : Int) == 2) then (j : Int) else bif ((i : Int) == loS b) then (i : Int) else (j : Int)
def loT (b : Bool) (i j : Nat) (r : Vl × Int) (hb : Bool) : Bool := bif loE b i j then (r.2 == 16) && !hb else (r.2 == 0) && ((r.1.n == loW b i j) && (hb == (loW b i j == 1)))
theorem lo_all : ((List.range 3).all fun i => (List.range 3).all fun j => [true, false].all fun b => loT b i j (evalX bS [] (twoX (loO b) (loV i) (loV j))) (holdsX bS [] (twoX (loO b) (loV i) (loV j)))) = true := by decide +kernel
theorem lo_facts {b : Bool} {i j : Nat} (hi : i < 3) (hj : j < 3) : loT b i j (evalX bS [] (twoX (loO b) (loV i) (loV j))) (holdsX bS [] (twoX (loO b) (loV i) (loV j))) = true := by
  have h1 := List.all_eq_true.1 lo_all i (by simpa using hi)
  have h2 := List.all_eq_true.1 h1 j (by simpa using hj)
  exact List.all_eq_true.1 h2 b (by cases b <;> simp)
theorem lo_load {i : Nat} (hi : i < 3) : ofCells true 7 ((loCs.map .d).drop (i * 7)) = some (argX (loV i)) := by
  match i, hi with
  | 0, _ => rfl
  | 1, _ => rfl
  | 2, _ => rfl
theorem lo_kf (x y : Exp) (c : Int) : kfs [.d (int c), argX x, argX y] = true := by simp [kfs, kf, argX_kf]
end Go.AL
