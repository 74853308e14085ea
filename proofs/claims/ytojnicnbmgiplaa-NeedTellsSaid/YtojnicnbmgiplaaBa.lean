/- Parts of an abstract logic over the kit's walks, and walks in it: Sch, Sch2, Val, Ex, Pat, Ev, Eva, X6m, E11. -/
import Derived.Test.YtojnicnbmgiplaaAd
import Derived.Test.YtojnicnbmgiplaaAe
/- Schemas as plain data, and what the functions on them compute. Nothing of a program. -/
namespace Go.AL
set_option linter.unusedVariables false

def same (a b : ByteArray) : Bool := a.toList == b.toList
def int (n : Int) : D := .lit (.int .i64 n)
def str (s : ByteArray) : D := .lit (.string s)
def boo (b : Bool) : D := .lit (.bool b)

/-- The first place at which p holds; -1. -/
def idx {α : Type} (p : α → Bool) (l : List α) : Int := match l.findIdx? p with | some i => i | none => -1
theorem idx_some {α : Type} {p : α → Bool} {l : List α} {i : Nat} {a : α} (ha : l[i]? = some a) (hp : p a = true) (hn : ∀ j b, j < i → l[j]? = some b → p b = false) : idx p l = i := by
  have : l.findIdx? p = some i := by
    rw [List.findIdx?_eq_some_iff_getElem]
    obtain ⟨hlt, rfl⟩ := List.getElem?_eq_some_iff.1 ha
    exact ⟨hlt, hp, fun j hj => by simpa using hn j _ hj (List.getElem?_eq_getElem (by omega))⟩
  simp [idx, this]
theorem idx_none {α : Type} {p : α → Bool} {l : List α} (hn : ∀ j b, j < l.length → l[j]? = some b → p b = false) : idx p l = -1 := by
  have : l.findIdx? p = none := by
    rw [List.findIdx?_eq_none_iff]
    intro x hx
    obtain ⟨j, hj⟩ := List.getElem?_of_mem hx
    exact hn j x (List.getElem?_eq_some_iff.1 hj).1 hj
  simp [idx, this]
theorem idx_cases {α : Type} (p : α → Bool) (l : List α) : (∃ i a, idx p l = (i : Nat) ∧ l[i]? = some a ∧ p a = true ∧ ∀ j b, j < i → l[j]? = some b → p b = false) ∨ (idx p l = -1 ∧ ∀ a ∈ l, p a = false) := by
  unfold idx
  cases h : l.findIdx? p with
  | none =>
    right
    rw [List.findIdx?_eq_none_iff] at h
    exact ⟨rfl, h⟩
  | some i =>
    left
    rw [List.findIdx?_eq_some_iff_getElem] at h
    obtain ⟨hlt, hp, hn⟩ := h
    refine ⟨i, l[i], rfl, List.getElem?_eq_getElem hlt, hp, fun j b hj hb => ?_⟩
    obtain ⟨hl, rfl⟩ := List.getElem?_eq_some_iff.1 hb
    simpa using hn j hj

theorem kfs_d : ∀ xs : List D, kfs (xs.map .d) = true
  | [] => rfl
  | x :: xs => by simp [kfs, kf, kfs_d xs]
theorem kfs_append : ∀ {xs ys : List AV}, kfs xs = true → kfs ys = true → kfs (xs ++ ys) = true
  | [], ys, _, h => h
  | x :: xs, ys, h, h' => by
    simp [kfs] at h ⊢
    exact ⟨h.1, kfs_append h.2 h'⟩
theorem kfs_fn {first cap : List D} {mid : List AV} (h : kfs mid = true) : kfs (first.map .d ++ mid ++ cap.map .d) = true := kfs_append (kfs_append (kfs_d first) h) (kfs_d cap)

def encB (s : ByteArray) : List D := [str s]
theorem wrap_pred {i : Nat} (h : i ≤ 140737488355328) : IntKind.i64.wrap (((i + 1 : Nat) : Int) - 1) = ((i : Nat) : Int) := by
  rw [wrap_id]
  · omega
  · have : IntKind.i64.min = -9223372036854775808 := rfl
    omega
  · have : IntKind.i64.max = 9223372036854775807 := rfl
    omega
theorem take_snoc {α β : Type} {f : α → β} {l : List α} {i : Nat} {a : α} (h : l[i]? = some a) : (l.take (i + 1)).map f = (l.take i).map f ++ [f a] := by
  rw [List.take_add_one, h]; simp

structure Fld where
  name : ByteArray
  kind : Int
structure Ty where
  name : ByteArray
  fields : List Fld
def encF (f : Fld) : List D := [str f.name, int f.kind]
def encT (t : Ty) : List D := [str t.name, .sl 2 24 (t.fields.map encF)]
def encS (s : List Ty) : D := .sl 2 40 (s.map encT)
def argT (t : Ty) : AV := .agg ((encT t).map .d)
def argS (s : List Ty) : AV := .agg [.d (encS s)]
def zeroT : Ty := ⟨⟨#[]⟩, []⟩

def findT (s : List Ty) (nm : ByteArray) : Ty × Bool := match s.find? (fun t => same t.name nm) with | some t => (t, true) | none => (zeroT, false)
theorem find_neg {s : List Ty} {nm : ByteArray} (h : decide (idx (fun t => same t.name nm) s < 0) = true) : findT s nm = (zeroT, false) := by
  rcases idx_cases (fun t : Ty => same t.name nm) s with ⟨i, a, h1, _⟩ | ⟨_, h2⟩
  · rw [h1] at h; simp at h; omega
  · have : s.find? (fun t => same t.name nm) = none := by
      rw [List.find?_eq_none]
      intro x hx; simp [h2 x hx]
    simp [findT, this]
theorem find_pos {s : List Ty} {nm : ByteArray} (h : decide (idx (fun t => same t.name nm) s < 0) = false) : ∃ (i : Nat) (a : Ty), idx (fun t => same t.name nm) s = (i : Nat) ∧ s[i]? = some a ∧ findT s nm = (a, true) := by
  rcases idx_cases (fun t : Ty => same t.name nm) s with ⟨i, a, h1, h2, h3, h4⟩ | ⟨h1, _⟩
  · refine ⟨i, a, h1, h2, ?_⟩
    have : s.find? (fun t => same t.name nm) = some a := by
      rw [List.find?_eq_some_iff_getElem]
      obtain ⟨hlt, rfl⟩ := List.getElem?_eq_some_iff.1 h2
      exact ⟨h3, i, hlt, rfl, fun j hj => by simpa using h4 j _ hj (List.getElem?_eq_getElem (by omega))⟩
    simp [findT, this]
  · rw [h1] at h; simp at h
def fieldAt (t : Ty) (nm : ByteArray) : Int := idx (fun f => same f.name nm) t.fields
def sameF (a b : Fld) : Bool := same a.name b.name && a.kind == b.kind
def allSame {α : Type} (p : α → α → Bool) : List α → List α → Bool
  | [], [] => true
  | x :: xs, y :: ys => p x y && allSame p xs ys
  | _, _ => false
theorem allSame_len {α : Type} {p : α → α → Bool} : ∀ {l r : List α}, l.length ≠ r.length → allSame p l r = false
  | [], [], h => by simp at h
  | [], _ :: _, _ => rfl
  | _ :: _, [], _ => rfl
  | x :: l, y :: r, h => by
    simp only [allSame, allSame_len (l := l) (r := r) (by simpa using h), Bool.and_false]
theorem allSame_ne {α : Type} {p : α → α → Bool} : ∀ {l r : List α} {i : Nat} {a b : α}, l[i]? = some a → r[i]? = some b → p a b = false → allSame p l r = false
  | [], _, i, a, b, h, _, _ => by simp at h
  | _ :: _, [], i, a, b, _, h, _ => by simp at h
  | x :: l, y :: r, i, a, b, h1, h2, h3 => by
    cases i with
    | zero =>
      simp at h1 h2
      subst h1; subst h2
      simp [allSame, h3]
    | succ i =>
      simp only [allSame, allSame_ne (l := l) (r := r) (i := i) (by simpa using h1) (by simpa using h2) h3, Bool.and_false]
theorem allSame_all {α : Type} {p : α → α → Bool} : ∀ {l r : List α}, l.length = r.length → (∀ j a b, j < l.length → l[j]? = some a → r[j]? = some b → p a b = true) → allSame p l r = true
  | [], [], _, _ => rfl
  | [], _ :: _, h, _ => by simp at h
  | _ :: _, [], h, _ => by simp at h
  | x :: l, y :: r, h, hp => by
    simp only [allSame, Bool.and_eq_true]
    exact ⟨hp 0 x y (by simp) rfl rfl, allSame_all (by simpa using h) fun j a b hj ha hb => hp (j + 1) a b (by simpa using hj) (by simpa using ha) (by simpa using hb)⟩
def sameT (a b : Ty) : Bool := same a.name b.name && allSame sameF a.fields b.fields
def sameS (a b : List Ty) : Bool := allSame sameT a b
def small (c : UInt8) : Bool := !(decide (c.toNat < 97)) && !(decide (c.toNat > 122))
def isName (s : ByteArray) : Bool := s.data.toList.all small && s.data.toList != [] && decide (s.size ≤ 8)
theorem small_lo {c : UInt8} (h : decide ((c.toNat : Int) < 97) = true) : small c = false := by
  have : c.toNat < 97 := by simp at h; omega
  simp [small, this]
theorem small_hi {c : UInt8} (h : decide ((c.toNat : Int) > 122) = true) : small c = false := by
  have : 122 < c.toNat := by simp at h; omega
  simp [small, this]
theorem small_ok {c : UInt8} (h1 : decide ((c.toNat : Int) < 97) = false) (h2 : decide ((c.toNat : Int) > 122) = false) : small c = true := by
  simp at h1 h2
  simp [small]; omega
theorem all_small {s : ByteArray} {i : Nat} (hi : i ≤ s.size) (hge : ¬ i < s.size) (hp : ∀ j c, j < i → s.data.toList[j]? = some c → small c = true) : s.data.toList.all small = true := by
  rw [List.all_eq_true]
  intro c hc
  obtain ⟨j, hj⟩ := List.getElem?_of_mem hc
  have : j < s.size := by have := (List.getElem?_eq_some_iff.1 hj).1; simpa using this
  exact hp j c (by omega) hj
theorem isName_bad {s : ByteArray} {i : Nat} {c : UInt8} (h : s.data.toList[i]? = some c) (hb : small c = false) : isName s = false := by
  have : s.data.toList.all small = false := by
    rw [List.all_eq_false]
    exact ⟨c, List.mem_of_getElem? h, by simp [hb]⟩
  simp only [isName, this, Bool.false_and]
def rise : List ByteArray → Bool
  | x :: y :: l => Op.bytesLess x.toList y.toList && rise (y :: l)
  | _ => true
theorem rise_all : ∀ {l : List ByteArray}, (∀ j a b, j + 1 < l.length → l[j]? = some a → l[j + 1]? = some b → Op.bytesLess a.toList b.toList = true) → rise l = true
  | [], _ => rfl
  | [_], _ => rfl
  | x :: y :: l, h => by
    simp only [rise, Bool.and_eq_true]
    exact ⟨h 0 x y (by simp) rfl rfl, rise_all fun j a b hj ha hb => h (j + 1) a b (by simpa using hj) (by simpa using ha) (by simpa using hb)⟩
theorem rise_bad : ∀ {l : List ByteArray} {i : Nat} {a b : ByteArray}, l[i]? = some a → l[i + 1]? = some b → Op.bytesLess a.toList b.toList = false → rise l = false
  | [], i, a, b, h, _, _ => by simp at h
  | [_], i, a, b, _, h, _ => by simp at h
  | x :: y :: l, 0, a, b, h1, h2, h3 => by
    simp at h1 h2; subst h1; subst h2
    simp only [rise, h3, Bool.false_and]
  | x :: y :: l, i + 1, a, b, h1, h2, h3 => by
    simp only [rise, rise_bad (l := y :: l) (i := i) (by simpa using h1) (by simpa using h2) h3, Bool.and_false]
def okF (t : Ty) (i : Nat) (f : Fld) : Bool := isName f.name && decide (1 ≤ f.kind) && decide (f.kind ≤ 3) && fieldAt t f.name == (i : Int)
def okFs (t : Ty) : Bool := (List.range t.fields.length).all fun i => match t.fields[i]? with
  | some f => okF t i f
  | none => false
def isType (t : Ty) : Bool := isName t.name && decide (t.fields.length ≤ 5) && okFs t
theorem okFs_bad {t : Ty} {i : Nat} {f : Fld} (h : t.fields[i]? = some f) (hb : okF t i f = false) : isType t = false := by
  have : okFs t = false := by
    unfold okFs
    rw [List.all_eq_false]
    exact ⟨i, by simpa using (List.getElem?_eq_some_iff.1 h).1, by simp [h, hb]⟩
  simp only [isType, this, Bool.and_false]
theorem okFs_all {t : Ty} (h : ∀ i f, i < t.fields.length → t.fields[i]? = some f → okF t i f = true) : okFs t = true := by
  unfold okFs
  rw [List.all_eq_true]
  intro i hi
  have hi : i < t.fields.length := by simpa using hi
  rw [List.getElem?_eq_getElem hi]
  exact h i _ hi (List.getElem?_eq_getElem hi)
theorem isSchema_bad {s : List Ty} {i : Nat} {t : Ty} (h : s[i]? = some t) (hb : isType t = false) : (s.all isType && decide (s.length ≤ 5) && rise (s.map (·.name))) = false := by
  have : s.all isType = false := by
    rw [List.all_eq_false]
    exact ⟨t, List.mem_of_getElem? h, by simp [hb]⟩
  simp [this]
theorem all_of {α : Type} {p : α → Bool} {l : List α} (h : ∀ j a, j < l.length → l[j]? = some a → p a = true) : l.all p = true := by
  rw [List.all_eq_true]
  intro x hx
  obtain ⟨j, hj⟩ := List.getElem?_of_mem hx
  exact h j x (List.getElem?_eq_some_iff.1 hj).1 hj
def isSchema (s : List Ty) : Bool := s.all isType && decide (s.length ≤ 5) && rise (s.map (·.name))
end Go.AL
/- Plain laws on schemas. -/
namespace Go.AL
set_option linter.unusedVariables false

theorem less_irrefl : ∀ l : List UInt8, Op.bytesLess l l = false
  | [] => rfl
  | a :: l => by simp [Op.bytesLess, less_irrefl l]
theorem less_trans : ∀ {x y z : List UInt8}, Op.bytesLess x y = true → Op.bytesLess y z = true → Op.bytesLess x z = true
  | _, [], _, h, _ => by simp [Op.bytesLess] at h
  | _, _ :: _, [], _, h => by simp [Op.bytesLess] at h
  | [], b :: y, c :: z, _, _ => rfl
  | a :: x, b :: y, c :: z, h1, h2 => by
    simp only [Op.bytesLess, Bool.or_eq_true, decide_eq_true_eq, Bool.and_eq_true, beq_iff_eq] at h1 h2 ⊢
    rcases h1 with h1 | ⟨rfl, h1⟩
    · rcases h2 with h2 | ⟨rfl, h2⟩
      · exact .inl (UInt8.lt_trans h1 h2)
      · exact .inl h1
    · rcases h2 with h2 | ⟨rfl, h2⟩
      · exact .inl h2
      · exact .inr ⟨rfl, less_trans h1 h2⟩
theorem same_refl (a : ByteArray) : same a a = true := by simp [same]
/-! what 'known' asks -/
def kA : ByteArray := ⟨#[97]⟩
def kB : ByteArray := ⟨#[98]⟩
def kC : ByteArray := ⟨#[99]⟩
def kX : ByteArray := ⟨#[120]⟩
def kY : ByteArray := ⟨#[121]⟩
def kAA : ByteArray := ⟨#[65]⟩
def kT : Ty := ⟨kA, [⟨kX, 1⟩]⟩
def kS : List Ty := [kT, ⟨kB, []⟩]
theorem k1 : findT kS kA = (kT, true) := by simp [findT, kS, kT, same]
theorem k2 : findT kS kC = (zeroT, false) := by simp [findT, kS, kT, same, kA, kB, kC, ByteArray.toList_eq]
theorem k3 : isSchema kS = true := by decide +kernel
theorem k4 : isSchema [⟨kAA, []⟩] = false := by decide +kernel
theorem k5 : sameS kS kS = true := by decide +kernel
theorem k6 : sameS kS [] = false := by decide +kernel
end Go.AL
/- Values and rows of texts as plain data. Nothing of a program. -/
namespace Go.AL
set_option linter.unusedVariables false
set_option linter.unusedSimpArgs false

structure Vl where
  k : Int
  n : Int
  s : ByteArray
def encV (v : Vl) : List D := [int v.k, int v.n, str v.s]
def argV (v : Vl) : AV := .agg ((encV v).map .d)
def nul : ByteArray := ⟨#[]⟩
def zeroV (k : Int) : Vl := bif decide (k < 1) || decide (k > 3) then ⟨0, 0, nul⟩ else ⟨k, 0, nul⟩
theorem zeroV_lo {k : Int} (h : decide (k < 1) = true) : zeroV k = ⟨0, 0, nul⟩ := by unfold zeroV; rw [h]; rfl
theorem zeroV_hi {k : Int} (h1 : decide (k < 1) = false) (h : decide (k > 3) = true) : zeroV k = ⟨0, 0, nul⟩ := by unfold zeroV; rw [h1, h]; rfl
theorem zeroV_in {k : Int} (h1 : decide (k < 1) = false) (h : decide (k > 3) = false) : zeroV k = ⟨k, 0, nul⟩ := by unfold zeroV; rw [h1, h]; rfl
def shownC (c : UInt8) : Bool := !(decide (c.toNat < 32)) && !(decide (c.toNat > 126))
def isText (s : ByteArray) : Bool := s.data.toList.all shownC && decide (s.size ≤ 16)
def isVal (v : Vl) : Bool :=
  bif v.k == 1 then same v.s nul else bif v.k == 2 then (v.n == 0) && isText v.s else bif v.k == 3 then ((v.n == 0) || (v.n == 1)) && same v.s nul else false
def sameV (a b : Vl) : Bool := a.k == b.k && (a.n == b.n && same a.s b.s)

theorem shown_lo {c : UInt8} (h : decide ((c.toNat : Int) < 32) = true) : shownC c = false := by
  have : c.toNat < 32 := by simp at h; omega
  simp [shownC, this]
theorem shown_hi {c : UInt8} (h : decide ((c.toNat : Int) > 126) = true) : shownC c = false := by
  have : 126 < c.toNat := by simp at h; omega
  simp [shownC, this]
theorem shown_ok {c : UInt8} (h1 : decide ((c.toNat : Int) < 32) = false) (h2 : decide ((c.toNat : Int) > 126) = false) : shownC c = true := by
  simp at h1 h2
  simp [shownC]; omega
theorem allShown {s : ByteArray} {i : Nat} (hi : i ≤ s.size) (hge : ¬ i < s.size) (hp : ∀ j c, j < i → s.data.toList[j]? = some c → shownC c = true) : s.data.toList.all shownC = true := by
  rw [List.all_eq_true]
  intro c hc
  obtain ⟨j, hj⟩ := List.getElem?_of_mem hc
  have : j < s.size := by have := (List.getElem?_eq_some_iff.1 hj).1; simpa using this
  exact hp j c (by omega) hj
theorem isText_bad {s : ByteArray} {i : Nat} {c : UInt8} (h : s.data.toList[i]? = some c) (hb : shownC c = false) : isText s = false := by
  have : s.data.toList.all shownC = false := by
    rw [List.all_eq_false]
    exact ⟨c, List.mem_of_getElem? h, by simp [hb]⟩
  simp only [isText, this, Bool.false_and]
theorem text_end {s : ByteArray} (hall : s.data.toList.all shownC = true) : isText s = decide ((s.size : Int) ≤ 16) := by
  have : decide ((s.size : Int) ≤ 16) = decide (s.size ≤ 16) := by simp; omega
  rw [this]
  simp only [isText, hall, Bool.true_and]

theorem name_end2 {s : ByteArray} (hall : s.data.toList.all small = true) : isName s = (decide ((s.size : Int) ≥ 1) && decide ((s.size : Int) ≤ 8)) := by
  have h1 : decide ((s.size : Int) ≤ 8) = decide (s.size ≤ 8) := by simp; omega
  have h2 : decide ((s.size : Int) ≥ 1) = (s.data.toList != []) := by
    have hl : s.data.toList.length = s.size := by simp
    cases h : s.data.toList with
    | nil => rw [h] at hl; simp at hl; simp [← hl]
    | cons a l =>
      rw [h] at hl; simp at hl
      have h3 : (1 : Int) ≤ s.size := by omega
      simp [h3]
  rw [h1, h2]
  simp only [isName, hall, Bool.true_and]

/-! ### Rows that rise -/
def less (a b : ByteArray) : Bool := Op.bytesLess a.toList b.toList
theorem less_self (a : ByteArray) : less a a = false := less_irrefl _
theorem less_asymm {a b : ByteArray} (h : less a b = true) : less b a = false := by
  cases h2 : less b a with
  | false => rfl
  | true => have := less_trans h h2; rw [less_irrefl] at this; cases this
theorem lessL_total : ∀ {x y : List UInt8}, Op.bytesLess x y = false → Op.bytesLess y x = false → x = y
  | [], [], _, _ => rfl
  | [], _ :: _, h, _ => by simp [Op.bytesLess] at h
  | _ :: _, [], _, h => by simp [Op.bytesLess] at h
  | a :: x, b :: y, h1, h2 => by
    simp only [Op.bytesLess, Bool.or_eq_false_iff, decide_eq_false_iff_not, Bool.and_eq_false_iff, beq_eq_false_iff_ne] at h1 h2
    have hab : a = b := by
      have := h1.1; have := h2.1
      exact UInt8.le_antisymm (UInt8.not_lt.1 h2.1) (UInt8.not_lt.1 h1.1)
    subst hab
    have e1 : Op.bytesLess x y = false := by rcases h1.2 with h | h; exact absurd rfl h; exact h
    have e2 : Op.bytesLess y x = false := by rcases h2.2 with h | h; exact absurd rfl h; exact h
    rw [lessL_total e1 e2]
theorem less_total {a b : ByteArray} (h1 : same a b = false) (h2 : less a b = false) : less b a = true := by
  cases h3 : less b a with
  | true => rfl
  | false => have := lessL_total h2 h3; simp [same, this] at h1
theorem same_rfl (a : ByteArray) : same a a = true := same_refl a
/-- Where a text belongs, and whether it is there. -/
def posT (s : ByteArray) (l : List ByteArray) : Nat := l.findIdx fun a => !less a s
def there (s : ByteArray) (l : List ByteArray) : Bool := match l[posT s l]? with
  | some a => same a s
  | none => false
theorem w1 : isVal ⟨1, -5, nul⟩ = true := by simp [isVal, same]
theorem w2 : isVal ⟨0, 0, nul⟩ = false := by simp [isVal, same]
theorem w3 : isVal ⟨3, 2, nul⟩ = false := by simp [isVal, same]
theorem sameV_rfl (v : Vl) : sameV v v = true := by simp [sameV, same_rfl]
/-! ### Rows of bytes -/
end Go.AL
/- Conditions (trees) as plain data. Nothing of a program. -/
namespace Go.AL
set_option linter.unusedVariables false
set_option linter.unusedSimpArgs false

inductive Exp where
  | mk (op : Int) (val : Vl) (al fi : ByteArray) (kids : List Exp)
mutual
def encX : Exp → List D
  | .mk op v al fi ks => [int op, int v.k, int v.n, str v.s, str al, str fi, .sl 7 96 (encXs ks)]
def encXs : List Exp → List (List D)
  | [] => []
  | k :: ks => encX k :: encXs ks
end
theorem encXs_eq : ∀ ks : List Exp, encXs ks = ks.map encX
  | [] => by simp [encXs]
  | k :: ks => by simp [encXs, encXs_eq ks]
theorem encXs_length (ks : List Exp) : (encXs ks).length = ks.length := by simp [encXs_eq]
theorem encXs_get {ks : List Exp} {i : Nat} {k : Exp} (h : ks[i]? = some k) : (encXs ks)[i]? = some (encX k) := by simp [encXs_eq, h]
def argX (x : Exp) : AV := .agg ((encX x).map .d)
def Exp.op : Exp → Int | .mk op _ _ _ _ => op
def Exp.kids : Exp → List Exp | .mk _ _ _ _ ks => ks
def zeroX : Exp := .mk 0 ⟨0, 0, nul⟩ nul nul []

theorem Exp.shape (x : Exp) : ∃ o v a f k, x = .mk o v a f k := by cases x; exact ⟨_, _, _, _, _, rfl⟩
/-! ### How deep -/
mutual
def depthX : Exp → Nat → Int
  | .mk op _ _ _ ks, a => bif op == 0 || decide ((a : Int) > 20) then 0 else depthXs ks (a + 1) 0 + 1
def depthXs : List Exp → Nat → Int → Int
  | [], _, n => n
  | k :: ks, a, n => depthXs ks a (max n (depthX k a))
end

/-! ### All nodes -/
mutual
def nodesX : Exp → Nat → List Exp
  | .mk op v al fi ks, a => bif op == 0 || decide ((a : Int) > 20) then [] else .mk op v al fi ks :: nodesXs ks (a + 1)
def nodesXs : List Exp → Nat → List Exp
  | [], _ => []
  | k :: ks, a => nodesX k a ++ nodesXs ks a
end
theorem nodesXs_snoc : ∀ {ks : List Exp} {i : Nat} {k : Exp} (a : Nat), ks[i]? = some k → nodesXs (ks.take (i + 1)) a = nodesXs (ks.take i) a ++ nodesX k a
  | [], i, k, a, h => by simp at h
  | x :: ks, 0, k, a, h => by simp at h; subst h; simp [nodesXs]
  | x :: ks, i + 1, k, a, h => by
    simp only [List.take_succ_cons, nodesXs, List.append_assoc]
    rw [nodesXs_snoc a (by simpa using h)]
theorem nodesXs_split : ∀ (ks : List Exp) (i : Nat) (a : Nat), nodesXs ks a = nodesXs (ks.take i) a ++ nodesXs (ks.drop i) a
  | [], i, a => by simp [nodesXs]
  | x :: ks, 0, a => by simp [nodesXs]
  | x :: ks, i + 1, a => by
    simp only [List.take_succ_cons, List.drop_succ_cons, nodesXs, List.append_assoc]
    rw [nodesXs_split ks i a]
def ysX (l : List Exp) : List (List AV) := l.map fun y => [argX y]
theorem ysX_length (l : List Exp) : (ysX l).length = l.length := by simp [ysX]
theorem ysX_get {l : List Exp} {i : Nat} {y : Exp} (h : l[i]? = some y) : (ysX l)[i]? = some [argX y] := by simp [ysX, h]
theorem ysX_of {l : List Exp} {i : Nat} {args : List AV} (h : (ysX l)[i]? = some args) : ∃ y, l[i]? = some y ∧ args = [argX y] := by
  simp only [ysX, List.getElem?_map, Option.map_eq_some_iff] at h
  obtain ⟨y, hy, rfl⟩ := h
  exact ⟨y, hy, rfl⟩
theorem argX_kf (x : Exp) : kf (argX x) = true := by simp [argX, kf, kfs_d]
theorem ysX_kf (l : List Exp) : ∀ y ∈ ysX l, kfs y = true ∧ y.length = 1 := by
  intro y hy
  simp only [ysX, List.mem_map] at hy
  obtain ⟨x, _, rfl⟩ := hy
  exact ⟨by simp [kfs, argX_kf], rfl⟩
/-- A node of a kid, in the whole row. -/
theorem node_at {op : Int} {v : Vl} {al fi : ByteArray} {ks : List Exp} {a i j : Nat} {k y : Exp} (h : (op == 0 || decide ((a : Int) > 20)) = false) (hk : ks[i]? = some k) (hy : (nodesX k (a + 1))[j]? = some y) :
    (nodesX (.mk op v al fi ks) a)[1 + (nodesXs (ks.take i) (a + 1)).length + j]? = some y := by
  unfold nodesX
  rw [h]
  simp only [cond_false]
  rw [show 1 + (nodesXs (ks.take i) (a + 1)).length + j = ((nodesXs (ks.take i) (a + 1)).length + j) + 1 by omega, List.getElem?_cons_succ, nodesXs_split ks (i + 1), nodesXs_snoc _ hk, List.append_assoc]
  rw [List.getElem?_append_right (by omega), Nat.add_sub_cancel_left, List.getElem?_append_left (List.getElem?_eq_some_iff.1 hy).1]
  exact hy

theorem nodesX_no {op : Int} {v : Vl} {al fi : ByteArray} {ks : List Exp} {a : Nat} (h : (op == 0 || decide ((a : Int) > 20)) = true) : nodesX (.mk op v al fi ks) a = [] := by unfold nodesX; rw [h]; rfl
theorem nodesX_len {op : Int} {v : Vl} {al fi : ByteArray} {ks : List Exp} {a : Nat} (h : (op == 0 || decide ((a : Int) > 20)) = false) : (nodesX (.mk op v al fi ks) a).length = 1 + (nodesXs ks (a + 1)).length := by unfold nodesX; rw [h]; simp; omega
theorem node0 {op : Int} {v : Vl} {al fi : ByteArray} {ks : List Exp} {a : Nat} (h : (op == 0 || decide ((a : Int) > 20)) = false) : (nodesX (.mk op v al fi ks) a)[0]? = some (.mk op v al fi ks) := by unfold nodesX; rw [h]; rfl

/-! ### The same, a node, a condition -/
mutual
def sameX : Exp → Exp → Bool
  | .mk o1 v1 a1 f1 k1, .mk o2 v2 a2 f2 k2 => (o1 == o2) && (sameV v1 v2 && (same a1 a2 && (same f1 f2 && sameXs k1 k2)))
def sameXs : List Exp → List Exp → Bool
  | [], [] => true
  | x :: xs, y :: ys => sameX x y && sameXs xs ys
  | _, _ => false
end
theorem sameXs_eq : ∀ (l r : List Exp), sameXs l r = allSame sameX l r
  | [], [] => by simp [sameXs, allSame]
  | [], _ :: _ => by simp [sameXs, allSame]
  | _ :: _, [] => by simp [sameXs, allSame]
  | x :: l, y :: r => by simp [sameXs, allSame, sameXs_eq l r]
def kidsN (op : Int) : Int := bif op == 12 then 1 else bif decide (op ≥ 3) && decide (op ≤ 11) then 2 else 0
def isNodeX : Exp → Bool
  | .mk op v al fi ks =>
    bif (decide (op < 1) || decide (op > 12)) || (((ks.length : Int) != kidsN op)) then false
    else bif ks.any (fun k => k.op == 0) then false
    else bif op == 1 then isVal v && !(!(same al nul) || !(same fi nul))
    else bif op == 2 then !(!(sameV v ⟨0, 0, nul⟩)) && (isName al && isName fi)
    else !(!(sameV v ⟨0, 0, nul⟩)) && !(!(same al nul) || !(same fi nul))
def isX (x : Exp) : Bool := decide (depthX x 1 ≤ 5) && (decide ((nodesX x 1).length ≤ 24) && ((nodesX x 1).all isNodeX && decide (0 < (nodesX x 1).length)))
end Go.AL
/- Patterns as plain data. Nothing of a program. -/
namespace Go.AL
set_option linter.unusedVariables false
set_option linter.unusedSimpArgs false

structure El where
  al : ByteArray
  tys : List ByteArray
  plus : Bool
  neg : Bool
  cond : Exp
def encL (e : El) : List D := str e.al :: .sl 1 16 (e.tys.map encB) :: boo e.plus :: boo e.neg :: encX e.cond
def argL (e : El) : AV := .agg ((encL e).map .d)
structure Pat where
  els : List El
  within : Int
  byf : ByteArray
  any : Bool
def encP (p : Pat) : List D := [.sl 11 144 (p.els.map encL), int p.within, str p.byf, boo p.any]
def argP (p : Pat) : AV := .agg ((encP p).map .d)
theorem El.shape (e : El) : ∃ al tys p n o v a f k, e = ⟨al, tys, p, n, .mk o v a f k⟩ := by
  obtain ⟨al, tys, p, n, c⟩ := e
  cases c
  exact ⟨_, _, _, _, _, _, _, _, _, rfl⟩
def headL (e : El) : Bool := isName e.al && (!(decide ((e.tys.length : Int) < 1)) && (!(decide ((e.tys.length : Int) > 3)) && (rise e.tys && !(e.plus && e.neg))))
def isElemX (e : El) : Bool := headL e && (e.tys.all isName && (sameX e.cond zeroX || isX e.cond))
def negAt (p : Pat) (i : Nat) : Bool := match p.els[i]? with
  | some e => e.neg
  | none => false
def headP (p : Pat) : Bool := !(decide ((p.els.length : Int) < 1)) && (!(decide ((p.els.length : Int) > 5)) && (!(negAt p 0) && (!(negAt p (p.els.length - 1)) && (!(decide (p.within < 0)) && (!(decide (p.within > 1000)) && !(!(same p.byf nul) && !(isName p.byf)))))))
def elOk (p : Pat) (i : Nat) (e : El) : Bool := isElemX e && (!((p.els.take i).any fun x => same x.al e.al) && !(e.neg && negAt p (i - 1)))
def elsOk (p : Pat) : Bool := (List.range p.els.length).all fun i => match p.els[i]? with
  | some e => elOk p i e
  | none => false
def isPat (p : Pat) : Bool := headP p && elsOk p
theorem elsOk_bad {p : Pat} {i : Nat} {e : El} (h : p.els[i]? = some e) (hb : elOk p i e = false) : elsOk p = false := by
  unfold elsOk
  rw [List.all_eq_false]
  exact ⟨i, by simpa using (List.getElem?_eq_some_iff.1 h).1, by simp [h, hb]⟩
theorem elsOk_all {p : Pat} (h : ∀ i e, i < p.els.length → p.els[i]? = some e → elOk p i e = true) : elsOk p = true := by
  unfold elsOk
  rw [List.all_eq_true]
  intro i hi
  have hi : i < p.els.length := by simpa using hi
  rw [List.getElem?_eq_getElem hi]
  exact h i _ hi (List.getElem?_eq_getElem hi)
theorem isPat_bad {p : Pat} {i : Nat} {e : El} (hh : headP p = true) (h : p.els[i]? = some e) (hb : elOk p i e = false) : isPat p = false := by
  unfold isPat; rw [hh, elsOk_bad h hb]; rfl
theorem negAt_of {p : Pat} {i : Nat} {e : El} (h : p.els[i]? = some e) : negAt p i = e.neg := by unfold negAt; rw [h]
theorem headP_first {p : Pat} (h : headP p = true) : negAt p 0 = false := by
  unfold headP at h
  simp only [Bool.and_eq_true, Bool.not_eq_true'] at h
  exact h.2.2.1
def nilX : AV := .agg [.d (int 0), .d (int 0), .d (int 0), .d (str nul), .d (str nul), .d (str nul), .d (.lit (.slice none 0 0))]
theorem nilX_le : AVle nilX (argX zeroX) := AVle.agg (.cons (.refl _) (.cons (.refl _) (.cons (.refl _) (.cons (.refl _) (.cons (.refl _) (.cons (.refl _) (.cons (.nilSl 7 96) .nil)))))))
/-! what 'known' asks -/
def x6a : Exp := .mk 2 ⟨0, 0, nul⟩ kA kX []
def x6b : Exp := .mk 1 ⟨1, 3, nul⟩ nul nul []
def x6e : Exp := .mk 8 ⟨0, 0, nul⟩ nul nul [x6a, x6b]
theorem z1 : kidsN 12 = 1 := rfl
theorem z2 : kidsN 11 = 2 := rfl
theorem z3 : kidsN 1 = 0 := rfl
theorem z4 : isX x6e = true := by decide +kernel
theorem z5 : isX zeroX = false := by decide +kernel
theorem z6 : depthX x6e 1 = 2 := by decide +kernel
theorem z9 : sameX x6e x6b = false := by decide +kernel
end Go.AL
/- Events as plain data. Nothing of a program. -/
namespace Go.AL
set_option linter.unusedVariables false
set_option linter.unusedSimpArgs false

structure Ev where
  ty : ByteArray
  ts : Int
  vals : List Vl
def encE (e : Ev) : List D := [str e.ty, int e.ts, .sl 3 32 (e.vals.map encV)]
def argE (e : Ev) : AV := .agg ((encE e).map .d)
def errN (t : TypeId) (c : Int) : D := .iface t (int c)
def nilE : D := .lit .nilIface
def sameEv (a b : Ev) : Bool := same a.ty b.ty && ((a.ts == b.ts) && allSame sameV a.vals b.vals)
def kk : List Vl → List Fld → Bool
  | v :: vs, f :: fs => (v.k == f.kind) && kk vs fs
  | _, _ => true
/-- What is wrong with an event; t: the errors' type. -/
def evForm (t : Ty) (e : Ev) : Bool := !(decide (e.ts < 0)) && !(decide (e.ts > 1073741824)) && (e.vals.length == t.fields.length) && e.vals.all isVal
def evErr (T : TypeId) (s : List Ty) (e : Ev) : D :=
  bif !(findT s e.ty).2 then errN T 13 else bif !(evForm (findT s e.ty).1 e) then errN T 10 else bif kk e.vals (findT s e.ty).1.fields then nilE else errN T 14
theorem evErr_ok {T : TypeId} {s : List Ty} {e : Ev} (h : (findT s e.ty).2 = true) (hf : evForm (findT s e.ty).1 e = true) (hk : kk e.vals (findT s e.ty).1.fields = true) : evErr T s e = nilE := by simp [evErr, h, hf, hk]
def getV (s : List Ty) (e : Ev) (nm : ByteArray) : Vl × Bool :=
  bif !(findT s e.ty).2 || (decide (fieldAt (findT s e.ty).1 nm < 0) || decide (fieldAt (findT s e.ty).1 nm ≥ (e.vals.length : Int))) then (⟨0, 0, nul⟩, false) else (e.vals.getD (fieldAt (findT s e.ty).1 nm).toNat ⟨0, 0, nul⟩, true)
theorem getV_no {s : List Ty} {e : Ev} {nm : ByteArray} (h : (!(findT s e.ty).2 || (decide (fieldAt (findT s e.ty).1 nm < 0) || decide (fieldAt (findT s e.ty).1 nm ≥ (e.vals.length : Int)))) = true) : getV s e nm = (⟨0, 0, nul⟩, false) := by unfold getV; rw [h]; rfl
theorem getV_ok {s : List Ty} {e : Ev} {nm : ByteArray} {i : Nat} {v : Vl} (h1 : (findT s e.ty).2 = true) (hi : fieldAt (findT s e.ty).1 nm = (i : Int)) (hv : e.vals[i]? = some v) : getV s e nm = (v, true) := by
  have hlt := (List.getElem?_eq_some_iff.1 hv).1
  unfold getV
  rw [h1, hi]
  have e1 : decide ((i : Int) < 0) = false := by simp
  have e2 : decide ((i : Int) ≥ (e.vals.length : Int)) = false := by simp; omega
  rw [e1, e2]
  simp [List.getD, hv]
theorem allSame_refl : ∀ l : List Vl, allSame sameV l l = true
  | [] => rfl
  | x :: l => by simp [allSame, sameV_rfl, allSame_refl l]
theorem sameEv_refl (e : Ev) : sameEv e e = true := by simp [sameEv, same_rfl, allSame_refl]
/-! ### Events of given kinds -/
theorem wrapN {n : Nat} (h : n ≤ 140737488355328) : IntKind.i64.wrap (n : Int) = (n : Int) :=
  wrap_id _ _ (by have : IntKind.i64.min = -9223372036854775808 := rfl; omega) (by have : IntKind.i64.max = 9223372036854775807 := rfl; omega)
def kt : ByteArray := ⟨#[116]⟩
def fldK (j : Nat) (u : UInt8) : Fld := ⟨⟨#[UInt8.ofNat (97 + j)]⟩, ((u.toNat % 3 + 1 : Nat) : Int)⟩
def fsK (l : List UInt8) : List Fld := l.zipIdx.map fun p => fldK p.2 p.1
def wantD (T : TypeId) (w : Int) : D := bif w == 0 then nilE else errN T w
/-- What is told of an event at each point. -/
def K0 (l : List UInt8) (p : List Vl × Int) : Prop := p.1.all isVal = true ∧ p.1.length = l.length ∧ ((p.2 = 0 ∧ kk p.1 (fsK l) = true) ∨ (p.2 = 14 ∧ kk p.1 (fsK l) = false))
def K1 (l : List UInt8) (p : List Vl × Int) : Prop := p.1.all isVal = true ∧ p.1.length ≤ l.length + 1 ∧ ((p.2 = 0 ∧ p.1.length = l.length ∧ kk p.1 (fsK l) = true) ∨ (p.2 = 14 ∧ p.1.length = l.length ∧ kk p.1 (fsK l) = false) ∨ (p.2 = 10 ∧ p.1.length ≠ l.length))
def K3 (T : TypeId) (l : List UInt8) (ts : Int) (p : List Vl × Int) : Prop := evErr T [⟨kt, fsK l⟩] ⟨kt, ts, p.1⟩ = wantD T p.2 ∧ p.1.length ≤ l.length + 1 ∧ (p.2 = 0 ∨ p.2 = 10 ∨ p.2 = 14)
/-! what 'known' asks -/
def kS3 : List Ty := [⟨kA, [⟨kX, 1⟩]⟩]
def kE3 : Ev := ⟨kA, 3, [⟨1, 7, nul⟩]⟩
theorem x1 : getV kS3 kE3 kX = (⟨1, 7, nul⟩, true) := by
  refine getV_ok (i := 0) ?_ ?_ rfl <;> decide +kernel
theorem x2 : getV kS3 kE3 kY = (⟨0, 0, nul⟩, false) := getV_no (by decide +kernel)
theorem x3 (T : TypeId) : evErr T kS3 kE3 = nilE := evErr_ok (by decide +kernel) (by decide +kernel) (by decide +kernel)
end Go.AL
/- What conditions tell, as plain data. Nothing of a program. -/
namespace Go.AL
set_option linter.unusedVariables false
set_option linter.unusedSimpArgs false

structure Bi where
  al : ByteArray
  ev : Ev
theorem Bi.shape (b : Bi) : ∃ al ty ts vals, b = ⟨al, ⟨ty, ts, vals⟩⟩ := by obtain ⟨al, ⟨ty, ts, vals⟩⟩ := b; exact ⟨_, _, _, _, rfl⟩
def nulV : Vl := ⟨0, 0, nul⟩
def truthV (b : Bool) : Vl := ⟨3, bif b then 1 else 0, nul⟩
def wr (n : Int) : Int := IntKind.i64.wrap n
def minI : Int := -9223372036854775808
def lastB (l : List Bi) (al : ByteArray) : Option Bi := l.reverse.find? fun b => same b.al al
def fieldV (s : List Ty) (l : List Bi) (al fi : ByteArray) : Vl × Int := match lastB l al with
  | some b => bif (getV s b.ev fi).2 then ((getV s b.ev fi).1, 0) else (nulV, 13)
  | none => (nulV, 13)
/-! ### All nodes are right -/
/-! ### Backward through the binds -/
theorem fieldV_ok {s : List Ty} {l : List Bi} {al fi : ByteArray} {b : Bi} (h : lastB l al = some b) (hg : (getV s b.ev fi).2 = true) : fieldV s l al fi = ((getV s b.ev fi).1, 0) := by unfold fieldV; rw [h]; simp [hg]
theorem fieldV_none {s : List Ty} {l : List Bi} {al fi : ByteArray} (h : lastB l al = none) : fieldV s l al fi = (nulV, 13) := by unfold fieldV; rw [h]

/-! ### Kids -/
end Go.AL
/- What law 6's own functions build. Nothing of a program. -/
namespace Go.AL
set_option linter.unusedVariables false
set_option linter.unusedSimpArgs false

/-! ### As deep as may be -/
def litX (c : Int) : Exp := .mk 1 ⟨1, c, nul⟩ nul nul []
/-! ### As many parts as may be -/
/-! ### What a pattern may not be -/
/-! ### As many elements as may be -/
end Go.AL
/- What law 11's own functions build, and what is told of it. Nothing of a program. -/
namespace Go.AL
set_option linter.unusedVariables false
set_option linter.unusedSimpArgs false

def ch (c : UInt8) : ByteArray := ⟨#[c]⟩
def fldX (a f : ByteArray) : Exp := .mk 2 ⟨0, 0, nul⟩ a f []
def twoX (op : Int) (x y : Exp) : Exp := .mk op ⟨0, 0, nul⟩ nul nul [x, y]
def bS : List Ty := [⟨ch 116, [⟨ch 98, 3⟩, ⟨ch 110, 1⟩, ⟨ch 115, 2⟩]⟩, ⟨ch 117, [⟨ch 110, 1⟩]⟩]
theorem same_eq {a b : ByteArray} (h : same a b = true) : a = b := by
  unfold same at h
  rw [ByteArray.toList_eq, ByteArray.toList_eq] at h
  have : a.data.toList = b.data.toList := by simpa using h
  obtain ⟨⟨x⟩⟩ := a
  obtain ⟨⟨y⟩⟩ := b
  simp at this
  rw [this]
/-! ### AND, OR -/
end Go.AL
