/- Parts of an abstract logic over the kit's walks, and walks in it: Sch, Sch2, Val, Ex, Ev, Eva, Pat, X6m, E11. -/
import Derived.Test.YtchpllgeahnmmaaDoorAd
import Derived.Test.YtchpllgeahnmmaaDoorAe
namespace Go.AL
set_option linter.unusedVariables false
def same (a b : ByteArray) : Bool := a.toList == b.toList
def int (n : Int) : D := .lit (.int .i64 n)
def str (s : ByteArray) : D := .lit (.string s)
def boo (b : Bool) : D := .lit (.bool b)
def idx {α : Type} (p : α → Bool) (l : List α) : Int := match l.findIdx? p with | some i => i | none => -1
theorem idx_some {α : Type} {p : α → Bool} {l : List α} {i : Nat} {a : α} (ha : l[i]? = some a) (hp : p a = true) (hn : ∀ j b, j < i → l[j]? = some b → p b = false) : idx p l = i := by
  have : l.findIdx? p = some i := by
    rw [List.findIdx?_eq_some_iff_getElem]
    obtain ⟨hlt, rfl⟩ := List.getElem?_eq_some_iff.1 ha
    exact ⟨hlt, hp, fun j hj => by simpa using hn j _ hj (List.getElem?_eq_getElem (by omega))⟩
  simp [idx, this]
theorem idx_none {α : Type} {p : α → Bool} {l : List α} (hn : ∀ j b, j < l.length → l[j]? = some b → p b = false) : idx p l = -1 := by
  have : l.findIdx? p = none := by
    rw [List.findIdx?_eq_none_iff]
    intro x hx
    obtain ⟨j, hj⟩ := List.getElem?_of_mem hx
    exact hn j x (List.getElem?_eq_some_iff.1 hj).1 hj
  simp [idx, this]
theorem idx_cases {α : Type} (p : α → Bool) (l : List α) : (∃ i a, idx p l = (i : Nat) ∧ l[i]? = some a ∧ p a = true ∧ ∀ j b, j < i → l[j]? = some b → p b = false) ∨ (idx p l = -1 ∧ ∀ a ∈ l, p a = false) := by
  unfold idx
  cases h : l.findIdx? p with
  | none =>
    right
    rw [List.findIdx?_eq_none_iff] at h
    exact ⟨rfl, h⟩
  | some i =>
    left
    rw [List.findIdx?_eq_some_iff_getElem] at h
    obtain ⟨hlt, hp, hn⟩ := h
    refine ⟨i, l[i], rfl, List.getElem?_eq_getElem hlt, hp, fun j b hj hb => ?_⟩
    obtain ⟨hl, rfl⟩ := List.getElem?_eq_some_iff.1 hb
    simpa using hn j hj
theorem kfs_d : ∀ xs : List D, kfs (xs.map .d) = true
  | [] => rfl
  | x :: xs => by simp [kfs, kf, kfs_d xs]
theorem kfs_append : ∀ {xs ys : List AV}, kfs xs = true → kfs ys = true → kfs (xs ++ ys) = true
  | [], ys, _, h => h
  | x :: xs, ys, h, h' => by
    simp [kfs] at h ⊢
    exact ⟨h.1, kfs_append h.2 h'⟩
theorem kfs_fn {first cap : List D} {mid : List AV} (h : kfs mid = true) : kfs (first.map .d ++ mid ++ cap.map .d) = true := kfs_append (kfs_append (kfs_d first) h) (kfs_d cap)
def ysI {α : Type} (enc : α → List D) (l : List α) : List (List AV) := l.zipIdx.map fun x => [.d (int x.2), .agg ((enc x.1).map .d)]
theorem ysI_length {α : Type} (enc : α → List D) (l : List α) : (ysI enc l).length = l.length := by simp [ysI]
theorem ysI_get {α : Type} {enc : α → List D} {l : List α} {i : Nat} {a : α} (h : l[i]? = some a) : (ysI enc l)[i]? = some [.d (int i), .agg ((enc a).map .d)] := by
  simp [ysI, List.getElem?_zipIdx, h]
theorem ysI_of {α : Type} {enc : α → List D} {l : List α} {i : Nat} {args : List AV} (h : (ysI enc l)[i]? = some args) : ∃ a, l[i]? = some a ∧ args = [.d (int i), .agg ((enc a).map .d)] := by
  simp only [ysI, List.getElem?_map, List.getElem?_zipIdx, Option.map_map, Option.map_eq_some_iff] at h
  obtain ⟨a, ha, rfl⟩ := h
  exact ⟨a, ha, by simp⟩
theorem ysI_kf {α : Type} (enc : α → List D) (l : List α) : ∀ y ∈ ysI enc l, kfs y = true ∧ y.length = 2 := by
  intro y hy
  simp only [ysI, List.mem_map] at hy
  obtain ⟨x, _, rfl⟩ := hy
  exact ⟨by simp [kfs, kf, kfs_d], rfl⟩
def encB (s : ByteArray) : List D := [str s]
def pairsOf : List ByteArray → List (List AV)
  | x :: y :: l => [.d (str x), .d (str y)] :: pairsOf (y :: l)
  | _ => []
theorem pairsOf_length : ∀ l : List ByteArray, (pairsOf l).length = l.length - 1
  | [] => rfl
  | [_] => rfl
  | x :: y :: l => by simp only [pairsOf, List.length_cons, pairsOf_length (y :: l)]; omega
theorem pairsOf_get : ∀ {l : List ByteArray} {i : Nat} {a b : ByteArray}, l[i]? = some a → l[i + 1]? = some b → (pairsOf l)[i]? = some [.d (str a), .d (str b)]
  | [], i, a, b, h, _ => by simp at h
  | [x], i, a, b, _, h => by simp at h
  | x :: y :: l, 0, a, b, h1, h2 => by simp at h1 h2; subst h1; subst h2; rfl
  | x :: y :: l, i + 1, a, b, h1, h2 => by
    simp only [pairsOf, List.getElem?_cons_succ]
    exact pairsOf_get (by simpa using h1) (by simpa using h2)
theorem pairsOf_of {l : List ByteArray} {i : Nat} {args : List AV} (h : (pairsOf l)[i]? = some args) : ∃ a b, l[i]? = some a ∧ l[i + 1]? = some b ∧ args = [.d (str a), .d (str b)] := by
  have hlt := (List.getElem?_eq_some_iff.1 h).1
  rw [pairsOf_length] at hlt
  have h1 : l[i]? = some (l[i]'(by omega)) := List.getElem?_eq_getElem (by omega)
  have h2 : l[i + 1]? = some (l[i + 1]'(by omega)) := List.getElem?_eq_getElem (by omega)
  refine ⟨_, _, h1, h2, ?_⟩
  have := pairsOf_get h1 h2
  rw [h] at this
  exact Option.some.inj this
theorem pairsOf_kf : ∀ (l : List ByteArray), ∀ y ∈ pairsOf l, kfs y = true ∧ y.length = 2
  | [], y, h => by simp [pairsOf] at h
  | [_], y, h => by simp [pairsOf] at h
  | x :: z :: l, y, h => by
    simp only [pairsOf, List.mem_cons] at h
    rcases h with rfl | h
    · exact ⟨rfl, rfl⟩
    · exact pairsOf_kf (z :: l) y h
theorem wrap_pred {i : Nat} (h : i ≤ 140737488355328) : IntKind.i64.wrap (((i + 1 : Nat) : Int) - 1) = ((i : Nat) : Int) := by
  rw [wrap_id]
  · omega
  · have : IntKind.i64.min = -9223372036854775808 := rfl
    omega
  · have : IntKind.i64.max = 9223372036854775807 := rfl
    omega
theorem take_snoc {α β : Type} {f : α → β} {l : List α} {i : Nat} {a : α} (h : l[i]? = some a) : (l.take (i + 1)).map f = (l.take i).map f ++ [f a] := by
  rw [List.take_add_one, h]; simp
structure Fld where
  name : ByteArray
  kind : Int
structure Ty where
  name : ByteArray
  fields : List Fld
def encF (f : Fld) : List D := [str f.name, int f.kind]
def encT (t : Ty) : List D := [str t.name, .sl 2 24 (t.fields.map encF)]
def encS (s : List Ty) : D := .sl 2 40 (s.map encT)
def argF (f : Fld) : AV := .agg ((encF f).map .d)
def argT (t : Ty) : AV := .agg ((encT t).map .d)
def argS (s : List Ty) : AV := .agg [.d (encS s)]
def zeroT : Ty := ⟨⟨#[]⟩, []⟩
def findT (s : List Ty) (nm : ByteArray) : Ty × Bool := match s.find? (fun t => same t.name nm) with | some t => (t, true) | none => (zeroT, false)
theorem find_neg {s : List Ty} {nm : ByteArray} (h : decide (idx (fun t => same t.name nm) s < 0) = true) : findT s nm = (zeroT, false) := by
  rcases idx_cases (fun t : Ty => same t.name nm) s with ⟨i, a, h1, _⟩ | ⟨_, h2⟩
  · rw [h1] at h; simp at h; omega
  · have : s.find? (fun t => same t.name nm) = none := by
      rw [List.find?_eq_none]
      intro x hx; simp [h2 x hx]
    simp [findT, this]
theorem find_pos {s : List Ty} {nm : ByteArray} (h : decide (idx (fun t => same t.name nm) s < 0) = false) : ∃ (i : Nat) (a : Ty), idx (fun t => same t.name nm) s = (i : Nat) ∧ s[i]? = some a ∧ findT s nm = (a, true) := by
  rcases idx_cases (fun t : Ty => same t.name nm) s with ⟨i, a, h1, h2, h3, h4⟩ | ⟨h1, _⟩
  · refine ⟨i, a, h1, h2, ?_⟩
    have : s.find? (fun t => same t.name nm) = some a := by
      rw [List.find?_eq_some_iff_getElem]
      obtain ⟨hlt, rfl⟩ := List.getElem?_eq_some_iff.1 h2
      exact ⟨h3, i, hlt, rfl, fun j hj => by simpa using h4 j _ hj (List.getElem?_eq_getElem (by omega))⟩
    simp [findT, this]
  · rw [h1] at h; simp at h
def fieldAt (t : Ty) (nm : ByteArray) : Int := idx (fun f => same f.name nm) t.fields
def sameF (a b : Fld) : Bool := same a.name b.name && a.kind == b.kind
def allSame {α : Type} (p : α → α → Bool) : List α → List α → Bool
  | [], [] => true
  | x :: xs, y :: ys => p x y && allSame p xs ys
  | _, _ => false
theorem allSame_len {α : Type} {p : α → α → Bool} : ∀ {l r : List α}, l.length ≠ r.length → allSame p l r = false
  | [], [], h => by simp at h
  | [], _ :: _, _ => rfl
  | _ :: _, [], _ => rfl
  | x :: l, y :: r, h => by
    simp only [allSame, allSame_len (l := l) (r := r) (by simpa using h), Bool.and_false]
theorem allSame_ne {α : Type} {p : α → α → Bool} : ∀ {l r : List α} {i : Nat} {a b : α}, l[i]? = some a → r[i]? = some b → p a b = false → allSame p l r = false
  | [], _, i, a, b, h, _, _ => by simp at h
  | _ :: _, [], i, a, b, _, h, _ => by simp at h
  | x :: l, y :: r, i, a, b, h1, h2, h3 => by
    cases i with
    | zero =>
      simp at h1 h2
      subst h1; subst h2
      simp [allSame, h3]
    | succ i =>
      simp only [allSame, allSame_ne (l := l) (r := r) (i := i) (by simpa using h1) (by simpa using h2) h3, Bool.and_false]
theorem allSame_all {α : Type} {p : α → α → Bool} : ∀ {l r : List α}, l.length = r.length → (∀ j a b, j < l.length → l[j]? = some a → r[j]? = some b → p a b = true) → allSame p l r = true
  | [], [], _, _ => rfl
  | [], _ :: _, h, _ => by simp at h
  | _ :: _, [], h, _ => by simp at h
  | x :: l, y :: r, h, hp => by
    simp only [allSame, Bool.and_eq_true]
    exact ⟨hp 0 x y (by simp) rfl rfl, allSame_all (by simpa using h) fun j a b hj ha hb => hp (j + 1) a b (by simpa using hj) (by simpa using ha) (by simpa using hb)⟩
def sameT (a b : Ty) : Bool := same a.name b.name && allSame sameF a.fields b.fields
def sameS (a b : List Ty) : Bool := allSame sameT a b
def small (c : UInt8) : Bool := !(decide (c.toNat < 97)) && !(decide (c.toNat > 122))
def isName (s : ByteArray) : Bool := s.data.toList.all small && s.data.toList != [] && decide (s.size ≤ 8)
theorem small_lo {c : UInt8} (h : decide ((c.toNat : Int) < 97) = true) : small c = false := by
  have : c.toNat < 97 := by simp at h; omega
  simp [small, this]
theorem small_hi {c : UInt8} (h : decide ((c.toNat : Int) > 122) = true) : small c = false := by
  have : 122 < c.toNat := by simp at h; omega
  simp [small, this]
theorem small_ok {c : UInt8} (h1 : decide ((c.toNat : Int) < 97) = false) (h2 : decide ((c.toNat : Int) > 122) = false) : small c = true := by
  simp at h1 h2
  simp [small]; omega
theorem all_small {s : ByteArray} {i : Nat} (hi : i ≤ s.size) (hge : ¬ i < s.size) (hp : ∀ j c, j < i → s.data.toList[j]? = some c → small c = true) : s.data.toList.all small = true := by
  rw [List.all_eq_true]
  intro c hc
  obtain ⟨j, hj⟩ := List.getElem?_of_mem hc
  have : j < s.size := by have := (List.getElem?_eq_some_iff.1 hj).1; simpa using this
  exact hp j c (by omega) hj
theorem isName_bad {s : ByteArray} {i : Nat} {c : UInt8} (h : s.data.toList[i]? = some c) (hb : small c = false) : isName s = false := by
  have : s.data.toList.all small = false := by
    rw [List.all_eq_false]
    exact ⟨c, List.mem_of_getElem? h, by simp [hb]⟩
  simp only [isName, this, Bool.false_and]
theorem name_end {s : ByteArray} (hall : s.data.toList.all small = true) : isName s = (!(s.toList == (⟨#[]⟩ : ByteArray).toList) && decide ((s.size : Int) ≤ 8)) := by
  have : decide ((s.size : Int) ≤ 8) = decide (s.size ≤ 8) := by simp; omega
  rw [this, ByteArray.toList_eq, ByteArray.toList_eq]
  simp only [isName, hall, Bool.true_and]
  rfl
def rise : List ByteArray → Bool
  | x :: y :: l => Op.bytesLess x.toList y.toList && rise (y :: l)
  | _ => true
theorem rise_all : ∀ {l : List ByteArray}, (∀ j a b, j + 1 < l.length → l[j]? = some a → l[j + 1]? = some b → Op.bytesLess a.toList b.toList = true) → rise l = true
  | [], _ => rfl
  | [_], _ => rfl
  | x :: y :: l, h => by
    simp only [rise, Bool.and_eq_true]
    exact ⟨h 0 x y (by simp) rfl rfl, rise_all fun j a b hj ha hb => h (j + 1) a b (by simpa using hj) (by simpa using ha) (by simpa using hb)⟩
theorem rise_bad : ∀ {l : List ByteArray} {i : Nat} {a b : ByteArray}, l[i]? = some a → l[i + 1]? = some b → Op.bytesLess a.toList b.toList = false → rise l = false
  | [], i, a, b, h, _, _ => by simp at h
  | [_], i, a, b, _, h, _ => by simp at h
  | x :: y :: l, 0, a, b, h1, h2, h3 => by
    simp at h1 h2; subst h1; subst h2
    simp only [rise, h3, Bool.false_and]
  | x :: y :: l, i + 1, a, b, h1, h2, h3 => by
    simp only [rise, rise_bad (l := y :: l) (i := i) (by simpa using h1) (by simpa using h2) h3, Bool.and_false]
def okF (t : Ty) (i : Nat) (f : Fld) : Bool := isName f.name && decide (1 ≤ f.kind) && decide (f.kind ≤ 3) && fieldAt t f.name == (i : Int)
def okFs (t : Ty) : Bool := (List.range t.fields.length).all fun i => match t.fields[i]? with
  | some f => okF t i f
  | none => false
def isType (t : Ty) : Bool := isName t.name && decide (t.fields.length ≤ 5) && okFs t
theorem okFs_bad {t : Ty} {i : Nat} {f : Fld} (h : t.fields[i]? = some f) (hb : okF t i f = false) : isType t = false := by
  have : okFs t = false := by
    unfold okFs
    rw [List.all_eq_false]
    exact ⟨i, by simpa using (List.getElem?_eq_some_iff.1 h).1, by simp [h, hb]⟩
  simp only [isType, this, Bool.and_false]
theorem okFs_all {t : Ty} (h : ∀ i f, i < t.fields.length → t.fields[i]? = some f → okF t i f = true) : okFs t = true := by
  unfold okFs
  rw [List.all_eq_true]
  intro i hi
  have hi : i < t.fields.length := by simpa using hi
  rw [List.getElem?_eq_getElem hi]
  exact h i _ hi (List.getElem?_eq_getElem hi)
theorem isSchema_bad {s : List Ty} {i : Nat} {t : Ty} (h : s[i]? = some t) (hb : isType t = false) : (s.all isType && decide (s.length ≤ 5) && rise (s.map (·.name))) = false := by
  have : s.all isType = false := by
    rw [List.all_eq_false]
    exact ⟨t, List.mem_of_getElem? h, by simp [hb]⟩
  simp [this]
theorem all_of {α : Type} {p : α → Bool} {l : List α} (h : ∀ j a, j < l.length → l[j]? = some a → p a = true) : l.all p = true := by
  rw [List.all_eq_true]
  intro x hx
  obtain ⟨j, hj⟩ := List.getElem?_of_mem hx
  exact h j x (List.getElem?_eq_some_iff.1 hj).1 hj
def isSchema (s : List Ty) : Bool := s.all isType && decide (s.length ≤ 5) && rise (s.map (·.name))
end Go.AL
namespace Go.AL
set_option linter.unusedVariables false
theorem less_irrefl : ∀ l : List UInt8, Op.bytesLess l l = false
  | [] => rfl
  | a :: l => by simp [Op.bytesLess, less_irrefl l]
theorem less_trans : ∀ {x y z : List UInt8}, Op.bytesLess x y = true → Op.bytesLess y z = true → Op.bytesLess x z = true
  | _, [], _, h, _ => by simp [Op.bytesLess] at h
  | _, _ :: _, [], _, h => by simp [Op.bytesLess] at h
  | [], b :: y, c :: z, _, _ => rfl
  | a :: x, b :: y, c :: z, h1, h2 => by
    simp only [Op.bytesLess, Bool.or_eq_true, decide_eq_true_eq, Bool.and_eq_true, beq_iff_eq] at h1 h2 ⊢
    rcases h1 with h1 | ⟨rfl, h1⟩
    · rcases h2 with h2 | ⟨rfl, h2⟩
      · exact .inl (UInt8.lt_trans h1 h2)
      · exact .inl h1
    · rcases h2 with h2 | ⟨rfl, h2⟩
      · exact .inl h2
      · exact .inr ⟨rfl, less_trans h1 h2⟩
theorem rise_tail {x : ByteArray} {l : List ByteArray} (h : rise (x :: l) = true) : rise l = true := by
  cases l with
  | nil => rfl
  | cons y l => simp only [rise, Bool.and_eq_true] at h; exact h.2
theorem rise_head : ∀ {l : List ByteArray} {x : ByteArray}, rise (x :: l) = true → ∀ y ∈ l, Op.bytesLess x.toList y.toList = true
  | [], x, _, y, hy => by simp at hy
  | z :: l, x, h, y, hy => by
    simp only [rise, Bool.and_eq_true] at h
    rcases List.mem_cons.1 hy with rfl | hy
    · exact h.1
    · exact less_trans h.1 (rise_head h.2 y hy)
theorem same_refl (a : ByteArray) : same a a = true := by simp [same]
theorem sch_rise {s : List Ty} (h : isSchema s = true) : rise (s.map (·.name)) = true := by
  simp only [isSchema, Bool.and_eq_true] at h; exact h.2
theorem sch_type {s : List Ty} {i : Nat} {t : Ty} (h : isSchema s = true) (ht : s[i]? = some t) : isType t = true := by
  simp only [isSchema, Bool.and_eq_true] at h
  exact List.all_eq_true.1 h.1.1 t (List.mem_of_getElem? ht)
theorem find_any (s : List Ty) (nm : ByteArray) : (findT s nm).2 = s.any fun t => same t.name nm := by
  unfold findT
  cases h : s.find? (fun t => same t.name nm) with
  | none =>
    rw [List.find?_eq_none] at h
    symm
    rw [List.any_eq_false]
    exact h
  | some t =>
    symm
    rw [List.any_eq_true]
    exact ⟨t, List.mem_of_find?_eq_some h, by have := List.find?_some h; simpa using this⟩
def kA : ByteArray := ⟨#[97]⟩
def kB : ByteArray := ⟨#[98]⟩
def kX : ByteArray := ⟨#[120]⟩
def kY : ByteArray := ⟨#[121]⟩
end Go.AL
namespace Go.AL
set_option linter.unusedVariables false
set_option linter.unusedSimpArgs false
structure Vl where
  k : Int
  n : Int
  s : ByteArray
def encV (v : Vl) : List D := [int v.k, int v.n, str v.s]
def argV (v : Vl) : AV := .agg ((encV v).map .d)
def nul : ByteArray := ⟨#[]⟩
def shownC (c : UInt8) : Bool := !(decide (c.toNat < 32)) && !(decide (c.toNat > 126))
def isText (s : ByteArray) : Bool := s.data.toList.all shownC && decide (s.size ≤ 16)
def isVal (v : Vl) : Bool :=
  bif v.k == 1 then same v.s nul else bif v.k == 2 then (v.n == 0) && isText v.s else bif v.k == 3 then ((v.n == 0) || (v.n == 1)) && same v.s nul else false
def sameV (a b : Vl) : Bool := a.k == b.k && (a.n == b.n && same a.s b.s)
theorem shown_lo {c : UInt8} (h : decide ((c.toNat : Int) < 32) = true) : shownC c = false := by
  have : c.toNat < 32 := by simp at h; omega
  simp [shownC, this]
theorem shown_hi {c : UInt8} (h : decide ((c.toNat : Int) > 126) = true) : shownC c = false := by
  have : 126 < c.toNat := by simp at h; omega
  simp [shownC, this]
theorem shown_ok {c : UInt8} (h1 : decide ((c.toNat : Int) < 32) = false) (h2 : decide ((c.toNat : Int) > 126) = false) : shownC c = true := by
  simp at h1 h2
  simp [shownC]; omega
theorem allShown {s : ByteArray} {i : Nat} (hi : i ≤ s.size) (hge : ¬ i < s.size) (hp : ∀ j c, j < i → s.data.toList[j]? = some c → shownC c = true) : s.data.toList.all shownC = true := by
  rw [List.all_eq_true]
  intro c hc
  obtain ⟨j, hj⟩ := List.getElem?_of_mem hc
  have : j < s.size := by have := (List.getElem?_eq_some_iff.1 hj).1; simpa using this
  exact hp j c (by omega) hj
theorem isText_bad {s : ByteArray} {i : Nat} {c : UInt8} (h : s.data.toList[i]? = some c) (hb : shownC c = false) : isText s = false := by
  have : s.data.toList.all shownC = false := by
    rw [List.all_eq_false]
    exact ⟨c, List.mem_of_getElem? h, by simp [hb]⟩
  simp only [isText, this, Bool.false_and]
theorem text_end {s : ByteArray} (hall : s.data.toList.all shownC = true) : isText s = decide ((s.size : Int) ≤ 16) := by
  have : decide ((s.size : Int) ≤ 16) = decide (s.size ≤ 16) := by simp; omega
  rw [this]
  simp only [isText, hall, Bool.true_and]
theorem name_end2 {s : ByteArray} (hall : s.data.toList.all small = true) : isName s = (decide ((s.size : Int) ≥ 1) && decide ((s.size : Int) ≤ 8)) := by
  have h1 : decide ((s.size : Int) ≤ 8) = decide (s.size ≤ 8) := by simp; omega
  have h2 : decide ((s.size : Int) ≥ 1) = (s.data.toList != []) := by
    have hl : s.data.toList.length = s.size := by simp
    cases h : s.data.toList with
    | nil => rw [h] at hl; simp at hl; simp [← hl]
    | cons a l =>
      rw [h] at hl; simp at hl
      have h3 : (1 : Int) ≤ s.size := by omega
      simp [h3]
  rw [h1, h2]
  simp only [isName, hall, Bool.true_and]
def less (a b : ByteArray) : Bool := Op.bytesLess a.toList b.toList
theorem less_same {a b : ByteArray} (h : less a b = true) : same a b = false := by
  cases h2 : same a b with
  | false => rfl
  | true =>
    have : a.toList = b.toList := by simpa [same] using h2
    unfold less at h
    rw [this, less_irrefl] at h; cases h
theorem lessL_total : ∀ {x y : List UInt8}, Op.bytesLess x y = false → Op.bytesLess y x = false → x = y
  | [], [], _, _ => rfl
  | [], _ :: _, h, _ => by simp [Op.bytesLess] at h
  | _ :: _, [], _, h => by simp [Op.bytesLess] at h
  | a :: x, b :: y, h1, h2 => by
    simp only [Op.bytesLess, Bool.or_eq_false_iff, decide_eq_false_iff_not, Bool.and_eq_false_iff, beq_eq_false_iff_ne] at h1 h2
    have hab : a = b := by
      have := h1.1; have := h2.1
      exact UInt8.le_antisymm (UInt8.not_lt.1 h2.1) (UInt8.not_lt.1 h1.1)
    subst hab
    have e1 : Op.bytesLess x y = false := by rcases h1.2 with h | h; exact absurd rfl h; exact h
    have e2 : Op.bytesLess y x = false := by rcases h2.2 with h | h; exact absurd rfl h; exact h
    rw [lessL_total e1 e2]
theorem less_total {a b : ByteArray} (h1 : same a b = false) (h2 : less a b = false) : less b a = true := by
  cases h3 : less b a with
  | true => rfl
  | false => have := lessL_total h2 h3; simp [same, this] at h1
theorem rise_lt : ∀ {l : List ByteArray} {i j : Nat} {a b : ByteArray}, rise l = true → i < j → l[i]? = some a → l[j]? = some b → less a b = true
  | [], i, j, a, b, _, _, h, _ => by simp at h
  | x :: l, 0, 0, a, b, _, h, _, _ => by omega
  | x :: l, 0, j + 1, a, b, hr, _, h1, h2 => by
    simp at h1; subst h1
    exact rise_head hr b (List.mem_of_getElem? (by simpa using h2))
  | x :: l, i + 1, 0, a, b, _, h, _, _ => by omega
  | x :: l, i + 1, j + 1, a, b, hr, h, h1, h2 => rise_lt (rise_tail hr) (by omega : i < j) (by simpa using h1) (by simpa using h2)
def ins (s : ByteArray) : List ByteArray → List ByteArray
  | [] => [s]
  | x :: l => bif same x s then x :: l else bif less s x then s :: x :: l else x :: ins s l
theorem ins_end : ∀ {l : List ByteArray} {s : ByteArray}, (∀ j b, j < l.length → l[j]? = some b → same b s = false ∧ less s b = false) → ins s l = l ++ [s]
  | [], s, _ => rfl
  | x :: l, s, hp => by
    obtain ⟨h1, h2⟩ := hp 0 x (by simp) rfl
    simp only [ins, h1, h2, cond_false]
    rw [ins_end fun j b hj hb => hp (j + 1) b (by simpa using hj) (by simpa using hb)]
    simp
theorem same_rfl (a : ByteArray) : same a a = true := same_refl a
theorem sameV_rfl (v : Vl) : sameV v v = true := by simp [sameV, same_rfl]
end Go.AL
namespace Go.AL
set_option linter.unusedVariables false
set_option linter.unusedSimpArgs false
inductive Exp where
  | mk (op : Int) (val : Vl) (al fi : ByteArray) (kids : List Exp)
def Exp.kids : Exp → List Exp | .mk _ _ _ _ ks => ks
end Go.AL
namespace Go.AL
set_option linter.unusedVariables false
set_option linter.unusedSimpArgs false
structure Ev where
  ty : ByteArray
  ts : Int
  vals : List Vl
def encE (e : Ev) : List D := [str e.ty, int e.ts, .sl 3 32 (e.vals.map encV)]
def argE (e : Ev) : AV := .agg ((encE e).map .d)
def errN (t : TypeId) (c : Int) : D := .iface t (int c)
def nilE : D := .lit .nilIface
def sameEv (a b : Ev) : Bool := same a.ty b.ty && ((a.ts == b.ts) && allSame sameV a.vals b.vals)
def kk : List Vl → List Fld → Bool
  | v :: vs, f :: fs => (v.k == f.kind) && kk vs fs
  | _, _ => true
theorem kk_bad : ∀ {vs : List Vl} {fs : List Fld} {i : Nat} {v : Vl} {f : Fld}, vs[i]? = some v → fs[i]? = some f → (v.k == f.kind) = false → kk vs fs = false
  | [], _, i, v, f, h, _, _ => by simp at h
  | _ :: _, [], i, v, f, _, h, _ => by simp at h
  | x :: vs, y :: fs, 0, v, f, h1, h2, h3 => by simp at h1 h2; subst h1; subst h2; simp only [kk, h3, Bool.false_and]
  | x :: vs, y :: fs, i + 1, v, f, h1, h2, h3 => by simp only [kk, kk_bad (vs := vs) (fs := fs) (i := i) (by simpa using h1) (by simpa using h2) h3, Bool.and_false]
theorem kk_all : ∀ {vs : List Vl} {fs : List Fld}, (∀ i v f, i < vs.length → vs[i]? = some v → fs[i]? = some f → (v.k == f.kind) = true) → kk vs fs = true
  | [], _, _ => by simp [kk]
  | _ :: _, [], _ => by simp [kk]
  | x :: vs, y :: fs, h => by
    simp only [kk, Bool.and_eq_true]
    exact ⟨h 0 x y (by simp) rfl rfl, kk_all fun i v f hi h1 h2 => h (i + 1) v f (by simpa using hi) (by simpa using h1) (by simpa using h2)⟩
def evForm (t : Ty) (e : Ev) : Bool := !(decide (e.ts < 0)) && !(decide (e.ts > 1073741824)) && (e.vals.length == t.fields.length) && e.vals.all isVal
def evErr (T : TypeId) (s : List Ty) (e : Ev) : D :=
  bif !(findT s e.ty).2 then errN T 13 else bif !(evForm (findT s e.ty).1 e) then errN T 10 else bif kk e.vals (findT s e.ty).1.fields then nilE else errN T 14
theorem evErr_none {T : TypeId} {s : List Ty} {e : Ev} (h : (findT s e.ty).2 = false) : evErr T s e = errN T 13 := by simp [evErr, h]
theorem evErr_form {T : TypeId} {s : List Ty} {e : Ev} (h : (findT s e.ty).2 = true) (hf : evForm (findT s e.ty).1 e = false) : evErr T s e = errN T 10 := by simp [evErr, h, hf]
theorem evErr_kind {T : TypeId} {s : List Ty} {e : Ev} (h : (findT s e.ty).2 = true) (hf : evForm (findT s e.ty).1 e = true) (hk : kk e.vals (findT s e.ty).1.fields = false) : evErr T s e = errN T 14 := by simp [evErr, h, hf, hk]
theorem evErr_ok {T : TypeId} {s : List Ty} {e : Ev} (h : (findT s e.ty).2 = true) (hf : evForm (findT s e.ty).1 e = true) (hk : kk e.vals (findT s e.ty).1.fields = true) : evErr T s e = nilE := by simp [evErr, h, hf, hk]
theorem any_idx {α : Type} {p : α → Bool} {l : List α} : decide (idx p l ≥ 0) = l.any p := by
  rcases idx_cases p l with ⟨i, a, h1, h2, h3, _⟩ | ⟨h1, h2⟩
  · rw [h1]
    have : l.any p = true := List.any_eq_true.2 ⟨a, List.mem_of_getElem? h2, h3⟩
    rw [this]; simp
  · rw [h1]
    have : l.any p = false := by rw [List.any_eq_false]; intro x hx; simp [h2 x hx]
    rw [this]; rfl
theorem all_any {l : List Vl} : l.all isVal = !(l.any fun v => !isVal v) := by
  induction l with
  | nil => rfl
  | cons x l ih => simp [List.all_cons, List.any_cons, ih]
def getV (s : List Ty) (e : Ev) (nm : ByteArray) : Vl × Bool :=
  bif !(findT s e.ty).2 || (decide (fieldAt (findT s e.ty).1 nm < 0) || decide (fieldAt (findT s e.ty).1 nm ≥ (e.vals.length : Int))) then (⟨0, 0, nul⟩, false) else (e.vals.getD (fieldAt (findT s e.ty).1 nm).toNat ⟨0, 0, nul⟩, true)
theorem getV_no {s : List Ty} {e : Ev} {nm : ByteArray} (h : (!(findT s e.ty).2 || (decide (fieldAt (findT s e.ty).1 nm < 0) || decide (fieldAt (findT s e.ty).1 nm ≥ (e.vals.length : Int)))) = true) : getV s e nm = (⟨0, 0, nul⟩, false) := by unfold getV; rw [h]; rfl
theorem getV_ok {s : List Ty} {e : Ev} {nm : ByteArray} {i : Nat} {v : Vl} (h1 : (findT s e.ty).2 = true) (hi : fieldAt (findT s e.ty).1 nm = (i : Int)) (hv : e.vals[i]? = some v) : getV s e nm = (v, true) := by
  have hlt := (List.getElem?_eq_some_iff.1 hv).1
  unfold getV
  rw [h1, hi]
  have e1 : decide ((i : Int) < 0) = false := by simp
  have e2 : decide ((i : Int) ≥ (e.vals.length : Int)) = false := by simp; omega
  rw [e1, e2]
  simp [List.getD, hv]
theorem getV_in {s : List Ty} {e : Ev} {nm : ByteArray} (h1 : (findT s e.ty).2 = true) (h2 : decide (fieldAt (findT s e.ty).1 nm < 0) = false) (h3 : decide (fieldAt (findT s e.ty).1 nm ≥ (e.vals.length : Int)) = false) :
    ∃ (i : Nat) (v : Vl), fieldAt (findT s e.ty).1 nm = (i : Int) ∧ e.vals[i]? = some v ∧ getV s e nm = (v, true) := by
  simp at h2 h3
  obtain ⟨i, hi⟩ := Int.eq_ofNat_of_zero_le h2
  have hlt : i < e.vals.length := by omega
  exact ⟨i, e.vals[i], hi, List.getElem?_eq_getElem hlt, getV_ok h1 hi (List.getElem?_eq_getElem hlt)⟩
theorem allSame_refl : ∀ l : List Vl, allSame sameV l l = true
  | [] => rfl
  | x :: l => by simp [allSame, sameV_rfl, allSame_refl l]
theorem sameEv_refl (e : Ev) : sameEv e e = true := by simp [sameEv, same_rfl, allSame_refl]
theorem wrapN {n : Nat} (h : n ≤ 140737488355328) : IntKind.i64.wrap (n : Int) = (n : Int) :=
  wrap_id _ _ (by have : IntKind.i64.min = -9223372036854775808 := rfl; omega) (by have : IntKind.i64.max = 9223372036854775807 := rfl; omega)
def kS3 : List Ty := [⟨kA, [⟨kX, 1⟩]⟩]
def kE3 : Ev := ⟨kA, 3, [⟨1, 7, nul⟩]⟩
theorem x1 : getV kS3 kE3 kX = (⟨1, 7, nul⟩, true) := by
  refine getV_ok (i := 0) ?_ ?_ rfl <;> decide +kernel
theorem x2 : getV kS3 kE3 kY = (⟨0, 0, nul⟩, false) := getV_no (by decide +kernel)
theorem x3 (T : TypeId) : evErr T kS3 kE3 = nilE := evErr_ok (by decide +kernel) (by decide +kernel) (by decide +kernel)
theorem x4 (T : TypeId) : evErr T kS3 ⟨kB, 0, []⟩ = errN T 13 := evErr_none (by decide +kernel)
theorem x5 (T : TypeId) : evErr T kS3 ⟨kA, 0, []⟩ = errN T 10 := evErr_form (by decide +kernel) (by decide +kernel)
theorem x6 : sameEv kE3 kE3 = true := sameEv_refl _
theorem x7 : sameEv kE3 ⟨nul, 0, []⟩ = false := by decide +kernel
end Go.AL
namespace Go.AL
set_option linter.unusedVariables false
set_option linter.unusedSimpArgs false
def errC (T : TypeId) (c : Int) : D := bif c == 0 then nilE else errN T c
end Go.AL
namespace Go.AL
set_option linter.unusedVariables false
set_option linter.unusedSimpArgs false
structure El where
  al : ByteArray
  tys : List ByteArray
  plus : Bool
  neg : Bool
  cond : Exp
structure Pat where
  els : List El
  within : Int
  byf : ByteArray
  any : Bool
end Go.AL
namespace Go.AL
set_option linter.unusedVariables false
set_option linter.unusedSimpArgs false
end Go.AL
namespace Go.AL
set_option linter.unusedVariables false
set_option linter.unusedSimpArgs false
theorem same_eq {a b : ByteArray} (h : same a b = true) : a = b := by
  unfold same at h
  rw [ByteArray.toList_eq, ByteArray.toList_eq] at h
  have : a.data.toList = b.data.toList := by simpa using h
  obtain ⟨⟨x⟩⟩ := a
  obtain ⟨⟨y⟩⟩ := b
  simp at this
  rw [this]
end Go.AL
