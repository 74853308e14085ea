/- Values and rows of texts as plain data. Nothing of a program. -/
import Derived.Test.YthffbfjnahipcaaSch2
import Derived.Test.YthffbfjnahipcaaA26
import Derived.Test.YthffbfjnahipcaaA27
namespace Go.AL
set_option linter.unusedVariables false
set_option linter.unusedSimpArgs false

structure Vl where
  k : Int
  n : Int
  s : ByteArray
def encV (v : Vl) : List D := [int v.k, int v.n, str v.s]
def argV (v : Vl) : AV := .agg ((encV v).map .d)
def nul : ByteArray := ⟨#[]⟩
def zeroV (k : Int) : Vl := bif decide (k < 1) || decide (k > 3) then ⟨0, 0, nul⟩ else ⟨k, 0, nul⟩
theorem zeroV_lo {k : Int} (h : decide (k < 1) = true) : zeroV k = ⟨0, 0, nul⟩ := by unfold zeroV; rw [h]; rfl
theorem zeroV_hi {k : Int} (h1 : decide (k < 1) = false) (h : decide (k > 3) = true) : zeroV k = ⟨0, 0, nul⟩ := by unfold zeroV; rw [h1, h]; rfl
theorem zeroV_in {k : Int} (h1 : decide (k < 1) = false) (h : decide (k > 3) = false) : zeroV k = ⟨k, 0, nul⟩ := by unfold zeroV; rw [h1, h]; rfl
def shownC (c : UInt8) : Bool := !(decide (c.toNat < 32)) && !(decide (c.toNat > 126))
def isText (s : ByteArray) : Bool := s.data.toList.all shownC && decide (s.size ≤ 16)
def isVal (v : Vl) : Bool :=
  bif v.k == 1 then same v.s nul else bif v.k == 2 then (v.n == 0) && isText v.s else bif v.k == 3 then ((v.n == 0) || (v.n == 1)) && same v.s nul else false
def sameV (a b : Vl) : Bool := a.k == b.k && (a.n == b.n && same a.s b.s)

theorem shown_lo {c : UInt8} (h : decide ((c.toNat : Int) < 32) = true) : shownC c = false := by
  have : c.toNat < 32 := by simp at h; omega
  simp [shownC, this]
theorem shown_hi {c : UInt8} (h : decide ((c.toNat : Int) > 126) = true) : shownC c = false := by
  have : 126 < c.toNat := by simp at h; omega
  simp [shownC, this]
theorem shown_ok {c : UInt8} (h1 : decide ((c.toNat : Int) < 32) = false) (h2 : decide ((c.toNat : Int) > 126) = false) : shownC c = true := by
  simp at h1 h2
  simp [shownC]; omega
theorem allShown {s : ByteArray} {i : Nat} (hi : i ≤ s.size) (hge : ¬ i < s.size) (hp : ∀ j c, j < i → s.data.toList[j]? = some c → shownC c = true) : s.data.toList.all shownC = true := by
  rw [List.all_eq_true]
  intro c hc
  obtain ⟨j, hj⟩ := List.getElem?_of_mem hc
  have : j < s.size := by have := (List.getElem?_eq_some_iff.1 hj).1; simpa using this
  exact hp j c (by omega) hj
theorem isText_bad {s : ByteArray} {i : Nat} {c : UInt8} (h : s.data.toList[i]? = some c) (hb : shownC c = false) : isText s = false := by
  have : s.data.toList.all shownC = false := by
    rw [List.all_eq_false]
    exact ⟨c, List.mem_of_getElem? h, by simp [hb]⟩
  simp only [isText, this, Bool.false_and]
theorem text_end {s : ByteArray} (hall : s.data.toList.all shownC = true) : isText s = decide ((s.size : Int) ≤ 16) := by
  have : decide ((s.size : Int) ≤ 16) = decide (s.size ≤ 16) := by simp; omega
  rw [this]
  simp only [isText, hall, Bool.true_and]

theorem name_end2 {s : ByteArray} (hall : s.data.toList.all small = true) : isName s = (decide ((s.size : Int) ≥ 1) && decide ((s.size : Int) ≤ 8)) := by
  have h1 : decide ((s.size : Int) ≤ 8) = decide (s.size ≤ 8) := by simp; omega
  have h2 : decide ((s.size : Int) ≥ 1) = (s.data.toList != []) := by
    have hl : s.data.toList.length = s.size := by simp
    cases h : s.data.toList with
    | nil => rw [h] at hl; simp at hl; simp [← hl]
    | cons a l =>
      rw [h] at hl; simp at hl
      have h3 : (1 : Int) ≤ s.size := by omega
      simp [h3]
  rw [h1, h2]
  simp only [isName, hall, Bool.true_and]

/-! ### Rows that rise -/
def less (a b : ByteArray) : Bool := Op.bytesLess a.toList b.toList
theorem less_self (a : ByteArray) : less a a = false := less_irrefl _
theorem less_asymm {a b : ByteArray} (h : less a b = true) : less b a = false := by
  cases h2 : less b a with
  | false => rfl
  | true => have := less_trans h h2; rw [less_irrefl] at this; cases this
theorem less_same {a b : ByteArray} (h : less a b = true) : same a b = false := by
  cases h2 : same a b with
  | false => rfl
  | true =>
    have : a.toList = b.toList := by simpa [same] using h2
    unfold less at h
    rw [this, less_irrefl] at h; cases h
theorem less_same' {a b : ByteArray} (h : less a b = true) : same b a = false := by
  have := less_same h
  simp [same] at this ⊢
  exact fun e => this e.symm
theorem lessL_total : ∀ {x y : List UInt8}, Op.bytesLess x y = false → Op.bytesLess y x = false → x = y
  | [], [], _, _ => rfl
  | [], _ :: _, h, _ => by simp [Op.bytesLess] at h
  | _ :: _, [], _, h => by simp [Op.bytesLess] at h
  | a :: x, b :: y, h1, h2 => by
    simp only [Op.bytesLess, Bool.or_eq_false_iff, decide_eq_false_iff_not, Bool.and_eq_false_iff, beq_eq_false_iff_ne] at h1 h2
    have hab : a = b := by
      have := h1.1; have := h2.1
      exact UInt8.le_antisymm (UInt8.not_lt.1 h2.1) (UInt8.not_lt.1 h1.1)
    subst hab
    have e1 : Op.bytesLess x y = false := by rcases h1.2 with h | h; exact absurd rfl h; exact h
    have e2 : Op.bytesLess y x = false := by rcases h2.2 with h | h; exact absurd rfl h; exact h
    rw [lessL_total e1 e2]
theorem less_total {a b : ByteArray} (h1 : same a b = false) (h2 : less a b = false) : less b a = true := by
  cases h3 : less b a with
  | true => rfl
  | false => have := lessL_total h2 h3; simp [same, this] at h1
theorem rise_lt : ∀ {l : List ByteArray} {i j : Nat} {a b : ByteArray}, rise l = true → i < j → l[i]? = some a → l[j]? = some b → less a b = true
  | [], i, j, a, b, _, _, h, _ => by simp at h
  | x :: l, 0, 0, a, b, _, h, _, _ => by omega
  | x :: l, 0, j + 1, a, b, hr, _, h1, h2 => by
    simp at h1; subst h1
    exact rise_head hr b (List.mem_of_getElem? (by simpa using h2))
  | x :: l, i + 1, 0, a, b, _, h, _, _ => by omega
  | x :: l, i + 1, j + 1, a, b, hr, h, h1, h2 => rise_lt (rise_tail hr) (by omega : i < j) (by simpa using h1) (by simpa using h2)

def ins (s : ByteArray) : List ByteArray → List ByteArray
  | [] => [s]
  | x :: l => bif same x s then x :: l else bif less s x then s :: x :: l else x :: ins s l
theorem ins_found : ∀ {l : List ByteArray} {s : ByteArray} {i : Nat} {a : ByteArray}, l[i]? = some a → same a s = true → (∀ j b, j < i → l[j]? = some b → same b s = false ∧ less s b = false) → ins s l = l
  | [], s, i, a, h, _, _ => by simp at h
  | x :: l, s, 0, a, h, hs, _ => by simp at h; subst h; simp [ins, hs]
  | x :: l, s, i + 1, a, h, hs, hp => by
    obtain ⟨h1, h2⟩ := hp 0 x (by omega) rfl
    simp only [ins, h1, h2, cond_false]
    rw [ins_found (i := i) (by simpa using h) hs fun j b hj hb => hp (j + 1) b (by omega) (by simpa using hb)]
theorem ins_gt : ∀ {l : List ByteArray} {s : ByteArray} {i : Nat} {a : ByteArray}, l[i]? = some a → same a s = false → less s a = true → (∀ j b, j < i → l[j]? = some b → same b s = false ∧ less s b = false) → ins s l = l.take i ++ [s] ++ l.drop i
  | [], s, i, a, h, _, _, _ => by simp at h
  | x :: l, s, 0, a, h, hs, hg, _ => by simp at h; subst h; simp [ins, hs, hg]
  | x :: l, s, i + 1, a, h, hs, hg, hp => by
    obtain ⟨h1, h2⟩ := hp 0 x (by omega) rfl
    simp only [ins, h1, h2, cond_false]
    rw [ins_gt (i := i) (by simpa using h) hs hg fun j b hj hb => hp (j + 1) b (by omega) (by simpa using hb)]
    simp
theorem ins_end : ∀ {l : List ByteArray} {s : ByteArray}, (∀ j b, j < l.length → l[j]? = some b → same b s = false ∧ less s b = false) → ins s l = l ++ [s]
  | [], s, _ => rfl
  | x :: l, s, hp => by
    obtain ⟨h1, h2⟩ := hp 0 x (by simp) rfl
    simp only [ins, h1, h2, cond_false]
    rw [ins_end fun j b hj hb => hp (j + 1) b (by simpa using hj) (by simpa using hb)]
    simp
theorem ins_length (s : ByteArray) : ∀ l : List ByteArray, (ins s l).length ≤ l.length + 1
  | [] => by simp [ins]
  | x :: l => by
    unfold ins
    cases same x s <;> cases less s x <;> simp
    exact ins_length s l
theorem rise_cons {x : ByteArray} {l : List ByteArray} (h : rise l = true) (hx : ∀ y, l[0]? = some y → less x y = true) : rise (x :: l) = true := by
  cases l with
  | nil => rfl
  | cons y l => simp only [rise, Bool.and_eq_true]; exact ⟨hx y rfl, h⟩
theorem ins_head {s : ByteArray} : ∀ {l : List ByteArray} {y : ByteArray}, (ins s l)[0]? = some y → y = s ∨ l[0]? = some y
  | [], y, h => by simp [ins] at h; exact .inl h.symm
  | x :: l, y, h => by
    unfold ins at h
    cases h1 : same x s <;> cases h2 : less s x <;> simp [h1, h2] at h
    · right; simp [h]
    · left; exact h.symm
    · right; simp [h]
    · right; simp [h]
theorem rise_ins {s : ByteArray} : ∀ {l : List ByteArray}, rise l = true → rise (ins s l) = true
  | [], _ => rfl
  | x :: l, h => by
    unfold ins
    cases h1 : same x s with
    | true => simpa using h
    | false =>
      cases h2 : less s x with
      | true => simp only [cond_true, cond_false]; exact rise_cons h fun y hy => by simp at hy; subst hy; exact h2
      | false =>
        simp only [cond_false]
        refine rise_cons (rise_ins (rise_tail h)) fun y hy => ?_
        rcases ins_head hy with rfl | hy
        · refine less_total ?_ h2
          simp [same] at h1 ⊢
          exact fun e => h1 e.symm
        · exact rise_head h y (List.mem_of_getElem? hy)
theorem same_rfl (a : ByteArray) : same a a = true := same_refl a
theorem ins_cons (s x : ByteArray) (l : List ByteArray) : ins s (x :: l) = bif same x s then x :: l else bif less s x then s :: x :: l else x :: ins s l := rfl
theorem ins_again (s : ByteArray) : ∀ l : List ByteArray, ins s (ins s l) = ins s l
  | [] => by simp [ins, same_rfl]
  | x :: l => by
    rw [ins_cons]
    cases h1 : same x s with
    | true => simp [ins_cons, h1]
    | false =>
      cases h2 : less s x with
      | true => simp [ins_cons, same_rfl]
      | false => simp only [cond_false, ins_cons, h1, h2]; rw [ins_again s l]

/-- Where a text belongs, and whether it is there. -/
def posT (s : ByteArray) (l : List ByteArray) : Nat := l.findIdx fun a => !less a s
def there (s : ByteArray) (l : List ByteArray) : Bool := match l[posT s l]? with
  | some a => same a s
  | none => false
theorem posT_of {s : ByteArray} {l : List ByteArray} {i : Nat} (hi : i ≤ l.length) (h1 : ∀ j a, j < i → l[j]? = some a → less a s = true) (h2 : ∀ j a, i ≤ j → l[j]? = some a → less a s = false) : posT s l = i := by
  unfold posT
  rcases Nat.lt_or_ge i l.length with hlt | hge
  · rw [List.findIdx_eq hlt]
    exact ⟨by simp [h2 i _ (Nat.le_refl _) (List.getElem?_eq_getElem hlt)], fun j hj => by simp [h1 j _ hj (List.getElem?_eq_getElem (by omega))]⟩
  · have : i = l.length := by omega
    subst this
    rw [List.findIdx_eq_length]
    intro x hx
    obtain ⟨j, hj⟩ := List.getElem?_of_mem hx
    simp [h1 j x (List.getElem?_eq_some_iff.1 hj).1 hj]
theorem posT_le (s : ByteArray) (l : List ByteArray) : posT s l ≤ l.length := List.findIdx_le_length
theorem pos_lt {s : ByteArray} {l : List ByteArray} {j : Nat} {a : ByteArray} (hj : j < posT s l) (h : l[j]? = some a) : less a s = true := by
  obtain ⟨hlt, rfl⟩ := List.getElem?_eq_some_iff.1 h
  have := List.not_of_lt_findIdx hj
  simpa using this
theorem pos_at {s : ByteArray} {l : List ByteArray} {a : ByteArray} (h : l[posT s l]? = some a) : less a s = false := by
  obtain ⟨hlt, rfl⟩ := List.getElem?_eq_some_iff.1 h
  have h2 : (!less (l[posT s l]) s) = true := List.findIdx_getElem (w := hlt)
  simpa using h2
theorem there_at {s : ByteArray} {l : List ByteArray} {i : Nat} {a : ByteArray} {b : Bool} (hp : posT s l = i) (h : l[i]? = some a) (hs : same a s = b) : there s l = b := by unfold there; rw [hp, h]; exact hs
theorem there_no {s : ByteArray} {l : List ByteArray} {i : Nat} (hp : posT s l = i) (h : l[i]? = none) : there s l = false := by unfold there; rw [hp, h]
theorem ins_pos_found {s : ByteArray} {l : List ByteArray} (h : there s l = true) : ins s l = l := by
  unfold there at h
  split at h
  · rename_i a ha
    exact ins_found ha h fun j b hj hb => by
      have := pos_lt hj hb
      exact ⟨less_same this, less_asymm this⟩
  · cases h
theorem ins_pos {s : ByteArray} {l : List ByteArray} (h : there s l = false) : ins s l = l.take (posT s l) ++ [s] ++ l.drop (posT s l) := by
  unfold there at h
  split at h
  · rename_i a ha
    refine ins_gt ha h (less_total h (pos_at ha)) fun j b hj hb => ?_
    have := pos_lt hj hb
    exact ⟨less_same this, less_asymm this⟩
  · rename_i ha
    have hl : posT s l = l.length := by
      have := posT_le s l
      have := List.getElem?_eq_none_iff.1 ha
      omega
    rw [ins_end fun j b hj hb => ?_, hl]
    · simp
    · have := pos_lt (s := s) (by rw [hl]; exact hj) hb
      exact ⟨less_same this, less_asymm this⟩
theorem bs_left {s : ByteArray} {l : List ByteArray} (hr : rise l = true) {m : Nat} {a : ByteArray} (ha : l[m]? = some a) (hl : less a s = true) : ∀ j b, j < m + 1 → l[j]? = some b → less b s = true := fun j b hj hb => by
  by_cases hjm : j = m
  · subst hjm; rw [ha] at hb; cases hb; exact hl
  · exact less_trans (rise_lt hr (by omega : j < m) hb ha) hl
theorem bs_right {s : ByteArray} {l : List ByteArray} (hr : rise l = true) {m : Nat} {a : ByteArray} (ha : l[m]? = some a) (hl : less a s = false) : ∀ j b, m ≤ j → l[j]? = some b → less b s = false := fun j b hj hb => by
  by_cases hjm : j = m
  · subst hjm; rw [ha] at hb; cases hb; exact hl
  · cases h2 : less b s with
    | false => rfl
    | true => have := less_trans (rise_lt hr (by omega : m < j) ha hb) h2; unfold less at hl; rw [this] at hl; cases hl
def sameTexts (a b : List ByteArray) : Bool := allSame same a b
theorem sameTexts_refl : ∀ l : List ByteArray, sameTexts l l = true
  | [] => rfl
  | x :: l => by
    have := sameTexts_refl l
    unfold sameTexts at this ⊢
    simp [allSame, same_rfl, this]

def kabc : ByteArray := ⟨#[97, 98, 99]⟩
def kaB : ByteArray := ⟨#[97, 66]⟩
theorem w1 : isVal ⟨1, -5, nul⟩ = true := by simp [isVal, same]
theorem w2 : isVal ⟨0, 0, nul⟩ = false := by simp [isVal, same]
theorem w3 : isVal ⟨3, 2, nul⟩ = false := by simp [isVal, same]
theorem w4 : zeroV 2 = ⟨2, 0, nul⟩ := by simp [zeroV]
theorem w5 : sameV ⟨2, 0, nul⟩ ⟨2, 0, nul⟩ = true := by simp [sameV, same]
theorem w6 : isName kabc = true := by decide +kernel
theorem w7 : isName kaB = false := by decide +kernel
theorem w8 : rise [kA, kB] = true := by simp [rise, kA, kB, ByteArray.toList_eq, Op.bytesLess]
theorem w9 : rise [kA, kA] = false := by simp [rise, less_irrefl]
theorem w10 : ins kB [kA, kC] = [kA, kB, kC] := by simp [ins, same, less, kA, kB, kC, ByteArray.toList_eq, Op.bytesLess]
theorem w11 : rise [kA, kC] = true := by simp [rise, kA, kC, ByteArray.toList_eq, Op.bytesLess]
theorem sameV_rfl (v : Vl) : sameV v v = true := by simp [sameV, same_rfl]
theorem w12 : sameV ⟨0, 0, nul⟩ ⟨0, 0, nul⟩ = true := sameV_rfl _
theorem isVal_in {k : Int} (h1 : decide (k < 1) = false) (h2 : decide (k > 3) = false) : isVal ⟨k, 0, nul⟩ = true := by
  simp at h1 h2
  have : k = 1 ∨ k = 2 ∨ k = 3 := by omega
  rcases this with rfl | rfl | rfl
  · simp [isVal, same]
  · have : isText nul = true := by decide +kernel
    simp [isVal, this]
  · simp [isVal, same]

/-! ### Rows of bytes -/
def fillB (c : UInt8) (i k : Nat) : List UInt8 := List.replicate i c ++ List.replicate (k - i) 0
theorem fill_start (c : UInt8) (k : Nat) : List.replicate k [D.lit (.int .u8 0)] = bytesD (fillB c 0 k) := by simp [bytesD, fillB]
theorem bytes_set (l : List UInt8) (j : Nat) (c : UInt8) : (bytesD l).set j [D.lit (.int .u8 c.toNat)] = bytesD (l.set j c) := by simp [bytesD, List.map_set]
theorem fill_next {c : UInt8} {i k : Nat} (h : i < k) : (bytesD (fillB c i k)).set i [D.lit (.int .u8 c.toNat)] = bytesD (fillB c (i + 1) k) := by
  rw [bytes_set]
  congr 1
  unfold fillB
  obtain ⟨m, hm⟩ : ∃ m, k - i = m + 1 := ⟨k - i - 1, by omega⟩
  rw [hm, show k - (i + 1) = m by omega, List.replicate_succ, List.set_append_right _ _ (by simp)]
  simp [List.replicate_succ']
theorem fill_end (c : UInt8) (k : Nat) : fillB c k k = List.replicate k c := by simp [fillB]
theorem bytesD_length (l : List UInt8) : (bytesD l).length = l.length := by simp [bytesD]
theorem all_set {p : UInt8 → Bool} {a c : UInt8} {k j : Nat} (ha : p a = true) (hj : j < k) : ((List.replicate k a).set j c).all p = p c := by
  rw [List.set_eq_take_append_cons_drop, if_pos (by simpa using hj)]
  simp [ha]
theorem text_fill {k j : Nat} {c : UInt8} (hj : j < k) : isVal ⟨2, 0, ⟨((List.replicate k 120).set j c).toArray⟩⟩ = (decide ((k : Int) ≤ 16) && (decide ((c.toNat : Int) ≥ 32) && decide ((c.toNat : Int) ≤ 126))) := by
  have h1 : decide ((k : Int) ≤ 16) = decide (k ≤ 16) := by simp; omega
  have h2 : shownC c = (decide ((c.toNat : Int) ≥ 32) && decide ((c.toNat : Int) ≤ 126)) := by
    unfold shownC
    congr 1
    · rw [Bool.eq_iff_iff]; simp; omega
    · rw [Bool.eq_iff_iff]; simp; omega
  simp only [isVal, isText, List.toList_toArray]
  rw [all_set (p := shownC) (by decide) hj, h1, ← h2]
  have : ByteArray.size ⟨((List.replicate k (120 : UInt8)).set j c).toArray⟩ = k := by show ((List.replicate k (120 : UInt8)).set j c).toArray.size = k; simp
  rw [this]
  simp [Bool.and_comm]
theorem text_none : isVal ⟨2, 0, ⟨(List.replicate 0 (120 : UInt8)).toArray⟩⟩ = true := by decide +kernel
theorem text_one (s : ByteArray) : isVal ⟨2, 1, s⟩ = false := by simp [isVal]
theorem name_fill {k j : Nat} {c : UInt8} (hj : j < k) : isName ⟨((List.replicate k 110).set j c).toArray⟩ = (decide ((k : Int) ≤ 8) && (decide ((c.toNat : Int) ≥ 97) && decide ((c.toNat : Int) ≤ 122))) := by
  have h1 : decide ((k : Int) ≤ 8) = decide (k ≤ 8) := by simp; omega
  have h2 : small c = (decide ((c.toNat : Int) ≥ 97) && decide ((c.toNat : Int) ≤ 122)) := by
    unfold small
    congr 1
    · rw [Bool.eq_iff_iff]; simp; omega
    · rw [Bool.eq_iff_iff]; simp; omega
  simp only [isName, List.toList_toArray]
  rw [all_set (p := small) (by decide) hj, h1, ← h2]
  have : ByteArray.size ⟨((List.replicate k (110 : UInt8)).set j c).toArray⟩ = k := by show ((List.replicate k (110 : UInt8)).set j c).toArray.size = k; simp
  rw [this]
  have h3 : (((List.replicate k (110 : UInt8)).set j c) != []) = true := by
    cases k with
    | zero => omega
    | succ k => cases j <;> simp [List.replicate_succ]
  rw [h3]
  simp [Bool.and_comm]
theorem name_none : isName ⟨(List.replicate 0 (110 : UInt8)).toArray⟩ = false := by decide +kernel
end Go.AL
