/- Parts of an abstract logic over the kit's walks, and walks in it: Den, Den2, Den3, Den4, Den5, Den6. -/
import Derived.Test.YtaghhofbaoaajaaMe
import Derived.Test.YtaghhofbaoaajaaBa
import Derived.Test.YtaghhofbaoaajaaVord
/- Partial matches by their meaning, as the program tells them and as the document does: plain data; nothing of a program. -/
namespace Go.AL
set_option linter.unusedVariables false
set_option linter.unusedSimpArgs false

structure Kp where
  at_ : Int
  ev : Ev
structure Bd where
  el : Int
  at_ : Int
  deriving DecidableEq
def encK (k : Kp) : List D := int k.at_ :: encE k.ev
def argK (k : Kp) : AV := .agg ((encK k).map .d)
def encBd (b : Bd) : List D := [int b.el, int b.at_]
def argBd (b : Bd) : AV := .agg ((encBd b).map .d)
def SK (l : List Kp) : D := .sl 4 64 (l.map encK)
def SBd (b : List Bd) : D := .sl 2 16 (b.map encBd)
def zeroE : Ev := ⟨nul, 0, []⟩
/-- Places rise. -/
def Rises (l : List Kp) : Prop := ∀ (i j : Nat) (a b : Kp), i < j → l[i]? = some a → l[j]? = some b → a.at_ < b.at_
def atK (l : List Kp) (n : Int) : Ev × Bool := match l.find? fun k => k.at_ == n with
  | some k => (k.ev, true)
  | none => (zeroE, false)
def negX (p : Pat) (i : Nat) : Bool := match p.els[i]? with
  | some e => e.neg
  | none => true
/-- The next positive element from i on. -/
def nextFrom (p : Pat) : Nat → Nat → Int
  | 0, _ => -1
  | n + 1, i => bif decide (i < p.els.length) then (bif !negX p i then (i : Int) else nextFrom p n (i + 1)) else -1
def nextX (p : Pat) (k : Int) : Int := nextFrom p p.els.length (k + 1).toNat
def elX (p : Pat) (k : Int) : El := p.els.getD k.toNat ⟨nul, [], false, false, zeroX⟩
def hasTy (e : El) (t : ByteArray) : Bool := e.tys.any fun x => same x t
/-- What is bound to elements ahead of one. -/
def boundX (p : Pat) (l : List Kp) (k : Int) : List Bd → List Bi
  | [] => []
  | b :: r => bif (atK l b.at_).2 && decide (b.el < k) then ⟨(elX p b.el).al, (atK l b.at_).1⟩ :: boundX p l k r else boundX p l k r
def takesX (s : List Ty) (p : Pat) (l : List Kp) (b : List Bd) (k : Int) (e : Ev) : Bool :=
  hasTy (elX p k) e.ty && holdsX s (boundX p l k b ++ [⟨(elX p k).al, e⟩]) (elX p k).cond
def alikeX (s : List Ty) (p : Pat) (a b : Ev) : Bool :=
  same p.byf nul || ((getV s a p.byf).2 && ((getV s b p.byf).2 && sameV (getV s a p.byf).1 (getV s b p.byf).1))
/-- Events between two places. -/
def betweenX (l : List Kp) (i j : Int) : List Kp := l.filter fun k => decide (k.at_ > i) && decide (k.at_ < j)
def lastBd (b : List Bd) : Bd := b.getLastD ⟨0, 0⟩
def firstE (l : List Kp) (b : List Bd) : Ev := (atK l (b.headD ⟨0, 0⟩).at_).1
/-- A Not takes an event between. -/
def metX (s : List Ty) (p : Pat) (l : List Kp) (b : List Bd) (to : Int) (k : Int) : Bool :=
  (betweenX l (lastBd b).at_ to).any fun x => takesX s p l b k x.ev && alikeX s p (firstE l b) x.ev
def guardX (s : List Ty) (p : Pat) (l : List Kp) (b : List Bd) (x : Bd) : Bool :=
  (List.range (x.el - (lastBd b).el - 1).toNat).all fun i => !metX s p l b x.at_ ((lastBd b).el + 1 + i)
def goesX (s : List Ty) (p : Pat) (l : List Kp) (b : List Bd) (x : Bd) : Bool :=
  bif !(atK l x.at_).2 || (decide (x.el < 0) || decide (x.el ≥ (p.els.length : Int))) then false
  else bif b.isEmpty then x.el == 0 && takesX s p l [] 0 (atK l x.at_).1
  else
    bif decide (x.at_ ≤ (lastBd b).at_) || ((!(x.el == (lastBd b).el && (elX p (lastBd b).el).plus) && (x.el != nextX p (lastBd b).el)) || decide (wr ((atK l x.at_).1.ts - (firstE l b).ts) > p.within)) then false
    else alikeX s p (firstE l b) (atK l x.at_).1 && (takesX s p l b x.el (atK l x.at_).1 && ((x.el == (lastBd b).el && (elX p (lastBd b).el).plus) || guardX s p l b x))
def skipsX (s : List Ty) (p : Pat) (l : List Kp) (b : List Bd) (to : Int) : Bool :=
  (betweenX l (lastBd b).at_ to).any fun k => goesX s p l b ⟨(lastBd b).el, k.at_⟩ || goesX s p l b ⟨nextX p (lastBd b).el, k.at_⟩
/-- From i on a row of bound events goes on as it should. -/
def prefAt (s : List Ty) (p : Pat) (l : List Kp) (b : List Bd) (i : Nat) (x : Bd) : Bool :=
  !(!goesX s p l (b.take i) x || (!p.any && (decide (i > 0) && skipsX s p l (b.take i) x.at_)))
def prefixX (s : List Ty) (p : Pat) (l : List Kp) (b : List Bd) : Bool :=
  ((List.range b.length).all fun i => prefAt s p l b i (b.getD i ⟨0, 0⟩)) && decide (b.length > 0)
/-! ### runs -/
def withX (s : List Ty) (p : Pat) (l : List Kp) (r : List Bd) (k : Int) : List Bd × Bool := match l.getLast? with
  | none => ([], false)
  | some x => bif prefixX s ⟨p.els, p.within, p.byf, true⟩ l (r ++ [⟨k, x.at_⟩]) then (r ++ [⟨k, x.at_⟩], true) else ([], false)
def startX (s : List Ty) (p : Pat) (l : List Kp) : List Bd × Bool := withX s p l [] 0
/-- The elements that an event may be bound to. -/
def elemsX (p : Pat) (k : Int) : List Int := k :: (bif decide (nextFrom p p.els.length (max 0 (k + 1)).toNat < 0) then [] else [nextFrom p p.els.length (max 0 (k + 1)).toNat])
def takeX (s : List Ty) (p : Pat) (l : List Kp) (r : List Bd) : List (List Bd) := match r.getLast? with
  | none => []
  | some b => (elemsX p b.el).filterMap fun k => bif (withX s p l r k).2 then some (withX s p l r k).1 else none
def doneX (p : Pat) (r : List Bd) : Bool := match r.getLast? with
  | none => false
  | some b => b.el == (p.els.length : Int) - 1
def lateX (p : Pat) (l : List Kp) (r : List Bd) : Bool := match l.getLast?, r.head? with
  | some k, some b => (match l.find? fun x => x.at_ == b.at_ with
    | none => true
    | some x => decide (wr (k.ev.ts - x.ev.ts) > p.within))
  | _, _ => false
end Go.AL
/- Steps of the search for a place, of rows bound: plain data. -/
namespace Go.AL
set_option linter.unusedVariables false
set_option linter.unusedSimpArgs false
def cmpI (a b : Int) : Int := bif decide (a < b) then -1 else bif decide (a > b) then 1 else 0
def posK (l : List Kp) (n : Int) : Nat := l.findIdx fun k => !decide (k.at_ < n)
def thereK (l : List Kp) (n : Int) : Bool := match l[posK l n]? with
  | some k => k.at_ == n
  | none => false
theorem cmpI_lt {a b : Int} : decide (cmpI a b < 0) = decide (a < b) := by
  unfold cmpI
  cases h : decide (a < b) with
  | true => rfl
  | false =>
    cases h2 : decide (a > b) <;> rfl
theorem cmpI_eq {a b : Int} : (cmpI a b == 0) = (a == b) := by
  unfold cmpI
  cases h : decide (a < b) with
  | true => simp at h; show false = _; symm; simp; omega
  | false =>
    cases h2 : decide (a > b) with
    | true => simp at h2; show false = _; symm; simp; omega
    | false => simp at h h2; show true = _; symm; simp; omega
theorem posK_of {l : List Kp} {n : Int} {i : Nat} (hi : i ≤ l.length) (h1 : ∀ j a, j < i → l[j]? = some a → a.at_ < n) (h2 : ∀ j a, i ≤ j → l[j]? = some a → ¬ a.at_ < n) : posK l n = i := by
  unfold posK
  rcases Nat.lt_or_ge i l.length with hlt | hge
  · rw [List.findIdx_eq hlt]
    exact ⟨by simp; have := h2 i _ (Nat.le_refl _) (List.getElem?_eq_getElem hlt); omega, fun j hj => by simp; exact h1 j _ hj (List.getElem?_eq_getElem (by omega))⟩
  · have : i = l.length := by omega
    subst this
    rw [List.findIdx_eq_length]
    intro a ha
    obtain ⟨j, hj⟩ := List.getElem?_of_mem ha
    have := h1 j a (List.getElem?_eq_some_iff.1 hj).1 hj
    simpa using this
theorem bk_left {l : List Kp} {n : Int} (hr : Rises l) {m : Nat} {a : Kp} (ha : l[m]? = some a) (hl : a.at_ < n) : ∀ j b, j < m + 1 → l[j]? = some b → b.at_ < n := fun j b hj hb => by
  by_cases hjm : j = m
  · subst hjm; rw [ha] at hb; cases hb; exact hl
  · have := hr j m b a (by omega) hb ha; omega
theorem bk_right {l : List Kp} {n : Int} (hr : Rises l) {m : Nat} {a : Kp} (ha : l[m]? = some a) (hl : ¬ a.at_ < n) : ∀ j b, m ≤ j → l[j]? = some b → ¬ b.at_ < n := fun j b hj hb => by
  by_cases hjm : j = m
  · subst hjm; rw [ha] at hb; cases hb; exact hl
  · have := hr m j a b (by omega) ha hb; omega
theorem thereK_at {l : List Kp} {n : Int} {i : Nat} {a : Kp} (hp : posK l n = i) (ha : l[i]? = some a) : thereK l n = (a.at_ == n) := by unfold thereK; rw [hp, ha]
theorem thereK_no {l : List Kp} {n : Int} {i : Nat} (hp : posK l n = i) (ha : l[i]? = none) : thereK l n = false := by unfold thereK; rw [hp, ha]
theorem find_uniq {l : List Kp} {n : Int} (hr : Rises l) {i : Nat} {a : Kp} (ha : l[i]? = some a) (hn : a.at_ = n) : l.find? (fun k => k.at_ == n) = some a := by
  cases hq : l.find? (fun k => k.at_ == n) with
  | none =>
    have := List.find?_eq_none.1 hq a (List.mem_of_getElem? ha)
    simp [hn] at this
  | some b =>
    have h1 := List.find?_some hq
    have h2 := List.mem_of_find?_eq_some hq
    obtain ⟨j, hj⟩ := List.getElem?_of_mem h2
    simp at h1
    rcases Nat.lt_trichotomy i j with h | h | h
    · have := hr i j a b h ha hj; omega
    · subst h; rw [ha] at hj; rw [hj]
    · have := hr j i b a h hj ha; omega
theorem at_yes {l : List Kp} {n : Int} (hr : Rises l) (h : thereK l n = true) : ∃ k, l[posK l n]? = some k ∧ atK l n = (k.ev, true) := by
  unfold thereK at h
  split at h
  · rename_i k hk
    refine ⟨k, hk, ?_⟩
    unfold atK
    rw [find_uniq hr hk (by simpa using h)]
  · cases h
theorem at_no {l : List Kp} {n : Int} (hr : Rises l) (h : thereK l n = false) : atK l n = (zeroE, false) := by
  unfold atK
  cases hq : l.find? (fun k => k.at_ == n) with
  | none => rfl
  | some b =>
    exfalso
    have h1 := List.find?_some hq
    have h2 := List.mem_of_find?_eq_some hq
    simp at h1
    obtain ⟨j, hj⟩ := List.getElem?_of_mem h2
    have hp : posK l n = j := posK_of (by have := (List.getElem?_eq_some_iff.1 hj).1; omega) (fun i a hi ha => by have := hr i j a b hi ha hj; omega) (fun i a hi ha => by
      by_cases hij : i = j
      · subst hij; rw [hj] at ha; cases ha; omega
      · have := hr j i b a (by omega) hj ha; omega)
    unfold thereK at h
    rw [hp, hj] at h
    simp [h1] at h
/-! ### the next element -/
theorem negX_at {p : Pat} {i : Nat} {e : El} (h : p.els[i]? = some e) : negX p i = e.neg := by unfold negX; rw [h]
theorem nextF_end {p : Pat} {n i : Nat} (h : p.els.length ≤ i) : nextFrom p n i = -1 := by
  cases n with
  | zero => rfl
  | succ n => unfold nextFrom; rw [show decide (i < p.els.length) = false by simp; omega]; rfl
theorem nextF_yes {p : Pat} {n i : Nat} {e : El} (h : p.els[i]? = some e) (hn : e.neg = false) : nextFrom p (n + 1) i = (i : Int) := by
  have hl := (List.getElem?_eq_some_iff.1 h).1
  unfold nextFrom
  rw [show decide (i < p.els.length) = true by simpa using hl, negX_at h, hn]; rfl
theorem nextF_no {p : Pat} {n i : Nat} {e : El} (h : p.els[i]? = some e) (hn : e.neg = true) : nextFrom p (n + 1) i = nextFrom p n (i + 1) := by
  have hl := (List.getElem?_eq_some_iff.1 h).1
  show (bif decide (i < p.els.length) then (bif !negX p i then (i : Int) else nextFrom p n (i + 1)) else -1) = _
  rw [show decide (i < p.els.length) = true by simpa using hl, negX_at h, hn]; rfl
/-- As many steps as are wanted. -/
theorem nextF_more {p : Pat} : ∀ {n m i : Nat}, p.els.length - i ≤ n → p.els.length - i ≤ m → nextFrom p n i = nextFrom p m i
  | n, m, i, hn, hm => by
    by_cases hl : p.els.length ≤ i
    · rw [nextF_end hl, nextF_end hl]
    · obtain ⟨n, rfl⟩ : ∃ k, n = k + 1 := ⟨n - 1, by omega⟩
      obtain ⟨m, rfl⟩ : ∃ k, m = k + 1 := ⟨m - 1, by omega⟩
      obtain ⟨e, he⟩ : ∃ e, p.els[i]? = some e := ⟨_, List.getElem?_eq_getElem (by omega)⟩
      cases hq : e.neg with
      | false => rw [nextF_yes he hq, nextF_yes he hq]
      | true =>
        rw [nextF_no he hq, nextF_no he hq]
        exact nextF_more (by omega) (by omega)
  termination_by n _ _ _ _ => n
theorem nextF_at {p : Pat} {i : Nat} {e : El} (h : p.els[i]? = some e) (hn : e.neg = false) : nextFrom p (p.els.length - i) i = (i : Int) := by
  have hl := (List.getElem?_eq_some_iff.1 h).1
  obtain ⟨n, hq⟩ : ∃ n, p.els.length - i = n + 1 := ⟨p.els.length - i - 1, by omega⟩
  rw [hq]; exact nextF_yes h hn
theorem nextF_go {p : Pat} {i : Nat} {e : El} (h : p.els[i]? = some e) (hn : e.neg = true) : nextFrom p (p.els.length - i) i = nextFrom p (p.els.length - (i + 1)) (i + 1) := by
  have hl := (List.getElem?_eq_some_iff.1 h).1
  obtain ⟨n, hq⟩ : ∃ n, p.els.length - i = n + 1 := ⟨p.els.length - i - 1, by omega⟩
  rw [hq, nextF_no h hn]; exact congrArg (fun k => nextFrom p k (i + 1)) (by omega)
theorem idx_any {α : Type} (p : α → Bool) (l : List α) : decide (idx p l ≥ 0) = l.any p := by
  unfold idx
  cases h : l.findIdx? p with
  | none =>
    rw [List.findIdx?_eq_none_iff] at h
    show decide ((-1 : Int) ≥ 0) = _
    symm
    show l.any p = false
    rw [List.any_eq_false]
    intro x hx; simp [h x hx]
  | some i =>
    have h1 := List.findIdx?_isSome (xs := l) (p := p)
    rw [h] at h1
    rw [← h1]
    show decide ((i : Int) ≥ 0) = true
    simp
/-! ### what is bound ahead -/
theorem boundX_app (p : Pat) (l : List Kp) (k : Int) : ∀ (b c : List Bd), boundX p l k (b ++ c) = boundX p l k b ++ boundX p l k c
  | [], c => rfl
  | x :: b, c => by
    show (bif (atK l x.at_).2 && decide (x.el < k) then _ else _) = (bif (atK l x.at_).2 && decide (x.el < k) then _ else _) ++ _
    cases h : (atK l x.at_).2 && decide (x.el < k) with
    | true => show _ :: boundX p l k (b ++ c) = _; rw [boundX_app p l k b c]; rfl
    | false => exact boundX_app p l k b c
theorem boundX_yes {p : Pat} {l : List Kp} {k : Int} {b : List Bd} {i : Nat} {x : Bd} (hx : b[i]? = some x) (h : ((atK l x.at_).2 && decide (x.el < k)) = true) :
    boundX p l k (b.take (i + 1)) = boundX p l k (b.take i) ++ [⟨(elX p x.el).al, (atK l x.at_).1⟩] := by
  rw [List.take_add_one, hx, show (some x).toList = [x] from rfl, boundX_app]
  show _ ++ (bif _ then _ else _) = _
  rw [h]; rfl
theorem boundX_no {p : Pat} {l : List Kp} {k : Int} {b : List Bd} {i : Nat} {x : Bd} (hx : b[i]? = some x) (h : ((atK l x.at_).2 && decide (x.el < k)) = false) :
    boundX p l k (b.take (i + 1)) = boundX p l k (b.take i) := by
  rw [List.take_add_one, hx, show (some x).toList = [x] from rfl, boundX_app]
  show _ ++ (bif _ then _ else _) = _
  rw [h]; exact List.append_nil _
theorem boundX_len (p : Pat) (l : List Kp) (k : Int) : ∀ b : List Bd, (boundX p l k b).length ≤ b.length
  | [] => Nat.le_refl _
  | x :: b => by
    have ih := boundX_len p l k b
    show (bif (atK l x.at_).2 && decide (x.el < k) then _ else _ : List Bi).length ≤ _
    cases (atK l x.at_).2 && decide (x.el < k) with
    | true => exact Nat.succ_le_succ ih
    | false => exact Nat.le_succ_of_le ih
/-- All that is bound is bound to elements that are. -/
def Fits (p : Pat) (b : List Bd) : Prop := ∀ x ∈ b, 0 ≤ x.el ∧ x.el < (p.els.length : Int)
theorem Fits.at {p : Pat} {b : List Bd} {i : Nat} {x : Bd} (h : Fits p b) (hx : b[i]? = some x) : ∃ (k : Nat) (e : El), x.el = (k : Int) ∧ p.els[k]? = some e ∧ elX p x.el = e := by
  have h1 := h x (List.mem_of_getElem? hx)
  have hl : x.el.toNat < p.els.length := by omega
  refine ⟨x.el.toNat, _, by omega, List.getElem?_eq_getElem hl, ?_⟩
  unfold elX
  rw [List.getD_eq_getElem?_getD, List.getElem?_eq_getElem hl]; rfl
/-! ### events between -/
theorem filt_t {α : Type} {p : α → Bool} {l : List α} {q : Nat} {a : α} (h : l[q]? = some a) (hp : p a = true) : ((l.take (q + 1)).filter p).length = ((l.take q).filter p).length + 1 := by
  rw [List.take_add_one, h, show (some a).toList = [a] from rfl, List.filter_append, List.length_append]
  simp [hp]
theorem filt_f {α : Type} {p : α → Bool} {l : List α} {q : Nat} {a : α} (h : l[q]? = some a) (hp : p a = false) : ((l.take (q + 1)).filter p).length = ((l.take q).filter p).length := by
  rw [List.take_add_one, h, show (some a).toList = [a] from rfl, List.filter_append, List.length_append]
  simp [hp]
theorem filt_at {α : Type} {p : α → Bool} {l : List α} {q : Nat} {a : α} (h : l[q]? = some a) (hp : p a = true) : (l.filter p)[((l.take q).filter p).length]? = some a := by
  have hl := (List.getElem?_eq_some_iff.1 h)
  have e : l = l.take q ++ a :: l.drop (q + 1) := by
    rw [← hl.2, List.getElem_cons_drop, List.take_append_drop]
  have e2 : l.filter p = (l.take q).filter p ++ a :: (l.drop (q + 1)).filter p := by
    rw [← List.filter_cons_of_pos hp, ← List.filter_append, ← e]
  rw [e2, List.getElem?_append_right (Nat.le_refl _)]
  simp
def ysP (l : List Kp) : List (List AV) := l.map fun k => [argK k]
theorem ysP_length (l : List Kp) : (ysP l).length = l.length := by simp [ysP]
theorem ysP_get {l : List Kp} {i : Nat} {k : Kp} (h : l[i]? = some k) : (ysP l)[i]? = some [argK k] := by simp [ysP, h]
theorem ysP_of {l : List Kp} {i : Nat} {args : List AV} (h : (ysP l)[i]? = some args) : ∃ k, l[i]? = some k ∧ args = [argK k] := by
  simp only [ysP, List.getElem?_map, Option.map_eq_some_iff] at h
  obtain ⟨a, ha, rfl⟩ := h
  exact ⟨a, ha, rfl⟩
theorem ysP_kf (l : List Kp) : ∀ y ∈ ysP l, kfs y = true ∧ y.length = 1 := by
  intro y hy
  simp only [ysP, List.mem_map] at hy
  obtain ⟨x, _, rfl⟩ := hy
  exact ⟨rfl, rfl⟩
def inP (u v : Int) (k : Kp) : Bool := decide (k.at_ > u) && decide (k.at_ < v)
def cntP (l : List Kp) (u v : Int) (q : Nat) : Nat := ((l.take q).filter (inP u v)).length
theorem cnt_t {l : List Kp} {u v : Int} {q : Nat} {k : Kp} (h : l[q]? = some k) (h1 : decide (k.at_ > u) = true) (h2 : decide (k.at_ < v) = true) : cntP l u v (q + 1) = cntP l u v q + 1 := filt_t h (by unfold inP; rw [h1, h2]; rfl)
theorem cnt_f {l : List Kp} {u v : Int} {q : Nat} {k : Kp} (h : l[q]? = some k) (h1 : (decide (k.at_ > u) && decide (k.at_ < v)) = false) : cntP l u v (q + 1) = cntP l u v q := filt_f h h1
theorem bet_get {l : List Kp} {u v : Int} {q : Nat} {k : Kp} (h : l[q]? = some k) (h1 : decide (k.at_ > u) = true) (h2 : decide (k.at_ < v) = true) : (ysP (betweenX l u v))[cntP l u v q]? = some [argK k] :=
  ysP_get (filt_at (p := inP u v) h (by unfold inP; rw [h1, h2]; rfl))
theorem cnt_end {l : List Kp} {u v : Int} {q : Nat} (h : l.length ≤ q) : cntP l u v q = (ysP (betweenX l u v)).length := by
  rw [ysP_length]; unfold cntP; rw [List.take_of_length_le h]; rfl
/-! ### what Nots take -/
theorem lastBd_at {b : List Bd} {x : Bd} (h : b[b.length - 1]? = some x) : lastBd b = x := by
  unfold lastBd
  rw [List.getLastD_eq_getLast?, List.getLast?_eq_getElem?, h]; rfl
theorem firstE_at {l : List Kp} {b : List Bd} {x : Bd} (h : b[0]? = some x) : firstE l b = (atK l x.at_).1 := by
  unfold firstE
  cases b with
  | nil => simp at h
  | cons y r => simp at h; subst h; rfl
def meetX (s : List Ty) (p : Pat) (l : List Kp) (b : List Bd) (n : Int) (k : Kp) : Bool := takesX s p l b n k.ev && alikeX s p (firstE l b) k.ev
theorem met_no {s : List Ty} {p : Pat} {l : List Kp} {b : List Bd} {to n : Int} (h : ∀ j k, j < (betweenX l (lastBd b).at_ to).length → (betweenX l (lastBd b).at_ to)[j]? = some k → meetX s p l b n k = false) : metX s p l b to n = false := by
  unfold metX
  rw [List.any_eq_false]
  intro k hk
  obtain ⟨j, hj⟩ := List.getElem?_of_mem hk
  have := h j k (List.getElem?_eq_some_iff.1 hj).1 hj
  unfold meetX at this
  simp [this]
theorem met_yes {s : List Ty} {p : Pat} {l : List Kp} {b : List Bd} {to n : Int} {j : Nat} {k : Kp} (hj : (betweenX l (lastBd b).at_ to)[j]? = some k) (h : meetX s p l b n k = true) : metX s p l b to n = true := by
  unfold metX
  rw [List.any_eq_true]
  exact ⟨k, List.mem_of_getElem? hj, h⟩
theorem guard_no {s : List Ty} {p : Pat} {l : List Kp} {b : List Bd} {x : Bd} {m i : Nat} (hm : (lastBd b).el = (m : Int)) (hi : ((m + 1 + i : Nat) : Int) < x.el) (h : metX s p l b x.at_ ((m + 1 + i : Nat) : Int) = true) : guardX s p l b x = false := by
  unfold guardX
  rw [List.all_eq_false]
  refine ⟨i, List.mem_range.2 (by rw [hm]; omega), ?_⟩
  rw [hm, show ((m : Int) + 1 + (i : Int)) = ((m + 1 + i : Nat) : Int) by omega, h]; simp
theorem guard_yes {s : List Ty} {p : Pat} {l : List Kp} {b : List Bd} {x : Bd} {m i : Nat} (hm : (lastBd b).el = (m : Int)) (hi : x.el ≤ ((m + 1 + i : Nat) : Int)) (h : ∀ j, j < i → metX s p l b x.at_ ((m + 1 + j : Nat) : Int) = false) : guardX s p l b x = true := by
  unfold guardX
  rw [List.all_eq_true]
  intro j hj
  have hj := List.mem_range.1 hj
  rw [hm] at hj
  rw [hm, show ((m : Int) + 1 + (j : Int)) = ((m + 1 + j : Nat) : Int) by omega, h j (by omega)]; rfl
/-! ### whether a row goes on -/
theorem goes_no {s : List Ty} {p : Pat} {l : List Kp} {b : List Bd} {x : Bd} (h : (!(atK l x.at_).2 || (decide (x.el < 0) || decide (x.el ≥ (p.els.length : Int)))) = true) : goesX s p l b x = false := by
  unfold goesX; rw [h]; rfl
theorem goes_nil {s : List Ty} {p : Pat} {l : List Kp} {x : Bd} (h : (!(atK l x.at_).2 || (decide (x.el < 0) || decide (x.el ≥ (p.els.length : Int)))) = false) : goesX s p l [] x = (x.el == 0 && takesX s p l [] 0 (atK l x.at_).1) := by
  unfold goesX; rw [h]; rfl
theorem goes_on {s : List Ty} {p : Pat} {l : List Kp} {b : List Bd} {x lst : Bd} {fe : Ev} {sm : Bool} (h : (!(atK l x.at_).2 || (decide (x.el < 0) || decide (x.el ≥ (p.els.length : Int)))) = false) (hb : b.isEmpty = false) (hl : lastBd b = lst) (hf : firstE l b = fe) (hs : (x.el == lst.el && (elX p lst.el).plus) = sm) :
    goesX s p l b x = bif decide (x.at_ ≤ lst.at_) || ((!sm && (x.el != nextX p lst.el)) || decide (wr ((atK l x.at_).1.ts - fe.ts) > p.within)) then false else alikeX s p fe (atK l x.at_).1 && (takesX s p l b x.el (atK l x.at_).1 && (sm || guardX s p l b x)) := by
  unfold goesX; rw [h, hb, hl, hf, hs]; rfl
theorem goes_in {s : List Ty} {p : Pat} {l : List Kp} {b : List Bd} {x : Bd} (h : goesX s p l b x = true) : 0 ≤ x.el ∧ x.el < (p.els.length : Int) := by
  cases hq : (!(atK l x.at_).2 || (decide (x.el < 0) || decide (x.el ≥ (p.els.length : Int)))) with
  | true => rw [goes_no hq] at h; cases h
  | false => simp at hq; omega
theorem skips_yes {s : List Ty} {p : Pat} {l : List Kp} {b : List Bd} {to : Int} {j : Nat} {k : Kp} (hj : (betweenX l (lastBd b).at_ to)[j]? = some k) (h : (goesX s p l b ⟨(lastBd b).el, k.at_⟩ || goesX s p l b ⟨nextX p (lastBd b).el, k.at_⟩) = true) : skipsX s p l b to = true := by
  unfold skipsX
  rw [List.any_eq_true]
  exact ⟨k, List.mem_of_getElem? hj, h⟩
theorem skips_no {s : List Ty} {p : Pat} {l : List Kp} {b : List Bd} {to : Int} (h : ∀ j k, j < (betweenX l (lastBd b).at_ to).length → (betweenX l (lastBd b).at_ to)[j]? = some k → (goesX s p l b ⟨(lastBd b).el, k.at_⟩ || goesX s p l b ⟨nextX p (lastBd b).el, k.at_⟩) = false) : skipsX s p l b to = false := by
  unfold skipsX
  rw [List.any_eq_false]
  intro k hk
  obtain ⟨j, hj⟩ := List.getElem?_of_mem hk
  rw [h j k (List.getElem?_eq_some_iff.1 hj).1 hj]; exact Bool.false_ne_true
theorem pref_goes {s : List Ty} {p : Pat} {l : List Kp} {b : List Bd} {i : Nat} {x : Bd} (h : prefAt s p l b i x = true) : goesX s p l (b.take i) x = true := by
  unfold prefAt at h
  cases hq : goesX s p l (b.take i) x with
  | true => rfl
  | false => rw [hq] at h; simp at h
theorem pref_fits {s : List Ty} {p : Pat} {l : List Kp} {b : List Bd} {i : Nat} (h : ∀ j x, j < i → b[j]? = some x → prefAt s p l b j x = true) : Fits p (b.take i) := fun x hx => by
  obtain ⟨j, hj⟩ := List.getElem?_of_mem hx
  have hlt := (List.getElem?_eq_some_iff.1 hj).1
  rw [List.length_take] at hlt
  rw [List.getElem?_take_of_lt (by omega)] at hj
  exact goes_in (pref_goes (h j x (by omega) hj))
theorem pref_no {s : List Ty} {p : Pat} {l : List Kp} {b : List Bd} {i : Nat} {x : Bd} (hx : b[i]? = some x) (h : prefAt s p l b i x = false) : prefixX s p l b = false := by
  unfold prefixX
  rw [show ((List.range b.length).all fun i => prefAt s p l b i (b.getD i ⟨0, 0⟩)) = false from List.all_eq_false.2 ⟨i, List.mem_range.2 (List.getElem?_eq_some_iff.1 hx).1, by rw [List.getD_eq_getElem?_getD, hx]; simp [h]⟩]
  rfl
theorem pref_all {s : List Ty} {p : Pat} {l : List Kp} {b : List Bd} (h : ∀ j x, j < b.length → b[j]? = some x → prefAt s p l b j x = true) : prefixX s p l b = decide ((b.length : Int) > 0) := by
  unfold prefixX
  rw [show ((List.range b.length).all fun i => prefAt s p l b i (b.getD i ⟨0, 0⟩)) = true from List.all_eq_true.2 fun i hi => by
    have hi := List.mem_range.1 hi
    rw [List.getD_eq_getElem?_getD, List.getElem?_eq_getElem hi]
    exact h i _ hi (List.getElem?_eq_getElem hi)]
  show (true && _) = _
  rw [Bool.true_and]
  exact decide_eq_decide.2 (by omega)
theorem take_pos {b : List Bd} {i : Nat} {x : Bd} (hx : b[i]? = some x) (h : decide (((i : Nat) : Int) > 0) = true) : 0 < (b.take i).length := by
  have := (List.getElem?_eq_some_iff.1 hx).1
  simp at h
  rw [List.length_take]; omega
end Go.AL
/- One partial match: what the last of a row is, when it is late. -/
namespace Go.AL
set_option linter.unusedVariables false
set_option linter.unusedSimpArgs false
def zeroK : Kp := ⟨0, zeroE⟩
def lastK (l : List Kp) : Kp × Bool := match l.getLast? with
  | some k => (k, true)
  | none => (zeroK, false)
def lastD (l : List Bd) : Bd × Bool := match l.getLast? with
  | some k => (k, true)
  | none => (⟨0, 0⟩, false)
def argRun (r : List Bd) : AV := .agg [.d (SBd r)]
theorem lastK_at {l : List Kp} {k : Kp} (h : l[l.length - 1]? = some k) : lastK l = (k, true) := by
  unfold lastK; rw [List.getLast?_eq_getElem?, h]
theorem lastD_at {l : List Bd} {k : Bd} (h : l[l.length - 1]? = some k) : lastD l = (k, true) := by
  unfold lastD; rw [List.getLast?_eq_getElem?, h]
theorem idx_neg {α : Type} {p : α → Bool} {l : List α} (h : decide (idx p l < 0) = true) : l.find? p = none := by
  unfold idx at h
  cases hq : l.findIdx? p with
  | none =>
    rw [List.findIdx?_eq_none_iff] at hq
    exact List.find?_eq_none.2 fun x hx => by rw [hq x hx]; simp
  | some i => rw [hq] at h; simp at h; omega
theorem idx_pos {α : Type} {p : α → Bool} {l : List α} (h : decide (idx p l < 0) = false) : ∃ (i : Nat) (a : α), idx p l = (i : Int) ∧ l[i]? = some a ∧ l.find? p = some a := by
  unfold idx at h ⊢
  cases hq : l.findIdx? p with
  | none => rw [hq] at h; simp at h
  | some i =>
    obtain ⟨hlt, h1, h2⟩ := List.findIdx?_eq_some_iff_getElem.1 hq
    refine ⟨i, l[i], rfl, List.getElem?_eq_getElem hlt, ?_⟩
    rw [List.find?_eq_some_iff_getElem]
    exact ⟨h1, i, hlt, rfl, fun j hj => by simpa using h2 j hj⟩
theorem late_1 {p : Pat} {l : List Kp} {r : List Bd} (h : (lastK l).2 = false) : lateX p l r = false := by
  unfold lastK at h; unfold lateX
  cases hq : l.getLast? with
  | none => rfl
  | some k => rw [hq] at h; cases h
theorem late_2 {p : Pat} {l : List Kp} : lateX p l [] = false := by
  unfold lateX
  cases l.getLast? <;> rfl
theorem late_3 {p : Pat} {l : List Kp} {r : List Bd} {b0 : Bd} (h : (lastK l).2 = true) (hb : r[0]? = some b0) (hf : l.find? (fun k => k.at_ == b0.at_) = none) : lateX p l r = true := by
  unfold lastK at h; unfold lateX
  cases r with
  | nil => simp at hb
  | cons y t =>
    simp at hb; subst hb
    cases hq : l.getLast? with
    | none => rw [hq] at h; cases h
    | some k => simp only [List.head?_cons, hf]
theorem late_4 {p : Pat} {l : List Kp} {r : List Bd} {b0 : Bd} {x : Kp} (h : (lastK l).2 = true) (hb : r[0]? = some b0) (hf : l.find? (fun k => k.at_ == b0.at_) = some x) : lateX p l r = decide (wr ((lastK l).1.ev.ts - x.ev.ts) > p.within) := by
  unfold lastK at h ⊢; unfold lateX
  cases r with
  | nil => simp at hb
  | cons y t =>
    simp at hb; subst hb
    cases hq : l.getLast? with
    | none => rw [hq] at h; cases h
    | some k => simp only [List.head?_cons, hf]
theorem with_1 {s : List Ty} {p : Pat} {l : List Kp} {r : List Bd} {k : Int} {A : Kp × Bool} (hA : lastK l = A) (h : A.2 = false) : withX s p l r k = ([], false) := by
  unfold lastK at hA; unfold withX
  cases hq : l.getLast? with
  | none => rfl
  | some x => rw [hq] at hA; subst hA; cases h
theorem with_2 {s : List Ty} {p : Pat} {l : List Kp} {r : List Bd} {k : Int} {A : Kp × Bool} (hA : lastK l = A) (h : A.2 = true) : withX s p l r k = bif prefixX s ⟨p.els, p.within, p.byf, true⟩ l (r ++ [⟨k, A.1.at_⟩]) then (r ++ [⟨k, A.1.at_⟩], true) else ([], false) := by
  unfold lastK at hA; unfold withX
  cases hq : l.getLast? with
  | none => rw [hq] at hA; subst hA; cases h
  | some x => rw [hq] at hA; subst hA; rfl
theorem done_1 {p : Pat} {r : List Bd} {A : Bd × Bool} (hA : lastD r = A) (h : A.2 = false) : doneX p r = false := by
  unfold lastD at hA; unfold doneX
  cases hq : r.getLast? with
  | none => rfl
  | some x => rw [hq] at hA; subst hA; cases h
theorem done_2 {p : Pat} {r : List Bd} {A : Bd × Bool} (hA : lastD r = A) (h : A.2 = true) : doneX p r = (A.1.el == (p.els.length : Int) - 1) := by
  unfold lastD at hA; unfold doneX
  cases hq : r.getLast? with
  | none => rw [hq] at hA; subst hA; cases h
  | some x => rw [hq] at hA; subst hA; rfl
/-! ### what an event makes of a run -/
def encR (r : List Bd) : List D := [SBd r]
def runF (s : List Ty) (p : Pat) (l : List Kp) (r : List Bd) (k : Int) : Option (List Bd) := bif (withX s p l r k).2 then some (withX s p l r k).1 else none
theorem take_1 {s : List Ty} {p : Pat} {l : List Kp} {r : List Bd} {A : Bd × Bool} (hA : lastD r = A) (h : A.2 = false) : takeX s p l r = [] := by
  unfold lastD at hA; unfold takeX
  cases hq : r.getLast? with
  | none => rfl
  | some x => rw [hq] at hA; subst hA; cases h
theorem take_2 {s : List Ty} {p : Pat} {l : List Kp} {r : List Bd} {A : Bd × Bool} (hA : lastD r = A) (h : A.2 = true) : takeX s p l r = (elemsX p A.1.el).filterMap (runF s p l r) := by
  unfold lastD at hA; unfold takeX
  cases hq : r.getLast? with
  | none => rw [hq] at hA; subst hA; cases h
  | some x => rw [hq] at hA; subst hA; rfl
theorem elems_eq (p : Pat) (m : Nat) : elemsX p (m : Int) = (m : Int) :: (bif decide (nextX p m < 0) then [] else [nextX p m]) := by
  unfold elemsX nextX
  rw [show (max 0 ((m : Int) + 1)).toNat = ((m : Int) + 1).toNat by omega]
theorem nextX_from {p : Pat} {m : Nat} : nextX p (m : Int) = nextFrom p (p.els.length - (m + 1)) (m + 1) := by
  unfold nextX; rw [show ((m : Int) + 1).toNat = m + 1 by omega]; exact nextF_more (by omega) (Nat.le_refl _)
/-- How far the search for the next element is. -/
def Sought (p : Pat) (m i : Nat) (ks : List Int) : Prop := m + 1 ≤ i ∧ ((ks = [(m : Int)] ∧ nextX p m = nextFrom p (p.els.length - i) i) ∨ ∃ j : Nat, ks = [(m : Int), (j : Int)] ∧ nextX p m = (j : Int))
theorem Sought.done {p : Pat} {m i : Nat} {ks : List Int} (h : Sought p m i ks) (hd : p.els.length ≤ i ∨ ks.length ≠ 1) : elemsX p (m : Int) = ks := by
  rw [elems_eq]
  rcases h.2 with ⟨rfl, hn⟩ | ⟨j, rfl, hn⟩
  · rcases hd with hd | hd
    · rw [hn, nextF_end hd]; rfl
    · exact absurd rfl hd
  · rw [hn, show decide ((j : Int) < 0) = false by simp]; rfl
theorem Sought.one {p : Pat} {m i : Nat} {ks : List Int} (h : Sought p m i ks) (hd : ks.length = 1) : ks = [(m : Int)] ∧ nextX p m = nextFrom p (p.els.length - i) i := by
  rcases h.2 with h | ⟨j, rfl, hn⟩
  · exact h
  · cases hd
theorem Sought.len {p : Pat} {m i : Nat} {ks : List Int} (h : Sought p m i ks) : ks.length ≤ 2 := by
  rcases h.2 with ⟨rfl, _⟩ | ⟨j, rfl, _⟩ <;> simp
theorem elems_len (p : Pat) (m : Nat) : (elemsX p (m : Int)).length ≤ 2 := by
  rw [elems_eq]; cases decide (nextX p m < 0) <;> simp
theorem fm_t {α β : Type} {f : α → Option β} {l : List α} {q : Nat} {a : α} {b : β} (h : l[q]? = some a) (hf : f a = some b) : (l.take (q + 1)).filterMap f = (l.take q).filterMap f ++ [b] := by
  rw [List.take_add_one, h, show (some a).toList = [a] from rfl, List.filterMap_append]
  simp [hf]
theorem fm_f {α β : Type} {f : α → Option β} {l : List α} {q : Nat} {a : α} (h : l[q]? = some a) (hf : f a = none) : (l.take (q + 1)).filterMap f = (l.take q).filterMap f := by
  rw [List.take_add_one, h, show (some a).toList = [a] from rfl, List.filterMap_append]
  simp [hf]
theorem fm_len {α β : Type} (f : α → Option β) (l : List α) : (l.filterMap f).length ≤ l.length := List.length_filterMap_le f l
/-! ### what the laws make -/
def evT (ts n : Int) : Ev := ⟨ch 116, ts, [⟨3, 0, nul⟩, ⟨1, n, nul⟩, ⟨2, 0, nul⟩]⟩
def okAt (l : List Ev) (i : Nat) : Bool := !((evtR bS (l.getD i zeroE) != 0) || (decide (i > 0) && decide ((l.getD (i - 1) zeroE).ts > (l.getD i zeroE).ts)))
def okS (l : List Ev) : Bool := (List.range l.length).all (okAt l)
def keptX (l : List Ev) (n : Nat) : List Kp := l.zipIdx.map fun x => ⟨((n + x.2 : Nat) : Int), x.1⟩
def streamX (l : List Ev) (n : Nat) : List Kp × Bool := bif okS l then (keptX l n, true) else ([], false)
theorem getD_at {l : List Ev} {i : Nat} {e : Ev} (h : l[i]? = some e) : l.getD i zeroE = e := by rw [List.getD_eq_getElem?_getD, h]; rfl
theorem stream_no {l : List Ev} {n i : Nat} (hi : i < l.length) (h : okAt l i = false) : streamX l n = ([], false) := by
  unfold streamX okS
  rw [show (List.range l.length).all (okAt l) = false from List.all_eq_false.2 ⟨i, List.mem_range.2 hi, by rw [h]; exact Bool.false_ne_true⟩]; rfl
theorem stream_yes {l : List Ev} {n : Nat} (h : ∀ i, i < l.length → okAt l i = true) : streamX l n = (keptX l n, true) := by
  unfold streamX okS
  rw [show (List.range l.length).all (okAt l) = true from List.all_eq_true.2 fun i hi => h i (List.mem_range.1 hi)]; rfl
theorem kept_snoc {l : List Ev} {n i : Nat} {e : Ev} (h : l[i]? = some e) : keptX (l.take (i + 1)) n = keptX (l.take i) n ++ [⟨((n + i : Nat) : Int), e⟩] := by
  have hl := (List.getElem?_eq_some_iff.1 h).1
  rw [List.take_add_one, h, show (some e).toList = [e] from rfl]
  unfold keptX
  rw [List.zipIdx_append, List.map_append, List.length_take, Nat.min_eq_left (by omega)]
  simp
theorem kept_len (l : List Ev) (n : Nat) : (keptX l n).length = l.length := by simp [keptX]
end Go.AL
/- Law 15's RunLate: of the fixed pattern a run takes nothing just where it is late. -/
namespace Go.AL
set_option linter.unusedVariables false
set_option linter.unusedSimpArgs false
theorem kept_get {l : List Ev} {n i : Nat} {e : Ev} (h : l[i]? = some e) : (keptX l n)[i]? = some ⟨((n + i : Nat) : Int), e⟩ := by
  unfold keptX
  rw [List.getElem?_map, List.getElem?_zipIdx, h]; simp
theorem kept_of {l : List Ev} {n i : Nat} {k : Kp} (h : (keptX l n)[i]? = some k) : k.at_ = ((n + i : Nat) : Int) := by
  have hl := (List.getElem?_eq_some_iff.1 h).1
  rw [kept_len] at hl
  rw [kept_get (List.getElem?_eq_getElem hl)] at h
  cases h; rfl
theorem kept_rises (l : List Ev) (n : Nat) : Rises (keptX l n) := fun i j a b hij ha hb => by
  rw [kept_of ha, kept_of hb]; omega
theorem kept_at {l : List Ev} {n i : Nat} {e : Ev} (h : l[i]? = some e) : atK (keptX l n) ((n + i : Nat) : Int) = (e, true) := by
  unfold atK
  rw [find_uniq (kept_rises l n) (kept_get h) rfl]
theorem kept_find {l : List Ev} {n i : Nat} {e : Ev} (h : l[i]? = some e) : (keptX l n).find? (fun k => k.at_ == ((n + i : Nat) : Int)) = some ⟨((n + i : Nat) : Int), e⟩ := find_uniq (kept_rises l n) (kept_get h) rfl
theorem kept_last {l : List Ev} {n : Nat} {e : Ev} (h : l[l.length - 1]? = some e) : lastK (keptX l n) = (⟨((n + (l.length - 1) : Nat) : Int), e⟩, true) :=
  lastK_at (by rw [kept_len]; exact kept_get h)
def eL (a : ByteArray) : El := ⟨a, [ch 116], false, false, zeroX⟩
def pL (w : Int) : Pat := ⟨[eL (ch 97), eL (ch 98)], w, nul, false⟩
def pLA (w : Int) : Pat := ⟨[eL (ch 97), eL (ch 98)], w, nul, true⟩
theorem holds_zero (s : List Ty) (b : List Bi) : holdsX s b zeroX = true := by
  unfold holdsX
  rw [show sameX zeroX zeroX = true by decide +kernel]; rfl
theorem takes_t {w : Int} {l : List Kp} {b : List Bd} {e : Ev} {k : Int} (hk : k = 0 ∨ k = 1) (ht : e.ty = ch 116) : takesX bS (pLA w) l b k e = true := by
  have h : ∃ a, elX (pLA w) k = eL a := by rcases hk with rfl | rfl <;> exact ⟨_, rfl⟩
  obtain ⟨a, ha⟩ := h
  unfold takesX hasTy
  rw [ha, ht]
  show (([ch 116].any fun x => same x (ch 116)) && holdsX bS _ zeroX) = true
  rw [holds_zero, show ([ch 116].any fun x => same x (ch 116)) = true by decide +kernel]; rfl
theorem alike_all {s : List Ty} {w : Int} {a b : Ev} : alikeX s (pLA w) a b = true := by
  unfold alikeX
  rw [show same (pLA w).byf nul = true from (by decide +kernel : same nul nul = true)]; rfl
section
variable {l : List Ev} {i : Nat} {e d : Ev} {w : Int}
theorem goes_first (he : l[i]? = some e) (ht : e.ty = ch 116) : goesX bS (pLA w) (keptX l 5) [] ⟨0, ((5 + i : Nat) : Int)⟩ = true := by
  rw [goes_nil (by rw [kept_at he]; rfl), kept_at he, takes_t (.inl rfl) ht]; rfl
theorem goes_same (he : l[i]? = some e) (hd : l[l.length - 1]? = some d) : goesX bS (pLA w) (keptX l 5) [⟨0, ((5 + i : Nat) : Int)⟩] ⟨0, ((5 + (l.length - 1) : Nat) : Int)⟩ = false := by
  rw [goes_on (lst := ⟨0, ((5 + i : Nat) : Int)⟩) (fe := e) (sm := false) (by rw [kept_at hd]; rfl) rfl rfl (by rw [firstE_at (x := ⟨0, ((5 + i : Nat) : Int)⟩) rfl, kept_at he]) rfl]
  rw [show ((!false && ((⟨0, ((5 + (l.length - 1) : Nat) : Int)⟩ : Bd).el != nextX (pLA w) (⟨0, ((5 + i : Nat) : Int)⟩ : Bd).el)) : Bool) = true from rfl]
  cases decide ((⟨0, ((5 + (l.length - 1) : Nat) : Int)⟩ : Bd).at_ ≤ (⟨0, ((5 + i : Nat) : Int)⟩ : Bd).at_) <;> rfl
theorem goes_next (he : l[i]? = some e) (hd : l[l.length - 1]? = some d) (hi : i + 1 < l.length) (ht : d.ty = ch 116) : goesX bS (pLA w) (keptX l 5) [⟨0, ((5 + i : Nat) : Int)⟩] ⟨1, ((5 + (l.length - 1) : Nat) : Int)⟩ = !decide (wr (d.ts - e.ts) > w) := by
  rw [goes_on (lst := ⟨0, ((5 + i : Nat) : Int)⟩) (fe := e) (sm := false) (by rw [kept_at hd]; rfl) rfl rfl (by rw [firstE_at (x := ⟨0, ((5 + i : Nat) : Int)⟩) rfl, kept_at he]) rfl]
  rw [show ((!false && ((⟨1, ((5 + (l.length - 1) : Nat) : Int)⟩ : Bd).el != nextX (pLA w) (⟨0, ((5 + i : Nat) : Int)⟩ : Bd).el)) : Bool) = false from rfl,
    show decide ((⟨1, ((5 + (l.length - 1) : Nat) : Int)⟩ : Bd).at_ ≤ (⟨0, ((5 + i : Nat) : Int)⟩ : Bd).at_) = false by simp; omega, kept_at hd]
  show (bif (false || (false || decide (wr (d.ts - e.ts) > w))) then false else _) = _
  rw [alike_all, takes_t (.inr rfl) ht]
  cases decide (wr (d.ts - e.ts) > w) with
  | true => rfl
  | false => rfl
/-- A run of one event and the last one. -/
theorem pref_two {k : Int} (he : l[i]? = some e) (ht : e.ty = ch 116) : prefixX bS (pLA w) (keptX l 5) ([⟨0, ((5 + i : Nat) : Int)⟩] ++ [⟨k, ((5 + (l.length - 1) : Nat) : Int)⟩]) = goesX bS (pLA w) (keptX l 5) [⟨0, ((5 + i : Nat) : Int)⟩] ⟨k, ((5 + (l.length - 1) : Nat) : Int)⟩ := by
  have h0 : prefAt bS (pLA w) (keptX l 5) ([⟨0, ((5 + i : Nat) : Int)⟩] ++ [⟨k, ((5 + (l.length - 1) : Nat) : Int)⟩]) 0 ⟨0, ((5 + i : Nat) : Int)⟩ = true := by
    unfold prefAt
    show (!(!goesX bS (pLA w) (keptX l 5) [] ⟨0, ((5 + i : Nat) : Int)⟩ || (!true && _))) = true
    rw [goes_first he ht]; rfl
  have h1 : prefAt bS (pLA w) (keptX l 5) ([⟨0, ((5 + i : Nat) : Int)⟩] ++ [⟨k, ((5 + (l.length - 1) : Nat) : Int)⟩]) 1 ⟨k, ((5 + (l.length - 1) : Nat) : Int)⟩ = goesX bS (pLA w) (keptX l 5) [⟨0, ((5 + i : Nat) : Int)⟩] ⟨k, ((5 + (l.length - 1) : Nat) : Int)⟩ := by
    unfold prefAt
    show (!(!goesX bS (pLA w) (keptX l 5) [⟨0, ((5 + i : Nat) : Int)⟩] ⟨k, ((5 + (l.length - 1) : Nat) : Int)⟩ || (!true && _))) = _
    cases goesX bS (pLA w) (keptX l 5) [⟨0, ((5 + i : Nat) : Int)⟩] ⟨k, ((5 + (l.length - 1) : Nat) : Int)⟩ <;> rfl
  cases hg : goesX bS (pLA w) (keptX l 5) [⟨0, ((5 + i : Nat) : Int)⟩] ⟨k, ((5 + (l.length - 1) : Nat) : Int)⟩ with
  | false => exact pref_no (i := 1) (x := ⟨k, ((5 + (l.length - 1) : Nat) : Int)⟩) rfl (h1.trans hg)
  | true =>
    rw [pref_all (fun j x hj hx => by
      match j with
      | 0 => cases hx; exact h0
      | 1 => cases hx; exact h1.trans hg
      | j + 2 => exact absurd hj (by simp))]
    rfl
theorem with_run {k : Int} (he : l[i]? = some e) (hd : l[l.length - 1]? = some d) (ht : e.ty = ch 116) : (withX bS (pL w) (keptX l 5) [⟨0, ((5 + i : Nat) : Int)⟩] k).2 = goesX bS (pLA w) (keptX l 5) [⟨0, ((5 + i : Nat) : Int)⟩] ⟨k, ((5 + (l.length - 1) : Nat) : Int)⟩ := by
  rw [with_2 (kept_last hd) rfl]
  have h := pref_two (k := k) (w := w) he ht
  show (bif prefixX bS (pLA w) (keptX l 5) ([⟨0, ((5 + i : Nat) : Int)⟩] ++ [⟨k, ((5 + (l.length - 1) : Nat) : Int)⟩]) then _ else _ : List Bd × Bool).2 = _
  rw [h]
  cases goesX bS (pLA w) (keptX l 5) [⟨0, ((5 + i : Nat) : Int)⟩] ⟨k, ((5 + (l.length - 1) : Nat) : Int)⟩ <;> rfl
/-- Taken by none just where it is late. -/
theorem take_late (he : l[i]? = some e) (hd : l[l.length - 1]? = some d) (hi : i + 1 < l.length) (ht : ∀ x ∈ l, x.ty = ch 116) :
    ((takeX bS (pL w) (keptX l 5) [⟨0, ((5 + i : Nat) : Int)⟩]).length == 0) = decide (wr (d.ts - e.ts) > w) := by
  have h1 := with_run (k := 0) (w := w) he hd (ht e (List.mem_of_getElem? he))
  have h2 := with_run (k := 1) (w := w) he hd (ht e (List.mem_of_getElem? he))
  rw [goes_same he hd] at h1
  rw [goes_next he hd hi (ht d (List.mem_of_getElem? hd))] at h2
  rw [take_2 (A := (⟨0, ((5 + i : Nat) : Int)⟩, true)) rfl rfl]
  show (((([0, 1] : List Int)).filterMap (runF bS (pL w) (keptX l 5) [⟨0, ((5 + i : Nat) : Int)⟩])).length == 0) = _
  have f1 : runF bS (pL w) (keptX l 5) [⟨0, ((5 + i : Nat) : Int)⟩] 0 = none := by unfold runF; rw [h1]; rfl
  rw [List.filterMap_cons, f1, List.filterMap_cons, List.filterMap_nil]
  unfold runF
  rw [h2]
  cases decide (wr (d.ts - e.ts) > w) <;> rfl
theorem late_run (he : l[i]? = some e) (hd : l[l.length - 1]? = some d) : lateX (pL w) (keptX l 5) [⟨0, ((5 + i : Nat) : Int)⟩] = decide (wr (d.ts - e.ts) > w) := by
  have hk := kept_last (n := 5) hd
  rw [late_4 (b0 := ⟨0, ((5 + i : Nat) : Int)⟩) (by rw [hk]) rfl (kept_find he), hk]; rfl
end
end Go.AL
/- What law 15's known() sees, computed. -/
namespace Go.AL
set_option linter.unusedVariables false
set_option linter.unusedSimpArgs false
def lN : List Ev := [evT 1 1, evT 2 1]
def pN : Pat := ⟨[⟨ch 97, [ch 116], true, false, zeroX⟩, eL (ch 98)], 5, nul, false⟩
def kN : List Kp := [⟨0, evT 1 1⟩, ⟨1, evT 2 1⟩]
theorem known_stream : streamX lN 0 = (kN, true) := by
  have h : okS lN = true := by decide +kernel
  unfold streamX; rw [h]; rfl
theorem known_start : startX bS pN (kN.take 1) = ([⟨0, 0⟩], true) := by decide +kernel
theorem known_take : takeX bS pN kN [⟨0, 0⟩] = [[⟨0, 0⟩, ⟨0, 1⟩], [⟨0, 0⟩, ⟨1, 1⟩]] := by decide +kernel
theorem known_none : startX bS pN [] = ([], false) := by decide +kernel
theorem known_done1 : doneX pN [⟨0, 0⟩, ⟨1, 1⟩] = true := by decide +kernel
theorem known_done0 : doneX pN [⟨0, 0⟩, ⟨0, 1⟩] = false := by decide +kernel
theorem known_late : lateX pN kN [⟨0, 0⟩] = false := by decide +kernel
theorem evT_ok {ts : Int} (h : 0 ≤ ts ∧ ts ≤ 1073741824) : evtR bS (evT ts 0) = 0 := by
  have h1 : findT bS (ch 116) = (⟨ch 116, [⟨ch 98, 3⟩, ⟨ch 110, 1⟩, ⟨ch 115, 2⟩]⟩, true) := findT_at (i := 0) rfl (by decide +kernel) (fun j a hj => by omega)
  unfold evtR
  show _ = _
  simp only [show (evT ts 0).ty = ch 116 from rfl, h1]
  rw [show decide ((evT ts 0).ts < 0) = false from decide_eq_false (show ¬ ts < 0 by omega), show decide ((evT ts 0).ts > 1073741824) = false from decide_eq_false (show ¬ ts > 1073741824 by omega)]
  have h2 : ([⟨3, 0, nul⟩, ⟨1, 0, nul⟩, ⟨2, 0, nul⟩] : List Vl).all isVal = true := by decide +kernel
  have h3 : kindsAs ([⟨3, 0, nul⟩, ⟨1, 0, nul⟩, ⟨2, 0, nul⟩] : List Vl) [⟨ch 98, 3⟩, ⟨ch 110, 1⟩, ⟨ch 115, 2⟩] = true := by decide +kernel
  rw [show (evT ts 0).vals = [⟨3, 0, nul⟩, ⟨1, 0, nul⟩, ⟨2, 0, nul⟩] from rfl, h2, h3]; rfl
end Go.AL
/- Law 15's RunLate: the events that it makes, and that it tells true of them. -/
namespace Go.AL
set_option linter.unusedVariables false
set_option linter.unusedSimpArgs false
/-- How late it is behind so many events. -/
def nowX (ts : List Nat) (i : Nat) : Nat := ((ts.take i).map (· % 20)).sum
def evsX (ts : List Nat) : List Ev := (List.range ts.length).map fun i => evT ((nowX ts (i + 1) : Nat) : Int) 0
theorem now_0 (ts : List Nat) : nowX ts 0 = 0 := rfl
theorem now_succ {ts : List Nat} {i t : Nat} (h : ts[i]? = some t) : nowX ts (i + 1) = nowX ts i + t % 20 := by
  unfold nowX
  rw [List.take_add_one, h, show (some t).toList = [t] from rfl, List.map_append, List.sum_append]; simp
theorem now_le (ts : List Nat) : ∀ i, nowX ts i ≤ 20 * i
  | 0 => by simp [now_0]
  | i + 1 => by
    have ih := now_le ts i
    cases h : ts[i]? with
    | some t => rw [now_succ h]; have := Nat.mod_lt t (show 0 < 20 by omega); omega
    | none =>
      have hl := List.getElem?_eq_none_iff.1 h
      unfold nowX at ih ⊢
      rw [List.take_of_length_le (by omega)] at ih ⊢; omega
theorem now_mono (ts : List Nat) (i : Nat) : nowX ts i ≤ nowX ts (i + 1) := by
  cases h : ts[i]? with
  | some t => rw [now_succ h]; omega
  | none =>
    have hl := List.getElem?_eq_none_iff.1 h
    unfold nowX
    rw [List.take_of_length_le (by omega), List.take_of_length_le (by omega)]; exact Nat.le_refl _
theorem evs_len (ts : List Nat) : (evsX ts).length = ts.length := by simp [evsX]
theorem evs_get {ts : List Nat} {i : Nat} (h : i < ts.length) : (evsX ts)[i]? = some (evT ((nowX ts (i + 1) : Nat) : Int) 0) := by
  unfold evsX; rw [List.getElem?_map, List.getElem?_range h]; rfl
theorem evs_snoc {ts : List Nat} {i t : Nat} (h : ts[i]? = some t) : (evsX ts).take (i + 1) = (evsX ts).take i ++ [evT ((nowX ts i + t % 20 : Nat) : Int) 0] := by
  have hl := (List.getElem?_eq_some_iff.1 h).1
  rw [List.take_add_one, evs_get hl, now_succ h]; rfl
theorem evs_ty {ts : List Nat} : ∀ x ∈ evsX ts, x.ty = ch 116 := by
  intro x hx
  simp only [evsX, List.mem_map] at hx
  obtain ⟨_, _, rfl⟩ := hx; rfl
theorem evs_stream {ts : List Nat} (h : ts.length ≤ 12) (n : Nat) : streamX (evsX ts) n = (keptX (evsX ts) n, true) := by
  refine stream_yes fun i hi => ?_
  rw [evs_len] at hi
  unfold okAt
  have hn := now_le ts (i + 1)
  rw [getD_at (evs_get hi), evT_ok ⟨by omega, by omega⟩]
  cases i with
  | zero => rfl
  | succ j =>
    rw [Nat.add_sub_cancel, getD_at (evs_get (show j < ts.length by omega))]
    have hm := now_mono ts (j + 1)
    show (!(false || (decide (j + 1 > 0) && decide (((nowX ts (j + 1) : Nat) : Int) > ((nowX ts (j + 1 + 1) : Nat) : Int))))) = true
    rw [show decide (((nowX ts (j + 1) : Nat) : Int) > ((nowX ts (j + 1 + 1) : Nat) : Int)) = false from decide_eq_false (by omega)]
    cases decide (j + 1 > 0) <;> rfl
/-- What the law sees. -/
theorem evs_last {ts : List Nat} (h : 2 ≤ ts.length) : (evsX ts)[(evsX ts).length - 1]? = some (evT ((nowX ts ts.length : Nat) : Int) 0) := by
  rw [evs_len, evs_get (show ts.length - 1 < ts.length by omega), show ts.length - 1 + 1 = ts.length by omega]
theorem evT_ts (a n : Int) : (evT a n).ts = a := rfl
section
variable {ts : List Nat} {i : Nat} {w : Int}
theorem law_late (h : 2 ≤ ts.length) (hi : i < ts.length - 1) : lateX (pL w) (keptX (evsX ts) 5) [⟨0, ((5 + i : Nat) : Int)⟩] = decide (wr (((nowX ts ts.length : Nat) : Int) - ((nowX ts (i + 1) : Nat) : Int)) > w) := by
  have q := late_run (w := w) (evs_get (show i < ts.length by omega)) (evs_last h)
  rw [evT_ts, evT_ts] at q; exact q
theorem law_take (h : 2 ≤ ts.length) (hi : i < ts.length - 1) : ((takeX bS (pL w) (keptX (evsX ts) 5) [⟨0, ((5 + i : Nat) : Int)⟩]).length == 0) = decide (wr (((nowX ts ts.length : Nat) : Int) - ((nowX ts (i + 1) : Nat) : Int)) > w) := by
  have q := take_late (w := w) (evs_get (show i < ts.length by omega)) (evs_last h) (by rw [evs_len]; omega) evs_ty
  rw [evT_ts, evT_ts] at q; exact q
end
theorem natEq0 : ∀ q : Nat, (((q : Nat) : Int) == 0) = (q == 0)
  | 0 => rfl
  | q + 1 => by
    rw [show (q + 1 == 0) = false from rfl]
    exact beq_eq_false_iff_ne.2 (by omega)
end Go.AL
