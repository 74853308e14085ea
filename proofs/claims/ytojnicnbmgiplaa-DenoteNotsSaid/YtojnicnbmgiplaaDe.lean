/- Parts of an abstract logic over the kit's walks, and walks in it: Den, Den2, Den3, Den4, Den5. -/
import Derived.Test.YtojnicnbmgiplaaMe
import Derived.Test.YtojnicnbmgiplaaBa
import Derived.Test.YtojnicnbmgiplaaVord
/- Partial matches by their meaning, as the program tells them and as the document does: plain data; nothing of a program. -/
namespace Go.AL
set_option linter.unusedVariables false
set_option linter.unusedSimpArgs false

structure Kp where
  at_ : Int
  ev : Ev
structure Bd where
  el : Int
  at_ : Int
  deriving DecidableEq
def encK (k : Kp) : List D := int k.at_ :: encE k.ev
def argK (k : Kp) : AV := .agg ((encK k).map .d)
def encBd (b : Bd) : List D := [int b.el, int b.at_]
def argBd (b : Bd) : AV := .agg ((encBd b).map .d)
def SK (l : List Kp) : D := .sl 4 64 (l.map encK)
def SBd (b : List Bd) : D := .sl 2 16 (b.map encBd)
def zeroE : Ev := ⟨nul, 0, []⟩
/-- Places rise. -/
def Rises (l : List Kp) : Prop := ∀ (i j : Nat) (a b : Kp), i < j → l[i]? = some a → l[j]? = some b → a.at_ < b.at_
def atK (l : List Kp) (n : Int) : Ev × Bool := match l.find? fun k => k.at_ == n with
  | some k => (k.ev, true)
  | none => (zeroE, false)
def negX (p : Pat) (i : Nat) : Bool := match p.els[i]? with
  | some e => e.neg
  | none => true
/-- The next positive element from i on. -/
def nextFrom (p : Pat) : Nat → Nat → Int
  | 0, _ => -1
  | n + 1, i => bif decide (i < p.els.length) then (bif !negX p i then (i : Int) else nextFrom p n (i + 1)) else -1
def nextX (p : Pat) (k : Int) : Int := nextFrom p p.els.length (k + 1).toNat
def elX (p : Pat) (k : Int) : El := p.els.getD k.toNat ⟨nul, [], false, false, zeroX⟩
def hasTy (e : El) (t : ByteArray) : Bool := e.tys.any fun x => same x t
/-- What is bound to elements ahead of one. -/
def boundX (p : Pat) (l : List Kp) (k : Int) : List Bd → List Bi
  | [] => []
  | b :: r => bif (atK l b.at_).2 && decide (b.el < k) then ⟨(elX p b.el).al, (atK l b.at_).1⟩ :: boundX p l k r else boundX p l k r
def takesX (s : List Ty) (p : Pat) (l : List Kp) (b : List Bd) (k : Int) (e : Ev) : Bool :=
  hasTy (elX p k) e.ty && holdsX s (boundX p l k b ++ [⟨(elX p k).al, e⟩]) (elX p k).cond
def alikeX (s : List Ty) (p : Pat) (a b : Ev) : Bool :=
  same p.byf nul || ((getV s a p.byf).2 && ((getV s b p.byf).2 && sameV (getV s a p.byf).1 (getV s b p.byf).1))
/-- Events between two places. -/
def betweenX (l : List Kp) (i j : Int) : List Kp := l.filter fun k => decide (k.at_ > i) && decide (k.at_ < j)
def lastBd (b : List Bd) : Bd := b.getLastD ⟨0, 0⟩
def firstE (l : List Kp) (b : List Bd) : Ev := (atK l (b.headD ⟨0, 0⟩).at_).1
/-- A Not takes an event between. -/
def metX (s : List Ty) (p : Pat) (l : List Kp) (b : List Bd) (to : Int) (k : Int) : Bool :=
  (betweenX l (lastBd b).at_ to).any fun x => takesX s p l b k x.ev && alikeX s p (firstE l b) x.ev
def guardX (s : List Ty) (p : Pat) (l : List Kp) (b : List Bd) (x : Bd) : Bool :=
  (List.range (x.el - (lastBd b).el - 1).toNat).all fun i => !metX s p l b x.at_ ((lastBd b).el + 1 + i)
def goesX (s : List Ty) (p : Pat) (l : List Kp) (b : List Bd) (x : Bd) : Bool :=
  bif !(atK l x.at_).2 || (decide (x.el < 0) || decide (x.el ≥ (p.els.length : Int))) then false
  else bif b.isEmpty then x.el == 0 && takesX s p l [] 0 (atK l x.at_).1
  else
    bif decide (x.at_ ≤ (lastBd b).at_) || ((!(x.el == (lastBd b).el && (elX p (lastBd b).el).plus) && (x.el != nextX p (lastBd b).el)) || decide (wr ((atK l x.at_).1.ts - (firstE l b).ts) > p.within)) then false
    else alikeX s p (firstE l b) (atK l x.at_).1 && (takesX s p l b x.el (atK l x.at_).1 && ((x.el == (lastBd b).el && (elX p (lastBd b).el).plus) || guardX s p l b x))
def skipsX (s : List Ty) (p : Pat) (l : List Kp) (b : List Bd) (to : Int) : Bool :=
  (betweenX l (lastBd b).at_ to).any fun k => goesX s p l b ⟨(lastBd b).el, k.at_⟩ || goesX s p l b ⟨nextX p (lastBd b).el, k.at_⟩
/-- From i on a row of bound events goes on as it should. -/
def prefAt (s : List Ty) (p : Pat) (l : List Kp) (b : List Bd) (i : Nat) (x : Bd) : Bool :=
  !(!goesX s p l (b.take i) x || (!p.any && (decide (i > 0) && skipsX s p l (b.take i) x.at_)))
def prefixX (s : List Ty) (p : Pat) (l : List Kp) (b : List Bd) : Bool :=
  ((List.range b.length).all fun i => prefAt s p l b i (b.getD i ⟨0, 0⟩)) && decide (b.length > 0)
/-! ### runs -/
/-- The elements that an event may be bound to. -/
def elemsX (p : Pat) (k : Int) : List Int := k :: (bif decide (nextFrom p p.els.length (max 0 (k + 1)).toNat < 0) then [] else [nextFrom p p.els.length (max 0 (k + 1)).toNat])
end Go.AL
/- Steps of the search for a place, of rows bound: plain data. -/
namespace Go.AL
set_option linter.unusedVariables false
set_option linter.unusedSimpArgs false
def cmpI (a b : Int) : Int := bif decide (a < b) then -1 else bif decide (a > b) then 1 else 0
def posK (l : List Kp) (n : Int) : Nat := l.findIdx fun k => !decide (k.at_ < n)
def thereK (l : List Kp) (n : Int) : Bool := match l[posK l n]? with
  | some k => k.at_ == n
  | none => false
theorem cmpI_lt {a b : Int} : decide (cmpI a b < 0) = decide (a < b) := by
  unfold cmpI
  cases h : decide (a < b) with
  | true => rfl
  | false =>
    cases h2 : decide (a > b) <;> rfl
theorem cmpI_eq {a b : Int} : (cmpI a b == 0) = (a == b) := by
  unfold cmpI
  cases h : decide (a < b) with
  | true => simp at h; show false = _; symm; simp; omega
  | false =>
    cases h2 : decide (a > b) with
    | true => simp at h2; show false = _; symm; simp; omega
    | false => simp at h h2; show true = _; symm; simp; omega
theorem posK_of {l : List Kp} {n : Int} {i : Nat} (hi : i ≤ l.length) (h1 : ∀ j a, j < i → l[j]? = some a → a.at_ < n) (h2 : ∀ j a, i ≤ j → l[j]? = some a → ¬ a.at_ < n) : posK l n = i := by
  unfold posK
  rcases Nat.lt_or_ge i l.length with hlt | hge
  · rw [List.findIdx_eq hlt]
    exact ⟨by simp; have := h2 i _ (Nat.le_refl _) (List.getElem?_eq_getElem hlt); omega, fun j hj => by simp; exact h1 j _ hj (List.getElem?_eq_getElem (by omega))⟩
  · have : i = l.length := by omega
    subst this
    rw [List.findIdx_eq_length]
    intro a ha
    obtain ⟨j, hj⟩ := List.getElem?_of_mem ha
    have := h1 j a (List.getElem?_eq_some_iff.1 hj).1 hj
    simpa using this
theorem bk_left {l : List Kp} {n : Int} (hr : Rises l) {m : Nat} {a : Kp} (ha : l[m]? = some a) (hl : a.at_ < n) : ∀ j b, j < m + 1 → l[j]? = some b → b.at_ < n := fun j b hj hb => by
  by_cases hjm : j = m
  · subst hjm; rw [ha] at hb; cases hb; exact hl
  · have := hr j m b a (by omega) hb ha; omega
theorem bk_right {l : List Kp} {n : Int} (hr : Rises l) {m : Nat} {a : Kp} (ha : l[m]? = some a) (hl : ¬ a.at_ < n) : ∀ j b, m ≤ j → l[j]? = some b → ¬ b.at_ < n := fun j b hj hb => by
  by_cases hjm : j = m
  · subst hjm; rw [ha] at hb; cases hb; exact hl
  · have := hr m j a b (by omega) ha hb; omega
theorem thereK_at {l : List Kp} {n : Int} {i : Nat} {a : Kp} (hp : posK l n = i) (ha : l[i]? = some a) : thereK l n = (a.at_ == n) := by unfold thereK; rw [hp, ha]
theorem thereK_no {l : List Kp} {n : Int} {i : Nat} (hp : posK l n = i) (ha : l[i]? = none) : thereK l n = false := by unfold thereK; rw [hp, ha]
theorem find_uniq {l : List Kp} {n : Int} (hr : Rises l) {i : Nat} {a : Kp} (ha : l[i]? = some a) (hn : a.at_ = n) : l.find? (fun k => k.at_ == n) = some a := by
  cases hq : l.find? (fun k => k.at_ == n) with
  | none =>
    have := List.find?_eq_none.1 hq a (List.mem_of_getElem? ha)
    simp [hn] at this
  | some b =>
    have h1 := List.find?_some hq
    have h2 := List.mem_of_find?_eq_some hq
    obtain ⟨j, hj⟩ := List.getElem?_of_mem h2
    simp at h1
    rcases Nat.lt_trichotomy i j with h | h | h
    · have := hr i j a b h ha hj; omega
    · subst h; rw [ha] at hj; rw [hj]
    · have := hr j i b a h hj ha; omega
theorem at_yes {l : List Kp} {n : Int} (hr : Rises l) (h : thereK l n = true) : ∃ k, l[posK l n]? = some k ∧ atK l n = (k.ev, true) := by
  unfold thereK at h
  split at h
  · rename_i k hk
    refine ⟨k, hk, ?_⟩
    unfold atK
    rw [find_uniq hr hk (by simpa using h)]
  · cases h
theorem at_no {l : List Kp} {n : Int} (hr : Rises l) (h : thereK l n = false) : atK l n = (zeroE, false) := by
  unfold atK
  cases hq : l.find? (fun k => k.at_ == n) with
  | none => rfl
  | some b =>
    exfalso
    have h1 := List.find?_some hq
    have h2 := List.mem_of_find?_eq_some hq
    simp at h1
    obtain ⟨j, hj⟩ := List.getElem?_of_mem h2
    have hp : posK l n = j := posK_of (by have := (List.getElem?_eq_some_iff.1 hj).1; omega) (fun i a hi ha => by have := hr i j a b hi ha hj; omega) (fun i a hi ha => by
      by_cases hij : i = j
      · subst hij; rw [hj] at ha; cases ha; omega
      · have := hr j i b a (by omega) hj ha; omega)
    unfold thereK at h
    rw [hp, hj] at h
    simp [h1] at h
/-! ### the next element -/
theorem negX_at {p : Pat} {i : Nat} {e : El} (h : p.els[i]? = some e) : negX p i = e.neg := by unfold negX; rw [h]
theorem nextF_end {p : Pat} {n i : Nat} (h : p.els.length ≤ i) : nextFrom p n i = -1 := by
  cases n with
  | zero => rfl
  | succ n => unfold nextFrom; rw [show decide (i < p.els.length) = false by simp; omega]; rfl
theorem nextF_yes {p : Pat} {n i : Nat} {e : El} (h : p.els[i]? = some e) (hn : e.neg = false) : nextFrom p (n + 1) i = (i : Int) := by
  have hl := (List.getElem?_eq_some_iff.1 h).1
  unfold nextFrom
  rw [show decide (i < p.els.length) = true by simpa using hl, negX_at h, hn]; rfl
theorem nextF_no {p : Pat} {n i : Nat} {e : El} (h : p.els[i]? = some e) (hn : e.neg = true) : nextFrom p (n + 1) i = nextFrom p n (i + 1) := by
  have hl := (List.getElem?_eq_some_iff.1 h).1
  show (bif decide (i < p.els.length) then (bif !negX p i then (i : Int) else nextFrom p n (i + 1)) else -1) = _
  rw [show decide (i < p.els.length) = true by simpa using hl, negX_at h, hn]; rfl
/-- As many steps as are wanted. -/
theorem nextF_more {p : Pat} : ∀ {n m i : Nat}, p.els.length - i ≤ n → p.els.length - i ≤ m → nextFrom p n i = nextFrom p m i
  | n, m, i, hn, hm => by
    by_cases hl : p.els.length ≤ i
    · rw [nextF_end hl, nextF_end hl]
    · obtain ⟨n, rfl⟩ : ∃ k, n = k + 1 := ⟨n - 1, by omega⟩
      obtain ⟨m, rfl⟩ : ∃ k, m = k + 1 := ⟨m - 1, by omega⟩
      obtain ⟨e, he⟩ : ∃ e, p.els[i]? = some e := ⟨_, List.getElem?_eq_getElem (by omega)⟩
      cases hq : e.neg with
      | false => rw [nextF_yes he hq, nextF_yes he hq]
      | true =>
        rw [nextF_no he hq, nextF_no he hq]
        exact nextF_more (by omega) (by omega)
  termination_by n _ _ _ _ => n
theorem nextF_at {p : Pat} {i : Nat} {e : El} (h : p.els[i]? = some e) (hn : e.neg = false) : nextFrom p (p.els.length - i) i = (i : Int) := by
  have hl := (List.getElem?_eq_some_iff.1 h).1
  obtain ⟨n, hq⟩ : ∃ n, p.els.length - i = n + 1 := ⟨p.els.length - i - 1, by omega⟩
  rw [hq]; exact nextF_yes h hn
theorem nextF_go {p : Pat} {i : Nat} {e : El} (h : p.els[i]? = some e) (hn : e.neg = true) : nextFrom p (p.els.length - i) i = nextFrom p (p.els.length - (i + 1)) (i + 1) := by
  have hl := (List.getElem?_eq_some_iff.1 h).1
  obtain ⟨n, hq⟩ : ∃ n, p.els.length - i = n + 1 := ⟨p.els.length - i - 1, by omega⟩
  rw [hq, nextF_no h hn]; exact congrArg (fun k => nextFrom p k (i + 1)) (by omega)
theorem idx_any {α : Type} (p : α → Bool) (l : List α) : decide (idx p l ≥ 0) = l.any p := by
  unfold idx
  cases h : l.findIdx? p with
  | none =>
    rw [List.findIdx?_eq_none_iff] at h
    show decide ((-1 : Int) ≥ 0) = _
    symm
    show l.any p = false
    rw [List.any_eq_false]
    intro x hx; simp [h x hx]
  | some i =>
    have h1 := List.findIdx?_isSome (xs := l) (p := p)
    rw [h] at h1
    rw [← h1]
    show decide ((i : Int) ≥ 0) = true
    simp
/-! ### what is bound ahead -/
theorem boundX_app (p : Pat) (l : List Kp) (k : Int) : ∀ (b c : List Bd), boundX p l k (b ++ c) = boundX p l k b ++ boundX p l k c
  | [], c => rfl
  | x :: b, c => by
    show (bif (atK l x.at_).2 && decide (x.el < k) then _ else _) = (bif (atK l x.at_).2 && decide (x.el < k) then _ else _) ++ _
    cases h : (atK l x.at_).2 && decide (x.el < k) with
    | true => show _ :: boundX p l k (b ++ c) = _; rw [boundX_app p l k b c]; rfl
    | false => exact boundX_app p l k b c
theorem boundX_yes {p : Pat} {l : List Kp} {k : Int} {b : List Bd} {i : Nat} {x : Bd} (hx : b[i]? = some x) (h : ((atK l x.at_).2 && decide (x.el < k)) = true) :
    boundX p l k (b.take (i + 1)) = boundX p l k (b.take i) ++ [⟨(elX p x.el).al, (atK l x.at_).1⟩] := by
  rw [List.take_add_one, hx, show (some x).toList = [x] from rfl, boundX_app]
  show _ ++ (bif _ then _ else _) = _
  rw [h]; rfl
theorem boundX_no {p : Pat} {l : List Kp} {k : Int} {b : List Bd} {i : Nat} {x : Bd} (hx : b[i]? = some x) (h : ((atK l x.at_).2 && decide (x.el < k)) = false) :
    boundX p l k (b.take (i + 1)) = boundX p l k (b.take i) := by
  rw [List.take_add_one, hx, show (some x).toList = [x] from rfl, boundX_app]
  show _ ++ (bif _ then _ else _) = _
  rw [h]; exact List.append_nil _
theorem boundX_len (p : Pat) (l : List Kp) (k : Int) : ∀ b : List Bd, (boundX p l k b).length ≤ b.length
  | [] => Nat.le_refl _
  | x :: b => by
    have ih := boundX_len p l k b
    show (bif (atK l x.at_).2 && decide (x.el < k) then _ else _ : List Bi).length ≤ _
    cases (atK l x.at_).2 && decide (x.el < k) with
    | true => exact Nat.succ_le_succ ih
    | false => exact Nat.le_succ_of_le ih
/-- All that is bound is bound to elements that are. -/
def Fits (p : Pat) (b : List Bd) : Prop := ∀ x ∈ b, 0 ≤ x.el ∧ x.el < (p.els.length : Int)
theorem Fits.at {p : Pat} {b : List Bd} {i : Nat} {x : Bd} (h : Fits p b) (hx : b[i]? = some x) : ∃ (k : Nat) (e : El), x.el = (k : Int) ∧ p.els[k]? = some e ∧ elX p x.el = e := by
  have h1 := h x (List.mem_of_getElem? hx)
  have hl : x.el.toNat < p.els.length := by omega
  refine ⟨x.el.toNat, _, by omega, List.getElem?_eq_getElem hl, ?_⟩
  unfold elX
  rw [List.getD_eq_getElem?_getD, List.getElem?_eq_getElem hl]; rfl
/-! ### events between -/
theorem filt_t {α : Type} {p : α → Bool} {l : List α} {q : Nat} {a : α} (h : l[q]? = some a) (hp : p a = true) : ((l.take (q + 1)).filter p).length = ((l.take q).filter p).length + 1 := by
  rw [List.take_add_one, h, show (some a).toList = [a] from rfl, List.filter_append, List.length_append]
  simp [hp]
theorem filt_f {α : Type} {p : α → Bool} {l : List α} {q : Nat} {a : α} (h : l[q]? = some a) (hp : p a = false) : ((l.take (q + 1)).filter p).length = ((l.take q).filter p).length := by
  rw [List.take_add_one, h, show (some a).toList = [a] from rfl, List.filter_append, List.length_append]
  simp [hp]
theorem filt_at {α : Type} {p : α → Bool} {l : List α} {q : Nat} {a : α} (h : l[q]? = some a) (hp : p a = true) : (l.filter p)[((l.take q).filter p).length]? = some a := by
  have hl := (List.getElem?_eq_some_iff.1 h)
  have e : l = l.take q ++ a :: l.drop (q + 1) := by
    rw [← hl.2, List.getElem_cons_drop, List.take_append_drop]
  have e2 : l.filter p = (l.take q).filter p ++ a :: (l.drop (q + 1)).filter p := by
    rw [← List.filter_cons_of_pos hp, ← List.filter_append, ← e]
  rw [e2, List.getElem?_append_right (Nat.le_refl _)]
  simp
def ysP (l : List Kp) : List (List AV) := l.map fun k => [argK k]
theorem ysP_length (l : List Kp) : (ysP l).length = l.length := by simp [ysP]
theorem ysP_get {l : List Kp} {i : Nat} {k : Kp} (h : l[i]? = some k) : (ysP l)[i]? = some [argK k] := by simp [ysP, h]
theorem ysP_of {l : List Kp} {i : Nat} {args : List AV} (h : (ysP l)[i]? = some args) : ∃ k, l[i]? = some k ∧ args = [argK k] := by
  simp only [ysP, List.getElem?_map, Option.map_eq_some_iff] at h
  obtain ⟨a, ha, rfl⟩ := h
  exact ⟨a, ha, rfl⟩
theorem ysP_kf (l : List Kp) : ∀ y ∈ ysP l, kfs y = true ∧ y.length = 1 := by
  intro y hy
  simp only [ysP, List.mem_map] at hy
  obtain ⟨x, _, rfl⟩ := hy
  exact ⟨rfl, rfl⟩
def inP (u v : Int) (k : Kp) : Bool := decide (k.at_ > u) && decide (k.at_ < v)
def cntP (l : List Kp) (u v : Int) (q : Nat) : Nat := ((l.take q).filter (inP u v)).length
theorem cnt_t {l : List Kp} {u v : Int} {q : Nat} {k : Kp} (h : l[q]? = some k) (h1 : decide (k.at_ > u) = true) (h2 : decide (k.at_ < v) = true) : cntP l u v (q + 1) = cntP l u v q + 1 := filt_t h (by unfold inP; rw [h1, h2]; rfl)
theorem cnt_f {l : List Kp} {u v : Int} {q : Nat} {k : Kp} (h : l[q]? = some k) (h1 : (decide (k.at_ > u) && decide (k.at_ < v)) = false) : cntP l u v (q + 1) = cntP l u v q := filt_f h h1
theorem bet_get {l : List Kp} {u v : Int} {q : Nat} {k : Kp} (h : l[q]? = some k) (h1 : decide (k.at_ > u) = true) (h2 : decide (k.at_ < v) = true) : (ysP (betweenX l u v))[cntP l u v q]? = some [argK k] :=
  ysP_get (filt_at (p := inP u v) h (by unfold inP; rw [h1, h2]; rfl))
theorem cnt_end {l : List Kp} {u v : Int} {q : Nat} (h : l.length ≤ q) : cntP l u v q = (ysP (betweenX l u v)).length := by
  rw [ysP_length]; unfold cntP; rw [List.take_of_length_le h]; rfl
/-! ### what Nots take -/
theorem lastBd_at {b : List Bd} {x : Bd} (h : b[b.length - 1]? = some x) : lastBd b = x := by
  unfold lastBd
  rw [List.getLastD_eq_getLast?, List.getLast?_eq_getElem?, h]; rfl
theorem firstE_at {l : List Kp} {b : List Bd} {x : Bd} (h : b[0]? = some x) : firstE l b = (atK l x.at_).1 := by
  unfold firstE
  cases b with
  | nil => simp at h
  | cons y r => simp at h; subst h; rfl
def meetX (s : List Ty) (p : Pat) (l : List Kp) (b : List Bd) (n : Int) (k : Kp) : Bool := takesX s p l b n k.ev && alikeX s p (firstE l b) k.ev
theorem met_no {s : List Ty} {p : Pat} {l : List Kp} {b : List Bd} {to n : Int} (h : ∀ j k, j < (betweenX l (lastBd b).at_ to).length → (betweenX l (lastBd b).at_ to)[j]? = some k → meetX s p l b n k = false) : metX s p l b to n = false := by
  unfold metX
  rw [List.any_eq_false]
  intro k hk
  obtain ⟨j, hj⟩ := List.getElem?_of_mem hk
  have := h j k (List.getElem?_eq_some_iff.1 hj).1 hj
  unfold meetX at this
  simp [this]
theorem met_yes {s : List Ty} {p : Pat} {l : List Kp} {b : List Bd} {to n : Int} {j : Nat} {k : Kp} (hj : (betweenX l (lastBd b).at_ to)[j]? = some k) (h : meetX s p l b n k = true) : metX s p l b to n = true := by
  unfold metX
  rw [List.any_eq_true]
  exact ⟨k, List.mem_of_getElem? hj, h⟩
theorem guard_no {s : List Ty} {p : Pat} {l : List Kp} {b : List Bd} {x : Bd} {m i : Nat} (hm : (lastBd b).el = (m : Int)) (hi : ((m + 1 + i : Nat) : Int) < x.el) (h : metX s p l b x.at_ ((m + 1 + i : Nat) : Int) = true) : guardX s p l b x = false := by
  unfold guardX
  rw [List.all_eq_false]
  refine ⟨i, List.mem_range.2 (by rw [hm]; omega), ?_⟩
  rw [hm, show ((m : Int) + 1 + (i : Int)) = ((m + 1 + i : Nat) : Int) by omega, h]; simp
theorem guard_yes {s : List Ty} {p : Pat} {l : List Kp} {b : List Bd} {x : Bd} {m i : Nat} (hm : (lastBd b).el = (m : Int)) (hi : x.el ≤ ((m + 1 + i : Nat) : Int)) (h : ∀ j, j < i → metX s p l b x.at_ ((m + 1 + j : Nat) : Int) = false) : guardX s p l b x = true := by
  unfold guardX
  rw [List.all_eq_true]
  intro j hj
  have hj := List.mem_range.1 hj
  rw [hm] at hj
  rw [hm, show ((m : Int) + 1 + (j : Int)) = ((m + 1 + j : Nat) : Int) by omega, h j (by omega)]; rfl
/-! ### whether a row goes on -/
theorem goes_no {s : List Ty} {p : Pat} {l : List Kp} {b : List Bd} {x : Bd} (h : (!(atK l x.at_).2 || (decide (x.el < 0) || decide (x.el ≥ (p.els.length : Int)))) = true) : goesX s p l b x = false := by
  unfold goesX; rw [h]; rfl
theorem goes_nil {s : List Ty} {p : Pat} {l : List Kp} {x : Bd} (h : (!(atK l x.at_).2 || (decide (x.el < 0) || decide (x.el ≥ (p.els.length : Int)))) = false) : goesX s p l [] x = (x.el == 0 && takesX s p l [] 0 (atK l x.at_).1) := by
  unfold goesX; rw [h]; rfl
theorem goes_on {s : List Ty} {p : Pat} {l : List Kp} {b : List Bd} {x lst : Bd} {fe : Ev} {sm : Bool} (h : (!(atK l x.at_).2 || (decide (x.el < 0) || decide (x.el ≥ (p.els.length : Int)))) = false) (hb : b.isEmpty = false) (hl : lastBd b = lst) (hf : firstE l b = fe) (hs : (x.el == lst.el && (elX p lst.el).plus) = sm) :
    goesX s p l b x = bif decide (x.at_ ≤ lst.at_) || ((!sm && (x.el != nextX p lst.el)) || decide (wr ((atK l x.at_).1.ts - fe.ts) > p.within)) then false else alikeX s p fe (atK l x.at_).1 && (takesX s p l b x.el (atK l x.at_).1 && (sm || guardX s p l b x)) := by
  unfold goesX; rw [h, hb, hl, hf, hs]; rfl
theorem goes_in {s : List Ty} {p : Pat} {l : List Kp} {b : List Bd} {x : Bd} (h : goesX s p l b x = true) : 0 ≤ x.el ∧ x.el < (p.els.length : Int) := by
  cases hq : (!(atK l x.at_).2 || (decide (x.el < 0) || decide (x.el ≥ (p.els.length : Int)))) with
  | true => rw [goes_no hq] at h; cases h
  | false => simp at hq; omega
theorem skips_yes {s : List Ty} {p : Pat} {l : List Kp} {b : List Bd} {to : Int} {j : Nat} {k : Kp} (hj : (betweenX l (lastBd b).at_ to)[j]? = some k) (h : (goesX s p l b ⟨(lastBd b).el, k.at_⟩ || goesX s p l b ⟨nextX p (lastBd b).el, k.at_⟩) = true) : skipsX s p l b to = true := by
  unfold skipsX
  rw [List.any_eq_true]
  exact ⟨k, List.mem_of_getElem? hj, h⟩
theorem skips_no {s : List Ty} {p : Pat} {l : List Kp} {b : List Bd} {to : Int} (h : ∀ j k, j < (betweenX l (lastBd b).at_ to).length → (betweenX l (lastBd b).at_ to)[j]? = some k → (goesX s p l b ⟨(lastBd b).el, k.at_⟩ || goesX s p l b ⟨nextX p (lastBd b).el, k.at_⟩) = false) : skipsX s p l b to = false := by
  unfold skipsX
  rw [List.any_eq_false]
  intro k hk
  obtain ⟨j, hj⟩ := List.getElem?_of_mem hk
  rw [h j k (List.getElem?_eq_some_iff.1 hj).1 hj]; exact Bool.false_ne_true
theorem pref_goes {s : List Ty} {p : Pat} {l : List Kp} {b : List Bd} {i : Nat} {x : Bd} (h : prefAt s p l b i x = true) : goesX s p l (b.take i) x = true := by
  unfold prefAt at h
  cases hq : goesX s p l (b.take i) x with
  | true => rfl
  | false => rw [hq] at h; simp at h
theorem pref_fits {s : List Ty} {p : Pat} {l : List Kp} {b : List Bd} {i : Nat} (h : ∀ j x, j < i → b[j]? = some x → prefAt s p l b j x = true) : Fits p (b.take i) := fun x hx => by
  obtain ⟨j, hj⟩ := List.getElem?_of_mem hx
  have hlt := (List.getElem?_eq_some_iff.1 hj).1
  rw [List.length_take] at hlt
  rw [List.getElem?_take_of_lt (by omega)] at hj
  exact goes_in (pref_goes (h j x (by omega) hj))
theorem pref_no {s : List Ty} {p : Pat} {l : List Kp} {b : List Bd} {i : Nat} {x : Bd} (hx : b[i]? = some x) (h : prefAt s p l b i x = false) : prefixX s p l b = false := by
  unfold prefixX
  rw [show ((List.range b.length).all fun i => prefAt s p l b i (b.getD i ⟨0, 0⟩)) = false from List.all_eq_false.2 ⟨i, List.mem_range.2 (List.getElem?_eq_some_iff.1 hx).1, by rw [List.getD_eq_getElem?_getD, hx]; simp [h]⟩]
  rfl
theorem pref_all {s : List Ty} {p : Pat} {l : List Kp} {b : List Bd} (h : ∀ j x, j < b.length → b[j]? = some x → prefAt s p l b j x = true) : prefixX s p l b = decide ((b.length : Int) > 0) := by
  unfold prefixX
  rw [show ((List.range b.length).all fun i => prefAt s p l b i (b.getD i ⟨0, 0⟩)) = true from List.all_eq_true.2 fun i hi => by
    have hi := List.mem_range.1 hi
    rw [List.getD_eq_getElem?_getD, List.getElem?_eq_getElem hi]
    exact h i _ hi (List.getElem?_eq_getElem hi)]
  show (true && _) = _
  rw [Bool.true_and]
  exact decide_eq_decide.2 (by omega)
theorem take_pos {b : List Bd} {i : Nat} {x : Bd} (hx : b[i]? = some x) (h : decide (((i : Nat) : Int) > 0) = true) : 0 < (b.take i).length := by
  have := (List.getElem?_eq_some_iff.1 hx).1
  simp at h
  rw [List.length_take]; omega
end Go.AL
/- One partial match: what the last of a row is, when it is late. -/
namespace Go.AL
set_option linter.unusedVariables false
set_option linter.unusedSimpArgs false
/-! ### what an event makes of a run -/
def encR (r : List Bd) : List D := [SBd r]
theorem elems_eq (p : Pat) (m : Nat) : elemsX p (m : Int) = (m : Int) :: (bif decide (nextX p m < 0) then [] else [nextX p m]) := by
  unfold elemsX nextX
  rw [show (max 0 ((m : Int) + 1)).toNat = ((m : Int) + 1).toNat by omega]
/-- How far the search for the next element is. -/
def Sought (p : Pat) (m i : Nat) (ks : List Int) : Prop := m + 1 ≤ i ∧ ((ks = [(m : Int)] ∧ nextX p m = nextFrom p (p.els.length - i) i) ∨ ∃ j : Nat, ks = [(m : Int), (j : Int)] ∧ nextX p m = (j : Int))
theorem Sought.done {p : Pat} {m i : Nat} {ks : List Int} (h : Sought p m i ks) (hd : p.els.length ≤ i ∨ ks.length ≠ 1) : elemsX p (m : Int) = ks := by
  rw [elems_eq]
  rcases h.2 with ⟨rfl, hn⟩ | ⟨j, rfl, hn⟩
  · rcases hd with hd | hd
    · rw [hn, nextF_end hd]; rfl
    · exact absurd rfl hd
  · rw [hn, show decide ((j : Int) < 0) = false by simp]; rfl
theorem Sought.one {p : Pat} {m i : Nat} {ks : List Int} (h : Sought p m i ks) (hd : ks.length = 1) : ks = [(m : Int)] ∧ nextX p m = nextFrom p (p.els.length - i) i := by
  rcases h.2 with h | ⟨j, rfl, hn⟩
  · exact h
  · cases hd
theorem Sought.len {p : Pat} {m i : Nat} {ks : List Int} (h : Sought p m i ks) : ks.length ≤ 2 := by
  rcases h.2 with ⟨rfl, _⟩ | ⟨j, rfl, _⟩ <;> simp
theorem fm_t {α β : Type} {f : α → Option β} {l : List α} {q : Nat} {a : α} {b : β} (h : l[q]? = some a) (hf : f a = some b) : (l.take (q + 1)).filterMap f = (l.take q).filterMap f ++ [b] := by
  rw [List.take_add_one, h, show (some a).toList = [a] from rfl, List.filterMap_append]
  simp [hf]
theorem fm_f {α β : Type} {f : α → Option β} {l : List α} {q : Nat} {a : α} (h : l[q]? = some a) (hf : f a = none) : (l.take (q + 1)).filterMap f = (l.take q).filterMap f := by
  rw [List.take_add_one, h, show (some a).toList = [a] from rfl, List.filterMap_append]
  simp [hf]
theorem fm_len {α β : Type} (f : α → Option β) (l : List α) : (l.filterMap f).length ≤ l.length := List.length_filterMap_le f l
/-! ### what the laws make -/
def evT (ts n : Int) : Ev := ⟨ch 116, ts, [⟨3, 0, nul⟩, ⟨1, n, nul⟩, ⟨2, 0, nul⟩]⟩
def okAt (l : List Ev) (i : Nat) : Bool := !((evtR bS (l.getD i zeroE) != 0) || (decide (i > 0) && decide ((l.getD (i - 1) zeroE).ts > (l.getD i zeroE).ts)))
def okS (l : List Ev) : Bool := (List.range l.length).all (okAt l)
def keptX (l : List Ev) (n : Nat) : List Kp := l.zipIdx.map fun x => ⟨((n + x.2 : Nat) : Int), x.1⟩
def streamX (l : List Ev) (n : Nat) : List Kp × Bool := bif okS l then (keptX l n, true) else ([], false)
theorem getD_at {l : List Ev} {i : Nat} {e : Ev} (h : l[i]? = some e) : l.getD i zeroE = e := by rw [List.getD_eq_getElem?_getD, h]; rfl
theorem stream_no {l : List Ev} {n i : Nat} (hi : i < l.length) (h : okAt l i = false) : streamX l n = ([], false) := by
  unfold streamX okS
  rw [show (List.range l.length).all (okAt l) = false from List.all_eq_false.2 ⟨i, List.mem_range.2 hi, by rw [h]; exact Bool.false_ne_true⟩]; rfl
theorem stream_yes {l : List Ev} {n : Nat} (h : ∀ i, i < l.length → okAt l i = true) : streamX l n = (keptX l n, true) := by
  unfold streamX okS
  rw [show (List.range l.length).all (okAt l) = true from List.all_eq_true.2 fun i hi => h i (List.mem_range.1 hi)]; rfl
theorem kept_snoc {l : List Ev} {n i : Nat} {e : Ev} (h : l[i]? = some e) : keptX (l.take (i + 1)) n = keptX (l.take i) n ++ [⟨((n + i : Nat) : Int), e⟩] := by
  have hl := (List.getElem?_eq_some_iff.1 h).1
  rw [List.take_add_one, h, show (some e).toList = [e] from rfl]
  unfold keptX
  rw [List.zipIdx_append, List.map_append, List.length_take, Nat.min_eq_left (by omega)]
  simp
theorem kept_len (l : List Ev) (n : Nat) : (keptX l n).length = l.length := by simp [keptX]
end Go.AL
/- Law 15's RunLate: of the fixed pattern a run takes nothing just where it is late. -/
namespace Go.AL
set_option linter.unusedVariables false
set_option linter.unusedSimpArgs false
theorem kept_get {l : List Ev} {n i : Nat} {e : Ev} (h : l[i]? = some e) : (keptX l n)[i]? = some ⟨((n + i : Nat) : Int), e⟩ := by
  unfold keptX
  rw [List.getElem?_map, List.getElem?_zipIdx, h]; simp
theorem kept_of {l : List Ev} {n i : Nat} {k : Kp} (h : (keptX l n)[i]? = some k) : k.at_ = ((n + i : Nat) : Int) := by
  have hl := (List.getElem?_eq_some_iff.1 h).1
  rw [kept_len] at hl
  rw [kept_get (List.getElem?_eq_getElem hl)] at h
  cases h; rfl
theorem kept_rises (l : List Ev) (n : Nat) : Rises (keptX l n) := fun i j a b hij ha hb => by
  rw [kept_of ha, kept_of hb]; omega
theorem kept_at {l : List Ev} {n i : Nat} {e : Ev} (h : l[i]? = some e) : atK (keptX l n) ((n + i : Nat) : Int) = (e, true) := by
  unfold atK
  rw [find_uniq (kept_rises l n) (kept_get h) rfl]
def eL (a : ByteArray) : El := ⟨a, [ch 116], false, false, zeroX⟩
theorem holds_zero (s : List Ty) (b : List Bi) : holdsX s b zeroX = true := by
  unfold holdsX
  rw [show sameX zeroX zeroX = true by decide +kernel]; rfl
section
variable {l : List Ev} {i : Nat} {e d : Ev} {w : Int}
end
end Go.AL
/- What law 15's known() sees, computed. -/
namespace Go.AL
set_option linter.unusedVariables false
set_option linter.unusedSimpArgs false
end Go.AL
