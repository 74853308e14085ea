/- Parts of an abstract logic over the kit's walks, and walks in it: Mat, Ckr, Mat2, Mat3. -/
import Derived.Test.YtojnicnbmgiplaaDe
import Derived.Test.YtojnicnbmgiplaaAg
import Derived.Test.YtojnicnbmgiplaaMe
/- All matches of a pattern: their order, and how they grow; plain data. -/
namespace Go.AL
open Go.Proofs Go.Sort
set_option linter.unusedVariables false
set_option linter.unusedSimpArgs false
def orI (a b : Int) : Int := bif a != 0 then a else b
def cmpBd (x y : Bd) : Int := orI (cmpI x.at_ y.at_) (cmpI x.el y.el)
def orderX : List Bd → List Bd → Int
  | [], [] => 0
  | [], _ :: _ => -1
  | _ :: _, [] => 1
  | x :: a, y :: b => bif cmpBd x y != 0 then cmpBd x y else orderX a b
def ltB (x y : Bd) : Prop := x.at_ < y.at_ ∨ (x.at_ = y.at_ ∧ x.el < y.el)
theorem cmpI_cases (a b : Int) : (a = b ∧ cmpI a b = 0) ∨ (a < b ∧ cmpI a b = -1) ∨ (b < a ∧ cmpI a b = 1) := by
  unfold cmpI
  by_cases h1 : a < b
  · right; left; exact ⟨h1, by rw [decide_eq_true h1]; rfl⟩
  · by_cases h2 : a > b
    · right; right; exact ⟨h2, by rw [decide_eq_false h1, decide_eq_true h2]; rfl⟩
    · left; exact ⟨by omega, by rw [decide_eq_false h1, decide_eq_false h2]; rfl⟩
theorem cmpBd_cases (x y : Bd) : (x = y ∧ cmpBd x y = 0) ∨ (ltB x y ∧ cmpBd x y = -1) ∨ (ltB y x ∧ cmpBd x y = 1) := by
  unfold cmpBd ltB
  rcases cmpI_cases x.at_ y.at_ with ⟨h1, e1⟩ | ⟨h1, e1⟩ | ⟨h1, e1⟩
  · rw [e1]
    rcases cmpI_cases x.el y.el with ⟨h2, e2⟩ | ⟨h2, e2⟩ | ⟨h2, e2⟩
    · left; rw [e2]; exact ⟨by cases x; cases y; simp_all, rfl⟩
    · right; left; rw [e2]; exact ⟨.inr ⟨h1, h2⟩, rfl⟩
    · right; right; rw [e2]; exact ⟨.inr ⟨h1.symm, h2⟩, rfl⟩
  · right; left; rw [e1]; exact ⟨.inl h1, rfl⟩
  · right; right; rw [e1]; exact ⟨.inl h1, rfl⟩
theorem ltB_trans {x y z : Bd} (h : ltB x y) (k : ltB y z) : ltB x z := by unfold ltB at *; omega
theorem ltB_irrefl {x : Bd} : ¬ ltB x x := by unfold ltB; omega
theorem cmpBd_self (x : Bd) : cmpBd x x = 0 := by
  rcases cmpBd_cases x x with ⟨_, h⟩ | ⟨h, _⟩ | ⟨h, _⟩
  · exact h
  · exact absurd h ltB_irrefl
  · exact absurd h ltB_irrefl
theorem cmpBd_lt {x y : Bd} (h : ltB x y) : cmpBd x y = -1 := by
  rcases cmpBd_cases x y with ⟨e, _⟩ | ⟨_, e⟩ | ⟨k, _⟩
  · subst e; exact absurd h ltB_irrefl
  · exact e
  · exact absurd (ltB_trans h k) ltB_irrefl
theorem order_self : ∀ a : List Bd, orderX a a = 0
  | [] => rfl
  | x :: a => by
    show (bif cmpBd x x != 0 then cmpBd x x else orderX a a) = 0
    rw [cmpBd_self]; exact order_self a
theorem order_anti : ∀ a b : List Bd, orderX b a = - orderX a b
  | [], [] => rfl
  | [], _ :: _ => rfl
  | _ :: _, [] => rfl
  | x :: a, y :: b => by
    show (bif cmpBd y x != 0 then cmpBd y x else orderX b a) = - (bif cmpBd x y != 0 then cmpBd x y else orderX a b)
    rcases cmpBd_cases x y with ⟨e, _⟩ | ⟨h, e⟩ | ⟨h, e⟩
    · subst e; rw [cmpBd_self]; exact order_anti a b
    · rw [e]
      rcases cmpBd_cases y x with ⟨e2, _⟩ | ⟨h2, _⟩ | ⟨_, e2⟩
      · subst e2; exact absurd h ltB_irrefl
      · exact absurd (ltB_trans h h2) ltB_irrefl
      · rw [e2]; rfl
    · rw [e, cmpBd_lt h]; rfl
theorem order_eq : ∀ {a b : List Bd}, orderX a b = 0 → a = b
  | [], [], _ => rfl
  | [], _ :: _, h => by cases h
  | _ :: _, [], h => by cases h
  | x :: a, y :: b, h => by
    have h : (bif cmpBd x y != 0 then cmpBd x y else orderX a b) = 0 := h
    rcases cmpBd_cases x y with ⟨e, h0⟩ | ⟨_, e⟩ | ⟨_, e⟩
    · subst e; rw [h0] at h; rw [order_eq h]
    · rw [e] at h; cases h
    · rw [e] at h; cases h
theorem order_trans : ∀ {a b c : List Bd}, orderX a b < 0 → orderX b c < 0 → orderX a c < 0
  | [], [], _, h, _ => absurd h (by decide)
  | [], _ :: _, [], _, h => absurd h (by show ¬ (1 : Int) < 0; decide)
  | [], _ :: _, _ :: _, _, _ => (by decide : (-1 : Int) < 0)
  | _ :: _, [], _, h, _ => absurd h (by show ¬ (1 : Int) < 0; decide)
  | _ :: _, _ :: _, [], _, h => absurd h (by show ¬ (1 : Int) < 0; decide)
  | x :: a, y :: b, z :: c, h, k => by
    have h : (bif cmpBd x y != 0 then cmpBd x y else orderX a b) < 0 := h
    have k : (bif cmpBd y z != 0 then cmpBd y z else orderX b c) < 0 := k
    show (bif cmpBd x z != 0 then cmpBd x z else orderX a c) < 0
    rcases cmpBd_cases x y with ⟨e1, h1⟩ | ⟨g1, e1⟩ | ⟨_, e1⟩
    · subst e1
      rw [h1] at h
      rcases cmpBd_cases x z with ⟨e2, h2⟩ | ⟨_, e2⟩ | ⟨_, e2⟩
      · subst e2; rw [h2] at k ⊢; exact order_trans (a := a) h k
      · rw [e2]; show (-1 : Int) < 0; decide
      · rw [e2] at k; have k : (1 : Int) < 0 := k; exact absurd k (by decide)
    · rcases cmpBd_cases y z with ⟨e2, h2⟩ | ⟨g2, e2⟩ | ⟨_, e2⟩
      · subst e2; rw [e1]; show (-1 : Int) < 0; decide
      · rw [cmpBd_lt (ltB_trans g1 g2)]; show (-1 : Int) < 0; decide
      · rw [e2] at k; have k : (1 : Int) < 0 := k; exact absurd k (by decide)
    · rw [e1] at h; have h : (1 : Int) < 0 := h; exact absurd h (by decide)
theorem order_swo : SWO (ltOf orderX) where
  irrefl a := by unfold ltOf; rw [order_self]; rfl
  trans a b c h k := by
    unfold ltOf at *
    simp only [decide_eq_true_eq] at *
    exact order_trans h k
  ntrans a b c h k := by
    unfold ltOf at *
    simp only [decide_eq_false_iff_not] at *
    intro q
    have h' := order_anti a b
    have k' := order_anti b c
    by_cases e : orderX b a = 0
    · have := order_eq e; subst this; exact k q
    · exact k (order_trans (b := a) (by omega) q)
theorem order_total (a b : List Bd) (h : ltOf orderX a b = false) (k : ltOf orderX b a = false) : a = b := by
  unfold ltOf at *
  simp only [decide_eq_false_iff_not] at *
  have := order_anti a b
  exact order_eq (by omega)
/-- As the rows are gone through. -/
theorem order_drop {a b : List Bd} {i : Nat} {x y : Bd} (hx : a[i]? = some x) (hy : b[i]? = some y) : orderX (a.drop i) (b.drop i) = bif cmpBd x y != 0 then cmpBd x y else orderX (a.drop (i + 1)) (b.drop (i + 1)) := by
  obtain ⟨h1, rfl⟩ := List.getElem?_eq_some_iff.1 hx
  obtain ⟨h2, rfl⟩ := List.getElem?_eq_some_iff.1 hy
  rw [List.drop_eq_getElem_cons h1, List.drop_eq_getElem_cons h2]; rfl
theorem order_long {a b : List Bd} {i : Nat} {x : Bd} (hx : a[i]? = some x) (hb : b.length ≤ i) : orderX (a.drop i) (b.drop i) = 1 := by
  obtain ⟨h1, rfl⟩ := List.getElem?_eq_some_iff.1 hx
  rw [List.drop_eq_getElem_cons h1, List.drop_of_length_le hb]; rfl
theorem order_end {a b : List Bd} {i : Nat} (ha : a.length ≤ i) (hi : i ≤ b.length) : orderX (a.drop i) (b.drop i) = bif decide (i < b.length) then -1 else 0 := by
  rw [List.drop_of_length_le ha]
  by_cases h : i < b.length
  · rw [List.drop_eq_getElem_cons h, decide_eq_true h]; rfl
  · rw [List.drop_of_length_le (by omega), decide_eq_false h]; rfl
/-! ### how rows grow -/
def furF (s : List Ty) (p : Pat) (l : List Kp) (b : List Bd) (k e : Int) : Option (List Bd) := bif goesX s p l b ⟨e, k⟩ then some (b ++ [⟨e, k⟩]) else none
def furE (p : Pat) (b : List Bd) : List Int := [(lastBd b).el, nextX p (lastBd b).el]
def furX (s : List Ty) (p : Pat) (l : List Kp) (b : List Bd) (k : Int) : List (List Bd) := (furE p b).filterMap (furF s p l b k)
def oneX (s : List Ty) (p : Pat) (l : List Kp) (k : Int) : List (List Bd) := bif goesX s p l [] ⟨0, k⟩ then [[⟨0, k⟩]] else []
def madeX (s : List Ty) (p : Pat) (l : List Kp) (rows : List (List Bd)) (k : Int) : List (List Bd) := rows.flatMap (fun b => furX s p l b k) ++ oneX s p l k
def stays (s : List Ty) (p : Pat) (l : List Kp) (k : Int) (b : List Bd) : Bool := p.any || (furX s p l b k).isEmpty
def rowsX (s : List Ty) (p : Pat) (l : List Kp) : Nat → List (List Bd)
  | 0 => []
  | n + 1 => match l[n]? with
    | none => rowsX s p l n
    | some k => (rowsX s p l n).filter (stays s p l k.at_) ++ madeX s p l (rowsX s p l n) k.at_
def lastIs (p : Pat) (b : List Bd) : Bool := (lastBd b).el == (p.els.length : Int) - 1
def foundX (s : List Ty) (p : Pat) (l : List Kp) (n : Nat) (k : Kp) : List (List Bd) := (sortX orderX (madeX s p l (rowsX s p l n) k.at_)).filter (lastIs p)
def outX (s : List Ty) (p : Pat) (l : List Kp) : Nat → List (List Bd)
  | 0 => []
  | n + 1 => match l[n]? with
    | none => outX s p l n
    | some k => outX s p l n ++ foundX s p l n k
def matchesX (s : List Ty) (p : Pat) (l : List Kp) : List (List Bd) := outX s p l l.length
section
variable {s : List Ty} {p : Pat} {l : List Kp} {b : List Bd} {k : Int} {n : Nat}
theorem fur_len : (furX s p l b k).length ≤ 2 := List.length_filterMap_le _ _
theorem fur_of {c : List Bd} (h : c ∈ furX s p l b k) : ∃ e, goesX s p l b ⟨e, k⟩ = true ∧ c = b ++ [⟨e, k⟩] ∧ (e = (lastBd b).el ∨ e = nextX p (lastBd b).el) := by
  obtain ⟨e, he, h⟩ := List.mem_filterMap.1 h
  unfold furF at h
  cases hg : goesX s p l b ⟨e, k⟩ with
  | false => rw [hg] at h; cases h
  | true => rw [hg] at h; cases h; exact ⟨e, hg, rfl, by simpa [furE] using he⟩
theorem one_len : (oneX s p l k).length ≤ 1 := by unfold oneX; cases goesX s p l [] ⟨0, k⟩ <;> simp
theorem one_of {c : List Bd} (h : c ∈ oneX s p l k) : goesX s p l [] ⟨0, k⟩ = true ∧ c = [⟨0, k⟩] := by
  unfold oneX at h
  cases hg : goesX s p l [] ⟨0, k⟩ with
  | false => rw [hg] at h; cases h
  | true => rw [hg] at h; exact ⟨rfl, by simpa using h⟩
theorem flatM_len (f : List Bd → List (List Bd)) (hf : ∀ b, (f b).length ≤ 2) : ∀ rows : List (List Bd), (rows.flatMap f).length ≤ 2 * rows.length
  | [] => by simp
  | b :: r => by
    have := flatM_len f hf r
    have := hf b
    simp only [List.flatMap_cons, List.length_append, List.length_cons]; omega
theorem made_len {rows : List (List Bd)} : (madeX s p l rows k).length ≤ 2 * rows.length + 1 := by
  unfold madeX
  have := flatM_len (fun b => furX s p l b k) (fun b => fur_len) rows
  have := one_len (s := s) (p := p) (l := l) (k := k)
  rw [List.length_append]; omega
theorem pow4 (n : Nat) : 1 ≤ 4 ^ n := Nat.one_le_pow _ _ (by decide)
theorem rows_len : ∀ n, (rowsX s p l n).length ≤ 4 ^ n
  | 0 => by simp [rowsX]
  | n + 1 => by
    have ih := rows_len n
    have h4 := pow4 n
    have e4 : 4 ^ (n + 1) = 4 * 4 ^ n := by rw [Nat.pow_succ]; omega
    unfold rowsX
    cases l[n]? with
    | none => simp only; omega
    | some k =>
      have h1 := List.length_filter_le (stays s p l k.at_) (rowsX s p l n)
      have h2 := made_len (s := s) (p := p) (l := l) (k := k.at_) (rows := rowsX s p l n)
      simp only [List.length_append]; omega
theorem out_len : ∀ n, (outX s p l n).length ≤ 4 ^ n
  | 0 => by simp [outX]
  | n + 1 => by
    have ih := out_len n
    have h3 := rows_len (s := s) (p := p) (l := l) n
    have h4 := pow4 n
    have e4 : 4 ^ (n + 1) = 4 * 4 ^ n := by rw [Nat.pow_succ]; omega
    unfold outX
    cases l[n]? with
    | none => simp only; omega
    | some k =>
      have h1 := List.length_filter_le (lastIs p) (sortX orderX (madeX s p l (rowsX s p l n) k.at_))
      have h2 := made_len (s := s) (p := p) (l := l) (k := k.at_) (rows := rowsX s p l n)
      rw [sortX_len] at h1
      simp only [foundX, List.length_append]; omega
/-- Rows that are in hand: not empty, of elements that are, short. -/
def RowIn (p : Pat) (n : Nat) (b : List Bd) : Prop := 0 < b.length ∧ Fits p b ∧ b.length ≤ n
theorem RowIn.more {b : List Bd} {n m : Nat} (h : RowIn p n b) (hm : n ≤ m) : RowIn p m b := ⟨h.1, h.2.1, Nat.le_trans h.2.2 hm⟩
theorem fits_snoc {b : List Bd} {x : Bd} (h : Fits p b) (hx : 0 ≤ x.el ∧ x.el < (p.els.length : Int)) : Fits p (b ++ [x]) := by
  intro y hy
  rcases List.mem_append.1 hy with hy | hy
  · exact h y hy
  · rw [List.mem_singleton.1 hy]; exact hx
theorem made_in {rows : List (List Bd)} (h : ∀ b ∈ rows, RowIn p n b) : ∀ c ∈ madeX s p l rows k, RowIn p (n + 1) c := by
  intro c hc
  rcases List.mem_append.1 hc with hc | hc
  · obtain ⟨b, hb, hc⟩ := List.mem_flatMap.1 hc
    obtain ⟨e, he, rfl, _⟩ := fur_of hc
    have h1 := h b hb
    exact ⟨by simp, fits_snoc h1.2.1 (goes_in he), by have := h1.2.2; simp; omega⟩
  · obtain ⟨he, rfl⟩ := one_of hc
    exact ⟨by simp, fun y hy => by rw [List.mem_singleton.1 hy]; exact goes_in he, by simp⟩
theorem rows_in : ∀ n, ∀ b ∈ rowsX s p l n, RowIn p n b
  | 0 => by simp [rowsX]
  | n + 1 => by
    intro b hb
    unfold rowsX at hb
    cases hk : l[n]? with
    | none => rw [hk] at hb; exact (rows_in n b hb).more (Nat.le_succ _)
    | some k =>
      rw [hk] at hb
      rcases List.mem_append.1 hb with hb | hb
      · exact (rows_in n b (List.mem_filter.1 hb).1).more (Nat.le_succ _)
      · exact made_in (rows_in n) b hb
theorem rows_at {x : Kp} (h : l[n]? = some x) : rowsX s p l (n + 1) = (rowsX s p l n).filter (stays s p l x.at_) ++ madeX s p l (rowsX s p l n) x.at_ := by
  show (match l[n]? with | none => _ | some k => _) = _
  rw [h]
theorem out_at {x : Kp} (h : l[n]? = some x) : outX s p l (n + 1) = outX s p l n ++ foundX s p l n x := by
  show (match l[n]? with | none => _ | some k => _) = _
  rw [h]
theorem flat_snoc {α β : Type} {f : α → List β} {xs : List α} {i : Nat} {x : α} (h : xs[i]? = some x) : (xs.take (i + 1)).flatMap f = (xs.take i).flatMap f ++ f x := by
  rw [List.take_add_one, h, show (some x).toList = [x] from rfl, List.flatMap_append]; simp
theorem filt_snoc_t {α : Type} {f : α → Bool} {xs : List α} {i : Nat} {x : α} (h : xs[i]? = some x) (hf : f x = true) : (xs.take (i + 1)).filter f = (xs.take i).filter f ++ [x] := by
  rw [List.take_add_one, h, show (some x).toList = [x] from rfl, List.filter_append]; simp [hf]
theorem filt_snoc_f {α : Type} {f : α → Bool} {xs : List α} {i : Nat} {x : α} (h : xs[i]? = some x) (hf : f x = false) : (xs.take (i + 1)).filter f = (xs.take i).filter f := by
  rw [List.take_add_one, h, show (some x).toList = [x] from rfl, List.filter_append]; simp [hf]
end
/-! ### the first that isn't 0 -/
def orL : List Int → Int
  | [] => 0
  | x :: r => bif x != 0 then x else orL r
theorem orL_two (a b : Int) : orL [a, b] = orI a b := by
  show (bif a != 0 then a else (bif b != 0 then b else 0)) = bif a != 0 then a else b
  cases h : a != 0 with
  | true => rfl
  | false =>
    cases h2 : b != 0 with
    | true => rfl
    | false => have := bne_eq_false_iff_eq.1 h2; rw [this]; rfl
theorem orL_at {ks : List Int} {i : Nat} {x : Int} (h : ks[i]? = some x) : orL (ks.drop i) = bif x != 0 then x else orL (ks.drop (i + 1)) := by
  obtain ⟨h1, rfl⟩ := List.getElem?_eq_some_iff.1 h
  rw [List.drop_eq_getElem_cons h1]; rfl
theorem orL_end {ks : List Int} {i : Nat} (h : ks.length ≤ i) : orL (ks.drop i) = 0 := by rw [List.drop_of_length_le h]; rfl
theorem fe_idx {a b e : Int} {i : Nat} (h : [a, b][i]? = some e) : ofCells false 1 ([AV.d (int a), .d (int b)].drop (((i : Nat) : Int).toNat * 1)) = some (.d (int e)) := by
  match i with
  | 0 => cases h; rfl
  | 1 => cases h; rfl
  | i + 2 => simp at h
theorem unk_rows (k : Nat) (a c : List (List Bd)) : (((a.map encR).flatten.map AV.d ++ (c.map encR).flatten.map AV.d).map (unk k)) = ((a ++ c).map encR).flatten.map AV.d := by
  rw [← List.map_append, ← List.flatten_append, ← List.map_append]
  induction ((a ++ c).map encR).flatten with
  | nil => rfl
  | cons x xs ih => show unk k (.d x) :: _ = _; rw [ih]; rfl
theorem unk_rowsE (k : Nat) (a : List (List Bd)) : ((a.map encR).flatten.map AV.d).map (unk k) = (a.map encR).flatten.map AV.d := by
  induction (a.map encR).flatten with
  | nil => rfl
  | cons x xs ih => show unk k (.d x) :: _ = _; rw [ih]; rfl
end Go.AL
/- The document's check of a pattern, plain. -/
namespace Go.AL
set_option linter.unusedVariables false
set_option linter.unusedSimpArgs false
section
variable {s : List Ty} {p : Pat} {e : El} {seen : List El} {i : Nat}
end
end Go.AL
/- What every match is: plain laws of rows that go on. -/
namespace Go.AL
open Go.Proofs Go.Sort
set_option linter.unusedVariables false
set_option linter.unusedSimpArgs false
/-- Each bound goes behind those ahead of it. -/
def Gn (s : List Ty) (p : Pat) (l : List Kp) (b : List Bd) : Prop := 0 < b.length ∧ ∀ (i : Nat) (x : Bd), b[i]? = some x → goesX s p l (b.take i) x = true
section
variable {s : List Ty} {p : Pat} {l : List Kp} {b : List Bd} {k : Int} {n : Nat} {x : Bd}
theorem gn_snoc (h : ∀ (i : Nat) (y : Bd), b[i]? = some y → goesX s p l (b.take i) y = true) (hx : goesX s p l b x = true) : Gn s p l (b ++ [x]) := by
  refine ⟨by simp, fun i y hy => ?_⟩
  have hlt := (List.getElem?_eq_some_iff.1 hy).1
  simp at hlt
  by_cases hi : i < b.length
  · rw [List.getElem?_append_left hi] at hy
    rw [List.take_append_of_le_length (by omega)]
    exact h i y hy
  · have hi' : i = b.length := by omega
    subst hi'
    rw [List.getElem?_append_right (Nat.le_refl _), Nat.sub_self] at hy
    cases hy
    rw [List.take_left]; exact hx
theorem gn_one (h : goesX s p l [] x = true) : Gn s p l [x] := gn_snoc (b := []) (fun i y hy => by simp at hy) h
theorem gn_init {c : List Bd} (h : Gn s p l (c ++ [x])) : (∀ (i : Nat) (y : Bd), c[i]? = some y → goesX s p l (c.take i) y = true) ∧ goesX s p l c x = true := by
  refine ⟨fun i y hy => ?_, ?_⟩
  · have hi := (List.getElem?_eq_some_iff.1 hy).1
    have := h.2 i y (by rw [List.getElem?_append_left hi]; exact hy)
    rwa [List.take_append_of_le_length (by omega)] at this
  · have := h.2 c.length x (by simp)
    rwa [List.take_left] at this
theorem made_gn {rows : List (List Bd)} (h : ∀ b ∈ rows, Gn s p l b) : ∀ c ∈ madeX s p l rows k, Gn s p l c := by
  intro c hc
  rcases List.mem_append.1 hc with hc | hc
  · obtain ⟨b, hb, hc⟩ := List.mem_flatMap.1 hc
    obtain ⟨e, he, rfl, _⟩ := fur_of hc
    exact gn_snoc (h b hb).2 he
  · obtain ⟨he, rfl⟩ := one_of hc
    exact gn_one he
theorem found_in {x : Kp} (h : b ∈ foundX s p l n x) : b ∈ madeX s p l (rowsX s p l n) x.at_ ∧ lastIs p b = true := by
  unfold foundX at h
  obtain ⟨h1, h2⟩ := List.mem_filter.1 h
  exact ⟨(List.mergeSort_perm _ _).mem_iff.1 h1, h2⟩
theorem out_in : ∀ n, b ∈ outX s p l n → ∃ i x, i < n ∧ l[i]? = some x ∧ b ∈ foundX s p l i x
  | 0, h => by simp [outX] at h
  | n + 1, h => by
    unfold outX at h
    cases hk : l[n]? with
    | none =>
      rw [hk] at h
      obtain ⟨i, x, h1, h2⟩ := out_in n h
      exact ⟨i, x, by omega, h2⟩
    | some k =>
      rw [hk] at h
      rcases List.mem_append.1 h with h | h
      · obtain ⟨i, x, h1, h2⟩ := out_in n h
        exact ⟨i, x, by omega, h2⟩
      · exact ⟨n, k, by omega, hk, h⟩
theorem goes_there (h : goesX s p l b x = true) : (atK l x.at_).2 = true := by
  cases hq : (!(atK l x.at_).2 || (decide (x.el < 0) || decide (x.el ≥ (p.els.length : Int)))) with
  | true => rw [goes_no hq] at h; cases h
  | false => simp at hq; exact hq.1
/-- What is behind lies behind, and within the window. -/
theorem goes_far (hb : 0 < b.length) (h : goesX s p l b x = true) : (lastBd b).at_ < x.at_ ∧ wr ((atK l x.at_).1.ts - (firstE l b).ts) ≤ p.within := by
  have h0 : (!(atK l x.at_).2 || (decide (x.el < 0) || decide (x.el ≥ (p.els.length : Int)))) = false := by
    cases hq : (!(atK l x.at_).2 || (decide (x.el < 0) || decide (x.el ≥ (p.els.length : Int)))) with
    | true => rw [goes_no hq] at h; cases h
    | false => rfl
  rw [goes_on h0 (by cases b with | nil => cases hb | cons _ _ => rfl) rfl rfl rfl] at h
  generalize hc : (decide (x.at_ ≤ (lastBd b).at_) || ((!(x.el == (lastBd b).el && (elX p (lastBd b).el).plus) && (x.el != nextX p (lastBd b).el)) || decide (wr ((atK l x.at_).1.ts - (firstE l b).ts) > p.within))) = q at h
  cases q with
  | true => cases h
  | false =>
    rw [Bool.or_eq_false_iff, Bool.or_eq_false_iff] at hc
    have h1 := of_decide_eq_false hc.1
    have h2 := of_decide_eq_false hc.2.2
    omega
theorem snoc_of {α : Type} : ∀ {b : List α}, 0 < b.length → ∃ c x, b = c ++ [x]
  | [], h => absurd h (by simp)
  | [x], _ => ⟨[], x, rfl⟩
  | x :: y :: t, _ => by
    obtain ⟨c, z, h⟩ := snoc_of (b := y :: t) (by simp)
    exact ⟨x :: c, z, by rw [h]; rfl⟩
theorem last_snoc (b : List Bd) (x : Bd) : lastBd (b ++ [x]) = x := by unfold lastBd; simp
end
/-! ### events that are kept one behind the other -/
theorem kept_has {l : List Ev} {n : Nat} {z : Int} (h : (atK (keptX l n) z).2 = true) : ∃ (i : Nat) (e : Ev), z = ((n + i : Nat) : Int) ∧ l[i]? = some e ∧ atK (keptX l n) z = (e, true) := by
  unfold atK at h
  cases hq : (keptX l n).find? (fun k => k.at_ == z) with
  | none => rw [hq] at h; cases h
  | some k =>
    have h1 := List.find?_some hq
    obtain ⟨i, hi⟩ := List.getElem?_of_mem (List.mem_of_find?_eq_some hq)
    have hl := (List.getElem?_eq_some_iff.1 hi).1
    rw [kept_len] at hl
    have hk := kept_of hi
    have hz : k.at_ = z := by simpa using h1
    refine ⟨i, l[i], by rw [← hz, hk], List.getElem?_eq_getElem hl, ?_⟩
    rw [← hz, hk]
    exact kept_at (List.getElem?_eq_getElem hl)
theorem rowin_of {s : List Ty} {p : Pat} {l : List Kp} {b : List Bd} (h : b ∈ matchesX s p l) : RowIn p (l.length + 1) b := by
  obtain ⟨i, x, hi, hx, hf⟩ := out_in _ h
  exact (made_in (rows_in i) b (found_in hf).1).more (by omega)
end Go.AL
/- What law 14's known() sees, computed. -/
namespace Go.AL
open Go.Proofs Go.Sort
set_option linter.unusedVariables false
set_option linter.unusedSimpArgs false
/-- Sorted by putting one after the other. -/
def insO (x : List Bd) : List (List Bd) → List (List Bd)
  | [] => [x]
  | y :: r => bif decide (orderX y x < 0) then y :: insO x r else x :: y :: r
def insS (xs : List (List Bd)) : List (List Bd) := xs.foldr insO []
theorem insO_perm (x : List Bd) : ∀ xs, (insO x xs).Perm (x :: xs)
  | [] => .refl _
  | y :: r => by
    unfold insO
    cases decide (orderX y x < 0) with
    | true => exact ((insO_perm x r).cons y).trans (.swap x y r)
    | false => exact .refl _
def leO (a b : List Bd) : Prop := orderX b a < 0 → False
theorem leO_trans {a b c : List Bd} (h : leO a b) (k : leO b c) : leO a c := by
  have h1 : ltOf orderX b a = false := decide_eq_false h
  have h2 : ltOf orderX c b = false := decide_eq_false k
  exact of_decide_eq_false (order_swo.ntrans c b a h2 h1)
theorem leO_lt {a b : List Bd} (h : orderX a b < 0) : leO a b := fun k => by
  have := order_trans h k
  rw [order_self] at this; omega
theorem insO_sorted (x : List Bd) : ∀ {xs}, xs.Pairwise leO → (insO x xs).Pairwise leO
  | [], _ => by simp [insO]
  | y :: r, h => by
    obtain ⟨h1, h2⟩ := List.pairwise_cons.1 h
    unfold insO
    cases hq : decide (orderX y x < 0) with
    | true =>
      refine List.pairwise_cons.2 ⟨fun z hz => ?_, insO_sorted x h2⟩
      rcases List.mem_cons.1 ((insO_perm x r).mem_iff.1 hz) with rfl | hz
      · exact leO_lt (of_decide_eq_true hq)
      · exact h1 z hz
    | false =>
      refine List.pairwise_cons.2 ⟨fun z hz => ?_, h⟩
      have hxy : leO x y := of_decide_eq_false hq
      rcases List.mem_cons.1 hz with rfl | hz
      · exact hxy
      · exact leO_trans hxy (h1 z hz)
theorem insS_perm : ∀ xs, (insS xs).Perm xs
  | [] => .refl _
  | x :: xs => (insO_perm x _).trans ((insS_perm xs).cons x)
theorem insS_sorted : ∀ xs, (insS xs).Pairwise leO
  | [] => .nil
  | x :: xs => insO_sorted x (insS_sorted xs)
theorem sortX_sorted (xs : List (List Bd)) : (sortX orderX xs).Pairwise leO := by
  have h := List.pairwise_mergeSort (le := fun x y => !(ltOf orderX) y x) (fun x y z q1 q2 => by
    simp only [Bool.not_eq_true'] at q1 q2 ⊢
    exact order_swo.ntrans z y x q2 q1) (fun x y => by
      cases h : ltOf orderX y x with
      | false => simp
      | true => simp [order_swo.asymmA h]) xs
  exact h.imp fun {a b} hab => by
    have : ltOf orderX b a = false := by simpa using hab
    exact of_decide_eq_false this
theorem sortX_ins (xs : List (List Bd)) : sortX orderX xs = insS xs :=
  List.Perm.eq_of_pairwise (le := leO) (fun a b _ _ h k => order_total a b (decide_eq_false k) (decide_eq_false h)) (sortX_sorted xs) (insS_sorted xs) ((List.mergeSort_perm _ _).trans (insS_perm xs).symm)
/-- All matches, to be computed. -/
def outC (s : List Ty) (p : Pat) (l : List Kp) : Nat → List (List Bd)
  | 0 => []
  | n + 1 => match l[n]? with
    | none => outC s p l n
    | some k => outC s p l n ++ (insS (madeX s p l (rowsX s p l n) k.at_)).filter (lastIs p)
theorem outC_eq {s : List Ty} {p : Pat} {l : List Kp} : ∀ n, outX s p l n = outC s p l n
  | 0 => rfl
  | n + 1 => by
    unfold outX outC
    cases l[n]? with
    | none => exact outC_eq n
    | some k => simp only [foundX, sortX_ins, outC_eq n]
def mQw : List Ev := [evT 1 1, evT 2 2, evT 3 3]
def kQw : List Kp := [⟨0, evT 1 1⟩, ⟨1, evT 2 2⟩, ⟨2, evT 3 3⟩]
def pQw (any : Bool) : Pat := ⟨[eL (ch 97), eL (ch 98)], 10, nul, any⟩
theorem knownC_stream : streamX mQw 0 = (kQw, true) := by
  have h : okS mQw = true := by decide +kernel
  unfold streamX; rw [h]; rfl
theorem knownC_any : matchesX bS (pQw true) kQw = [[⟨0, 0⟩, ⟨1, 1⟩], [⟨0, 0⟩, ⟨1, 2⟩], [⟨0, 1⟩, ⟨1, 2⟩]] := by
  unfold matchesX; rw [outC_eq]; decide +kernel
theorem knownC_next : matchesX bS (pQw false) kQw = [[⟨0, 0⟩, ⟨1, 1⟩], [⟨0, 1⟩, ⟨1, 2⟩]] := by
  unfold matchesX; rw [outC_eq]; decide +kernel
theorem knownC_pre : prefixX bS (pQw false) kQw [⟨0, 1⟩] = true := by decide +kernel
theorem knownC_nil : prefixX bS (pQw false) kQw [] = false := by decide +kernel
theorem knownC_less : decide (orderX [⟨0, 1⟩] [⟨0, 2⟩] < 0) = true := by decide +kernel
def evU (ts n : Int) : Ev := ⟨ch 117, ts, [⟨1, n, nul⟩]⟩
end Go.AL
