/- Parts of an abstract logic over the kit's walks, and walks in it: Need. -/
import Derived.Test.YtojnicnbmgiplaaMa
import Derived.Test.YtojnicnbmgiplaaBa
/- What a pattern looks at: uses, sorted, each once; plain data. -/
namespace Go.AL
open Go.Proofs Go.Sort
set_option linter.unusedVariables false
set_option linter.unusedSimpArgs false
set_option linter.unusedSectionVars false
/-! ### Neighbours that are the same -/
section
def cG {α : Type} [BEq α] : List α → List α
  | [] => []
  | [a] => [a]
  | a :: b :: l => bif a == b then cG (b :: l) else a :: cG (b :: l)
variable {α : Type} [BEq α] [LawfulBEq α]
theorem cG_snoc : ∀ (l : List α) (x y : α), cG (l ++ [x, y]) = bif x == y then cG (l ++ [x]) else cG (l ++ [x]) ++ [y]
  | [], x, y => by
    by_cases e : x = y
    · subst e; simp [cG]
    · have : (x == y) = false := by simpa using e
      simp [cG, this]
  | [a], x, y => by
    by_cases e : x = y
    · subst e
      simp only [List.cons_append, List.nil_append, cG]
      cases a == x <;> simp
    · have : (x == y) = false := by simpa using e
      simp only [List.cons_append, List.nil_append, cG, this]
      cases a == x <;> simp
  | a :: b :: l, x, y => by
    have ih := cG_snoc (b :: l) x y
    simp only [List.cons_append, cG] at ih ⊢
    rw [ih]
    cases a == b <;> cases x == y <;> rfl
theorem take_twoG {ks : List α} {p : Nat} {x y : α} (hp : 1 ≤ p) (hx : ks[p - 1]? = some x) (hy : ks[p]? = some y) : ks.take (p + 1) = ks.take (p - 1) ++ [x, y] ∧ ks.take p = ks.take (p - 1) ++ [x] := by
  obtain ⟨p, rfl⟩ : ∃ q, p = q + 1 := ⟨p - 1, by omega⟩
  rw [Nat.add_sub_cancel] at hx ⊢
  have e2 : ks.take (p + 1) = ks.take p ++ [x] := by rw [List.take_add_one, hx]; rfl
  have e1 : ks.take (p + 1 + 1) = ks.take (p + 1) ++ [y] := by rw [List.take_add_one, hy]; rfl
  rw [e1, e2]
  simp
theorem cG_more {ks : List α} {p : Nat} {x y : α} (hp : 1 ≤ p) (hx : ks[p - 1]? = some x) (hy : ks[p]? = some y) : cG (ks.take (p + 1)) = bif x == y then cG (ks.take p) else cG (ks.take p) ++ [y] := by
  obtain ⟨h1, h2⟩ := take_twoG hp hx hy
  rw [h1, h2]; exact cG_snoc _ x y
theorem cG_take1 {ks : List α} (h : 1 ≤ ks.length) : cG (ks.take 1) = ks.take 1 := by
  match ks, h with
  | a :: l, _ => simp [cG]
/-- The row while what is the same is being left out: q.1 the row, q.2.1 where is written, q.2.2 how much is read. -/
structure CmpG {α : Type} [BEq α] (ks R : List α) (k p : Nat) : Prop where
  len : R.length = ks.length
  lo : 1 ≤ k
  kp : k < p
  hi : p ≤ ks.length
  done : R.take k = cG (ks.take p)
  rest : R.drop (p - 1) = ks.drop (p - 1)
theorem CmpG.at {ks R : List α} {k p : Nat} (c : CmpG ks R k p) {j : Nat} (h : p - 1 ≤ j) : R[j]? = ks[j]? := by
  have e := c.rest
  have h1 : (R.drop (p - 1))[j - (p - 1)]? = (ks.drop (p - 1))[j - (p - 1)]? := by rw [e]
  rw [List.getElem?_drop, List.getElem?_drop, show p - 1 + (j - (p - 1)) = j by omega] at h1
  exact h1
theorem CmpG.skip {ks R : List α} {k p : Nat} {x y : α} (c : CmpG ks R k p) (hx : ks[p - 1]? = some x) (hy : ks[p]? = some y) (h : (y != x) = false) : CmpG ks R k (p + 1) := by
  have hlt := (List.getElem?_eq_some_iff.1 hy).1
  have hxy : (x == y) = true := by simp at h ⊢; exact h.symm
  refine ⟨c.len, c.lo, by have := c.kp; omega, by omega, ?_, ?_⟩
  · rw [cG_more (by have := c.kp; have := c.lo; omega) hx hy, hxy, c.done]; rfl
  · rw [show p + 1 - 1 = (p - 1) + 1 by have := c.kp; have := c.lo; omega, ← List.drop_drop, ← List.drop_drop, c.rest]
theorem CmpG.put {ks R : List α} {k p : Nat} {x y : α} (c : CmpG ks R k p) (hx : ks[p - 1]? = some x) (hy : ks[p]? = some y) (h : (y != x) = true) : CmpG ks (R.set k y) (k + 1) (p + 1) := by
  have hlt := (List.getElem?_eq_some_iff.1 hy).1
  have hxy : (x == y) = false := by simp at h ⊢; exact fun e => h e.symm
  have hk := c.kp
  have hl := c.len
  refine ⟨by simp [hl], by have := c.lo; omega, by omega, by omega, ?_, ?_⟩
  · rw [cG_more (by have := c.lo; omega) hx hy, hxy]
    simp only [cond_false]
    rw [← c.done, List.take_add_one]
    have : (R.set k y)[k]? = some y := by rw [List.getElem?_set_self (by omega)]
    rw [this, List.take_set_of_le (Nat.le_refl k)]
    rfl
  · rw [List.drop_set_of_lt (by omega)]
    rw [show p + 1 - 1 = (p - 1) + 1 by omega, ← List.drop_drop, ← List.drop_drop, c.rest]
theorem CmpG.start {ks : List α} {k : Nat} {x : α} (h1 : 1 ≤ k) (hx : ks[k - 1]? = some x) (hy : ks[k]? = some x) (hd : cG (ks.take k) = ks.take k) : CmpG ks ks k (k + 1) := by
  have hlt := (List.getElem?_eq_some_iff.1 hy).1
  refine ⟨rfl, h1, by omega, by omega, ?_, rfl⟩
  rw [cG_more h1 hx hy]
  simp [hd]
theorem cG_next {ks : List α} {k : Nat} {x y : α} (h1 : 1 ≤ k) (hx : ks[k - 1]? = some x) (hy : ks[k]? = some y) (h : (y == x) = false) (hd : cG (ks.take k) = ks.take k) : cG (ks.take (k + 1)) = ks.take (k + 1) := by
  have hxy : (x == y) = false := by simp at h ⊢; exact fun e => h e.symm
  obtain ⟨e1, e2⟩ := take_twoG h1 hx hy
  rw [cG_more h1 hx hy, hxy, hd, e1, e2]
  simp
theorem cG_small {ks : List α} (h : ks.length < 2) : cG ks = ks := by
  match ks, h with
  | [], _ => rfl
  | [a], _ => rfl
theorem cmpG_end {ks R : List α} {k p : Nat} (c : CmpG ks R k p) (hge : ks.length ≤ p) : R.take k = cG ks := by
  have h3 := c.hi
  rw [c.done, List.take_of_length_le hge]
theorem cG_len : ∀ (ks : List α), (cG ks).length ≤ ks.length
  | [] => by simp [cG]
  | [a] => by simp [cG]
  | a :: b :: l => by
    have := cG_len (b :: l)
    simp only [cG]
    cases a == b <;> simp at this ⊢ <;> omega
theorem cG_mem : ∀ {ks : List α} {x : α}, x ∈ cG ks ↔ x ∈ ks
  | [], x => by simp [cG]
  | [a], x => by simp [cG]
  | a :: b :: l, x => by
    have ih := @cG_mem (b :: l) x
    simp only [cG]
    by_cases e : a = b
    · subst e
      rw [beq_self_eq_true, cond_true, ih]
      simp
    · rw [beq_eq_false_iff_ne.2 e, cond_false, List.mem_cons, ih, List.mem_cons, List.mem_cons, List.mem_cons]
end
/-! ### Uses -/
structure Us where
  ty : ByteArray
  field : ByteArray
def encU (u : Us) : List D := [str u.ty, str u.field]
def argU (u : Us) : AV := .agg ((encU u).map .d)
def sameU (a b : Us) : Bool := same a.ty b.ty && same a.field b.field
instance : BEq Us := ⟨sameU⟩
theorem sameU_eq {a b : Us} (h : sameU a b = true) : a = b := by
  unfold sameU at h
  rw [Bool.and_eq_true] at h
  obtain ⟨t, f⟩ := a
  obtain ⟨u, g⟩ := b
  have h1 : t = u := same_eq h.1
  have h2 : f = g := same_eq h.2
  rw [h1, h2]
instance : LawfulBEq Us where
  eq_of_beq := fun h => sameU_eq h
  rfl := by intro a; show sameU a a = true; unfold sameU; rw [same_refl, same_refl]; rfl
def cmpS (a b : ByteArray) : Int := bif less a b then -1 else bif less b a then 1 else 0
def cmpU (a b : Us) : Int := orI (cmpS a.ty b.ty) (cmpS a.field b.field)
theorem cmpS_cases (a b : ByteArray) : (a = b ∧ cmpS a b = 0) ∨ (less a b = true ∧ cmpS a b = -1) ∨ (less b a = true ∧ cmpS a b = 1) := by
  unfold cmpS
  cases h1 : less a b with
  | true => exact .inr (.inl ⟨rfl, rfl⟩)
  | false =>
    cases h2 : less b a with
    | true => exact .inr (.inr ⟨rfl, rfl⟩)
    | false =>
      left
      cases h3 : same a b with
      | true => exact ⟨same_eq h3, rfl⟩
      | false => rw [less_total h3 h1] at h2; cases h2
def ltU (x y : Us) : Prop := less x.ty y.ty = true ∨ (x.ty = y.ty ∧ less x.field y.field = true)
theorem lessT {a b c : ByteArray} (h : less a b = true) (k : less b c = true) : less a c = true := less_trans h k
theorem ltU_trans {x y z : Us} (h : ltU x y) (k : ltU y z) : ltU x z := by
  rcases h with h | ⟨e, h⟩ <;> rcases k with k | ⟨e', k⟩
  · exact .inl (lessT h k)
  · exact .inl (e' ▸ h)
  · exact .inl (by rw [e]; exact k)
  · exact .inr ⟨e.trans e', lessT h k⟩
theorem ltU_irrefl {x : Us} : ¬ ltU x x := by
  rintro (h | ⟨_, h⟩)
  · rw [less_self] at h; cases h
  · rw [less_self] at h; cases h
theorem cmpU_cases (x y : Us) : (x = y ∧ cmpU x y = 0) ∨ (ltU x y ∧ cmpU x y = -1) ∨ (ltU y x ∧ cmpU x y = 1) := by
  unfold cmpU
  rcases cmpS_cases x.ty y.ty with ⟨h1, e1⟩ | ⟨h1, e1⟩ | ⟨h1, e1⟩
  · rw [e1]
    rcases cmpS_cases x.field y.field with ⟨h2, e2⟩ | ⟨h2, e2⟩ | ⟨h2, e2⟩
    · left; rw [e2]; exact ⟨by cases x; cases y; simp_all, rfl⟩
    · right; left; rw [e2]; exact ⟨.inr ⟨h1, h2⟩, rfl⟩
    · right; right; rw [e2]; exact ⟨.inr ⟨h1.symm, h2⟩, rfl⟩
  · right; left; rw [e1]; exact ⟨.inl h1, rfl⟩
  · right; right; rw [e1]; exact ⟨.inl h1, rfl⟩
theorem cmpU_lt {x y : Us} : ltOf cmpU x y = true ↔ ltU x y := by
  unfold ltOf
  rw [decide_eq_true_eq]
  rcases cmpU_cases x y with ⟨e, h⟩ | ⟨g, h⟩ | ⟨g, h⟩
  · subst e; rw [h]; exact ⟨fun q => absurd q (by decide), fun q => absurd q ltU_irrefl⟩
  · rw [h]; exact ⟨fun _ => g, fun _ => by decide⟩
  · rw [h]; exact ⟨fun q => absurd q (by decide), fun q => absurd (ltU_trans g q) ltU_irrefl⟩
theorem orderU_swo : SWO (ltOf cmpU) where
  irrefl a := by rw [← Bool.not_eq_true, cmpU_lt]; exact ltU_irrefl
  trans a b c h k := by rw [cmpU_lt] at *; exact ltU_trans h k
  ntrans a b c h k := by
    rw [← Bool.not_eq_true, cmpU_lt] at *
    intro q
    rcases cmpU_cases a b with ⟨e, _⟩ | ⟨g, _⟩ | ⟨g, _⟩
    · subst e; exact k q
    · exact h g
    · exact k (ltU_trans g q)
theorem orderU_total (a b : Us) (h : ltOf cmpU a b = false) (k : ltOf cmpU b a = false) : a = b := by
  rw [← Bool.not_eq_true, cmpU_lt] at h k
  rcases cmpU_cases a b with ⟨e, _⟩ | ⟨g, _⟩ | ⟨g, _⟩
  · exact e
  · exact absurd g h
  · exact absurd g k
/-! ### What is looked at -/
def Exp.fi : Exp → ByteArray | .mk _ _ _ f _ => f
def typesX (p : Pat) (x : Exp) : List ByteArray := bif x.op == 2 then (match p.els.find? (fun e => same e.al x.al) with | some e => e.tys | none => []) else []
def usesN (p : Pat) (x : Exp) : List Us := (typesX p x).map fun t => ⟨t, x.fi⟩
def usesB (p : Pat) (e : El) : List Us := bif same p.byf nul then [] else e.tys.map fun t => ⟨t, p.byf⟩
def usesC (p : Pat) (e : El) : List Us := (nodesX e.cond 1).flatMap (usesN p)
def usesE (p : Pat) (e : El) : List Us := usesB p e ++ usesC p e
def usesAll (p : Pat) : List Us := p.els.flatMap (usesE p)
def usesX (p : Pat) : List Us := cG (sortX cmpU (usesAll p))
def ysU (l : List Us) : List (List AV) := l.map fun u => [argU u]
theorem ysU_len (l : List Us) : (ysU l).length = l.length := by simp [ysU]
theorem ysU_get {l : List Us} {i : Nat} {u : Us} (h : l[i]? = some u) : (ysU l)[i]? = some [argU u] := by simp [ysU, h]
theorem ysU_of {l : List Us} {i : Nat} {args : List AV} (h : (ysU l)[i]? = some args) : ∃ u, l[i]? = some u ∧ args = [argU u] := by
  simp only [ysU, List.getElem?_map, Option.map_eq_some_iff] at h
  obtain ⟨u, hu, rfl⟩ := h
  exact ⟨u, hu, rfl⟩
theorem argU_kf (u : Us) : kf (argU u) = true := by simp [argU, kf, kfs_d]
theorem ysU_kf (l : List Us) : ∀ y ∈ ysU l, kfs y = true ∧ y.length = 1 := by
  intro y hy
  simp only [ysU, List.mem_map] at hy
  obtain ⟨x, _, rfl⟩ := hy
  exact ⟨by simp [kfs, argU_kf], rfl⟩
/-- Rows side by side: where a cell of one of them lies. -/
theorem fm_pos {α β : Type} {f : α → List β} {xs : List α} {i m : Nat} {x : α} {y : β} (hx : xs[i]? = some x) (hy : (f x)[m]? = some y) : (xs.flatMap f)[((xs.take i).flatMap f).length + m]? = some y := by
  obtain ⟨hi, rfl⟩ := List.getElem?_eq_some_iff.1 hx
  have e : xs = xs.take i ++ xs[i] :: xs.drop (i + 1) := by rw [← List.drop_eq_getElem_cons hi, List.take_append_drop]
  have e2 : xs.flatMap f = (xs.take i).flatMap f ++ (f xs[i] ++ (xs.drop (i + 1)).flatMap f) := by
    conv => lhs; rw [e]
    rw [List.flatMap_append, List.flatMap_cons]
  have hm := (List.getElem?_eq_some_iff.1 hy).1
  rw [e2, List.getElem?_append_right (by omega), Nat.add_sub_cancel_left, List.getElem?_append_left hm]
  exact hy
theorem fm_succ {α β : Type} {f : α → List β} {xs : List α} {i : Nat} {x : α} (hx : xs[i]? = some x) : ((xs.take (i + 1)).flatMap f).length = ((xs.take i).flatMap f).length + (f x).length := by
  rw [List.take_add_one, hx]
  show ((xs.take i ++ [x]).flatMap f).length = _
  rw [List.flatMap_append, List.length_append]; simp
theorem fm_end {α β : Type} {f : α → List β} {xs : List α} {i : Nat} (h : xs.length ≤ i) : (xs.take i).flatMap f = xs.flatMap f := by rw [List.take_of_length_le h]
/-- The types that a node names. -/
theorem types_hit {p : Pat} {x : Exp} {i : Nat} {e : El} (h : p.els[i]? = some e) (h1 : (x.op == 2) = true) (h2 : same e.al x.al = true) (hno : ∀ (j : Nat) (d : El), j < i → p.els[j]? = some d → ((x.op == 2) && same d.al x.al) = false) : typesX p x = e.tys := by
  unfold typesX
  rw [h1]
  have : p.els.find? (fun e => same e.al x.al) = some e := by
    rw [List.find?_eq_some_iff_getElem]
    obtain ⟨hi, he⟩ := List.getElem?_eq_some_iff.1 h
    refine ⟨h2, i, hi, he, fun j hj => ?_⟩
    have := hno j _ hj (List.getElem?_eq_getElem (by omega))
    rw [h1, Bool.true_and] at this
    rw [this]; rfl
  rw [this]; rfl
theorem types_miss {p : Pat} {x : Exp} (hno : ∀ (j : Nat) (d : El), p.els[j]? = some d → ((x.op == 2) && same d.al x.al) = false) : typesX p x = [] := by
  unfold typesX
  cases h1 : x.op == 2 with
  | false => rfl
  | true =>
    have : p.els.find? (fun e => same e.al x.al) = none := by
      rw [List.find?_eq_none]
      intro d hd
      obtain ⟨j, hj⟩ := List.getElem?_of_mem hd
      have := hno j d hj
      rw [h1, Bool.true_and] at this
      rw [this]; exact Bool.false_ne_true
    rw [this]; rfl
theorem types_len {p : Pat} {x : Exp} (hp : ∀ e ∈ p.els, e.tys.length ≤ 3) : (typesX p x).length ≤ 3 := by
  unfold typesX
  cases x.op == 2 with
  | false => exact Nat.zero_le _
  | true =>
    show (match p.els.find? (fun e : El => same e.al x.al) with | some e => e.tys | none => []).length ≤ 3
    split
    · rename_i e h; exact hp e (List.mem_of_find?_eq_some h)
    · exact Nat.zero_le _
/-- Where the uses lie. -/
def nE (p : Pat) (i : Nat) : Nat := ((p.els.take i).flatMap (usesE p)).length
def nN (p : Pat) (e : El) (k : Nat) : Nat := (((nodesX e.cond 1).take k).flatMap (usesN p)).length
theorem at_by {p : Pat} {i j : Nat} {e : El} {t : ByteArray} (he : p.els[i]? = some e) (ht : e.tys[j]? = some t) (hb : same p.byf nul = false) : (usesAll p)[nE p i + j]? = some ⟨t, p.byf⟩ := by
  refine fm_pos he ?_
  unfold usesE usesB
  rw [hb, cond_false, List.getElem?_append_left (by rw [List.length_map]; exact (List.getElem?_eq_some_iff.1 ht).1), List.getElem?_map, ht]; rfl
theorem at_node {p : Pat} {i k q : Nat} {e : El} {x : Exp} {t : ByteArray} (he : p.els[i]? = some e) (hx : (nodesX e.cond 1)[k]? = some x) (ht : (typesX p x)[q]? = some t) : (usesAll p)[nE p i + (usesB p e).length + nN p e k + q]? = some ⟨t, x.fi⟩ := by
  rw [Nat.add_assoc, Nat.add_assoc]
  refine fm_pos he ?_
  unfold usesE
  rw [List.getElem?_append_right (by omega), Nat.add_sub_cancel_left]
  refine fm_pos hx ?_
  unfold usesN
  rw [List.getElem?_map, ht]; rfl
theorem nE_succ {p : Pat} {i : Nat} {e : El} (he : p.els[i]? = some e) : nE p (i + 1) = nE p i + (usesB p e).length + nN p e (nodesX e.cond 1).length := by
  unfold nE nN
  rw [fm_succ he, List.take_of_length_le (Nat.le_refl _)]
  unfold usesE usesC
  rw [List.length_append]; omega
theorem nN_succ {p : Pat} {e : El} {k : Nat} {x : Exp} (hx : (nodesX e.cond 1)[k]? = some x) : nN p e (k + 1) = nN p e k + (typesX p x).length := by
  unfold nN
  rw [fm_succ hx]
  unfold usesN
  rw [List.length_map]
theorem nE_end {p : Pat} {i : Nat} (h : p.els.length ≤ i) : nE p i = (usesAll p).length := by
  unfold nE
  rw [fm_end h]; rfl
theorem usesB_f {p : Pat} (e : El) (hb : same p.byf nul = false) : (usesB p e).length = e.tys.length := by unfold usesB; rw [hb, cond_false, List.length_map]
theorem usesB_t {p : Pat} (e : El) (hb : same p.byf nul = true) : (usesB p e).length = 0 := by unfold usesB; rw [hb]; rfl
/-! ### Told once -/
def hasU (l : List Us) (u : Us) : Bool := l.any fun x => sameU u x
end Go.AL
