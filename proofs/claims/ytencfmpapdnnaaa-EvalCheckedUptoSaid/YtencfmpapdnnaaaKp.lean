/- Parts of an abstract logic over the kit's walks, and walks in it: Chk, C10. -/
import Derived.Test.YtencfmpapdnnaaaBa
import Derived.Test.YtencfmpapdnnaaaAe
/- Whether a pattern suits a schema, as plain data. Nothing of a program. -/
namespace Go.AL
set_option linter.unusedVariables false
set_option linter.unusedSimpArgs false
/-! ### Errors that are looked at -/
section
variable {E : Env} {ops : List Oper} {J : Jt} {h : Heap} {s : Slots} {o : Oper}
theorem loc_pure (hE : E.Good) {R : AV} (hr : stepPure E.T h s o.op = some R) : Loc E ops J h o s R :=
  ⟨stepPure_notDefer hr, fun Z K Y ι a w m hl => stepPure_ok hE.ok.T m o hl hr⟩
theorem loc_errNe (hE : E.Good) {t yt EN : TypeId} {xo : Operand} {c : Int} (hop : o.op = .binOp .neq t xo (.const .nilIface) yt) {z1 z2 : Nat} {z3 : List Value} (ht : E.T t = some ⟨.iface, z1, z2, z3⟩) (hx : ev s xo = .d (errC EN c)) : Loc E ops J h o s (.d (boo (!(c == 0)))) := by
  refine loc_pure hE ?_
  rw [hop]
  simp only [stepPure, hx]
  unfold errC
  cases c == 0 <;> simp [stepBin, ht, ev, okLitB, isConstB, TK.isIface, nilBin, errN, nilE, boo]
theorem loc_errEq (hE : E.Good) {t yt EN : TypeId} {xo : Operand} {c : Int} (hop : o.op = .binOp .eql t xo (.const .nilIface) yt) {z1 z2 : Nat} {z3 : List Value} (ht : E.T t = some ⟨.iface, z1, z2, z3⟩) (hx : ev s xo = .d (errC EN c)) : Loc E ops J h o s (.d (boo (c == 0))) := by
  refine loc_pure hE ?_
  rw [hop]
  simp only [stepPure, hx]
  unfold errC
  cases c == 0 <;> simp [stepBin, ht, ev, okLitB, isConstB, TK.isIface, nilBin, errN, nilE, boo]
end
/-! ### Neighbours that are the same -/
def cI : List Int → List Int
  | [] => []
  | [a] => [a]
  | a :: b :: l => bif a == b then cI (b :: l) else a :: cI (b :: l)
theorem cI_snoc : ∀ (l : List Int) (x y : Int), cI (l ++ [x, y]) = bif x == y then cI (l ++ [x]) else cI (l ++ [x]) ++ [y]
  | [], x, y => by
    by_cases e : x = y
    · subst e; simp [cI]
    · have : (x == y) = false := by simpa using e
      simp [cI, this]
  | [a], x, y => by
    by_cases e : x = y
    · subst e
      simp only [List.cons_append, List.nil_append, cI]
      cases a == x <;> simp
    · have : (x == y) = false := by simpa using e
      simp only [List.cons_append, List.nil_append, cI, this]
      cases a == x <;> simp
  | a :: b :: l, x, y => by
    have ih := cI_snoc (b :: l) x y
    simp only [List.cons_append, cI] at ih ⊢
    rw [ih]
    cases a == b <;> cases x == y <;> rfl
theorem take_two {ks : List Int} {p : Nat} {x y : Int} (hp : 1 ≤ p) (hx : ks[p - 1]? = some x) (hy : ks[p]? = some y) : ks.take (p + 1) = ks.take (p - 1) ++ [x, y] ∧ ks.take p = ks.take (p - 1) ++ [x] := by
  obtain ⟨p, rfl⟩ : ∃ q, p = q + 1 := ⟨p - 1, by omega⟩
  rw [Nat.add_sub_cancel] at hx ⊢
  have e2 : ks.take (p + 1) = ks.take p ++ [x] := by rw [List.take_add_one, hx]; rfl
  have e1 : ks.take (p + 1 + 1) = ks.take (p + 1) ++ [y] := by rw [List.take_add_one, hy]; rfl
  rw [e1, e2]
  simp
theorem cI_more {ks : List Int} {p : Nat} {x y : Int} (hp : 1 ≤ p) (hx : ks[p - 1]? = some x) (hy : ks[p]? = some y) : cI (ks.take (p + 1)) = bif x == y then cI (ks.take p) else cI (ks.take p) ++ [y] := by
  obtain ⟨h1, h2⟩ := take_two hp hx hy
  rw [h1, h2]; exact cI_snoc _ x y
theorem cI_take1 {ks : List Int} (h : 1 ≤ ks.length) : cI (ks.take 1) = ks.take 1 := by
  match ks, h with
  | a :: l, _ => simp [cI]
theorem intRow_get {ks : List Int} {j : Nat} {x : Int} (h : ks[j]? = some x) : (intRow ks)[j]? = some [.lit (.int .i64 x)] := by simp [intRow, h]
/-- The row while what is the same is being left out: q.1 the row, q.2.1 where is written, q.2.2 how much is read. -/
structure Cmp (ks R : List Int) (k p : Nat) : Prop where
  len : R.length = ks.length
  lo : 1 ≤ k
  kp : k < p
  hi : p ≤ ks.length
  done : R.take k = cI (ks.take p)
  rest : R.drop (p - 1) = ks.drop (p - 1)
theorem Cmp.at {ks R : List Int} {k p : Nat} (c : Cmp ks R k p) {j : Nat} (h : p - 1 ≤ j) : R[j]? = ks[j]? := by
  have e := c.rest
  have h1 : (R.drop (p - 1))[j - (p - 1)]? = (ks.drop (p - 1))[j - (p - 1)]? := by rw [e]
  rw [List.getElem?_drop, List.getElem?_drop, show p - 1 + (j - (p - 1)) = j by omega] at h1
  exact h1
theorem Cmp.skip {ks R : List Int} {k p : Nat} {x y : Int} (c : Cmp ks R k p) (hx : ks[p - 1]? = some x) (hy : ks[p]? = some y) (h : (y != x) = false) : Cmp ks R k (p + 1) := by
  have hlt := (List.getElem?_eq_some_iff.1 hy).1
  have hxy : (x == y) = true := by simp at h ⊢; exact h.symm
  refine ⟨c.len, c.lo, by have := c.kp; omega, by omega, ?_, ?_⟩
  · rw [cI_more (by have := c.kp; have := c.lo; omega) hx hy, hxy, c.done]; rfl
  · rw [show p + 1 - 1 = (p - 1) + 1 by have := c.kp; have := c.lo; omega, ← List.drop_drop, ← List.drop_drop, c.rest]
theorem Cmp.put {ks R : List Int} {k p : Nat} {x y : Int} (c : Cmp ks R k p) (hx : ks[p - 1]? = some x) (hy : ks[p]? = some y) (h : (y != x) = true) : Cmp ks (R.set k y) (k + 1) (p + 1) := by
  have hlt := (List.getElem?_eq_some_iff.1 hy).1
  have hxy : (x == y) = false := by simp at h ⊢; exact fun e => h e.symm
  have hk := c.kp
  have hl := c.len
  refine ⟨by simp [hl], by have := c.lo; omega, by omega, by omega, ?_, ?_⟩
  · rw [cI_more (by have := c.lo; omega) hx hy, hxy]
    simp only [cond_false]
    rw [← c.done, List.take_add_one]
    have : (R.set k y)[k]? = some y := by rw [List.getElem?_set_self (by omega)]
    rw [this, List.take_set_of_le (Nat.le_refl k)]
    rfl
  · rw [List.drop_set_of_lt (by omega)]
    rw [show p + 1 - 1 = (p - 1) + 1 by omega, ← List.drop_drop, ← List.drop_drop, c.rest]
theorem Cmp.start {ks : List Int} {k : Nat} {x : Int} (h1 : 1 ≤ k) (hx : ks[k - 1]? = some x) (hy : ks[k]? = some x) (hd : cI (ks.take k) = ks.take k) : Cmp ks ks k (k + 1) := by
  have hlt := (List.getElem?_eq_some_iff.1 hy).1
  refine ⟨rfl, h1, by omega, by omega, ?_, rfl⟩
  rw [cI_more h1 hx hy]
  simp [hd]
theorem cI_next {ks : List Int} {k : Nat} {x y : Int} (h1 : 1 ≤ k) (hx : ks[k - 1]? = some x) (hy : ks[k]? = some y) (h : (y == x) = false) (hd : cI (ks.take k) = ks.take k) : cI (ks.take (k + 1)) = ks.take (k + 1) := by
  have hxy : (x == y) = false := by simp at h ⊢; exact fun e => h e.symm
  obtain ⟨e1, e2⟩ := take_two h1 hx hy
  rw [cI_more h1 hx hy, hxy, hd, e1, e2]
  simp
theorem intRow_take (ks : List Int) (n : Nat) : (intRow ks).take n = intRow (ks.take n) := by simp [intRow, List.map_take]
theorem intRow_set (ks : List Int) (n : Nat) (x : Int) : (intRow ks).set n [.lit (.int .i64 x)] = intRow (ks.set n x) := by simp [intRow, List.map_set]
theorem cI_small {ks : List Int} (h : ks.length < 2) : cI ks = ks := by
  match ks, h with
  | [], _ => rfl
  | [a], _ => rfl
theorem cmp_end {ks R : List Int} {k p : Nat} (c : Cmp ks R k p) (hge : ks.length ≤ p) (m : Nat) : (intRow (R.take k ++ List.replicate m 0)).take k = intRow (cI ks) := by
  have h1 := c.len
  have h2 := c.kp
  have h3 := c.hi
  rw [intRow_take, List.take_append_of_le_length (by simp; omega), List.take_take, Nat.min_self, c.done, List.take_of_length_le hge]

/-! ### The kind of a field in some types -/
def fkind (t : Ty) (nm : ByteArray) : Int := (t.fields.getD (fieldAt t nm).toNat ⟨nul, 0⟩).kind
def fks (s : List Ty) (nm : ByteArray) : List ByteArray → Option (List Int)
  | [] => some []
  | t :: ts => bif !(findT s t).2 || decide (fieldAt (findT s t).1 nm < 0) then none else (fks s nm ts).map (fkind (findT s t).1 nm :: ·)
def fieldC (s : List Ty) (tys : List ByteArray) (nm : ByteArray) : Int × Int := match fks s nm tys with
  | none => (0, 13)
  | some ks => match cI ks with
    | [] => (0, 0)
    | [k] => (k, 0)
    | _ => (0, 14)
theorem fks_snoc {s : List Ty} {nm : ByteArray} : ∀ {l : List ByteArray} {i : Nat} {t : ByteArray} {ks : List Int}, l[i]? = some t → fks s nm (l.take i) = some ks → (!(findT s t).2 || decide (fieldAt (findT s t).1 nm < 0)) = false →
    fks s nm (l.take (i + 1)) = some (ks ++ [fkind (findT s t).1 nm])
  | [], i, t, ks, h, _, _ => by simp at h
  | x :: l, 0, t, ks, h, h1, h2 => by
    simp at h; subst h
    simp only [List.take_zero, fks, Option.some.injEq] at h1
    subst h1
    simp only [List.take_succ_cons, List.take_zero, fks, h2, cond_false, Option.map_some, List.nil_append]
  | x :: l, i + 1, t, ks, h, h1, h2 => by
    simp only [List.take_succ_cons, fks] at h1 ⊢
    cases hx : (!(findT s x).2 || decide (fieldAt (findT s x).1 nm < 0)) with
    | true => rw [hx] at h1; cases h1
    | false =>
      rw [hx] at h1
      simp only [cond_false, Option.map_eq_some_iff] at h1 ⊢
      obtain ⟨ks', h3, rfl⟩ := h1
      exact ⟨ks' ++ [fkind (findT s t).1 nm], fks_snoc (by simpa using h) h3 h2, rfl⟩
theorem fks_bad {s : List Ty} {nm : ByteArray} : ∀ {l : List ByteArray} {i : Nat} {t : ByteArray}, l[i]? = some t → (!(findT s t).2 || decide (fieldAt (findT s t).1 nm < 0)) = true → fks s nm l = none
  | [], i, t, h, _ => by simp at h
  | x :: l, 0, t, h, h2 => by simp at h; subst h; simp only [fks, h2, cond_true]
  | x :: l, i + 1, t, h, h2 => by
    simp only [fks]
    rw [fks_bad (l := l) (i := i) (by simpa using h) h2]
    cases (!(findT s x).2 || decide (fieldAt (findT s x).1 nm < 0)) <;> rfl
theorem fks_len {s : List Ty} {nm : ByteArray} : ∀ {l : List ByteArray} {ks : List Int}, fks s nm l = some ks → ks.length = l.length
  | [], ks, h => by simp only [fks, Option.some.injEq] at h; subst h; rfl
  | x :: l, ks, h => by
    simp only [fks] at h
    cases hx : (!(findT s x).2 || decide (fieldAt (findT s x).1 nm < 0)) with
    | true => rw [hx] at h; cases h
    | false =>
      rw [hx] at h
      simp only [cond_false, Option.map_eq_some_iff] at h
      obtain ⟨ks', h3, rfl⟩ := h
      simp [fks_len h3]
theorem cI_len : ∀ (ks : List Int), (cI ks).length ≤ ks.length
  | [] => by simp [cI]
  | [a] => by simp [cI]
  | a :: b :: l => by
    have := cI_len (b :: l)
    simp only [cI]
    cases a == b <;> simp at this ⊢ <;> omega
theorem fieldC_0 {s : List Ty} {tys : List ByteArray} {nm : ByteArray} {ks : List Int} (h : fks s nm tys = some ks) (hl : (cI ks).length = 0) : fieldC s tys nm = (0, 0) := by
  unfold fieldC; rw [h]; simp only; rw [List.eq_nil_of_length_eq_zero hl]
theorem fieldC_1 {s : List Ty} {tys : List ByteArray} {nm : ByteArray} {ks : List Int} {k : Int} (h : fks s nm tys = some ks) (hl : cI ks = [k]) : fieldC s tys nm = (k, 0) := by
  unfold fieldC; rw [h]; simp only; rw [hl]
theorem fieldC_2 {s : List Ty} {tys : List ByteArray} {nm : ByteArray} {ks : List Int} (h : fks s nm tys = some ks) (h0 : (cI ks).length ≠ 0) (h1 : (cI ks).length ≠ 1) : fieldC s tys nm = (0, 14) := by
  unfold fieldC; rw [h]; simp only
  match hc : cI ks with
  | [] => rw [hc] at h0; simp at h0
  | [k] => rw [hc] at h1; simp at h1
  | a :: b :: l => rfl
theorem fieldC_none {s : List Ty} {tys : List ByteArray} {nm : ByteArray} (h : fks s nm tys = none) : fieldC s tys nm = (0, 13) := by unfold fieldC; rw [h]

/-! ### The kind of a condition -/
def ofB (op a b : Int) : Bool :=
  bif (op == 3 || (op == 4 || op == 5)) then a == 1 && b == 1
  else bif (op == 8 || op == 9) then a == b && a != 3
  else bif (op == 6 || op == 7) then a == b
  else bif (op == 10 || (op == 11 || op == 12)) then a == 3 && b == 3
  else false
def ofK (op : Int) : Int := bif (op == 3 || (op == 4 || op == 5)) then 1 else 3
def ofC (op a b : Int) : Int × Int := bif ofB op a b then (ofK op, 0) else (0, 14)
theorem field_at {t : Ty} {nm : ByteArray} (h : decide (fieldAt t nm < 0) = false) : ∃ (j : Nat) (f : Fld), fieldAt t nm = (j : Int) ∧ t.fields[j]? = some f ∧ fkind t nm = f.kind := by
  rcases idx_cases (fun f : Fld => same f.name nm) t.fields with ⟨i, a, h1, h2, _⟩ | ⟨h1, _⟩
  · have h1 : fieldAt t nm = (i : Int) := h1
    exact ⟨i, a, h1, h2, by unfold fkind; rw [h1]; simp [List.getD, h2]⟩
  · have h1 : fieldAt t nm = -1 := h1
    rw [h1] at h; simp at h
theorem intRow_app (a : List Int) (x : Int) : intRow a ++ [[.lit (.int .i64 x)]] = intRow (a ++ [x]) := by simp [intRow]
def aliasAt (l : List El) (al : ByteArray) : Int := idx (fun e => same e.al al) l
def nulL : El := ⟨nul, [], false, false, zeroX⟩
def kfX (s : List Ty) (l : List El) (al fi : ByteArray) : Int × Int := bif decide (aliasAt l al < 0) then (0, 13) else fieldC s (l.getD (aliasAt l al).toNat nulL).tys fi
def finK (op : Int) (ks : List Int) : Int × Int := ofC op (ks.getD 0 0) (ks.getD (ks.length - 1) 0)
mutual
def kdX (s : List Ty) (l : List El) : Exp → Int × Int
  | .mk op v al fi ks =>
    bif op == 1 then (v.k, 0) else bif op == 2 then kfX s l al fi
    else bif (kdXs s l ks).2 == 0 then finK op (kdXs s l ks).1 else (0, (kdXs s l ks).2)
def kdXs (s : List Ty) (l : List El) : List Exp → List Int × Int
  | [] => ([], 0)
  | k :: ks =>
    bif (kdX s l k).2 != 0 then ([], (kdX s l k).2)
    else bif (kdXs s l ks).2 != 0 then ([], (kdXs s l ks).2) else ((kdX s l k).1 :: (kdXs s l ks).1, 0)
end
def kindC (s : List Ty) (l : List El) (x : Exp) : Int × Int := bif isX x then kdX s l x else (0, 10)
theorem kdXs_if {s : List Ty} {l : List El} {k : Exp} {ks : List Exp} : kdXs s l (k :: ks) = if (kdX s l k).2 = 0 then (if (kdXs s l ks).2 = 0 then ((kdX s l k).1 :: (kdXs s l ks).1, 0) else ([], (kdXs s l ks).2)) else ([], (kdX s l k).2) := by
  rw [kdXs]
  by_cases h1 : (kdX s l k).2 = 0
  · by_cases h2 : (kdXs s l ks).2 = 0
    · simp [h1, h2]
    · have : ((kdXs s l ks).2 != 0) = true := by simpa using h2
      simp [h1, h2, this]
  · have : ((kdX s l k).2 != 0) = true := by simpa using h1
    simp [h1, this]
theorem kdXs_snoc {s : List Ty} {l : List El} : ∀ {ks : List Exp} {i : Nat} {k : Exp}, ks[i]? = some k → (kdXs s l (ks.take i)).2 = 0 → ((kdX s l k).2 == 0) = true → kdXs s l (ks.take (i + 1)) = ((kdXs s l (ks.take i)).1 ++ [(kdX s l k).1], 0)
  | [], i, k, h, _, _ => by simp at h
  | x :: ks, 0, k, h, _, h2 => by
    simp at h; subst h
    have h2 : (kdX s l x).2 = 0 := by simpa using h2
    simp [kdXs_if, kdXs, h2]
  | x :: ks, i + 1, k, h, h1, h2 => by
    simp only [List.take_succ_cons, kdXs_if] at h1 ⊢
    by_cases hx : (kdX s l x).2 = 0
    · by_cases hr : (kdXs s l (ks.take i)).2 = 0
      · have := kdXs_snoc (ks := ks) (i := i) (by simpa using h) hr h2
        rw [this]
        simp [hx, hr]
      · simp [hx, hr] at h1
    · simp [hx] at h1
theorem kdXs_err {s : List Ty} {l : List El} : ∀ {ks : List Exp} {i : Nat} {k : Exp}, ks[i]? = some k → (kdXs s l (ks.take i)).2 = 0 → ((kdX s l k).2 == 0) = false → (kdXs s l ks).2 = (kdX s l k).2
  | [], i, k, h, _, _ => by simp at h
  | x :: ks, 0, k, h, _, h2 => by
    simp at h; subst h
    have h2 : (kdX s l x).2 ≠ 0 := by simpa using h2
    simp [kdXs_if, h2]
  | x :: ks, i + 1, k, h, h1, h2 => by
    simp only [List.take_succ_cons, kdXs_if] at h1 ⊢
    by_cases hx : (kdX s l x).2 = 0
    · by_cases hr : (kdXs s l (ks.take i)).2 = 0
      · have := kdXs_err (ks := ks) (i := i) (by simpa using h) hr h2
        have h3 : (kdX s l k).2 ≠ 0 := by simpa using h2
        simp [hx, this, h3]
      · simp [hx, hr] at h1
    · simp [hx] at h1
theorem kdXs_len {s : List Ty} {l : List El} : ∀ {ks : List Exp}, (kdXs s l ks).2 = 0 → (kdXs s l ks).1.length = ks.length
  | [], _ => by simp [kdXs]
  | x :: ks, h => by
    simp only [kdXs_if] at h ⊢
    by_cases hx : (kdX s l x).2 = 0
    · by_cases hr : (kdXs s l ks).2 = 0
      · simp [hx, hr, kdXs_len hr]
      · simp [hx, hr] at h
    · simp [hx] at h
theorem kdX_lit {s : List Ty} {l : List El} {op : Int} {v : Vl} {al fi : ByteArray} {ks : List Exp} (h : (op == 1) = true) : kdX s l (.mk op v al fi ks) = (v.k, 0) := by unfold kdX; rw [h]; rfl
theorem kdX_field {s : List Ty} {l : List El} {op : Int} {v : Vl} {al fi : ByteArray} {ks : List Exp} (h1 : (op == 1) = false) (h : (op == 2) = true) : kdX s l (.mk op v al fi ks) = kfX s l al fi := by unfold kdX; rw [h1, h]; rfl
theorem kdX_err {s : List Ty} {l : List El} {op : Int} {v : Vl} {al fi : ByteArray} {ks : List Exp} (h1 : (op == 1) = false) (h2 : (op == 2) = false) (h : ((kdXs s l ks).2 == 0) = false) : kdX s l (.mk op v al fi ks) = (0, (kdXs s l ks).2) := by unfold kdX; rw [h1, h2, h]; rfl
theorem kdX_fin {s : List Ty} {l : List El} {op : Int} {v : Vl} {al fi : ByteArray} {ks : List Exp} (h1 : (op == 1) = false) (h2 : (op == 2) = false) (h : (kdXs s l ks).2 = 0) : kdX s l (.mk op v al fi ks) = finK op (kdXs s l ks).1 := by unfold kdX; rw [h1, h2, h]; rfl
theorem kfX_no {s : List Ty} {l : List El} {al fi : ByteArray} (h : decide (aliasAt l al < 0) = true) : kfX s l al fi = (0, 13) := by unfold kfX; rw [h]; rfl
theorem kfX_at {s : List Ty} {l : List El} {al fi : ByteArray} (h : decide (aliasAt l al < 0) = false) : ∃ (i : Nat) (e : El), aliasAt l al = (i : Int) ∧ l[i]? = some e ∧ kfX s l al fi = fieldC s e.tys fi := by
  rcases idx_cases (fun e : El => same e.al al) l with ⟨i, a, h1, h2, _⟩ | ⟨h1, _⟩
  · have h1 : aliasAt l al = (i : Int) := h1
    refine ⟨i, a, h1, h2, ?_⟩
    unfold kfX; rw [h, h1]
    simp [List.getD, h2]
  · have h1 : aliasAt l al = -1 := h1
    rw [h1] at h; simp at h

theorem kidsN_le (op : Int) : kidsN op ≤ 2 := by
  unfold kidsN
  cases op == 12 <;> cases (decide (op ≥ 3) && decide (op ≤ 11)) <;> decide
theorem kidsN_ge {op : Int} (h1 : 3 ≤ op) (h2 : op ≤ 12) : 1 ≤ kidsN op := by
  by_cases h : op = 12
  · subst h; decide
  · have e0 : (op == 12) = false := by simpa using h
    have e1 : decide (op ≥ 3) = true := by simp; omega
    have e2 : decide (op ≤ 11) = true := by simp; omega
    unfold kidsN; rw [e0, e1, e2]; decide
theorem kids_12 {op : Int} {v : Vl} {al fi : ByteArray} {ks : List Exp} (hw : wfX (.mk op v al fi ks) = true) (h1 : (op == 1) = false) (h2 : (op == 2) = false) : 1 ≤ ks.length ∧ ks.length ≤ 2 := by
  obtain ⟨q1, q2, q3, _⟩ := wf_kids hw
  have a := kidsN_le op
  simp at h1 h2
  have b := kidsN_ge (op := op)
  have := b (by omega) q2
  omega
theorem flat_err (t : TypeId) (c : Int) : flatD (errC t c) = true := by unfold errC; cases c == 0 <;> rfl
theorem flat_ke (t : TypeId) (a c : Int) : flatA (.tup [.d (int a), .d (errC t c)]) = true := by simp [flatA, flatAs, flat_err]; rfl
/-! ### Elements, patterns -/
def allT (s : List Ty) (tys : List ByteArray) : Bool := tys.all fun t => (findT s t).2
def elemC (s : List Ty) (ahead : List El) (e : El) : Int :=
  bif !allT s e.tys then 13 else bif e.cond.op == 0 then 0
  else bif (kindC s (ahead ++ [e]) e.cond).2 == 0 && (kindC s (ahead ++ [e]) e.cond).1 != 3 then 14 else (kindC s (ahead ++ [e]) e.cond).2
def aheadOf (els : List El) : List El := els.filter fun e => !e.neg
def elemsC (s : List Ty) : List El → List El → Int
  | _, [] => 0
  | ahead, e :: es => bif elemC s ahead e == 0 then elemsC s (bif e.neg then ahead else ahead ++ [e]) es else elemC s ahead e
def patC (s : List Ty) (p : Pat) : Int :=
  bif !isPat p then 10 else bif !(elemsC s [] p.els == 0) then elemsC s [] p.els
  else bif same p.byf nul then 0 else (fieldC s (p.els.flatMap fun e => e.tys) p.byf).2
theorem elemsC_err {s : List Ty} : ∀ {els ahead : List El} {i : Nat} {e : El}, els[i]? = some e → (∀ j a, j < i → els[j]? = some a → elemC s (ahead ++ aheadOf (els.take j)) a = 0) → elemC s (ahead ++ aheadOf (els.take i)) e ≠ 0 → elemsC s ahead els = elemC s (ahead ++ aheadOf (els.take i)) e
  | [], ahead, i, e, h, _, _ => by simp at h
  | x :: els, ahead, 0, e, h, _, h2 => by
    simp at h; subst h
    simp only [List.take_zero, aheadOf, List.filter_nil, List.append_nil] at h2 ⊢
    have : (elemC s ahead x == 0) = false := by simpa using h2
    simp only [elemsC, this, cond_false]
  | x :: els, ahead, i + 1, e, h, h1, h2 => by
    have h0 := h1 0 x (by omega) rfl
    simp only [List.take_zero, aheadOf, List.filter_nil, List.append_nil] at h0
    simp only [elemsC, h0, beq_self_eq_true, cond_true]
    have key : ∀ j, ahead ++ aheadOf ((x :: els).take (j + 1)) = (bif x.neg then ahead else ahead ++ [x]) ++ aheadOf (els.take j) := by
      intro j
      simp only [List.take_succ_cons, aheadOf, List.filter_cons]
      cases x.neg <;> simp
    rw [key] at h2 ⊢
    exact elemsC_err (i := i) (by simpa using h) (fun j a hj ha => by rw [← key]; exact h1 (j + 1) a (by omega) (by simpa using ha)) h2
theorem elemsC_ok {s : List Ty} : ∀ {els ahead : List El}, (∀ j a, els[j]? = some a → elemC s (ahead ++ aheadOf (els.take j)) a = 0) → elemsC s ahead els = 0
  | [], ahead, _ => rfl
  | x :: els, ahead, h1 => by
    have h0 := h1 0 x rfl
    simp only [List.take_zero, aheadOf, List.filter_nil, List.append_nil] at h0
    simp only [elemsC, h0, beq_self_eq_true, cond_true]
    have key : ∀ j, ahead ++ aheadOf ((x :: els).take (j + 1)) = (bif x.neg then ahead else ahead ++ [x]) ++ aheadOf (els.take j) := by
      intro j
      simp only [List.take_succ_cons, aheadOf, List.filter_cons]
      cases x.neg <;> simp
    exact elemsC_ok fun j a ha => by rw [← key]; exact h1 (j + 1) a (by simpa using ha)
theorem aheadOf_snoc {els : List El} {i : Nat} {e : El} (h : els[i]? = some e) : aheadOf (els.take (i + 1)) = bif e.neg then aheadOf (els.take i) else aheadOf (els.take i) ++ [e] := by
  rw [List.take_add_one, h]
  simp only [aheadOf, Option.toList_some, List.filter_append, List.filter_cons, List.filter_nil]
  cases e.neg <;> simp
theorem tysOf_snoc {els : List El} {i : Nat} {e : El} (h : els[i]? = some e) : (els.take (i + 1)).flatMap (fun e => e.tys) = (els.take i).flatMap (fun e => e.tys) ++ e.tys := by
  rw [List.take_add_one, h]; simp
theorem elOk_all {p : Pat} (h : isPat p = true) {i : Nat} {e : El} (he : p.els[i]? = some e) : elOk p i e = true := by
  unfold isPat at h
  simp only [Bool.and_eq_true] at h
  have h2 := h.2
  unfold elsOk at h2
  rw [List.all_eq_true] at h2
  have hlt := (List.getElem?_eq_some_iff.1 he).1
  have := h2 i (by simpa using hlt)
  rw [he] at this
  exact this
theorem pat_small {p : Pat} (h : isPat p = true) : p.els.length ≤ 5 ∧ ∀ e ∈ p.els, e.tys.length ≤ 3 := by
  refine ⟨?_, fun e he => ?_⟩
  · unfold isPat headP at h
    simp only [Bool.and_eq_true, Bool.not_eq_true', decide_eq_false_iff_not] at h
    have := h.1.2.1
    omega
  · obtain ⟨i, hi⟩ := List.getElem?_of_mem he
    have := elOk_all h hi
    unfold elOk isElemX headL at this
    simp only [Bool.and_eq_true, Bool.not_eq_true', decide_eq_false_iff_not] at this
    have := this.1.1.2.2.1
    omega
theorem tys_small : ∀ {els : List El}, (∀ e ∈ els, e.tys.length ≤ 3) → (els.flatMap fun e => e.tys).length ≤ 3 * els.length
  | [], _ => by simp
  | e :: es, h => by
    have h1 := h e (by simp)
    have h2 := tys_small (els := es) fun x hx => h x (by simp [hx])
    simp only [List.flatMap_cons, List.length_append, List.length_cons]
    omega
theorem aheadOf_len (els : List El) : (aheadOf els).length ≤ els.length := List.length_filter_le _ _
theorem aheadOf_mem {els : List El} {e : El} (h : e ∈ aheadOf els) : e ∈ els := (List.mem_filter.1 h).1
theorem elemC_bad {s : List Ty} {ahead : List El} {e : El} {i : Nat} {t : ByteArray} (h : e.tys[i]? = some t) (hb : (findT s t).2 = false) : elemC s ahead e = 13 := by
  have : allT s e.tys = false := by
    unfold allT
    rw [List.all_eq_false]
    exact ⟨t, List.mem_of_getElem? h, by simp [hb]⟩
  unfold elemC; rw [this]; rfl
def ysS (l : List ByteArray) : List (List AV) := l.map fun t => [.d (str t)]
theorem ysS_length (l : List ByteArray) : (ysS l).length = l.length := by simp [ysS]
theorem ysS_get {l : List ByteArray} {i : Nat} {y : ByteArray} (h : l[i]? = some y) : (ysS l)[i]? = some [.d (str y)] := by simp [ysS, h]
theorem ysS_of {l : List ByteArray} {i : Nat} {args : List AV} (h : (ysS l)[i]? = some args) : ∃ y, l[i]? = some y ∧ args = [.d (str y)] := by
  simp only [ysS, List.getElem?_map, Option.map_eq_some_iff] at h
  obtain ⟨y, hy, rfl⟩ := h
  exact ⟨y, hy, rfl⟩
theorem ysS_kf (l : List ByteArray) : ∀ y ∈ ysS l, kfs y = true ∧ y.length = 1 := by
  intro y hy
  simp only [ysS, List.mem_map] at hy
  obtain ⟨x, _, rfl⟩ := hy
  exact ⟨rfl, rfl⟩
end Go.AL
/- What law 10's own functions build. Nothing of a program. -/
namespace Go.AL
set_option linter.unusedVariables false
set_option linter.unusedSimpArgs false
theorem Dle.sl1 {sz bts : Nat} {x y : List D} (h : Dles x y) (hl : x.length = y.length) : Dle (.sl sz bts [x]) (.sl sz bts [y]) := fun w M v hv => by
  simp only [RD] at hv ⊢
  obtain ⟨a, cap, e, h1, h2, h3, h4⟩ := hv
  refine ⟨a, cap, e, by simpa using h1, by simpa using h2, by simp, ?_⟩
  rcases h4 with h4 | ⟨b, off, ea, hm, hb, hc⟩
  · cases h4
  · refine .inr ⟨b, off, ea, hm, hb, ?_⟩
    simp only [RCs] at hc ⊢
    obtain ⟨q1, q2, q3⟩ := hc
    obtain ⟨vs, g1, g2⟩ := RC_list q2
    exact ⟨by rw [← hl]; exact q1, RC_of_list (h _ _ _ g1) g2, trivial⟩
theorem AVle.sl1 {sz bts : Nat} {x y : List D} (h : Dles x y) (hl : x.length = y.length) : AVle (.d (.sl sz bts [x])) (.d (.sl sz bts [y])) := fun C v hv => by
  simp only [RA] at hv ⊢; exact Dle.sl1 h hl _ _ _ hv
def lits11 (al : ByteArray) (tys : List ByteArray) : List D := [str al, .sl 1 16 (tys.map encB), boo false, boo false, int 0, int 0, int 0, str nul, str nul, str nul, .lit (.slice none 0 0)]
theorem lits_le (al : ByteArray) (tys : List ByteArray) : AVle (.d (.sl 11 144 [lits11 al tys])) (.d (.sl 11 144 ([⟨al, tys, false, false, zeroX⟩].map encL))) := by
  refine AVle.sl1 ?_ rfl
  exact .cons (.refl _) (.cons (.refl _) (.cons (.refl _) (.cons (.refl _) (.cons (.refl _) (.cons (.refl _) (.cons (.refl _) (.cons (.refl _) (.cons (.refl _) (.cons (.refl _) (.cons (.nilSl 7 96) .nil))))))))))
theorem el_le (al : ByteArray) (tys : List ByteArray) (ng : Bool) : AVle (.agg ([str al, .sl 1 16 (tys.map encB), boo false, boo ng, int 0, int 0, int 0, str nul, str nul, str nul, .lit (.slice none 0 0)].map .d)) (argL ⟨al, tys, false, ng, zeroX⟩) :=
  AVle.agg (.cons (.refl _) (.cons (.refl _) (.cons (.refl _) (.cons (.refl _) (.cons (.refl _) (.cons (.refl _) (.cons (.refl _) (.cons (.refl _) (.cons (.refl _) (.cons (.refl _) (.cons (.nilSl 7 96) .nil)))))))))))
def bS10 : List Ty := [⟨ch 116, [⟨ch 98, 3⟩, ⟨ch 110, 1⟩, ⟨ch 115, 2⟩]⟩, ⟨ch 117, [⟨ch 110, 1⟩, ⟨ch 115, 3⟩]⟩]
def lK10 : List El := [⟨ch 97, [ch 116, ch 117], false, false, zeroX⟩]
def pK10 : Pat := ⟨[⟨ch 97, [ch 116], false, false, fldX (ch 97) (ch 98)⟩], 0, ch 110, false⟩
def qK10 : Pat := ⟨[⟨ch 97, [ch 116], false, false, fldX (ch 97) (ch 110)⟩], 0, nul, false⟩
theorem c10a : kindC bS10 lK10 (fldX (ch 97) (ch 110)) = (1, 0) := by decide +kernel
theorem c10b : kindC bS10 lK10 (fldX (ch 97) (ch 115)) = (0, 14) := by decide +kernel
theorem c10c : kindC bS10 lK10 (fldX (ch 97) (ch 98)) = (0, 13) := by decide +kernel
theorem c10d : kindC bS10 lK10 (fldX (ch 122) (ch 110)) = (0, 13) := by decide +kernel
theorem c10e : patC bS10 pK10 = 0 := by decide +kernel
theorem c10f : patC bS10 qK10 = 14 := by decide +kernel
theorem lK10_le : ∀ e ∈ lK10, e.tys.length ≤ 1000 := by intro e he; simp [lK10] at he; subst he; decide
/-! ### Signs -/
def nmO : Nat → ByteArray
  | 0 => ch 110
  | 1 => ch 115
  | _ => ch 98
def opK (o : Int) (i j : Nat) : List Exp := bif o == 12 then [fldX (ch 97) (nmO i)] else [fldX (ch 97) (nmO i), fldX (ch 97) (nmO j)]
def opX (o : Int) (i j : Nat) : Exp := .mk o ⟨0, 0, nul⟩ nul nul (opK o i j)
def lO10 : List El := [⟨ch 97, [ch 116], false, false, zeroX⟩]
theorem lO10_le : ∀ e ∈ lO10, e.tys.length ≤ 1000 := by intro e he; simp [lO10] at he; subst he; decide
def wantO (o : Int) (i j : Nat) : Int :=
  bif o == 12 then (bif ((i + 1 : Nat) : Int) == 3 then 3 else 0)
  else bif ((i : Nat) : Int) != ((j : Nat) : Int) then 0
  else bif decide (o ≤ 5) then (bif ((i + 1 : Nat) : Int) == 1 then 1 else 0)
  else bif o == 6 || o == 7 then 3
  else bif o == 8 || o == 9 then (bif ((i + 1 : Nat) : Int) != 3 then 3 else 0)
  else (bif ((i + 1 : Nat) : Int) == 3 then 3 else 0)
def opT (r : Int × Int) (w : Int) : Bool := bif w == 0 then r.2 == 14 else r.2 == 0 && r.1 == w
theorem op_all : ((List.range 10).all fun n => (List.range 3).all fun i => (List.range 3).all fun j => opT (kindC bS10 lO10 (opX ((3 + n : Nat) : Int) i j)) (wantO ((3 + n : Nat) : Int) i j)) = true := by decide +kernel
theorem op_facts {n i j : Nat} (hn : n < 10) (hi : i < 3) (hj : j < 3) : opT (kindC bS10 lO10 (opX ((3 + n : Nat) : Int) i j)) (wantO ((3 + n : Nat) : Int) i j) = true := by
  have h1 := List.all_eq_true.1 op_all n (by simpa using hn)
  have h2 := List.all_eq_true.1 h1 i (by simpa using hi)
  exact List.all_eq_true.1 h2 j (by simpa using hj)
theorem op_name {i : Nat} (hi : i < 3) : ofCells false 1 ([AV.d (str (ch 110)), .d (str (ch 115)), .d (str (ch 98))].drop (i * 1)) = some (.d (str (nmO i))) := by
  match i, hi with
  | 0, _ => rfl
  | 1, _ => rfl
  | 2, _ => rfl
theorem op_kind {i : Nat} (hi : i < 3) : ofCells false 1 ([AV.d (int 1), .d (int 2), .d (int 3)].drop (i * 1)) = some (.d (int ((i + 1 : Nat) : Int))) := by
  match i, hi with
  | 0, _ => rfl
  | 1, _ => rfl
  | 2, _ => rfl
/-! ### By a field -/
def nmB : Nat → ByteArray
  | 0 => ch 110
  | 1 => ch 115
  | 2 => ch 98
  | _ => ch 122
def tyB : Nat → List ByteArray
  | 0 => [ch 116]
  | 1 => [ch 117]
  | _ => [ch 116, ch 117]
def pB (n m : Nat) : Pat := ⟨[⟨ch 97, tyB m, false, false, zeroX⟩, ⟨ch 99, [ch 116], false, false, zeroX⟩], 0, nmB n, false⟩
def byT (n m : Nat) (c : Int) : Bool :=
  bif same (nmB n) (ch 122) || (same (nmB n) (ch 98) && decide (((m : Nat) : Int) > 0)) then c == 13
  else bif same (nmB n) (ch 115) && decide (((m : Nat) : Int) > 0) then c == 14
  else c == 0
theorem by_all : ((List.range 4).all fun n => (List.range 3).all fun m => byT n m (patC bS10 (pB n m))) = true := by decide +kernel
theorem by_facts {n m : Nat} (hn : n < 4) (hm : m < 3) : byT n m (patC bS10 (pB n m)) = true := by
  have h1 := List.all_eq_true.1 by_all n (by simpa using hn)
  exact List.all_eq_true.1 h1 m (by simpa using hm)
theorem by_name {n : Nat} (hn : n < 4) : ofCells false 1 ([AV.d (str (ch 110)), .d (str (ch 115)), .d (str (ch 98)), .d (str (ch 122))].drop (((n : Nat) : Int).toNat * 1)) = some (.d (str (nmB n))) := by
  match n, hn with
  | 0, _ => rfl
  | 1, _ => rfl
  | 2, _ => rfl
  | 3, _ => rfl
theorem by_type {m : Nat} (hm : m < 3) : ofCells false 1 ([AV.d (.sl 1 16 [encB (ch 116)]), .d (.sl 1 16 [encB (ch 117)]), .d (.sl 1 16 [encB (ch 116), encB (ch 117)])].drop (((m : Nat) : Int).toNat * 1)) = some (.d (.sl 1 16 ((tyB m).map encB))) := by
  match m, hm with
  | 0, _ => rfl
  | 1, _ => rfl
  | 2, _ => rfl
/-! ### Scopes -/
def scE (nt : Bool) (i : Nat) : El := ⟨ruA 101 i, [ch 116], false, nt && ((i : Nat) : Int) == 1, zeroX⟩
def scEs (nt : Bool) (i : Nat) : List El := (List.range i).map (scE nt)
theorem scEs_len (nt : Bool) (i : Nat) : (scEs nt i).length = i := by simp [scEs]
theorem scEs_get {nt : Bool} {i j : Nat} (h : j < i) : (scEs nt i)[j]? = some (scE nt j) := by simp [scEs, h]
theorem scEs_snoc (nt : Bool) (i : Nat) : (scEs nt i).map encL ++ [encL (scE nt i)] = (scEs nt (i + 1)).map encL := by simp [scEs, List.range_succ]
def scX (nt : Bool) (k i j : Nat) : List El := (scEs nt k).set i { scE nt i with cond := fldX (ruA 101 j) (ch 98) }
def scP (nt : Bool) (k i j : Nat) : Pat := ⟨scX nt k i j, 5, nul, false⟩
def scG (nt : Bool) (i j : Nat) : Bool := ((j : Int) == (i : Int)) || (decide ((j : Int) < (i : Int)) && !(nt && (j : Int) == 1))
def scT (nt : Bool) (i j : Nat) (c : Int) : Bool := bif scG nt i j then c == 0 else c == 13
theorem sc_all : ([3, 4, 5].all fun k => (List.range k).all fun i => (List.range k).all fun j => [true, false].all fun nt => scT nt i j (patC bS10 (scP nt k i j))) = true := by decide +kernel
theorem sc_facts {nt : Bool} {k i j : Nat} (hk : k = 3 ∨ k = 4 ∨ k = 5) (hi : i < k) (hj : j < k) : scT nt i j (patC bS10 (scP nt k i j)) = true := by
  have h1 := List.all_eq_true.1 sc_all k (by rcases hk with rfl | rfl | rfl <;> simp)
  have h2 := List.all_eq_true.1 h1 i (by simpa using hi)
  have h3 := List.all_eq_true.1 h2 j (by simpa using hj)
  exact List.all_eq_true.1 h3 nt (by cases nt <;> simp)
end Go.AL
