/- Parts of an abstract logic over the kit's walks, and walks in it: Mean, Mean2, Mean3, Mean4, Mean5. -/
import Derived.Test.YtojnicnbmgiplaaNrm2
import Derived.Test.YtojnicnbmgiplaaBa
import Derived.Test.YtojnicnbmgiplaaELa
/- What the document tells of conditions: values and kinds (pasternref6). Plain data; nothing of a program. -/
namespace Go.AL
set_option linter.unusedVariables false
set_option linter.unusedSimpArgs false

def refOver (op a b : Int) : Int × Bool :=
  bif op == 3 then (wr (a + b), decide (b ≥ 0) == decide (wr (a + b) ≥ a))
  else bif op == 4 then (wr (a - b), decide (b ≥ 0) == decide (wr (a - b) ≤ a))
  else bif a == 0 || b == 0 then (0, true)
  else bif (a == -1 && b == minI) || (b == -1 && a == minI) then (0, false)
  else (wr (a * b), wr ((wr (a * b)).tdiv b) == a)
def refTwo (op : Int) (a b : Vl) : Vl × Int :=
  bif a.k != b.k then (nulV, 14)
  else bif decide (op ≤ 5) && a.k == 1 then (bif !(refOver op a.n b.n).2 then (nulV, 16) else (⟨1, (refOver op a.n b.n).1, nul⟩, 0))
  else bif op == 6 then (truthV (sameV a b), 0)
  else bif op == 7 then (truthV (!sameV a b), 0)
  else bif op == 8 && a.k != 3 then (truthV (decide (a.n < b.n) || less a.s b.s), 0)
  else bif op == 9 && a.k != 3 then (truthV (decide (a.n < b.n) || (less a.s b.s || sameV a b)), 0)
  else (nulV, 14)
/-- What a sign tells of what its parts tell. -/
def finR (op : Int) : List (Vl × Int) → Vl × Int
  | [] => (nulV, 14)
  | r0 :: rest =>
    bif r0.2 != 0 then (nulV, r0.2)
    else bif op == 10 || op == 11 then
      (bif r0.1.k != 3 then (nulV, 14) else bif (r0.1.n == 1) == (op == 11) then (r0.1, 0)
       else match rest with
        | [] => (nulV, 14)
        | r1 :: _ => bif r1.2 == 0 && r1.1.k != 3 then (nulV, 14) else bif r1.2 != 0 then (nulV, r1.2) else (r1.1, 0))
    else bif op == 12 then (bif r0.1.k != 3 then (nulV, 14) else (truthV (r0.1.n == 0), 0))
    else match rest with
      | [] => (nulV, 14)
      | r1 :: _ => bif r1.2 != 0 then (nulV, r1.2) else refTwo op r0.1 r1.1
mutual
def evR (s : List Ty) (l : List Bi) : Exp → Vl × Int
  | .mk op v al fi ks => bif op == 1 then (v, 0) else bif op == 2 then fieldV s l al fi else finR op (evRs s l ks)
def evRs (s : List Ty) (l : List Bi) : List Exp → List (Vl × Int)
  | [] => []
  | k :: ks => evR s l k :: evRs s l ks
end
/-! ### kinds -/
def badF (s : List Ty) (nm t : ByteArray) : Bool := !(findT s t).2 || decide (fieldAt (findT s t).1 nm < 0)
def kindF (s : List Ty) (nm t : ByteArray) : Int := (((findT s t).1.fields)[(fieldAt (findT s t).1 nm).toNat]?.map (·.kind)).getD 0
/-- The last kind, if all are one. -/
def oneK : List Int → Int → Bool → Int × Int
  | [], k, _ => (k, 0)
  | x :: xs, k, first => bif !first && x != k then (0, 14) else oneK xs x false
def fkR (s : List Ty) (tys : List ByteArray) (nm : ByteArray) : Int × Int := bif tys.any (badF s nm) then (0, 13) else oneK (tys.map (kindF s nm)) 0 true
def finKR (op k0 k1 : Int) : Int × Int :=
  bif op == 12 && k0 == 3 then (3, 0) else bif op == 12 || k0 != k1 then (0, 14)
  else bif decide (op ≤ 5) && k0 == 1 then (1, 0) else bif op == 6 || op == 7 then (3, 0)
  else bif (op == 8 || op == 9) && k0 != 3 then (3, 0) else bif (op == 10 || op == 11) && k0 == 3 then (3, 0) else (0, 14)
mutual
def kR (s : List Ty) (l : List El) : Exp → Int × Int
  | .mk op v al fi ks =>
    bif op == 1 then (v.k, 0)
    else bif op == 2 then (match l.findIdx? (fun e => same e.al al) with
      | none => (0, 13)
      | some i => match l[i]? with
        | some e => fkR s e.tys fi
        | none => (0, 13))
    else bif (kRs s l ks).2 != 0 then (0, (kRs s l ks).2) else finKR op ((kRs s l ks).1.getD 0 0) ((kRs s l ks).1.getD 1 0)
def kRs (s : List Ty) (l : List El) : List Exp → List Int × Int
  | [] => ([], 0)
  | k :: ks => bif (kR s l k).2 != 0 then ([], (kR s l k).2) else bif (kRs s l ks).2 != 0 then ([], (kRs s l ks).2) else ((kR s l k).1 :: (kRs s l ks).1, 0)
end
def kindR (s : List Ty) (l : List El) (x : Exp) : Int × Int := bif isX x then kR s l x else (0, 10)
def kindsAs : List Vl → List Fld → Bool
  | [], [] => true
  | v :: vs, f :: fs => v.k == f.kind && kindsAs vs fs
  | _, _ => false
/-- An event of a schema: 0, 13, 10, 14. -/
def evtR (s : List Ty) (e : Ev) : Int :=
  bif !(findT s e.ty).2 then 13
  else bif decide (e.ts < 0) || (decide (e.ts > 1073741824) || ((e.vals.length : Int) != ((findT s e.ty).1.fields.length : Int))) then 10
  else bif !(e.vals.all isVal) then 10
  else bif kindsAs e.vals (findT s e.ty).1.fields then 0 else 14
theorem findT_at {s : List Ty} {nm : ByteArray} {i : Nat} {t : Ty} (h : s[i]? = some t) (hs : same t.name nm = true) (hn : ∀ (j : Nat) (a : Ty), j < i → s[j]? = some a → same a.name nm = false) : findT s nm = (t, true) := by
  have e := idx_some (p := fun t : Ty => same t.name nm) h hs hn
  obtain ⟨i', a, h1, h2, h3⟩ := find_pos (s := s) (nm := nm) (by rw [e]; simp)
  rw [h1] at e
  have : i' = i := by omega
  subst this
  rw [h2] at h
  cases h
  exact h3
theorem findT_no {s : List Ty} {nm : ByteArray} (hn : ∀ (j : Nat) (a : Ty), j < s.length → s[j]? = some a → same a.name nm = false) : findT s nm = (zeroT, false) := by
  have e := idx_none (p := fun t : Ty => same t.name nm) hn
  exact find_neg (by rw [e]; rfl)
end Go.AL
/- Put right a condition means the same: plain laws. Nothing of a program. -/
namespace Go.AL
set_option linter.unusedVariables false
set_option linter.unusedSimpArgs false

/-! ### errors tell nothing else -/
theorem refTwo_or (op : Int) (a b : Vl) : refTwo op a b = (nulV, 14) ∨ refTwo op a b = (nulV, 16) ∨ (refTwo op a b).2 = 0 := by
  unfold refTwo
  simp only [cond_eq_ite]
  repeat' split
  all_goals simp
theorem refTwo_err {op : Int} {a b : Vl} (h : (refTwo op a b).2 ≠ 0) : (refTwo op a b).1 = nulV := by
  rcases refTwo_or op a b with e | e | e
  · rw [e]
  · rw [e]
  · exact absurd e h
/-- As far as the law looks: an error or none, and the value. -/
def Alike (r r' : Vl × Int) : Prop := (r.2 == 0) = (r'.2 == 0) ∧ r.1 = r'.1
theorem Alike.refl (r : Vl × Int) : Alike r r := ⟨rfl, rfl⟩
theorem Alike.ne {r r' : Vl × Int} (h : Alike r r') : (r.2 != 0) = (r'.2 != 0) := by
  have := h.1
  show (!(r.2 == 0)) = !(r'.2 == 0)
  rw [this]
theorem fin_alike1 {op : Int} (h1 : (op == 10 || op == 11) = false) (h2 : (op == 12) = true) {r r' : Vl × Int} (h : Alike r r') : Alike (finR op [r]) (finR op [r']) := by
  unfold finR
  dsimp only
  rw [h1, h2, h.ne, h.2]
  cases hb : (r'.2 != 0) with
  | true =>
    have e1 : (r.2 != 0) = true := h.ne.trans hb
    simp only [cond_true]
    refine ⟨?_, rfl⟩
    have a1 : (r.2 == 0) = false := by simpa using e1
    have a2 : (r'.2 == 0) = false := by simpa using hb
    rw [a1, a2]
  | false => simp only [cond_false]; exact Alike.refl _
theorem fin_alike2 {op : Int} (h2 : (op == 12) = false) {a a' b b' : Vl × Int} (ha : Alike a a') (hb : Alike b b') : Alike (finR op [a, b]) (finR op [a', b']) := by
  unfold finR
  dsimp only
  rw [h2, ha.ne, ha.2]
  have err : ∀ {x y : Int}, (x != 0) = true → (y != 0) = true → Alike (nulV, x) (nulV, y) := fun {x y} h1 h2 => by
    refine ⟨?_, rfl⟩
    have a1 : (x == 0) = false := by simpa using h1
    have a2 : (y == 0) = false := by simpa using h2
    show (x == 0) = (y == 0)
    rw [a1, a2]
  cases h0 : (a'.2 != 0) with
  | true => simp only [cond_true]; exact err (ha.ne.trans h0) h0
  | false =>
    simp only [cond_false]
    cases (op == 10 || op == 11) with
    | true =>
      simp only [cond_true]
      cases (a'.1.k != 3) with
      | true => exact Alike.refl _
      | false =>
        simp only [cond_false]
        cases ((a'.1.n == 1) == (op == 11)) with
        | true => exact Alike.refl _
        | false =>
          simp only [cond_false]
          rw [hb.1, hb.2, hb.ne]
          cases (b'.2 == 0 && b'.1.k != 3) with
          | true => exact Alike.refl _
          | false =>
            simp only [cond_false]
            cases h3 : (b'.2 != 0) with
            | true => simp only [cond_true]; exact err (hb.ne.trans h3) h3
            | false => exact Alike.refl _
    | false =>
      simp only [cond_false]
      rw [hb.ne, hb.2]
      cases h3 : (b'.2 != 0) with
      | true => simp only [cond_true]; exact err (hb.ne.trans h3) h3
      | false => exact Alike.refl _

/-! ### values of their kinds -/
theorem val_1 {v : Vl} (h : isVal v = true) (hk : v.k = 1) : v.s = nul := by
  unfold isVal at h
  rw [hk] at h
  exact same_eq h
theorem val_2 {v : Vl} (h : isVal v = true) (hk : v.k = 2) : v.n = 0 := by
  unfold isVal at h
  rw [hk] at h
  have h : (v.n == 0 && isText v.s) = true := h
  simp only [Bool.and_eq_true, beq_iff_eq] at h
  exact h.1
theorem val_3 {v : Vl} (h : isVal v = true) (hk : v.k = 3) : (v.n = 0 ∨ v.n = 1) ∧ v.s = nul := by
  unfold isVal at h
  rw [hk] at h
  have h : ((v.n == 0 || v.n == 1) && same v.s nul) = true := h
  simp only [Bool.and_eq_true, Bool.or_eq_true, beq_iff_eq] at h
  exact ⟨h.1, same_eq h.2⟩
theorem val_k {v : Vl} (h : isVal v = true) : v.k = 1 ∨ v.k = 2 ∨ v.k = 3 := by
  by_cases h1 : v.k = 1
  · exact .inl h1
  · by_cases h2 : v.k = 2
    · exact .inr (.inl h2)
    · by_cases h3 : v.k = 3
      · exact .inr (.inr h3)
      · unfold isVal at h
        rw [show (v.k == 1) = false by simpa using h1, show (v.k == 2) = false by simpa using h2, show (v.k == 3) = false by simpa using h3] at h
        cases h
theorem truth_val (b : Bool) : isVal (truthV b) = true := by cases b <;> decide +kernel
theorem kindsAs_at : ∀ {vs : List Vl} {fs : List Fld} {i : Nat} {v : Vl} {f : Fld}, kindsAs vs fs = true → vs[i]? = some v → fs[i]? = some f → v.k = f.kind
  | [], _, i, v, f, _, h, _ => by simp at h
  | _ :: _, [], i, v, f, h, _, _ => by simp [kindsAs] at h
  | a :: vs, b :: fs, i, v, f, h, h1, h2 => by
    simp only [kindsAs, Bool.and_eq_true, beq_iff_eq] at h
    cases i with
    | zero => simp at h1 h2; rw [← h1, ← h2]; exact h.1
    | succ i => exact kindsAs_at h.2 (by simpa using h1) (by simpa using h2)
theorem oneK_all : ∀ {xs : List Int} {k0 k : Int}, oneK xs k0 false = (k, 0) → k = k0 ∧ ∀ x ∈ xs, x = k0
  | [], k0, k, h => by
    simp only [oneK, Prod.mk.injEq] at h
    exact ⟨h.1.symm, by simp⟩
  | x :: xs, k0, k, h => by
    simp only [oneK, Bool.not_false, Bool.true_and] at h
    by_cases hx : x = k0
    · subst hx
      rw [show (x != x) = false by simp] at h
      obtain ⟨h1, h2⟩ := oneK_all h
      exact ⟨h1, fun y hy => by
        rcases List.mem_cons.1 hy with e | hy
        · exact e
        · exact h2 y hy⟩
    · rw [show (x != k0) = true by simpa using hx] at h
      simp at h
theorem oneK_first {xs : List Int} {k : Int} (h : oneK xs 0 true = (k, 0)) : ∀ x ∈ xs, x = k := by
  cases xs with
  | nil => simp
  | cons x xs =>
    simp only [oneK, Bool.not_true, Bool.false_and, cond_false] at h
    obtain ⟨h1, h2⟩ := oneK_all h
    intro y hy
    rcases List.mem_cons.1 hy with e | hy
    · rw [e, h1]
    · rw [h2 y hy, h1]
theorem evt_facts {s : List Ty} {e : Ev} (h : evtR s e = 0) : (findT s e.ty).2 = true ∧ e.vals.length = (findT s e.ty).1.fields.length ∧ (∀ v ∈ e.vals, isVal v = true) ∧ kindsAs e.vals (findT s e.ty).1.fields = true := by
  unfold evtR at h
  cases h1 : (findT s e.ty).2 with
  | false => rw [h1] at h; simp at h
  | true =>
    rw [h1] at h
    simp only [Bool.not_true, cond_false] at h
    cases h2 : (decide (e.ts < 0) || (decide (e.ts > 1073741824) || ((e.vals.length : Int) != ((findT s e.ty).1.fields.length : Int)))) with
    | true => rw [h2] at h; simp at h
    | false =>
      rw [h2] at h
      simp only [cond_false] at h
      cases h3 : e.vals.all isVal with
      | false => rw [h3] at h; simp at h
      | true =>
        rw [h3] at h
        simp only [Bool.not_true, cond_false] at h
        cases h4 : kindsAs e.vals (findT s e.ty).1.fields with
        | false => rw [h4] at h; simp at h
        | true =>
          simp only [Bool.or_eq_false_iff, bne_eq_false_iff_eq] at h2
          exact ⟨rfl, by have := h2.2.2; omega, fun v hv => List.all_eq_true.1 h3 v hv, rfl⟩
/-- Whatever is bound suits. -/
def Suits (s : List Ty) (l : List Bi) (es : List El) : Prop :=
  ∀ b ∈ l, evtR s b.ev = 0 ∧ ∃ i e, es.findIdx? (fun x => same x.al b.al) = some i ∧ es[i]? = some e ∧ b.ev.ty ∈ e.tys
theorem field_val {s : List Ty} {l : List Bi} {es : List El} (hS : Suits s l es) {al fi : ByteArray} {i : Nat} {e : El} {k : Int} (hi : es.findIdx? (fun x => same x.al al) = some i) (he : es[i]? = some e)
    (hk : fkR s e.tys fi = (k, 0)) (h0 : (fieldV s l al fi).2 = 0) : (fieldV s l al fi).1.k = k ∧ isVal (fieldV s l al fi).1 = true := by
  cases hb : lastB l al with
  | none => rw [fieldV_none hb] at h0; simp at h0
  | some b =>
    have hmem : b ∈ l := by
      unfold lastB at hb
      have := List.mem_of_find?_eq_some hb
      simpa using this
    have hal : b.al = al := by
      unfold lastB at hb
      have := List.find?_some hb
      exact same_eq (by simpa using this)
    obtain ⟨h1, i', e', h2, h3, h4⟩ := hS b hmem
    rw [hal, hi] at h2
    cases h2
    rw [he] at h3
    cases h3
    obtain ⟨g1, g2, g3, g4⟩ := evt_facts h1
    unfold fkR at hk
    cases hbad : e.tys.any (badF s fi) with
    | true => rw [hbad] at hk; simp at hk
    | false =>
      rw [hbad] at hk
      simp only [cond_false] at hk
      rw [List.any_eq_false] at hbad
      have hnb := hbad b.ev.ty h4
      have hkf := oneK_first hk (kindF s fi b.ev.ty) (List.mem_map.2 ⟨_, h4, rfl⟩)
      have hge : ¬ fieldAt (findT s b.ev.ty).1 fi < 0 := by
        intro hlt
        apply hnb
        unfold badF
        simp [hlt]
      obtain ⟨j, hj⟩ := Int.eq_ofNat_of_zero_le (show 0 ≤ fieldAt (findT s b.ev.ty).1 fi by omega)
      rcases idx_cases (fun f : Fld => same f.name fi) (findT s b.ev.ty).1.fields with ⟨j', f, q1, q2, _, _⟩ | ⟨q1, _⟩
      · have hjj : j' = j := by
          have : fieldAt (findT s b.ev.ty).1 fi = (j' : Int) := q1
          omega
        subst hjj
        obtain ⟨v, hv⟩ : ∃ v, b.ev.vals[j']? = some v := ⟨_, List.getElem?_eq_getElem (by have := (List.getElem?_eq_some_iff.1 q2).1; omega)⟩
        have hg := getV_ok g1 hj hv
        rw [fieldV_ok hb (by rw [hg])]
        simp only [hg]
        refine ⟨?_, g3 v (List.mem_of_getElem? hv)⟩
        rw [kindsAs_at g4 hv q2, ← hkf]
        unfold kindF
        rw [hj]
        simp [q2]
      · have : fieldAt (findT s b.ev.ty).1 fi = -1 := q1
        omega
theorem fieldV_err {s : List Ty} {l : List Bi} {al fi : ByteArray} (h : (fieldV s l al fi).2 ≠ 0) : (fieldV s l al fi).1 = nulV := by
  unfold fieldV at h ⊢
  cases hb : lastB l al with
  | none => rfl
  | some b =>
    rw [hb] at h
    simp only at h ⊢
    cases hg : (getV s b.ev fi).2 with
    | true => rw [hg] at h; simp at h
    | false => rfl

theorem finR_err {op : Int} {rs : List (Vl × Int)} (h : (finR op rs).2 ≠ 0) : (finR op rs).1 = nulV := by
  unfold finR at h ⊢
  match rs with
  | [] => rfl
  | [r0] =>
    simp only [cond_eq_ite] at h ⊢
    split
    · rfl
    · rename_i g0
      simp only [g0] at h
      split
      · rename_i g1
        simp only [g1] at h
        split
        · rfl
        · rename_i g2
          simp only [g2] at h
          split
          · rename_i g3
            simp [g3] at h
          · rfl
      · rename_i g1
        simp only [g1] at h
        split
        · rename_i g2
          simp only [g2] at h
          split
          · rfl
          · rename_i g3
            simp [g3] at h
        · rfl
  | r0 :: r1 :: l =>
    simp only [cond_eq_ite] at h ⊢
    split
    · rfl
    · rename_i g0
      simp only [g0] at h
      split
      · rename_i g1
        simp only [g1] at h
        split
        · rfl
        · rename_i g2
          simp only [g2] at h
          split
          · rename_i g3
            simp [g3] at h
          · rename_i g3
            simp only [g3] at h
            split
            · rfl
            · rename_i g4
              simp only [g4] at h
              split
              · rfl
              · rename_i g5
                simp [g5] at h
      · rename_i g1
        simp only [g1] at h
        split
        · rename_i g2
          simp only [g2] at h
          split
          · rfl
          · rename_i g3
            simp [g3] at h
        · rename_i g2
          simp only [g2] at h
          split
          · rfl
          · rename_i g3
            refine refTwo_err ?_
            simpa [g3] using h
theorem evR_err {s : List Ty} {l : List Bi} {x : Exp} (h : (evR s l x).2 ≠ 0) : (evR s l x).1 = nulV := by
  obtain ⟨op, v, al, fi, ks⟩ := x
  unfold evR at h ⊢
  cases e1 : (op == 1) with
  | true => rw [e1] at h; exact absurd rfl h
  | false =>
    rw [e1] at h
    simp only [cond_false] at h ⊢
    cases e2 : (op == 2) with
    | true => rw [e2] at h; exact fieldV_err h
    | false => rw [e2] at h; exact finR_err h
end Go.AL
/- Put right a condition means the same: the law. Nothing of a program. -/
namespace Go.AL
set_option linter.unusedVariables false
set_option linter.unusedSimpArgs false

theorem kRs_one {s : List Ty} {es : List El} {p : Exp} (h : (kRs s es [p]).2 = 0) : (kR s es p).2 = 0 ∧ (kRs s es [p]).1 = [(kR s es p).1] := by
  simp only [kRs] at h ⊢
  by_cases h1 : (kR s es p).2 = 0
  · have : ((kR s es p).2 != 0) = false := by simpa using h1
    rw [this]
    exact ⟨h1, rfl⟩
  · have : ((kR s es p).2 != 0) = true := by simpa using h1
    rw [this] at h
    exact absurd h h1
theorem kRs_two {s : List Ty} {es : List El} {p q : Exp} (h : (kRs s es [p, q]).2 = 0) : (kR s es p).2 = 0 ∧ (kR s es q).2 = 0 ∧ (kRs s es [p, q]).1 = [(kR s es p).1, (kR s es q).1] := by
  rw [kRs] at h ⊢
  by_cases h1 : (kR s es p).2 = 0
  · have e1 : ((kR s es p).2 != 0) = false := by simpa using h1
    rw [e1] at h ⊢
    simp only [cond_false] at h ⊢
    by_cases h2 : (kRs s es [q]).2 = 0
    · obtain ⟨g1, g2⟩ := kRs_one h2
      have e2 : ((kRs s es [q]).2 != 0) = false := by simpa using h2
      rw [e2]
      simp only [cond_false, g2]
      exact ⟨h1, g1, trivial⟩
    · have e2 : ((kRs s es [q]).2 != 0) = true := by simpa using h2
      rw [e2] at h
      exact absurd h h2
  · have e1 : ((kR s es p).2 != 0) = true := by simpa using h1
    rw [e1] at h
    exact absurd h h1
theorem prod_eq {α β : Type} {a : α × β} {x : α} {y : β} (h1 : a.1 = x) (h2 : a.2 = y) : a = (x, y) := by cases a; simp_all

/-- What the kind of a sign says of its parts. -/
theorem kind_parts {s : List Ty} {es : List El} {op : Int} {v : Vl} {al fi : ByteArray} {ks : List Exp} {k : Int} (hl : (ks.length : Int) = kidsN op) (h3 : 3 ≤ op) (h12 : op ≤ 12) (h : kR s es (.mk op v al fi ks) = (k, 0)) :
    (op = 12 ∧ ∃ p, ks = [p] ∧ kR s es p = (3, 0) ∧ k = 3) ∨ (op ≠ 12 ∧ ∃ p q k0, ks = [p, q] ∧ kR s es p = (k0, 0) ∧ kR s es q = (k0, 0) ∧ finKR op k0 k0 = (k, 0)) := by
  have e : kR s es (.mk op v al fi ks) = (bif (kRs s es ks).2 != 0 then (0, (kRs s es ks).2) else finKR op ((kRs s es ks).1.getD 0 0) ((kRs s es ks).1.getD 1 0)) := by
    rw [kR, show (op == 1) = false by simp; omega, show (op == 2) = false by simp; omega]; rfl
  rw [e] at h
  by_cases h0 : (kRs s es ks).2 = 0
  · rw [show ((kRs s es ks).2 != 0) = false by simpa using h0] at h
    simp only [cond_false] at h
    by_cases ho : op = 12
    · left
      subst ho
      obtain ⟨p, rfl⟩ := len1 (by rw [kids12] at hl; exact hl)
      obtain ⟨g1, g2⟩ := kRs_one h0
      rw [g2] at h
      simp only [List.getD_cons_zero, List.getD_cons_succ, List.getD_nil] at h
      unfold finKR at h
      by_cases hk : (kR s es p).1 = 3
      · rw [show ((12 : Int) == 12 && (kR s es p).1 == 3) = true by simp [hk]] at h
        simp only [cond_true, Prod.mk.injEq] at h
        exact ⟨rfl, p, rfl, prod_eq hk g1, h.1.symm⟩
      · rw [show ((12 : Int) == 12 && (kR s es p).1 == 3) = false by simp [hk]] at h
        simp at h
    · right
      have hl2 : (ks.length : Int) = 2 := by
        rw [hl]
        unfold kidsN
        rw [show (op == 12) = false by simpa using ho, show (decide (op ≥ 3) && decide (op ≤ 11)) = true by simp; omega]
        rfl
      obtain ⟨p, q, rfl⟩ := len2 hl2
      obtain ⟨g1, g2, g3⟩ := kRs_two h0
      rw [g3] at h
      simp only [List.getD_cons_zero, List.getD_cons_succ] at h
      have hkk : (kR s es p).1 = (kR s es q).1 := by
        by_cases hne : (kR s es p).1 = (kR s es q).1
        · exact hne
        · unfold finKR at h
          rw [show (op == 12 && (kR s es p).1 == 3) = false by simp [ho], show (op == 12 || (kR s es p).1 != (kR s es q).1) = true by simp [hne]] at h
          simp at h
      exact ⟨ho, p, q, (kR s es p).1, rfl, prod_eq rfl g1, prod_eq hkk.symm g2, by rw [← hkk] at h; exact h⟩
  · rw [show ((kRs s es ks).2 != 0) = true by simpa using h0] at h
    simp only [cond_true, Prod.mk.injEq] at h
    exact absurd h.2 h0
theorem kind_mk1 {s : List Ty} {es : List El} {v : Vl} {al fi : ByteArray} {p : Exp} (h : kR s es p = (3, 0)) : kR s es (.mk 12 v al fi [p]) = (3, 0) := by
  rw [kR]
  have e : kRs s es [p] = ([3], 0) := by simp [kRs, h]
  rw [e]
  rfl
theorem kind_mk2 {s : List Ty} {es : List El} {op : Int} {v : Vl} {al fi : ByteArray} {p q : Exp} {k0 : Int} (h3 : 3 ≤ op) (hp : kR s es p = (k0, 0)) (hq : kR s es q = (k0, 0)) : kR s es (.mk op v al fi [p, q]) = finKR op k0 k0 := by
  rw [kR, show (op == 1) = false by simp; omega, show (op == 2) = false by simp; omega]
  have e : kRs s es [p, q] = ([k0, k0], 0) := by simp [kRs, hp, hq]
  rw [e]
  rfl

theorem fin_one {r : Vl × Int} (h : (finR 12 [r]).2 = 0) : r.2 = 0 ∧ r.1.k = 3 ∧ finR 12 [r] = (truthV (r.1.n == 0), 0) := by
  unfold finR at h ⊢
  dsimp only at h ⊢
  by_cases h0 : r.2 = 0
  · rw [show (r.2 != 0) = false by simpa using h0] at h ⊢
    by_cases hk : r.1.k = 3
    · rw [show (r.1.k != 3) = false by simpa using hk]
      exact ⟨h0, hk, rfl⟩
    · rw [show (r.1.k != 3) = true by simpa using hk] at h
      simp at h
  · rw [show (r.2 != 0) = true by simpa using h0] at h
    exact absurd h h0
theorem fin_one_ok {r : Vl × Int} (h : r.2 = 0) (hk : r.1.k = 3) : finR 12 [r] = (truthV (r.1.n == 0), 0) := by
  unfold finR
  dsimp only
  rw [show (r.2 != 0) = false by simpa using h, show (r.1.k != 3) = false by simpa using hk]
  rfl
theorem fin_one_no {r : Vl × Int} (h : r.2 ≠ 0) : finR 12 [r] = (nulV, r.2) := by
  unfold finR
  dsimp only
  rw [show (r.2 != 0) = true by simpa using h]
  rfl
theorem fin_two_ok {op : Int} (h1 : op ≠ 10) (h2 : op ≠ 11) (h3 : op ≠ 12) {a b : Vl × Int} (ha : a.2 = 0) (hb : b.2 = 0) : finR op [a, b] = refTwo op a.1 b.1 := by
  unfold finR
  dsimp only
  rw [show (a.2 != 0) = false by simpa using ha, show (b.2 != 0) = false by simpa using hb, show (op == 10 || op == 11) = false by simp [h1, h2], show (op == 12) = false by simpa using h3]
  rfl
theorem fin_two_no {op : Int} (h1 : op ≠ 10) (h2 : op ≠ 11) (h3 : op ≠ 12) {a b : Vl × Int} (h : a.2 ≠ 0 ∨ b.2 ≠ 0) : ∃ c, c ≠ 0 ∧ finR op [a, b] = (nulV, c) := by
  unfold finR
  dsimp only
  by_cases ha : a.2 = 0
  · have hb : b.2 ≠ 0 := by
      rcases h with h | h
      · exact absurd ha h
      · exact h
    rw [show (a.2 != 0) = false by simpa using ha, show (b.2 != 0) = true by simpa using hb, show (op == 10 || op == 11) = false by simp [h1, h2], show (op == 12) = false by simpa using h3]
    exact ⟨b.2, hb, rfl⟩
  · rw [show (a.2 != 0) = true by simpa using ha]
    exact ⟨a.2, ha, rfl⟩
theorem alike_no {c c' : Int} (h : c ≠ 0) (h' : c' ≠ 0) : Alike (nulV, c) (nulV, c') := by
  refine ⟨?_, rfl⟩
  show (c == 0) = (c' == 0)
  rw [show (c == 0) = false by simpa using h, show (c' == 0) = false by simpa using h']
theorem truth_k (b : Bool) : (truthV b).k = 3 := rfl
theorem truth_n (b : Bool) : ((truthV b).n == 0) = !b := by cases b <;> rfl
/-- Not of a truth. -/
theorem fin_not (b : Bool) : finR 12 [(truthV b, 0)] = (truthV (!b), 0) := by
  rw [fin_one_ok rfl (truth_k b)]
  simp only [truth_n]

/-- A condition of a kind tells values of that kind. -/
theorem typed (s : List Ty) (l : List Bi) (es : List El) (hS : Suits s l es) : ∀ (n : Nat) (x : Exp), SizeOf.sizeOf x < n → ∀ (d : Nat) (k : Int), shapedX x d = true → kR s es x = (k, 0) → (evR s l x).2 = 0 → (evR s l x).1.k = k ∧ isVal (evR s l x).1 = true
  | 0, x, h => by omega
  | n + 1, .mk op v al fi ks, h => fun d k hs hk h0 => by
    obtain ⟨h1, h2, h3, h4, h5, h6⟩ := shaped_inv hs
    by_cases e1 : op = 1
    · subst e1
      have ek : kR s es (.mk 1 v al fi ks) = (v.k, 0) := by rw [kR]; rfl
      have ee : evR s l (.mk 1 v al fi ks) = (v, 0) := by rw [evR]; rfl
      rw [ek] at hk
      rw [ee]
      refine ⟨(Prod.mk.inj hk).1, ?_⟩
      unfold shapedX at hs
      have hc : (decide ((1 : Int) < 1) || (decide ((1 : Int) > 12) || (((ks.length : Int) != kidsN 1) || decide ((d : Int) > 5)))) = false := by simp [h3]; omega
      rw [hc] at hs
      have hs : (isVal v && noNames al fi) = true := hs
      simp only [Bool.and_eq_true] at hs
      exact hs.1
    · by_cases e2 : op = 2
      · subst e2
        have ee : evR s l (.mk 2 v al fi ks) = fieldV s l al fi := by rw [evR]; rfl
        rw [ee] at h0 ⊢
        rw [kR] at hk
        have hk : (match es.findIdx? (fun e => same e.al al) with
          | none => ((0 : Int), (13 : Int))
          | some i => match es[i]? with
            | some e => fkR s e.tys fi
            | none => (0, 13)) = (k, 0) := hk
        cases hf : es.findIdx? (fun e => same e.al al) with
        | none => rw [hf] at hk; simp at hk
        | some i =>
          rw [hf] at hk
          simp only at hk
          cases he : es[i]? with
          | none => rw [he] at hk; simp at hk
          | some e =>
            rw [he] at hk
            exact field_val hS hf he hk h0
      · have e3 : 3 ≤ op := by omega
        have ee : evR s l (.mk op v al fi ks) = finR op (evRs s l ks) := by
          rw [evR, show (op == 1) = false by simpa using e1, show (op == 2) = false by simpa using e2]; rfl
        rw [ee] at h0 ⊢
        rcases kind_parts h3 e3 h2 hk with ⟨rfl, p, rfl, hp, rfl⟩ | ⟨ho, p, q, k0, rfl, hp, hq, hfk⟩
        · simp only [evRs] at h0 ⊢
          obtain ⟨g1, g2, g3⟩ := fin_one h0
          rw [g3]
          exact ⟨truth_k _, truth_val _⟩
        · have ihp := typed s l es hS n p (by simp at h; omega) (d + 1) k0 (h5 p (by simp)) hp
          have ihq := typed s l es hS n q (by simp at h; omega) (d + 1) k0 (h5 q (by simp)) hq
          simp only [evRs] at h0 ⊢
          unfold finKR at hfk
          rw [show (op == 12 && k0 == 3) = false by simp [ho], show (op == 12 || k0 != k0) = false by simp [ho]] at hfk
          simp only [cond_false] at hfk
          generalize evR s l p = a at *
          generalize evR s l q = b at *
          by_cases ha : a.2 = 0
          · obtain ⟨pa1, pa2⟩ := ihp ha
            by_cases h10 : op = 10 ∨ op = 11
            · have hk3 : k0 = 3 ∧ k = 3 := by
                rw [show (decide (op ≤ 5) && k0 == 1) = false by simp; omega, show (op == 6 || op == 7) = false by simp; omega, show ((op == 8 || op == 9) && k0 != 3) = false by simp; omega] at hfk
                by_cases hk3 : k0 = 3
                · rw [show ((op == 10 || op == 11) && k0 == 3) = true by simp [h10, hk3]] at hfk
                  exact ⟨hk3, (Prod.mk.inj hfk).1.symm⟩
                · rw [show ((op == 10 || op == 11) && k0 == 3) = false by simp [hk3]] at hfk
                  simp at hfk
              obtain ⟨rfl, rfl⟩ := hk3
              unfold finR at h0 ⊢
              dsimp only at h0 ⊢
              rw [show (a.2 != 0) = false by simpa using ha, show (op == 10 || op == 11) = true by simp [h10], show (a.1.k != 3) = false by simpa using pa1] at h0 ⊢
              simp only [cond_true, cond_false] at h0 ⊢
              cases hc : ((a.1.n == 1) == (op == 11)) with
              | true => simp only [cond_true]; exact ⟨pa1, pa2⟩
              | false =>
                rw [hc] at h0
                simp only [cond_false] at h0 ⊢
                by_cases hb : b.2 = 0
                · obtain ⟨pb1, pb2⟩ := ihq hb
                  rw [show (b.2 == 0 && b.1.k != 3) = false by simp [pb1], show (b.2 != 0) = false by simpa using hb]
                  exact ⟨pb1, pb2⟩
                · rw [show (b.2 == 0 && b.1.k != 3) = false by simp [hb], show (b.2 != 0) = true by simpa using hb] at h0
                  exact absurd h0 hb
            · have n10 : op ≠ 10 := fun e => h10 (.inl e)
              have n11 : op ≠ 11 := fun e => h10 (.inr e)
              by_cases hb : b.2 = 0
              · obtain ⟨pb1, pb2⟩ := ihq hb
                rw [fin_two_ok n10 n11 ho ha hb] at h0 ⊢
                unfold refTwo at h0 ⊢
                rw [show (a.1.k != b.1.k) = false by simp [pa1, pb1], pa1] at h0 ⊢
                simp only [cond_false] at h0 ⊢
                by_cases c1 : op ≤ 5 ∧ k0 = 1
                · rw [show (decide (op ≤ 5) && k0 == 1) = true by simp [c1.1, c1.2]] at h0 hfk ⊢
                  simp only [cond_true] at h0 hfk ⊢
                  cases hr : (!(refOver op a.1.n b.1.n).2) with
                  | true => rw [hr] at h0; simp at h0
                  | false =>
                    simp only [cond_false]
                    exact ⟨(Prod.mk.inj hfk).1, same_refl nul⟩
                · rw [show (decide (op ≤ 5) && k0 == 1) = false by simp; omega] at h0 hfk ⊢
                  simp only [cond_false] at h0 hfk ⊢
                  by_cases c6 : op = 6
                  · subst c6
                    exact ⟨(Prod.mk.inj hfk).1, truth_val _⟩
                  · by_cases c7 : op = 7
                    · subst c7
                      exact ⟨(Prod.mk.inj hfk).1, truth_val _⟩
                    · rw [show (op == 6) = false by simpa using c6, show (op == 7) = false by simpa using c7] at h0 hfk ⊢
                      simp only [Bool.or_self, cond_false] at h0 hfk ⊢
                      by_cases c8 : op = 8
                      · subst c8
                        cases hk3 : (k0 != 3) with
                        | true =>
                          rw [hk3] at hfk
                          exact ⟨(Prod.mk.inj hfk).1, truth_val _⟩
                        | false => rw [hk3] at h0; exact absurd (show (14 : Int) = 0 from h0) (by decide)
                      · by_cases c9 : op = 9
                        · subst c9
                          cases hk3 : (k0 != 3) with
                          | true =>
                            rw [hk3] at hfk
                            exact ⟨(Prod.mk.inj hfk).1, truth_val _⟩
                          | false => rw [hk3] at h0; exact absurd (show (14 : Int) = 0 from h0) (by decide)
                        · rw [show (op == 8) = false by simpa using c8, show (op == 9) = false by simpa using c9] at h0
                          simp at h0
              · obtain ⟨c, hc, e⟩ := fin_two_no n10 n11 ho (a := a) (b := b) (.inr hb)
                rw [e] at h0
                exact absurd h0 hc
          · exfalso
            unfold finR at h0
            dsimp only at h0
            rw [show (a.2 != 0) = true by simpa using ha] at h0
            exact ha h0
end Go.AL
/- Put right a condition means the same: the law's heart. Nothing of a program. -/
namespace Go.AL
set_option linter.unusedVariables false
set_option linter.unusedSimpArgs false

theorem less_nul : less nul nul = false := less_self nul
/-- Not less is at most, the other way round. -/
theorem swap_lt {a b : Vl} (hk : a.k = b.k) (h3 : a.k ≠ 3) (ha : isVal a = true) (hb : isVal b = true) : (!(decide (a.n < b.n) || less a.s b.s)) = (decide (b.n < a.n) || (less b.s a.s || sameV b a)) := by
  rcases val_k ha with h | h | h
  · have e1 := val_1 ha h
    have e2 := val_1 hb (hk ▸ h)
    have es : sameV b a = (b.n == a.n) := by
      unfold sameV
      rw [show (b.k == a.k) = true by simp [hk], e1, e2, same_refl]; simp
    rw [es, e1, e2, less_nul, Bool.or_false, Bool.false_or]
    rcases Int.lt_trichotomy a.n b.n with c | c | c
    · have : ¬ b.n < a.n := by omega
      have : ¬ b.n = a.n := by omega
      simp [*]
    · simp [c]
    · have : ¬ a.n < b.n := by omega
      simp [*]
  · have e1 := val_2 ha h
    have e2 := val_2 hb (hk ▸ h)
    have es : sameV b a = same b.s a.s := by
      unfold sameV
      rw [show (b.k == a.k) = true by simp [hk], e1, e2]; simp
    rw [es, e1, e2]
    have := less_tot (a := b.s) (b := a.s)
    simpa using this
  · exact absurd h h3
theorem swap_le {a b : Vl} (hk : a.k = b.k) (h3 : a.k ≠ 3) (ha : isVal a = true) (hb : isVal b = true) : (!(decide (a.n < b.n) || (less a.s b.s || sameV a b))) = (decide (b.n < a.n) || less b.s a.s) := by
  have := swap_lt hk.symm (hk ▸ h3) hb ha
  rw [← this, Bool.not_not]
theorem two6 {a b : Vl} (hk : a.k = b.k) : refTwo 6 a b = (truthV (sameV a b), 0) := by
  unfold refTwo
  rw [show (a.k != b.k) = false by simp [hk]]; rfl
theorem two7 {a b : Vl} (hk : a.k = b.k) : refTwo 7 a b = (truthV (!sameV a b), 0) := by
  unfold refTwo
  rw [show (a.k != b.k) = false by simp [hk]]; rfl
theorem two8 {a b : Vl} (hk : a.k = b.k) (h3 : a.k ≠ 3) : refTwo 8 a b = (truthV (decide (a.n < b.n) || less a.s b.s), 0) := by
  unfold refTwo
  rw [show (a.k != b.k) = false by simp [hk], show (a.k != 3) = true by simpa using h3]; rfl
theorem two9 {a b : Vl} (hk : a.k = b.k) (h3 : a.k ≠ 3) : refTwo 9 a b = (truthV (decide (a.n < b.n) || (less a.s b.s || sameV a b)), 0) := by
  unfold refTwo
  rw [show (a.k != b.k) = false by simp [hk], show (a.k != 3) = true by simpa using h3]; rfl
theorem ev_mk {s : List Ty} {l : List Bi} {op : Int} {v : Vl} {al fi : ByteArray} {ks : List Exp} (h : 3 ≤ op) : evR s l (.mk op v al fi ks) = finR op (evRs s l ks) := by
  rw [evR, show (op == 1) = false by simp; omega, show (op == 2) = false by simp; omega]; rfl
/-- Not of a sign that has an opposite. -/
theorem alike_flip {o o' : Int} {P Q P' Q' : Vl × Int} (ho : o ≠ 10 ∧ o ≠ 11 ∧ o ≠ 12) (ho' : o' ≠ 10 ∧ o' ≠ 11 ∧ o' ≠ 12) (he : (P.2 ≠ 0 ∨ Q.2 ≠ 0) → (P'.2 ≠ 0 ∨ Q'.2 ≠ 0))
    (h : P.2 = 0 → Q.2 = 0 → P'.2 = 0 ∧ Q'.2 = 0 ∧ ∃ b, refTwo o P.1 Q.1 = (truthV b, 0) ∧ refTwo o' P'.1 Q'.1 = (truthV (!b), 0)) : Alike (finR 12 [finR o [P, Q]]) (finR o' [P', Q']) := by
  by_cases h0 : P.2 = 0 ∧ Q.2 = 0
  · obtain ⟨g1, g2, b, g3, g4⟩ := h h0.1 h0.2
    rw [fin_two_ok ho.1 ho.2.1 ho.2.2 h0.1 h0.2, g3, fin_not, fin_two_ok ho'.1 ho'.2.1 ho'.2.2 g1 g2, g4]
    exact Alike.refl _
  · have hne : P.2 ≠ 0 ∨ Q.2 ≠ 0 := by
      by_cases hp : P.2 = 0
      · exact .inr fun hq => h0 ⟨hp, hq⟩
      · exact .inl hp
    obtain ⟨c, hc, e1⟩ := fin_two_no ho.1 ho.2.1 ho.2.2 hne
    obtain ⟨c', hc', e2⟩ := fin_two_no ho'.1 ho'.2.1 ho'.2.2 (he hne)
    rw [e1, e2, fin_one_no hc]
    exact alike_no hc hc'

theorem kind_flip {o o2 k0 : Int} (h : finKR o k0 k0 = (3, 0)) (ho : (o = 6 ∧ o2 = 7) ∨ (o = 7 ∧ o2 = 6) ∨ (o = 8 ∧ o2 = 9) ∨ (o = 9 ∧ o2 = 8)) : finKR o2 k0 k0 = (3, 0) := by
  unfold finKR at h ⊢
  rw [show (k0 != k0) = false by simp] at h ⊢
  rcases ho with ⟨rfl, rfl⟩ | ⟨rfl, rfl⟩ | ⟨rfl, rfl⟩ | ⟨rfl, rfl⟩
  · rfl
  · rfl
  · have h : (bif (k0 != 3) then ((3 : Int), (0 : Int)) else (0, 14)) = (3, 0) := h
    exact h
  · have h : (bif (k0 != 3) then ((3 : Int), (0 : Int)) else (0, 14)) = (3, 0) := h
    exact h
theorem kind_ne3 {o k0 : Int} (h : finKR o k0 k0 = (3, 0)) (ho : o = 8 ∨ o = 9) : k0 ≠ 3 := by
  intro e
  subst e
  rcases ho with rfl | rfl
  · exact absurd h (by decide)
  · exact absurd h (by decide)
theorem means (s : List Ty) (l : List Bi) (es : List El) (hS : Suits s l es) : ∀ (n : Nat) (x : Exp), SizeOf.sizeOf x < n → ∀ (d : Nat) (k : Int), shapedX x d = true → kR s es x = (k, 0) → kR s es (normX x) = (k, 0) ∧ Alike (evR s l x) (evR s l (normX x))
  | 0, x, h => by omega
  | n + 1, .mk op v al fi ks, h => fun d k hs hk => by
    obtain ⟨h1, h2, h3, h4, h5, h6⟩ := shaped_inv hs
    have har := shaped_ar _ _ hs
    by_cases e12 : op = 1 ∨ op = 2
    · have hks : ks = [] := List.length_eq_zero_iff.1 (by
        rcases e12 with rfl | rfl
        · have : kidsN 1 = 0 := rfl
          omega
        · have : kidsN 2 = 0 := rfl
          omega)
      subst hks
      have e : normX (.mk op v al fi []) = .mk op v al fi [] := by
        unfold normX turnX
        rw [show (op == 12) = false by rcases e12 with rfl | rfl <;> rfl]
        rfl
      rw [e]
      exact ⟨hk, Alike.refl _⟩
    · have e3 : 3 ≤ op := by
        have : op ≠ 1 := fun q => e12 (.inl q)
        have : op ≠ 2 := fun q => e12 (.inr q)
        omega
      rcases norm_cases har with ⟨ho, e⟩ | ⟨ho, p, y, rfl, hy, hay, hc⟩
      · rcases kind_parts h3 e3 h2 hk with ⟨rfl, _⟩ | ⟨_, p, q, k0, rfl, hp, hq, hfk⟩
        · exact absurd rfl ho
        · obtain ⟨p1, p2⟩ := means s l es hS n p (by simp at h; omega) (d + 1) k0 (h5 p (by simp)) hp
          obtain ⟨q1, q2⟩ := means s l es hS n q (by simp at h; omega) (d + 1) k0 (h5 q (by simp)) hq
          rw [e]
          simp only [normXs]
          refine ⟨by rw [kind_mk2 e3 p1 q1]; exact hfk, ?_⟩
          rw [ev_mk e3, ev_mk e3]
          simp only [evRs]
          exact fin_alike2 (by simpa using ho) p2 q2
      · subst ho
        rcases kind_parts h3 e3 h2 hk with ⟨_, p', hpp, hp, rfl⟩ | ⟨ho, _⟩
        · simp only [List.cons.injEq, and_true] at hpp
          subst hpp
          obtain ⟨p1, p2⟩ := means s l es hS n p (by simp at h; omega) (d + 1) 3 (h5 p (by simp)) hp
          have hsy : shapedX y (d + 1) = true := by rw [← hy]; exact shaped_norm p (d + 1) (h5 p (by simp))
          rw [hy] at p1 p2
          have hx : Alike (evR s l (.mk 12 v al fi [p])) (finR 12 [evR s l y]) := by
            rw [ev_mk (by decide)]
            simp only [evRs]
            exact fin_alike1 rfl rfl p2
          have tr : ∀ {r : Vl × Int}, Alike (finR 12 [evR s l y]) r → Alike (evR s l (.mk 12 v al fi [p])) r := fun h => ⟨hx.1.trans h.1, hx.2.trans h.2⟩
          obtain ⟨o1, v1, a1, f1, k1⟩ := y
          obtain ⟨i1, i2, i3, i4, i5, i6⟩ := shaped_inv hsy
          rcases hc with ⟨hf, e⟩ | ⟨hy12, z, hz, e⟩ | ⟨o2, ho2, e⟩ | ⟨o2, a, b, ho2, hab, e⟩
          · rw [e]
            refine ⟨kind_mk1 p1, tr ?_⟩
            rw [ev_mk (op := 12) (by decide)]
            exact Alike.refl _
          · have hy12 : o1 = 12 := hy12
            subst hy12
            have hz : k1 = [z] := hz
            subst hz
            rw [e]
            rcases kind_parts i3 (by decide) i2 p1 with ⟨_, z', hzz, hkz, _⟩ | ⟨ho, _⟩
            · simp only [List.cons.injEq, and_true] at hzz
              subst hzz
              refine ⟨hkz, tr ?_⟩
              rw [ev_mk (op := 12) (by decide)]
              simp only [evRs]
              have ht := typed s l es hS _ z (Nat.lt_succ_self _) (d + 1 + 1) 3 (i5 z (by simp)) hkz
              have he := evR_err (s := s) (l := l) (x := z)
              generalize evR s l z = r at *
              by_cases hr : r.2 = 0
              · obtain ⟨t1, t2⟩ := ht hr
                rw [fin_one_ok hr t1, fin_not]
                obtain ⟨g1, g2⟩ := val_3 t2 t1
                refine ⟨by rw [hr], ?_⟩
                obtain ⟨⟨rk, rn, rs⟩, rc⟩ := r
                simp only at t1 g1 g2 ⊢
                rw [t1, g2]
                rcases g1 with g | g <;> rw [g] <;> rfl
              · rw [fin_one_no hr, fin_one_no (r := (nulV, r.2)) hr]
                have : r = (nulV, r.2) := by
                  have := he hr
                  obtain ⟨r1, r2⟩ := r
                  simp only at this ⊢
                  rw [this]
                rw [← this]
                exact Alike.refl _
            · exact absurd rfl ho
          · have ho2 : (o1 = 6 ∧ o2 = 7) ∨ (o1 = 7 ∧ o2 = 6) := ho2
            have e : normX (.mk 12 v al fi [p]) = .mk o2 zV nul nul k1 := e
            rw [e]
            have i31 : 3 ≤ o1 := by rcases ho2 with ⟨rfl, _⟩ | ⟨rfl, _⟩ <;> decide
            have i32 : 3 ≤ o2 := by rcases ho2 with ⟨_, rfl⟩ | ⟨_, rfl⟩ <;> decide
            rcases kind_parts i3 i31 i2 p1 with ⟨ho, _⟩ | ⟨_, a, b, k0, hab, hka, hkb, hfk⟩
            · rcases ho2 with ⟨rfl, _⟩ | ⟨rfl, _⟩ <;> exact absurd ho (by decide)
            · subst hab
              refine ⟨by rw [kind_mk2 i32 hka hkb]; exact kind_flip hfk (by rcases ho2 with q | q; exact .inl q; exact .inr (.inl q)), tr ?_⟩
              rw [ev_mk i31, ev_mk i32]
              simp only [evRs]
              have ta := typed s l es hS _ a (Nat.lt_succ_self _) (d + 1 + 1) k0 (i5 a (by simp)) hka
              have tb := typed s l es hS _ b (Nat.lt_succ_self _) (d + 1 + 1) k0 (i5 b (by simp)) hkb
              refine alike_flip (by rcases ho2 with ⟨rfl, _⟩ | ⟨rfl, _⟩ <;> decide) (by rcases ho2 with ⟨_, rfl⟩ | ⟨_, rfl⟩ <;> decide) (fun h => h) fun ha hb => ⟨ha, hb, ?_⟩
              have hkk : (evR s l a).1.k = (evR s l b).1.k := (ta ha).1.trans (tb hb).1.symm
              rcases ho2 with ⟨rfl, rfl⟩ | ⟨rfl, rfl⟩
              · exact ⟨_, two6 hkk, two7 hkk⟩
              · exact ⟨_, two7 hkk, by rw [two6 hkk, Bool.not_not]⟩
          · have ho2 : (o1 = 8 ∧ o2 = 9) ∨ (o1 = 9 ∧ o2 = 8) := ho2
            have hab : k1 = [a, b] := hab
            subst hab
            rw [e]
            have i31 : 3 ≤ o1 := by rcases ho2 with ⟨rfl, _⟩ | ⟨rfl, _⟩ <;> decide
            have i32 : 3 ≤ o2 := by rcases ho2 with ⟨_, rfl⟩ | ⟨_, rfl⟩ <;> decide
            rcases kind_parts i3 i31 i2 p1 with ⟨ho, _⟩ | ⟨_, a', b', k0, hab, hka, hkb, hfk⟩
            · rcases ho2 with ⟨rfl, _⟩ | ⟨rfl, _⟩ <;> exact absurd ho (by decide)
            · simp only [List.cons.injEq, and_true] at hab
              obtain ⟨rfl, rfl⟩ := hab
              refine ⟨by rw [kind_mk2 i32 hkb hka]; exact kind_flip hfk (by rcases ho2 with q | q; exact .inr (.inr (.inl q)); exact .inr (.inr (.inr q))), tr ?_⟩
              rw [ev_mk i31, ev_mk i32]
              simp only [evRs]
              have h3 : k0 ≠ 3 := kind_ne3 hfk (by rcases ho2 with ⟨q, _⟩ | ⟨q, _⟩; exact .inl q; exact .inr q)
              have ta := typed s l es hS _ a (Nat.lt_succ_self _) (d + 1 + 1) k0 (i5 a (by simp)) hka
              have tb := typed s l es hS _ b (Nat.lt_succ_self _) (d + 1 + 1) k0 (i5 b (by simp)) hkb
              refine alike_flip (by rcases ho2 with ⟨rfl, _⟩ | ⟨rfl, _⟩ <;> decide) (by rcases ho2 with ⟨_, rfl⟩ | ⟨_, rfl⟩ <;> decide) (fun h => h.symm) fun ha hb => ⟨hb, ha, ?_⟩
              have hkk : (evR s l a).1.k = (evR s l b).1.k := (ta ha).1.trans (tb hb).1.symm
              have n3 : (evR s l a).1.k ≠ 3 := by rw [(ta ha).1]; exact h3
              have n3' : (evR s l b).1.k ≠ 3 := by rw [(tb hb).1]; exact h3
              rcases ho2 with ⟨rfl, rfl⟩ | ⟨rfl, rfl⟩
              · exact ⟨_, two8 hkk n3, by rw [two9 hkk.symm n3', swap_lt hkk n3 (ta ha).2 (tb hb).2]⟩
              · exact ⟨_, two9 hkk n3, by rw [two8 hkk.symm n3', swap_le hkk n3 (ta ha).2 (tb hb).2]⟩
        · exact absurd rfl ho
end Go.AL
/- Schemas, kinds and values, as the document's functions find them: what stands at each step. Plain data; nothing of a program. -/
namespace Go.AL
set_option linter.unusedVariables false
set_option linter.unusedSimpArgs false

theorem sch_long {s : List Ty} (h : decide ((s.length : Int) > 5) = true) : isSchema s = false := by
  have : decide (s.length ≤ 5) = false := by simp at h ⊢; omega
  simp [isSchema, this]
theorem sch_badT {s : List Ty} {i : Nat} {t : Ty} (h : s[i]? = some t) (hb : isType t = false) : isSchema s = false := isSchema_bad h hb
theorem type_name {t : Ty} (h : isName t.name = false) : isType t = false := by simp [isType, h]
theorem type_long {t : Ty} (h : decide ((t.fields.length : Int) > 5) = true) : isType t = false := by
  have : decide (t.fields.length ≤ 5) = false := by simp at h ⊢; omega
  simp [isType, this]
theorem sch_badR {s : List Ty} {i : Nat} {a b : Ty} (h1 : s[i]? = some a) (h2 : s[i + 1]? = some b) (hl : Op.bytesLess a.name.toList b.name.toList = false) : isSchema s = false := by
  have : rise (s.map (·.name)) = false := rise_bad (i := i) (a := a.name) (b := b.name) (by simp [h1]) (by simp [h2]) hl
  simp [isSchema, this]
theorem type_ok {t : Ty} (h1 : isName t.name = true) (h2 : decide ((t.fields.length : Int) > 5) = false) (h3 : okFs t = true) : isType t = true := by
  have : decide (t.fields.length ≤ 5) = true := by simp at h2 ⊢; omega
  simp [isType, h1, this, h3]
theorem sch_ok {s : List Ty} (h : decide ((s.length : Int) > 5) = false) (ht : ∀ (j : Nat) (a : Ty), j < s.length → s[j]? = some a → isType a = true) (hr : ∀ (j : Nat) (a b : Ty), j + 1 < s.length → s[j]? = some a → s[j + 1]? = some b → Op.bytesLess a.name.toList b.name.toList = true) : isSchema s = true := by
  have e1 : decide (s.length ≤ 5) = true := by simp at h ⊢; omega
  have e2 : s.all isType = true := all_of ht
  have e3 : rise (s.map (·.name)) = true := rise_all fun j a b hj ha hb => by
    simp only [List.getElem?_map, Option.map_eq_some_iff] at ha hb
    obtain ⟨x, hx, rfl⟩ := ha
    obtain ⟨y, hy, rfl⟩ := hb
    exact hr j x y (by simpa using hj) hx hy
  simp [isSchema, e1, e2, e3]
theorem okF_no {t : Ty} {i : Nat} {f : Fld} (h : isName f.name = false ∨ decide (f.kind < 1) = true ∨ decide (f.kind > 3) = true ∨ (fieldAt t f.name != (i : Int)) = true) : okF t i f = false := by
  unfold okF
  rcases h with h | h | h | h
  · simp [h]
  · have : decide (1 ≤ f.kind) = false := by simp at h ⊢; omega
    simp [this]
  · have : decide (f.kind ≤ 3) = false := by simp at h ⊢; omega
    simp [this]
  · have : (fieldAt t f.name == (i : Int)) = false := by simp at h ⊢; exact h
    simp [this]
theorem okF_yes {t : Ty} {i : Nat} {f : Fld} (h1 : isName f.name = true) (h2 : decide (f.kind < 1) = false) (h3 : decide (f.kind > 3) = false) (h4 : (fieldAt t f.name != (i : Int)) = false) : okF t i f = true := by
  unfold okF
  have e2 : decide (1 ≤ f.kind) = true := by simp at h2 ⊢; omega
  have e3 : decide (f.kind ≤ 3) = true := by simp at h3 ⊢; omega
  have e4 : (fieldAt t f.name == (i : Int)) = true := by simp at h4 ⊢; exact h4
  simp [h1, e2, e3, e4]
/-! ### Events -/
theorem evt_none {s : List Ty} {e : Ev} (h : (findT s e.ty).2 = false) : evtR s e = 13 := by simp [evtR, h]
theorem evt_form {s : List Ty} {e : Ev} (h : (findT s e.ty).2 = true) (h2 : (decide (e.ts < 0) || (decide (e.ts > 1073741824) || ((e.vals.length : Int) != ((findT s e.ty).1.fields.length : Int)))) = true) : evtR s e = 10 := by
  unfold evtR; rw [h, h2]; rfl
theorem evt_val {s : List Ty} {e : Ev} (h : (findT s e.ty).2 = true) (h2 : (decide (e.ts < 0) || (decide (e.ts > 1073741824) || ((e.vals.length : Int) != ((findT s e.ty).1.fields.length : Int)))) = false) {i : Nat} {v : Vl} (hv : e.vals[i]? = some v) (hb : isVal v = false) : evtR s e = 10 := by
  have : e.vals.all isVal = false := by rw [List.all_eq_false]; exact ⟨v, List.mem_of_getElem? hv, by simp [hb]⟩
  unfold evtR; rw [h, h2, this]; rfl
theorem kindsAs_no : ∀ {vs : List Vl} {fs : List Fld} {i : Nat} {v : Vl} {f : Fld}, vs[i]? = some v → fs[i]? = some f → (v.k != f.kind) = true → kindsAs vs fs = false
  | [], _, i, v, f, h, _, _ => by simp at h
  | _ :: _, [], i, v, f, _, h, _ => by simp at h
  | x :: vs, y :: fs, 0, v, f, h1, h2, h3 => by
    simp at h1 h2; subst h1; subst h2
    have : (x.k == y.kind) = false := by simpa using h3
    simp only [kindsAs, this, Bool.false_and]
  | x :: vs, y :: fs, i + 1, v, f, h1, h2, h3 => by simp only [kindsAs, kindsAs_no (vs := vs) (fs := fs) (i := i) (by simpa using h1) (by simpa using h2) h3, Bool.and_false]
theorem kindsAs_yes : ∀ {vs : List Vl} {fs : List Fld}, vs.length = fs.length → (∀ (i : Nat) (v : Vl) (f : Fld), vs[i]? = some v → fs[i]? = some f → (v.k != f.kind) = false) → kindsAs vs fs = true
  | [], [], _, _ => rfl
  | [], _ :: _, h, _ => by simp at h
  | _ :: _, [], h, _ => by simp at h
  | x :: vs, y :: fs, hl, h => by
    have h0 : (x.k == y.kind) = true := by have := h 0 x y rfl rfl; simpa using this
    simp only [kindsAs, h0, Bool.true_and]
    exact kindsAs_yes (by simpa using hl) fun i v f h1 h2 => h (i + 1) v f (by simpa using h1) (by simpa using h2)
theorem evt_kind {s : List Ty} {e : Ev} (h : (findT s e.ty).2 = true) (h2 : (decide (e.ts < 0) || (decide (e.ts > 1073741824) || ((e.vals.length : Int) != ((findT s e.ty).1.fields.length : Int)))) = false) (h3 : e.vals.all isVal = true) (h4 : kindsAs e.vals (findT s e.ty).1.fields = false) : evtR s e = 14 := by
  unfold evtR; rw [h, h2, h3, h4]; rfl
theorem evt_yes {s : List Ty} {e : Ev} (h : (findT s e.ty).2 = true) (h2 : (decide (e.ts < 0) || (decide (e.ts > 1073741824) || ((e.vals.length : Int) != ((findT s e.ty).1.fields.length : Int)))) = false) (h3 : e.vals.all isVal = true) (h4 : kindsAs e.vals (findT s e.ty).1.fields = true) : evtR s e = 0 := by
  unfold evtR; rw [h, h2, h3, h4]; rfl
/-! ### Kinds -/
theorem fk_13 {s : List Ty} {tys : List ByteArray} {nm : ByteArray} {i : Nat} {t : ByteArray} (h : tys[i]? = some t) (hb : badF s nm t = true) : fkR s tys nm = (0, 13) := by
  have : tys.any (badF s nm) = true := List.any_eq_true.2 ⟨t, List.mem_of_getElem? h, hb⟩
  unfold fkR; rw [this]; rfl
/-- The kind of the first i types' fields. -/
def fkAt (s : List Ty) (tys : List ByteArray) (nm : ByteArray) (i : Nat) : Int := match i with | 0 => 0 | j + 1 => (tys[j]?.map (kindF s nm)).getD 0
theorem oneK_walk : ∀ {xs : List Int} {k : Int} {f : Bool}, (∀ (j : Nat) (x : Int), xs[j]? = some x → (!f || decide (0 < j)) = true → x = (match j with | 0 => k | q + 1 => (xs[q]?).getD 0)) → oneK xs k f = ((xs.getLast?).getD k, 0)
  | [], k, f, _ => rfl
  | x :: xs, k, f, h => by
    have h0 : (!f && x != k) = false := by
      cases f with
      | true => rfl
      | false =>
        have := h 0 x rfl rfl
        simp [this]
    unfold oneK
    rw [h0]
    have := oneK_walk (xs := xs) (k := x) (f := false) fun j y hy _ => by
      have := h (j + 1) y (by simpa using hy) (by simp)
      rw [this]
      cases j with
      | zero => simp
      | succ q => simp
    rw [cond_false, this]
    cases xs with
    | nil => rfl
    | cons y ys => simp [List.getLast?_cons]
theorem oneK_bad : ∀ {xs : List Int} {k : Int} {f : Bool} {i : Nat} {x : Int}, xs[i]? = some x → (!f || decide (0 < i)) = true → x ≠ (match i with | 0 => k | q + 1 => (xs[q]?).getD 0) → oneK xs k f = (0, 14)
  | [], k, f, i, x, h, _, _ => by simp at h
  | y :: ys, k, f, 0, x, h, hf, hx => by
    simp at h; subst h
    have : f = false := by cases f <;> simp_all
    subst this
    unfold oneK
    have : (y != k) = true := by simpa using hx
    rw [this]; rfl
  | y :: ys, k, f, i + 1, x, h, hf, hx => by
    unfold oneK
    cases hq : (!f && y != k) with
    | true => rfl
    | false =>
      rw [cond_false]
      exact oneK_bad (i := i) (x := x) (by simpa using h) (by simp) (by
        cases i with
        | zero => simpa using hx
        | succ q => simpa using hx)
theorem fk_14 {s : List Ty} {tys : List ByteArray} {nm : ByteArray} (hg : ∀ (j : Nat) (t : ByteArray), tys[j]? = some t → badF s nm t = false) {i : Nat} {t : ByteArray} (h : tys[i]? = some t) (h0 : 0 < i) (hb : kindF s nm t ≠ fkAt s tys nm i) : fkR s tys nm = (0, 14) := by
  have e : tys.any (badF s nm) = false := by
    rw [List.any_eq_false]; intro x hx
    obtain ⟨j, hj⟩ := List.getElem?_of_mem hx
    simp [hg j x hj]
  unfold fkR; rw [e]
  show oneK _ _ _ = _
  refine oneK_bad (i := i) (x := kindF s nm t) (by simp [h]) (by simp [h0]) ?_
  cases i with
  | zero => omega
  | succ q => simpa [fkAt] using hb
theorem fk_ok {s : List Ty} {tys : List ByteArray} {nm : ByteArray} (hg : ∀ (j : Nat) (t : ByteArray), tys[j]? = some t → badF s nm t = false) (hk : ∀ (j : Nat) (t : ByteArray), tys[j]? = some t → 0 < j → kindF s nm t = fkAt s tys nm j) {n : Nat} (hn : tys.length ≤ n) (hn2 : n ≤ tys.length) : fkR s tys nm = (fkAt s tys nm n, 0) := by
  have e : tys.any (badF s nm) = false := by
    rw [List.any_eq_false]; intro x hx
    obtain ⟨j, hj⟩ := List.getElem?_of_mem hx
    simp [hg j x hj]
  have en : n = tys.length := by omega
  subst en
  unfold fkR; rw [e]
  show oneK _ _ _ = _
  rw [oneK_walk]
  · congr 1
    rw [List.getLast?_eq_getElem?]
    simp only [List.length_map, List.getElem?_map]
    cases hl : tys.length with
    | zero =>
      have : tys = [] := List.length_eq_zero_iff.1 hl
      subst this; rfl
    | succ q => simp [fkAt]
  · intro j x hx h0
    simp only [List.getElem?_map, Option.map_eq_some_iff] at hx
    obtain ⟨t, ht, rfl⟩ := hx
    cases j with
    | zero => simp at h0
    | succ q => simpa [fkAt] using hk (q + 1) t ht (by omega)
theorem kind_at {s : List Ty} {nm t : ByteArray} (h : badF s nm t = false) : (findT s t).2 = true ∧ ∃ (i : Nat) (f : Fld), fieldAt (findT s t).1 nm = (i : Int) ∧ (findT s t).1.fields[i]? = some f ∧ kindF s nm t = f.kind := by
  unfold badF at h
  simp only [Bool.or_eq_false_iff, Bool.not_eq_false', decide_eq_false_iff_not] at h
  obtain ⟨h1, h2⟩ := h
  refine ⟨h1, ?_⟩
  rcases idx_cases (fun f : Fld => same f.name nm) (findT s t).1.fields with ⟨i, f, e1, e2, _⟩ | ⟨e1, _⟩
  · refine ⟨i, f, e1, e2, ?_⟩
    unfold kindF fieldAt
    rw [e1]
    simp [e2]
  · unfold fieldAt at h2; rw [e1] at h2; omega
/-! ### A sign's parts -/
theorem kRs_all {s : List Ty} {l : List El} : ∀ {ks : List Exp}, (∀ k ∈ ks, (kR s l k).2 = 0) → kRs s l ks = (ks.map fun k => (kR s l k).1, 0)
  | [], _ => by simp [kRs]
  | k :: ks, h => by
    have h0 := h k (by simp)
    have h1 := kRs_all (ks := ks) fun q hq => h q (by simp [hq])
    unfold kRs
    rw [h1, h0]; rfl
theorem kRs_err {s : List Ty} {l : List El} : ∀ {ks : List Exp} {i : Nat} {k : Exp}, ks[i]? = some k → ((kR s l k).2 != 0) = true → (∀ (j : Nat) (q : Exp), j < i → ks[j]? = some q → (kR s l q).2 = 0) → (kRs s l ks).2 = (kR s l k).2
  | [], i, k, h, _, _ => by simp at h
  | y :: ys, 0, k, h, hk, _ => by
    simp at h; subst h
    unfold kRs; rw [hk]; rfl
  | y :: ys, i + 1, k, h, hk, hp => by
    have h0 := hp 0 y (by omega) rfl
    have := kRs_err (ks := ys) (i := i) (k := k) (by simpa using h) hk fun j q hj hq => hp (j + 1) q (by omega) (by simpa using hq)
    unfold kRs
    rw [h0]
    have hz : ((kRs s l ys).2 != 0) = true := by rw [this]; exact hk
    simp only [hz]
    show (bif false then _ else (bif true then _ else _) : List Int × Int).2 = _
    simpa using this
/-- The kind that stands at place j when i parts have been looked at. -/
def kAt (s : List Ty) (l : List El) (ks : List Exp) (i j : Nat) : Int := if j < i then (ks[j]?.map fun k => (kR s l k).1).getD 0 else 0
theorem kAt_all {s : List Ty} {l : List El} {ks : List Exp} {i : Nat} (hi : ks.length ≤ i) (j : Nat) : kAt s l ks i j = (ks.map fun k => (kR s l k).1).getD j 0 := by
  unfold kAt
  rw [List.getD_eq_getElem?_getD, List.getElem?_map]
  by_cases h : j < i
  · rw [if_pos h]
  · rw [if_neg h, List.getElem?_eq_none (by omega)]; rfl
theorem kAt_next {s : List Ty} {l : List El} {ks : List Exp} {i : Nat} {k : Exp} (hk : ks[i]? = some k) (h2 : i < 2) : overwrite [AV.d (int (kAt s l ks i 0)), AV.d (int (kAt s l ks i 1))] i [AV.d (int (kR s l k).1)] = [AV.d (int (kAt s l ks (i + 1) 0)), AV.d (int (kAt s l ks (i + 1) 1))] := by
  rcases (by omega : i = 0 ∨ i = 1) with rfl | rfl
  · have e : kAt s l ks (0 + 1) 0 = (kR s l k).1 := by simp [kAt, hk]
    have e2 : kAt s l ks (0 + 1) 1 = kAt s l ks 0 1 := by simp [kAt]
    rw [e, e2]; rfl
  · have e : kAt s l ks (1 + 1) 1 = (kR s l k).1 := by simp [kAt, hk]
    have e2 : kAt s l ks (1 + 1) 0 = kAt s l ks 1 0 := by simp [kAt]
    rw [e, e2]; rfl
theorem kR_lit {s : List Ty} {l : List El} {op : Int} {v : Vl} {al fi : ByteArray} {ks : List Exp} (h : (op == 1) = true) : kR s l (.mk op v al fi ks) = (v.k, 0) := by unfold kR; rw [h]; rfl
theorem kR_fld0 {s : List Ty} {l : List El} {op : Int} {v : Vl} {al fi : ByteArray} {ks : List Exp} (h1 : (op == 1) = false) (h : (op == 2) = true) (hi : decide (idx (fun e : El => same e.al al) l < 0) = true) : kR s l (.mk op v al fi ks) = (0, 13) := by
  unfold kR; rw [h1, h]
  have : l.findIdx? (fun e : El => same e.al al) = none := by
    unfold idx at hi
    cases h : l.findIdx? (fun e : El => same e.al al) with
    | none => rfl
    | some i => rw [h] at hi; simp at hi; omega
  simp [this]
theorem kR_fld {s : List Ty} {l : List El} {op : Int} {v : Vl} {al fi : ByteArray} {ks : List Exp} (h1 : (op == 1) = false) (h : (op == 2) = true) (hi : decide (idx (fun e : El => same e.al al) l < 0) = false) : ∃ (i : Nat) (e : El), idx (fun e : El => same e.al al) l = (i : Int) ∧ l[i]? = some e ∧ kR s l (.mk op v al fi ks) = fkR s e.tys fi := by
  cases hq : l.findIdx? (fun e : El => same e.al al) with
  | none => unfold idx at hi; rw [hq] at hi; simp at hi
  | some i =>
    have hlt : i < l.length := by rw [List.findIdx?_eq_some_iff_getElem] at hq; exact hq.1
    refine ⟨i, l[i], by unfold idx; rw [hq], List.getElem?_eq_getElem hlt, ?_⟩
    unfold kR; rw [h1, h]
    simp [hq, List.getElem?_eq_getElem hlt]
theorem kR_err {s : List Ty} {l : List El} {op : Int} {v : Vl} {al fi : ByteArray} {ks : List Exp} (h1 : (op == 1) = false) (h2 : (op == 2) = false) {c : Int} (hc : (kRs s l ks).2 = c) (hn : (c != 0) = true) : kR s l (.mk op v al fi ks) = (0, c) := by
  unfold kR; rw [h1, h2, hc, hn]; rfl
theorem kR_fin {s : List Ty} {l : List El} {op : Int} {v : Vl} {al fi : ByteArray} {ks : List Exp} (h1 : (op == 1) = false) (h2 : (op == 2) = false) (hk : ∀ k ∈ ks, (kR s l k).2 = 0) {i : Nat} (hi : ks.length ≤ i) : kR s l (.mk op v al fi ks) = finKR op (kAt s l ks i 0) (kAt s l ks i 1) := by
  unfold kR; rw [h1, h2, kRs_all hk, kAt_all hi, kAt_all hi]; rfl
theorem kidsN_le2 (op : Int) : kidsN op ≤ 2 := by
  unfold kidsN
  cases op == 12 <;> cases (decide (op ≥ 3) && decide (op ≤ 11)) <;> decide
/-! ### Values -/
end Go.AL
