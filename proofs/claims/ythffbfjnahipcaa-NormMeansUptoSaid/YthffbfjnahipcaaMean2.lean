/- Parts of an abstract logic over the kit's walks, and walks in it: Mean2. -/
import Derived.Test.YthffbfjnahipcaaMean
import Derived.Test.YthffbfjnahipcaaELa
/- Put right a condition means the same: plain laws. Nothing of a program. -/
namespace Go.AL
set_option linter.unusedVariables false
set_option linter.unusedSimpArgs false

/-! ### errors tell nothing else -/
theorem refTwo_or (op : Int) (a b : Vl) : refTwo op a b = (nulV, 14) ∨ refTwo op a b = (nulV, 16) ∨ (refTwo op a b).2 = 0 := by
  unfold refTwo
  simp only [cond_eq_ite]
  repeat' split
  all_goals simp
theorem refTwo_err {op : Int} {a b : Vl} (h : (refTwo op a b).2 ≠ 0) : (refTwo op a b).1 = nulV := by
  rcases refTwo_or op a b with e | e | e
  · rw [e]
  · rw [e]
  · exact absurd e h
/-- As far as the law looks: an error or none, and the value. -/
def Alike (r r' : Vl × Int) : Prop := (r.2 == 0) = (r'.2 == 0) ∧ r.1 = r'.1
theorem Alike.refl (r : Vl × Int) : Alike r r := ⟨rfl, rfl⟩
theorem Alike.ne {r r' : Vl × Int} (h : Alike r r') : (r.2 != 0) = (r'.2 != 0) := by
  have := h.1
  show (!(r.2 == 0)) = !(r'.2 == 0)
  rw [this]
theorem fin_alike1 {op : Int} (h1 : (op == 10 || op == 11) = false) (h2 : (op == 12) = true) {r r' : Vl × Int} (h : Alike r r') : Alike (finR op [r]) (finR op [r']) := by
  unfold finR
  dsimp only
  rw [h1, h2, h.ne, h.2]
  cases hb : (r'.2 != 0) with
  | true =>
    have e1 : (r.2 != 0) = true := h.ne.trans hb
    simp only [cond_true]
    refine ⟨?_, rfl⟩
    have a1 : (r.2 == 0) = false := by simpa using e1
    have a2 : (r'.2 == 0) = false := by simpa using hb
    rw [a1, a2]
  | false => simp only [cond_false]; exact Alike.refl _
theorem fin_alike2 {op : Int} (h2 : (op == 12) = false) {a a' b b' : Vl × Int} (ha : Alike a a') (hb : Alike b b') : Alike (finR op [a, b]) (finR op [a', b']) := by
  unfold finR
  dsimp only
  rw [h2, ha.ne, ha.2]
  have err : ∀ {x y : Int}, (x != 0) = true → (y != 0) = true → Alike (nulV, x) (nulV, y) := fun {x y} h1 h2 => by
    refine ⟨?_, rfl⟩
    have a1 : (x == 0) = false := by simpa using h1
    have a2 : (y == 0) = false := by simpa using h2
    show (x == 0) = (y == 0)
    rw [a1, a2]
  cases h0 : (a'.2 != 0) with
  | true => simp only [cond_true]; exact err (ha.ne.trans h0) h0
  | false =>
    simp only [cond_false]
    cases (op == 10 || op == 11) with
    | true =>
      simp only [cond_true]
      cases (a'.1.k != 3) with
      | true => exact Alike.refl _
      | false =>
        simp only [cond_false]
        cases ((a'.1.n == 1) == (op == 11)) with
        | true => exact Alike.refl _
        | false =>
          simp only [cond_false]
          rw [hb.1, hb.2, hb.ne]
          cases (b'.2 == 0 && b'.1.k != 3) with
          | true => exact Alike.refl _
          | false =>
            simp only [cond_false]
            cases h3 : (b'.2 != 0) with
            | true => simp only [cond_true]; exact err (hb.ne.trans h3) h3
            | false => exact Alike.refl _
    | false =>
      simp only [cond_false]
      rw [hb.ne, hb.2]
      cases h3 : (b'.2 != 0) with
      | true => simp only [cond_true]; exact err (hb.ne.trans h3) h3
      | false => exact Alike.refl _

/-! ### values of their kinds -/
theorem val_1 {v : Vl} (h : isVal v = true) (hk : v.k = 1) : v.s = nul := by
  unfold isVal at h
  rw [hk] at h
  exact same_eq h
theorem val_2 {v : Vl} (h : isVal v = true) (hk : v.k = 2) : v.n = 0 := by
  unfold isVal at h
  rw [hk] at h
  have h : (v.n == 0 && isText v.s) = true := h
  simp only [Bool.and_eq_true, beq_iff_eq] at h
  exact h.1
theorem val_3 {v : Vl} (h : isVal v = true) (hk : v.k = 3) : (v.n = 0 ∨ v.n = 1) ∧ v.s = nul := by
  unfold isVal at h
  rw [hk] at h
  have h : ((v.n == 0 || v.n == 1) && same v.s nul) = true := h
  simp only [Bool.and_eq_true, Bool.or_eq_true, beq_iff_eq] at h
  exact ⟨h.1, same_eq h.2⟩
theorem val_k {v : Vl} (h : isVal v = true) : v.k = 1 ∨ v.k = 2 ∨ v.k = 3 := by
  by_cases h1 : v.k = 1
  · exact .inl h1
  · by_cases h2 : v.k = 2
    · exact .inr (.inl h2)
    · by_cases h3 : v.k = 3
      · exact .inr (.inr h3)
      · unfold isVal at h
        rw [show (v.k == 1) = false by simpa using h1, show (v.k == 2) = false by simpa using h2, show (v.k == 3) = false by simpa using h3] at h
        cases h
theorem truth_val (b : Bool) : isVal (truthV b) = true := by cases b <;> decide +kernel
theorem kindsAs_at : ∀ {vs : List Vl} {fs : List Fld} {i : Nat} {v : Vl} {f : Fld}, kindsAs vs fs = true → vs[i]? = some v → fs[i]? = some f → v.k = f.kind
  | [], _, i, v, f, _, h, _ => by simp at h
  | _ :: _, [], i, v, f, h, _, _ => by simp [kindsAs] at h
  | a :: vs, b :: fs, i, v, f, h, h1, h2 => by
    simp only [kindsAs, Bool.and_eq_true, beq_iff_eq] at h
    cases i with
    | zero => simp at h1 h2; rw [← h1, ← h2]; exact h.1
    | succ i => exact kindsAs_at h.2 (by simpa using h1) (by simpa using h2)
theorem oneK_all : ∀ {xs : List Int} {k0 k : Int}, oneK xs k0 false = (k, 0) → k = k0 ∧ ∀ x ∈ xs, x = k0
  | [], k0, k, h => by
    simp only [oneK, Prod.mk.injEq] at h
    exact ⟨h.1.symm, by simp⟩
  | x :: xs, k0, k, h => by
    simp only [oneK, Bool.not_false, Bool.true_and] at h
    by_cases hx : x = k0
    · subst hx
      rw [show (x != x) = false by simp] at h
      obtain ⟨h1, h2⟩ := oneK_all h
      exact ⟨h1, fun y hy => by
        rcases List.mem_cons.1 hy with e | hy
        · exact e
        · exact h2 y hy⟩
    · rw [show (x != k0) = true by simpa using hx] at h
      simp at h
theorem oneK_first {xs : List Int} {k : Int} (h : oneK xs 0 true = (k, 0)) : ∀ x ∈ xs, x = k := by
  cases xs with
  | nil => simp
  | cons x xs =>
    simp only [oneK, Bool.not_true, Bool.false_and, cond_false] at h
    obtain ⟨h1, h2⟩ := oneK_all h
    intro y hy
    rcases List.mem_cons.1 hy with e | hy
    · rw [e, h1]
    · rw [h2 y hy, h1]
theorem evt_facts {s : List Ty} {e : Ev} (h : evtR s e = 0) : (findT s e.ty).2 = true ∧ e.vals.length = (findT s e.ty).1.fields.length ∧ (∀ v ∈ e.vals, isVal v = true) ∧ kindsAs e.vals (findT s e.ty).1.fields = true := by
  unfold evtR at h
  cases h1 : (findT s e.ty).2 with
  | false => rw [h1] at h; simp at h
  | true =>
    rw [h1] at h
    simp only [Bool.not_true, cond_false] at h
    cases h2 : (decide (e.ts < 0) || (decide (e.ts > 1073741824) || ((e.vals.length : Int) != ((findT s e.ty).1.fields.length : Int)))) with
    | true => rw [h2] at h; simp at h
    | false =>
      rw [h2] at h
      simp only [cond_false] at h
      cases h3 : e.vals.all isVal with
      | false => rw [h3] at h; simp at h
      | true =>
        rw [h3] at h
        simp only [Bool.not_true, cond_false] at h
        cases h4 : kindsAs e.vals (findT s e.ty).1.fields with
        | false => rw [h4] at h; simp at h
        | true =>
          simp only [Bool.or_eq_false_iff, bne_eq_false_iff_eq] at h2
          exact ⟨rfl, by have := h2.2.2; omega, fun v hv => List.all_eq_true.1 h3 v hv, rfl⟩
/-- Whatever is bound suits. -/
def Suits (s : List Ty) (l : List Bi) (es : List El) : Prop :=
  ∀ b ∈ l, evtR s b.ev = 0 ∧ ∃ i e, es.findIdx? (fun x => same x.al b.al) = some i ∧ es[i]? = some e ∧ b.ev.ty ∈ e.tys
theorem field_val {s : List Ty} {l : List Bi} {es : List El} (hS : Suits s l es) {al fi : ByteArray} {i : Nat} {e : El} {k : Int} (hi : es.findIdx? (fun x => same x.al al) = some i) (he : es[i]? = some e)
    (hk : fkR s e.tys fi = (k, 0)) (h0 : (fieldV s l al fi).2 = 0) : (fieldV s l al fi).1.k = k ∧ isVal (fieldV s l al fi).1 = true := by
  cases hb : lastB l al with
  | none => rw [fieldV_none hb] at h0; simp at h0
  | some b =>
    have hmem : b ∈ l := by
      unfold lastB at hb
      have := List.mem_of_find?_eq_some hb
      simpa using this
    have hal : b.al = al := by
      unfold lastB at hb
      have := List.find?_some hb
      exact same_eq (by simpa using this)
    obtain ⟨h1, i', e', h2, h3, h4⟩ := hS b hmem
    rw [hal, hi] at h2
    cases h2
    rw [he] at h3
    cases h3
    obtain ⟨g1, g2, g3, g4⟩ := evt_facts h1
    unfold fkR at hk
    cases hbad : e.tys.any (badF s fi) with
    | true => rw [hbad] at hk; simp at hk
    | false =>
      rw [hbad] at hk
      simp only [cond_false] at hk
      rw [List.any_eq_false] at hbad
      have hnb := hbad b.ev.ty h4
      have hkf := oneK_first hk (kindF s fi b.ev.ty) (List.mem_map.2 ⟨_, h4, rfl⟩)
      have hge : ¬ fieldAt (findT s b.ev.ty).1 fi < 0 := by
        intro hlt
        apply hnb
        unfold badF
        simp [hlt]
      obtain ⟨j, hj⟩ := Int.eq_ofNat_of_zero_le (show 0 ≤ fieldAt (findT s b.ev.ty).1 fi by omega)
      rcases idx_cases (fun f : Fld => same f.name fi) (findT s b.ev.ty).1.fields with ⟨j', f, q1, q2, _, _⟩ | ⟨q1, _⟩
      · have hjj : j' = j := by
          have : fieldAt (findT s b.ev.ty).1 fi = (j' : Int) := q1
          omega
        subst hjj
        obtain ⟨v, hv⟩ : ∃ v, b.ev.vals[j']? = some v := ⟨_, List.getElem?_eq_getElem (by have := (List.getElem?_eq_some_iff.1 q2).1; omega)⟩
        have hg := getV_ok g1 hj hv
        rw [fieldV_ok hb (by rw [hg])]
        simp only [hg]
        refine ⟨?_, g3 v (List.mem_of_getElem? hv)⟩
        rw [kindsAs_at g4 hv q2, ← hkf]
        unfold kindF
        rw [hj]
        simp [q2]
      · have : fieldAt (findT s b.ev.ty).1 fi = -1 := q1
        omega
theorem fieldV_err {s : List Ty} {l : List Bi} {al fi : ByteArray} (h : (fieldV s l al fi).2 ≠ 0) : (fieldV s l al fi).1 = nulV := by
  unfold fieldV at h ⊢
  cases hb : lastB l al with
  | none => rfl
  | some b =>
    rw [hb] at h
    simp only at h ⊢
    cases hg : (getV s b.ev fi).2 with
    | true => rw [hg] at h; simp at h
    | false => rfl

theorem finR_err {op : Int} {rs : List (Vl × Int)} (h : (finR op rs).2 ≠ 0) : (finR op rs).1 = nulV := by
  unfold finR at h ⊢
  match rs with
  | [] => rfl
  | [r0] =>
    simp only [cond_eq_ite] at h ⊢
    split
    · rfl
    · rename_i g0
      simp only [g0] at h
      split
      · rename_i g1
        simp only [g1] at h
        split
        · rfl
        · rename_i g2
          simp only [g2] at h
          split
          · rename_i g3
            simp [g3] at h
          · rfl
      · rename_i g1
        simp only [g1] at h
        split
        · rename_i g2
          simp only [g2] at h
          split
          · rfl
          · rename_i g3
            simp [g3] at h
        · rfl
  | r0 :: r1 :: l =>
    simp only [cond_eq_ite] at h ⊢
    split
    · rfl
    · rename_i g0
      simp only [g0] at h
      split
      · rename_i g1
        simp only [g1] at h
        split
        · rfl
        · rename_i g2
          simp only [g2] at h
          split
          · rename_i g3
            simp [g3] at h
          · rename_i g3
            simp only [g3] at h
            split
            · rfl
            · rename_i g4
              simp only [g4] at h
              split
              · rfl
              · rename_i g5
                simp [g5] at h
      · rename_i g1
        simp only [g1] at h
        split
        · rename_i g2
          simp only [g2] at h
          split
          · rfl
          · rename_i g3
            simp [g3] at h
        · rename_i g2
          simp only [g2] at h
          split
          · rfl
          · rename_i g3
            refine refTwo_err ?_
            simpa [g3] using h
theorem evR_err {s : List Ty} {l : List Bi} {x : Exp} (h : (evR s l x).2 ≠ 0) : (evR s l x).1 = nulV := by
  obtain ⟨op, v, al, fi, ks⟩ := x
  unfold evR at h ⊢
  cases e1 : (op == 1) with
  | true => rw [e1] at h; exact absurd rfl h
  | false =>
    rw [e1] at h
    simp only [cond_false] at h ⊢
    cases e2 : (op == 2) with
    | true => rw [e2] at h; exact fieldV_err h
    | false => rw [e2] at h; exact finR_err h
end Go.AL
