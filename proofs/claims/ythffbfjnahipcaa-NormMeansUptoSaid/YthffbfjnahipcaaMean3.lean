/- Parts of an abstract logic over the kit's walks, and walks in it: Mean3. -/
import Derived.Test.YthffbfjnahipcaaMean2
/- Put right a condition means the same: the law. Nothing of a program. -/
namespace Go.AL
set_option linter.unusedVariables false
set_option linter.unusedSimpArgs false

theorem kRs_one {s : List Ty} {es : List El} {p : Exp} (h : (kRs s es [p]).2 = 0) : (kR s es p).2 = 0 ∧ (kRs s es [p]).1 = [(kR s es p).1] := by
  simp only [kRs] at h ⊢
  by_cases h1 : (kR s es p).2 = 0
  · have : ((kR s es p).2 != 0) = false := by simpa using h1
    rw [this]
    exact ⟨h1, rfl⟩
  · have : ((kR s es p).2 != 0) = true := by simpa using h1
    rw [this] at h
    exact absurd h h1
theorem kRs_two {s : List Ty} {es : List El} {p q : Exp} (h : (kRs s es [p, q]).2 = 0) : (kR s es p).2 = 0 ∧ (kR s es q).2 = 0 ∧ (kRs s es [p, q]).1 = [(kR s es p).1, (kR s es q).1] := by
  rw [kRs] at h ⊢
  by_cases h1 : (kR s es p).2 = 0
  · have e1 : ((kR s es p).2 != 0) = false := by simpa using h1
    rw [e1] at h ⊢
    simp only [cond_false] at h ⊢
    by_cases h2 : (kRs s es [q]).2 = 0
    · obtain ⟨g1, g2⟩ := kRs_one h2
      have e2 : ((kRs s es [q]).2 != 0) = false := by simpa using h2
      rw [e2]
      simp only [cond_false, g2]
      exact ⟨h1, g1, trivial⟩
    · have e2 : ((kRs s es [q]).2 != 0) = true := by simpa using h2
      rw [e2] at h
      exact absurd h h2
  · have e1 : ((kR s es p).2 != 0) = true := by simpa using h1
    rw [e1] at h
    exact absurd h h1
theorem prod_eq {α β : Type} {a : α × β} {x : α} {y : β} (h1 : a.1 = x) (h2 : a.2 = y) : a = (x, y) := by cases a; simp_all

/-- What the kind of a sign says of its parts. -/
theorem kind_parts {s : List Ty} {es : List El} {op : Int} {v : Vl} {al fi : ByteArray} {ks : List Exp} {k : Int} (hl : (ks.length : Int) = kidsN op) (h3 : 3 ≤ op) (h12 : op ≤ 12) (h : kR s es (.mk op v al fi ks) = (k, 0)) :
    (op = 12 ∧ ∃ p, ks = [p] ∧ kR s es p = (3, 0) ∧ k = 3) ∨ (op ≠ 12 ∧ ∃ p q k0, ks = [p, q] ∧ kR s es p = (k0, 0) ∧ kR s es q = (k0, 0) ∧ finKR op k0 k0 = (k, 0)) := by
  have e : kR s es (.mk op v al fi ks) = (bif (kRs s es ks).2 != 0 then (0, (kRs s es ks).2) else finKR op ((kRs s es ks).1.getD 0 0) ((kRs s es ks).1.getD 1 0)) := by
    rw [kR, show (op == 1) = false by simp; omega, show (op == 2) = false by simp; omega]; rfl
  rw [e] at h
  by_cases h0 : (kRs s es ks).2 = 0
  · rw [show ((kRs s es ks).2 != 0) = false by simpa using h0] at h
    simp only [cond_false] at h
    by_cases ho : op = 12
    · left
      subst ho
      obtain ⟨p, rfl⟩ := len1 (by rw [kids12] at hl; exact hl)
      obtain ⟨g1, g2⟩ := kRs_one h0
      rw [g2] at h
      simp only [List.getD_cons_zero, List.getD_cons_succ, List.getD_nil] at h
      unfold finKR at h
      by_cases hk : (kR s es p).1 = 3
      · rw [show ((12 : Int) == 12 && (kR s es p).1 == 3) = true by simp [hk]] at h
        simp only [cond_true, Prod.mk.injEq] at h
        exact ⟨rfl, p, rfl, prod_eq hk g1, h.1.symm⟩
      · rw [show ((12 : Int) == 12 && (kR s es p).1 == 3) = false by simp [hk]] at h
        simp at h
    · right
      have hl2 : (ks.length : Int) = 2 := by
        rw [hl]
        unfold kidsN
        rw [show (op == 12) = false by simpa using ho, show (decide (op ≥ 3) && decide (op ≤ 11)) = true by simp; omega]
        rfl
      obtain ⟨p, q, rfl⟩ := len2 hl2
      obtain ⟨g1, g2, g3⟩ := kRs_two h0
      rw [g3] at h
      simp only [List.getD_cons_zero, List.getD_cons_succ] at h
      have hkk : (kR s es p).1 = (kR s es q).1 := by
        by_cases hne : (kR s es p).1 = (kR s es q).1
        · exact hne
        · unfold finKR at h
          rw [show (op == 12 && (kR s es p).1 == 3) = false by simp [ho], show (op == 12 || (kR s es p).1 != (kR s es q).1) = true by simp [hne]] at h
          simp at h
      exact ⟨ho, p, q, (kR s es p).1, rfl, prod_eq rfl g1, prod_eq hkk.symm g2, by rw [← hkk] at h; exact h⟩
  · rw [show ((kRs s es ks).2 != 0) = true by simpa using h0] at h
    simp only [cond_true, Prod.mk.injEq] at h
    exact absurd h.2 h0
theorem kind_mk1 {s : List Ty} {es : List El} {v : Vl} {al fi : ByteArray} {p : Exp} (h : kR s es p = (3, 0)) : kR s es (.mk 12 v al fi [p]) = (3, 0) := by
  rw [kR]
  have e : kRs s es [p] = ([3], 0) := by simp [kRs, h]
  rw [e]
  rfl
theorem kind_mk2 {s : List Ty} {es : List El} {op : Int} {v : Vl} {al fi : ByteArray} {p q : Exp} {k0 : Int} (h3 : 3 ≤ op) (hp : kR s es p = (k0, 0)) (hq : kR s es q = (k0, 0)) : kR s es (.mk op v al fi [p, q]) = finKR op k0 k0 := by
  rw [kR, show (op == 1) = false by simp; omega, show (op == 2) = false by simp; omega]
  have e : kRs s es [p, q] = ([k0, k0], 0) := by simp [kRs, hp, hq]
  rw [e]
  rfl

theorem fin_one {r : Vl × Int} (h : (finR 12 [r]).2 = 0) : r.2 = 0 ∧ r.1.k = 3 ∧ finR 12 [r] = (truthV (r.1.n == 0), 0) := by
  unfold finR at h ⊢
  dsimp only at h ⊢
  by_cases h0 : r.2 = 0
  · rw [show (r.2 != 0) = false by simpa using h0] at h ⊢
    by_cases hk : r.1.k = 3
    · rw [show (r.1.k != 3) = false by simpa using hk]
      exact ⟨h0, hk, rfl⟩
    · rw [show (r.1.k != 3) = true by simpa using hk] at h
      simp at h
  · rw [show (r.2 != 0) = true by simpa using h0] at h
    exact absurd h h0
theorem fin_one_ok {r : Vl × Int} (h : r.2 = 0) (hk : r.1.k = 3) : finR 12 [r] = (truthV (r.1.n == 0), 0) := by
  unfold finR
  dsimp only
  rw [show (r.2 != 0) = false by simpa using h, show (r.1.k != 3) = false by simpa using hk]
  rfl
theorem fin_one_no {r : Vl × Int} (h : r.2 ≠ 0) : finR 12 [r] = (nulV, r.2) := by
  unfold finR
  dsimp only
  rw [show (r.2 != 0) = true by simpa using h]
  rfl
theorem fin_two_ok {op : Int} (h1 : op ≠ 10) (h2 : op ≠ 11) (h3 : op ≠ 12) {a b : Vl × Int} (ha : a.2 = 0) (hb : b.2 = 0) : finR op [a, b] = refTwo op a.1 b.1 := by
  unfold finR
  dsimp only
  rw [show (a.2 != 0) = false by simpa using ha, show (b.2 != 0) = false by simpa using hb, show (op == 10 || op == 11) = false by simp [h1, h2], show (op == 12) = false by simpa using h3]
  rfl
theorem fin_two_no {op : Int} (h1 : op ≠ 10) (h2 : op ≠ 11) (h3 : op ≠ 12) {a b : Vl × Int} (h : a.2 ≠ 0 ∨ b.2 ≠ 0) : ∃ c, c ≠ 0 ∧ finR op [a, b] = (nulV, c) := by
  unfold finR
  dsimp only
  by_cases ha : a.2 = 0
  · have hb : b.2 ≠ 0 := by
      rcases h with h | h
      · exact absurd ha h
      · exact h
    rw [show (a.2 != 0) = false by simpa using ha, show (b.2 != 0) = true by simpa using hb, show (op == 10 || op == 11) = false by simp [h1, h2], show (op == 12) = false by simpa using h3]
    exact ⟨b.2, hb, rfl⟩
  · rw [show (a.2 != 0) = true by simpa using ha]
    exact ⟨a.2, ha, rfl⟩
theorem alike_no {c c' : Int} (h : c ≠ 0) (h' : c' ≠ 0) : Alike (nulV, c) (nulV, c') := by
  refine ⟨?_, rfl⟩
  show (c == 0) = (c' == 0)
  rw [show (c == 0) = false by simpa using h, show (c' == 0) = false by simpa using h']
theorem truth_k (b : Bool) : (truthV b).k = 3 := rfl
theorem truth_n (b : Bool) : ((truthV b).n == 0) = !b := by cases b <;> rfl
/-- Not of a truth. -/
theorem fin_not (b : Bool) : finR 12 [(truthV b, 0)] = (truthV (!b), 0) := by
  rw [fin_one_ok rfl (truth_k b)]
  simp only [truth_n]

/-- A condition of a kind tells values of that kind. -/
theorem typed (s : List Ty) (l : List Bi) (es : List El) (hS : Suits s l es) : ∀ (n : Nat) (x : Exp), SizeOf.sizeOf x < n → ∀ (d : Nat) (k : Int), shapedX x d = true → kR s es x = (k, 0) → (evR s l x).2 = 0 → (evR s l x).1.k = k ∧ isVal (evR s l x).1 = true
  | 0, x, h => by omega
  | n + 1, .mk op v al fi ks, h => fun d k hs hk h0 => by
    obtain ⟨h1, h2, h3, h4, h5, h6⟩ := shaped_inv hs
    by_cases e1 : op = 1
    · subst e1
      have ek : kR s es (.mk 1 v al fi ks) = (v.k, 0) := by rw [kR]; rfl
      have ee : evR s l (.mk 1 v al fi ks) = (v, 0) := by rw [evR]; rfl
      rw [ek] at hk
      rw [ee]
      refine ⟨(Prod.mk.inj hk).1, ?_⟩
      unfold shapedX at hs
      have hc : (decide ((1 : Int) < 1) || (decide ((1 : Int) > 12) || (((ks.length : Int) != kidsN 1) || decide ((d : Int) > 5)))) = false := by simp [h3]; omega
      rw [hc] at hs
      have hs : (isVal v && noNames al fi) = true := hs
      simp only [Bool.and_eq_true] at hs
      exact hs.1
    · by_cases e2 : op = 2
      · subst e2
        have ee : evR s l (.mk 2 v al fi ks) = fieldV s l al fi := by rw [evR]; rfl
        rw [ee] at h0 ⊢
        rw [kR] at hk
        have hk : (match es.findIdx? (fun e => same e.al al) with
          | none => ((0 : Int), (13 : Int))
          | some i => match es[i]? with
            | some e => fkR s e.tys fi
            | none => (0, 13)) = (k, 0) := hk
        cases hf : es.findIdx? (fun e => same e.al al) with
        | none => rw [hf] at hk; simp at hk
        | some i =>
          rw [hf] at hk
          simp only at hk
          cases he : es[i]? with
          | none => rw [he] at hk; simp at hk
          | some e =>
            rw [he] at hk
            exact field_val hS hf he hk h0
      · have e3 : 3 ≤ op := by omega
        have ee : evR s l (.mk op v al fi ks) = finR op (evRs s l ks) := by
          rw [evR, show (op == 1) = false by simpa using e1, show (op == 2) = false by simpa using e2]; rfl
        rw [ee] at h0 ⊢
        rcases kind_parts h3 e3 h2 hk with ⟨rfl, p, rfl, hp, rfl⟩ | ⟨ho, p, q, k0, rfl, hp, hq, hfk⟩
        · simp only [evRs] at h0 ⊢
          obtain ⟨g1, g2, g3⟩ := fin_one h0
          rw [g3]
          exact ⟨truth_k _, truth_val _⟩
        · have ihp := typed s l es hS n p (by simp at h; omega) (d + 1) k0 (h5 p (by simp)) hp
          have ihq := typed s l es hS n q (by simp at h; omega) (d + 1) k0 (h5 q (by simp)) hq
          simp only [evRs] at h0 ⊢
          unfold finKR at hfk
          rw [show (op == 12 && k0 == 3) = false by simp [ho], show (op == 12 || k0 != k0) = false by simp [ho]] at hfk
          simp only [cond_false] at hfk
          generalize evR s l p = a at *
          generalize evR s l q = b at *
          by_cases ha : a.2 = 0
          · obtain ⟨pa1, pa2⟩ := ihp ha
            by_cases h10 : op = 10 ∨ op = 11
            · have hk3 : k0 = 3 ∧ k = 3 := by
                rw [show (decide (op ≤ 5) && k0 == 1) = false by simp; omega, show (op == 6 || op == 7) = false by simp; omega, show ((op == 8 || op == 9) && k0 != 3) = false by simp; omega] at hfk
                by_cases hk3 : k0 = 3
                · rw [show ((op == 10 || op == 11) && k0 == 3) = true by simp [h10, hk3]] at hfk
                  exact ⟨hk3, (Prod.mk.inj hfk).1.symm⟩
                · rw [show ((op == 10 || op == 11) && k0 == 3) = false by simp [hk3]] at hfk
                  simp at hfk
              obtain ⟨rfl, rfl⟩ := hk3
              unfold finR at h0 ⊢
              dsimp only at h0 ⊢
              rw [show (a.2 != 0) = false by simpa using ha, show (op == 10 || op == 11) = true by simp [h10], show (a.1.k != 3) = false by simpa using pa1] at h0 ⊢
              simp only [cond_true, cond_false] at h0 ⊢
              cases hc : ((a.1.n == 1) == (op == 11)) with
              | true => simp only [cond_true]; exact ⟨pa1, pa2⟩
              | false =>
                rw [hc] at h0
                simp only [cond_false] at h0 ⊢
                by_cases hb : b.2 = 0
                · obtain ⟨pb1, pb2⟩ := ihq hb
                  rw [show (b.2 == 0 && b.1.k != 3) = false by simp [pb1], show (b.2 != 0) = false by simpa using hb]
                  exact ⟨pb1, pb2⟩
                · rw [show (b.2 == 0 && b.1.k != 3) = false by simp [hb], show (b.2 != 0) = true by simpa using hb] at h0
                  exact absurd h0 hb
            · have n10 : op ≠ 10 := fun e => h10 (.inl e)
              have n11 : op ≠ 11 := fun e => h10 (.inr e)
              by_cases hb : b.2 = 0
              · obtain ⟨pb1, pb2⟩ := ihq hb
                rw [fin_two_ok n10 n11 ho ha hb] at h0 ⊢
                unfold refTwo at h0 ⊢
                rw [show (a.1.k != b.1.k) = false by simp [pa1, pb1], pa1] at h0 ⊢
                simp only [cond_false] at h0 ⊢
                by_cases c1 : op ≤ 5 ∧ k0 = 1
                · rw [show (decide (op ≤ 5) && k0 == 1) = true by simp [c1.1, c1.2]] at h0 hfk ⊢
                  simp only [cond_true] at h0 hfk ⊢
                  cases hr : (!(refOver op a.1.n b.1.n).2) with
                  | true => rw [hr] at h0; simp at h0
                  | false =>
                    simp only [cond_false]
                    exact ⟨(Prod.mk.inj hfk).1, same_refl nul⟩
                · rw [show (decide (op ≤ 5) && k0 == 1) = false by simp; omega] at h0 hfk ⊢
                  simp only [cond_false] at h0 hfk ⊢
                  by_cases c6 : op = 6
                  · subst c6
                    exact ⟨(Prod.mk.inj hfk).1, truth_val _⟩
                  · by_cases c7 : op = 7
                    · subst c7
                      exact ⟨(Prod.mk.inj hfk).1, truth_val _⟩
                    · rw [show (op == 6) = false by simpa using c6, show (op == 7) = false by simpa using c7] at h0 hfk ⊢
                      simp only [Bool.or_self, cond_false] at h0 hfk ⊢
                      by_cases c8 : op = 8
                      · subst c8
                        cases hk3 : (k0 != 3) with
                        | true =>
                          rw [hk3] at hfk
                          exact ⟨(Prod.mk.inj hfk).1, truth_val _⟩
                        | false => rw [hk3] at h0; exact absurd (show (14 : Int) = 0 from h0) (by decide)
                      · by_cases c9 : op = 9
                        · subst c9
                          cases hk3 : (k0 != 3) with
                          | true =>
                            rw [hk3] at hfk
                            exact ⟨(Prod.mk.inj hfk).1, truth_val _⟩
                          | false => rw [hk3] at h0; exact absurd (show (14 : Int) = 0 from h0) (by decide)
                        · rw [show (op == 8) = false by simpa using c8, show (op == 9) = false by simpa using c9] at h0
                          simp at h0
              · obtain ⟨c, hc, e⟩ := fin_two_no n10 n11 ho (a := a) (b := b) (.inr hb)
                rw [e] at h0
                exact absurd h0 hc
          · exfalso
            unfold finR at h0
            dsimp only at h0
            rw [show (a.2 != 0) = true by simpa using ha] at h0
            exact ha h0
end Go.AL
