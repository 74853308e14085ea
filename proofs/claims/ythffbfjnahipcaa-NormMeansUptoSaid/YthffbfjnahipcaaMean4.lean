/- Parts of an abstract logic over the kit's walks, and walks in it: Mean4. -/
import Derived.Test.YthffbfjnahipcaaMean3
/- Put right a condition means the same: the law's heart. Nothing of a program. -/
namespace Go.AL
set_option linter.unusedVariables false
set_option linter.unusedSimpArgs false

theorem less_nul : less nul nul = false := less_self nul
/-- Not less is at most, the other way round. -/
theorem swap_lt {a b : Vl} (hk : a.k = b.k) (h3 : a.k ≠ 3) (ha : isVal a = true) (hb : isVal b = true) : (!(decide (a.n < b.n) || less a.s b.s)) = (decide (b.n < a.n) || (less b.s a.s || sameV b a)) := by
  rcases val_k ha with h | h | h
  · have e1 := val_1 ha h
    have e2 := val_1 hb (hk ▸ h)
    have es : sameV b a = (b.n == a.n) := by
      unfold sameV
      rw [show (b.k == a.k) = true by simp [hk], e1, e2, same_refl]; simp
    rw [es, e1, e2, less_nul, Bool.or_false, Bool.false_or]
    rcases Int.lt_trichotomy a.n b.n with c | c | c
    · have : ¬ b.n < a.n := by omega
      have : ¬ b.n = a.n := by omega
      simp [*]
    · simp [c]
    · have : ¬ a.n < b.n := by omega
      simp [*]
  · have e1 := val_2 ha h
    have e2 := val_2 hb (hk ▸ h)
    have es : sameV b a = same b.s a.s := by
      unfold sameV
      rw [show (b.k == a.k) = true by simp [hk], e1, e2]; simp
    rw [es, e1, e2]
    have := less_tot (a := b.s) (b := a.s)
    simpa using this
  · exact absurd h h3
theorem sameV_comm (a b : Vl) : sameV a b = sameV b a := by
  cases h : sameV a b with
  | true => rw [sameV_eq h, sameV_rfl]
  | false =>
    cases h2 : sameV b a with
    | false => rfl
    | true => rw [sameV_eq h2, sameV_rfl] at h; cases h
theorem swap_le {a b : Vl} (hk : a.k = b.k) (h3 : a.k ≠ 3) (ha : isVal a = true) (hb : isVal b = true) : (!(decide (a.n < b.n) || (less a.s b.s || sameV a b))) = (decide (b.n < a.n) || less b.s a.s) := by
  have := swap_lt hk.symm (hk ▸ h3) hb ha
  rw [← this, Bool.not_not]
theorem two6 {a b : Vl} (hk : a.k = b.k) : refTwo 6 a b = (truthV (sameV a b), 0) := by
  unfold refTwo
  rw [show (a.k != b.k) = false by simp [hk]]; rfl
theorem two7 {a b : Vl} (hk : a.k = b.k) : refTwo 7 a b = (truthV (!sameV a b), 0) := by
  unfold refTwo
  rw [show (a.k != b.k) = false by simp [hk]]; rfl
theorem two8 {a b : Vl} (hk : a.k = b.k) (h3 : a.k ≠ 3) : refTwo 8 a b = (truthV (decide (a.n < b.n) || less a.s b.s), 0) := by
  unfold refTwo
  rw [show (a.k != b.k) = false by simp [hk], show (a.k != 3) = true by simpa using h3]; rfl
theorem two9 {a b : Vl} (hk : a.k = b.k) (h3 : a.k ≠ 3) : refTwo 9 a b = (truthV (decide (a.n < b.n) || (less a.s b.s || sameV a b)), 0) := by
  unfold refTwo
  rw [show (a.k != b.k) = false by simp [hk], show (a.k != 3) = true by simpa using h3]; rfl
theorem ev_mk {s : List Ty} {l : List Bi} {op : Int} {v : Vl} {al fi : ByteArray} {ks : List Exp} (h : 3 ≤ op) : evR s l (.mk op v al fi ks) = finR op (evRs s l ks) := by
  rw [evR, show (op == 1) = false by simp; omega, show (op == 2) = false by simp; omega]; rfl
/-- Not of a sign that has an opposite. -/
theorem alike_flip {o o' : Int} {P Q P' Q' : Vl × Int} (ho : o ≠ 10 ∧ o ≠ 11 ∧ o ≠ 12) (ho' : o' ≠ 10 ∧ o' ≠ 11 ∧ o' ≠ 12) (he : (P.2 ≠ 0 ∨ Q.2 ≠ 0) → (P'.2 ≠ 0 ∨ Q'.2 ≠ 0))
    (h : P.2 = 0 → Q.2 = 0 → P'.2 = 0 ∧ Q'.2 = 0 ∧ ∃ b, refTwo o P.1 Q.1 = (truthV b, 0) ∧ refTwo o' P'.1 Q'.1 = (truthV (!b), 0)) : Alike (finR 12 [finR o [P, Q]]) (finR o' [P', Q']) := by
  by_cases h0 : P.2 = 0 ∧ Q.2 = 0
  · obtain ⟨g1, g2, b, g3, g4⟩ := h h0.1 h0.2
    rw [fin_two_ok ho.1 ho.2.1 ho.2.2 h0.1 h0.2, g3, fin_not, fin_two_ok ho'.1 ho'.2.1 ho'.2.2 g1 g2, g4]
    exact Alike.refl _
  · have hne : P.2 ≠ 0 ∨ Q.2 ≠ 0 := by
      by_cases hp : P.2 = 0
      · exact .inr fun hq => h0 ⟨hp, hq⟩
      · exact .inl hp
    obtain ⟨c, hc, e1⟩ := fin_two_no ho.1 ho.2.1 ho.2.2 hne
    obtain ⟨c', hc', e2⟩ := fin_two_no ho'.1 ho'.2.1 ho'.2.2 (he hne)
    rw [e1, e2, fin_one_no hc]
    exact alike_no hc hc'

theorem kind_flip {o o2 k0 : Int} (h : finKR o k0 k0 = (3, 0)) (ho : (o = 6 ∧ o2 = 7) ∨ (o = 7 ∧ o2 = 6) ∨ (o = 8 ∧ o2 = 9) ∨ (o = 9 ∧ o2 = 8)) : finKR o2 k0 k0 = (3, 0) := by
  unfold finKR at h ⊢
  rw [show (k0 != k0) = false by simp] at h ⊢
  rcases ho with ⟨rfl, rfl⟩ | ⟨rfl, rfl⟩ | ⟨rfl, rfl⟩ | ⟨rfl, rfl⟩
  · rfl
  · rfl
  · have h : (bif (k0 != 3) then ((3 : Int), (0 : Int)) else (0, 14)) = (3, 0) := h
    exact h
  · have h : (bif (k0 != 3) then ((3 : Int), (0 : Int)) else (0, 14)) = (3, 0) := h
    exact h
theorem kind_ne3 {o k0 : Int} (h : finKR o k0 k0 = (3, 0)) (ho : o = 8 ∨ o = 9) : k0 ≠ 3 := by
  intro e
  subst e
  rcases ho with rfl | rfl
  · exact absurd h (by decide)
  · exact absurd h (by decide)
theorem means (s : List Ty) (l : List Bi) (es : List El) (hS : Suits s l es) : ∀ (n : Nat) (x : Exp), SizeOf.sizeOf x < n → ∀ (d : Nat) (k : Int), shapedX x d = true → kR s es x = (k, 0) → kR s es (normX x) = (k, 0) ∧ Alike (evR s l x) (evR s l (normX x))
  | 0, x, h => by omega
  | n + 1, .mk op v al fi ks, h => fun d k hs hk => by
    obtain ⟨h1, h2, h3, h4, h5, h6⟩ := shaped_inv hs
    have har := shaped_ar _ _ hs
    by_cases e12 : op = 1 ∨ op = 2
    · have hks : ks = [] := List.length_eq_zero_iff.1 (by
        rcases e12 with rfl | rfl
        · have : kidsN 1 = 0 := rfl
          omega
        · have : kidsN 2 = 0 := rfl
          omega)
      subst hks
      have e : normX (.mk op v al fi []) = .mk op v al fi [] := by
        unfold normX turnX
        rw [show (op == 12) = false by rcases e12 with rfl | rfl <;> rfl]
        rfl
      rw [e]
      exact ⟨hk, Alike.refl _⟩
    · have e3 : 3 ≤ op := by
        have : op ≠ 1 := fun q => e12 (.inl q)
        have : op ≠ 2 := fun q => e12 (.inr q)
        omega
      rcases norm_cases har with ⟨ho, e⟩ | ⟨ho, p, y, rfl, hy, hay, hc⟩
      · rcases kind_parts h3 e3 h2 hk with ⟨rfl, _⟩ | ⟨_, p, q, k0, rfl, hp, hq, hfk⟩
        · exact absurd rfl ho
        · obtain ⟨p1, p2⟩ := means s l es hS n p (by simp at h; omega) (d + 1) k0 (h5 p (by simp)) hp
          obtain ⟨q1, q2⟩ := means s l es hS n q (by simp at h; omega) (d + 1) k0 (h5 q (by simp)) hq
          rw [e]
          simp only [normXs]
          refine ⟨by rw [kind_mk2 e3 p1 q1]; exact hfk, ?_⟩
          rw [ev_mk e3, ev_mk e3]
          simp only [evRs]
          exact fin_alike2 (by simpa using ho) p2 q2
      · subst ho
        rcases kind_parts h3 e3 h2 hk with ⟨_, p', hpp, hp, rfl⟩ | ⟨ho, _⟩
        · simp only [List.cons.injEq, and_true] at hpp
          subst hpp
          obtain ⟨p1, p2⟩ := means s l es hS n p (by simp at h; omega) (d + 1) 3 (h5 p (by simp)) hp
          have hsy : shapedX y (d + 1) = true := by rw [← hy]; exact shaped_norm p (d + 1) (h5 p (by simp))
          rw [hy] at p1 p2
          have hx : Alike (evR s l (.mk 12 v al fi [p])) (finR 12 [evR s l y]) := by
            rw [ev_mk (by decide)]
            simp only [evRs]
            exact fin_alike1 rfl rfl p2
          have tr : ∀ {r : Vl × Int}, Alike (finR 12 [evR s l y]) r → Alike (evR s l (.mk 12 v al fi [p])) r := fun h => ⟨hx.1.trans h.1, hx.2.trans h.2⟩
          obtain ⟨o1, v1, a1, f1, k1⟩ := y
          obtain ⟨i1, i2, i3, i4, i5, i6⟩ := shaped_inv hsy
          rcases hc with ⟨hf, e⟩ | ⟨hy12, z, hz, e⟩ | ⟨o2, ho2, e⟩ | ⟨o2, a, b, ho2, hab, e⟩
          · rw [e]
            refine ⟨kind_mk1 p1, tr ?_⟩
            rw [ev_mk (op := 12) (by decide)]
            exact Alike.refl _
          · have hy12 : o1 = 12 := hy12
            subst hy12
            have hz : k1 = [z] := hz
            subst hz
            rw [e]
            rcases kind_parts i3 (by decide) i2 p1 with ⟨_, z', hzz, hkz, _⟩ | ⟨ho, _⟩
            · simp only [List.cons.injEq, and_true] at hzz
              subst hzz
              refine ⟨hkz, tr ?_⟩
              rw [ev_mk (op := 12) (by decide)]
              simp only [evRs]
              have ht := typed s l es hS _ z (Nat.lt_succ_self _) (d + 1 + 1) 3 (i5 z (by simp)) hkz
              have he := evR_err (s := s) (l := l) (x := z)
              generalize evR s l z = r at *
              by_cases hr : r.2 = 0
              · obtain ⟨t1, t2⟩ := ht hr
                rw [fin_one_ok hr t1, fin_not]
                obtain ⟨g1, g2⟩ := val_3 t2 t1
                refine ⟨by rw [hr], ?_⟩
                obtain ⟨⟨rk, rn, rs⟩, rc⟩ := r
                simp only at t1 g1 g2 ⊢
                rw [t1, g2]
                rcases g1 with g | g <;> rw [g] <;> rfl
              · rw [fin_one_no hr, fin_one_no (r := (nulV, r.2)) hr]
                have : r = (nulV, r.2) := by
                  have := he hr
                  obtain ⟨r1, r2⟩ := r
                  simp only at this ⊢
                  rw [this]
                rw [← this]
                exact Alike.refl _
            · exact absurd rfl ho
          · have ho2 : (o1 = 6 ∧ o2 = 7) ∨ (o1 = 7 ∧ o2 = 6) := ho2
            have e : normX (.mk 12 v al fi [p]) = .mk o2 zV nul nul k1 := e
            rw [e]
            have i31 : 3 ≤ o1 := by rcases ho2 with ⟨rfl, _⟩ | ⟨rfl, _⟩ <;> decide
            have i32 : 3 ≤ o2 := by rcases ho2 with ⟨_, rfl⟩ | ⟨_, rfl⟩ <;> decide
            rcases kind_parts i3 i31 i2 p1 with ⟨ho, _⟩ | ⟨_, a, b, k0, hab, hka, hkb, hfk⟩
            · rcases ho2 with ⟨rfl, _⟩ | ⟨rfl, _⟩ <;> exact absurd ho (by decide)
            · subst hab
              refine ⟨by rw [kind_mk2 i32 hka hkb]; exact kind_flip hfk (by rcases ho2 with q | q; exact .inl q; exact .inr (.inl q)), tr ?_⟩
              rw [ev_mk i31, ev_mk i32]
              simp only [evRs]
              have ta := typed s l es hS _ a (Nat.lt_succ_self _) (d + 1 + 1) k0 (i5 a (by simp)) hka
              have tb := typed s l es hS _ b (Nat.lt_succ_self _) (d + 1 + 1) k0 (i5 b (by simp)) hkb
              refine alike_flip (by rcases ho2 with ⟨rfl, _⟩ | ⟨rfl, _⟩ <;> decide) (by rcases ho2 with ⟨_, rfl⟩ | ⟨_, rfl⟩ <;> decide) (fun h => h) fun ha hb => ⟨ha, hb, ?_⟩
              have hkk : (evR s l a).1.k = (evR s l b).1.k := (ta ha).1.trans (tb hb).1.symm
              rcases ho2 with ⟨rfl, rfl⟩ | ⟨rfl, rfl⟩
              · exact ⟨_, two6 hkk, two7 hkk⟩
              · exact ⟨_, two7 hkk, by rw [two6 hkk, Bool.not_not]⟩
          · have ho2 : (o1 = 8 ∧ o2 = 9) ∨ (o1 = 9 ∧ o2 = 8) := ho2
            have hab : k1 = [a, b] := hab
            subst hab
            rw [e]
            have i31 : 3 ≤ o1 := by rcases ho2 with ⟨rfl, _⟩ | ⟨rfl, _⟩ <;> decide
            have i32 : 3 ≤ o2 := by rcases ho2 with ⟨_, rfl⟩ | ⟨_, rfl⟩ <;> decide
            rcases kind_parts i3 i31 i2 p1 with ⟨ho, _⟩ | ⟨_, a', b', k0, hab, hka, hkb, hfk⟩
            · rcases ho2 with ⟨rfl, _⟩ | ⟨rfl, _⟩ <;> exact absurd ho (by decide)
            · simp only [List.cons.injEq, and_true] at hab
              obtain ⟨rfl, rfl⟩ := hab
              refine ⟨by rw [kind_mk2 i32 hkb hka]; exact kind_flip hfk (by rcases ho2 with q | q; exact .inr (.inr (.inl q)); exact .inr (.inr (.inr q))), tr ?_⟩
              rw [ev_mk i31, ev_mk i32]
              simp only [evRs]
              have h3 : k0 ≠ 3 := kind_ne3 hfk (by rcases ho2 with ⟨q, _⟩ | ⟨q, _⟩; exact .inl q; exact .inr q)
              have ta := typed s l es hS _ a (Nat.lt_succ_self _) (d + 1 + 1) k0 (i5 a (by simp)) hka
              have tb := typed s l es hS _ b (Nat.lt_succ_self _) (d + 1 + 1) k0 (i5 b (by simp)) hkb
              refine alike_flip (by rcases ho2 with ⟨rfl, _⟩ | ⟨rfl, _⟩ <;> decide) (by rcases ho2 with ⟨_, rfl⟩ | ⟨_, rfl⟩ <;> decide) (fun h => h.symm) fun ha hb => ⟨hb, ha, ?_⟩
              have hkk : (evR s l a).1.k = (evR s l b).1.k := (ta ha).1.trans (tb hb).1.symm
              have n3 : (evR s l a).1.k ≠ 3 := by rw [(ta ha).1]; exact h3
              have n3' : (evR s l b).1.k ≠ 3 := by rw [(tb hb).1]; exact h3
              rcases ho2 with ⟨rfl, rfl⟩ | ⟨rfl, rfl⟩
              · exact ⟨_, two8 hkk n3, by rw [two9 hkk.symm n3', swap_lt hkk n3 (ta ha).2 (tb hb).2]⟩
              · exact ⟨_, two9 hkk n3, by rw [two8 hkk.symm n3', swap_le hkk n3 (ta ha).2 (tb hb).2]⟩
        · exact absurd rfl ho
end Go.AL
