/- Parts of an abstract logic over the kit's walks, and walks in it: Nrm2. -/
import Derived.Test.YtojnicnbmgiplaaNrm
import Derived.Test.YtojnicnbmgiplaaAe
/- What putting right does: plain laws. Nothing of a program. -/
namespace Go.AL
set_option linter.unusedVariables false
set_option linter.unusedSimpArgs false

def flips (o : Int) : Bool := o == 12 || (o == 6 || (o == 7 || (o == 8 || o == 9)))
theorem flip_cases (Y : Exp) {o1 : Int} {v1 : Vl} {a1 f1 : ByteArray} {k1 : List Exp} (h : arX (.mk o1 v1 a1 f1 k1) = true) :
    (flips o1 = false ∧ flipX Y (.mk o1 v1 a1 f1 k1) = Y) ∨ (o1 = 12 ∧ ∃ z, k1 = [z] ∧ flipX Y (.mk o1 v1 a1 f1 k1) = z) ∨
    (∃ o2, ((o1 = 6 ∧ o2 = 7) ∨ (o1 = 7 ∧ o2 = 6)) ∧ flipX Y (.mk o1 v1 a1 f1 k1) = .mk o2 zV nul nul k1) ∨
    (∃ o2 a b, ((o1 = 8 ∧ o2 = 9) ∨ (o1 = 9 ∧ o2 = 8)) ∧ k1 = [a, b] ∧ flipX Y (.mk o1 v1 a1 f1 k1) = .mk o2 zV nul nul [b, a]) := by
  have hl := ar_len h
  have hf : flipX Y (.mk o1 v1 a1 f1 k1) = (bif o1 == 12 then k1.headD zeroX else bif o1 == 6 then .mk 7 zV nul nul k1 else bif o1 == 7 then .mk 6 zV nul nul k1 else bif o1 == 8 then .mk 9 zV nul nul (swap2 k1) else bif o1 == 9 then .mk 8 zV nul nul (swap2 k1) else Y) := rfl
  cases e1 : (o1 == 12) with
  | true =>
    have : o1 = 12 := by simpa using e1
    subst this
    obtain ⟨z, rfl⟩ := len1 (by rw [kids12] at hl; exact hl)
    exact .inr (.inl ⟨rfl, z, rfl, rfl⟩)
  | false =>
  cases e2 : (o1 == 6) with
  | true =>
    have : o1 = 6 := by simpa using e2
    subst this
    exact .inr (.inr (.inl ⟨7, .inl ⟨rfl, rfl⟩, rfl⟩))
  | false =>
  cases e3 : (o1 == 7) with
  | true =>
    have : o1 = 7 := by simpa using e3
    subst this
    exact .inr (.inr (.inl ⟨6, .inr ⟨rfl, rfl⟩, rfl⟩))
  | false =>
  cases e4 : (o1 == 8) with
  | true =>
    have : o1 = 8 := by simpa using e4
    subst this
    obtain ⟨a, b, rfl⟩ := len2 (by rw [kids8] at hl; exact hl)
    exact .inr (.inr (.inr ⟨9, a, b, .inl ⟨rfl, rfl⟩, rfl, rfl⟩))
  | false =>
  cases e5 : (o1 == 9) with
  | true =>
    have : o1 = 9 := by simpa using e5
    subst this
    obtain ⟨a, b, rfl⟩ := len2 (by rw [kids9] at hl; exact hl)
    exact .inr (.inr (.inr ⟨8, a, b, .inr ⟨rfl, rfl⟩, rfl, rfl⟩))
  | false =>
    left
    constructor
    · unfold flips; rw [e1, e2, e3, e4, e5]; rfl
    · rw [hf, e1, e2, e3, e4, e5]; rfl

/-- The five ways of putting right. -/
theorem norm_cases {op : Int} {v : Vl} {al fi : ByteArray} {ks : List Exp} (h : arX (.mk op v al fi ks) = true) :
    (op ≠ 12 ∧ normX (.mk op v al fi ks) = .mk op v al fi (normXs ks)) ∨
    (op = 12 ∧ ∃ k y, ks = [k] ∧ normX k = y ∧ arX y = true ∧
      ((flips y.op = false ∧ normX (.mk op v al fi ks) = .mk op v al fi [y]) ∨ (y.op = 12 ∧ ∃ z, y.kids = [z] ∧ normX (.mk op v al fi ks) = z) ∨
       (∃ o2, ((y.op = 6 ∧ o2 = 7) ∨ (y.op = 7 ∧ o2 = 6)) ∧ normX (.mk op v al fi ks) = .mk o2 zV nul nul y.kids) ∨
       (∃ o2 a b, ((y.op = 8 ∧ o2 = 9) ∨ (y.op = 9 ∧ o2 = 8)) ∧ y.kids = [a, b] ∧ normX (.mk op v al fi ks) = .mk o2 zV nul nul [b, a]))) := by
  cases h12 : (op == 12) with
  | false =>
    left
    refine ⟨by simpa using h12, ?_⟩
    unfold normX turnX; rw [h12]; rfl
  | true =>
    have : op = 12 := by simpa using h12
    subst this
    right
    refine ⟨rfl, ?_⟩
    obtain ⟨k, rfl⟩ := len1 (ks := ks) (by have := ar_len h; rw [kids12] at this; exact this)
    have hy : arX (normX k) = true := ar_norm k (ar_mem h (by simp))
    refine ⟨k, normX k, rfl, rfl, hy, ?_⟩
    have e : normX (.mk 12 v al fi [k]) = flipX (.mk 12 v al fi [normX k]) (normX k) := by
      conv => lhs; unfold normX turnX
      simp only [normXs]
      rfl
    rw [e]
    obtain ⟨o1, v1, a1, f1, k1, hs⟩ := Exp.shape (normX k)
    rw [hs] at hy ⊢
    exact flip_cases _ hy

theorem nulN : noNames nul nul = true := by unfold noNames; rw [same_refl]; rfl
/-! ### once is enough -/
/-! ### no more nodes, no deeper -/
theorem shaped_inv {op : Int} {v : Vl} {al fi : ByteArray} {ks : List Exp} {d : Nat} (h : shapedX (.mk op v al fi ks) d = true) :
    1 ≤ op ∧ op ≤ 12 ∧ (ks.length : Int) = kidsN op ∧ d ≤ 5 ∧ (∀ k ∈ ks, shapedX k (d + 1) = true) ∧ (op ≠ 1 → op ≠ 2 → sameV v zV = true ∧ noNames al fi = true) := by
  have har := shaped_ar _ _ h
  have hl := ar_len har
  unfold shapedX at h
  cases h1 : (decide (op < 1) || (decide (op > 12) || (((ks.length : Int) != kidsN op) || decide ((d : Int) > 5)))) with
  | true => rw [h1] at h; cases h
  | false =>
    rw [h1] at h
    simp only [Bool.or_eq_false_iff, decide_eq_false_iff_not, bne_eq_false_iff_eq] at h1
    obtain ⟨g1, g2, g3, g4⟩ := h1
    simp only [cond_false] at h
    refine ⟨by omega, by omega, g3, by omega, fun k hk => ?_, fun n1 n2 => ?_⟩
    · cases e1 : (op == 1) with
      | true =>
        have : op = 1 := by simpa using e1
        subst this
        have : ks = [] := List.length_eq_zero_iff.1 (by have : kidsN 1 = 0 := rfl; omega)
        subst this
        cases hk
      | false =>
        cases e2 : (op == 2) with
        | true =>
          have : op = 2 := by simpa using e2
          subst this
          have : ks = [] := List.length_eq_zero_iff.1 (by have : kidsN 2 = 0 := rfl; omega)
          subst this
          cases hk
        | false =>
          rw [e1, e2] at h
          simp only [cond_false, Bool.and_eq_true] at h
          have := h.1
          rw [shapedXs_all, List.all_eq_true] at this
          exact this k hk
    · rw [show (op == 1) = false by simpa using n1, show (op == 2) = false by simpa using n2] at h
      simp only [cond_false, Bool.and_eq_true] at h
      exact h.2
theorem shaped_mk {op : Int} {v : Vl} {al fi : ByteArray} {ks : List Exp} {d : Nat} (h1 : 3 ≤ op) (h2 : op ≤ 12) (hl : (ks.length : Int) = kidsN op) (hd : d ≤ 5) (hk : ∀ k ∈ ks, shapedX k (d + 1) = true) (hv : sameV v zV = true) (hn : noNames al fi = true) :
    shapedX (.mk op v al fi ks) d = true := by
  unfold shapedX
  rw [show (decide (op < 1) || (decide (op > 12) || (((ks.length : Int) != kidsN op) || decide ((d : Int) > 5)))) = false by simp [hl]; omega,
    show (op == 1) = false by simp; omega, show (op == 2) = false by simp; omega, shapedXs_all, List.all_eq_true.2 hk, show sameV v ⟨0, 0, nul⟩ = true from hv, hn]
  rfl
theorem shaped_more : ∀ (n : Nat) (x : Exp), SizeOf.sizeOf x < n → ∀ d, shapedX x (d + 1) = true → shapedX x d = true
  | 0, x, h => by omega
  | n + 1, .mk op v al fi ks, h => fun d hs => by
    obtain ⟨h1, h2, h3, h4, h5, h6⟩ := shaped_inv hs
    by_cases e : op = 1 ∨ op = 2
    · have hks : ks = [] := List.length_eq_zero_iff.1 (by
        rcases e with rfl | rfl
        · have : kidsN 1 = 0 := rfl
          omega
        · have : kidsN 2 = 0 := rfl
          omega)
      subst hks
      have g4 : decide (((d + 1 : Nat) : Int) > 5) = false := by simp; omega
      have g4' : decide ((d : Int) > 5) = false := by simp; omega
      unfold shapedX at hs ⊢
      simp only [shapedXs] at hs ⊢
      rw [g4] at hs
      rw [g4']
      exact hs
    · have n1 : op ≠ 1 := fun q => e (.inl q)
      have n2 : op ≠ 2 := fun q => e (.inr q)
      obtain ⟨hv, hn⟩ := h6 n1 n2
      exact shaped_mk (by omega) h2 h3 (by omega) (fun k hk => shaped_more n k (by have := List.sizeOf_lt_of_mem hk; simp at h; omega) _ (h5 k hk)) hv hn
theorem shaped_less {x : Exp} {d : Nat} (h : shapedX x (d + 1) = true) : shapedX x d = true := shaped_more _ x (Nat.lt_succ_self _) d h
mutual
theorem shaped_norm : ∀ (x : Exp) (d : Nat), shapedX x d = true → shapedX (normX x) d = true
  | .mk op v al fi ks, d => fun h => by
    obtain ⟨h1, h2, h3, h4, h5, h6⟩ := shaped_inv h
    have hks := shapeds_norm ks (d + 1) h5
    have har := shaped_ar _ _ h
    rcases norm_cases har with ⟨ho, e⟩ | ⟨ho, k, y, rfl, hy, hay, hc⟩
    · rw [e]
      by_cases e : op = 1 ∨ op = 2
      · have hks : ks = [] := List.length_eq_zero_iff.1 (by
          rcases e with rfl | rfl
          · have : kidsN 1 = 0 := rfl
            omega
          · have : kidsN 2 = 0 := rfl
            omega)
        subst hks
        exact h
      · have n1 : op ≠ 1 := fun q => e (.inl q)
        have n2 : op ≠ 2 := fun q => e (.inr q)
        obtain ⟨hv, hn⟩ := h6 n1 n2
        exact shaped_mk (by omega) h2 (by rw [normXs_len]; exact h3) h4 hks hv hn
    · have hsy : shapedX y (d + 1) = true := hks y (by simp [normXs, hy])
      obtain ⟨o1, v1, a1, f1, k1⟩ := y
      obtain ⟨i1, i2, i3, i4, i5, i6⟩ := shaped_inv hsy
      subst ho
      obtain ⟨hv, hn⟩ := h6 (by decide) (by decide)
      rcases hc with ⟨hf, e⟩ | ⟨h12, z, hz, e⟩ | ⟨o2, ho2, e⟩ | ⟨o2, a, b, ho2, hab, e⟩
      · rw [e]
        exact shaped_mk (by decide) (by decide) rfl h4 (fun k hk => by simp at hk; subst hk; exact hsy) hv hn
      · rw [e]
        have hz : k1 = [z] := hz
        exact shaped_less (shaped_less (i5 z (by rw [hz]; simp)))
      · rw [e]
        have ho2 : (o1 = 6 ∧ o2 = 7) ∨ (o1 = 7 ∧ o2 = 6) := ho2
        refine shaped_mk (ks := k1) ?_ ?_ ?_ h4 (fun k hk => shaped_less (i5 k hk)) (sameV_rfl zV) nulN
        · rcases ho2 with ⟨_, rfl⟩ | ⟨_, rfl⟩ <;> decide
        · rcases ho2 with ⟨_, rfl⟩ | ⟨_, rfl⟩ <;> decide
        · rcases ho2 with ⟨rfl, rfl⟩ | ⟨rfl, rfl⟩
          · rw [kids7, ← kids6]; exact i3
          · rw [kids6, ← kids7]; exact i3
      · rw [e]
        have ho2 : (o1 = 8 ∧ o2 = 9) ∨ (o1 = 9 ∧ o2 = 8) := ho2
        have hab : k1 = [a, b] := hab
        subst hab
        refine shaped_mk ?_ ?_ ?_ h4 (fun k hk => shaped_less (i5 k ?_)) (sameV_rfl zV) nulN
        · rcases ho2 with ⟨_, rfl⟩ | ⟨_, rfl⟩ <;> decide
        · rcases ho2 with ⟨_, rfl⟩ | ⟨_, rfl⟩ <;> decide
        · rcases ho2 with ⟨rfl, rfl⟩ | ⟨rfl, rfl⟩ <;> rfl
        · simp at hk ⊢
          rcases hk with rfl | rfl <;> simp
theorem shapeds_norm : ∀ (ks : List Exp) (d : Nat), (∀ k ∈ ks, shapedX k d = true) → ∀ k ∈ normXs ks, shapedX k d = true
  | [], d, _ => by simp [normXs]
  | k :: ks, d, h => fun y hy => by
    simp only [normXs, List.mem_cons] at hy
    rcases hy with e | hy
    · rw [e]; exact shaped_norm k d (h k (by simp))
    · exact shapeds_norm ks d (fun z hz => h z (by simp [hz])) y hy
end
/-! ### bulk -/
/-! ### Law 12: other names -/
def Exp.al : Exp → ByteArray | .mk _ _ al _ _ => al
end Go.AL
