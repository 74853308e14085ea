/- Parts of an abstract logic over the kit's walks, and walks in it: Nrm2. -/
import Derived.Test.YtjiknbjkbakegaaDoorNrm
import Derived.Test.YtjiknbjkbakegaaDoorAe
/- What putting right does: plain laws. Nothing of a program. -/
namespace Go.AL
set_option linter.unusedVariables false
set_option linter.unusedSimpArgs false

def flips (o : Int) : Bool := o == 12 || (o == 6 || (o == 7 || (o == 8 || o == 9)))
theorem flip_cases (Y : Exp) {o1 : Int} {v1 : Vl} {a1 f1 : ByteArray} {k1 : List Exp} (h : arX (.mk o1 v1 a1 f1 k1) = true) :
    (flips o1 = false ∧ flipX Y (.mk o1 v1 a1 f1 k1) = Y) ∨ (o1 = 12 ∧ ∃ z, k1 = [z] ∧ flipX Y (.mk o1 v1 a1 f1 k1) = z) ∨
    (∃ o2, ((o1 = 6 ∧ o2 = 7) ∨ (o1 = 7 ∧ o2 = 6)) ∧ flipX Y (.mk o1 v1 a1 f1 k1) = .mk o2 zV nul nul k1) ∨
    (∃ o2 a b, ((o1 = 8 ∧ o2 = 9) ∨ (o1 = 9 ∧ o2 = 8)) ∧ k1 = [a, b] ∧ flipX Y (.mk o1 v1 a1 f1 k1) = .mk o2 zV nul nul [b, a]) := by
  have hl := ar_len h
  have hf : flipX Y (.mk o1 v1 a1 f1 k1) = (bif o1 == 12 then k1.headD zeroX else bif o1 == 6 then .mk 7 zV nul nul k1 else bif o1 == 7 then .mk 6 zV nul nul k1 else bif o1 == 8 then .mk 9 zV nul nul (swap2 k1) else bif o1 == 9 then .mk 8 zV nul nul (swap2 k1) else Y) := rfl
  cases e1 : (o1 == 12) with
  | true =>
    have : o1 = 12 := by simpa using e1
    subst this
    obtain ⟨z, rfl⟩ := len1 (by rw [kids12] at hl; exact hl)
    exact .inr (.inl ⟨rfl, z, rfl, rfl⟩)
  | false =>
  cases e2 : (o1 == 6) with
  | true =>
    have : o1 = 6 := by simpa using e2
    subst this
    exact .inr (.inr (.inl ⟨7, .inl ⟨rfl, rfl⟩, rfl⟩))
  | false =>
  cases e3 : (o1 == 7) with
  | true =>
    have : o1 = 7 := by simpa using e3
    subst this
    exact .inr (.inr (.inl ⟨6, .inr ⟨rfl, rfl⟩, rfl⟩))
  | false =>
  cases e4 : (o1 == 8) with
  | true =>
    have : o1 = 8 := by simpa using e4
    subst this
    obtain ⟨a, b, rfl⟩ := len2 (by rw [kids8] at hl; exact hl)
    exact .inr (.inr (.inr ⟨9, a, b, .inl ⟨rfl, rfl⟩, rfl, rfl⟩))
  | false =>
  cases e5 : (o1 == 9) with
  | true =>
    have : o1 = 9 := by simpa using e5
    subst this
    obtain ⟨a, b, rfl⟩ := len2 (by rw [kids9] at hl; exact hl)
    exact .inr (.inr (.inr ⟨8, a, b, .inr ⟨rfl, rfl⟩, rfl, rfl⟩))
  | false =>
    left
    constructor
    · unfold flips; rw [e1, e2, e3, e4, e5]; rfl
    · rw [hf, e1, e2, e3, e4, e5]; rfl

/-- The five ways of putting right. -/
theorem norm_cases {op : Int} {v : Vl} {al fi : ByteArray} {ks : List Exp} (h : arX (.mk op v al fi ks) = true) :
    (op ≠ 12 ∧ normX (.mk op v al fi ks) = .mk op v al fi (normXs ks)) ∨
    (op = 12 ∧ ∃ k y, ks = [k] ∧ normX k = y ∧ arX y = true ∧
      ((flips y.op = false ∧ normX (.mk op v al fi ks) = .mk op v al fi [y]) ∨ (y.op = 12 ∧ ∃ z, y.kids = [z] ∧ normX (.mk op v al fi ks) = z) ∨
       (∃ o2, ((y.op = 6 ∧ o2 = 7) ∨ (y.op = 7 ∧ o2 = 6)) ∧ normX (.mk op v al fi ks) = .mk o2 zV nul nul y.kids) ∨
       (∃ o2 a b, ((y.op = 8 ∧ o2 = 9) ∨ (y.op = 9 ∧ o2 = 8)) ∧ y.kids = [a, b] ∧ normX (.mk op v al fi ks) = .mk o2 zV nul nul [b, a]))) := by
  cases h12 : (op == 12) with
  | false =>
    left
    refine ⟨by simpa using h12, ?_⟩
    unfold normX turnX; rw [h12]; rfl
  | true =>
    have : op = 12 := by simpa using h12
    subst this
    right
    refine ⟨rfl, ?_⟩
    obtain ⟨k, rfl⟩ := len1 (ks := ks) (by have := ar_len h; rw [kids12] at this; exact this)
    have hy : arX (normX k) = true := ar_norm k (ar_mem h (by simp))
    refine ⟨k, normX k, rfl, rfl, hy, ?_⟩
    have e : normX (.mk 12 v al fi [k]) = flipX (.mk 12 v al fi [normX k]) (normX k) := by
      conv => lhs; unfold normX turnX
      simp only [normXs]
      rfl
    rw [e]
    obtain ⟨o1, v1, a1, f1, k1, hs⟩ := Exp.shape (normX k)
    rw [hs] at hy ⊢
    exact flip_cases _ hy

theorem nulN : noNames nul nul = true := by unfold noNames; rw [same_refl]; rfl
/-! ### once is enough -/
mutual
def nfX : Exp → Bool
  | .mk op _ _ _ ks => nfXs ks && !(op == 12 && ks.any fun k => flips k.op)
def nfXs : List Exp → Bool
  | [] => true
  | k :: ks => nfX k && nfXs ks
end
theorem nfXs_all : ∀ ks : List Exp, nfXs ks = ks.all nfX
  | [] => by simp [nfXs]
  | k :: ks => by simp [nfXs, nfXs_all ks]
theorem nf_kids {x : Exp} (h : nfX x = true) : ∀ k ∈ x.kids, nfX k = true := by
  obtain ⟨op, v, al, fi, ks⟩ := x
  unfold nfX at h
  rw [nfXs_all] at h
  simp only [Bool.and_eq_true, List.all_eq_true] at h
  exact h.1
theorem nf_mk {op : Int} {v : Vl} {al fi : ByteArray} {ks : List Exp} (hk : ∀ k ∈ ks, nfX k = true) (ho : op ≠ 12) : nfX (.mk op v al fi ks) = true := by
  unfold nfX
  rw [nfXs_all, List.all_eq_true.2 hk, show (op == 12) = false by simpa using ho]; rfl
mutual
theorem nf_norm : ∀ x : Exp, arX x = true → nfX (normX x) = true
  | .mk op v al fi ks => fun h => by
    have hks := nfs_norm ks (fun k hk => ar_mem h hk)
    rcases norm_cases h with ⟨ho, e⟩ | ⟨ho, k, y, rfl, hy, hay, hc⟩
    · rw [e]; exact nf_mk hks ho
    · have hny : nfX y = true := hks y (by simp [normXs, hy])
      rcases hc with ⟨hf, e⟩ | ⟨h12, z, hz, e⟩ | ⟨o2, ho2, e⟩ | ⟨o2, a, b, ho2, hab, e⟩
      · rw [e]
        unfold nfX
        simp [nfXs, hny, hf]
      · rw [e]; exact nf_kids hny z (by rw [hz]; simp)
      · rw [e]; exact nf_mk (nf_kids hny) (by rcases ho2 with ⟨_, rfl⟩ | ⟨_, rfl⟩ <;> decide)
      · rw [e]
        refine nf_mk (fun k hk => nf_kids hny k ?_) (by rcases ho2 with ⟨_, rfl⟩ | ⟨_, rfl⟩ <;> decide)
        rw [hab]
        simp at hk ⊢
        rcases hk with rfl | rfl <;> simp
theorem nfs_norm : ∀ ks : List Exp, (∀ k ∈ ks, arX k = true) → ∀ k ∈ normXs ks, nfX k = true
  | [], _ => by simp [normXs]
  | k :: ks, h => fun y hy => by
    simp only [normXs, List.mem_cons] at hy
    rcases hy with e | hy
    · rw [e]; exact nf_norm k (h k (by simp))
    · exact nfs_norm ks (fun z hz => h z (by simp [hz])) y hy
end
mutual
theorem norm_nf : ∀ x : Exp, nfX x = true → normX x = x
  | .mk op v al fi ks => fun h => by
    have hk : normXs ks = ks := norms_nf ks (nf_kids h)
    unfold normX
    rw [hk]
    unfold turnX
    cases h12 : (op == 12) with
    | false => rfl
    | true =>
      match ks, h with
      | [], _ =>
        have : op = 12 := by simpa using h12
        subst this
        rfl
      | .mk o1 v1 a1 f1 k1 :: r, h =>
        have hfl : flips o1 = false := by
          unfold nfX at h
          rw [h12] at h
          simp only [Bool.and_eq_true, Bool.true_and, Bool.not_eq_true', List.any_cons, Bool.or_eq_false_iff] at h
          exact h.2.1
        unfold flips at hfl
        simp only [Bool.or_eq_false_iff] at hfl
        obtain ⟨e1, e2, e3, e4, e5⟩ := hfl
        show (bif o1 == 12 then _ else bif o1 == 6 then _ else bif o1 == 7 then _ else bif o1 == 8 then _ else bif o1 == 9 then _ else _) = _
        rw [e1, e2, e3, e4, e5]; rfl
theorem norms_nf : ∀ ks : List Exp, (∀ k ∈ ks, nfX k = true) → normXs ks = ks
  | [], _ => by simp [normXs]
  | k :: ks, h => by simp only [normXs]; rw [norm_nf k (h k (by simp)), norms_nf ks (fun z hz => h z (by simp [hz]))]
end
theorem normE_once (x : Exp) : normE (normE x) = normE x := by
  unfold normE
  cases h : isX x with
  | false => simp only [cond_false]; rw [h]; rfl
  | true =>
    simp only [cond_true]
    rw [norm_nf _ (nf_norm x (isX_ar h))]
    cases isX (normX x) <;> rfl
theorem normP_once (p : Pat) : normP (normP p) = normP p := by
  unfold normP
  simp only [List.map_map]
  congr 1
  refine List.map_congr_left fun e _ => ?_
  show normL (normL e) = normL e
  unfold normL
  simp only [normE_once]

/-! ### no more nodes, no deeper -/
mutual
def cntX : Exp → Nat
  | .mk _ _ _ _ ks => cntXs ks + 1
def cntXs : List Exp → Nat
  | [] => 0
  | k :: ks => cntX k + cntXs ks
end
mutual
def hgtX : Exp → Nat
  | .mk _ _ _ _ ks => hgtXs ks + 1
def hgtXs : List Exp → Nat
  | [] => 0
  | k :: ks => max (hgtX k) (hgtXs ks)
end
theorem cnt_eq (x : Exp) : cntX x = cntXs x.kids + 1 := by cases x; simp [cntX, Exp.kids]
theorem hgt_eq (x : Exp) : hgtX x = hgtXs x.kids + 1 := by cases x; simp [hgtX, Exp.kids]
mutual
theorem cnt_norm : ∀ x : Exp, arX x = true → cntX (normX x) ≤ cntX x ∧ hgtX (normX x) ≤ hgtX x
  | .mk op v al fi ks => fun h => by
    have hks := cnts_norm ks (fun k hk => ar_mem h hk)
    rcases norm_cases h with ⟨ho, e⟩ | ⟨ho, k, y, rfl, hy, hay, hc⟩
    · rw [e]; simp only [cntX, hgtX]; omega
    · simp only [normXs, hy, cntXs, hgtXs] at hks
      have c1 := cnt_eq y
      have c2 := hgt_eq y
      rcases hc with ⟨hf, e⟩ | ⟨h12, z, hz, e⟩ | ⟨o2, ho2, e⟩ | ⟨o2, a, b, ho2, hab, e⟩
      · rw [e]; simp only [cntX, hgtX, cntXs, hgtXs]; omega
      · rw [e]; rw [hz] at c1 c2; simp only [cntX, hgtX, cntXs, hgtXs] at *; omega
      · rw [e]; simp only [cntX, hgtX, cntXs, hgtXs] at *; omega
      · rw [e]; rw [hab] at c1 c2; simp only [cntX, hgtX, cntXs, hgtXs] at *; omega
theorem cnts_norm : ∀ ks : List Exp, (∀ k ∈ ks, arX k = true) → cntXs (normXs ks) ≤ cntXs ks ∧ hgtXs (normXs ks) ≤ hgtXs ks
  | [], _ => by simp [normXs]
  | k :: ks, h => by
    have h1 := cnt_norm k (h k (by simp))
    have h2 := cnts_norm ks fun z hz => h z (by simp [hz])
    simp only [normXs, cntXs, hgtXs]
    omega
end
theorem shaped_inv {op : Int} {v : Vl} {al fi : ByteArray} {ks : List Exp} {d : Nat} (h : shapedX (.mk op v al fi ks) d = true) :
    1 ≤ op ∧ op ≤ 12 ∧ (ks.length : Int) = kidsN op ∧ d ≤ 5 ∧ (∀ k ∈ ks, shapedX k (d + 1) = true) ∧ (op ≠ 1 → op ≠ 2 → sameV v zV = true ∧ noNames al fi = true) := by
  have har := shaped_ar _ _ h
  have hl := ar_len har
  unfold shapedX at h
  cases h1 : (decide (op < 1) || (decide (op > 12) || (((ks.length : Int) != kidsN op) || decide ((d : Int) > 5)))) with
  | true => rw [h1] at h; cases h
  | false =>
    rw [h1] at h
    simp only [Bool.or_eq_false_iff, decide_eq_false_iff_not, bne_eq_false_iff_eq] at h1
    obtain ⟨g1, g2, g3, g4⟩ := h1
    simp only [cond_false] at h
    refine ⟨by omega, by omega, g3, by omega, fun k hk => ?_, fun n1 n2 => ?_⟩
    · cases e1 : (op == 1) with
      | true =>
        have : op = 1 := by simpa using e1
        subst this
        have : ks = [] := List.length_eq_zero_iff.1 (by have : kidsN 1 = 0 := rfl; omega)
        subst this
        cases hk
      | false =>
        cases e2 : (op == 2) with
        | true =>
          have : op = 2 := by simpa using e2
          subst this
          have : ks = [] := List.length_eq_zero_iff.1 (by have : kidsN 2 = 0 := rfl; omega)
          subst this
          cases hk
        | false =>
          rw [e1, e2] at h
          simp only [cond_false, Bool.and_eq_true] at h
          have := h.1
          rw [shapedXs_all, List.all_eq_true] at this
          exact this k hk
    · rw [show (op == 1) = false by simpa using n1, show (op == 2) = false by simpa using n2] at h
      simp only [cond_false, Bool.and_eq_true] at h
      exact h.2
theorem shaped_mk {op : Int} {v : Vl} {al fi : ByteArray} {ks : List Exp} {d : Nat} (h1 : 3 ≤ op) (h2 : op ≤ 12) (hl : (ks.length : Int) = kidsN op) (hd : d ≤ 5) (hk : ∀ k ∈ ks, shapedX k (d + 1) = true) (hv : sameV v zV = true) (hn : noNames al fi = true) :
    shapedX (.mk op v al fi ks) d = true := by
  unfold shapedX
  rw [show (decide (op < 1) || (decide (op > 12) || (((ks.length : Int) != kidsN op) || decide ((d : Int) > 5)))) = false by simp [hl]; omega,
    show (op == 1) = false by simp; omega, show (op == 2) = false by simp; omega, shapedXs_all, List.all_eq_true.2 hk, show sameV v ⟨0, 0, nul⟩ = true from hv, hn]
  rfl
theorem shaped_more : ∀ (n : Nat) (x : Exp), SizeOf.sizeOf x < n → ∀ d, shapedX x (d + 1) = true → shapedX x d = true
  | 0, x, h => by omega
  | n + 1, .mk op v al fi ks, h => fun d hs => by
    obtain ⟨h1, h2, h3, h4, h5, h6⟩ := shaped_inv hs
    by_cases e : op = 1 ∨ op = 2
    · have hks : ks = [] := List.length_eq_zero_iff.1 (by
        rcases e with rfl | rfl
        · have : kidsN 1 = 0 := rfl
          omega
        · have : kidsN 2 = 0 := rfl
          omega)
      subst hks
      have g4 : decide (((d + 1 : Nat) : Int) > 5) = false := by simp; omega
      have g4' : decide ((d : Int) > 5) = false := by simp; omega
      unfold shapedX at hs ⊢
      simp only [shapedXs] at hs ⊢
      rw [g4] at hs
      rw [g4']
      exact hs
    · have n1 : op ≠ 1 := fun q => e (.inl q)
      have n2 : op ≠ 2 := fun q => e (.inr q)
      obtain ⟨hv, hn⟩ := h6 n1 n2
      exact shaped_mk (by omega) h2 h3 (by omega) (fun k hk => shaped_more n k (by have := List.sizeOf_lt_of_mem hk; simp at h; omega) _ (h5 k hk)) hv hn
theorem shaped_less {x : Exp} {d : Nat} (h : shapedX x (d + 1) = true) : shapedX x d = true := shaped_more _ x (Nat.lt_succ_self _) d h
mutual
theorem shaped_norm : ∀ (x : Exp) (d : Nat), shapedX x d = true → shapedX (normX x) d = true
  | .mk op v al fi ks, d => fun h => by
    obtain ⟨h1, h2, h3, h4, h5, h6⟩ := shaped_inv h
    have hks := shapeds_norm ks (d + 1) h5
    have har := shaped_ar _ _ h
    rcases norm_cases har with ⟨ho, e⟩ | ⟨ho, k, y, rfl, hy, hay, hc⟩
    · rw [e]
      by_cases e : op = 1 ∨ op = 2
      · have hks : ks = [] := List.length_eq_zero_iff.1 (by
          rcases e with rfl | rfl
          · have : kidsN 1 = 0 := rfl
            omega
          · have : kidsN 2 = 0 := rfl
            omega)
        subst hks
        exact h
      · have n1 : op ≠ 1 := fun q => e (.inl q)
        have n2 : op ≠ 2 := fun q => e (.inr q)
        obtain ⟨hv, hn⟩ := h6 n1 n2
        exact shaped_mk (by omega) h2 (by rw [normXs_len]; exact h3) h4 hks hv hn
    · have hsy : shapedX y (d + 1) = true := hks y (by simp [normXs, hy])
      obtain ⟨o1, v1, a1, f1, k1⟩ := y
      obtain ⟨i1, i2, i3, i4, i5, i6⟩ := shaped_inv hsy
      subst ho
      obtain ⟨hv, hn⟩ := h6 (by decide) (by decide)
      rcases hc with ⟨hf, e⟩ | ⟨h12, z, hz, e⟩ | ⟨o2, ho2, e⟩ | ⟨o2, a, b, ho2, hab, e⟩
      · rw [e]
        exact shaped_mk (by decide) (by decide) rfl h4 (fun k hk => by simp at hk; subst hk; exact hsy) hv hn
      · rw [e]
        have hz : k1 = [z] := hz
        exact shaped_less (shaped_less (i5 z (by rw [hz]; simp)))
      · rw [e]
        have ho2 : (o1 = 6 ∧ o2 = 7) ∨ (o1 = 7 ∧ o2 = 6) := ho2
        refine shaped_mk (ks := k1) ?_ ?_ ?_ h4 (fun k hk => shaped_less (i5 k hk)) (sameV_rfl zV) nulN
        · rcases ho2 with ⟨_, rfl⟩ | ⟨_, rfl⟩ <;> decide
        · rcases ho2 with ⟨_, rfl⟩ | ⟨_, rfl⟩ <;> decide
        · rcases ho2 with ⟨rfl, rfl⟩ | ⟨rfl, rfl⟩
          · rw [kids7, ← kids6]; exact i3
          · rw [kids6, ← kids7]; exact i3
      · rw [e]
        have ho2 : (o1 = 8 ∧ o2 = 9) ∨ (o1 = 9 ∧ o2 = 8) := ho2
        have hab : k1 = [a, b] := hab
        subst hab
        refine shaped_mk ?_ ?_ ?_ h4 (fun k hk => shaped_less (i5 k ?_)) (sameV_rfl zV) nulN
        · rcases ho2 with ⟨_, rfl⟩ | ⟨_, rfl⟩ <;> decide
        · rcases ho2 with ⟨_, rfl⟩ | ⟨_, rfl⟩ <;> decide
        · rcases ho2 with ⟨rfl, rfl⟩ | ⟨rfl, rfl⟩ <;> rfl
        · simp at hk ⊢
          rcases hk with rfl | rfl <;> simp
theorem shapeds_norm : ∀ (ks : List Exp) (d : Nat), (∀ k ∈ ks, shapedX k d = true) → ∀ k ∈ normXs ks, shapedX k d = true
  | [], d, _ => by simp [normXs]
  | k :: ks, d, h => fun y hy => by
    simp only [normXs, List.mem_cons] at hy
    rcases hy with e | hy
    · rw [e]; exact shaped_norm k d (h k (by simp))
    · exact shapeds_norm ks d (fun z hz => h z (by simp [hz])) y hy
end
mutual
theorem nodes_cnt : ∀ (x : Exp) (d a : Nat), shapedX x d = true → a ≤ d + 15 → (nodesX x a).length = cntX x ∧ depthX x a = (hgtX x : Int)
  | .mk op v al fi ks, d, a => fun h ha => by
    obtain ⟨h1, h2, h3, h4, h5, h6⟩ := shaped_inv h
    have h0 : (op == 0 || decide ((a : Int) > 20)) = false := by simp; omega
    have hk := nodess_cnt ks (d + 1) (a + 1) h5 (by omega)
    rw [nodesX_go h0]
    have hd : depthX (.mk op v al fi ks) a = depthXs ks (a + 1) 0 + 1 := by
      conv => lhs; unfold depthX
      rw [h0]; rfl
    rw [hd, hk.2 0 (Int.le_refl 0)]
    simp only [List.length_cons, cntX, hgtX, hk.1]
    refine ⟨trivial, ?_⟩
    omega
theorem nodess_cnt : ∀ (ks : List Exp) (d a : Nat), (∀ k ∈ ks, shapedX k d = true) → a ≤ d + 15 → (nodesXs ks a).length = cntXs ks ∧ ∀ n : Int, 0 ≤ n → depthXs ks a n = max n (hgtXs ks : Int)
  | [], d, a, _, _ => by
    refine ⟨by simp [nodesXs, cntXs], fun n hn => ?_⟩
    simp only [depthXs, hgtXs]; omega
  | k :: ks, d, a, h, ha => by
    have h1 := nodes_cnt k d a (h k (by simp)) ha
    have h2 := nodess_cnt ks d a (fun z hz => h z (by simp [hz])) ha
    refine ⟨by simp only [nodesXs, List.length_append, cntXs, h1.1, h2.1], fun n hn => ?_⟩
    simp only [depthXs, hgtXs]
    rw [h1.2, h2.2 _ (by omega)]
    omega
end
theorem isX_norm {x : Exp} (h : isX x = true) : isX (normX x) = true ∧ (nodesX (normX x) 1).length ≤ (nodesX x 1).length ∧ depthX (normX x) 1 ≤ depthX x 1 := by
  rw [← isExpr_eq] at h ⊢
  unfold isExpr at h ⊢
  simp only [Bool.and_eq_true, decide_eq_true_eq] at h ⊢
  have hs := shaped_norm x 1 h.1
  have c := cnt_norm x (shaped_ar _ _ h.1)
  have n1 := nodes_cnt x 1 1 h.1 (by omega)
  have n2 := nodes_cnt (normX x) 1 1 hs (by omega)
  refine ⟨⟨hs, ?_⟩, ?_, ?_⟩
  · have := h.2; omega
  · omega
  · rw [n1.2, n2.2]; have := c.2; omega
theorem normE_less (x : Exp) : (nodesX (normE x) 1).length ≤ (nodesX x 1).length ∧ depthX (normE x) 1 ≤ depthX x 1 := by
  unfold normE
  cases h : isX x with
  | false => exact ⟨Nat.le_refl _, Int.le_refl _⟩
  | true => exact (isX_norm h).2
theorem isX_normE (x : Exp) : isX (normE x) = isX x := by
  unfold normE
  cases h : isX x with
  | false => exact h
  | true => exact (isX_norm h).1

/-! ### bulk -/
mutual
theorem nodes_le_cnt : ∀ (x : Exp) (a : Nat), (nodesX x a).length ≤ cntX x
  | .mk op v al fi ks, a => by
    have h := nodess_le_cnt ks (a + 1)
    unfold nodesX
    cases (op == 0 || decide ((a : Int) > 20)) with
    | true => simp
    | false => simp only [cond_false, List.length_cons, cntX]; omega
theorem nodess_le_cnt : ∀ (ks : List Exp) (a : Nat), (nodesXs ks a).length ≤ cntXs ks
  | [], a => by simp [nodesXs]
  | k :: ks, a => by
    have h1 := nodes_le_cnt k a
    have h2 := nodess_le_cnt ks a
    simp only [nodesXs, List.length_append, cntXs]; omega
end
mutual
theorem cnt_bulk : ∀ x : Exp, cntX x ≤ bulkDs (encX x)
  | .mk op v al fi ks => by
    have h := cnts_bulk ks
    simp only [encX, bulkDs, bulkD, cntX]
    omega
theorem cnts_bulk : ∀ ks : List Exp, cntXs ks ≤ bulkCs (encXs ks)
  | [] => by simp [cntXs]
  | k :: ks => by
    have h1 := cnt_bulk k
    have h2 := cnts_bulk ks
    simp only [cntXs, encXs, bulkCs]; omega
end
theorem nodes_bulk (x : Exp) (a : Nat) : (nodesX x a).length ≤ bulkDs (encX x) := Nat.le_trans (nodes_le_cnt x a) (cnt_bulk x)
theorem bulkCs_mem {xs : List (List D)} {x : List D} (h : x ∈ xs) : bulkDs x ≤ bulkCs xs := by
  induction xs with
  | nil => cases h
  | cons y ys ih =>
    simp only [bulkCs]
    rcases List.mem_cons.1 h with rfl | h
    · omega
    · have := ih h; omega
theorem pat_bulk {p : Pat} {e : El} (h : e ∈ p.els) (a : Nat) : (nodesX e.cond a).length ≤ bulkDs (encP p) := by
  have h1 := nodes_bulk e.cond a
  have h2 := bulkCs_mem (List.mem_map.2 ⟨e, h, rfl⟩ : encL e ∈ p.els.map encL)
  have h3 : bulkDs (encX e.cond) ≤ bulkDs (encL e) := by
    simp only [encL, bulkDs]; omega
  have h4 : bulkCs (p.els.map encL) ≤ bulkDs (encP p) := by
    simp only [encP, bulkDs, bulkD]; omega
  omega

/-! ### Law 12: other names -/
def Exp.al : Exp → ByteArray | .mk _ _ al _ _ => al
def re1 (a b s : ByteArray) : ByteArray := bif same s a then b else s
def namesX (x : Exp) (s : ByteArray) : Bool := (nodesX x 1).any fun n => same n.al s
def frB : ByteArray := ⟨#[102, 114, 101, 115, 104, 101, 115, 116]⟩
def newAl (k : Nat) (l : List El) : List El := match l[k]? with
  | some e => l.set k { e with al := frB }
  | none => l
def flip0 (l : List El) : List El := match l[0]? with
  | some e => l.set 0 { e with plus := !e.plus }
  | none => l
def naEls (p : Pat) (k : Nat) (a : ByteArray) : List El := newAl k (p.els.map (renL (re1 a frB)))
def naP (p : Pat) (k : Nat) (a : ByteArray) (c : Nat) : Pat :=
  bif c == 1 then ⟨naEls p k a, p.within, p.byf, !p.any⟩ else bif c == 2 then ⟨naEls p k a, (p.within + 1).tmod 1000, p.byf, p.any⟩
  else bif c == 3 then ⟨flip0 (naEls p k a), p.within, p.byf, p.any⟩ else ⟨naEls p k a, p.within, p.byf, p.any⟩
theorem newAl_len (k : Nat) (l : List El) : (newAl k l).length = l.length := by
  unfold newAl; split <;> simp
theorem flip0_len (l : List El) : (flip0 l).length = l.length := by
  unfold flip0; split <;> simp
end Go.AL
