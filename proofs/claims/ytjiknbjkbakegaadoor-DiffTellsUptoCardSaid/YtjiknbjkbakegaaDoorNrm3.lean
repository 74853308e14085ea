/- Parts of an abstract logic over the kit's walks, and walks in it: Nrm3. -/
import Derived.Test.YtjiknbjkbakegaaDoorNrm2
/- Other names change nothing: plain laws. Nothing of a program. -/
namespace Go.AL
set_option linter.unusedVariables false
set_option linter.unusedSimpArgs false

theorem renX_op (r : ByteArray → ByteArray) (x : Exp) : (renX r x).op = x.op := by cases x; simp [renX, Exp.op]
theorem renX_zero (r : ByteArray → ByteArray) : renX r zeroX = zeroX := by
  unfold zeroX
  simp only [renX, renXs]
  rfl
theorem renX_flip (r : ByteArray → ByteArray) (Y y : Exp) : renX r (flipX Y y) = flipX (renX r Y) (renX r y) := by
  obtain ⟨o1, v1, a1, f1, k1⟩ := y
  have e0 : flipX Y (.mk o1 v1 a1 f1 k1) = (bif o1 == 12 then k1.headD zeroX else bif o1 == 6 then .mk 7 zV nul nul k1 else bif o1 == 7 then .mk 6 zV nul nul k1 else bif o1 == 8 then .mk 9 zV nul nul (swap2 k1) else bif o1 == 9 then .mk 8 zV nul nul (swap2 k1) else Y) := rfl
  have e1 : flipX (renX r Y) (renX r (.mk o1 v1 a1 f1 k1)) = (bif o1 == 12 then (renXs r k1).headD zeroX else bif o1 == 6 then .mk 7 zV nul nul (renXs r k1) else bif o1 == 7 then .mk 6 zV nul nul (renXs r k1) else bif o1 == 8 then .mk 9 zV nul nul (swap2 (renXs r k1)) else bif o1 == 9 then .mk 8 zV nul nul (swap2 (renXs r k1)) else renX r Y) := by
    conv => lhs; rw [renX]
    rfl
  rw [e0, e1]
  have hs : renXs r (swap2 k1) = swap2 (renXs r k1) := by
    match k1 with
    | [] => simp [swap2, renXs]
    | [a] => simp [swap2, renXs]
    | [a, b] => simp [swap2, renXs]
    | a :: b :: c :: l => simp [swap2, renXs]
  cases (o1 == 12) with
  | true =>
    cases k1 with
    | nil => simp only [renXs, List.headD_nil, cond_true]; exact renX_zero r
    | cons z l => simp only [renXs, List.headD_cons, cond_true]
  | false =>
  cases (o1 == 6) with
  | true => simp only [cond_true, cond_false, renX]; rfl
  | false =>
  cases (o1 == 7) with
  | true => simp only [cond_true, cond_false, renX]; rfl
  | false =>
  cases (o1 == 8) with
  | true => simp only [cond_true, cond_false, renX, hs]; rfl
  | false =>
  cases (o1 == 9) with
  | true => simp only [cond_true, cond_false, renX, hs]; rfl
  | false => simp only [cond_false]
mutual
theorem norm_ren (r : ByteArray → ByteArray) : ∀ x : Exp, normX (renX r x) = renX r (normX x)
  | .mk op v al fi ks => by
    have hk := norms_ren r ks
    have e1 : normX (renX r (.mk op v al fi ks)) = turnX op v (bif op == 2 then r al else al) fi (normXs (renXs r ks)) := by
      conv => lhs; rw [renX, normX]
    have e2 : normX (.mk op v al fi ks) = turnX op v al fi (normXs ks) := by rw [normX]
    rw [e1, e2, hk]
    unfold turnX
    cases h12 : (op == 12) with
    | false => simp only [cond_false, renX]
    | true =>
      have : op = 12 := by simpa using h12
      subst this
      simp only [cond_true]
      rw [renX_flip]
      have e3 : renX r (.mk 12 v al fi (normXs ks)) = .mk 12 v al fi (renXs r (normXs ks)) := by rw [renX]; rfl
      rw [e3]
      congr 1
      cases normXs ks with
      | nil => simp only [renXs, List.headD_nil]; exact (renX_zero r).symm
      | cons z l => simp only [renXs, List.headD_cons]
theorem norms_ren (r : ByteArray → ByteArray) : ∀ ks : List Exp, normXs (renXs r ks) = renXs r (normXs ks)
  | [] => by simp [normXs, renXs]
  | k :: ks => by simp only [normXs, renXs]; rw [norm_ren r k, norms_ren r ks]
end
mutual
theorem ren_ren (r s : ByteArray → ByteArray) : ∀ x : Exp, renX r (renX s x) = renX (fun a => r (s a)) x
  | .mk op v al fi ks => by
    simp only [renX]
    rw [rens_rens r s ks]
    cases (op == 2) <;> rfl
theorem rens_rens (r s : ByteArray → ByteArray) : ∀ ks : List Exp, renXs r (renXs s ks) = renXs (fun a => r (s a)) ks
  | [] => by simp [renXs]
  | k :: ks => by simp only [renXs]; rw [ren_ren r s k, rens_rens r s ks]
end
mutual
theorem ren_congr {r s : ByteArray → ByteArray} (h : ∀ a, r a = s a) : ∀ x : Exp, renX r x = renX s x
  | .mk op v al fi ks => by simp only [renX, h al, rens_congr h ks]
theorem rens_congr {r s : ByteArray → ByteArray} (h : ∀ a, r a = s a) : ∀ ks : List Exp, renXs r ks = renXs s ks
  | [] => by simp [renXs]
  | k :: ks => by simp only [renXs, ren_congr h k, rens_congr h ks]
end
mutual
theorem shaped_ren {r : ByteArray → ByteArray} (hr : ∀ s, isName (r s) = isName s) : ∀ (x : Exp) (d : Nat), shapedX (renX r x) d = shapedX x d
  | .mk op v al fi ks, d => by
    have hk := shapeds_ren hr ks (d + 1)
    simp only [renX, shapedX, renXs_len, hk]
    cases e1 : (op == 1) with
    | true =>
      have : op = 1 := by simpa using e1
      subst this
      rfl
    | false =>
      cases e2 : (op == 2) with
      | true => simp only [cond_true, cond_false, hr al]
      | false => simp only [cond_false]
theorem shapeds_ren {r : ByteArray → ByteArray} (hr : ∀ s, isName (r s) = isName s) : ∀ (ks : List Exp) (d : Nat), shapedXs (renXs r ks) d = shapedXs ks d
  | [], d => by simp [renXs]
  | k :: ks, d => by simp only [renXs, shapedXs, shaped_ren hr k d, shapeds_ren hr ks d]
end
mutual
theorem nodes_ren (r : ByteArray → ByteArray) : ∀ (x : Exp) (a : Nat), (nodesX (renX r x) a).length = (nodesX x a).length
  | .mk op v al fi ks, a => by
    have hk := nodess_ren r ks (a + 1)
    simp only [renX, nodesX]
    cases (op == 0 || decide ((a : Int) > 20)) with
    | true => rfl
    | false => simp only [cond_false, List.length_cons, hk]
theorem nodess_ren (r : ByteArray → ByteArray) : ∀ (ks : List Exp) (a : Nat), (nodesXs (renXs r ks) a).length = (nodesXs ks a).length
  | [], a => by simp [renXs]
  | k :: ks, a => by simp only [renXs, nodesXs, List.length_append, nodes_ren r k a, nodess_ren r ks a]
end
theorem isX_ren {r : ByteArray → ByteArray} (hr : ∀ s, isName (r s) = isName s) (x : Exp) : isX (renX r x) = isX x := by
  rw [← isExpr_eq, ← isExpr_eq]
  unfold isExpr
  rw [shaped_ren hr, nodes_ren]
theorem normE_ren {r : ByteArray → ByteArray} (hr : ∀ s, isName (r s) = isName s) (x : Exp) : normE (renX r x) = renX r (normE x) := by
  unfold normE
  rw [isX_ren hr]
  cases isX x with
  | false => rfl
  | true => exact norm_ren r x
mutual
theorem ren_id {r : ByteArray → ByteArray} : ∀ (x : Exp) (d a : Nat), shapedX x d = true → a ≤ d + 15 → (∀ n ∈ nodesX x a, r n.al = n.al) → renX r x = x
  | .mk op v al fi ks, d, a => fun h ha hn => by
    obtain ⟨h1, h2, h3, h4, h5, h6⟩ := shaped_inv h
    have h0 : (op == 0 || decide ((a : Int) > 20)) = false := by simp; omega
    rw [nodesX_go h0] at hn
    have e : r al = al := hn (.mk op v al fi ks) (by simp)
    have hk := rens_id ks (d + 1) (a + 1) h5 (by omega) fun n hm => hn n (by simp [hm])
    simp only [renX, hk, e]
    cases (op == 2) <;> rfl
theorem rens_id {r : ByteArray → ByteArray} : ∀ (ks : List Exp) (d a : Nat), (∀ k ∈ ks, shapedX k d = true) → a ≤ d + 15 → (∀ n ∈ nodesXs ks a, r n.al = n.al) → renXs r ks = ks
  | [], d, a, _, _, _ => by simp [renXs]
  | k :: ks, d, a, h, ha, hn => by
    simp only [nodesXs, List.mem_append] at hn
    simp only [renXs]
    rw [ren_id k d a (h k (by simp)) ha fun n hm => hn n (.inl hm), rens_id ks d a (fun z hz => h z (by simp [hz])) ha fun n hm => hn n (.inr hm)]
end

/-! ### The elements' names -/
theorem isPat_els {p : Pat} (h : isPat p = true) {i : Nat} {e : El} (he : p.els[i]? = some e) : elOk p i e = true := by
  unfold isPat at h
  simp only [Bool.and_eq_true] at h
  have h2 := h.2
  unfold elsOk at h2
  rw [List.all_eq_true] at h2
  have := h2 i (by simpa using (List.getElem?_eq_some_iff.1 he).1)
  rw [he] at this
  exact this
theorem isPat_len {p : Pat} (h : isPat p = true) : 1 ≤ p.els.length ∧ p.els.length ≤ 5 ∧ 0 ≤ p.within ∧ p.within ≤ 1000 := by
  unfold isPat headP at h
  simp only [Bool.and_eq_true, Bool.not_eq_true', decide_eq_false_iff_not] at h
  omega
theorem isPat_name {p : Pat} (h : isPat p = true) {i : Nat} {e : El} (he : p.els[i]? = some e) : isName e.al = true := by
  have := isPat_els h he
  rw [elOk_eq, elHead_of he] at this
  simp only [Bool.and_eq_true] at this
  exact this.1.1
theorem isPat_idx {p : Pat} (h : isPat p = true) {i : Nat} {e : El} (he : p.els[i]? = some e) : idx (fun x => same x.al e.al) p.els = (i : Int) := by
  have := isPat_els h he
  rw [elOk_eq, elHead_of he] at this
  simp only [Bool.and_eq_true, beq_iff_eq] at this
  exact this.1.2.1
theorem isPat_cond {p : Pat} (h : isPat p = true) {i : Nat} {e : El} (he : p.els[i]? = some e) : sameX e.cond zeroX = true ∨ isX e.cond = true := by
  have := isPat_els h he
  rw [elOk_eq] at this
  unfold elTail at this
  simp only [Bool.and_eq_true, Bool.or_eq_true] at this
  exact this.2.2
theorem sameX_zero {x : Exp} (h : sameX x zeroX = true) : x = zeroX := by
  obtain ⟨op, v, al, fi, ks⟩ := x
  unfold zeroX at h ⊢
  unfold sameX at h
  simp only [Bool.and_eq_true, beq_iff_eq] at h
  obtain ⟨h1, h2, h3, h4, h5⟩ := h
  have e2 := sameV_eq h2
  have e3 := same_eq h3
  have e4 := same_eq h4
  have e5 : ks = [] := by
    cases ks with
    | nil => rfl
    | cons k ks => simp [sameXs] at h5
  rw [h1, e2, e3, e4, e5]
theorem idx_nat {α : Type} {p : α → Bool} {l : List α} {j : Nat} (h : idx p l = (j : Int)) : l.findIdx? p = some j := by
  unfold idx at h
  cases hf : l.findIdx? p with
  | none => rw [hf] at h; simp at h
  | some i =>
    rw [hf] at h
    have h : (i : Int) = (j : Int) := h
    have : i = j := by omega
    rw [this]

/-- The other row: the same names, but for the k-th. -/
structure Called (P Q : List El) (k : Nat) (a : ByteArray) : Prop where
  len : P.length = Q.length
  at_ : ∀ (j : Nat) (e : El), P[j]? = some e → ∃ e', Q[j]? = some e' ∧ e'.al = (if j = k then frB else e.al)
  kth : ∃ e, P[k]? = some e ∧ e.al = a
  once : ∀ (j : Nat) (e : El), P[j]? = some e → idx (fun x => same x.al e.al) P = (j : Int)
  none : ∀ (j : Nat) (e : El), P[j]? = some e → same e.al frB = false
theorem Called.to {P Q : List El} {k : Nat} {a : ByteArray} (c : Called P Q k a) (s : ByteArray) : nm P Q s = re1 a frB s := by
  obtain ⟨ek, hk, ha⟩ := c.kth
  unfold re1
  rcases idx_cases (fun x : El => same x.al s) P with ⟨j, e, h1, h2, h3, _⟩ | ⟨h1, h2⟩
  · have hs : e.al = s := same_eq h3
    obtain ⟨e', h4, h5⟩ := c.at_ j e h2
    rw [nm_some h1 h4, h5]
    by_cases hj : j = k
    · subst hj
      have : e = ek := by rw [hk] at h2; exact (Option.some.inj h2).symm
      subst this
      rw [if_pos rfl, ← hs, ha, same_refl]; rfl
    · rw [if_neg hj, hs]
      cases hsa : same s a with
      | false => rfl
      | true =>
        have e1 : s = a := same_eq hsa
        have h6 := c.once k ek hk
        rw [ha, ← e1] at h6
        rw [h1] at h6
        exact absurd (by omega) hj
  · rw [nm_none (.inl (by rw [h1]; decide))]
    cases hsa : same s a with
    | false => rfl
    | true =>
      have e1 : s = a := same_eq hsa
      have := h2 ek (List.mem_of_getElem? hk)
      rw [ha, e1, same_refl] at this
      cases this
theorem Called.back {P Q : List El} {k : Nat} {a : ByteArray} (c : Called P Q k a) (s : ByteArray) (hs : same s frB = false) : nm Q P (re1 a frB s) = s := by
  obtain ⟨ek, hk, ha⟩ := c.kth
  unfold re1
  have hQ : ∀ (j : Nat) (e' : El), Q[j]? = some e' → ∃ e, P[j]? = some e ∧ e'.al = (if j = k then frB else e.al) := fun j e' h => by
    have hlt := (List.getElem?_eq_some_iff.1 h).1
    have hlt' : j < P.length := by rw [c.len]; exact hlt
    obtain ⟨e'', h1, h2⟩ := c.at_ j P[j] (List.getElem?_eq_getElem hlt')
    rw [h] at h1
    cases h1
    exact ⟨_, List.getElem?_eq_getElem hlt', h2⟩
  cases hsa : same s a with
  | true =>
    have e1 : s = a := same_eq hsa
    simp only [cond_true]
    rcases idx_cases (fun x : El => same x.al frB) Q with ⟨j, e', h1, h2, h3, _⟩ | ⟨h1, h2⟩
    · obtain ⟨e, h4, h5⟩ := hQ j e' h2
      by_cases hj : j = k
      · subst hj
        rw [nm_some h1 h4]
        have : e = ek := by rw [hk] at h4; exact (Option.some.inj h4).symm
        rw [this, ha, e1]
      · rw [if_neg hj] at h5
        have h3 : same e'.al frB = true := h3
        rw [h5, c.none j e h4] at h3
        cases h3
    · obtain ⟨e', h4, h5⟩ := c.at_ k ek hk
      have := h2 e' (List.mem_of_getElem? h4)
      rw [h5, if_pos rfl, same_refl] at this
      cases this
  | false =>
    simp only [cond_false]
    rcases idx_cases (fun x : El => same x.al s) Q with ⟨j, e', h1, h2, h3, _⟩ | ⟨h1, h2⟩
    · obtain ⟨e, h4, h5⟩ := hQ j e' h2
      have h3 : e'.al = s := same_eq h3
      by_cases hj : j = k
      · rw [if_pos hj, h3] at h5
        rw [h5, same_refl] at hs
        cases hs
      · rw [if_neg hj, h3] at h5
        rw [nm_some h1 h4, h5]
    · rw [nm_none (.inl (by rw [h1]; decide))]
theorem frB_name : isName frB = true := by decide +kernel
theorem re1_name {a : ByteArray} (ha : isName a = true) (s : ByteArray) : isName (re1 a frB s) = isName s := by
  unfold re1
  cases h : same s a with
  | false => rfl
  | true => rw [same_eq h, ha]; exact frB_name

/-! ### Equal or not -/
theorem eqP_any {p q : Pat} (h : (p.any == q.any) = false) : eqP p q = false := by
  unfold eqP sameP
  have : ((asP p q).any == (normP q).any) = false := h
  rw [this]; simp
theorem eqP_within {p q : Pat} (h : (p.within == q.within) = false) : eqP p q = false := by
  unfold eqP sameP
  have : ((asP p q).within == (normP q).within) = false := h
  rw [this]; simp
theorem eqP_plus {p q : Pat} {e f : El} (he : p.els[0]? = some e) (hf : q.els[0]? = some f) (h : (e.plus == f.plus) = false) : eqP p q = false := by
  unfold eqP sameP
  have h1 : (asP p q).els[0]? = some (callAs (renL (nm p.els q.els) (normL e)) (normL f)) := by
    unfold asP
    simp only [List.getElem?_zipWith, List.getElem?_map, he, hf, Option.map_some]
  have h2 : (normP q).els[0]? = some (normL f) := by
    unfold normP
    simp only [List.getElem?_map, hf, Option.map_some]
  have h3 : sameL (callAs (renL (nm p.els q.els) (normL e)) (normL f)) (normL f) = false := by
    unfold sameL
    have : ((callAs (renL (nm p.els q.els) (normL e)) (normL f)).plus == (normL f).plus) = false := h
    rw [this]; simp
  rw [allSame_ne h1 h2 h3]; simp
theorem eqP_els {p q : Pat} (hl : p.els.length = q.els.length) (hw : p.within = q.within) (hb : p.byf = q.byf) (ha : p.any = q.any)
    (h : ∀ (i : Nat) (e f : El), p.els[i]? = some e → q.els[i]? = some f → callAs (renL (nm p.els q.els) (normL e)) (normL f) = normL f) : eqP p q = true := by
  unfold eqP
  rw [decide_eq_true hl, Bool.true_and]
  have : asP p q = normP q := by
    unfold asP normP
    have e1 : List.zipWith callAs ((p.els.map normL).map (renL (nm p.els q.els))) (q.els.map normL) = q.els.map normL := by
      refine List.ext_getElem? fun i => ?_
      simp only [List.getElem?_zipWith, List.getElem?_map]
      cases he : p.els[i]? with
      | none =>
        have : q.els[i]? = none := by
          rw [List.getElem?_eq_none_iff] at he ⊢
          omega
        rw [this]; rfl
      | some e =>
        cases hf : q.els[i]? with
        | none =>
          rw [List.getElem?_eq_none_iff] at hf
          have := (List.getElem?_eq_some_iff.1 he).1
          omega
        | some f =>
          simp only [Option.map_some]
          rw [h i e f he hf]
    rw [e1, hw, hb, ha]
  rw [this]
  exact sameP_self _

theorem naEls_at {p : Pat} {k : Nat} {a : ByteArray} {ek : El} (hk : p.els[k]? = some ek) {j : Nat} {e : El} (he : p.els[j]? = some e) :
    (naEls p k a)[j]? = some (if j = k then { renL (re1 a frB) e with al := frB } else renL (re1 a frB) e) := by
  unfold naEls newAl
  have h1 : (p.els.map (renL (re1 a frB)))[k]? = some (renL (re1 a frB) ek) := by simp only [List.getElem?_map, hk, Option.map_some]
  rw [h1]
  simp only
  rw [List.getElem?_set]
  by_cases hj : k = j
  · subst hj
    have : e = ek := by rw [hk] at he; exact (Option.some.inj he).symm
    subst this
    rw [if_pos rfl, if_pos rfl, if_pos (by simpa using (List.getElem?_eq_some_iff.1 hk).1)]
  · rw [if_neg hj, if_neg (fun h => hj h.symm)]
    simp only [List.getElem?_map, he, Option.map_some]
theorem naEls_len (p : Pat) (k : Nat) (a : ByteArray) : (naEls p k a).length = p.els.length := by
  unfold naEls; rw [newAl_len]; simp

theorem na_called {p : Pat} (hp : isPat p = true) {k : Nat} {ek : El} (hk : p.els[k]? = some ek) (hf : ∀ (j : Nat) (e : El), p.els[j]? = some e → same e.al frB = false) : Called p.els (naEls p k ek.al) k ek.al :=
  ⟨(naEls_len p k ek.al).symm, fun j e he => ⟨_, naEls_at hk he, by by_cases hj : j = k <;> simp [hj, renL]⟩, ⟨ek, hk, rfl⟩, fun j e he => isPat_idx hp he, hf⟩

theorem ren_cond {x : Exp} {r s : ByteArray → ByteArray} (hx : sameX x zeroX = true ∨ isX x = true) (h : ∀ a, same a frB = false → r (s a) = a) (hn : namesX x frB = false) : renX r (normE (renX s x)) = normE x ∨ isX (renX s x) ≠ isX x := by
  by_cases hi : isX (renX s x) = isX x
  · left
    have hid : renX (fun a => r (s a)) x = x := by
      rcases hx with hz | hv
      · rw [sameX_zero hz]; exact renX_zero _
      · rw [← isExpr_eq] at hv
        unfold isExpr at hv
        simp only [Bool.and_eq_true] at hv
        refine ren_id x 1 1 hv.1 (by omega) fun n hm => h n.al ?_
        unfold namesX at hn
        rw [List.any_eq_false] at hn
        simpa using hn n hm
    unfold normE
    rw [hi]
    cases isX x with
    | false => simp only [cond_false]; rw [ren_ren]; exact hid
    | true =>
      simp only [cond_true]
      rw [← norm_ren, ren_ren, hid]
  · exact .inr hi
theorem na_eq {p : Pat} (hp : isPat p = true) {k : Nat} {ek : El} (hk : p.els[k]? = some ek) (hf : ∀ (j : Nat) (e : El), p.els[j]? = some e → same e.al frB = false ∧ namesX e.cond frB = false) {c : Nat} (hc : c < 4) :
    eqP p (naP p k ek.al c) = (c == 0) ∧ eqP (naP p k ek.al c) p = (c == 0) := by
  obtain ⟨l1, l5, w0, w1⟩ := isPat_len hp
  obtain ⟨e0, he0⟩ : ∃ e, p.els[0]? = some e := ⟨_, List.getElem?_eq_getElem (by omega)⟩
  have hC := na_called hp hk fun j e he => (hf j e he).1
  have hnm := isPat_name hp hk
  have hr := re1_name hnm
  rcases (by omega : c = 0 ∨ c = 1 ∨ c = 2 ∨ c = 3) with rfl | rfl | rfl | rfl
  · have e : naP p k ek.al 0 = ⟨naEls p k ek.al, p.within, p.byf, p.any⟩ := rfl
    rw [e]
    constructor
    · refine eqP_els (naEls_len p k ek.al).symm rfl rfl rfl fun i e f he hfi => ?_
      have hfi : (naEls p k ek.al)[i]? = some f := hfi
      rw [naEls_at hk he] at hfi
      have hfi := Option.some.inj hfi
      have hcond : renX (nm p.els (naEls p k ek.al)) (normE e.cond) = normE (renX (re1 ek.al frB) e.cond) := by
        rw [normE_ren hr, ren_congr hC.to]
      subst hfi
      show callAs (renL (nm p.els (naEls p k ek.al)) (normL e)) _ = _
      by_cases hj : i = k
      · simp only [if_pos hj]
        unfold callAs renL normL
        simp only [hcond]
      · simp only [if_neg hj]
        unfold callAs renL normL
        simp only [hcond]
    · refine eqP_els (naEls_len p k ek.al) rfl rfl rfl fun i f e hfi he => ?_
      have hfi : (naEls p k ek.al)[i]? = some f := hfi
      rw [naEls_at hk he] at hfi
      have hfi := Option.some.inj hfi
      have hcond : renX (nm (naEls p k ek.al) p.els) (normE (renX (re1 ek.al frB) e.cond)) = normE e.cond := by
        rcases ren_cond (r := nm (naEls p k ek.al) p.els) (s := re1 ek.al frB) (isPat_cond hp he) (fun a ha => hC.back a ha) (hf i e he).2 with h | h
        · exact h
        · exact absurd (isX_ren hr e.cond) h
      subst hfi
      show callAs (renL (nm (naEls p k ek.al) p.els) (normL _)) (normL e) = _
      by_cases hj : i = k
      · simp only [if_pos hj]
        unfold callAs renL normL
        simp only [hcond]
      · simp only [if_neg hj]
        unfold callAs renL normL
        simp only [hcond]
  · have e : naP p k ek.al 1 = ⟨naEls p k ek.al, p.within, p.byf, !p.any⟩ := rfl
    rw [e]
    exact ⟨eqP_any (by cases p.any <;> rfl), eqP_any (by cases p.any <;> rfl)⟩
  · have e : naP p k ek.al 2 = ⟨naEls p k ek.al, (p.within + 1).tmod 1000, p.byf, p.any⟩ := rfl
    rw [e]
    have hne : ¬ p.within = (p.within + 1).tmod 1000 := by
      obtain ⟨w, hw⟩ := Int.eq_ofNat_of_zero_le w0
      rw [hw, show ((w : Int) + 1) = ((w + 1 : Nat) : Int) by omega, show (1000 : Int) = ((1000 : Nat) : Int) from rfl, ← Int.ofNat_tmod]
      omega
    exact ⟨eqP_within (by simpa using hne), eqP_within (by simpa using fun h => hne h.symm)⟩
  · have e : naP p k ek.al 3 = ⟨flip0 (naEls p k ek.al), p.within, p.byf, p.any⟩ := rfl
    rw [e]
    obtain ⟨z, hz, hzp⟩ : ∃ z, (naEls p k ek.al)[0]? = some z ∧ z.plus = e0.plus := by
      have hz := naEls_at (a := ek.al) hk he0
      by_cases hj : 0 = k
      · rw [if_pos hj] at hz; exact ⟨_, hz, rfl⟩
      · rw [if_neg hj] at hz; exact ⟨_, hz, rfl⟩
    have h2 : (flip0 (naEls p k ek.al))[0]? = some { z with plus := !z.plus } := by
      unfold flip0
      rw [hz]
      simp only
      rw [List.getElem?_set_self (List.getElem?_eq_some_iff.1 hz).1]
    exact ⟨eqP_plus he0 h2 (by simp only [hzp]; cases e0.plus <;> rfl), eqP_plus h2 he0 (by simp only [hzp]; cases e0.plus <;> rfl)⟩
end Go.AL
