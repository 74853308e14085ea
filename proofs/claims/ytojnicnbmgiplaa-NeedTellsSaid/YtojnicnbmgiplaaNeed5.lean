/- Parts of an abstract logic over the kit's walks, and walks in it: Need5. -/
import Derived.Test.YtojnicnbmgiplaaNeed4
/- In a checked pattern every alias that a condition names is an element's; plain data. -/
namespace Go.AL
open Go.Proofs
set_option linter.unusedVariables false
set_option linter.unusedSimpArgs false
theorem kRs_all5 {s : List Ty} {l : List El} : ∀ {ks : List Exp}, (kRs s l ks).2 = 0 → ∀ k ∈ ks, (kR s l k).2 = 0
  | [], _, k, hk => by cases hk
  | x :: ks, h, k, hk => by
    have h : (bif (kR s l x).2 != 0 then (([], (kR s l x).2) : List Int × Int) else bif (kRs s l ks).2 != 0 then ([], (kRs s l ks).2) else ((kR s l x).1 :: (kRs s l ks).1, 0)).2 = 0 := by rw [kRs] at h; exact h
    cases h1 : (kR s l x).2 != 0 with
    | true => rw [h1] at h; exact absurd h (bne_iff_ne.1 h1)
    | false =>
      have e1 := bne_eq_false_iff_eq.1 h1
      rw [h1] at h
      cases h2 : (kRs s l ks).2 != 0 with
      | true => rw [h2] at h; exact absurd h (bne_iff_ne.1 h2)
      | false =>
        rcases List.mem_cons.1 hk with rfl | hk
        · exact e1
        · exact kRs_all5 (bne_eq_false_iff_eq.1 h2) k hk
theorem nodesXs_mem5 : ∀ {ks : List Exp} {a : Nat} {y : Exp}, y ∈ nodesXs ks a → ∃ k ∈ ks, y ∈ nodesX k a ∧ ∀ z ∈ nodesX k a, z ∈ nodesXs ks a
  | [], a, y, h => by simp [nodesXs] at h
  | x :: ks, a, y, h => by
    rw [nodesXs] at h ⊢
    rcases List.mem_append.1 h with h | h
    · exact ⟨x, by simp, h, fun z hz => List.mem_append_left _ hz⟩
    · obtain ⟨k, hk, h1, h2⟩ := nodesXs_mem5 h
      exact ⟨k, by simp [hk], h1, fun z hz => List.mem_append_right _ (h2 z hz)⟩
theorem kR_found {s : List Ty} {l : List El} : ∀ (n : Nat) (x : Exp), SizeOf.sizeOf x < n → ∀ a, (kR s l x).2 = 0 → (∀ y ∈ nodesX x a, isNodeX y = true) → ∀ y ∈ nodesX x a, (y.op == 2) = true → ∃ d ∈ l, same d.al y.al = true
  | 0, x, hs, _, _, _, _, _, _ => by omega
  | n + 1, .mk op v al fi ks, hs, a, h, hn, y, hy, ho => by
    unfold nodesX at hy hn
    cases h0 : (op == 0 || decide ((a : Int) > 20)) with
    | true => rw [h0] at hy; cases hy
    | false =>
      rw [h0] at hy hn
      simp only [cond_false] at hy hn
      have hself := hn _ List.mem_cons_self
      have hkids : (op == 1) = true ∨ (op == 2) = true → ks = [] := fun hop => by
        rw [isNodeX] at hself
        cases hq : (decide (op < 1) || decide (op > 12)) || (((ks.length : Int) != kidsN op)) with
        | true => rw [hq] at hself; cases hself
        | false =>
          rw [Bool.or_eq_false_iff] at hq
          have hl := bne_eq_false_iff_eq.1 hq.2
          have hk0 : kidsN op = 0 := by rcases hop with q | q <;> rw [beq_iff_eq.1 q] <;> rfl
          rw [hk0] at hl
          exact List.length_eq_zero_iff.1 (by omega)
      rw [kR] at h
      rcases List.mem_cons.1 hy with rfl | hy
      · have ho : (op == 2) = true := ho
        have h1 : (op == 1) = false := by rw [beq_iff_eq.1 ho]; rfl
        rw [h1, ho] at h
        simp only [cond_false, cond_true] at h
        cases hf : l.findIdx? (fun e => same e.al al) with
        | none => rw [hf] at h; exact absurd h (show ¬ (13 : Int) = 0 by decide)
        | some i =>
          obtain ⟨hi, h1, _⟩ := List.findIdx?_eq_some_iff_getElem.1 hf
          exact ⟨l[i], List.getElem_mem hi, h1⟩
      · cases h1 : op == 1 with
        | true => rw [hkids (.inl h1)] at hy; simp [nodesXs] at hy
        | false =>
          cases h2 : op == 2 with
          | true => rw [hkids (.inr h2)] at hy; simp [nodesXs] at hy
          | false =>
            rw [h1, h2] at h
            simp only [cond_false] at h
            cases h3 : (kRs s l ks).2 != 0 with
            | true => rw [h3] at h; exact absurd h (bne_iff_ne.1 h3)
            | false =>
              obtain ⟨k, hk, g1, g2⟩ := nodesXs_mem5 hy
              exact kR_found n k (by have := List.sizeOf_lt_of_mem hk; simp at hs; omega) (a + 1) (kRs_all5 (bne_eq_false_iff_eq.1 h3) k hk) (fun z hz => hn z (List.mem_cons_of_mem _ (g2 z hz))) y g1 ho
theorem els_found {s : List Ty} : ∀ {r seen : List El}, elsR s seen r = 0 → ∀ e ∈ r, ∃ sn : List El, condR s sn e = 0 ∧ ∀ d ∈ sn, d ∈ seen ∨ d ∈ r
  | [], _, _, e, he => by cases he
  | x :: r, seen, h, e, he => by
    have h : (bif elR s seen x != 0 then elR s seen x else elsR s (seenN seen x) r) = 0 := h
    cases h1 : elR s seen x != 0 with
    | true => rw [h1] at h; exact absurd h (bne_iff_ne.1 h1)
    | false =>
      rw [h1] at h
      have e1 := bne_eq_false_iff_eq.1 h1
      rcases List.mem_cons.1 he with rfl | he
      · refine ⟨seen, ?_, fun d hd => .inl hd⟩
        unfold elR at e1
        cases h2 : !tysOk s e.tys with
        | true => rw [h2] at e1; exact absurd e1 (show ¬ (13 : Int) = 0 by decide)
        | false => rw [h2] at e1; exact e1
      · obtain ⟨sn, g1, g2⟩ := els_found (r := r) h e he
        refine ⟨sn, g1, fun d hd => ?_⟩
        rcases g2 d hd with g | g
        · unfold seenN at g
          cases hq : !x.neg with
          | true =>
            rw [hq] at g
            rcases List.mem_append.1 g with g | g
            · exact .inl g
            · exact .inr (by rw [List.mem_singleton.1 g]; simp)
          | false => rw [hq] at g; exact .inl g
        · exact .inr (List.mem_cons_of_mem _ g)
/-- Every field that a checked pattern's condition names has its element. -/
theorem chk_found {s : List Ty} {p : Pat} (h : chkR s p = 0) {e : El} (he : e ∈ p.els) {x : Exp} (hx : x ∈ nodesX e.cond 1) (ho : (x.op == 2) = true) : ∃ d ∈ p.els, same d.al x.al = true := by
  have hp := chk_isPat h
  have hr : elsR s [] p.els = 0 := by
    unfold chkR at h
    rw [hp] at h
    cases h1 : elsR s [] p.els != 0 with
    | true => rw [h1] at h; exact absurd h (bne_iff_ne.1 h1)
    | false => exact bne_eq_false_iff_eq.1 h1
  obtain ⟨sn, hc, hs⟩ := els_found hr e he
  unfold condR at hc
  have hop : (e.cond.op != 0) = true := by
    cases hq : e.cond.op != 0 with
    | true => rfl
    | false =>
      obtain ⟨o, v, a, f, k, hsh⟩ := Exp.shape e.cond
      rw [hsh] at hx hq
      have h0 : (o == 0) = true := beq_iff_eq.2 (bne_eq_false_iff_eq.1 hq)
      unfold nodesX at hx
      rw [h0] at hx
      cases hx
  rw [hop, cond_true] at hc
  cases h2 : (kindR s (sn ++ [e]) e.cond).2 != 0 with
  | true => rw [h2] at hc; exact absurd hc (bne_iff_ne.1 h2)
  | false =>
    have hk := bne_eq_false_iff_eq.1 h2
    unfold kindR at hk
    cases hX : isX e.cond with
    | false => rw [hX] at hk; exact absurd hk (show ¬ (10 : Int) = 0 by decide)
    | true =>
      rw [hX] at hk
      have hall : ∀ y ∈ nodesX e.cond 1, isNodeX y = true := by
        unfold isX at hX
        simp only [Bool.and_eq_true] at hX
        exact List.all_eq_true.1 hX.2.2.1
      obtain ⟨d, hd, g⟩ := kR_found _ e.cond (Nat.lt_succ_self _) 1 hk hall x hx ho
      refine ⟨d, ?_, g⟩
      rcases List.mem_append.1 hd with hd | hd
      · rcases hs d hd with q | q
        · cases q
        · exact q
      · rw [List.mem_singleton.1 hd]; exact he
end Go.AL
