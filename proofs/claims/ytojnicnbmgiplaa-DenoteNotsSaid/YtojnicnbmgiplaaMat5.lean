/- Parts of an abstract logic over the kit's walks, and walks in it: Mat5. -/
import Derived.Test.YtojnicnbmgiplaaMat4
/- All that goes on is matched; what is matched without skipping is matched with it, a greater window loses nothing. -/
namespace Go.AL
open Go.Proofs Go.Sort
set_option linter.unusedVariables false
set_option linter.unusedSimpArgs false
section
variable {s : List Ty} {p : Pat} {l : List Kp} {b : List Bd} {n : Nat}
theorem goes_el (hb : 0 < b.length) {x : Bd} (h : goesX s p l b x = true) : x.el = (lastBd b).el ∨ x.el = nextX p (lastBd b).el := by
  have h0 : (!(atK l x.at_).2 || (decide (x.el < 0) || decide (x.el ≥ (p.els.length : Int)))) = false := by
    cases hq : (!(atK l x.at_).2 || (decide (x.el < 0) || decide (x.el ≥ (p.els.length : Int)))) with
    | true => rw [goes_no hq] at h; cases h
    | false => rfl
  rw [goes_on h0 (by cases b with | nil => cases hb | cons _ _ => rfl) rfl rfl rfl] at h
  by_cases h1 : x.el = (lastBd b).el
  · exact .inl h1
  · right
    have hs : (x.el == (lastBd b).el && (elX p (lastBd b).el).plus) = false := by rw [beq_eq_false_iff_ne.2 h1]; rfl
    rw [hs] at h
    cases hn : (x.el != nextX p (lastBd b).el) with
    | false => exact bne_eq_false_iff_eq.1 hn
    | true =>
      rw [hn] at h
      simp at h
theorem goes_zero {x : Bd} (h : goesX s p l [] x = true) : x.el = 0 := by
  cases hq : (!(atK l x.at_).2 || (decide (x.el < 0) || decide (x.el ≥ (p.els.length : Int)))) with
  | true => rw [goes_no hq] at h; cases h
  | false =>
    rw [goes_nil hq] at h
    have := (Bool.and_eq_true_iff.1 h).1
    simpa using this
theorem at_has {z : Int} (h : (atK l z).2 = true) : ∃ (i : Nat) (x : Kp), l[i]? = some x ∧ x.at_ = z := by
  unfold atK at h
  cases hq : l.find? (fun k => k.at_ == z) with
  | none => rw [hq] at h; cases h
  | some k =>
    obtain ⟨i, hi⟩ := List.getElem?_of_mem (List.mem_of_find?_eq_some hq)
    exact ⟨i, k, hi, by simpa using List.find?_some hq⟩
theorem place_lt (hr : Rises l) {i j : Nat} {x y : Kp} (hx : l[i]? = some x) (hy : l[j]? = some y) (h : x.at_ < y.at_) : i < j := by
  rcases Nat.lt_trichotomy i j with h1 | h1 | h1
  · exact h1
  · subst h1; rw [hx] at hy; cases hy; omega
  · have := hr j i y x h1 hy hx; omega
theorem rows_stay {d : List Bd} {m : Nat} : ∀ k, d ∈ rowsX s p l m → (∀ i x, m ≤ i → i < m + k → l[i]? = some x → stays s p l x.at_ d = true) → d ∈ rowsX s p l (m + k)
  | 0, h, _ => h
  | k + 1, h, hs => by
    have ih := rows_stay k h fun i x h1 h2 => hs i x h1 (by omega)
    show d ∈ rowsX s p l ((m + k) + 1)
    unfold rowsX
    cases hx : l[m + k]? with
    | none => exact ih
    | some x => exact List.mem_append_left _ (List.mem_filter.2 ⟨ih, hs (m + k) x (by omega) (by omega) hx⟩)
theorem sk_init {c : List Bd} {y : Bd} (h : Sk s p l (c ++ [y])) : Sk s p l c ∧ (c ≠ [] → p.any = true ∨ skipsX s p l c y.at_ = false) := by
  rcases h with h | h
  · exact ⟨.inl h, fun _ => .inl h⟩
  · refine ⟨.inr fun i x h0 hx => ?_, fun hc => .inr ?_⟩
    · have hi := (List.getElem?_eq_some_iff.1 hx).1
      have := h i x h0 (by rw [List.getElem?_append_left hi]; exact hx)
      rwa [List.take_append_of_le_length (by omega)] at this
    · have := h c.length y (List.length_pos_iff.2 hc) (by simp)
      rwa [List.take_left] at this
theorem fur_none {k : Kp} {y : Bd} (hr : Rises l) {j m n : Nat} {x0 x : Kp} (h0 : l[j]? = some x0) (hl : (lastBd b).at_ = x0.at_) (hm : l[m]? = some k) (hjm : j < m) (hmn : m < n) (hx : l[n]? = some x) (hy : y.at_ = x.at_) (h : skipsX s p l b y.at_ = false) : furX s p l b k.at_ = [] := by
  have hk1 := hr j m x0 k hjm h0 hm
  have hk2 := hr m n k x hmn hm hx
  unfold skipsX at h
  have := List.any_eq_false.1 h k (by
    unfold betweenX
    exact List.mem_filter.2 ⟨List.mem_of_getElem? hm, by simp; omega⟩)
  simp only [Bool.or_eq_true, not_or, Bool.not_eq_true] at this
  unfold furX furE furF
  simp [this.1, this.2]
/-- All that goes on is there. -/
theorem pre_in (hr : Rises l) : ∀ (m : Nat) (c : List Bd), c.length = m → Gn s p l c → Sk s p l c → ∀ n x, l[n]? = some x → (lastBd c).at_ = x.at_ → c ∈ madeX s p l (rowsX s p l n) x.at_
  | 0, c, hm, hg, _, _, _, _, _ => by have := hg.1; omega
  | m + 1, c, hm, hg, hs, n, x, hx, hl => by
    obtain ⟨d, y, rfl⟩ := snoc_of hg.1
    rw [last_snoc] at hl
    obtain ⟨g1, g2⟩ := gn_init hg
    obtain ⟨s1, s2⟩ := sk_init hs
    cases hd : d with
    | nil =>
      subst hd
      have he := goes_zero g2
      obtain ⟨ye, ya⟩ := y
      simp only at he hl
      subst he; subst hl
      refine List.mem_append_right _ ?_
      unfold oneX
      rw [g2]; simp
    | cons z t =>
      have hd0 : 0 < d.length := by rw [hd]; simp
      rw [← hd]
      obtain ⟨e, w, hw⟩ := snoc_of hd0
      have hlast : d[d.length - 1]? = some w := by rw [hw]; simp
      have hwl := lastBd_at hlast
      obtain ⟨j, x0, hj, hx0⟩ := at_has (goes_there (g1 _ w hlast))
      have hlt := (goes_far hd0 g2).1
      have hjn : j < n := place_lt hr hj hx (by rw [hx0, ← hwl, ← hl]; exact hlt)
      have hin := pre_in hr m d (by simp at hm; omega) ⟨hd0, g1⟩ s1 j x0 hj (by rw [hwl, hx0])
      have hrow : d ∈ rowsX s p l (j + 1) := by rw [rows_at hj]; exact List.mem_append_right _ hin
      have hst := rows_stay (n - (j + 1)) hrow fun i k h1 h2 hk => by
        unfold stays
        rcases s2 (by rw [hd]; simp) with ha | ha
        · rw [ha]; rfl
        · rw [fur_none hr hj (by rw [hwl, hx0]) hk (by omega) (by omega) hx hl ha]; simp
      rw [show j + 1 + (n - (j + 1)) = n by omega] at hst
      refine List.mem_append_left _ (List.mem_flatMap.2 ⟨d, hst, ?_⟩)
      unfold furX
      refine List.mem_filterMap.2 ⟨y.el, ?_, ?_⟩
      · unfold furE
        rcases goes_el hd0 g2 with h | h <;> simp [h]
      · unfold furF
        rw [← hl]
        rw [show (⟨y.el, y.at_⟩ : Bd) = y from rfl, g2]; rfl
theorem out_mono : ∀ k, b ∈ outX s p l n → b ∈ outX s p l (n + k)
  | 0, h => h
  | k + 1, h => by
    have ih := out_mono k h
    show b ∈ outX s p l ((n + k) + 1)
    unfold outX
    cases l[n + k]? with
    | none => exact ih
    | some x => exact List.mem_append_left _ ih
/-- What a match is. -/
theorem mat_iff (hr : Rises l) : b ∈ matchesX s p l ↔ Gn s p l b ∧ Sk s p l b ∧ lastIs p b = true := by
  refine ⟨mat_good hr, fun ⟨h1, h2, h3⟩ => ?_⟩
  obtain ⟨e, w, hw⟩ := snoc_of h1.1
  have hlast : b[b.length - 1]? = some w := by rw [hw]; simp
  have hwl := lastBd_at hlast
  obtain ⟨n, x, hn, hx⟩ := at_has (goes_there (h1.2 _ w hlast))
  have hin := pre_in hr b.length b rfl h1 h2 n x hn (by rw [hwl, hx])
  have hf : b ∈ foundX s p l n x := List.mem_filter.2 ⟨(List.mergeSort_perm _ _).mem_iff.2 hin, h3⟩
  have ho : b ∈ outX s p l (n + 1) := by rw [out_at hn]; exact List.mem_append_right _ hf
  have hl := (List.getElem?_eq_some_iff.1 hn).1
  have := out_mono (l.length - (n + 1)) ho
  rwa [show n + 1 + (l.length - (n + 1)) = l.length by omega] at this
end
/-! ### other windows, with and without skipping -/
section
variable {s : List Ty} {els : List El} {w w' : Int} {byf : ByteArray} {a a' : Bool} {l : List Kp} {b : List Bd}
end
/-! ### rows held side by side -/
theorem mat_rows {s : List Ty} {p : Pat} {l : List Kp} (hl : l.length ≤ 11) : (matchesX s p l).length ≤ 4194304 ∧ ∀ b ∈ matchesX s p l, b.length ≤ 12 := by
  have hol := out_len (s := s) (p := p) (l := l) l.length
  have hpow : 4 ^ l.length ≤ 4194304 := Nat.le_trans (Nat.pow_le_pow_right (by decide) hl) (by decide)
  exact ⟨Nat.le_trans hol hpow, fun b hb => by have := (rowin_of hb).2.2; omega⟩
end Go.AL
