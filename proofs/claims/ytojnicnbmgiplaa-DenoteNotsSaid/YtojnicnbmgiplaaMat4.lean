/- Parts of an abstract logic over the kit's walks, and walks in it: Mat4. -/
import Derived.Test.YtojnicnbmgiplaaMa
/- Nothing is skipped, all rows are different, matches stand in order. -/
namespace Go.AL
open Go.Proofs Go.Sort
set_option linter.unusedVariables false
set_option linter.unusedSimpArgs false
def Sk (s : List Ty) (p : Pat) (l : List Kp) (b : List Bd) : Prop := p.any = true ∨ ∀ (i : Nat) (x : Bd), 0 < i → b[i]? = some x → skipsX s p l (b.take i) x.at_ = false
def Pend (s : List Ty) (p : Pat) (l : List Kp) (b : List Bd) (n : Nat) : Prop := p.any = true ∨ ∀ (j : Nat) (k : Kp), j < n → l[j]? = some k → (lastBd b).at_ < k.at_ → furX s p l b k.at_ = []
def AtB (l : List Kp) (b : List Bd) (n : Nat) : Prop := ∃ (j : Nat) (x : Kp), j < n ∧ l[j]? = some x ∧ (lastBd b).at_ = x.at_
structure Good (s : List Ty) (p : Pat) (l : List Kp) (n : Nat) (b : List Bd) : Prop where
  gn : Gn s p l b
  sk : Sk s p l b
  pend : Pend s p l b n
  at_ : AtB l b n
  row : RowIn p n b
section
variable {s : List Ty} {p : Pat} {l : List Kp} {b : List Bd} {n : Nat}
theorem nextF_ge : ∀ n i, nextFrom p n i = -1 ∨ (i : Int) ≤ nextFrom p n i
  | 0, i => .inl rfl
  | n + 1, i => by
    unfold nextFrom
    cases decide (i < p.els.length) with
    | false => exact .inl rfl
    | true =>
      cases !negX p i with
      | true => exact .inr (Int.le_refl _)
      | false =>
        rcases nextF_ge n (i + 1) with h | h
        · exact .inl h
        · exact .inr (by show (i : Int) ≤ nextFrom p n (i + 1); omega)
theorem next_ne {k : Int} (h : 0 ≤ k) : nextX p k ≠ k := by
  unfold nextX
  rcases nextF_ge (p := p) p.els.length (k + 1).toNat with h1 | h1
  · rw [h1]; omega
  · omega
theorem fur_nil {k : Int} (h : furX s p l b k = []) : (goesX s p l b ⟨(lastBd b).el, k⟩ || goesX s p l b ⟨nextX p (lastBd b).el, k⟩) = false := by
  cases h1 : goesX s p l b ⟨(lastBd b).el, k⟩ with
  | true => exfalso; revert h; unfold furX furE furF; simp [h1]
  | false =>
    cases h2 : goesX s p l b ⟨nextX p (lastBd b).el, k⟩ with
    | true => exfalso; revert h; unfold furX furE furF; simp [h1, h2]
    | false => rfl
theorem skips_pend {n : Nat} {x : Kp} (hr : Rises l) (hx : l[n]? = some x) (h : p.any = true ∨ ∀ (j : Nat) (k : Kp), j < n → l[j]? = some k → (lastBd b).at_ < k.at_ → furX s p l b k.at_ = []) : p.any = true ∨ skipsX s p l b x.at_ = false := by
  rcases h with h | h
  · exact .inl h
  · right
    refine skips_no fun j k hj hk => ?_
    have hm := List.mem_of_getElem? hk
    unfold betweenX at hm
    obtain ⟨hm, hc⟩ := List.mem_filter.1 hm
    simp at hc
    obtain ⟨i, hi⟩ := List.getElem?_of_mem hm
    refine fur_nil (h i k ?_ hi (by omega))
    rcases Nat.lt_trichotomy i n with hlt | heq | hgt
    · exact hlt
    · subst heq; rw [hi] at hx; cases hx; omega
    · have := hr n i x k hgt hx hi; omega
theorem sk_snoc {x : Bd} (h : Sk s p l b) (hx : b ≠ [] → p.any = true ∨ skipsX s p l b x.at_ = false) : Sk s p l (b ++ [x]) := by
  rcases h with h | h
  · exact .inl h
  · cases b with
    | nil =>
      right
      intro i y hi hy
      have hlt := (List.getElem?_eq_some_iff.1 hy).1
      simp at hlt; omega
    | cons b0 bt =>
      rcases hx (by simp) with hx | hx
      · exact .inl hx
      right
      intro i y hi hy
      have hlt := (List.getElem?_eq_some_iff.1 hy).1
      by_cases hib : i < (b0 :: bt).length
      · rw [List.getElem?_append_left hib] at hy
        rw [List.take_append_of_le_length (by omega)]
        exact h i y hi hy
      · have hi' : i = (b0 :: bt).length := by rw [List.length_append] at hlt; simp at hlt hib ⊢; omega
        subst hi'
        rw [List.getElem?_append_right (Nat.le_refl _), Nat.sub_self] at hy
        cases hy
        rw [List.take_left]; exact hx
theorem made_of {rows : List (List Bd)} {k : Int} {c : List Bd} (h : c ∈ madeX s p l rows k) : (∃ b e, b ∈ rows ∧ goesX s p l b ⟨e, k⟩ = true ∧ c = b ++ [⟨e, k⟩]) ∨ (goesX s p l [] ⟨0, k⟩ = true ∧ c = [⟨0, k⟩]) := by
  rcases List.mem_append.1 h with h | h
  · obtain ⟨b, hb, hc⟩ := List.mem_flatMap.1 h
    obtain ⟨e, he, hc, _⟩ := fur_of hc
    exact .inl ⟨b, e, hb, he, hc⟩
  · exact .inr (one_of h)
theorem made_last {rows : List (List Bd)} {k : Int} {c : List Bd} (h : c ∈ madeX s p l rows k) : (lastBd c).at_ = k := by
  rcases made_of h with ⟨b, e, _, _, rfl⟩ | ⟨_, rfl⟩
  · rw [last_snoc]
  · rfl
theorem made_good {rows : List (List Bd)} {x : Kp} (hr : Rises l) (hx : l[n]? = some x) (h : ∀ b ∈ rows, Good s p l n b) : ∀ c ∈ madeX s p l rows x.at_, Good s p l (n + 1) c := by
  intro c hc
  have hrow := made_in (s := s) (p := p) (l := l) (k := x.at_) (fun b hb => (h b hb).row) c hc
  have hgn := made_gn (s := s) (p := p) (l := l) (k := x.at_) (fun b hb => (h b hb).gn) c hc
  have hl := made_last hc
  refine ⟨hgn, ?_, .inr fun j k hj hk hlt => ?_, ⟨n, x, by omega, hx, hl⟩, hrow⟩
  · rcases made_of hc with ⟨b, e, hb, he, rfl⟩ | ⟨_, rfl⟩
    · exact sk_snoc (h b hb).sk fun _ => skips_pend hr hx (h b hb).pend
    · exact sk_snoc (b := []) (.inr fun i y hi hy => by simp at hy) fun h => absurd rfl h
  · exfalso
    rw [hl] at hlt
    rcases Nat.lt_or_ge j n with h1 | h1
    · have := hr j n k x h1 hk hx; omega
    · have : j = n := by omega
      subst this; rw [hx] at hk; cases hk; omega
theorem fur_nodup {k : Int} (h : 0 ≤ (lastBd b).el) : (furX s p l b k).Nodup := by
  have hne := next_ne (p := p) h
  unfold furX furE furF
  cases h1 : goesX s p l b ⟨(lastBd b).el, k⟩ <;> cases h2 : goesX s p l b ⟨nextX p (lastBd b).el, k⟩ <;> simp [h1, h2]
  exact fun e => hne e.symm
theorem flatMap_nodup {α β : Type} {f : α → List β} : ∀ {xs : List α}, xs.Nodup → (∀ x ∈ xs, (f x).Nodup) → (∀ x ∈ xs, ∀ y ∈ xs, x ≠ y → ∀ z ∈ f x, z ∉ f y) → (xs.flatMap f).Nodup
  | [], _, _, _ => by simp
  | x :: xs, h, h1, h2 => by
    obtain ⟨hx, hn⟩ := List.nodup_cons.1 h
    simp only [List.flatMap_cons]
    refine List.nodup_append.2 ⟨h1 x (by simp), flatMap_nodup hn (fun y hy => h1 y (by simp [hy])) (fun y hy z hz => h2 y (by simp [hy]) z (by simp [hz])), ?_⟩
    intro a ha c hc hac
    subst hac
    obtain ⟨y, hy, hz⟩ := List.mem_flatMap.1 hc
    exact h2 x (by simp) y (by simp [hy]) (fun e => hx (e ▸ hy)) a ha hz
theorem made_nodup {rows : List (List Bd)} {k : Int} (hn : rows.Nodup) (h : ∀ b ∈ rows, RowIn p n b) : (madeX s p l rows k).Nodup := by
  unfold madeX
  refine List.nodup_append.2 ⟨flatMap_nodup hn (fun b hb => fur_nodup ?_) (fun b hb c hc hne z hz hz' => ?_), ?_, ?_⟩
  · obtain ⟨d, x, rfl⟩ := snoc_of (h b hb).1
    rw [last_snoc]
    exact ((h _ hb).2.1 x (by simp)).1
  · obtain ⟨e, _, rfl, _⟩ := fur_of hz
    obtain ⟨e', _, h2, _⟩ := fur_of hz'
    exact hne (List.append_inj_left' h2 rfl)
  · unfold oneX
    cases goesX s p l [] ⟨0, k⟩ <;> simp
  · intro a ha c hc hac
    subst hac
    obtain ⟨b, hb, ha⟩ := List.mem_flatMap.1 ha
    obtain ⟨e, _, rfl, _⟩ := fur_of ha
    obtain ⟨_, h2⟩ := one_of hc
    have e1 : b.length + 1 = 1 := by have := congrArg List.length h2; simpa using this
    have e2 := (h b hb).1
    omega
theorem rows_good (hr : Rises l) : ∀ n, (rowsX s p l n).Nodup ∧ ∀ b ∈ rowsX s p l n, Good s p l n b
  | 0 => by simp [rowsX]
  | n + 1 => by
    obtain ⟨ih1, ih2⟩ := rows_good hr n
    unfold rowsX
    cases hx : l[n]? with
    | none =>
      refine ⟨ih1, fun b hb => ?_⟩
      have g := ih2 b hb
      refine ⟨g.gn, g.sk, g.pend.imp id fun hp j k hj hk => ?_, by obtain ⟨j, x, h1, h2, h3⟩ := g.at_; exact ⟨j, x, by omega, h2, h3⟩, g.row.more (Nat.le_succ _)⟩
      by_cases hjn : j = n
      · subst hjn; rw [hx] at hk; cases hk
      · exact hp j k (by omega) hk
    | some x =>
      have hm := made_good hr hx ih2
      simp only
      refine ⟨List.nodup_append.2 ⟨ih1.filter _, made_nodup ih1 (fun b hb => (ih2 b hb).row), fun a ha c hc hac => ?_⟩, fun b hb => ?_⟩
      · subst hac
        obtain ⟨j, y, h1, h2, h3⟩ := (ih2 a (List.mem_filter.1 ha).1).at_
        have := made_last hc
        have := hr j n y x h1 h2 hx
        omega
      · rcases List.mem_append.1 hb with hb | hb
        · obtain ⟨hb, hs⟩ := List.mem_filter.1 hb
          have g := ih2 b hb
          refine ⟨g.gn, g.sk, ?_, by obtain ⟨j, x, h1, h2, h3⟩ := g.at_; exact ⟨j, x, by omega, h2, h3⟩, g.row.more (Nat.le_succ _)⟩
          unfold stays at hs
          cases ha : p.any with
          | true => exact .inl ha
          | false =>
            rw [ha] at hs
            rcases g.pend with hp | hp
            · exact .inl hp
            · right
              intro j k hj hk hlt
              by_cases hjn : j = n
              · subst hjn; rw [hx] at hk; cases hk
                simpa using hs
              · exact hp j k (by omega) hk hlt
        · exact hm b hb
/-- In order: less, or of an earlier end. -/
def OrdB (a b : List Bd) : Prop := orderX a b < 0 ∨ (lastBd a).at_ < (lastBd b).at_
theorem found_ord (hr : Rises l) {x : Kp} (hx : l[n]? = some x) : (foundX s p l n x).Pairwise OrdB ∧ (foundX s p l n x).Nodup := by
  have hg := rows_good (s := s) (p := p) hr n
  have hn : (sortX orderX (madeX s p l (rowsX s p l n) x.at_)).Nodup := (List.mergeSort_perm _ _).nodup_iff.2 (made_nodup hg.1 fun b hb => (hg.2 b hb).row)
  refine ⟨List.Pairwise.filter _ ?_, hn.filter _⟩
  refine ((sortX_sorted _).and hn).imp fun {a b} hab => ?_
  left
  have h1 := order_anti b a
  rcases Int.lt_trichotomy (orderX a b) 0 with h | h | h
  · exact h
  · exact absurd (order_eq h) hab.2
  · exact absurd (show orderX b a < 0 by have := order_anti a b; omega) hab.1
theorem out_ord (hr : Rises l) : ∀ n, (outX s p l n).Pairwise OrdB ∧ (outX s p l n).Nodup ∧ ∀ b ∈ outX s p l n, AtB l b n
  | 0 => by simp [outX]
  | n + 1 => by
    obtain ⟨h1, h2, h3⟩ := out_ord hr n
    unfold outX
    cases hx : l[n]? with
    | none => exact ⟨h1, h2, fun b hb => by obtain ⟨j, x, h4, h5⟩ := h3 b hb; exact ⟨j, x, by omega, h5⟩⟩
    | some x =>
      simp only
      obtain ⟨f1, f2⟩ := found_ord (s := s) (p := p) hr hx
      have hlt : ∀ a ∈ outX s p l n, ∀ b ∈ foundX s p l n x, (lastBd a).at_ < (lastBd b).at_ := fun a ha b hb => by
        obtain ⟨j, y, h4, h5, h6⟩ := h3 a ha
        rw [made_last (found_in hb).1, h6]
        exact hr j n y x h4 h5 hx
      refine ⟨List.pairwise_append.2 ⟨h1, f1, fun a ha b hb => .inr (hlt a ha b hb)⟩, List.nodup_append.2 ⟨h2, f2, fun a ha b hb hab => ?_⟩, fun b hb => ?_⟩
      · subst hab; have := hlt a ha a hb; omega
      · rcases List.mem_append.1 hb with hb | hb
        · obtain ⟨j, y, h4, h5⟩ := h3 b hb; exact ⟨j, y, by omega, h5⟩
        · exact ⟨n, x, by omega, hx, made_last (found_in hb).1⟩
theorem mat_good (hr : Rises l) (h : b ∈ matchesX s p l) : Gn s p l b ∧ Sk s p l b ∧ lastIs p b = true := by
  obtain ⟨i, x, _, hx, hf⟩ := out_in _ h
  obtain ⟨h1, h2⟩ := found_in hf
  have g := made_good hr hx (rows_good (s := s) (p := p) hr i).2 b h1
  exact ⟨g.gn, g.sk, h2⟩
end
end Go.AL
