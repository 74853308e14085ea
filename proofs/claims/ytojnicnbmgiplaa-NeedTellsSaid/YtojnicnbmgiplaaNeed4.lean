/- Parts of an abstract logic over the kit's walks, and walks in it: Need4. -/
import Derived.Test.YtojnicnbmgiplaaNeed3
/- The document's uses: put one by one where they belong; they are those of need; plain data. -/
namespace Go.AL
open Go.Proofs Go.Sort
set_option linter.unusedVariables false
set_option linter.unusedSimpArgs false
def ltB2 (u x : Us) : Bool := less u.ty x.ty || (same u.ty x.ty && less u.field x.field)
theorem ltB2_iff {u x : Us} : ltB2 u x = true ↔ ltU u x := by
  unfold ltB2 ltU
  rw [Bool.or_eq_true, Bool.and_eq_true]
  constructor
  · rintro (h | ⟨h, k⟩)
    · exact .inl h
    · exact .inr ⟨same_eq h, k⟩
  · rintro (h | ⟨h, k⟩)
    · exact .inl h
    · exact .inr ⟨by rw [h]; exact same_refl _, k⟩
def withU : List Us → Us → List Us
  | [], u => [u]
  | x :: l, u => bif sameU x u then x :: l else bif ltB2 u x then u :: x :: l else x :: withU l u
theorem with_pass : ∀ {l : List Us} {u : Us} (i : Nat), (∀ j x, j < i → l[j]? = some x → sameU x u = false ∧ ltB2 u x = false) → i ≤ l.length → withU l u = l.take i ++ withU (l.drop i) u
  | l, u, 0, _, _ => rfl
  | [], u, i + 1, _, h => by simp at h
  | x :: l, u, i + 1, h, hi => by
    obtain ⟨h1, h2⟩ := h 0 x (Nat.succ_pos _) rfl
    show (bif sameU x u then x :: l else bif ltB2 u x then u :: x :: l else x :: withU l u) = x :: (l.take i ++ withU (l.drop i) u)
    rw [h1, h2, ← with_pass i (fun j y hj hy => h (j + 1) y (by omega) hy) (by simpa using hi)]; rfl
theorem with_same {l : List Us} {u x : Us} {i : Nat} (h : ∀ j x, j < i → l[j]? = some x → sameU x u = false ∧ ltB2 u x = false) (hx : l[i]? = some x) (hs : sameU x u = true) : withU l u = l := by
  obtain ⟨hi, e⟩ := List.getElem?_eq_some_iff.1 hx
  rw [with_pass i h (by omega), List.drop_eq_getElem_cons hi, e]
  show l.take i ++ (bif sameU x u then x :: l.drop (i + 1) else _) = l
  rw [hs, cond_true, ← e, ← List.drop_eq_getElem_cons hi, List.take_append_drop]
theorem with_less {l : List Us} {u x : Us} {i : Nat} (h : ∀ j x, j < i → l[j]? = some x → sameU x u = false ∧ ltB2 u x = false) (hx : l[i]? = some x) (hs : sameU x u = false) (hl : ltB2 u x = true) : withU l u = l.take i ++ [u] ++ l.drop i := by
  obtain ⟨hi, e⟩ := List.getElem?_eq_some_iff.1 hx
  rw [with_pass i h (by omega), List.drop_eq_getElem_cons hi, e]
  show l.take i ++ (bif sameU x u then _ else bif ltB2 u x then u :: x :: l.drop (i + 1) else _) = _
  rw [hs, hl]; simp
theorem with_end {l : List Us} {u : Us} (h : ∀ j x, j < l.length → l[j]? = some x → sameU x u = false ∧ ltB2 u x = false) : withU l u = l ++ [u] := by
  rw [with_pass l.length h (Nat.le_refl _), List.take_of_length_le (Nat.le_refl _), List.drop_of_length_le (Nat.le_refl _)]; rfl
theorem with_mem : ∀ {l : List Us} {u y : Us}, y ∈ withU l u ↔ y ∈ l ∨ y = u
  | [], u, y => by simp [withU]
  | x :: l, u, y => by
    show y ∈ (bif sameU x u then x :: l else bif ltB2 u x then u :: x :: l else x :: withU l u) ↔ _
    cases h1 : sameU x u with
    | true => rw [cond_true, ← sameU_eq h1]; exact ⟨.inl, fun h => h.elim id fun h => h ▸ List.mem_cons_self⟩
    | false =>
      cases h2 : ltB2 u x with
      | true => rw [cond_false, cond_true, List.mem_cons]; exact or_comm
      | false => rw [cond_false, cond_false, List.mem_cons, List.mem_cons, with_mem (l := l)]; exact or_assoc.symm
theorem with_len : ∀ (l : List Us) (u : Us), (withU l u).length ≤ l.length + 1
  | [], u => Nat.le_refl _
  | x :: l, u => by
    have := with_len l u
    show (bif sameU x u then x :: l else bif ltB2 u x then u :: x :: l else x :: withU l u).length ≤ _
    cases sameU x u <;> cases ltB2 u x <;> simp <;> omega
theorem with_rise : ∀ {l : List Us} {u : Us}, l.Pairwise ltU → (withU l u).Pairwise ltU
  | [], u, _ => by simp [withU]
  | x :: l, u, h => by
    obtain ⟨h1, h2⟩ := List.pairwise_cons.1 h
    show (bif sameU x u then x :: l else bif ltB2 u x then u :: x :: l else x :: withU l u).Pairwise ltU
    cases g1 : sameU x u with
    | true => exact h
    | false =>
      cases g2 : ltB2 u x with
      | true =>
        have g2 := ltB2_iff.1 g2
        refine List.pairwise_cons.2 ⟨fun y hy => ?_, h⟩
        rcases List.mem_cons.1 hy with rfl | hy
        · exact g2
        · exact ltU_trans g2 (h1 y hy)
      | false =>
        refine List.pairwise_cons.2 ⟨fun y hy => ?_, with_rise h2⟩
        rcases with_mem.1 hy with hy | rfl
        · exact h1 y hy
        · rcases cmpU_cases x y with ⟨e, _⟩ | ⟨g, _⟩ | ⟨g, _⟩
          · subst e
            have : sameU x x = true := beq_self_eq_true x
            rw [this] at g1; cases g1
          · exact g
          · rw [ltB2_iff.2 g] at g2; cases g2
/-- All of them. -/
def refE (p : Pat) (e : El) : List Us := usesC p e ++ usesB p e
def refAll (p : Pat) : List Us := p.els.flatMap (refE p)
def refU (p : Pat) : List Us := (refAll p).foldl withU []
theorem fold_mem : ∀ {l : List Us} {a : List Us} {y : Us}, y ∈ l.foldl withU a ↔ y ∈ a ∨ y ∈ l
  | [], a, y => by simp
  | u :: l, a, y => by
    rw [List.foldl_cons, fold_mem (l := l), with_mem, List.mem_cons]
    constructor
    · rintro ((h | h) | h)
      · exact .inl h
      · exact .inr (.inl h)
      · exact .inr (.inr h)
    · rintro (h | h | h)
      · exact .inl (.inl h)
      · exact .inl (.inr h)
      · exact .inr h
theorem fold_rise : ∀ {l : List Us} {a : List Us}, a.Pairwise ltU → (l.foldl withU a).Pairwise ltU
  | [], a, h => h
  | u :: l, a, h => fold_rise (l := l) (with_rise h)
theorem cG_rise : ∀ {l : List Us}, l.Pairwise (fun x y => ¬ ltU y x) → (cG l).Pairwise ltU
  | [], _ => by simp [cG]
  | [a], _ => by simp [cG]
  | a :: b :: l, h => by
    obtain ⟨h1, h2⟩ := List.pairwise_cons.1 h
    have ih := cG_rise h2
    simp only [cG]
    by_cases e : a = b
    · subst e; rw [beq_self_eq_true]; exact ih
    · rw [beq_eq_false_iff_ne.2 e]
      refine List.pairwise_cons.2 ⟨fun y hy => ?_, ih⟩
      have hy := cG_mem.1 hy
      have hab : ltU a b := by
        rcases cmpU_cases a b with ⟨g, _⟩ | ⟨g, _⟩ | ⟨g, _⟩
        · exact absurd g e
        · exact g
        · exact absurd g (h1 b (by simp))
      rcases List.mem_cons.1 hy with rfl | hy
      · exact hab
      · have hby := (List.pairwise_cons.1 h2).1 y hy
        rcases cmpU_cases b y with ⟨g, _⟩ | ⟨g, _⟩ | ⟨g, _⟩
        · exact g ▸ hab
        · exact ltU_trans hab g
        · exact absurd g hby
theorem sortU_rise (l : List Us) : (sortX cmpU l).Pairwise fun x y => ¬ ltU y x := by
  have h : (sortX cmpU l).Pairwise fun x y => (!ltOf cmpU y x) = true := by
    refine List.pairwise_mergeSort ?_ ?_ _
    · intro x y z q1 q2
      simp only [Bool.not_eq_true'] at q1 q2 ⊢
      exact orderU_swo.ntrans z y x q2 q1
    · intro x y
      cases h : ltOf cmpU y x with
      | false => simp
      | true => simp [orderU_swo.asymmA h]
  refine h.imp fun {x y} q => ?_
  rw [Bool.not_eq_true'] at q
  intro g
  rw [cmpU_lt.2 g] at q; cases q
theorem rise_eq {l r : List Us} (hl : l.Pairwise ltU) (hr : r.Pairwise ltU) (h : ∀ y, y ∈ l ↔ y ∈ r) : l = r := by
  have nd : ∀ {q : List Us}, q.Pairwise ltU → q.Nodup := fun hq => hq.imp fun {x y} g e => by subst e; exact ltU_irrefl g
  exact List.Perm.eq_of_pairwise (fun x y _ _ g k => absurd (ltU_trans g k) ltU_irrefl) hl hr ((List.perm_ext_iff_of_nodup (nd hl) (nd hr)).2 h)
theorem uses_ref (p : Pat) : usesX p = refU p := by
  refine rise_eq (cG_rise (sortU_rise _)) (fold_rise List.Pairwise.nil) fun y => ?_
  unfold usesX refU
  rw [cG_mem, fold_mem]
  have hs : y ∈ sortX cmpU (usesAll p) ↔ y ∈ usesAll p := (List.mergeSort_perm _ _).mem_iff
  rw [hs]
  unfold usesAll refAll
  rw [List.mem_flatMap, List.mem_flatMap]
  constructor
  · rintro ⟨e, he, h⟩
    refine .inr ⟨e, he, ?_⟩
    unfold usesE at h
    unfold refE
    rw [List.mem_append] at h ⊢
    exact or_comm.1 h
  · rintro (h | ⟨e, he, h⟩)
    · cases h
    · refine ⟨e, he, ?_⟩
      unfold refE at h
      unfold usesE
      rw [List.mem_append] at h ⊢
      exact or_comm.1 h
theorem sameU_comm (a b : Us) : sameU a b = sameU b a := by
  cases h : sameU a b with
  | true => rw [sameU_eq h]; exact (beq_self_eq_true b).symm
  | false =>
    cases k : sameU b a with
    | false => rfl
    | true => rw [sameU_eq k] at h; rw [show sameU a a = true from beq_self_eq_true a] at h; cases h
theorem has_yes {l : List Us} {u x : Us} {i : Nat} (hx : l[i]? = some x) (h : sameU u x = true) : hasU l u = true := List.any_eq_true.2 ⟨x, List.mem_of_getElem? hx, h⟩
theorem has_no {l : List Us} {u : Us} (h : ∀ (j : Nat) (y : Us), l[j]? = some y → sameU u y = false) : hasU l u = false := by
  unfold hasU
  rw [List.any_eq_false]
  intro y hy
  obtain ⟨j, hj⟩ := List.getElem?_of_mem hy
  rw [h j y hj]; exact Bool.false_ne_true
end Go.AL
