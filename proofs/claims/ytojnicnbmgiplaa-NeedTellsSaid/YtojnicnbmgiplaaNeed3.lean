/- Parts of an abstract logic over the kit's walks, and walks in it: Need3. -/
import Derived.Test.YtojnicnbmgiplaaNeed2
import Derived.Test.YtojnicnbmgiplaaMa
import Derived.Test.YtojnicnbmgiplaaELa
/- How many uses there may be; the known ones; plain data. -/
namespace Go.AL
open Go.Proofs Go.Sort
set_option linter.unusedVariables false
set_option linter.unusedSimpArgs false
theorem nodes_few {x : Exp} (h : (sameX x zeroX || isX x) = true) : (nodesX x 1).length ≤ 24 := by
  rw [Bool.or_eq_true] at h
  rcases h with h | h
  · obtain ⟨o, v, a, f, k, rfl⟩ := Exp.shape x
    have ho : (o == 0) = true := by
      unfold zeroX sameX at h
      rw [Bool.and_eq_true] at h
      exact h.1
    unfold nodesX
    rw [ho]
    exact Nat.zero_le _
  · unfold isX at h
    simp only [Bool.and_eq_true, decide_eq_true_eq] at h
    exact h.2.1
theorem isPat_at {p : Pat} (h : isPat p = true) {i : Nat} {e : El} (he : p.els[i]? = some e) : elOk p i e = true := by
  unfold isPat at h
  rw [Bool.and_eq_true] at h
  have := h.2
  unfold elsOk at this
  have := List.all_eq_true.1 this i (List.mem_range.2 (List.getElem?_eq_some_iff.1 he).1)
  rwa [he] at this
theorem pat_few {p : Pat} (h : isPat p = true) : p.els.length ≤ 5 ∧ ∀ e ∈ p.els, (nodesX e.cond 1).length ≤ 24 ∧ e.tys.length ≤ 3 := by
  refine ⟨(isPat_head h).2.1, fun e he => ?_⟩
  obtain ⟨i, hi⟩ := List.getElem?_of_mem he
  have h1 := isPat_at h hi
  unfold elOk isElemX headL at h1
  simp only [Bool.and_eq_true, Bool.not_eq_true', decide_eq_false_iff_not] at h1
  exact ⟨nodes_few h1.1.2.2, by have := h1.1.1.2.2.1; omega⟩
theorem fm_few {α β : Type} {f : α → List β} {n : Nat} : ∀ {l : List α}, (∀ x ∈ l, (f x).length ≤ n) → (l.flatMap f).length ≤ l.length * n
  | [], _ => by simp
  | x :: l, h => by
    have h1 := h x (by simp)
    have h2 := fm_few (l := l) fun y hy => h y (by simp [hy])
    rw [List.flatMap_cons, List.length_append, List.length_cons, Nat.add_mul]
    omega
theorem uses_few {p : Pat} (h : isPat p = true) : (usesAll p).length ≤ 375 := by
  obtain ⟨h1, h2⟩ := pat_few h
  have h3 : ∀ e ∈ p.els, (usesE p e).length ≤ 75 := fun e he => by
    obtain ⟨g1, g2⟩ := h2 e he
    unfold usesE
    rw [List.length_append]
    have q1 : (usesB p e).length ≤ 3 := by
      unfold usesB
      cases same p.byf nul with
      | true => exact Nat.zero_le _
      | false => show (e.tys.map _).length ≤ 3; rw [List.length_map]; exact g2
    have q2 : (usesC p e).length ≤ (nodesX e.cond 1).length * 3 := fm_few fun x _ => by
      unfold usesN
      rw [List.length_map]
      exact types_len fun d hd => (h2 d hd).2
    omega
  have := fm_few h3
  unfold usesAll
  omega
/-! ### The known ones -/
deriving instance DecidableEq for Us
def uTN : Us := ⟨ch 116, ch 110⟩
def uUN : Us := ⟨ch 117, ch 110⟩
def pK13 : Pat := ⟨[⟨ch 97, [ch 116, ch 117], false, false, twoX 8 (fldX (ch 97) (ch 110)) (litX 3)⟩], 0, ch 110, false⟩
theorem k13_all : usesAll pK13 = [uTN, uUN, uTN, uUN] := by decide +kernel
theorem sortX_of {α : Type} {cf : α → α → Int} (hO : SWO (ltOf cf)) (hT : ∀ x y, ltOf cf x y = false → ltOf cf y x = false → x = y) {xs ys : List α} (hp : ys.Perm xs) (hs : ys.Pairwise fun x y => (!ltOf cf y x) = true) : sortX cf xs = ys := by
  refine (List.Perm.eq_of_pairwise (le := fun x y => (!ltOf cf y x) = true) ?_ hs ?_ (hp.trans (List.mergeSort_perm _ _).symm)).symm
  · intro x y _ _ q1 q2
    simp only [Bool.not_eq_true'] at q1 q2
    exact hT x y q2 q1
  · refine List.pairwise_mergeSort ?_ ?_ _
    · intro x y z q1 q2
      simp only [Bool.not_eq_true'] at q1 q2 ⊢
      exact hO.ntrans z y x q2 q1
    · intro x y
      cases h : ltOf cf y x with
      | false => simp
      | true => simp [hO.asymmA h]
theorem k13_uses : usesX pK13 = [uTN, uUN] := by
  unfold usesX
  rw [k13_all, sortX_of orderU_swo orderU_total (ys := [uTN, uTN, uUN, uUN]) (List.Perm.cons uTN (List.Perm.swap uUN uTN [uUN])) (by decide +kernel)]
  have h1 : (uTN == uTN) = true := by decide +kernel
  have h2 : (uTN == uUN) = false := by decide +kernel
  have h3 : (uUN == uUN) = true := by decide +kernel
  simp [cG, h1, h2, h3]
def eK13 : Ev := ⟨ch 116, 4, [⟨3, 1, nul⟩, ⟨1, 7, nul⟩, ⟨2, 0, ch 120⟩]⟩
def fK13 : Ev := ⟨ch 116, 4, [⟨3, 0, nul⟩, ⟨1, 7, nul⟩, ⟨2, 0, nul⟩]⟩
theorem k13_trim : sameEv (trimX bS [uTN, uUN] eK13) fK13 = true := by decide +kernel
def sameUs (a b : List Us) : Bool := allSame sameU a b
theorem k13_same : sameUs [uTN, uUN] [uTN, uUN] = true := by decide +kernel
theorem k13_has : hasU [uTN, uUN] uUN = true := by decide +kernel
theorem k13_not : hasU [uTN, uUN] ⟨ch 116, ch 98⟩ = false := by decide +kernel
theorem k13_few : ∀ e ∈ pK13.els, (nodesX e.cond 1).length ≤ 1000 := fun e he => by
  have : e = ⟨ch 97, [ch 116, ch 117], false, false, twoX 8 (fldX (ch 97) (ch 110)) (litX 3)⟩ := List.mem_singleton.1 he
  subst this
  exact (by decide : (3 : Nat) ≤ 1000)
theorem k13_tys : ∀ e ∈ pK13.els, e.tys.length ≤ 3 := fun e he => by
  have : e = ⟨ch 97, [ch 116, ch 117], false, false, twoX 8 (fldX (ch 97) (ch 110)) (litX 3)⟩ := List.mem_singleton.1 he
  subst this
  exact (by decide : (2 : Nat) ≤ 3)
end Go.AL
