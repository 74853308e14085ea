/- Parts of an abstract logic over the kit's walks, and walks in it: Mat7. -/
import Derived.Test.YtojnicnbmgiplaaGreatMat6
/- Parted by a field, matches are those of each part by itself. -/
namespace Go.AL
open Go.Proofs Go.Sort
set_option linter.unusedVariables false
set_option linter.unusedSimpArgs false
/-- An event's n. -/
def numX (e : Ev) : Int := bif same e.ty (ch 116) && (e.vals.length == 3) then (e.vals.getD 1 nulV).n else bif e.vals.length == 1 then (e.vals.getD 0 nulV).n else 0
def tT : Ty := ⟨ch 116, [⟨ch 98, 3⟩, ⟨ch 110, 1⟩, ⟨ch 115, 2⟩]⟩
def tU : Ty := ⟨ch 117, [⟨ch 110, 1⟩]⟩
theorem find_t : findT bS (ch 116) = (tT, true) := findT_at (i := 0) rfl (by decide +kernel) (fun j a hj => by omega)
theorem find_u : findT bS (ch 117) = (tU, true) := findT_at (i := 1) rfl (by decide +kernel) (fun j a hj ha => by
  match j with
  | 0 => cases ha; decide +kernel
  | j + 1 => omega)
theorem find_none {nm : ByteArray} (h1 : same (ch 116) nm = false) (h2 : same (ch 117) nm = false) : findT bS nm = (zeroT, false) := findT_no fun j a hj ha => by
  match j with
  | 0 => cases ha; exact h1
  | 1 => cases ha; exact h2
  | j + 2 => exact absurd hj (by show ¬ (j + 2 < 2); omega)
theorem val_int {v : Vl} (h : isVal v = true) (hk : v.k = 1) : v.s = nul := by
  unfold isVal at h
  rw [hk] at h
  exact same_eq h
theorem ev_shape {e : Ev} (h : evtR bS e = 0) : (∃ a b c : Vl, e.ty = ch 116 ∧ e.vals = [a, b, c] ∧ b.k = 1 ∧ b.s = nul) ∨ (∃ a : Vl, e.ty = ch 117 ∧ e.vals = [a] ∧ a.k = 1 ∧ a.s = nul) := by
  obtain ⟨ty, ts, vals⟩ := e
  unfold evtR at h
  simp only at h
  cases h1 : same (ch 116) ty with
  | true =>
    have := same_eq h1
    subst this
    left
    rw [find_t] at h
    simp only [Bool.not_true, cond_false] at h
    cases h2 : (decide (ts < 0) || (decide (ts > 1073741824) || ((vals.length : Int) != (tT.fields.length : Int)))) with
    | true => rw [h2] at h; cases h
    | false =>
      rw [h2] at h
      cases h3 : vals.all isVal with
      | false => rw [h3] at h; cases h
      | true =>
        rw [h3] at h
        cases h4 : kindsAs vals tT.fields with
        | false => rw [h4] at h; cases h
        | true =>
          match vals, h3, h4 with
          | [a, b, c], h3, h4 =>
            simp [kindsAs, tT] at h4
            simp at h3
            exact ⟨a, b, c, rfl, rfl, h4.2.1, val_int h3.2.1 h4.2.1⟩
          | [], _, h4 => simp [kindsAs, tT] at h4
          | [_], _, h4 => simp [kindsAs, tT] at h4
          | [_, _], _, h4 => simp [kindsAs, tT] at h4
          | _ :: _ :: _ :: _ :: _, _, h4 => simp [kindsAs, tT] at h4
  | false =>
    cases h0 : same (ch 117) ty with
    | false => rw [find_none h1 h0] at h; cases h
    | true =>
      have := same_eq h0
      subst this
      right
      rw [find_u] at h
      simp only [Bool.not_true, cond_false] at h
      cases h2 : (decide (ts < 0) || (decide (ts > 1073741824) || ((vals.length : Int) != (tU.fields.length : Int)))) with
      | true => rw [h2] at h; cases h
      | false =>
        rw [h2] at h
        cases h3 : vals.all isVal with
        | false => rw [h3] at h; cases h
        | true =>
          rw [h3] at h
          cases h4 : kindsAs vals tU.fields with
          | false => rw [h4] at h; cases h
          | true =>
            match vals, h3, h4 with
            | [a], h3, h4 =>
              simp [kindsAs, tU] at h4
              simp at h3
              exact ⟨a, rfl, rfl, h4, val_int h3 h4⟩
            | [], _, h4 => simp [kindsAs, tU] at h4
            | _ :: _ :: _, _, h4 => simp [kindsAs, tU] at h4
theorem getV_num {e : Ev} (h : evtR bS e = 0) : getV bS e (ch 110) = (⟨1, numX e, nul⟩, true) := by
  rcases ev_shape h with ⟨a, b, c, h1, h2, h3, h4⟩ | ⟨a, h1, h2, h3, h4⟩
  · obtain ⟨ty, ts, vals⟩ := e
    simp only at h1 h2
    subst h1; subst h2
    have hn : numX ⟨ch 116, ts, [a, b, c]⟩ = b.n := by
      unfold numX
      rw [show same (ch 116) (ch 116) = true by decide +kernel]; rfl
    rw [hn, getV_ok (i := 1) (v := b) (by show (findT bS (ch 116)).2 = true; rw [find_t]) (by show fieldAt (findT bS (ch 116)).1 (ch 110) = _; rw [find_t]; decide +kernel) rfl]
    obtain ⟨bk, bn, bs⟩ := b
    simp only at h3 h4
    subst h3; subst h4; rfl
  · obtain ⟨ty, ts, vals⟩ := e
    simp only at h1 h2
    subst h1; subst h2
    have hn : numX ⟨ch 117, ts, [a]⟩ = a.n := by
      unfold numX
      rw [show same (ch 117) (ch 116) = false by decide +kernel]; rfl
    rw [hn, getV_ok (i := 0) (v := a) (by show (findT bS (ch 117)).2 = true; rw [find_u]) (by show fieldAt (findT bS (ch 117)).1 (ch 110) = _; rw [find_u]; decide +kernel) rfl]
    obtain ⟨bk, bn, bs⟩ := a
    simp only at h3 h4
    subst h3; subst h4; rfl
theorem alike_num {p : Pat} {a b : Ev} (hb : p.byf = ch 110) (ha : evtR bS a = 0) (hb' : evtR bS b = 0) : alikeX bS p a b = (numX a == numX b) := by
  unfold alikeX
  rw [hb, getV_num ha, getV_num hb', show same (ch 110) nul = false by decide +kernel]
  unfold sameV
  rw [show same nul nul = true by decide +kernel]
  simp
/-! ### one part -/
def partK (l : List Kp) (c : Int) : List Kp := l.filter fun x => numX x.ev == c
section
variable {p : Pat} {l : List Kp} {b : List Bd} {c : Int}
theorem part_rises (hr : Rises l) : Rises (partK l c) := by
  have h1 : l.Pairwise fun a b => a.at_ < b.at_ := by
    rw [List.pairwise_iff_getElem]
    intro i j hi hj hij
    exact hr i j _ _ hij (List.getElem?_eq_getElem hi) (List.getElem?_eq_getElem hj)
  have h2 := h1.filter fun x => numX x.ev == c
  intro i j a d hij ha hd
  obtain ⟨hi, rfl⟩ := List.getElem?_eq_some_iff.1 ha
  obtain ⟨hj, rfl⟩ := List.getElem?_eq_some_iff.1 hd
  exact (List.pairwise_iff_getElem.1 h2) i j hi hj hij
theorem at_mem (hr : Rises l) {x : Kp} (h : x ∈ l) : atK l x.at_ = (x.ev, true) := by
  obtain ⟨i, hi⟩ := List.getElem?_of_mem h
  unfold atK
  rw [find_uniq hr hi rfl]
theorem at_part (hr : Rises l) (z : Int) : atK (partK l c) z = bif (atK l z).2 && (numX (atK l z).1 == c) then atK l z else (zeroE, false) := by
  cases h : (atK l z).2 with
  | true =>
    obtain ⟨i, x, hi, hx⟩ := at_has h
    have hm := List.mem_of_getElem? hi
    have ha := at_mem hr hm
    rw [hx] at ha
    rw [ha]
    cases hc : (numX x.ev == c) with
    | true =>
      have : x ∈ partK l c := List.mem_filter.2 ⟨hm, hc⟩
      have := at_mem (part_rises (c := c) hr) this
      rw [hx] at this
      rw [this]; simp [hc]
    | false =>
      simp only [hc, Bool.and_false, cond_false]
      unfold atK
      cases hq : (partK l c).find? (fun k => k.at_ == z) with
      | none => rfl
      | some k =>
        exfalso
        have h1 := List.find?_some hq
        obtain ⟨hk, hkc⟩ := List.mem_filter.1 (List.mem_of_find?_eq_some hq)
        have h2 : k.at_ = z := by simpa using h1
        have h3 := at_mem hr hk
        rw [h2, ha] at h3
        rw [← (Prod.mk.inj h3).1, hc] at hkc; cases hkc
  | false =>
    simp only [Bool.false_and, cond_false]
    unfold atK
    cases hq : (partK l c).find? (fun k => k.at_ == z) with
    | none => rfl
    | some k =>
      exfalso
      obtain ⟨hk, hkc⟩ := List.mem_filter.1 (List.mem_of_find?_eq_some hq)
      have h1 := List.find?_some hq
      have h2 : k.at_ = z := by simpa using h1
      have h3 := at_mem hr hk
      rw [h2] at h3
      rw [h3] at h; cases h
theorem at_in (hr : Rises l) {z : Int} (h : (atK (partK l c) z).2 = true) : atK (partK l c) z = atK l z ∧ (atK l z).2 = true ∧ numX (atK l z).1 = c := by
  rw [at_part hr] at h ⊢
  cases hq : (atK l z).2 && (numX (atK l z).1 == c) with
  | false => rw [hq] at h; cases h
  | true =>
    rw [Bool.and_eq_true] at hq
    exact ⟨rfl, hq.1, by simpa using hq.2⟩
theorem at_class (hr : Rises l) {z : Int} (h : (atK l z).2 = true) (hc : numX (atK l z).1 = c) : atK (partK l c) z = atK l z := by
  rw [at_part hr, h, hc]; simp
/-- All that is bound is of a class. -/
def InC (l : List Kp) (c : Int) (b : List Bd) : Prop := ∀ x ∈ b, (atK l x.at_).2 = true ∧ numX (atK l x.at_).1 = c
theorem bound_part (hr : Rises l) (k : Int) : ∀ {b : List Bd}, InC l c b → boundX p (partK l c) k b = boundX p l k b
  | [], _ => rfl
  | x :: b, h => by
    have hx := h x (by simp)
    have ih := bound_part hr k (b := b) fun y hy => h y (by simp [hy])
    unfold boundX
    rw [at_class hr hx.1 hx.2, ih]
theorem takes_part (hr : Rises l) (h : InC l c b) (k : Int) (e : Ev) : takesX bS p (partK l c) b k e = takesX bS p l b k e := by
  unfold takesX
  rw [bound_part hr k h]
theorem first_part (hr : Rises l) (h0 : 0 < b.length) (h : InC l c b) : firstE (partK l c) b = firstE l b ∧ numX (firstE l b) = c ∧ (atK l (b.headD ⟨0, 0⟩).at_).2 = true := by
  cases b with
  | nil => cases h0
  | cons x t =>
    have hx := h x (by simp)
    refine ⟨?_, hx.2, hx.1⟩
    show (atK (partK l c) x.at_).1 = (atK l x.at_).1
    rw [at_class hr hx.1 hx.2]
variable (hok : ∀ x ∈ l, evtR bS x.ev = 0) (hby : p.byf = ch 110)
include hok hby
theorem alike_part (hr : Rises l) (h0 : 0 < b.length) (h : InC l c b) {x : Kp} (hx : x ∈ l) : alikeX bS p (firstE l b) x.ev = (numX x.ev == c) := by
  obtain ⟨_, h2, h3⟩ := first_part hr h0 h
  obtain ⟨i, y, hi, hy⟩ := at_has h3
  have hm := List.mem_of_getElem? hi
  have ha := at_mem hr hm
  rw [hy] at ha
  have hf : firstE l b = y.ev := by unfold firstE; rw [ha]
  rw [hf] at h2 ⊢
  rw [alike_num hby (hok y hm) (hok x hx), h2]
  cases hq : (numX x.ev == c) with
  | true => rw [eq_of_beq hq]; exact beq_self_eq_true _
  | false => exact beq_eq_false_iff_ne.2 fun e => (beq_eq_false_iff_ne.1 hq) e.symm
theorem met_part (hr : Rises l) (h0 : 0 < b.length) (h : InC l c b) (to k : Int) : metX bS p (partK l c) b to k = metX bS p l b to k := by
  unfold metX
  rw [(first_part hr h0 h).1]
  have hb : ∀ x ∈ l, (takesX bS p l b k x.ev && alikeX bS p (firstE l b) x.ev) = (takesX bS p l b k x.ev && (numX x.ev == c)) := fun x hx => by rw [alike_part hok hby hr h0 h hx]
  have e1 : betweenX (partK l c) (lastBd b).at_ to = (betweenX l (lastBd b).at_ to).filter fun x => numX x.ev == c := by
    unfold betweenX partK
    rw [List.filter_filter, List.filter_filter]
    refine List.filter_congr fun x _ => Bool.and_comm _ _
  rw [e1, Bool.eq_iff_iff, List.any_eq_true, List.any_eq_true]
  constructor
  · rintro ⟨x, hx, hq⟩
    obtain ⟨hx, _⟩ := List.mem_filter.1 hx
    exact ⟨x, hx, by rw [takes_part hr h] at hq; exact hq⟩
  · rintro ⟨x, hx, hq⟩
    have hl : x ∈ l := (List.mem_filter.1 hx).1
    have hc := hq
    rw [hb x hl, Bool.and_eq_true] at hc
    exact ⟨x, List.mem_filter.2 ⟨hx, hc.2⟩, by rw [takes_part hr h]; exact hq⟩
theorem guard_part (hr : Rises l) (h0 : 0 < b.length) (h : InC l c b) (x : Bd) : guardX bS p (partK l c) b x = guardX bS p l b x := by
  unfold guardX
  congr 1
  funext i
  rw [met_part hok hby hr h0 h]
/-- Behind something of a class only what is of it may be bound. -/
theorem goes_part (hr : Rises l) (h0 : 0 < b.length) (h : InC l c b) (x : Bd) : goesX bS p (partK l c) b x = goesX bS p l b x ∧ (goesX bS p l b x = true → numX (atK l x.at_).1 = c) := by
  have hbe : b.isEmpty = false := by cases b with | nil => cases h0 | cons _ _ => rfl
  cases hl : (atK l x.at_).2 with
  | false =>
    rw [goes_no (p := p) (l := l) (by rw [hl]; rfl), goes_no (l := partK l c) (by rw [at_part hr, hl]; rfl)]
    exact ⟨rfl, fun h => by cases h⟩
  | true =>
    obtain ⟨i, y, hi, hy⟩ := at_has hl
    have hm := List.mem_of_getElem? hi
    have ha := at_mem hr hm
    rw [hy] at ha
    have hal := alike_part hok hby hr h0 h hm
    cases hc : (numX y.ev == c) with
    | true =>
      have hcc : numX (atK l x.at_).1 = c := by rw [ha]; simpa using hc
      have hat := at_class hr hl hcc
      refine ⟨?_, fun _ => hcc⟩
      unfold goesX
      rw [hat, hbe, (first_part hr h0 h).1, takes_part hr h, guard_part hok hby hr h0 h]; rfl
    | false =>
      have h1 : (atK (partK l c) x.at_).2 = false := by rw [at_part hr, ha]; simp only [hc, Bool.and_false, cond_false]
      have h2 : goesX bS p l b x = false := by
        cases hq : (!(atK l x.at_).2 || (decide (x.el < 0) || decide (x.el ≥ (p.els.length : Int)))) with
        | true => exact goes_no hq
        | false =>
          rw [goes_on hq hbe rfl rfl rfl, ha]
          rw [show alikeX bS p (firstE l b) (y.ev, true).1 = false from hal.trans hc]
          simp
      rw [goes_no (l := partK l c) (by rw [h1]; rfl), h2]
      exact ⟨rfl, fun h => by cases h⟩
omit hok hby in
theorem goes_part0 (hr : Rises l) (x : Bd) : goesX bS p (partK l c) [] x = (goesX bS p l [] x && (numX (atK l x.at_).1 == c)) := by
  cases hq : (!(atK l x.at_).2 || (decide (x.el < 0) || decide (x.el ≥ (p.els.length : Int)))) with
  | true =>
    rw [goes_no hq, goes_no (l := partK l c)]; · rfl
    rw [at_part hr]
    simp only [Bool.or_eq_true, Bool.not_eq_true'] at hq ⊢
    rcases hq with hq | hq
    · left; rw [hq]; rfl
    · exact .inr hq
  | false =>
    have hl : (atK l x.at_).2 = true := by simp at hq; exact hq.1
    rw [goes_nil hq]
    cases hc : (numX (atK l x.at_).1 == c) with
    | true =>
      have hat := at_class hr hl (by simpa using hc)
      rw [goes_nil (l := partK l c) (by rw [hat]; exact hq), hat, takes_part hr (c := c) (fun y hy => by cases hy), Bool.and_true]
    | false => rw [goes_no (l := partK l c) (by rw [at_part hr, hl, hc]; rfl), Bool.and_false]
/-- The class of what is bound first. -/
def hcX (l : List Kp) (b : List Bd) : Int := numX (firstE l b)
theorem gn_inC (hr : Rises l) (hg : Gn bS p l b) : ∀ i, InC l (hcX l b) (b.take i)
  | 0 => fun x hx => by simp at hx
  | i + 1 => fun x hx => by
    have ih := gn_inC hr hg i
    by_cases hi : i < b.length
    · obtain ⟨y, hy⟩ : ∃ y, b[i]? = some y := ⟨_, List.getElem?_eq_getElem hi⟩
      rw [List.take_add_one, hy] at hx
      rcases List.mem_append.1 hx with hx | hx
      · exact ih x hx
      · have hxy : x = y := by simpa using hx
        subst hxy
        have hgo := hg.2 i x hy
        refine ⟨goes_there hgo, ?_⟩
        by_cases h0 : i = 0
        · subst h0
          unfold hcX
          rw [firstE_at hy]
        · exact (goes_part hok hby hr (by rw [List.length_take]; omega) ih x).2 hgo
    · rw [List.take_of_length_le (by omega)] at hx ih
      exact ih x hx
theorem gn_part (hr : Rises l) : Gn bS p (partK l c) b ↔ Gn bS p l b ∧ hcX l b = c := by
  constructor
  · intro hg
    have hin : ∀ i, InC l c (b.take i) := fun i x hx => by
      obtain ⟨j, hj⟩ := List.getElem?_of_mem (List.mem_of_mem_take hx)
      have := at_in hr (goes_there (hg.2 j x hj))
      exact ⟨this.2.1, this.2.2⟩
    obtain ⟨b0, hb0⟩ : ∃ q, b[0]? = some q := ⟨_, List.getElem?_eq_getElem hg.1⟩
    refine ⟨⟨hg.1, fun i x hx => ?_⟩, ?_⟩
    · have hgo := hg.2 i x hx
      have hlt := (List.getElem?_eq_some_iff.1 hx).1
      by_cases h0 : i = 0
      · subst h0
        rw [List.take_zero] at hgo ⊢
        rw [goes_part0 hr, Bool.and_eq_true] at hgo
        exact hgo.1
      · rw [(goes_part hok hby hr (by rw [List.length_take]; omega) (hin i) x).1] at hgo
        exact hgo
    · unfold hcX
      rw [firstE_at hb0]
      exact (at_in hr (goes_there (hg.2 0 b0 hb0))).2.2
  · rintro ⟨hg, hc⟩
    have hin := gn_inC hok hby hr hg
    rw [hc] at hin
    refine ⟨hg.1, fun i x hx => ?_⟩
    have hgo := hg.2 i x hx
    have hlt := (List.getElem?_eq_some_iff.1 hx).1
    by_cases h0 : i = 0
    · subst h0
      rw [List.take_zero] at hgo ⊢
      have hfx : firstE l b = (atK l x.at_).1 := firstE_at hx
      rw [goes_part0 hr, hgo, ← hfx]
      unfold hcX at hc
      rw [hc]; simp
    · rw [(goes_part hok hby hr (by rw [List.length_take]; omega) (hin i) x).1]
      exact hgo
theorem mat_part (hr : Rises l) (hany : p.any = true) : b ∈ matchesX bS p (partK l c) ↔ b ∈ matchesX bS p l ∧ hcX l b = c := by
  rw [mat_iff (part_rises hr), mat_iff hr, gn_part hok hby hr]
  exact ⟨fun ⟨⟨h1, h2⟩, _, h4⟩ => ⟨⟨h1, .inl hany, h4⟩, h2⟩, fun ⟨⟨h1, _, h4⟩, h2⟩ => ⟨⟨h1, h2⟩, .inl hany, h4⟩⟩
theorem part_len (hr : Rises l) (hany : p.any = true) : (matchesX bS p (partK l c)).length = ((matchesX bS p l).filter fun b => hcX l b == c).length := by
  refine List.Perm.length_eq ((List.perm_ext_iff_of_nodup (out_ord (part_rises hr) _).2.1 ((out_ord hr _).2.1.filter _)).2 fun b => ?_)
  have := mat_part (b := b) (c := c) hok hby hr hany
  rw [List.mem_filter]
  refine this.trans ⟨fun ⟨h1, h2⟩ => ⟨h1, by simp [h2]⟩, fun ⟨h1, h2⟩ => ⟨h1, by simpa using h2⟩⟩
/-- How many matches are counted behind so many events. -/
def cntC (p : Pat) (l : List Kp) (i : Nat) : Nat := ((matchesX bS p l).filter fun b => (l.take i).any fun x => numX x.ev == hcX l b).length
omit hok hby in
theorem cnt_0 : cntC p l 0 = 0 := by simp [cntC]
omit hok hby in
theorem cnt_same {i : Nat} {x : Kp} (hx : l[i]? = some x) (h : ((l.take i).all fun y => numX y.ev != numX x.ev) = false) : cntC p l (i + 1) = cntC p l i := by
  unfold cntC
  congr 1
  refine List.filter_congr fun b _ => ?_
  rw [any_snoc hx]
  obtain ⟨y, hy, hq⟩ := List.all_eq_false.1 h
  have hyx : numX y.ev = numX x.ev := by simpa using hq
  cases hc : (numX x.ev == hcX l b) with
  | false => rw [Bool.or_false]
  | true =>
    rw [Bool.or_true]
    symm
    exact List.any_eq_true.2 ⟨y, hy, by rw [hyx]; exact hc⟩
theorem cnt_more (hr : Rises l) (hany : p.any = true) {i : Nat} {x : Kp} (hx : l[i]? = some x) (h : ((l.take i).all fun y => numX y.ev != numX x.ev) = true) : cntC p l (i + 1) = cntC p l i + (matchesX bS p (partK l (numX x.ev))).length := by
  rw [part_len hok hby hr hany]
  unfold cntC
  have hd : ∀ b, ((l.take i).any fun y => numX y.ev == hcX l b) = true → (hcX l b == numX x.ev) = false := fun b hb => by
    obtain ⟨y, hy, hq⟩ := List.any_eq_true.1 hb
    have h1 := List.all_eq_true.1 h y hy
    have h2 : numX y.ev = hcX l b := by simpa using hq
    rw [← h2]
    simpa using h1
  generalize matchesX bS p l = M
  induction M with
  | nil => rfl
  | cons b r ih =>
    simp only [List.filter_cons, any_snoc hx]
    cases h1 : ((l.take i).any fun y => numX y.ev == hcX l b) with
    | true =>
      have h2 := hd b h1
      simp only [Bool.true_or, if_true, h2, List.length_cons]
      simp only [any_snoc hx] at ih
      simp only [Bool.false_eq_true, if_false]
      omega
    | false =>
      simp only [any_snoc hx] at ih
      cases h3 : (hcX l b == numX x.ev) with
      | true =>
        have h4 : (numX x.ev == hcX l b) = true := by rw [eq_of_beq h3]; exact beq_self_eq_true _
        simp only [h4, Bool.or_true, if_true, Bool.false_eq_true, if_false, List.length_cons]
        omega
      | false =>
        have h4 : (numX x.ev == hcX l b) = false := beq_eq_false_iff_ne.2 fun e => (beq_eq_false_iff_ne.1 h3) e.symm
        simp only [h4, Bool.or_false, Bool.false_eq_true, if_false]
        omega
omit hok hby in
theorem cnt_all (hr : Rises l) : cntC p l l.length = (matchesX bS p l).length := by
  unfold cntC
  rw [List.take_length, List.filter_eq_self.2 fun b hb => ?_]
  have hg := (mat_gn hb).1
  obtain ⟨b0, hb0⟩ : ∃ q, b[0]? = some q := ⟨_, List.getElem?_eq_getElem hg.1⟩
  obtain ⟨i, y, hi, hy⟩ := at_has (goes_there (hg.2 0 b0 hb0))
  refine List.any_eq_true.2 ⟨y, List.mem_of_getElem? hi, ?_⟩
  unfold hcX
  have ha := at_mem hr (List.mem_of_getElem? hi)
  rw [hy] at ha
  rw [firstE_at hb0, ha]
  exact beq_self_eq_true _
omit hok hby in
theorem cnt_le (i : Nat) : cntC p l i ≤ (matchesX bS p l).length := List.length_filter_le _ _
omit hok hby in
theorem all_snoc {α : Type} {f : α → Bool} {b : List α} {j : Nat} {y : α} (h : b[j]? = some y) : (b.take (j + 1)).all f = ((b.take j).all f && f y) := by
  rw [List.take_add_one, h, show (some y).toList = [y] from rfl, List.all_append]; simp
end
theorem kept_ok {l : List Ev} {n : Nat} (h : okS l = true) : ∀ x ∈ keptX l n, evtR bS x.ev = 0 := fun x hx => by
  obtain ⟨i, hi⟩ := List.getElem?_of_mem hx
  have hl := (List.getElem?_eq_some_iff.1 hi).1
  rw [kept_len] at hl
  rw [kept_get (List.getElem?_eq_getElem hl)] at hi
  cases hi
  exact (okS_at h (List.getElem?_eq_getElem hl)).1
end Go.AL
