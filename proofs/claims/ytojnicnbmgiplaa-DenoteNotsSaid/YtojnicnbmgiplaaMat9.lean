/- Parts of an abstract logic over the kit's walks, and walks in it: Mat9. -/
import Derived.Test.YtojnicnbmgiplaaMat7
import Derived.Test.YtojnicnbmgiplaaAf
/- With a Not between two: counted. -/
namespace Go.AL
open Go.Proofs Go.Sort
set_option linter.unusedVariables false
set_option linter.unusedSimpArgs false
def evN (k i : Nat) : Ev := bif k % 2 == 0 then evT ((i : Nat) : Int) ((k / 2 % 3 : Nat) : Int) else evU ((i : Nat) : Int) ((k / 2 % 3 : Nat) : Int)
def evsN (l : List Nat) : List Ev := (List.range l.length).map fun i => evN (l.getD i 0) i
def isT (l : List Nat) (i : Nat) : Bool := l.getD i 0 % 2 == 0
theorem evsN_len (l : List Nat) : (evsN l).length = l.length := by simp [evsN]
theorem evsN_get {l : List Nat} {i : Nat} (h : i < l.length) : (evsN l)[i]? = some (evN (l.getD i 0) i) := by
  unfold evsN; rw [List.getElem?_map, List.getElem?_range h]; rfl
theorem evsN_snoc {l : List Nat} {i k : Nat} (h : l[i]? = some k) : (evsN l).take (i + 1) = (evsN l).take i ++ [evN k i] := by
  have hl := (List.getElem?_eq_some_iff.1 h).1
  rw [List.take_add_one, evsN_get hl, List.getD_eq_getElem?_getD, h]; rfl
theorem evN_ts (k i : Nat) : (evN k i).ts = (i : Int) := by unfold evN; cases k % 2 == 0 <;> rfl
theorem evN_ty (k i : Nat) : (evN k i).ty = bif k % 2 == 0 then ch 116 else ch 117 := by unfold evN; cases k % 2 == 0 <;> rfl
theorem evT_okN {ts n : Int} (h : 0 ≤ ts ∧ ts ≤ 1073741824) : evtR bS (evT ts n) = 0 := by
  unfold evtR
  show _ = _
  simp only [show (evT ts n).ty = ch 116 from rfl, find_t]
  rw [show decide ((evT ts n).ts < 0) = false from decide_eq_false (show ¬ ts < 0 by omega), show decide ((evT ts n).ts > 1073741824) = false from decide_eq_false (show ¬ ts > 1073741824 by omega)]
  have hv : isVal ⟨1, n, nul⟩ = true := by unfold isVal; rw [show same (⟨1, n, nul⟩ : Vl).s nul = true from (by decide +kernel : same nul nul = true)]; rfl
  have h2 : ([⟨3, 0, nul⟩, ⟨1, n, nul⟩, ⟨2, 0, nul⟩] : List Vl).all isVal = true := by
    simp only [List.all_cons, List.all_nil, hv]
    rw [show isVal ⟨3, 0, nul⟩ = true by decide +kernel, show isVal ⟨2, 0, nul⟩ = true by decide +kernel]; rfl
  rw [show (evT ts n).vals = [⟨3, 0, nul⟩, ⟨1, n, nul⟩, ⟨2, 0, nul⟩] from rfl, h2]; rfl
theorem evU_okN {ts n : Int} (h : 0 ≤ ts ∧ ts ≤ 1073741824) : evtR bS (evU ts n) = 0 := by
  unfold evtR
  show _ = _
  simp only [show (evU ts n).ty = ch 117 from rfl, find_u]
  rw [show decide ((evU ts n).ts < 0) = false from decide_eq_false (show ¬ ts < 0 by omega), show decide ((evU ts n).ts > 1073741824) = false from decide_eq_false (show ¬ ts > 1073741824 by omega)]
  have hv : isVal ⟨1, n, nul⟩ = true := by unfold isVal; rw [show same (⟨1, n, nul⟩ : Vl).s nul = true from (by decide +kernel : same nul nul = true)]; rfl
  have h2 : ([⟨1, n, nul⟩] : List Vl).all isVal = true := by simp only [List.all_cons, List.all_nil, hv]; rfl
  rw [show (evU ts n).vals = [⟨1, n, nul⟩] from rfl, h2]; rfl
theorem evN_ok (k : Nat) {i : Nat} (h : i ≤ 100) : evtR bS (evN k i) = 0 := by
  unfold evN
  cases k % 2 == 0 with
  | true => exact evT_okN ⟨by omega, by omega⟩
  | false => exact evU_okN ⟨by omega, by omega⟩
theorem nots_ok {l : List Nat} (h : l.length ≤ 10) : okS (evsN l) = true := by
  unfold okS
  refine List.all_eq_true.2 fun i hi => ?_
  have hi := List.mem_range.1 hi
  rw [evsN_len] at hi
  unfold okAt
  rw [getD_at (evsN_get hi), evN_ok _ (by omega)]
  cases i with
  | zero => rfl
  | succ j =>
    rw [Nat.add_sub_cancel, getD_at (evsN_get (show j < l.length by omega)), evN_ts, evN_ts, show decide (((j : Nat) : Int) > ((j + 1 : Nat) : Int)) = false from decide_eq_false (by omega)]
    simp
theorem nots_stream {l : List Nat} (h : l.length ≤ 10) : streamX (evsN l) 0 = (keptX (evsN l) 0, true) := by unfold streamX; rw [nots_ok h]; rfl
theorem same_tt : same (ch 116) (ch 116) = true := by decide +kernel
theorem same_tu : same (ch 116) (ch 117) = false := by decide +kernel
theorem same_ut : same (ch 117) (ch 116) = false := by decide +kernel
theorem same_uu : same (ch 117) (ch 117) = true := by decide +kernel
/-! ### patterns of two -/
def elNot : El := ⟨ch 120, [ch 117], false, true, zeroX⟩
def pN3 : Pat := ⟨[eL (ch 97), elNot, eL (ch 98)], 100, nul, true⟩
def pN2 : Pat := ⟨[eL (ch 97), eL (ch 98)], 100, nul, true⟩
theorem takes_zero {s : List Ty} {p : Pat} {l : List Kp} {b : List Bd} {k : Int} {e : Ev} {a t : ByteArray} {pl ng : Bool} (h : elX p k = ⟨a, [t], pl, ng, zeroX⟩) : takesX s p l b k e = same t e.ty := by
  unfold takesX hasTy
  rw [h]
  show (([t].any fun x => same x e.ty) && holdsX s _ zeroX) = _
  rw [holds_zero, Bool.and_true]
  simp
theorem goes_next_el {s : List Ty} {p : Pat} {l : List Kp} {b : List Bd} {x : Bd} (hb : 0 < b.length) (hp : (elX p (lastBd b).el).plus = false) (h : goesX s p l b x = true) : x.el = nextX p (lastBd b).el := by
  have h0 : (!(atK l x.at_).2 || (decide (x.el < 0) || decide (x.el ≥ (p.els.length : Int)))) = false := by
    cases hq : (!(atK l x.at_).2 || (decide (x.el < 0) || decide (x.el ≥ (p.els.length : Int)))) with
    | true => rw [goes_no hq] at h; cases h
    | false => rfl
  rw [goes_on h0 (by cases b with | nil => cases hb | cons _ _ => rfl) rfl rfl rfl, hp, Bool.and_false] at h
  cases hn : (x.el != nextX p (lastBd b).el) with
  | false => exact bne_eq_false_iff_eq.1 hn
  | true => rw [hn] at h; simp at h
/-- A pattern of two, with or without something between. -/
structure Two2 (p : Pat) (m : Nat) : Prop where
  m0 : 0 < m
  len : p.els.length = m + 1
  e0 : elX p 0 = eL (ch 97)
  em : elX p (m : Int) = eL (ch 98)
  n0 : nextX p 0 = (m : Int)
  nm : nextX p (m : Int) = -1
  w : p.within = 100
  byf : p.byf = nul
  any : p.any = true
theorem two3 : Two2 pN3 2 := ⟨by decide, rfl, rfl, rfl, rfl, rfl, rfl, rfl, rfl⟩
theorem two2 : Two2 pN2 1 := ⟨by decide, rfl, rfl, rfl, rfl, rfl, rfl, rfl, rfl⟩
def qM (i j : Nat) (m : Nat) : List Bd := [⟨0, ((i : Nat) : Int)⟩, ⟨((m : Nat) : Int), ((j : Nat) : Int)⟩]
section
variable {p : Pat} {m : Nat} {l : List Nat} {b : List Bd}
theorem kN_at {i : Nat} (h : i < l.length) : atK (keptX (evsN l) 0) ((i : Nat) : Int) = (evN (l.getD i 0) i, true) := by
  have := kept_at (n := 0) (evsN_get h)
  rwa [Nat.zero_add] at this
theorem kN_has {z : Int} (h : (atK (keptX (evsN l) 0) z).2 = true) : ∃ i : Nat, i < l.length ∧ z = (i : Int) := by
  obtain ⟨i, e, h1, h2, _⟩ := kept_has h
  have := (List.getElem?_eq_some_iff.1 h2).1
  rw [evsN_len] at this
  exact ⟨i, this, by rw [h1]; omega⟩
theorem tyN (i : Nat) : same (ch 116) (evN (l.getD i 0) i).ty = isT l i ∧ same (ch 117) (evN (l.getD i 0) i).ty = !isT l i := by
  rw [evN_ty]
  unfold isT
  cases l.getD i 0 % 2 == 0 with
  | true => exact ⟨same_tt, same_ut⟩
  | false => exact ⟨same_tu, same_uu⟩
theorem goesA (t : Two2 p m) {i : Nat} (h : i < l.length) : goesX bS p (keptX (evsN l) 0) [] ⟨0, ((i : Nat) : Int)⟩ = isT l i := by
  rw [goes_nil (by rw [kN_at h]; simp [t.len]), kN_at h, takes_zero t.e0, (tyN i).1]; rfl
theorem goesB (t : Two2 p m) {i j : Nat} (hi : i < l.length) (hj : j < l.length) (h10 : l.length ≤ 10) (hij : i < j) : goesX bS p (keptX (evsN l) 0) [⟨0, ((i : Nat) : Int)⟩] ⟨(m : Int), ((j : Nat) : Int)⟩ = (isT l j && guardX bS p (keptX (evsN l) 0) [⟨0, ((i : Nat) : Int)⟩] ⟨(m : Int), ((j : Nat) : Int)⟩) := by
  have hm := t.m0
  rw [goes_on (lst := ⟨0, ((i : Nat) : Int)⟩) (fe := evN (l.getD i 0) i) (sm := false) (by rw [kN_at hj]; simp [t.len]; omega) rfl rfl (by rw [firstE_at (x := ⟨0, ((i : Nat) : Int)⟩) rfl, kN_at hi]) (by rw [show ((⟨(m : Int), ((j : Nat) : Int)⟩ : Bd).el == (⟨0, ((i : Nat) : Int)⟩ : Bd).el) = false from beq_eq_false_iff_ne.2 (by show ((m : Nat) : Int) ≠ 0; omega)]; rfl)]
  rw [show (((⟨(m : Int), ((j : Nat) : Int)⟩ : Bd).el != nextX p (⟨0, ((i : Nat) : Int)⟩ : Bd).el)) = false by rw [show nextX p (⟨0, ((i : Nat) : Int)⟩ : Bd).el = (m : Int) from t.n0]; exact bne_self_eq_false _]
  rw [show decide ((⟨(m : Int), ((j : Nat) : Int)⟩ : Bd).at_ ≤ (⟨0, ((i : Nat) : Int)⟩ : Bd).at_) = false from decide_eq_false (by show ¬ ((j : Nat) : Int) ≤ ((i : Nat) : Int); omega)]
  rw [show (atK (keptX (evsN l) 0) (⟨(m : Int), ((j : Nat) : Int)⟩ : Bd).at_) = (evN (l.getD j 0) j, true) from kN_at hj]
  have hts : decide (wr (((evN (l.getD j 0) j, true) : Ev × Bool).1.ts - (evN (l.getD i 0) i).ts) > p.within) = false := by
    rw [t.w]
    show decide (wr ((evN (l.getD j 0) j).ts - (evN (l.getD i 0) i).ts) > 100) = false
    rw [evN_ts, evN_ts]
    unfold wr
    rw [wrap_id _ _ (by simp [IntKind.min, IntKind.signed, IntKind.bits]; omega) (by simp [IntKind.max, IntKind.signed, IntKind.bits]; omega)]
    exact decide_eq_false (by omega)
  rw [hts]
  have hal : alikeX bS p (evN (l.getD i 0) i) ((evN (l.getD j 0) j, true) : Ev × Bool).1 = true := by
    unfold alikeX
    rw [t.byf, show same nul nul = true by decide +kernel]; rfl
  rw [hal]
  rw [show takesX bS p (keptX (evsN l) 0) [⟨0, ((i : Nat) : Int)⟩] (⟨(m : Int), ((j : Nat) : Int)⟩ : Bd).el ((evN (l.getD j 0) j, true) : Ev × Bool).1 = isT l j from (takes_zero t.em).trans (tyN j).1]
  simp
/-- What matches are. -/
theorem two_iff (t : Two2 p m) (h10 : l.length ≤ 10) : b ∈ matchesX bS p (keptX (evsN l) 0) ↔ ∃ i j, i < j ∧ j < l.length ∧ isT l i = true ∧ isT l j = true ∧ guardX bS p (keptX (evsN l) 0) [⟨0, ((i : Nat) : Int)⟩] ⟨(m : Int), ((j : Nat) : Int)⟩ = true ∧ b = qM i j m := by
  have hm := t.m0
  rw [mat_iff (kept_rises _ _)]
  constructor
  · rintro ⟨hg, _, hl⟩
    obtain ⟨x0, hx0⟩ : ∃ q, b[0]? = some q := ⟨_, List.getElem?_eq_getElem hg.1⟩
    have g0 := hg.2 0 x0 hx0
    rw [List.take_zero] at g0
    have e0 := goes_zero g0
    obtain ⟨i, hi, hz⟩ := kN_has (goes_there g0)
    have hx0' : x0 = ⟨0, ((i : Nat) : Int)⟩ := by obtain ⟨xe, xa⟩ := x0; simp only at e0 hz; rw [e0, hz]
    subst hx0'
    rw [goesA t hi] at g0
    have h1 : 1 < b.length := by
      rcases Nat.lt_or_ge 1 b.length with h | h
      · exact h
      · exfalso
        have hlen : b.length = 1 := by have := hg.1; omega
        have hb : b = [⟨0, ((i : Nat) : Int)⟩] := by
          match b, hlen, hx0 with
          | [y], _, hy => simpa using hy
        rw [hb] at hl
        unfold lastIs at hl
        rw [t.len] at hl
        have : (0 : Int) = ((m + 1 : Nat) : Int) - 1 := by simpa [lastBd] using hl
        omega
    obtain ⟨x1, hx1⟩ : ∃ q, b[1]? = some q := ⟨_, List.getElem?_eq_getElem h1⟩
    have g1 := hg.2 1 x1 hx1
    have ht1 : b.take 1 = [⟨0, ((i : Nat) : Int)⟩] := by rw [List.take_add_one, hx0]; rfl
    rw [ht1] at g1
    have e1 := goes_next_el (by simp) (by show (elX p 0).plus = false; rw [t.e0]; rfl) g1
    rw [show nextX p (lastBd [(⟨0, ((i : Nat) : Int)⟩ : Bd)]).el = (m : Int) from t.n0] at e1
    obtain ⟨j, hj, hz1⟩ := kN_has (goes_there g1)
    have hx1' : x1 = ⟨((m : Nat) : Int), ((j : Nat) : Int)⟩ := by obtain ⟨xe, xa⟩ := x1; simp only at e1 hz1; rw [e1, hz1]
    subst hx1'
    have hij : i < j := by have := (goes_far (by simp) g1).1; have : ((i : Nat) : Int) < ((j : Nat) : Int) := this; omega
    rw [goesB t hi hj h10 hij, Bool.and_eq_true] at g1
    have h2 : b.length = 2 := by
      rcases Nat.lt_or_ge 2 b.length with h | h
      · exfalso
        obtain ⟨x2, hx2⟩ : ∃ q, b[2]? = some q := ⟨_, List.getElem?_eq_getElem h⟩
        have g2 := hg.2 2 x2 hx2
        have ht2 : b.take 2 = [⟨0, ((i : Nat) : Int)⟩, ⟨((m : Nat) : Int), ((j : Nat) : Int)⟩] := by rw [List.take_add_one, ht1, hx1]; rfl
        rw [ht2] at g2
        have e2 := goes_next_el (by simp) (by show (elX p ((m : Nat) : Int)).plus = false; rw [t.em]; rfl) g2
        rw [show nextX p (lastBd [(⟨0, ((i : Nat) : Int)⟩ : Bd), ⟨((m : Nat) : Int), ((j : Nat) : Int)⟩]).el = -1 from t.nm] at e2
        have := (goes_in g2).1
        omega
      · omega
    have hb : b = qM i j m := by
      match b, h2, hx0, hx1 with
      | [y, z], _, hy, hz =>
        simp only [List.getElem?_cons_zero, Option.some.injEq, List.getElem?_cons_succ] at hy hz
        rw [hy, hz]; rfl
    exact ⟨i, j, hij, hj, g0, g1.1, g1.2, hb⟩
  · rintro ⟨i, j, hij, hj, hti, htj, hgd, rfl⟩
    have hi : i < l.length := by omega
    refine ⟨gn_snoc (b := [⟨0, ((i : Nat) : Int)⟩]) (gn_one ((goesA t hi).trans hti)).2 (by rw [goesB t hi hj h10 hij, htj, hgd]; rfl), .inl t.any, ?_⟩
    unfold lastIs
    rw [t.len]
    show (((m : Nat) : Int) == ((m + 1 : Nat) : Int) - 1) = true
    exact beq_iff_eq.2 (by omega)
theorem guard2 {i j : Nat} : guardX bS pN2 (keptX (evsN l) 0) [⟨0, ((i : Nat) : Int)⟩] ⟨((1 : Nat) : Int), ((j : Nat) : Int)⟩ = true := rfl
/-- No u between. -/
def quietN (l : List Nat) (i j : Nat) : Bool := (List.range l.length).all fun k => !(decide (i < k) && decide (k < j)) || isT l k
theorem guard3 {i j : Nat} (hi : i < l.length) : guardX bS pN3 (keptX (evsN l) 0) [⟨0, ((i : Nat) : Int)⟩] ⟨((2 : Nat) : Int), ((j : Nat) : Int)⟩ = quietN l i j := by
  show (List.range 1).all _ = _
  rw [show List.range 1 = [0] from rfl]
  show ((!metX bS pN3 (keptX (evsN l) 0) [⟨0, ((i : Nat) : Int)⟩] ((j : Nat) : Int) (0 + 1 + ((0 : Nat) : Int))) && true) = _
  rw [Bool.and_true]
  rw [Bool.eq_iff_iff, Bool.not_eq_true', ← Bool.not_eq_true]
  unfold metX quietN
  rw [List.any_eq_true, List.all_eq_true]
  have tk : ∀ k : Nat, k < l.length → (takesX bS pN3 (keptX (evsN l) 0) [⟨0, ((i : Nat) : Int)⟩] (0 + 1 + ((0 : Nat) : Int)) (evN (l.getD k 0) k) && alikeX bS pN3 (firstE (keptX (evsN l) 0) [⟨0, ((i : Nat) : Int)⟩]) (evN (l.getD k 0) k)) = !isT l k := fun k hk => by
    rw [takes_zero (show elX pN3 (0 + 1 + ((0 : Nat) : Int)) = ⟨ch 120, [ch 117], false, true, zeroX⟩ from rfl), (tyN k).2]
    unfold alikeX
    rw [show same pN3.byf nul = true from (by decide +kernel : same nul nul = true)]
    simp
  constructor
  · intro h k hk
    have hk := List.mem_range.1 hk
    cases hc : (decide (i < k) && decide (k < j)) with
    | false => rfl
    | true =>
      cases ht : isT l k with
      | true => rfl
      | false =>
        exfalso
        rw [Bool.and_eq_true] at hc
        have c1 := of_decide_eq_true hc.1
        have c2 := of_decide_eq_true hc.2
        refine h ⟨⟨((k : Nat) : Int), evN (l.getD k 0) k⟩, ?_, by rw [tk k hk, ht]; rfl⟩
        unfold betweenX
        refine List.mem_filter.2 ⟨?_, ?_⟩
        · have := kept_get (n := 0) (evsN_get hk)
          rw [Nat.zero_add] at this
          exact List.mem_of_getElem? this
        · show (decide (((k : Nat) : Int) > ((i : Nat) : Int)) && decide (((k : Nat) : Int) < ((j : Nat) : Int))) = true
          rw [decide_eq_true (by omega), decide_eq_true (by omega)]; rfl
  · rintro h ⟨x, hx, hq⟩
    unfold betweenX at hx
    obtain ⟨hm, hc⟩ := List.mem_filter.1 hx
    obtain ⟨k, hk⟩ := List.getElem?_of_mem hm
    have hlt := (List.getElem?_eq_some_iff.1 hk).1
    rw [kept_len, evsN_len] at hlt
    have := kept_get (n := 0) (evsN_get hlt)
    rw [Nat.zero_add] at this
    rw [this] at hk
    cases hk
    have hc : (decide (((k : Nat) : Int) > ((i : Nat) : Int)) && decide (((k : Nat) : Int) < ((j : Nat) : Int))) = true := hc
    rw [Bool.and_eq_true] at hc
    have c1 := of_decide_eq_true hc.1
    have c2 := of_decide_eq_true hc.2
    have hq' := (tk k hlt).symm.trans hq
    have h1 := h k (List.mem_range.2 hlt)
    rw [decide_eq_true (show i < k by omega), decide_eq_true (show k < j by omega)] at h1
    simp at h1 hq'
    rw [h1] at hq'
    cases hq'
/-! ### counted -/
def after (l : List Nat) (f : Nat → Nat → Bool) (i : Nat) : List Nat := (List.range l.length).filter fun j => decide (i < j) && (isT l j && f i j)
def listQ (l : List Nat) (f : Nat → Nat → Bool) (m : Nat) : List (List Bd) := (List.range l.length).flatMap fun i => bif isT l i then (after l f i).map (fun j => qM i j m) else []
def cntQ (l : List Nat) (f : Nat → Nat → Bool) (i : Nat) : Nat := bif isT l i then (after l f i).length else 0
theorem qM_inj {i j i' j' : Nat} (h : qM i j m = qM i' j' m) : i = i' ∧ j = j' := by
  unfold qM at h
  simp at h
  omega
theorem listQ_nodup (f : Nat → Nat → Bool) : (listQ l f m).Nodup := by
  unfold listQ
  refine flatMap_nodup List.nodup_range (fun i _ => ?_) (fun i _ j _ hne z hz hz' => ?_)
  · cases isT l i with
    | false => exact List.nodup_nil
    | true =>
      show ((after l f i).map fun j => qM i j m).Nodup
      unfold List.Nodup
      rw [List.pairwise_map]
      have : (after l f i).Nodup := List.nodup_range.filter _
      exact this.imp fun h e => h (qM_inj e).2
  · cases h1 : isT l i <;> rw [h1] at hz <;> cases h2 : isT l j <;> rw [h2] at hz'
    · simp at hz
    · simp at hz
    · simp at hz'
    · obtain ⟨a, _, rfl⟩ := List.mem_map.1 hz
      obtain ⟨c, _, hc⟩ := List.mem_map.1 hz'
      exact hne (qM_inj hc).1.symm
theorem listQ_len (f : Nat → Nat → Bool) : (listQ l f m).length = ((List.range l.length).map (cntQ l f)).sum := by
  unfold listQ
  rw [List.length_flatMap]
  congr 1
  refine List.map_congr_left fun i _ => ?_
  unfold cntQ
  cases isT l i <;> simp
theorem listQ_iff (f : Nat → Nat → Bool) : b ∈ listQ l f m ↔ ∃ i j, i < j ∧ j < l.length ∧ isT l i = true ∧ isT l j = true ∧ f i j = true ∧ b = qM i j m := by
  unfold listQ
  rw [List.mem_flatMap]
  constructor
  · rintro ⟨i, hi, hb⟩
    cases h1 : isT l i with
    | false => rw [h1] at hb; simp at hb
    | true =>
      rw [h1] at hb
      obtain ⟨j, hj, rfl⟩ := List.mem_map.1 hb
      unfold after at hj
      obtain ⟨hj, hc⟩ := List.mem_filter.1 hj
      simp at hj hc
      exact ⟨i, j, hc.1, hj, h1, hc.2.1, hc.2.2, rfl⟩
  · rintro ⟨i, j, hij, hj, h1, h2, h3, rfl⟩
    refine ⟨i, List.mem_range.2 (by omega), ?_⟩
    rw [h1]
    exact List.mem_map.2 ⟨j, List.mem_filter.2 ⟨List.mem_range.2 hj, by simp [hij, h2, h3]⟩, rfl⟩
theorem nots_len3 (h10 : l.length ≤ 10) : (matchesX bS pN3 (keptX (evsN l) 0)).length = ((List.range l.length).map (cntQ l (quietN l))).sum := by
  rw [← listQ_len (m := 2)]
  refine List.Perm.length_eq ((List.perm_ext_iff_of_nodup (out_ord (kept_rises _ _) _).2.1 (listQ_nodup _)).2 fun b => ?_)
  refine (two_iff two3 h10).trans (Iff.trans ?_ (listQ_iff _).symm)
  constructor
  · rintro ⟨i, j, h1, h2, h3, h4, h5, h6⟩
    exact ⟨i, j, h1, h2, h3, h4, by rw [← guard3 (by omega)]; exact h5, h6⟩
  · rintro ⟨i, j, h1, h2, h3, h4, h5, h6⟩
    exact ⟨i, j, h1, h2, h3, h4, by rw [guard3 (by omega)]; exact h5, h6⟩
theorem nots_len2 (h10 : l.length ≤ 10) : (matchesX bS pN2 (keptX (evsN l) 0)).length = ((List.range l.length).map (cntQ l fun _ _ => true)).sum := by
  rw [← listQ_len (m := 1)]
  refine List.Perm.length_eq ((List.perm_ext_iff_of_nodup (out_ord (kept_rises _ _) _).2.1 (listQ_nodup _)).2 fun b => ?_)
  refine (two_iff two2 h10).trans (Iff.trans ?_ (listQ_iff _).symm)
  constructor
  · rintro ⟨i, j, h1, h2, h3, h4, _, h6⟩
    exact ⟨i, j, h1, h2, h3, h4, rfl, h6⟩
  · rintro ⟨i, j, h1, h2, h3, h4, _, h6⟩
    exact ⟨i, j, h1, h2, h3, h4, guard2, h6⟩
theorem cnt_le2 (i : Nat) : cntQ l (quietN l) i ≤ cntQ l (fun _ _ => true) i := by
  unfold cntQ
  cases isT l i with
  | false => exact Nat.le_refl _
  | true =>
    show (after l (quietN l) i).length ≤ (after l (fun _ _ => true) i).length
    unfold after
    generalize List.range l.length = r
    induction r with
    | nil => exact Nat.le_refl _
    | cons j r ih =>
      simp only [List.filter_cons]
      cases h1 : decide (i < j) <;> cases h2 : isT l j <;> cases h3 : quietN l i j <;> simp <;> simp at ih <;> omega
theorem sum_le {f g : Nat → Nat} (h : ∀ i, f i ≤ g i) : ∀ r : List Nat, (r.map f).sum ≤ (r.map g).sum
  | [] => Nat.le_refl _
  | i :: r => by simp only [List.map_cons, List.sum_cons]; have := h i; have := sum_le h r; omega
theorem nots_more (h10 : l.length ≤ 10) : (matchesX bS pN3 (keptX (evsN l) 0)).length ≤ (matchesX bS pN2 (keptX (evsN l) 0)).length := by
  rw [nots_len3 h10, nots_len2 h10]
  exact sum_le cnt_le2 _
/-- Those behind one, as the law counts them. -/
theorem count_lt : ∀ n i j : Nat, ((List.range n).filter fun k => decide (i < k) && decide (k < j)).length = min n j - (i + 1)
  | 0, i, j => by simp
  | n + 1, i, j => by
    rw [List.range_succ, List.filter_append, List.length_append, count_lt n i j]
    simp only [List.filter_cons, List.filter_nil]
    by_cases h : i < n ∧ n < j
    · rw [decide_eq_true h.1, decide_eq_true h.2]; simp; omega
    · cases h1 : decide (i < n) <;> cases h2 : decide (n < j) <;> simp at h1 h2 ⊢ <;> omega
theorem cnt_run {i j : Nat} (ht : isT l i = true) (hij : i < j) (hj : j ≤ l.length) (h : ∀ k, i < k → k < j → isT l k = true) (he : j = l.length ∨ isT l j = false) : cntQ l (quietN l) i = j - (i + 1) := by
  unfold cntQ
  rw [ht]
  show (after l (quietN l) i).length = _
  unfold after
  rw [List.filter_congr (q := fun k => decide (i < k) && decide (k < j)) fun k hk => ?_, count_lt, Nat.min_eq_right hj]
  have hk := List.mem_range.1 hk
  by_cases h1 : i < k
  · rw [decide_eq_true h1, Bool.true_and, Bool.true_and]
    by_cases h2 : k < j
    · rw [decide_eq_true h2, h k h1 h2, Bool.true_and]
      unfold quietN
      refine List.all_eq_true.2 fun q hq => ?_
      cases hc : (decide (i < q) && decide (q < k)) with
      | false => rfl
      | true =>
        rw [Bool.and_eq_true] at hc
        have c1 := of_decide_eq_true hc.1
        have c2 := of_decide_eq_true hc.2
        rw [h q c1 (by omega)]; rfl
    · rw [decide_eq_false h2]
      have hjl : j < l.length := by omega
      have hf : isT l j = false := he.resolve_left (by omega)
      by_cases hkj : k = j
      · subst hkj; rw [hf]; rfl
      · rw [Bool.and_eq_false_iff]
        right
        unfold quietN
        refine List.all_eq_false.2 ⟨j, List.mem_range.2 hjl, ?_⟩
        rw [decide_eq_true hij, decide_eq_true (show j < k by omega), hf]
        exact Bool.false_ne_true
  · rw [decide_eq_false h1]; rfl
theorem cnt_none {i : Nat} (ht : isT l i = false) : cntQ l (quietN l) i = 0 := by unfold cntQ; rw [ht]; rfl
def wantN (l : List Nat) (i : Nat) : Nat := ((List.range i).map (cntQ l (quietN l))).sum
theorem want_succ (i : Nat) : wantN l (i + 1) = wantN l i + cntQ l (quietN l) i := by
  unfold wantN
  rw [List.range_succ, List.map_append, List.sum_append]; simp
theorem cntQ_le (i : Nat) : cntQ l (quietN l) i ≤ l.length := by
  unfold cntQ
  cases isT l i with
  | false => exact Nat.zero_le _
  | true => exact Nat.le_trans (List.length_filter_le _ _) (by simp)
theorem want_le (h10 : l.length ≤ 10) : ∀ i, wantN l i ≤ 10 * i
  | 0 => by simp [wantN]
  | i + 1 => by rw [want_succ]; have := want_le h10 i; have := cntQ_le (l := l) i; omega
end
/-! ### as the law makes and looks at them -/
theorem nt_idx (k : Nat) : ofCells false 1 ([AV.d (str (ch 116)), .d (str (ch 117))].drop (((k % 2 : Nat) : Int).toNat * 1)) = some (.d (str (bif k % 2 == 0 then ch 116 else ch 117))) := by
  rcases Nat.mod_two_eq_zero_or_one k with h | h <;> rw [h] <;> rfl
theorem nt_t (k i : Nat) : ((evN k i).ty.toList == (⟨#[116]⟩ : ByteArray).toList) = (k % 2 == 0) := by
  rw [evN_ty]
  cases k % 2 == 0 with
  | true => exact (by decide +kernel : ((ch 116).toList == (⟨#[116]⟩ : ByteArray).toList) = true)
  | false => exact (by decide +kernel : ((ch 117).toList == (⟨#[116]⟩ : ByteArray).toList) = false)
theorem nt_u (k i : Nat) : ((evN k i).ty.toList == (⟨#[117]⟩ : ByteArray).toList) = !(k % 2 == 0) := by
  rw [evN_ty]
  cases k % 2 == 0 with
  | true => exact (by decide +kernel : ((ch 116).toList == (⟨#[117]⟩ : ByteArray).toList) = false)
  | false => exact (by decide +kernel : ((ch 117).toList == (⟨#[117]⟩ : ByteArray).toList) = true)
theorem nt_half (u : UInt8) : IntKind.u8.wrap ((u.toNat : Int).tdiv 2) = ((u.toNat / 2 : Nat) : Int) := by
  have h := u.toNat_lt
  rw [show ((u.toNat : Int).tdiv 2) = ((u.toNat / 2 : Nat) : Int) from rfl]
  exact wrap_id .u8 _ (by have : IntKind.u8.min = 0 := rfl; omega) (by have : IntKind.u8.max = 255 := rfl; omega)
theorem cntN_end {l : List Nat} {i j : Nat} (hij : i < j) (hj : j = l.length) (hrun : ∀ k, i < k → k < j → isT l k = true) (hti : i + 1 < j → isT l i = true) : j - (i + 1) = cntQ l (quietN l) i := by
  cases hq : isT l i with
  | false =>
    rw [cnt_none hq]
    rcases Nat.lt_or_ge (i + 1) j with h | h
    · rw [hti h] at hq; cases hq
    · omega
  | true => rw [cnt_run hq hij (by omega) hrun (.inl hj)]
end Go.AL
