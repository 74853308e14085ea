/- Parts of an abstract logic over the kit's walks, and walks in it: Mat6. -/
import Derived.Test.YtojnicnbmgiplaaGreatMat5
/- Other places, other times, as far apart: the same matches. -/
namespace Go.AL
open Go.Proofs Go.Sort
set_option linter.unusedVariables false
set_option linter.unusedSimpArgs false
/-! ### what conditions see of what is bound -/
section
variable {s : List Ty} {l l' : List Bi}
mutual
theorem evX_congr (h : ∀ al fi, fieldV s l al fi = fieldV s l' al fi) : ∀ x, evX s l x = evX s l' x
  | .mk op v al fi ks => by
    unfold evX
    rw [h al fi, chX_congr h op ks nulV, evXs_congr h ks]
theorem chX_congr (h : ∀ al fi, fieldV s l al fi = fieldV s l' al fi) (op : Int) : ∀ ks last, chX s l op ks last = chX s l' op ks last
  | [], _ => by simp only [chX]
  | k :: ks, last => by
    unfold chX
    rw [evX_congr h k, chX_congr h op ks]
theorem evXs_congr (h : ∀ al fi, fieldV s l al fi = fieldV s l' al fi) : ∀ ks, evXs s l ks = evXs s l' ks
  | [] => by simp only [evXs]
  | k :: ks => by
    unfold evXs
    rw [evX_congr h k, evXs_congr h ks]
end
theorem holds_congr (h : ∀ al fi, fieldV s l al fi = fieldV s l' al fi) (x : Exp) : holdsX s l x = holdsX s l' x := by
  unfold holdsX evalX
  rw [evX_congr h x]
end
def shEv (T : Int) (e : Ev) : Ev := ⟨e.ty, e.ts + T, e.vals⟩
def shKp (A T : Int) (k : Kp) : Kp := ⟨k.at_ + A, shEv T k.ev⟩
def shBd (A : Int) (x : Bd) : Bd := ⟨x.el, x.at_ + A⟩
def shBi (T : Int) (b : Bi) : Bi := ⟨b.al, shEv T b.ev⟩
def Placed (l : List Kp) (b : List Bd) : Prop := ∀ x ∈ b, (atK l x.at_).2 = true
section
variable {s : List Ty} {p : Pat} {l : List Kp} {b : List Bd} {A T : Int} {n : Nat}
theorem field_sh (l : List Bi) (al fi : ByteArray) : fieldV s (l.map (shBi T)) al fi = fieldV s l al fi := by
  unfold fieldV lastB
  rw [← List.map_reverse, List.find?_map]
  show (match (l.reverse.find? fun b => same b.al al).map (shBi T) with | some b => _ | none => _) = _
  cases l.reverse.find? (fun b => same b.al al) with
  | none => rfl
  | some b => rfl
theorem at_sh (z : Int) : atK (l.map (shKp A T)) (z + A) = match l.find? fun k => k.at_ == z with | some k => (shEv T k.ev, true) | none => (zeroE, false) := by
  unfold atK
  rw [List.find?_map]
  have : ((fun k : Kp => k.at_ == z + A) ∘ shKp A T) = fun k => k.at_ == z := by
    funext k
    show (k.at_ + A == z + A) = (k.at_ == z)
    cases h : (k.at_ == z) with
    | true => have := eq_of_beq h; subst this; exact beq_self_eq_true _
    | false => have := beq_eq_false_iff_ne.1 h; exact beq_eq_false_iff_ne.2 (by omega)
  rw [this]
  cases l.find? (fun k => k.at_ == z) <;> rfl
theorem at_sh2 (z : Int) : (atK (l.map (shKp A T)) (z + A)).2 = (atK l z).2 := by
  rw [at_sh]; unfold atK
  cases l.find? (fun k => k.at_ == z) <;> rfl
theorem at_sh1 {z : Int} (h : (atK l z).2 = true) : (atK (l.map (shKp A T)) (z + A)).1 = shEv T (atK l z).1 := by
  rw [at_sh]; unfold atK at h ⊢
  cases hq : l.find? (fun k => k.at_ == z) with
  | none => rw [hq] at h; cases h
  | some k => rfl
theorem bound_sh (k : Int) : ∀ b : List Bd, boundX p (l.map (shKp A T)) k (b.map (shBd A)) = (boundX p l k b).map (shBi T)
  | [] => rfl
  | x :: b => by
    show (bif (atK (l.map (shKp A T)) (x.at_ + A)).2 && decide (x.el < k) then (⟨(elX p x.el).al, (atK (l.map (shKp A T)) (x.at_ + A)).1⟩ : Bi) :: boundX p (l.map (shKp A T)) k (b.map (shBd A)) else boundX p (l.map (shKp A T)) k (b.map (shBd A))) = List.map (shBi T) (bif (atK l x.at_).2 && decide (x.el < k) then ⟨(elX p x.el).al, (atK l x.at_).1⟩ :: boundX p l k b else boundX p l k b)
    rw [at_sh2, bound_sh k b]
    cases h : (atK l x.at_).2 with
    | true =>
      rw [at_sh1 h]
      cases decide (x.el < k) <;> rfl
    | false => rfl
theorem takes_sh (k : Int) (e : Ev) : takesX s p (l.map (shKp A T)) (b.map (shBd A)) k (shEv T e) = takesX s p l b k e := by
  unfold takesX
  rw [bound_sh]
  show (hasTy (elX p k) e.ty && holdsX s ((boundX p l k b).map (shBi T) ++ [shBi T ⟨(elX p k).al, e⟩]) (elX p k).cond) = _
  rw [show (boundX p l k b).map (shBi T) ++ [shBi T ⟨(elX p k).al, e⟩] = (boundX p l k b ++ [(⟨(elX p k).al, e⟩ : Bi)]).map (shBi T) by rw [List.map_append]; rfl]
  rw [holds_congr (field_sh _)]
theorem last_sh (h : 0 < b.length) : lastBd (b.map (shBd A)) = shBd A (lastBd b) := by
  obtain ⟨c, x, rfl⟩ := snoc_of h
  rw [List.map_append, show [x].map (shBd A) = [shBd A x] from rfl, last_snoc, last_snoc]
theorem first_sh (h : 0 < b.length) (hp : Placed l b) : firstE (l.map (shKp A T)) (b.map (shBd A)) = shEv T (firstE l b) := by
  cases b with
  | nil => cases h
  | cons x t => exact at_sh1 (hp x (by simp))
theorem between_sh (i j : Int) : betweenX (l.map (shKp A T)) (i + A) (j + A) = (betweenX l i j).map (shKp A T) := by
  unfold betweenX
  rw [List.filter_map]
  congr 1
  refine List.filter_congr fun k _ => ?_
  show (decide (k.at_ + A > i + A) && decide (k.at_ + A < j + A)) = _
  rw [show decide (k.at_ + A > i + A) = decide (k.at_ > i) from decide_eq_decide.2 (by omega), show decide (k.at_ + A < j + A) = decide (k.at_ < j) from decide_eq_decide.2 (by omega)]
theorem met_sh (h : 0 < b.length) (hp : Placed l b) (to k : Int) : metX s p (l.map (shKp A T)) (b.map (shBd A)) (to + A) k = metX s p l b to k := by
  unfold metX
  rw [last_sh h, first_sh h hp]
  show ((betweenX (l.map (shKp A T)) ((lastBd b).at_ + A) (to + A)).any _) = _
  rw [between_sh, List.any_map]
  congr 1
  funext x
  show (takesX s p (l.map (shKp A T)) (b.map (shBd A)) k (shEv T x.ev) && alikeX s p (shEv T (firstE l b)) (shEv T x.ev)) = _
  rw [takes_sh]; rfl
theorem guard_sh (h : 0 < b.length) (hp : Placed l b) (x : Bd) : guardX s p (l.map (shKp A T)) (b.map (shBd A)) (shBd A x) = guardX s p l b x := by
  unfold guardX
  rw [last_sh h]
  show (List.range (x.el - (lastBd b).el - 1).toNat).all _ = _
  congr 1
  funext i
  show (!metX s p (l.map (shKp A T)) (b.map (shBd A)) (x.at_ + A) ((lastBd b).el + 1 + i)) = _
  rw [met_sh h hp]
theorem goes_sh (hp : Placed l b) (x : Bd) : goesX s p (l.map (shKp A T)) (b.map (shBd A)) (shBd A x) = goesX s p l b x := by
  cases hq : (!(atK l x.at_).2 || (decide (x.el < 0) || decide (x.el ≥ (p.els.length : Int)))) with
  | true => rw [goes_no hq, goes_no (x := shBd A x) (by show (!(atK (l.map (shKp A T)) (x.at_ + A)).2 || _) = true; rw [at_sh2]; exact hq)]
  | false =>
    have hq' : (!(atK (l.map (shKp A T)) (shBd A x).at_).2 || (decide ((shBd A x).el < 0) || decide ((shBd A x).el ≥ (p.els.length : Int)))) = false := by show (!(atK (l.map (shKp A T)) (x.at_ + A)).2 || _) = false; rw [at_sh2]; exact hq
    have hx : (atK l x.at_).2 = true := by simp at hq; exact hq.1
    have e1 : (atK (l.map (shKp A T)) (shBd A x).at_).1 = shEv T (atK l x.at_).1 := at_sh1 hx
    cases hb : b with
    | nil =>
      show goesX s p (l.map (shKp A T)) [] (shBd A x) = goesX s p l [] x
      rw [goes_nil hq', goes_nil hq, e1]
      show (x.el == 0 && takesX s p (l.map (shKp A T)) (([] : List Bd).map (shBd A)) 0 (shEv T (atK l x.at_).1)) = _
      rw [takes_sh]
    | cons y t =>
      have h : 0 < b.length := by rw [hb]; simp
      rw [← hb]
      rw [goes_on hq' (by rw [hb]; rfl) (last_sh h) (first_sh h hp) rfl, goes_on hq (by rw [hb]; rfl) rfl rfl rfl, e1, takes_sh, guard_sh h hp]
      show (bif decide (x.at_ + A ≤ (lastBd b).at_ + A) || (_ || decide (wr ((atK l x.at_).1.ts + T - ((firstE l b).ts + T)) > p.within)) then false else _) = _
      rw [show decide (x.at_ + A ≤ (lastBd b).at_ + A) = decide (x.at_ ≤ (lastBd b).at_) from decide_eq_decide.2 (by omega), show (atK l x.at_).1.ts + T - ((firstE l b).ts + T) = (atK l x.at_).1.ts - (firstE l b).ts by omega]
      rfl
theorem gn_placed (h : Gn s p l b) : Placed l b := fun x hx => by
  obtain ⟨i, hi⟩ := List.getElem?_of_mem hx
  exact goes_there (h.2 i x hi)
theorem fur_sh (h : 0 < b.length) (hp : Placed l b) (k : Int) : furX s p (l.map (shKp A T)) (b.map (shBd A)) (k + A) = (furX s p l b k).map (List.map (shBd A)) := by
  unfold furX furE
  rw [last_sh h]
  show List.filterMap (furF s p (l.map (shKp A T)) (b.map (shBd A)) (k + A)) [(lastBd b).el, nextX p (lastBd b).el] = _
  have hf : ∀ e, furF s p (l.map (shKp A T)) (b.map (shBd A)) (k + A) e = (furF s p l b k e).map (List.map (shBd A)) := fun e => by
    unfold furF
    have := goes_sh (s := s) (p := p) (A := A) (T := T) hp ⟨e, k⟩
    rw [show (⟨e, k + A⟩ : Bd) = shBd A ⟨e, k⟩ from rfl, this]
    cases goesX s p l b ⟨e, k⟩ with
    | true => show some (List.map (shBd A) b ++ [shBd A ⟨e, k⟩]) = some (List.map (shBd A) (b ++ [⟨e, k⟩])); rw [List.map_append]; rfl
    | false => rfl
  simp only [List.filterMap_cons, List.filterMap_nil, hf]
  cases furF s p l b k (lastBd b).el <;> cases furF s p l b k (nextX p (lastBd b).el) <;> rfl
theorem one_sh (k : Int) : oneX s p (l.map (shKp A T)) (k + A) = (oneX s p l k).map (List.map (shBd A)) := by
  unfold oneX
  have h : goesX s p (l.map (shKp A T)) [] ⟨0, k + A⟩ = goesX s p l [] ⟨0, k⟩ := goes_sh (b := []) (s := s) (p := p) (A := A) (T := T) (fun x hx => by cases hx) ⟨0, k⟩
  rw [h]
  cases goesX s p l [] ⟨0, k⟩ <;> rfl
theorem flat_sh {rows : List (List Bd)} {k : Int} : ∀ {rows : List (List Bd)}, (∀ b ∈ rows, 0 < b.length ∧ Placed l b) → (rows.map (List.map (shBd A))).flatMap (fun b => furX s p (l.map (shKp A T)) b (k + A)) = (rows.flatMap fun b => furX s p l b k).map (List.map (shBd A))
  | [], _ => rfl
  | b :: r, h => by
    simp only [List.map_cons, List.flatMap_cons, List.map_append]
    rw [fur_sh (h b (by simp)).1 (h b (by simp)).2, flat_sh (rows := r) fun c hc => h c (by simp [hc])]
theorem made_sh {rows : List (List Bd)} (h : ∀ b ∈ rows, 0 < b.length ∧ Placed l b) (k : Int) : madeX s p (l.map (shKp A T)) (rows.map (List.map (shBd A))) (k + A) = (madeX s p l rows k).map (List.map (shBd A)) := by
  unfold madeX
  rw [flat_sh (rows := rows) h, one_sh, List.map_append]
theorem stays_sh (h : 0 < b.length) (hp : Placed l b) (k : Int) : stays s p (l.map (shKp A T)) (k + A) (b.map (shBd A)) = stays s p l k b := by
  unfold stays
  rw [fur_sh h hp]
  cases furX s p l b k <;> rfl
theorem rows_ok : ∀ b ∈ rowsX s p l n, 0 < b.length ∧ Placed l b := fun b hb => ⟨(rows_gn n b hb).1, gn_placed (rows_gn n b hb)⟩
theorem rows_sh : ∀ n, rowsX s p (l.map (shKp A T)) n = (rowsX s p l n).map (List.map (shBd A))
  | 0 => rfl
  | n + 1 => by
    unfold rowsX
    rw [List.getElem?_map]
    cases hx : l[n]? with
    | none => exact rows_sh n
    | some x =>
      show (rowsX s p (l.map (shKp A T)) n).filter (stays s p (l.map (shKp A T)) (x.at_ + A)) ++ madeX s p (l.map (shKp A T)) (rowsX s p (l.map (shKp A T)) n) (x.at_ + A) = _
      rw [rows_sh n, made_sh rows_ok, List.filter_map, List.map_append]
      congr 1
      congr 1
      refine List.filter_congr fun b hb => ?_
      exact stays_sh (rows_ok b hb).1 (rows_ok b hb).2 x.at_
theorem order_sh : ∀ a b : List Bd, orderX (a.map (shBd A)) (b.map (shBd A)) = orderX a b
  | [], [] => rfl
  | [], _ :: _ => rfl
  | _ :: _, [] => rfl
  | x :: a, y :: b => by
    have hc : cmpBd (shBd A x) (shBd A y) = cmpBd x y := by
      unfold cmpBd
      show orI (cmpI (x.at_ + A) (y.at_ + A)) _ = _
      rw [show cmpI (x.at_ + A) (y.at_ + A) = cmpI x.at_ y.at_ by
        unfold cmpI
        rw [show decide (x.at_ + A < y.at_ + A) = decide (x.at_ < y.at_) from decide_eq_decide.2 (by omega), show decide (x.at_ + A > y.at_ + A) = decide (x.at_ > y.at_) from decide_eq_decide.2 (by omega)]]
      rfl
    show (bif cmpBd (shBd A x) (shBd A y) != 0 then cmpBd (shBd A x) (shBd A y) else orderX (a.map (shBd A)) (b.map (shBd A))) = bif cmpBd x y != 0 then cmpBd x y else orderX a b
    rw [hc, order_sh a b]
theorem sort_sh (xs : List (List Bd)) : sortX orderX (xs.map (List.map (shBd A))) = (sortX orderX xs).map (List.map (shBd A)) := by
  unfold sortX
  refine (List.map_mergeSort fun a _ b _ => ?_).symm
  unfold ltOf
  rw [order_sh]
theorem found_sh (x : Kp) : foundX s p (l.map (shKp A T)) n (shKp A T x) = (foundX s p l n x).map (List.map (shBd A)) := by
  unfold foundX
  rw [rows_sh]
  show (sortX orderX (madeX s p (l.map (shKp A T)) ((rowsX s p l n).map (List.map (shBd A))) (x.at_ + A))).filter (lastIs p) = _
  rw [made_sh rows_ok, sort_sh, List.filter_map]
  congr 1
  refine List.filter_congr fun b hb => ?_
  have hg := made_gn (s := s) (p := p) (l := l) (k := x.at_) (rows_gn n) b ((List.mergeSort_perm _ _).mem_iff.1 hb)
  show lastIs p (b.map (shBd A)) = lastIs p b
  unfold lastIs
  rw [last_sh hg.1]; rfl
theorem out_sh : ∀ n, outX s p (l.map (shKp A T)) n = (outX s p l n).map (List.map (shBd A))
  | 0 => rfl
  | n + 1 => by
    unfold outX
    rw [List.getElem?_map]
    cases hx : l[n]? with
    | none => exact out_sh n
    | some x =>
      show outX s p (l.map (shKp A T)) n ++ foundX s p (l.map (shKp A T)) n (shKp A T x) = _
      rw [out_sh n, found_sh, List.map_append]
/-- What DenoteShifts looks at. -/
theorem mat_sh : matchesX s p (l.map (shKp A T)) = (matchesX s p l).map (List.map (shBd A)) := by
  unfold matchesX
  rw [List.length_map, out_sh]
theorem rises_sh (hr : Rises l) : Rises (l.map (shKp A T)) := fun i j a c hij ha hc => by
  rw [List.getElem?_map, Option.map_eq_some_iff] at ha hc
  obtain ⟨a', ha', rfl⟩ := ha
  obtain ⟨c', hc', rfl⟩ := hc
  have := hr i j a' c' hij ha' hc'
  show a'.at_ + A < c'.at_ + A
  omega
theorem map_snoc {α β : Type} {f : α → β} {xs : List α} {i : Nat} {x : α} (h : xs[i]? = some x) : (xs.take (i + 1)).map f = (xs.take i).map f ++ [f x] := by
  rw [List.take_add_one, h, show (some x).toList = [x] from rfl, List.map_append]; rfl
end
end Go.AL
