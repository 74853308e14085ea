/- Parts of an abstract logic over the kit's walks, and walks in it: Need2. -/
import Derived.Test.YtojnicnbmgiplaaNeed
import Derived.Test.YtojnicnbmgiplaaEz
import Derived.Test.YtojnicnbmgiplaaMe
/- Events without what isn't looked at; plain data. -/
namespace Go.AL
open Go.Proofs
set_option linter.unusedVariables false
set_option linter.unusedSimpArgs false
def trimF (u : List Us) (ty : ByteArray) (fs : List Fld) (n i : Nat) (v : Vl) : Vl := bif decide (i < n) then (match fs[i]? with | some f => bif hasU u ⟨ty, f.name⟩ then v else zeroV f.kind | none => v) else v
def trimV (u : List Us) (ty : ByteArray) (fs : List Fld) (n : Nat) (vs : List Vl) : List Vl := vs.mapIdx (trimF u ty fs n)
def trimX (s : List Ty) (u : List Us) (e : Ev) : Ev := ⟨e.ty, e.ts, trimV u e.ty (findT s e.ty).1.fields (findT s e.ty).1.fields.length e.vals⟩
section
variable {u : List Us} {ty : ByteArray} {fs : List Fld} {n i : Nat} {vs : List Vl} {f : Fld}
theorem trimV_get : (trimV u ty fs n vs)[i]? = (vs[i]?).map (trimF u ty fs n i) := List.getElem?_mapIdx
theorem trimV_len : (trimV u ty fs n vs).length = vs.length := List.length_mapIdx
theorem trimV_zero : trimV u ty fs 0 vs = vs := by
  refine List.ext_getElem? fun i => ?_
  rw [trimV_get]
  cases vs[i]? <;> rfl
theorem trimF_other {j : Nat} {v : Vl} (h : j ≠ n) : trimF u ty fs (n + 1) j v = trimF u ty fs n j v := by
  unfold trimF
  rw [show decide (j < n + 1) = decide (j < n) by by_cases h' : j < n; rw [decide_eq_true h', decide_eq_true (by omega)]; rw [decide_eq_false h', decide_eq_false (by omega)]]
theorem trimV_put (hf : fs[n]? = some f) (hn : n < vs.length) (hu : hasU u ⟨ty, f.name⟩ = false) : trimV u ty fs (n + 1) vs = (trimV u ty fs n vs).set n (zeroV f.kind) := by
  refine List.ext_getElem? fun j => ?_
  rw [trimV_get, List.getElem?_set]
  by_cases h : n = j
  · subst h
    rw [if_pos rfl, if_pos (by rw [trimV_len]; exact hn), List.getElem?_eq_getElem hn]
    show some (trimF u ty fs (n + 1) n _) = _
    unfold trimF
    rw [decide_eq_true (Nat.lt_succ_self n), hf]
    show some (bif hasU u ⟨ty, f.name⟩ then _ else _) = _
    rw [hu]; rfl
  · rw [if_neg h, trimV_get]
    cases vs[j]? with
    | none => rfl
    | some v => show some _ = some _; rw [trimF_other (fun e => h e.symm)]
theorem trimV_keep (hf : fs[n]? = some f) (h : n < vs.length → hasU u ⟨ty, f.name⟩ = true) : trimV u ty fs (n + 1) vs = trimV u ty fs n vs := by
  refine List.ext_getElem? fun j => ?_
  rw [trimV_get, trimV_get]
  cases hv : vs[j]? with
  | none => rfl
  | some v =>
    show some _ = some _
    by_cases hj : j = n
    · subst hj
      unfold trimF
      rw [decide_eq_true (Nat.lt_succ_self j), hf, decide_eq_false (Nat.lt_irrefl j)]
      show some (bif hasU u ⟨ty, f.name⟩ then _ else _) = _
      rw [h (List.getElem?_eq_some_iff.1 hv).1]; rfl
    · rw [trimF_other hj]
theorem trimF_twice {v : Vl} : trimF u ty fs n i (trimF u ty fs n i v) = trimF u ty fs n i v := by
  unfold trimF
  cases decide (i < n) with
  | false => rfl
  | true =>
    cases fs[i]? with
    | none => rfl
    | some f =>
      show (bif hasU u ⟨ty, f.name⟩ then (bif hasU u ⟨ty, f.name⟩ then v else zeroV f.kind) else zeroV f.kind) = (bif hasU u ⟨ty, f.name⟩ then v else zeroV f.kind)
      cases hasU u ⟨ty, f.name⟩ <;> rfl
theorem trimV_twice : trimV u ty fs n (trimV u ty fs n vs) = trimV u ty fs n vs := by
  refine List.ext_getElem? fun j => ?_
  rw [trimV_get, trimV_get]
  cases vs[j]? with
  | none => rfl
  | some v => show some _ = some _; rw [trimF_twice]
end
theorem trimX_twice (s : List Ty) (u : List Us) (e : Ev) : trimX s u (trimX s u e) = trimX s u e := by
  show (⟨e.ty, e.ts, trimV u e.ty (findT s e.ty).1.fields (findT s e.ty).1.fields.length (trimV u e.ty (findT s e.ty).1.fields (findT s e.ty).1.fields.length e.vals)⟩ : Ev) = _
  rw [trimV_twice]; rfl
theorem kindsAs_get : ∀ {vs : List Vl} {fs : List Fld}, kindsAs vs fs = true → vs.length = fs.length ∧ ∀ (i : Nat) (v : Vl) (f : Fld), vs[i]? = some v → fs[i]? = some f → v.k = f.kind
  | [], [], _ => ⟨rfl, fun i v f h => by simp at h⟩
  | [], _ :: _, h => by cases h
  | _ :: _, [], h => by cases h
  | v :: vs, f :: fs, h => by
    have h : (v.k == f.kind && kindsAs vs fs) = true := h
    rw [Bool.and_eq_true] at h
    obtain ⟨h1, h2⟩ := kindsAs_get h.2
    refine ⟨by simp [h1], fun i w g hw hg => ?_⟩
    cases i with
    | zero => simp only [List.getElem?_cons_zero, Option.some.injEq] at hw hg; subst hw hg; exact beq_iff_eq.1 h.1
    | succ i => exact h2 i w g (by simpa using hw) (by simpa using hg)
theorem kindsAs_mk : ∀ {vs : List Vl} {fs : List Fld}, vs.length = fs.length → (∀ (i : Nat) (v : Vl) (f : Fld), vs[i]? = some v → fs[i]? = some f → v.k = f.kind) → kindsAs vs fs = true
  | [], [], _, _ => rfl
  | [], _ :: _, h, _ => by simp at h
  | _ :: _, [], h, _ => by simp at h
  | v :: vs, f :: fs, h, k => by
    show (v.k == f.kind && kindsAs vs fs) = true
    rw [Bool.and_eq_true]
    exact ⟨beq_iff_eq.2 (k 0 v f rfl rfl), kindsAs_mk (by simpa using h) fun i w g hw hg => k (i + 1) w g (by simpa using hw) (by simpa using hg)⟩
theorem evt_allN {s : List Ty} {e : Ev} (h : evtR s e = 0) : (findT s e.ty).2 = true ∧ ¬ e.ts < 0 ∧ ¬ e.ts > 1073741824 ∧ e.vals.length = (findT s e.ty).1.fields.length ∧ (∀ v ∈ e.vals, isVal v = true) ∧ kindsAs e.vals (findT s e.ty).1.fields = true := by
  obtain ⟨h1, h2, h3, h4⟩ := evt_facts h
  have hq : (decide (e.ts < 0) || (decide (e.ts > 1073741824) || ((e.vals.length : Int) != ((findT s e.ty).1.fields.length : Int)))) = false := by
    cases hq : (decide (e.ts < 0) || (decide (e.ts > 1073741824) || ((e.vals.length : Int) != ((findT s e.ty).1.fields.length : Int)))) with
    | false => rfl
    | true => rw [evt_form h1 hq] at h; cases h
  simp only [Bool.or_eq_false_iff, decide_eq_false_iff_not] at hq
  exact ⟨h1, hq.1, hq.2.1, h2, h3, h4⟩
theorem evt_ofN {s : List Ty} {e : Ev} (h1 : (findT s e.ty).2 = true) (h2 : ¬ e.ts < 0) (h3 : ¬ e.ts > 1073741824) (h4 : e.vals.length = (findT s e.ty).1.fields.length) (h5 : ∀ v ∈ e.vals, isVal v = true) (h6 : kindsAs e.vals (findT s e.ty).1.fields = true) : evtR s e = 0 :=
  evt_yes h1 (by simp [h4]; omega) (List.all_eq_true.2 h5) h6
theorem find_typeN {s : List Ty} {nm : ByteArray} {t : Ty} (hs : isSchema s = true) (h : findT s nm = (t, true)) : TypeOk t := by
  have hd : decide (idx (fun t : Ty => same t.name nm) s < 0) = false := by
    cases hq : decide (idx (fun t : Ty => same t.name nm) s < 0) with
    | false => rfl
    | true => rw [find_neg hq] at h; cases h
  obtain ⟨i, a, _, h2, h3⟩ := find_pos hd
  rw [h] at h3
  cases h3
  exact TypeOk.of (sch_type hs h2)
/-- A trimmed event is one of its schema. -/
theorem trim_ok {s : List Ty} {u : List Us} {e : Ev} (hs : isSchema s = true) (he : evtR s e = 0) : evtR s (trimX s u e) = 0 := by
  obtain ⟨h1, h2, h3, h4, h5, h6⟩ := evt_allN he
  obtain ⟨k1, k2⟩ := kindsAs_get h6
  have hty : TypeOk (findT s e.ty).1 := find_typeN (t := (findT s e.ty).1) hs (by rw [← h1])
  have hz : ∀ f ∈ (findT s e.ty).1.fields, isVal (zeroV f.kind) = true ∧ (zeroV f.kind).k = f.kind := fun f hf => by
    obtain ⟨_, q1, q2⟩ := hty.each f hf
    rw [zeroV_in (decide_eq_false (by omega)) (decide_eq_false (by omega))]
    refine ⟨?_, rfl⟩
    unfold isVal
    have hk : f.kind = 1 ∨ f.kind = 2 ∨ f.kind = 3 := by omega
    rcases hk with h | h | h <;> rw [h] <;> decide +kernel
  have hat : ∀ (i : Nat) (v : Vl), (trimX s u e).vals[i]? = some v → isVal v = true ∧ ∀ f, (findT s e.ty).1.fields[i]? = some f → v.k = f.kind := fun i v hv => by
    have hv : (trimV u e.ty (findT s e.ty).1.fields (findT s e.ty).1.fields.length e.vals)[i]? = some v := hv
    rw [trimV_get] at hv
    obtain ⟨w, hw, rfl⟩ := Option.map_eq_some_iff.1 hv
    have hwv := h5 w (List.mem_of_getElem? hw)
    unfold trimF
    cases decide (i < (findT s e.ty).1.fields.length) with
    | false => exact ⟨hwv, fun f hf => k2 i w f hw hf⟩
    | true =>
      cases hf : (findT s e.ty).1.fields[i]? with
      | none => exact ⟨hwv, fun f hf' => by cases hf'⟩
      | some f =>
        show isVal (bif hasU u ⟨e.ty, f.name⟩ then w else zeroV f.kind) = true ∧ ∀ g, some f = some g → (bif hasU u ⟨e.ty, f.name⟩ then w else zeroV f.kind).k = g.kind
        cases hasU u ⟨e.ty, f.name⟩ with
        | true => exact ⟨hwv, fun g hg => by cases hg; exact k2 i w f hw hf⟩
        | false => exact ⟨(hz f (List.mem_of_getElem? hf)).1, fun g hg => by cases hg; exact (hz f (List.mem_of_getElem? hf)).2⟩
  refine evt_ofN h1 h2 h3 ?_ (fun v hv => ?_) ?_
  · show (trimV u e.ty (findT s e.ty).1.fields (findT s e.ty).1.fields.length e.vals).length = _
    rw [trimV_len]; exact h4
  · obtain ⟨i, hi⟩ := List.getElem?_of_mem hv
    exact (hat i v hi).1
  · refine kindsAs_mk ?_ fun i v f hv hf => (hat i v hv).2 f hf
    show (trimV u e.ty (findT s e.ty).1.fields (findT s e.ty).1.fields.length e.vals).length = _
    rw [trimV_len]; exact h4
/-- How many values an event in hand has. -/
theorem know_ev {E : Env} {st : St} {d : Nat} {e : Ev} (hs : st.s d = argE e) : ∀ ι a w, RelS E st ι a w → e.vals.length ≤ 140737488355328 ∧ e.vals.length * 32 ≤ 140737488355328 := fun ι a w ⟨Z, K, Y, hZ, r⟩ => by
  have := r.slot d
  rw [hs] at this
  unfold argE encE at this
  simp only [RA, List.map_cons, List.map_nil, RAs, RD] at this
  obtain ⟨vs, _, v1, t1, _, _, v2, t2, _, _, v3, t3, _, h3, _⟩ := this
  obtain ⟨_, _, _, _, h1, h2, _⟩ := h3
  rw [List.length_map] at h1 h2
  exact ⟨h2, h1⟩
end Go.AL
