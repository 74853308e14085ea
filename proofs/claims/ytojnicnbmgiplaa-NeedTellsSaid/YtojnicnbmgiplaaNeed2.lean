/- Parts of an abstract logic over the kit's walks, and walks in it: Need2. -/
import Derived.Test.YtojnicnbmgiplaaNeed
import Derived.Test.YtojnicnbmgiplaaEz
import Derived.Test.YtojnicnbmgiplaaMe
/- Events without what isn't looked at; plain data. -/
namespace Go.AL
open Go.Proofs
set_option linter.unusedVariables false
set_option linter.unusedSimpArgs false
def trimF (u : List Us) (ty : ByteArray) (fs : List Fld) (n i : Nat) (v : Vl) : Vl := bif decide (i < n) then (match fs[i]? with | some f => bif hasU u ⟨ty, f.name⟩ then v else zeroV f.kind | none => v) else v
def trimV (u : List Us) (ty : ByteArray) (fs : List Fld) (n : Nat) (vs : List Vl) : List Vl := vs.mapIdx (trimF u ty fs n)
def trimX (s : List Ty) (u : List Us) (e : Ev) : Ev := ⟨e.ty, e.ts, trimV u e.ty (findT s e.ty).1.fields (findT s e.ty).1.fields.length e.vals⟩
section
variable {u : List Us} {ty : ByteArray} {fs : List Fld} {n i : Nat} {vs : List Vl} {f : Fld}
theorem trimV_get : (trimV u ty fs n vs)[i]? = (vs[i]?).map (trimF u ty fs n i) := List.getElem?_mapIdx
theorem trimV_len : (trimV u ty fs n vs).length = vs.length := List.length_mapIdx
theorem trimV_zero : trimV u ty fs 0 vs = vs := by
  refine List.ext_getElem? fun i => ?_
  rw [trimV_get]
  cases vs[i]? <;> rfl
theorem trimF_other {j : Nat} {v : Vl} (h : j ≠ n) : trimF u ty fs (n + 1) j v = trimF u ty fs n j v := by
  unfold trimF
  rw [show decide (j < n + 1) = decide (j < n) by by_cases h' : j < n; rw [decide_eq_true h', decide_eq_true (by omega)]; rw [decide_eq_false h', decide_eq_false (by omega)]]
theorem trimV_put (hf : fs[n]? = some f) (hn : n < vs.length) (hu : hasU u ⟨ty, f.name⟩ = false) : trimV u ty fs (n + 1) vs = (trimV u ty fs n vs).set n (zeroV f.kind) := by
  refine List.ext_getElem? fun j => ?_
  rw [trimV_get, List.getElem?_set]
  by_cases h : n = j
  · subst h
    rw [if_pos rfl, if_pos (by rw [trimV_len]; exact hn), List.getElem?_eq_getElem hn]
    show some (trimF u ty fs (n + 1) n _) = _
    unfold trimF
    rw [decide_eq_true (Nat.lt_succ_self n), hf]
    show some (bif hasU u ⟨ty, f.name⟩ then _ else _) = _
    rw [hu]; rfl
  · rw [if_neg h, trimV_get]
    cases vs[j]? with
    | none => rfl
    | some v => show some _ = some _; rw [trimF_other (fun e => h e.symm)]
theorem trimV_keep (hf : fs[n]? = some f) (h : n < vs.length → hasU u ⟨ty, f.name⟩ = true) : trimV u ty fs (n + 1) vs = trimV u ty fs n vs := by
  refine List.ext_getElem? fun j => ?_
  rw [trimV_get, trimV_get]
  cases hv : vs[j]? with
  | none => rfl
  | some v =>
    show some _ = some _
    by_cases hj : j = n
    · subst hj
      unfold trimF
      rw [decide_eq_true (Nat.lt_succ_self j), hf, decide_eq_false (Nat.lt_irrefl j)]
      show some (bif hasU u ⟨ty, f.name⟩ then _ else _) = _
      rw [h (List.getElem?_eq_some_iff.1 hv).1]; rfl
    · rw [trimF_other hj]
theorem trimV_stop {m : Nat} (h : vs.length ≤ m) (h2 : vs.length ≤ n) : trimV u ty fs m vs = trimV u ty fs n vs := by
  refine List.ext_getElem? fun j => ?_
  rw [trimV_get, trimV_get]
  cases hv : vs[j]? with
  | none => rfl
  | some v =>
    have hj := (List.getElem?_eq_some_iff.1 hv).1
    show some _ = some _
    unfold trimF
    rw [decide_eq_true (show j < m by omega), decide_eq_true (show j < n by omega)]
end
/-- How many values an event in hand has. -/
theorem know_ev {E : Env} {st : St} {d : Nat} {e : Ev} (hs : st.s d = argE e) : ∀ ι a w, RelS E st ι a w → e.vals.length ≤ 140737488355328 ∧ e.vals.length * 32 ≤ 140737488355328 := fun ι a w ⟨Z, K, Y, hZ, r⟩ => by
  have := r.slot d
  rw [hs] at this
  unfold argE encE at this
  simp only [RA, List.map_cons, List.map_nil, RAs, RD] at this
  obtain ⟨vs, _, v1, t1, _, _, v2, t2, _, _, v3, t3, _, h3, _⟩ := this
  obtain ⟨_, _, _, _, h1, h2, _⟩ := h3
  rw [List.length_map] at h1 h2
  exact ⟨h2, h1⟩
end Go.AL
