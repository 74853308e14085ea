/- Events as plain data. Nothing of a program. -/
import Derived.Test.YthffbfjnahipcaaVal
import Derived.Test.YthffbfjnahipcaaA29
namespace Go.AL
set_option linter.unusedVariables false
set_option linter.unusedSimpArgs false

structure Ev where
  ty : ByteArray
  ts : Int
  vals : List Vl
def encE (e : Ev) : List D := [str e.ty, int e.ts, .sl 3 32 (e.vals.map encV)]
def argE (e : Ev) : AV := .agg ((encE e).map .d)
def errN (t : TypeId) (c : Int) : D := .iface t (int c)
def nilE : D := .lit .nilIface
def sameEv (a b : Ev) : Bool := same a.ty b.ty && ((a.ts == b.ts) && allSame sameV a.vals b.vals)
def kk : List Vl → List Fld → Bool
  | v :: vs, f :: fs => (v.k == f.kind) && kk vs fs
  | _, _ => true
theorem kk_bad : ∀ {vs : List Vl} {fs : List Fld} {i : Nat} {v : Vl} {f : Fld}, vs[i]? = some v → fs[i]? = some f → (v.k == f.kind) = false → kk vs fs = false
  | [], _, i, v, f, h, _, _ => by simp at h
  | _ :: _, [], i, v, f, _, h, _ => by simp at h
  | x :: vs, y :: fs, 0, v, f, h1, h2, h3 => by simp at h1 h2; subst h1; subst h2; simp only [kk, h3, Bool.false_and]
  | x :: vs, y :: fs, i + 1, v, f, h1, h2, h3 => by simp only [kk, kk_bad (vs := vs) (fs := fs) (i := i) (by simpa using h1) (by simpa using h2) h3, Bool.and_false]
theorem kk_all : ∀ {vs : List Vl} {fs : List Fld}, (∀ i v f, i < vs.length → vs[i]? = some v → fs[i]? = some f → (v.k == f.kind) = true) → kk vs fs = true
  | [], _, _ => by simp [kk]
  | _ :: _, [], _ => by simp [kk]
  | x :: vs, y :: fs, h => by
    simp only [kk, Bool.and_eq_true]
    exact ⟨h 0 x y (by simp) rfl rfl, kk_all fun i v f hi h1 h2 => h (i + 1) v f (by simpa using hi) (by simpa using h1) (by simpa using h2)⟩
/-- What is wrong with an event; t: the errors' type. -/
def evForm (t : Ty) (e : Ev) : Bool := !(decide (e.ts < 0)) && !(decide (e.ts > 1073741824)) && (e.vals.length == t.fields.length) && e.vals.all isVal
def evErr (T : TypeId) (s : List Ty) (e : Ev) : D :=
  bif !(findT s e.ty).2 then errN T 13 else bif !(evForm (findT s e.ty).1 e) then errN T 10 else bif kk e.vals (findT s e.ty).1.fields then nilE else errN T 14
theorem evErr_none {T : TypeId} {s : List Ty} {e : Ev} (h : (findT s e.ty).2 = false) : evErr T s e = errN T 13 := by simp [evErr, h]
theorem evErr_form {T : TypeId} {s : List Ty} {e : Ev} (h : (findT s e.ty).2 = true) (hf : evForm (findT s e.ty).1 e = false) : evErr T s e = errN T 10 := by simp [evErr, h, hf]
theorem evErr_kind {T : TypeId} {s : List Ty} {e : Ev} (h : (findT s e.ty).2 = true) (hf : evForm (findT s e.ty).1 e = true) (hk : kk e.vals (findT s e.ty).1.fields = false) : evErr T s e = errN T 14 := by simp [evErr, h, hf, hk]
theorem evErr_ok {T : TypeId} {s : List Ty} {e : Ev} (h : (findT s e.ty).2 = true) (hf : evForm (findT s e.ty).1 e = true) (hk : kk e.vals (findT s e.ty).1.fields = true) : evErr T s e = nilE := by simp [evErr, h, hf, hk]
def hasD (x : Vl) : Bool := !isVal x
theorem any_idx {α : Type} {p : α → Bool} {l : List α} : decide (idx p l ≥ 0) = l.any p := by
  rcases idx_cases p l with ⟨i, a, h1, h2, h3, _⟩ | ⟨h1, h2⟩
  · rw [h1]
    have : l.any p = true := List.any_eq_true.2 ⟨a, List.mem_of_getElem? h2, h3⟩
    rw [this]; simp
  · rw [h1]
    have : l.any p = false := by rw [List.any_eq_false]; intro x hx; simp [h2 x hx]
    rw [this]; rfl
theorem all_any {l : List Vl} : l.all isVal = !(l.any fun v => !isVal v) := by
  induction l with
  | nil => rfl
  | cons x l ih => simp [List.all_cons, List.any_cons, ih]
def getV (s : List Ty) (e : Ev) (nm : ByteArray) : Vl × Bool :=
  bif !(findT s e.ty).2 || (decide (fieldAt (findT s e.ty).1 nm < 0) || decide (fieldAt (findT s e.ty).1 nm ≥ (e.vals.length : Int))) then (⟨0, 0, nul⟩, false) else (e.vals.getD (fieldAt (findT s e.ty).1 nm).toNat ⟨0, 0, nul⟩, true)
theorem getV_no {s : List Ty} {e : Ev} {nm : ByteArray} (h : (!(findT s e.ty).2 || (decide (fieldAt (findT s e.ty).1 nm < 0) || decide (fieldAt (findT s e.ty).1 nm ≥ (e.vals.length : Int)))) = true) : getV s e nm = (⟨0, 0, nul⟩, false) := by unfold getV; rw [h]; rfl
theorem getV_ok {s : List Ty} {e : Ev} {nm : ByteArray} {i : Nat} {v : Vl} (h1 : (findT s e.ty).2 = true) (hi : fieldAt (findT s e.ty).1 nm = (i : Int)) (hv : e.vals[i]? = some v) : getV s e nm = (v, true) := by
  have hlt := (List.getElem?_eq_some_iff.1 hv).1
  unfold getV
  rw [h1, hi]
  have e1 : decide ((i : Int) < 0) = false := by simp
  have e2 : decide ((i : Int) ≥ (e.vals.length : Int)) = false := by simp; omega
  rw [e1, e2]
  simp [List.getD, hv]
theorem getV_in {s : List Ty} {e : Ev} {nm : ByteArray} (h1 : (findT s e.ty).2 = true) (h2 : decide (fieldAt (findT s e.ty).1 nm < 0) = false) (h3 : decide (fieldAt (findT s e.ty).1 nm ≥ (e.vals.length : Int)) = false) :
    ∃ (i : Nat) (v : Vl), fieldAt (findT s e.ty).1 nm = (i : Int) ∧ e.vals[i]? = some v ∧ getV s e nm = (v, true) := by
  simp at h2 h3
  obtain ⟨i, hi⟩ := Int.eq_ofNat_of_zero_le h2
  have hlt : i < e.vals.length := by omega
  exact ⟨i, e.vals[i], hi, List.getElem?_eq_getElem hlt, getV_ok h1 hi (List.getElem?_eq_getElem hlt)⟩
theorem sameV_symm (a b : Vl) : sameV a b = sameV b a := by
  unfold sameV same
  rw [Bool.beq_comm (a := a.k), Bool.beq_comm (a := a.n), Bool.beq_comm (a := a.s.toList)]
theorem allSame_refl : ∀ l : List Vl, allSame sameV l l = true
  | [] => rfl
  | x :: l => by simp [allSame, sameV_rfl, allSame_refl l]
theorem allSame_set : ∀ {l : List Vl} {k : Nat} {v w : Vl}, l[k]? = some v → allSame sameV (l.set k w) l = sameV w v
  | [], k, v, w, h => by simp at h
  | x :: l, 0, v, w, h => by simp at h; subst h; simp [allSame, allSame_refl]
  | x :: l, k + 1, v, w, h => by simp [allSame, sameV_rfl, allSame_set (l := l) (k := k) (w := w) (by simpa using h)]
theorem sameEv_refl (e : Ev) : sameEv e e = true := by simp [sameEv, same_rfl, allSame_refl]
theorem sameEv_set {e : Ev} {k : Nat} {v w : Vl} (h : e.vals[k]? = some v) : sameEv ⟨e.ty, e.ts, e.vals.set k w⟩ e = sameV v w := by
  rw [sameV_symm v w]; simp [sameEv, same_rfl, allSame_set h]
theorem encV_set {l : List Vl} {k : Nat} {x : List D} {w : Vl} : (l.map encV).set k (x.take 0 ++ encV w ++ x.drop (0 + 3)) = (l.set k w).map encV ∨ x.length ≠ 3 := by
  by_cases h : x.length = 3
  · left; rw [List.drop_of_length_le (by omega)]; simp [List.map_set]
  · exact .inr h

/-! ### Events of given kinds -/
theorem wrapN {n : Nat} (h : n ≤ 140737488355328) : IntKind.i64.wrap (n : Int) = (n : Int) :=
  wrap_id _ _ (by have : IntKind.i64.min = -9223372036854775808 := rfl; omega) (by have : IntKind.i64.max = 9223372036854775807 := rfl; omega)
theorem wrapB {n : Nat} (h : n < 256) : IntKind.u8.wrap (n : Int) = ((UInt8.ofNat n).toNat : Int) := by
  rw [UInt8.toNat_ofNat_of_lt' h]
  exact wrap_id _ _ (by have : IntKind.u8.min = 0 := rfl; omega) (by have : IntKind.u8.max = 255 := rfl; omega)
def kt : ByteArray := ⟨#[116]⟩
def fldK (j : Nat) (u : UInt8) : Fld := ⟨⟨#[UInt8.ofNat (97 + j)]⟩, ((u.toNat % 3 + 1 : Nat) : Int)⟩
def fsK (l : List UInt8) : List Fld := l.zipIdx.map fun p => fldK p.2 p.1
def valK (u : UInt8) : Vl := ⟨((u.toNat % 3 + 1 : Nat) : Int), 0, nul⟩
def vsK (l : List UInt8) : List Vl := l.map valK
theorem fsK_length (l : List UInt8) : (fsK l).length = l.length := by simp [fsK]
theorem vsK_length (l : List UInt8) : (vsK l).length = l.length := by simp [vsK]
theorem fsK_get {l : List UInt8} {i : Nat} {u : UInt8} (h : l[i]? = some u) : (fsK l)[i]? = some (fldK i u) := by simp [fsK, List.getElem?_zipIdx, h]
theorem vsK_get {l : List UInt8} {i : Nat} {u : UInt8} (h : l[i]? = some u) : (vsK l)[i]? = some (valK u) := by simp [vsK, h]
theorem fsK_snoc {l : List UInt8} {i : Nat} {u : UInt8} (h : l[i]? = some u) : fsK (l.take (i + 1)) = fsK (l.take i) ++ [fldK i u] := by
  have hlt := (List.getElem?_eq_some_iff.1 h).1
  unfold fsK
  rw [List.take_add_one, h, List.zipIdx_append]
  have hm : min i l.length = i := by omega
  simp [hm]
theorem vsK_snoc {l : List UInt8} {i : Nat} {u : UInt8} (h : l[i]? = some u) : vsK (l.take (i + 1)) = vsK (l.take i) ++ [valK u] := by
  unfold vsK
  rw [List.take_add_one, h]
  simp
theorem isVal_small {m : Nat} (h : m < 3) : isVal ⟨((m + 1 : Nat) : Int), 0, nul⟩ = true := by
  refine isVal_in ?_ ?_ <;> simp <;> omega
theorem vsK_all (l : List UInt8) : (vsK l).all isVal = true := by
  rw [List.all_eq_true]
  intro v hv
  obtain ⟨u, _, rfl⟩ := List.mem_map.1 hv
  exact isVal_small (Nat.mod_lt _ (by omega))
theorem kk_K (l : List UInt8) : kk (vsK l) (fsK l) = true := kk_all fun i v f hi h1 h2 => by
  obtain ⟨u, hu⟩ : ∃ u, l[i]? = some u := ⟨_, List.getElem?_eq_getElem (by rw [vsK_length] at hi; exact hi)⟩
  rw [vsK_get hu] at h1
  rw [fsK_get hu] at h2
  cases h1; cases h2
  simp [valK, fldK]
def turnK (u : UInt8) : Vl := ⟨(((u.toNat % 3 + 1) % 3 + 1 : Nat) : Int), 0, nul⟩
theorem kk_turn {l : List UInt8} {j : Nat} {u : UInt8} (h : l[j]? = some u) : kk ((vsK l).set j (turnK u)) (fsK l) = false := by
  have hlt := (List.getElem?_eq_some_iff.1 h).1
  refine kk_bad (i := j) (v := turnK u) (f := fldK j u) (by rw [List.getElem?_set_self (by rw [vsK_length]; exact hlt)]) (fsK_get h) ?_
  simp [turnK, fldK]; omega
theorem all_turn {l : List UInt8} {j : Nat} {u : UInt8} : ((vsK l).set j (turnK u)).all isVal = true := by
  rw [List.all_eq_true]
  intro v hv
  rcases List.mem_or_eq_of_mem_set hv with hv | rfl
  · exact List.all_eq_true.1 (vsK_all l) v hv
  · exact isVal_small (Nat.mod_lt _ (by omega))
def wantD (T : TypeId) (w : Int) : D := bif w == 0 then nilE else errN T w
theorem findK (fs : List Fld) : findT [⟨kt, fs⟩] kt = (⟨kt, fs⟩, true) := by simp [findT, same]
/-- What is told of an event at each point. -/
def K0 (l : List UInt8) (p : List Vl × Int) : Prop := p.1.all isVal = true ∧ p.1.length = l.length ∧ ((p.2 = 0 ∧ kk p.1 (fsK l) = true) ∨ (p.2 = 14 ∧ kk p.1 (fsK l) = false))
def K1 (l : List UInt8) (p : List Vl × Int) : Prop := p.1.all isVal = true ∧ p.1.length ≤ l.length + 1 ∧ ((p.2 = 0 ∧ p.1.length = l.length ∧ kk p.1 (fsK l) = true) ∨ (p.2 = 14 ∧ p.1.length = l.length ∧ kk p.1 (fsK l) = false) ∨ (p.2 = 10 ∧ p.1.length ≠ l.length))
theorem K1_of {l : List UInt8} {p : List Vl × Int} (h : K0 l p) : K1 l p := by
  obtain ⟨h1, h2, h3 | h3⟩ := h
  · exact ⟨h1, by omega, .inl ⟨h3.1, h2, h3.2⟩⟩
  · exact ⟨h1, by omega, .inr (.inl ⟨h3.1, h2, h3.2⟩)⟩
theorem K1_more {l : List UInt8} {vs : List Vl} {w : Int} (h : K0 l (vs, w)) : K1 l (vs ++ [⟨1, 0, nul⟩], 10) := by
  obtain ⟨h1, h2, _⟩ := h
  simp only at h1 h2
  have h3 : isVal ⟨1, 0, nul⟩ = true := by simp [isVal, same]
  exact ⟨by simp [List.all_append, h3] at h1 ⊢; exact h1, by simp; omega, .inr (.inr ⟨rfl, by simp; omega⟩)⟩
theorem K1_less {l : List UInt8} {vs : List Vl} {w : Int} (h : K0 l (vs, w)) (h0 : 0 < vs.length) : K1 l (vs.take (vs.length - 1), 10) := by
  obtain ⟨h1, h2, _⟩ := h
  simp only at h1 h2
  refine ⟨?_, by simp; omega, .inr (.inr ⟨rfl, by simp; omega⟩)⟩
  rw [List.all_eq_true] at h1 ⊢
  exact fun v hv => h1 v (List.mem_of_mem_take hv)
def K3 (T : TypeId) (l : List UInt8) (ts : Int) (p : List Vl × Int) : Prop := evErr T [⟨kt, fsK l⟩] ⟨kt, ts, p.1⟩ = wantD T p.2 ∧ p.1.length ≤ l.length + 1 ∧ (p.2 = 0 ∨ p.2 = 10 ∨ p.2 = 14)
theorem K3_late {T : TypeId} {l : List UInt8} {ts : Int} {vs : List Vl} {w : Int} (h : decide (ts < 0) = true ∨ decide (ts > 1073741824) = true) (hK : K1 l (vs, w)) : K3 T l ts (vs, 10) := by
  refine ⟨evErr_form (by simp [findK]) ?_, hK.2.1, .inr (.inl rfl)⟩
  rcases h with h | h <;> simp only [evForm, h] <;> simp
theorem K3_of {T : TypeId} {l : List UInt8} {ts : Int} {p : List Vl × Int} (h1 : decide (ts < 0) = false) (h2 : decide (ts > 1073741824) = false) (h : K1 l p) : K3 T l ts p := by
  obtain ⟨ha, hle, h⟩ := h
  have hfd : findT [⟨kt, fsK l⟩] (⟨kt, ts, p.1⟩ : Ev).ty = (⟨kt, fsK l⟩, true) := findK _
  rcases h with ⟨hw, hl, hk⟩ | ⟨hw, hl, hk⟩ | ⟨hw, hl⟩
  · refine ⟨?_, hle, .inl hw⟩
    rw [hw, evErr_ok (by rw [hfd]) (by rw [hfd]; simp only [evForm, h1, h2, ha, hl, fsK_length]; simp) (by rw [hfd]; exact hk)]; rfl
  · refine ⟨?_, hle, .inr (.inr hw)⟩
    rw [hw, evErr_kind (by rw [hfd]) (by rw [hfd]; simp only [evForm, h1, h2, ha, hl, fsK_length]; simp) (by rw [hfd]; exact hk)]; rfl
  · refine ⟨?_, hle, .inr (.inl hw)⟩
    rw [hw, evErr_form (by rw [hfd]) (by rw [hfd]; simp [evForm, fsK_length, hl])]; rfl
theorem wantD_none (T : TypeId) : wantD T 0 = nilE := rfl

/-! what 'known' asks -/
def kS3 : List Ty := [⟨kA, [⟨kX, 1⟩]⟩]
def kE3 : Ev := ⟨kA, 3, [⟨1, 7, nul⟩]⟩
theorem x1 : getV kS3 kE3 kX = (⟨1, 7, nul⟩, true) := by
  refine getV_ok (i := 0) ?_ ?_ rfl <;> decide +kernel
theorem x2 : getV kS3 kE3 kY = (⟨0, 0, nul⟩, false) := getV_no (by decide +kernel)
theorem x3 (T : TypeId) : evErr T kS3 kE3 = nilE := evErr_ok (by decide +kernel) (by decide +kernel) (by decide +kernel)
theorem x4 (T : TypeId) : evErr T kS3 ⟨kB, 0, []⟩ = errN T 13 := evErr_none (by decide +kernel)
theorem x5 (T : TypeId) : evErr T kS3 ⟨kA, 0, []⟩ = errN T 10 := evErr_form (by decide +kernel) (by decide +kernel)
theorem x6 : sameEv kE3 kE3 = true := sameEv_refl _
theorem x7 : sameEv kE3 ⟨nul, 0, []⟩ = false := by decide +kernel
end Go.AL
