/- Parts of an abstract logic over the kit's walks, and walks in it: Mean5. -/
import Derived.Test.YthffbfjnahipcaaMean4
/- Schemas, kinds and values, as the document's functions find them: what stands at each step. Plain data; nothing of a program. -/
namespace Go.AL
set_option linter.unusedVariables false
set_option linter.unusedSimpArgs false

theorem sch_long {s : List Ty} (h : decide ((s.length : Int) > 5) = true) : isSchema s = false := by
  have : decide (s.length ≤ 5) = false := by simp at h ⊢; omega
  simp [isSchema, this]
theorem sch_badT {s : List Ty} {i : Nat} {t : Ty} (h : s[i]? = some t) (hb : isType t = false) : isSchema s = false := isSchema_bad h hb
theorem type_name {t : Ty} (h : isName t.name = false) : isType t = false := by simp [isType, h]
theorem type_long {t : Ty} (h : decide ((t.fields.length : Int) > 5) = true) : isType t = false := by
  have : decide (t.fields.length ≤ 5) = false := by simp at h ⊢; omega
  simp [isType, this]
theorem sch_badR {s : List Ty} {i : Nat} {a b : Ty} (h1 : s[i]? = some a) (h2 : s[i + 1]? = some b) (hl : Op.bytesLess a.name.toList b.name.toList = false) : isSchema s = false := by
  have : rise (s.map (·.name)) = false := rise_bad (i := i) (a := a.name) (b := b.name) (by simp [h1]) (by simp [h2]) hl
  simp [isSchema, this]
theorem type_ok {t : Ty} (h1 : isName t.name = true) (h2 : decide ((t.fields.length : Int) > 5) = false) (h3 : okFs t = true) : isType t = true := by
  have : decide (t.fields.length ≤ 5) = true := by simp at h2 ⊢; omega
  simp [isType, h1, this, h3]
theorem sch_ok {s : List Ty} (h : decide ((s.length : Int) > 5) = false) (ht : ∀ (j : Nat) (a : Ty), j < s.length → s[j]? = some a → isType a = true) (hr : ∀ (j : Nat) (a b : Ty), j + 1 < s.length → s[j]? = some a → s[j + 1]? = some b → Op.bytesLess a.name.toList b.name.toList = true) : isSchema s = true := by
  have e1 : decide (s.length ≤ 5) = true := by simp at h ⊢; omega
  have e2 : s.all isType = true := all_of ht
  have e3 : rise (s.map (·.name)) = true := rise_all fun j a b hj ha hb => by
    simp only [List.getElem?_map, Option.map_eq_some_iff] at ha hb
    obtain ⟨x, hx, rfl⟩ := ha
    obtain ⟨y, hy, rfl⟩ := hb
    exact hr j x y (by simpa using hj) hx hy
  simp [isSchema, e1, e2, e3]
theorem okF_no {t : Ty} {i : Nat} {f : Fld} (h : isName f.name = false ∨ decide (f.kind < 1) = true ∨ decide (f.kind > 3) = true ∨ (fieldAt t f.name != (i : Int)) = true) : okF t i f = false := by
  unfold okF
  rcases h with h | h | h | h
  · simp [h]
  · have : decide (1 ≤ f.kind) = false := by simp at h ⊢; omega
    simp [this]
  · have : decide (f.kind ≤ 3) = false := by simp at h ⊢; omega
    simp [this]
  · have : (fieldAt t f.name == (i : Int)) = false := by simp at h ⊢; exact h
    simp [this]
theorem okF_yes {t : Ty} {i : Nat} {f : Fld} (h1 : isName f.name = true) (h2 : decide (f.kind < 1) = false) (h3 : decide (f.kind > 3) = false) (h4 : (fieldAt t f.name != (i : Int)) = false) : okF t i f = true := by
  unfold okF
  have e2 : decide (1 ≤ f.kind) = true := by simp at h2 ⊢; omega
  have e3 : decide (f.kind ≤ 3) = true := by simp at h3 ⊢; omega
  have e4 : (fieldAt t f.name == (i : Int)) = true := by simp at h4 ⊢; exact h4
  simp [h1, e2, e3, e4]
/-! ### Events -/
theorem evt_none {s : List Ty} {e : Ev} (h : (findT s e.ty).2 = false) : evtR s e = 13 := by simp [evtR, h]
theorem evt_form {s : List Ty} {e : Ev} (h : (findT s e.ty).2 = true) (h2 : (decide (e.ts < 0) || (decide (e.ts > 1073741824) || ((e.vals.length : Int) != ((findT s e.ty).1.fields.length : Int)))) = true) : evtR s e = 10 := by
  unfold evtR; rw [h, h2]; rfl
theorem evt_val {s : List Ty} {e : Ev} (h : (findT s e.ty).2 = true) (h2 : (decide (e.ts < 0) || (decide (e.ts > 1073741824) || ((e.vals.length : Int) != ((findT s e.ty).1.fields.length : Int)))) = false) {i : Nat} {v : Vl} (hv : e.vals[i]? = some v) (hb : isVal v = false) : evtR s e = 10 := by
  have : e.vals.all isVal = false := by rw [List.all_eq_false]; exact ⟨v, List.mem_of_getElem? hv, by simp [hb]⟩
  unfold evtR; rw [h, h2, this]; rfl
theorem kindsAs_no : ∀ {vs : List Vl} {fs : List Fld} {i : Nat} {v : Vl} {f : Fld}, vs[i]? = some v → fs[i]? = some f → (v.k != f.kind) = true → kindsAs vs fs = false
  | [], _, i, v, f, h, _, _ => by simp at h
  | _ :: _, [], i, v, f, _, h, _ => by simp at h
  | x :: vs, y :: fs, 0, v, f, h1, h2, h3 => by
    simp at h1 h2; subst h1; subst h2
    have : (x.k == y.kind) = false := by simpa using h3
    simp only [kindsAs, this, Bool.false_and]
  | x :: vs, y :: fs, i + 1, v, f, h1, h2, h3 => by simp only [kindsAs, kindsAs_no (vs := vs) (fs := fs) (i := i) (by simpa using h1) (by simpa using h2) h3, Bool.and_false]
theorem kindsAs_yes : ∀ {vs : List Vl} {fs : List Fld}, vs.length = fs.length → (∀ (i : Nat) (v : Vl) (f : Fld), vs[i]? = some v → fs[i]? = some f → (v.k != f.kind) = false) → kindsAs vs fs = true
  | [], [], _, _ => rfl
  | [], _ :: _, h, _ => by simp at h
  | _ :: _, [], h, _ => by simp at h
  | x :: vs, y :: fs, hl, h => by
    have h0 : (x.k == y.kind) = true := by have := h 0 x y rfl rfl; simpa using this
    simp only [kindsAs, h0, Bool.true_and]
    exact kindsAs_yes (by simpa using hl) fun i v f h1 h2 => h (i + 1) v f (by simpa using h1) (by simpa using h2)
theorem evt_kind {s : List Ty} {e : Ev} (h : (findT s e.ty).2 = true) (h2 : (decide (e.ts < 0) || (decide (e.ts > 1073741824) || ((e.vals.length : Int) != ((findT s e.ty).1.fields.length : Int)))) = false) (h3 : e.vals.all isVal = true) (h4 : kindsAs e.vals (findT s e.ty).1.fields = false) : evtR s e = 14 := by
  unfold evtR; rw [h, h2, h3, h4]; rfl
theorem evt_yes {s : List Ty} {e : Ev} (h : (findT s e.ty).2 = true) (h2 : (decide (e.ts < 0) || (decide (e.ts > 1073741824) || ((e.vals.length : Int) != ((findT s e.ty).1.fields.length : Int)))) = false) (h3 : e.vals.all isVal = true) (h4 : kindsAs e.vals (findT s e.ty).1.fields = true) : evtR s e = 0 := by
  unfold evtR; rw [h, h2, h3, h4]; rfl
/-! ### Kinds -/
theorem fk_13 {s : List Ty} {tys : List ByteArray} {nm : ByteArray} {i : Nat} {t : ByteArray} (h : tys[i]? = some t) (hb : badF s nm t = true) : fkR s tys nm = (0, 13) := by
  have : tys.any (badF s nm) = true := List.any_eq_true.2 ⟨t, List.mem_of_getElem? h, hb⟩
  unfold fkR; rw [this]; rfl
/-- The kind of the first i types' fields. -/
def fkAt (s : List Ty) (tys : List ByteArray) (nm : ByteArray) (i : Nat) : Int := match i with | 0 => 0 | j + 1 => (tys[j]?.map (kindF s nm)).getD 0
theorem oneK_walk : ∀ {xs : List Int} {k : Int} {f : Bool}, (∀ (j : Nat) (x : Int), xs[j]? = some x → (!f || decide (0 < j)) = true → x = (match j with | 0 => k | q + 1 => (xs[q]?).getD 0)) → oneK xs k f = ((xs.getLast?).getD k, 0)
  | [], k, f, _ => rfl
  | x :: xs, k, f, h => by
    have h0 : (!f && x != k) = false := by
      cases f with
      | true => rfl
      | false =>
        have := h 0 x rfl rfl
        simp [this]
    unfold oneK
    rw [h0]
    have := oneK_walk (xs := xs) (k := x) (f := false) fun j y hy _ => by
      have := h (j + 1) y (by simpa using hy) (by simp)
      rw [this]
      cases j with
      | zero => simp
      | succ q => simp
    rw [cond_false, this]
    cases xs with
    | nil => rfl
    | cons y ys => simp [List.getLast?_cons]
theorem oneK_bad : ∀ {xs : List Int} {k : Int} {f : Bool} {i : Nat} {x : Int}, xs[i]? = some x → (!f || decide (0 < i)) = true → x ≠ (match i with | 0 => k | q + 1 => (xs[q]?).getD 0) → oneK xs k f = (0, 14)
  | [], k, f, i, x, h, _, _ => by simp at h
  | y :: ys, k, f, 0, x, h, hf, hx => by
    simp at h; subst h
    have : f = false := by cases f <;> simp_all
    subst this
    unfold oneK
    have : (y != k) = true := by simpa using hx
    rw [this]; rfl
  | y :: ys, k, f, i + 1, x, h, hf, hx => by
    unfold oneK
    cases hq : (!f && y != k) with
    | true => rfl
    | false =>
      rw [cond_false]
      exact oneK_bad (i := i) (x := x) (by simpa using h) (by simp) (by
        cases i with
        | zero => simpa using hx
        | succ q => simpa using hx)
theorem fk_14 {s : List Ty} {tys : List ByteArray} {nm : ByteArray} (hg : ∀ (j : Nat) (t : ByteArray), tys[j]? = some t → badF s nm t = false) {i : Nat} {t : ByteArray} (h : tys[i]? = some t) (h0 : 0 < i) (hb : kindF s nm t ≠ fkAt s tys nm i) : fkR s tys nm = (0, 14) := by
  have e : tys.any (badF s nm) = false := by
    rw [List.any_eq_false]; intro x hx
    obtain ⟨j, hj⟩ := List.getElem?_of_mem hx
    simp [hg j x hj]
  unfold fkR; rw [e]
  show oneK _ _ _ = _
  refine oneK_bad (i := i) (x := kindF s nm t) (by simp [h]) (by simp [h0]) ?_
  cases i with
  | zero => omega
  | succ q => simpa [fkAt] using hb
theorem fk_ok {s : List Ty} {tys : List ByteArray} {nm : ByteArray} (hg : ∀ (j : Nat) (t : ByteArray), tys[j]? = some t → badF s nm t = false) (hk : ∀ (j : Nat) (t : ByteArray), tys[j]? = some t → 0 < j → kindF s nm t = fkAt s tys nm j) {n : Nat} (hn : tys.length ≤ n) (hn2 : n ≤ tys.length) : fkR s tys nm = (fkAt s tys nm n, 0) := by
  have e : tys.any (badF s nm) = false := by
    rw [List.any_eq_false]; intro x hx
    obtain ⟨j, hj⟩ := List.getElem?_of_mem hx
    simp [hg j x hj]
  have en : n = tys.length := by omega
  subst en
  unfold fkR; rw [e]
  show oneK _ _ _ = _
  rw [oneK_walk]
  · congr 1
    rw [List.getLast?_eq_getElem?]
    simp only [List.length_map, List.getElem?_map]
    cases hl : tys.length with
    | zero =>
      have : tys = [] := List.length_eq_zero_iff.1 hl
      subst this; rfl
    | succ q => simp [fkAt]
  · intro j x hx h0
    simp only [List.getElem?_map, Option.map_eq_some_iff] at hx
    obtain ⟨t, ht, rfl⟩ := hx
    cases j with
    | zero => simp at h0
    | succ q => simpa [fkAt] using hk (q + 1) t ht (by omega)
theorem kind_at {s : List Ty} {nm t : ByteArray} (h : badF s nm t = false) : (findT s t).2 = true ∧ ∃ (i : Nat) (f : Fld), fieldAt (findT s t).1 nm = (i : Int) ∧ (findT s t).1.fields[i]? = some f ∧ kindF s nm t = f.kind := by
  unfold badF at h
  simp only [Bool.or_eq_false_iff, Bool.not_eq_false', decide_eq_false_iff_not] at h
  obtain ⟨h1, h2⟩ := h
  refine ⟨h1, ?_⟩
  rcases idx_cases (fun f : Fld => same f.name nm) (findT s t).1.fields with ⟨i, f, e1, e2, _⟩ | ⟨e1, _⟩
  · refine ⟨i, f, e1, e2, ?_⟩
    unfold kindF fieldAt
    rw [e1]
    simp [e2]
  · unfold fieldAt at h2; rw [e1] at h2; omega
/-! ### A sign's parts -/
theorem kRs_all {s : List Ty} {l : List El} : ∀ {ks : List Exp}, (∀ k ∈ ks, (kR s l k).2 = 0) → kRs s l ks = (ks.map fun k => (kR s l k).1, 0)
  | [], _ => by simp [kRs]
  | k :: ks, h => by
    have h0 := h k (by simp)
    have h1 := kRs_all (ks := ks) fun q hq => h q (by simp [hq])
    unfold kRs
    rw [h1, h0]; rfl
theorem kRs_err {s : List Ty} {l : List El} : ∀ {ks : List Exp} {i : Nat} {k : Exp}, ks[i]? = some k → ((kR s l k).2 != 0) = true → (∀ (j : Nat) (q : Exp), j < i → ks[j]? = some q → (kR s l q).2 = 0) → (kRs s l ks).2 = (kR s l k).2
  | [], i, k, h, _, _ => by simp at h
  | y :: ys, 0, k, h, hk, _ => by
    simp at h; subst h
    unfold kRs; rw [hk]; rfl
  | y :: ys, i + 1, k, h, hk, hp => by
    have h0 := hp 0 y (by omega) rfl
    have := kRs_err (ks := ys) (i := i) (k := k) (by simpa using h) hk fun j q hj hq => hp (j + 1) q (by omega) (by simpa using hq)
    unfold kRs
    rw [h0]
    have hz : ((kRs s l ys).2 != 0) = true := by rw [this]; exact hk
    simp only [hz]
    show (bif false then _ else (bif true then _ else _) : List Int × Int).2 = _
    simpa using this
/-- The kind that stands at place j when i parts have been looked at. -/
def kAt (s : List Ty) (l : List El) (ks : List Exp) (i j : Nat) : Int := if j < i then (ks[j]?.map fun k => (kR s l k).1).getD 0 else 0
theorem kAt_all {s : List Ty} {l : List El} {ks : List Exp} {i : Nat} (hi : ks.length ≤ i) (j : Nat) : kAt s l ks i j = (ks.map fun k => (kR s l k).1).getD j 0 := by
  unfold kAt
  rw [List.getD_eq_getElem?_getD, List.getElem?_map]
  by_cases h : j < i
  · rw [if_pos h]
  · rw [if_neg h, List.getElem?_eq_none (by omega)]; rfl
theorem kAt_next {s : List Ty} {l : List El} {ks : List Exp} {i : Nat} {k : Exp} (hk : ks[i]? = some k) (h2 : i < 2) : overwrite [AV.d (int (kAt s l ks i 0)), AV.d (int (kAt s l ks i 1))] i [AV.d (int (kR s l k).1)] = [AV.d (int (kAt s l ks (i + 1) 0)), AV.d (int (kAt s l ks (i + 1) 1))] := by
  rcases (by omega : i = 0 ∨ i = 1) with rfl | rfl
  · have e : kAt s l ks (0 + 1) 0 = (kR s l k).1 := by simp [kAt, hk]
    have e2 : kAt s l ks (0 + 1) 1 = kAt s l ks 0 1 := by simp [kAt]
    rw [e, e2]; rfl
  · have e : kAt s l ks (1 + 1) 1 = (kR s l k).1 := by simp [kAt, hk]
    have e2 : kAt s l ks (1 + 1) 0 = kAt s l ks 1 0 := by simp [kAt]
    rw [e, e2]; rfl
theorem kR_lit {s : List Ty} {l : List El} {op : Int} {v : Vl} {al fi : ByteArray} {ks : List Exp} (h : (op == 1) = true) : kR s l (.mk op v al fi ks) = (v.k, 0) := by unfold kR; rw [h]; rfl
theorem kR_fld0 {s : List Ty} {l : List El} {op : Int} {v : Vl} {al fi : ByteArray} {ks : List Exp} (h1 : (op == 1) = false) (h : (op == 2) = true) (hi : decide (idx (fun e : El => same e.al al) l < 0) = true) : kR s l (.mk op v al fi ks) = (0, 13) := by
  unfold kR; rw [h1, h]
  have : l.findIdx? (fun e : El => same e.al al) = none := by
    unfold idx at hi
    cases h : l.findIdx? (fun e : El => same e.al al) with
    | none => rfl
    | some i => rw [h] at hi; simp at hi; omega
  simp [this]
theorem kR_fld {s : List Ty} {l : List El} {op : Int} {v : Vl} {al fi : ByteArray} {ks : List Exp} (h1 : (op == 1) = false) (h : (op == 2) = true) (hi : decide (idx (fun e : El => same e.al al) l < 0) = false) : ∃ (i : Nat) (e : El), idx (fun e : El => same e.al al) l = (i : Int) ∧ l[i]? = some e ∧ kR s l (.mk op v al fi ks) = fkR s e.tys fi := by
  cases hq : l.findIdx? (fun e : El => same e.al al) with
  | none => unfold idx at hi; rw [hq] at hi; simp at hi
  | some i =>
    have hlt : i < l.length := by rw [List.findIdx?_eq_some_iff_getElem] at hq; exact hq.1
    refine ⟨i, l[i], by unfold idx; rw [hq], List.getElem?_eq_getElem hlt, ?_⟩
    unfold kR; rw [h1, h]
    simp [hq, List.getElem?_eq_getElem hlt]
theorem kR_err {s : List Ty} {l : List El} {op : Int} {v : Vl} {al fi : ByteArray} {ks : List Exp} (h1 : (op == 1) = false) (h2 : (op == 2) = false) {c : Int} (hc : (kRs s l ks).2 = c) (hn : (c != 0) = true) : kR s l (.mk op v al fi ks) = (0, c) := by
  unfold kR; rw [h1, h2, hc, hn]; rfl
theorem kR_fin {s : List Ty} {l : List El} {op : Int} {v : Vl} {al fi : ByteArray} {ks : List Exp} (h1 : (op == 1) = false) (h2 : (op == 2) = false) (hk : ∀ k ∈ ks, (kR s l k).2 = 0) {i : Nat} (hi : ks.length ≤ i) : kR s l (.mk op v al fi ks) = finKR op (kAt s l ks i 0) (kAt s l ks i 1) := by
  unfold kR; rw [h1, h2, kRs_all hk, kAt_all hi, kAt_all hi]; rfl
theorem kidsN_le2 (op : Int) : kidsN op ≤ 2 := by
  unfold kidsN
  cases op == 12 <;> cases (decide (op ≥ 3) && decide (op ≤ 11)) <;> decide
/-! ### Values -/
theorem evR_lit {s : List Ty} {l : List Bi} {op : Int} {v : Vl} {al fi : ByteArray} {ks : List Exp} (h : (op == 1) = true) : evR s l (.mk op v al fi ks) = (v, 0) := by unfold evR; rw [h]; rfl
theorem evR_field {s : List Ty} {l : List Bi} {op : Int} {v : Vl} {al fi : ByteArray} {ks : List Exp} (h1 : (op == 1) = false) (h : (op == 2) = true) : evR s l (.mk op v al fi ks) = fieldV s l al fi := by unfold evR; rw [h1, h]; rfl
theorem evR_one {s : List Ty} {l : List Bi} {op : Int} {v : Vl} {al fi : ByteArray} {p : Exp} {rest : List Exp} (h1 : (op == 1) = false) (h2 : (op == 2) = false) : evR s l (.mk op v al fi (p :: rest)) = finR op (evR s l p :: evRs s l rest) := by
  rw [evR, evRs, h1, h2]; rfl
theorem evR_two {s : List Ty} {l : List Bi} {op : Int} {v : Vl} {al fi : ByteArray} {p q : Exp} {rest : List Exp} (h1 : (op == 1) = false) (h2 : (op == 2) = false) : evR s l (.mk op v al fi (p :: q :: rest)) = finR op (evR s l p :: evR s l q :: evRs s l rest) := by
  rw [evR_one h1 h2, evRs]
theorem finR_e1 {op : Int} {r0 : Vl × Int} {rest : List (Vl × Int)} (h : (r0.2 != 0) = true) : finR op (r0 :: rest) = (nulV, r0.2) := by unfold finR; dsimp only; rw [h]; rfl
theorem finR_cb {op : Int} {r0 : Vl × Int} {rest : List (Vl × Int)} (h : (r0.2 != 0) = false) (hc : ((op == 10) || (op == 11)) = true) (hb : (r0.1.k != 3) = true) : finR op (r0 :: rest) = (nulV, 14) := by unfold finR; dsimp only; rw [h, hc, hb]; rfl
theorem finR_cs {op : Int} {r0 : Vl × Int} {rest : List (Vl × Int)} (h : (r0.2 != 0) = false) (hc : ((op == 10) || (op == 11)) = true) (hb : (r0.1.k != 3) = false) (hs : ((r0.1.n == 1) == (op == 11)) = true) : finR op (r0 :: rest) = (r0.1, 0) := by unfold finR; dsimp only; rw [h, hc, hb, hs]; rfl
theorem finR_cc {op : Int} {r0 r1 : Vl × Int} {rest : List (Vl × Int)} (h : (r0.2 != 0) = false) (hc : ((op == 10) || (op == 11)) = true) (hb : (r0.1.k != 3) = false) (hs : ((r0.1.n == 1) == (op == 11)) = false) {c : Int} (hc2 : (bif (r1.2 == 0) && (r1.1.k != 3) then 14 else r1.2) = c) :
    finR op (r0 :: r1 :: rest) = bif c != 0 then (nulV, c) else (r1.1, 0) := by
  unfold finR; dsimp only; rw [h, hc, hb, hs]
  subst hc2
  show (bif (r1.2 == 0) && (r1.1.k != 3) then _ else _) = _
  cases hq : ((r1.2 == 0) && (r1.1.k != 3)) with
  | true => rfl
  | false => rfl
theorem finR_nb {op : Int} {r0 : Vl × Int} {rest : List (Vl × Int)} (h : (r0.2 != 0) = false) (hc : ((op == 10) || (op == 11)) = false) (hn : (op == 12) = true) (hb : (r0.1.k != 3) = true) : finR op (r0 :: rest) = (nulV, 14) := by unfold finR; dsimp only; rw [h, hc, hn, hb]; rfl
theorem finR_nt {op : Int} {r0 : Vl × Int} {rest : List (Vl × Int)} (h : (r0.2 != 0) = false) (hc : ((op == 10) || (op == 11)) = false) (hn : (op == 12) = true) (hb : (r0.1.k != 3) = false) : finR op (r0 :: rest) = (truthV (r0.1.n == 0), 0) := by unfold finR; dsimp only; rw [h, hc, hn, hb]; rfl
theorem finR_te {op : Int} {r0 r1 : Vl × Int} {rest : List (Vl × Int)} (h : (r0.2 != 0) = false) (hc : ((op == 10) || (op == 11)) = false) (hn : (op == 12) = false) (hz : (r1.2 != 0) = true) : finR op (r0 :: r1 :: rest) = (nulV, r1.2) := by unfold finR; dsimp only; rw [h, hc, hn]; show (bif r1.2 != 0 then _ else _) = _; rw [hz]; rfl
theorem finR_tv {op : Int} {r0 r1 : Vl × Int} {rest : List (Vl × Int)} (h : (r0.2 != 0) = false) (hc : ((op == 10) || (op == 11)) = false) (hn : (op == 12) = false) (hz : (r1.2 != 0) = false) : finR op (r0 :: r1 :: rest) = refTwo op r0.1 r1.1 := by unfold finR; dsimp only; rw [h, hc, hn]; show (bif r1.2 != 0 then _ else _) = _; rw [hz]; rfl
theorem parts_x {op : Int} {v : Vl} {al fi : ByteArray} {ks : List Exp} {d : Nat} (h : shapedX (.mk op v al fi ks) d = true) (h1 : (op == 1) = false) (h2 : (op == 2) = false) : ∃ p rest, ks = p :: rest ∧ ((op == 12) = false → ∃ q r2, rest = q :: r2) := by
  obtain ⟨a1, a2, a3, _⟩ := shaped_inv h
  simp at h1 h2
  by_cases e : op = 12
  · subst e
    have a3 : (ks.length : Int) = 1 := a3
    match ks, a3 with
    | [p], _ => exact ⟨p, [], rfl, fun h => by simp at h⟩
  · have hk : kidsN op = 2 := by
      unfold kidsN
      have e0 : (op == 12) = false := by simpa using e
      have e1 : decide (op ≥ 3) = true := by simp; omega
      have e2 : decide (op ≤ 11) = true := by simp; omega
      rw [e0, e1, e2]; rfl
    rw [hk] at a3
    match ks, a3 with
    | [p, q], _ => exact ⟨p, [q], rfl, fun _ => ⟨q, [], rfl⟩⟩
theorem shaped_kid {op : Int} {v : Vl} {al fi : ByteArray} {ks : List Exp} {d : Nat} {k : Exp} (h : shapedX (.mk op v al fi ks) d = true) (h1 : (op == 1) = false) (h2 : (op == 2) = false) (hk : k ∈ ks) : shapedX k (d + 1) = true := by
  unfold shapedX at h
  cases q : (decide (op < 1) || (decide (op > 12) || (((ks.length : Int) != kidsN op) || decide ((d : Int) > 5)))) with
  | true => rw [q] at h; simp at h
  | false =>
    rw [q, h1, h2] at h
    simp only [cond_false, Bool.and_eq_true] at h
    have := h.1
    rw [shapedXs_all, List.all_eq_true] at this
    exact this k hk
theorem isX_sh {x : Exp} (h : isX x = true) : shapedX x 1 = true := by
  rw [← isExpr_eq] at h
  unfold isExpr at h
  rw [Bool.and_eq_true] at h
  exact h.1
theorem means_law {s : List Ty} {l : List Bi} {es : List El} (hS : Suits s l es) {x : Exp} (hx : isX x = true) : isX (normE x) = true ∧ ((kindR s es x).2 = 0 → kindR s es (normE x) = kindR s es x ∧ Alike (evalR s x l) (evalR s (normE x) l)) := by
  have hy : isX (normE x) = true := by rw [isX_normE]; exact hx
  refine ⟨hy, fun h => ?_⟩
  have hn : normE x = normX x := by unfold normE; rw [hx]; rfl
  have e1 : kindR s es x = kR s es x := by unfold kindR; rw [hx]; rfl
  have e2 : kindR s es (normE x) = kR s es (normX x) := by unfold kindR; rw [hy, hn]; rfl
  have e3 : evalR s x l = evR s l x := by unfold evalR; rw [hx]; rfl
  have e4 : evalR s (normE x) l = evR s l (normX x) := by unfold evalR; rw [hy, hn]; rfl
  rw [e1] at h
  have hk : kR s es x = ((kR s es x).1, 0) := by rw [← h]
  obtain ⟨m1, m2⟩ := means s l es hS _ x (Nat.lt_succ_self _) 1 _ (isX_sh hx) hk
  rw [e1, e2, e3, e4]
  exact ⟨by rw [m1, ← hk], m2⟩
theorem suits_one {s : List Ty} {es : List El} {b : Bi} (h : evtR s b.ev = 0) {i : Nat} {e : El} (hi : idx (fun x : El => same x.al b.al) es = (i : Int)) (he : es[i]? = some e) (ha : amongB e.tys b.ev.ty = true) : evtR s b.ev = 0 ∧ ∃ i e, es.findIdx? (fun x => same x.al b.al) = some i ∧ es[i]? = some e ∧ b.ev.ty ∈ e.tys := by
  refine ⟨h, i, e, ?_, he, ?_⟩
  · unfold idx at hi
    cases hq : es.findIdx? (fun x : El => same x.al b.al) with
    | none => rw [hq] at hi; simp at hi
    | some j => rw [hq] at hi; have : j = i := by simp at hi; omega
                rw [this]
  · unfold amongB at ha
    obtain ⟨t, ht, hs⟩ := List.any_eq_true.1 ha
    rw [← same_eq hs]; exact ht
end Go.AL
