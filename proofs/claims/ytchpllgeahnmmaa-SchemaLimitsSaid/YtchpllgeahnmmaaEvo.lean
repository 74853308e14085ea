/- Parts of an abstract logic over the kit's walks, and walks in it: Evo. -/
import Derived.Test.YtchpllgeahnmmaaMe
/- Schemas changed, events moved: plain data; nothing of a program. -/
namespace Go.AL
set_option linter.unusedVariables false
set_option linter.unusedSimpArgs false

structure Chg where
  kind : Int
  ty : ByteArray
  fld : ByteArray
  to : ByteArray
  dv : Vl
def encC (c : Chg) : List D := [int c.kind, str c.ty, str c.fld, str c.to, int c.dv.k, int c.dv.n, str c.dv.s]
def argC (c : Chg) : AV := .agg ((encC c).map .d)
def sameC (a b : Chg) : Bool := a.kind == b.kind && (same a.ty b.ty && (same a.fld b.fld && (same a.to b.to && (a.dv.k == b.dv.k && (a.dv.n == b.dv.n && same a.dv.s b.dv.s)))))
/-- A change with what its kind uses, and nothing else. -/
def ownC (c : Chg) : Chg :=
  bif c.kind == 1 then ⟨c.kind, c.ty, c.fld, nul, c.dv⟩ else bif c.kind == 2 || c.kind == 4 then ⟨c.kind, c.ty, c.fld, nul, ⟨0, 0, nul⟩⟩
  else bif c.kind == 3 then ⟨c.kind, c.ty, c.fld, c.to, ⟨0, 0, nul⟩⟩ else ⟨c.kind, c.ty, nul, nul, ⟨0, 0, nul⟩⟩
def nameSet (fs : List Fld) (k : Nat) (nm : ByteArray) : List Fld := match fs[k]? with
  | some f => fs.set k ⟨nm, f.kind⟩
  | none => fs
def kindSet (fs : List Fld) (k : Nat) (kd : Int) : List Fld := match fs[k]? with
  | some f => fs.set k ⟨f.name, kd⟩
  | none => fs
def kindAt (fs : List Fld) (k : Nat) : Int := match fs[k]? with
  | some f => f.kind
  | none => 0
def changeT (t : Ty) (c : Chg) : Ty × Int :=
  bif c.kind == 1 then
    (bif !isName c.fld || !isVal c.dv then (t, 10) else bif decide (fieldAt t c.fld ≥ 0) then (t, 13) else bif decide ((t.fields.length : Int) ≥ 5) then (t, 12)
     else (⟨t.name, t.fields ++ [⟨c.fld, c.dv.k⟩]⟩, 0))
  else bif decide (fieldAt t c.fld < 0) then (t, 13)
  else bif c.kind == 2 then (⟨t.name, t.fields.eraseIdx (fieldAt t c.fld).toNat⟩, 0)
  else bif c.kind == 3 then (bif !isName c.to then (t, 10) else bif decide (fieldAt t c.to ≥ 0) then (t, 13) else (⟨t.name, nameSet t.fields (fieldAt t c.fld).toNat c.to⟩, 0))
  else bif c.kind == 4 then (bif kindAt t.fields (fieldAt t c.fld).toNat != 3 then (t, 14) else (⟨t.name, kindSet t.fields (fieldAt t c.fld).toNat 1⟩, 0))
  else (t, 0)
/-- Where a new type's place is. -/
def posX (s : List Ty) (nm : ByteArray) : Nat := (s.takeWhile fun t => less t.name nm).length
def insX (s : List Ty) (nm : ByteArray) : List Ty := s.take (posX s nm) ++ ⟨nm, []⟩ :: s.drop (posX s nm)
def addX (s : List Ty) (nm : ByteArray) : List Ty × Int :=
  bif (findT s nm).2 then (s, 13) else bif decide ((s.length : Int) ≥ 5) then (s, 12) else (insX s nm, 0)
def badC (c : Chg) : Bool := decide (c.kind < 1) || (decide (c.kind > 5) || (!isName c.ty || !sameC c (ownC c)))
def typeIdx (s : List Ty) (nm : ByteArray) : Int := idx (fun t : Ty => same t.name nm) s
def applyX (s : List Ty) (c : Chg) : List Ty × Int :=
  bif badC c then (s, 10) else bif c.kind == 5 then addX s c.ty
  else bif decide (typeIdx s c.ty < 0) then (s, 13)
  else match s[(typeIdx s c.ty).toNat]? with
    | some t => bif (changeT t c).2 != 0 then (s, (changeT t c).2) else (s.set (typeIdx s c.ty).toNat (changeT t c).1, 0)
    | none => (s, 13)
/-- An event's values of the type changed. -/
def valsX (t : Ty) (c : Chg) (vs : List Vl) : List Vl :=
  bif c.kind == 1 then vs ++ [c.dv]
  else bif decide (fieldAt t c.fld < 0) || decide (fieldAt t c.fld ≥ (vs.length : Int)) then vs
  else bif c.kind == 2 then vs.eraseIdx (fieldAt t c.fld).toNat
  else bif c.kind == 4 then vs.set (fieldAt t c.fld).toNat ⟨1, (vs.getD (fieldAt t c.fld).toNat ⟨0, 0, nul⟩).n, nul⟩
  else vs
def moveX (s : List Ty) (c : Chg) (e : Ev) : Ev :=
  bif (applyX s c).2 != 0 || (evtR s e != 0 || (!(same e.ty c.ty) || c.kind == 5)) then e
  else ⟨e.ty, e.ts, valsX (findT s e.ty).1 c e.vals⟩
def backX (c : Chg) (f : ByteArray) : ByteArray × Bool :=
  bif c.kind == 3 && same f c.to then (c.fld, true) else bif c.kind == 1 && same f c.fld then (nul, false) else (f, true)

/-! ### Types, as they may be -/
structure TypeOk (t : Ty) : Prop where
  nm : isName t.name = true
  few : t.fields.length ≤ 5
  each : ∀ f ∈ t.fields, isName f.name = true ∧ 1 ≤ f.kind ∧ f.kind ≤ 3
  diff : ∀ (i j : Nat) (f g : Fld), t.fields[i]? = some f → t.fields[j]? = some g → same f.name g.name = true → i = j
theorem same_symm (a b : ByteArray) : same a b = same b a := by
  cases h : same a b with
  | true => have := same_eq h; subst this; exact (same_refl a).symm
  | false =>
    cases h2 : same b a with
    | false => rfl
    | true => have := same_eq h2; subst this; rw [same_refl] at h; cases h
theorem fieldAt_at {t : Ty} {i : Nat} {f : Fld} (hd : ∀ (i j : Nat) (f g : Fld), t.fields[i]? = some f → t.fields[j]? = some g → same f.name g.name = true → i = j) (h : t.fields[i]? = some f) : fieldAt t f.name = (i : Int) := by
  unfold fieldAt
  refine idx_some h (same_refl _) fun j g hj hg => ?_
  cases hq : same g.name f.name with
  | false => rfl
  | true => have := hd j i g f hg h hq; omega
theorem TypeOk.of {t : Ty} (h : isType t = true) : TypeOk t := by
  unfold isType at h
  simp only [Bool.and_eq_true, decide_eq_true_eq] at h
  obtain ⟨⟨h1, h2⟩, h3⟩ := h
  have hf : ∀ (i : Nat) (f : Fld), t.fields[i]? = some f → okF t i f = true := fun i f hf => by
    unfold okFs at h3
    rw [List.all_eq_true] at h3
    have := h3 i (by simpa using (List.getElem?_eq_some_iff.1 hf).1)
    simpa [hf] using this
  refine ⟨h1, h2, fun f hm => ?_, fun i j f g hi hj hs => ?_⟩
  · obtain ⟨i, hi⟩ := List.getElem?_of_mem hm
    have := hf i f hi
    unfold okF at this
    simp only [Bool.and_eq_true, decide_eq_true_eq] at this
    exact ⟨this.1.1.1, this.1.1.2, this.1.2⟩
  · have h1 := hf i f hi
    have h2 := hf j g hj
    unfold okF at h1 h2
    simp only [Bool.and_eq_true, beq_iff_eq] at h1 h2
    have e := same_eq hs
    have := h1.2
    rw [e, h2.2] at this
    omega
theorem TypeOk.is {t : Ty} (h : TypeOk t) : isType t = true := by
  refine type_ok h.nm (by have := h.few; simp; omega) (okFs_all fun i f _ hf => ?_)
  obtain ⟨h1, h2, h3⟩ := h.each f (List.mem_of_getElem? hf)
  exact okF_yes h1 (by simp; omega) (by simp; omega) (by rw [fieldAt_at h.diff hf]; simp)
theorem fieldAt_no {t : Ty} {nm : ByteArray} (h : fieldAt t nm < 0) : ∀ f ∈ t.fields, same f.name nm = false := by
  rcases idx_cases (fun f : Fld => same f.name nm) t.fields with ⟨i, f, h1, _⟩ | ⟨_, h2⟩
  · unfold fieldAt at h; rw [h1] at h; omega
  · exact h2
theorem fieldAt_yes {t : Ty} {nm : ByteArray} (h : ¬ fieldAt t nm < 0) : ∃ (k : Nat) (f : Fld), fieldAt t nm = (k : Int) ∧ t.fields[k]? = some f ∧ f.name = nm := by
  rcases idx_cases (fun f : Fld => same f.name nm) t.fields with ⟨i, f, h1, h2, h3, _⟩ | ⟨h1, _⟩
  · exact ⟨i, f, h1, h2, same_eq h3⟩
  · unfold fieldAt at h; rw [h1] at h; omega
/-- What a change of a type does, by its kind. -/
inductive Done (t : Ty) (c : Chg) : Ty → Prop where
  | add : c.kind = 1 → isName c.fld = true → isVal c.dv = true → fieldAt t c.fld < 0 → t.fields.length < 5 → Done t c ⟨t.name, t.fields ++ [⟨c.fld, c.dv.k⟩]⟩
  | drop (k : Nat) (f : Fld) : c.kind = 2 → fieldAt t c.fld = (k : Int) → t.fields[k]? = some f → f.name = c.fld → Done t c ⟨t.name, t.fields.eraseIdx k⟩
  | rename (k : Nat) (f : Fld) : c.kind = 3 → fieldAt t c.fld = (k : Int) → t.fields[k]? = some f → f.name = c.fld → isName c.to = true → fieldAt t c.to < 0 → Done t c ⟨t.name, t.fields.set k ⟨c.to, f.kind⟩⟩
  | widen (k : Nat) (f : Fld) : c.kind = 4 → fieldAt t c.fld = (k : Int) → t.fields[k]? = some f → f.name = c.fld → f.kind = 3 → Done t c ⟨t.name, t.fields.set k ⟨f.name, 1⟩⟩
theorem change_done {t t' : Ty} {c : Chg} (h5 : c.kind ≠ 5) (h1 : 1 ≤ c.kind) (h6 : c.kind ≤ 5) (h : changeT t c = (t', 0)) : Done t c t' := by
  unfold changeT at h
  by_cases k1 : c.kind = 1
  · rw [show (c.kind == 1) = true by simp [k1]] at h
    simp only [cond_true] at h
    cases g1 : (!isName c.fld || !isVal c.dv) with
    | true => rw [g1] at h; simp at h
    | false =>
      rw [g1] at h
      simp only [cond_false] at h
      cases g2 : decide (fieldAt t c.fld ≥ 0) with
      | true => rw [g2] at h; simp at h
      | false =>
        rw [g2] at h
        simp only [cond_false] at h
        cases g3 : decide ((t.fields.length : Int) ≥ 5) with
        | true => rw [g3] at h; simp at h
        | false =>
          rw [g3] at h
          simp only [cond_false, Prod.mk.injEq, and_true] at h
          subst h
          simp at g1 g2 g3
          exact .add k1 g1.1 g1.2 (by omega) (by omega)
  · rw [show (c.kind == 1) = false by simpa using k1] at h
    simp only [cond_false] at h
    cases g1 : decide (fieldAt t c.fld < 0) with
    | true => rw [g1] at h; simp at h
    | false =>
      rw [g1] at h
      simp only [cond_false] at h
      simp only [decide_eq_false_iff_not] at g1
      obtain ⟨k, f, e1, e2, e3⟩ := fieldAt_yes g1
      have ek : (fieldAt t c.fld).toNat = k := by rw [e1]; rfl
      rw [ek] at h
      by_cases k2 : c.kind = 2
      · rw [show (c.kind == 2) = true by simp [k2]] at h
        simp only [cond_true, Prod.mk.injEq, and_true] at h
        subst h
        exact .drop k f k2 e1 e2 e3
      · rw [show (c.kind == 2) = false by simpa using k2] at h
        simp only [cond_false] at h
        by_cases k3 : c.kind = 3
        · rw [show (c.kind == 3) = true by simp [k3]] at h
          simp only [cond_true] at h
          cases g2 : (!isName c.to) with
          | true => rw [g2] at h; simp at h
          | false =>
            rw [g2] at h
            simp only [cond_false] at h
            cases g3 : decide (fieldAt t c.to ≥ 0) with
            | true => rw [g3] at h; simp at h
            | false =>
              rw [g3] at h
              simp only [cond_false, Prod.mk.injEq, and_true] at h
              have : nameSet t.fields k c.to = t.fields.set k ⟨c.to, f.kind⟩ := by unfold nameSet; rw [e2]
              rw [this] at h
              subst h
              simp at g2 g3
              exact .rename k f k3 e1 e2 e3 g2 (by omega)
        · rw [show (c.kind == 3) = false by simpa using k3, show (c.kind == 4) = true by simp; omega] at h
          simp only [cond_false, cond_true] at h
          have ek : kindAt t.fields k = f.kind := by unfold kindAt; rw [e2]
          rw [ek] at h
          cases g2 : (f.kind != 3) with
          | true => rw [g2] at h; simp at h
          | false =>
            rw [g2] at h
            simp only [cond_false, Prod.mk.injEq, and_true] at h
            have : kindSet t.fields k 1 = t.fields.set k ⟨f.name, 1⟩ := by unfold kindSet; rw [e2]
            rw [this] at h
            subst h
            exact .widen k f (by omega) e1 e2 e3 (by simpa using g2)
theorem done_name {t t' : Ty} {c : Chg} (h : Done t c t') : t'.name = t.name := by cases h <;> rfl
theorem done_ok {t t' : Ty} {c : Chg} (h : Done t c t') (ho : TypeOk t) : TypeOk t' := by
  obtain ⟨h1, h2, h3, h4⟩ := ho
  cases h with
  | add k1 g1 g2 g3 g4 =>
    have hn := fieldAt_no g3
    refine ⟨h1, by simp; omega, fun f hf => ?_, fun i j f g hi hj hs => ?_⟩
    · rcases List.mem_append.1 hf with hf | hf
      · exact h3 f hf
      · simp at hf; subst hf
        rcases val_k g2 with e | e | e
        all_goals exact ⟨g1, by show 1 ≤ c.dv.k; omega, by show c.dv.k ≤ 3; omega⟩
    · simp only [List.getElem?_append] at hi hj
      split at hi
      · split at hj
        · exact h4 i j f g hi hj hs
        · rename_i ha hb
          have : j - t.fields.length = 0 := by
            rcases Nat.eq_zero_or_pos (j - t.fields.length) with e | e
            · exact e
            · rw [List.getElem?_eq_none (by simp; omega)] at hj; cases hj
          rw [this] at hj
          cases hj
          have := hn f (List.mem_of_getElem? hi)
          have hs : same f.name c.fld = true := hs
          rw [this] at hs; cases hs
      · split at hj
        · rename_i ha hb
          have : i - t.fields.length = 0 := by
            rcases Nat.eq_zero_or_pos (i - t.fields.length) with e | e
            · exact e
            · rw [List.getElem?_eq_none (by simp; omega)] at hi; cases hi
          rw [this] at hi
          cases hi
          have := hn g (List.mem_of_getElem? hj)
          have hs : same c.fld g.name = true := hs
          rw [same_symm, this] at hs; cases hs
        · rename_i ha hb
          have e1 : i - t.fields.length = 0 := by
            rcases Nat.eq_zero_or_pos (i - t.fields.length) with e | e
            · exact e
            · rw [List.getElem?_eq_none (by simp; omega)] at hi; cases hi
          have e2 : j - t.fields.length = 0 := by
            rcases Nat.eq_zero_or_pos (j - t.fields.length) with e | e
            · exact e
            · rw [List.getElem?_eq_none (by simp; omega)] at hj; cases hj
          omega
  | drop k f k1 g1 g2 g3 =>
    refine ⟨h1, by have := List.length_eraseIdx_le t.fields k; show (t.fields.eraseIdx k).length ≤ 5; omega, fun f hf => h3 f (List.mem_of_mem_eraseIdx hf), fun i j f g hi hj hs => ?_⟩
    simp only [List.getElem?_eraseIdx] at hi hj
    split at hi <;> split at hj
    · exact h4 i j f g hi hj hs
    · have := h4 _ _ f g hi hj hs; omega
    · have := h4 _ _ f g hi hj hs; omega
    · have := h4 _ _ f g hi hj hs; omega
  | rename k f k1 g1 g2 g3 g4 g5 =>
    have hn := fieldAt_no g5
    have hf := h3 f (List.mem_of_getElem? g2)
    refine ⟨h1, by simpa using h2, fun q hq => ?_, fun i j q g hi hj hs => ?_⟩
    · rcases List.mem_or_eq_of_mem_set hq with hq | rfl
      · exact h3 q hq
      · exact ⟨g4, hf.2.1, hf.2.2⟩
    · simp only [List.getElem?_set] at hi hj
      split at hi <;> split at hj
      · omega
      · split at hi
        · cases hi
          have := hn g (List.mem_of_getElem? hj)
          have hs : same c.to g.name = true := hs
          rw [same_symm, this] at hs; cases hs
        · cases hi
      · split at hj
        · cases hj
          have := hn q (List.mem_of_getElem? hi)
          have hs : same q.name c.to = true := hs
          rw [this] at hs; cases hs
        · cases hj
      · exact h4 i j q g hi hj hs
  | widen k f k1 g1 g2 g3 g4 =>
    have hf := h3 f (List.mem_of_getElem? g2)
    refine ⟨h1, by simpa using h2, fun q hq => ?_, fun i j q g hi hj hs => ?_⟩
    · rcases List.mem_or_eq_of_mem_set hq with hq | rfl
      · exact h3 q hq
      · exact ⟨hf.1, by show (1 : Int) ≤ 1; omega, by show (1 : Int) ≤ 3; omega⟩
    · simp only [List.getElem?_set] at hi hj
      split at hi <;> split at hj
      · omega
      · rename_i ha hb
        split at hi
        · cases hi
          subst ha
          exact h4 _ _ f g g2 hj hs
        · cases hi
      · rename_i ha hb
        split at hj
        · cases hj
          subst hb
          exact h4 _ _ q f hi g2 hs
        · cases hj
      · exact h4 i j q g hi hj hs
theorem done_diff {t t' : Ty} {c : Chg} (h : Done t c t') : sameT t' t = false := by
  unfold sameT
  cases h with
  | add => rw [allSame_len (by simp)]; simp
  | drop k f k1 g1 g2 g3 =>
    have hlt := (List.getElem?_eq_some_iff.1 g2).1
    rw [allSame_len (by show (t.fields.eraseIdx k).length ≠ _; rw [List.length_eraseIdx]; split <;> omega)]; simp
  | rename k f k1 g1 g2 g3 g4 g5 =>
    have hlt := (List.getElem?_eq_some_iff.1 g2).1
    have hn := fieldAt_no g5 f (List.mem_of_getElem? g2)
    rw [allSame_ne (i := k) (a := ⟨c.to, f.kind⟩) (b := f) (by show (t.fields.set k _)[k]? = _; rw [List.getElem?_set]; simp [hlt]) g2 (by unfold sameF; rw [show same (Fld.mk c.to f.kind).name f.name = same c.to f.name from rfl, same_symm, hn]; rfl)]; simp
  | widen k f k1 g1 g2 g3 g4 =>
    have hlt := (List.getElem?_eq_some_iff.1 g2).1
    rw [allSame_ne (i := k) (a := ⟨f.name, 1⟩) (b := f) (by show (t.fields.set k _)[k]? = _; rw [List.getElem?_set]; simp [hlt]) g2 (by unfold sameF; rw [show ((Fld.mk f.name 1).kind == f.kind) = false by rw [g4]; rfl]; simp)]; simp
end Go.AL
