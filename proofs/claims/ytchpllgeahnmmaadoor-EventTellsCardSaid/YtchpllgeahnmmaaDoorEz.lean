/- Parts of an abstract logic over the kit's walks, and walks in it: Evo, Evo4, Evo2, Evo3, Evo5, Evo6. -/
import Derived.Test.YtchpllgeahnmmaaDoorMe
import Derived.Test.YtchpllgeahnmmaaDoorAf
import Derived.Test.YtchpllgeahnmmaaDoorBa
namespace Go.AL
set_option linter.unusedVariables false
set_option linter.unusedSimpArgs false
structure Chg where
  kind : Int
  ty : ByteArray
  fld : ByteArray
  to : ByteArray
  dv : Vl
def encC (c : Chg) : List D := [int c.kind, str c.ty, str c.fld, str c.to, int c.dv.k, int c.dv.n, str c.dv.s]
def argC (c : Chg) : AV := .agg ((encC c).map .d)
def sameC (a b : Chg) : Bool := a.kind == b.kind && (same a.ty b.ty && (same a.fld b.fld && (same a.to b.to && (a.dv.k == b.dv.k && (a.dv.n == b.dv.n && same a.dv.s b.dv.s)))))
def ownC (c : Chg) : Chg :=
  bif c.kind == 1 then ⟨c.kind, c.ty, c.fld, nul, c.dv⟩ else bif c.kind == 2 || c.kind == 4 then ⟨c.kind, c.ty, c.fld, nul, ⟨0, 0, nul⟩⟩
  else bif c.kind == 3 then ⟨c.kind, c.ty, c.fld, c.to, ⟨0, 0, nul⟩⟩ else ⟨c.kind, c.ty, nul, nul, ⟨0, 0, nul⟩⟩
def nameSet (fs : List Fld) (k : Nat) (nm : ByteArray) : List Fld := match fs[k]? with
  | some f => fs.set k ⟨nm, f.kind⟩
  | none => fs
def kindSet (fs : List Fld) (k : Nat) (kd : Int) : List Fld := match fs[k]? with
  | some f => fs.set k ⟨f.name, kd⟩
  | none => fs
def kindAt (fs : List Fld) (k : Nat) : Int := match fs[k]? with
  | some f => f.kind
  | none => 0
def changeT (t : Ty) (c : Chg) : Ty × Int :=
  bif c.kind == 1 then
    (bif !isName c.fld || !isVal c.dv then (t, 10) else bif decide (fieldAt t c.fld ≥ 0) then (t, 13) else bif decide ((t.fields.length : Int) ≥ 5) then (t, 12)
     else (⟨t.name, t.fields ++ [⟨c.fld, c.dv.k⟩]⟩, 0))
  else bif decide (fieldAt t c.fld < 0) then (t, 13)
  else bif c.kind == 2 then (⟨t.name, t.fields.eraseIdx (fieldAt t c.fld).toNat⟩, 0)
  else bif c.kind == 3 then (bif !isName c.to then (t, 10) else bif decide (fieldAt t c.to ≥ 0) then (t, 13) else (⟨t.name, nameSet t.fields (fieldAt t c.fld).toNat c.to⟩, 0))
  else bif c.kind == 4 then (bif kindAt t.fields (fieldAt t c.fld).toNat != 3 then (t, 14) else (⟨t.name, kindSet t.fields (fieldAt t c.fld).toNat 1⟩, 0))
  else (t, 0)
def posX (s : List Ty) (nm : ByteArray) : Nat := (s.takeWhile fun t => less t.name nm).length
def insX (s : List Ty) (nm : ByteArray) : List Ty := s.take (posX s nm) ++ ⟨nm, []⟩ :: s.drop (posX s nm)
def addX (s : List Ty) (nm : ByteArray) : List Ty × Int :=
  bif (findT s nm).2 then (s, 13) else bif decide ((s.length : Int) ≥ 5) then (s, 12) else (insX s nm, 0)
def badC (c : Chg) : Bool := decide (c.kind < 1) || (decide (c.kind > 5) || (!isName c.ty || !sameC c (ownC c)))
def typeIdx (s : List Ty) (nm : ByteArray) : Int := idx (fun t : Ty => same t.name nm) s
def applyX (s : List Ty) (c : Chg) : List Ty × Int :=
  bif badC c then (s, 10) else bif c.kind == 5 then addX s c.ty
  else bif decide (typeIdx s c.ty < 0) then (s, 13)
  else match s[(typeIdx s c.ty).toNat]? with
    | some t => bif (changeT t c).2 != 0 then (s, (changeT t c).2) else (s.set (typeIdx s c.ty).toNat (changeT t c).1, 0)
    | none => (s, 13)
def valsX (t : Ty) (c : Chg) (vs : List Vl) : List Vl :=
  bif c.kind == 1 then vs ++ [c.dv]
  else bif decide (fieldAt t c.fld < 0) || decide (fieldAt t c.fld ≥ (vs.length : Int)) then vs
  else bif c.kind == 2 then vs.eraseIdx (fieldAt t c.fld).toNat
  else bif c.kind == 4 then vs.set (fieldAt t c.fld).toNat ⟨1, (vs.getD (fieldAt t c.fld).toNat ⟨0, 0, nul⟩).n, nul⟩
  else vs
def moveX (s : List Ty) (c : Chg) (e : Ev) : Ev :=
  bif (applyX s c).2 != 0 || (evtR s e != 0 || (!(same e.ty c.ty) || c.kind == 5)) then e
  else ⟨e.ty, e.ts, valsX (findT s e.ty).1 c e.vals⟩
def backX (c : Chg) (f : ByteArray) : ByteArray × Bool :=
  bif c.kind == 3 && same f c.to then (c.fld, true) else bif c.kind == 1 && same f c.fld then (nul, false) else (f, true)
structure TypeOk (t : Ty) : Prop where
  nm : isName t.name = true
  few : t.fields.length ≤ 5
  each : ∀ f ∈ t.fields, isName f.name = true ∧ 1 ≤ f.kind ∧ f.kind ≤ 3
  diff : ∀ (i j : Nat) (f g : Fld), t.fields[i]? = some f → t.fields[j]? = some g → same f.name g.name = true → i = j
theorem same_symm (a b : ByteArray) : same a b = same b a := by
  cases h : same a b with
  | true => have := same_eq h; subst this; exact (same_refl a).symm
  | false =>
    cases h2 : same b a with
    | false => rfl
    | true => have := same_eq h2; subst this; rw [same_refl] at h; cases h
theorem fieldAt_at {t : Ty} {i : Nat} {f : Fld} (hd : ∀ (i j : Nat) (f g : Fld), t.fields[i]? = some f → t.fields[j]? = some g → same f.name g.name = true → i = j) (h : t.fields[i]? = some f) : fieldAt t f.name = (i : Int) := by
  unfold fieldAt
  refine idx_some h (same_refl _) fun j g hj hg => ?_
  cases hq : same g.name f.name with
  | false => rfl
  | true => have := hd j i g f hg h hq; omega
theorem TypeOk.of {t : Ty} (h : isType t = true) : TypeOk t := by
  unfold isType at h
  simp only [Bool.and_eq_true, decide_eq_true_eq] at h
  obtain ⟨⟨h1, h2⟩, h3⟩ := h
  have hf : ∀ (i : Nat) (f : Fld), t.fields[i]? = some f → okF t i f = true := fun i f hf => by
    unfold okFs at h3
    rw [List.all_eq_true] at h3
    have := h3 i (by simpa using (List.getElem?_eq_some_iff.1 hf).1)
    simpa [hf] using this
  refine ⟨h1, h2, fun f hm => ?_, fun i j f g hi hj hs => ?_⟩
  · obtain ⟨i, hi⟩ := List.getElem?_of_mem hm
    have := hf i f hi
    unfold okF at this
    simp only [Bool.and_eq_true, decide_eq_true_eq] at this
    exact ⟨this.1.1.1, this.1.1.2, this.1.2⟩
  · have h1 := hf i f hi
    have h2 := hf j g hj
    unfold okF at h1 h2
    simp only [Bool.and_eq_true, beq_iff_eq] at h1 h2
    have e := same_eq hs
    have := h1.2
    rw [e, h2.2] at this
    omega
theorem TypeOk.is {t : Ty} (h : TypeOk t) : isType t = true := by
  refine type_ok h.nm (by have := h.few; simp; omega) (okFs_all fun i f _ hf => ?_)
  obtain ⟨h1, h2, h3⟩ := h.each f (List.mem_of_getElem? hf)
  exact okF_yes h1 (by simp; omega) (by simp; omega) (by rw [fieldAt_at h.diff hf]; simp)
theorem fieldAt_no {t : Ty} {nm : ByteArray} (h : fieldAt t nm < 0) : ∀ f ∈ t.fields, same f.name nm = false := by
  rcases idx_cases (fun f : Fld => same f.name nm) t.fields with ⟨i, f, h1, _⟩ | ⟨_, h2⟩
  · unfold fieldAt at h; rw [h1] at h; omega
  · exact h2
theorem fieldAt_yes {t : Ty} {nm : ByteArray} (h : ¬ fieldAt t nm < 0) : ∃ (k : Nat) (f : Fld), fieldAt t nm = (k : Int) ∧ t.fields[k]? = some f ∧ f.name = nm := by
  rcases idx_cases (fun f : Fld => same f.name nm) t.fields with ⟨i, f, h1, h2, h3, _⟩ | ⟨h1, _⟩
  · exact ⟨i, f, h1, h2, same_eq h3⟩
  · unfold fieldAt at h; rw [h1] at h; omega
inductive Done (t : Ty) (c : Chg) : Ty → Prop where
  | add : c.kind = 1 → isName c.fld = true → isVal c.dv = true → fieldAt t c.fld < 0 → t.fields.length < 5 → Done t c ⟨t.name, t.fields ++ [⟨c.fld, c.dv.k⟩]⟩
  | drop (k : Nat) (f : Fld) : c.kind = 2 → fieldAt t c.fld = (k : Int) → t.fields[k]? = some f → f.name = c.fld → Done t c ⟨t.name, t.fields.eraseIdx k⟩
  | rename (k : Nat) (f : Fld) : c.kind = 3 → fieldAt t c.fld = (k : Int) → t.fields[k]? = some f → f.name = c.fld → isName c.to = true → fieldAt t c.to < 0 → Done t c ⟨t.name, t.fields.set k ⟨c.to, f.kind⟩⟩
  | widen (k : Nat) (f : Fld) : c.kind = 4 → fieldAt t c.fld = (k : Int) → t.fields[k]? = some f → f.name = c.fld → f.kind = 3 → Done t c ⟨t.name, t.fields.set k ⟨f.name, 1⟩⟩
theorem change_done {t t' : Ty} {c : Chg} (h5 : c.kind ≠ 5) (h1 : 1 ≤ c.kind) (h6 : c.kind ≤ 5) (h : changeT t c = (t', 0)) : Done t c t' := by
  unfold changeT at h
  by_cases k1 : c.kind = 1
  · rw [show (c.kind == 1) = true by simp [k1]] at h
    simp only [cond_true] at h
    cases g1 : (!isName c.fld || !isVal c.dv) with
    | true => rw [g1] at h; simp at h
    | false =>
      rw [g1] at h
      simp only [cond_false] at h
      cases g2 : decide (fieldAt t c.fld ≥ 0) with
      | true => rw [g2] at h; simp at h
      | false =>
        rw [g2] at h
        simp only [cond_false] at h
        cases g3 : decide ((t.fields.length : Int) ≥ 5) with
        | true => rw [g3] at h; simp at h
        | false =>
          rw [g3] at h
          simp only [cond_false, Prod.mk.injEq, and_true] at h
          subst h
          simp at g1 g2 g3
          exact .add k1 g1.1 g1.2 (by omega) (by omega)
  · rw [show (c.kind == 1) = false by simpa using k1] at h
    simp only [cond_false] at h
    cases g1 : decide (fieldAt t c.fld < 0) with
    | true => rw [g1] at h; simp at h
    | false =>
      rw [g1] at h
      simp only [cond_false] at h
      simp only [decide_eq_false_iff_not] at g1
      obtain ⟨k, f, e1, e2, e3⟩ := fieldAt_yes g1
      have ek : (fieldAt t c.fld).toNat = k := by rw [e1]; rfl
      rw [ek] at h
      by_cases k2 : c.kind = 2
      · rw [show (c.kind == 2) = true by simp [k2]] at h
        simp only [cond_true, Prod.mk.injEq, and_true] at h
        subst h
        exact .drop k f k2 e1 e2 e3
      · rw [show (c.kind == 2) = false by simpa using k2] at h
        simp only [cond_false] at h
        by_cases k3 : c.kind = 3
        · rw [show (c.kind == 3) = true by simp [k3]] at h
          simp only [cond_true] at h
          cases g2 : (!isName c.to) with
          | true => rw [g2] at h; simp at h
          | false =>
            rw [g2] at h
            simp only [cond_false] at h
            cases g3 : decide (fieldAt t c.to ≥ 0) with
            | true => rw [g3] at h; simp at h
            | false =>
              rw [g3] at h
              simp only [cond_false, Prod.mk.injEq, and_true] at h
              have : nameSet t.fields k c.to = t.fields.set k ⟨c.to, f.kind⟩ := by unfold nameSet; rw [e2]
              rw [this] at h
              subst h
              simp at g2 g3
              exact .rename k f k3 e1 e2 e3 g2 (by omega)
        · rw [show (c.kind == 3) = false by simpa using k3, show (c.kind == 4) = true by simp; omega] at h
          simp only [cond_false, cond_true] at h
          have ek : kindAt t.fields k = f.kind := by unfold kindAt; rw [e2]
          rw [ek] at h
          cases g2 : (f.kind != 3) with
          | true => rw [g2] at h; simp at h
          | false =>
            rw [g2] at h
            simp only [cond_false, Prod.mk.injEq, and_true] at h
            have : kindSet t.fields k 1 = t.fields.set k ⟨f.name, 1⟩ := by unfold kindSet; rw [e2]
            rw [this] at h
            subst h
            exact .widen k f (by omega) e1 e2 e3 (by simpa using g2)
theorem done_name {t t' : Ty} {c : Chg} (h : Done t c t') : t'.name = t.name := by cases h <;> rfl
theorem done_ok {t t' : Ty} {c : Chg} (h : Done t c t') (ho : TypeOk t) : TypeOk t' := by
  obtain ⟨h1, h2, h3, h4⟩ := ho
  cases h with
  | add k1 g1 g2 g3 g4 =>
    have hn := fieldAt_no g3
    refine ⟨h1, by simp; omega, fun f hf => ?_, fun i j f g hi hj hs => ?_⟩
    · rcases List.mem_append.1 hf with hf | hf
      · exact h3 f hf
      · simp at hf; subst hf
        rcases val_k g2 with e | e | e
        all_goals exact ⟨g1, by show 1 ≤ c.dv.k; omega, by show c.dv.k ≤ 3; omega⟩
    · simp only [List.getElem?_append] at hi hj
      split at hi
      · split at hj
        · exact h4 i j f g hi hj hs
        · rename_i ha hb
          have : j - t.fields.length = 0 := by
            rcases Nat.eq_zero_or_pos (j - t.fields.length) with e | e
            · exact e
            · rw [List.getElem?_eq_none (by simp; omega)] at hj; cases hj
          rw [this] at hj
          cases hj
          have := hn f (List.mem_of_getElem? hi)
          have hs : same f.name c.fld = true := hs
          rw [this] at hs; cases hs
      · split at hj
        · rename_i ha hb
          have : i - t.fields.length = 0 := by
            rcases Nat.eq_zero_or_pos (i - t.fields.length) with e | e
            · exact e
            · rw [List.getElem?_eq_none (by simp; omega)] at hi; cases hi
          rw [this] at hi
          cases hi
          have := hn g (List.mem_of_getElem? hj)
          have hs : same c.fld g.name = true := hs
          rw [same_symm, this] at hs; cases hs
        · rename_i ha hb
          have e1 : i - t.fields.length = 0 := by
            rcases Nat.eq_zero_or_pos (i - t.fields.length) with e | e
            · exact e
            · rw [List.getElem?_eq_none (by simp; omega)] at hi; cases hi
          have e2 : j - t.fields.length = 0 := by
            rcases Nat.eq_zero_or_pos (j - t.fields.length) with e | e
            · exact e
            · rw [List.getElem?_eq_none (by simp; omega)] at hj; cases hj
          omega
  | drop k f k1 g1 g2 g3 =>
    refine ⟨h1, by have := List.length_eraseIdx_le t.fields k; show (t.fields.eraseIdx k).length ≤ 5; omega, fun f hf => h3 f (List.mem_of_mem_eraseIdx hf), fun i j f g hi hj hs => ?_⟩
    simp only [List.getElem?_eraseIdx] at hi hj
    split at hi <;> split at hj
    · exact h4 i j f g hi hj hs
    · have := h4 _ _ f g hi hj hs; omega
    · have := h4 _ _ f g hi hj hs; omega
    · have := h4 _ _ f g hi hj hs; omega
  | rename k f k1 g1 g2 g3 g4 g5 =>
    have hn := fieldAt_no g5
    have hf := h3 f (List.mem_of_getElem? g2)
    refine ⟨h1, by simpa using h2, fun q hq => ?_, fun i j q g hi hj hs => ?_⟩
    · rcases List.mem_or_eq_of_mem_set hq with hq | rfl
      · exact h3 q hq
      · exact ⟨g4, hf.2.1, hf.2.2⟩
    · simp only [List.getElem?_set] at hi hj
      split at hi <;> split at hj
      · omega
      · split at hi
        · cases hi
          have := hn g (List.mem_of_getElem? hj)
          have hs : same c.to g.name = true := hs
          rw [same_symm, this] at hs; cases hs
        · cases hi
      · split at hj
        · cases hj
          have := hn q (List.mem_of_getElem? hi)
          have hs : same q.name c.to = true := hs
          rw [this] at hs; cases hs
        · cases hj
      · exact h4 i j q g hi hj hs
  | widen k f k1 g1 g2 g3 g4 =>
    have hf := h3 f (List.mem_of_getElem? g2)
    refine ⟨h1, by simpa using h2, fun q hq => ?_, fun i j q g hi hj hs => ?_⟩
    · rcases List.mem_or_eq_of_mem_set hq with hq | rfl
      · exact h3 q hq
      · exact ⟨hf.1, by show (1 : Int) ≤ 1; omega, by show (1 : Int) ≤ 3; omega⟩
    · simp only [List.getElem?_set] at hi hj
      split at hi <;> split at hj
      · omega
      · rename_i ha hb
        split at hi
        · cases hi
          subst ha
          exact h4 _ _ f g g2 hj hs
        · cases hi
      · rename_i ha hb
        split at hj
        · cases hj
          subst hb
          exact h4 _ _ q f hi g2 hs
        · cases hj
      · exact h4 i j q g hi hj hs
theorem done_diff {t t' : Ty} {c : Chg} (h : Done t c t') : sameT t' t = false := by
  unfold sameT
  cases h with
  | add => rw [allSame_len (by simp)]; simp
  | drop k f k1 g1 g2 g3 =>
    have hlt := (List.getElem?_eq_some_iff.1 g2).1
    rw [allSame_len (by show (t.fields.eraseIdx k).length ≠ _; rw [List.length_eraseIdx]; split <;> omega)]; simp
  | rename k f k1 g1 g2 g3 g4 g5 =>
    have hlt := (List.getElem?_eq_some_iff.1 g2).1
    have hn := fieldAt_no g5 f (List.mem_of_getElem? g2)
    rw [allSame_ne (i := k) (a := ⟨c.to, f.kind⟩) (b := f) (by show (t.fields.set k _)[k]? = _; rw [List.getElem?_set]; simp [hlt]) g2 (by unfold sameF; rw [show same (Fld.mk c.to f.kind).name f.name = same c.to f.name from rfl, same_symm, hn]; rfl)]; simp
  | widen k f k1 g1 g2 g3 g4 =>
    have hlt := (List.getElem?_eq_some_iff.1 g2).1
    rw [allSame_ne (i := k) (a := ⟨f.name, 1⟩) (b := f) (by show (t.fields.set k _)[k]? = _; rw [List.getElem?_set]; simp [hlt]) g2 (by unfold sameF; rw [show ((Fld.mk f.name 1).kind == f.kind) = false by rw [g4]; rfl]; simp)]; simp
end Go.AL
namespace Go.AL
set_option linter.unusedVariables false
set_option linter.unusedSimpArgs false
theorem back_1 {c : Chg} {f : ByteArray} (h1 : (c.kind == 3) = true) (h2 : same f c.to = true) : backX c f = (c.fld, true) := by unfold backX; rw [h1, h2]; rfl
theorem back_2 {c : Chg} {f : ByteArray} (h : (c.kind == 3) = false ∨ same f c.to = false) (h3 : (c.kind == 1) = true) (h4 : same f c.fld = true) : backX c f = (nul, false) := by
  unfold backX
  rcases h with h | h <;> rw [h, h3, h4] <;> simp
theorem back_3 {c : Chg} {f : ByteArray} (h : (c.kind == 3) = false ∨ same f c.to = false) (h3 : (c.kind == 1) = false ∨ same f c.fld = false) : backX c f = (f, true) := by
  unfold backX
  rcases h with h | h <;> rcases h3 with h3 | h3 <;> rw [h, h3] <;> simp
theorem del_take {α : Type} {enc : α → List D} {l : List α} {k m : Nat} (hm : l.length = m + 1) (hk : k < l.length) : (delX (l.map enc) k (k + 1)).take m = (l.eraseIdx k).map enc := by
  have := delX_take (xs := l.map enc) (l := k) (r := k + 1) (Nat.le_succ k) (by simp; omega)
  rw [List.length_map, show k + (l.length - (k + 1)) = m by omega] at this
  rw [this, List.eraseIdx_eq_take_drop_succ, List.map_append, List.map_take, List.map_drop]
theorem evS_ty {a b : Ev} (h : (!(a.ty.toList == b.ty.toList)) = true) : sameEv a b = false := by
  have : same a.ty b.ty = false := by simpa [same] using h
  simp [sameEv, this]
theorem evS_ts {a b : Ev} (h : (a.ts != b.ts) = true) : sameEv a b = false := by
  have : (a.ts == b.ts) = false := by simpa using h
  simp [sameEv, this]
theorem evS_len {a b : Ev} (h : a.vals.length ≠ b.vals.length) : sameEv a b = false := by simp [sameEv, allSame_len h]
theorem evS_val {a b : Ev} {i : Nat} {x y : Vl} (hx : a.vals[i]? = some x) (hy : b.vals[i]? = some y) (h : sameV x y = false) : sameEv a b = false := by simp [sameEv, allSame_ne hx hy h]
theorem evS_ok {a b : Ev} (h1 : (!(a.ty.toList == b.ty.toList)) = false) (h2 : (a.ts != b.ts) = false) (h3 : a.vals.length = b.vals.length) (hp : ∀ (j : Nat) (u v : Vl), a.vals[j]? = some u → b.vals[j]? = some v → sameV u v = true) : sameEv a b = true := by
  have g1 : same a.ty b.ty = true := by simpa [same] using h1
  have g2 : (a.ts == b.ts) = true := by simpa using h2
  simp [sameEv, g1, g2, allSame_all h3 (fun j a b _ => hp j a b)]
end Go.AL
namespace Go.AL
set_option linter.unusedVariables false
set_option linter.unusedSimpArgs false
theorem bad_no {c : Chg} (h : badC c = false) : 1 ≤ c.kind ∧ c.kind ≤ 5 ∧ isName c.ty = true := by
  unfold badC at h
  simp only [Bool.or_eq_false_iff, decide_eq_false_iff_not, Bool.not_eq_false'] at h
  exact ⟨by omega, by omega, h.2.2.1⟩
theorem apply_done {s a : List Ty} {c : Chg} (h : applyX s c = (a, 0)) : 1 ≤ c.kind ∧ c.kind ≤ 5 ∧ isName c.ty = true ∧
    ((c.kind = 5 ∧ (findT s c.ty).2 = false ∧ s.length < 5 ∧ a = insX s c.ty) ∨
     (c.kind ≠ 5 ∧ ∃ (i : Nat) (t t' : Ty), typeIdx s c.ty = (i : Int) ∧ s[i]? = some t ∧ t.name = c.ty ∧ (∀ (j : Nat) (u : Ty), j < i → s[j]? = some u → same u.name c.ty = false) ∧ Done t c t' ∧ a = s.set i t')) := by
  unfold applyX at h
  cases hb : badC c with
  | true => rw [hb] at h; simp at h
  | false =>
    obtain ⟨h1, h2, h3⟩ := bad_no hb
    refine ⟨h1, h2, h3, ?_⟩
    rw [hb] at h
    simp only [cond_false] at h
    by_cases k5 : c.kind = 5
    · left
      rw [show (c.kind == 5) = true by simp [k5]] at h
      simp only [cond_true, addX] at h
      cases hf : (findT s c.ty).2 with
      | true => rw [hf] at h; simp at h
      | false =>
        rw [hf] at h
        simp only [cond_false] at h
        cases hl : decide ((s.length : Int) ≥ 5) with
        | true => rw [hl] at h; simp at h
        | false =>
          rw [hl] at h
          simp only [cond_false, Prod.mk.injEq, and_true] at h
          simp at hl
          exact ⟨k5, rfl, by omega, h.symm⟩
    · right
      refine ⟨k5, ?_⟩
      rw [show (c.kind == 5) = false by simpa using k5] at h
      simp only [cond_false] at h
      rcases idx_cases (fun t : Ty => same t.name c.ty) s with ⟨i, t, e1, e2, e3, e4⟩ | ⟨e1, _⟩
      · have e1' : typeIdx s c.ty = (i : Int) := e1
        rw [e1'] at h
        rw [show decide ((i : Int) < 0) = false by simp] at h
        simp only [cond_false, Int.toNat_natCast, e2] at h
        cases hq : ((changeT t c).2 != 0) with
        | true =>
          rw [hq] at h
          simp only [cond_true, Prod.mk.injEq] at h
          rw [h.2] at hq; simp at hq
        | false =>
          rw [hq] at h
          simp only [cond_false, Prod.mk.injEq, and_true] at h
          have hc : changeT t c = ((changeT t c).1, 0) := by
            have : (changeT t c).2 = 0 := by simpa using hq
            rw [← this]
          exact ⟨i, t, (changeT t c).1, e1', e2, same_eq e3, e4, change_done k5 h1 h2 hc, h.symm⟩
      · have e1' : typeIdx s c.ty = -1 := e1
        rw [e1'] at h
        simp at h
theorem names_set {s : List Ty} {i : Nat} {t t' : Ty} (h : s[i]? = some t) (hn : t'.name = t.name) : (s.set i t').map (·.name) = s.map (·.name) := by
  apply List.ext_getElem?
  intro q
  simp only [List.getElem?_map, List.getElem?_set]
  split
  · rename_i hq
    subst hq
    have hlt := (List.getElem?_eq_some_iff.1 h).1
    rw [if_pos hlt, h]
    simp [hn]
  · rfl
theorem set_right {s : List Ty} {i : Nat} {t t' : Ty} (hs : isSchema s = true) (h : s[i]? = some t) (hn : t'.name = t.name) (ht : isType t' = true) : isSchema (s.set i t') = true := by
  unfold isSchema at hs ⊢
  simp only [Bool.and_eq_true, decide_eq_true_eq] at hs ⊢
  obtain ⟨⟨h1, h2⟩, h3⟩ := hs
  refine ⟨⟨?_, by simpa using h2⟩, by rw [names_set h hn]; exact h3⟩
  rw [List.all_eq_true] at h1 ⊢
  intro x hx
  rcases List.mem_or_eq_of_mem_set hx with hx | rfl
  · exact h1 x hx
  · exact ht
theorem insX_nil (nm : ByteArray) : insX [] nm = [⟨nm, []⟩] := rfl
theorem insX_cons (t : Ty) (s : List Ty) (nm : ByteArray) : insX (t :: s) nm = bif less t.name nm then t :: insX s nm else ⟨nm, []⟩ :: t :: s := by
  unfold insX posX
  rw [List.takeWhile_cons]
  cases h : less t.name nm with
  | true => simp
  | false => simp
theorem rise_mk {x : ByteArray} {l : List ByteArray} (h : ∀ y, l.head? = some y → Op.bytesLess x.toList y.toList = true) (hl : rise l = true) : rise (x :: l) = true := by
  cases l with
  | nil => rfl
  | cons y l => simp only [rise, h y rfl, hl, Bool.and_self]
theorem ins_rise (nm : ByteArray) : ∀ {s : List Ty}, rise (s.map (·.name)) = true → (∀ t ∈ s, same t.name nm = false) → rise ((insX s nm).map (·.name)) = true
  | [], _, _ => rfl
  | t :: s, h, hn => by
    rw [insX_cons]
    cases hl : less t.name nm with
    | true =>
      simp only [cond_true, List.map_cons]
      refine rise_mk (fun y hy => ?_) (ins_rise nm (rise_tail h) fun u hu => hn u (by simp [hu]))
      cases s with
      | nil =>
        simp only [insX_nil, List.map_cons, List.map_nil, List.head?_cons, Option.some.injEq] at hy
        subst hy; exact hl
      | cons u s =>
        rw [insX_cons] at hy
        cases hu : less u.name nm with
        | true =>
          rw [hu] at hy
          simp only [cond_true, List.map_cons, List.head?_cons, Option.some.injEq] at hy
          subst hy
          simp only [List.map_cons, rise, Bool.and_eq_true] at h
          exact h.1
        | false =>
          rw [hu] at hy
          simp only [cond_false, List.map_cons, List.head?_cons, Option.some.injEq] at hy
          subst hy; exact hl
    | false =>
      simp only [cond_false, List.map_cons]
      refine rise_mk (fun y hy => ?_) h
      simp only [List.head?_cons, Option.some.injEq] at hy
      subst hy
      have hne := hn t (by simp)
      exact less_total hne hl
theorem ins_len (s : List Ty) (nm : ByteArray) : (insX s nm).length = s.length + 1 := by
  unfold insX
  have : posX s nm ≤ s.length := (List.takeWhile_sublist _).length_le
  simp; omega
theorem ins_mem {s : List Ty} {nm : ByteArray} {t : Ty} (h : t ∈ insX s nm) : t ∈ s ∨ t = ⟨nm, []⟩ := by
  unfold insX at h
  rcases List.mem_append.1 h with h | h
  · exact .inl (List.mem_of_mem_take h)
  · rcases List.mem_cons.1 h with h | h
    · exact .inr h
    · exact .inl (List.mem_of_mem_drop h)
theorem find_none {s : List Ty} {nm : ByteArray} (h : (findT s nm).2 = false) : ∀ t ∈ s, same t.name nm = false := by
  rw [find_any, List.any_eq_false] at h
  intro t ht
  simpa using h t ht
theorem new_type {nm : ByteArray} (h : isName nm = true) : isType ⟨nm, []⟩ = true :=
  TypeOk.is ⟨h, by simp, by simp, by simp⟩
theorem ins_right {s : List Ty} {nm : ByteArray} (hs : isSchema s = true) (hf : (findT s nm).2 = false) (hl : s.length < 5) (hn : isName nm = true) : isSchema (insX s nm) = true := by
  have h3 := sch_rise hs
  unfold isSchema at hs ⊢
  simp only [Bool.and_eq_true, decide_eq_true_eq] at hs ⊢
  refine ⟨⟨?_, by rw [ins_len]; omega⟩, ins_rise nm h3 (find_none hf)⟩
  have h1 := hs.1.1
  rw [List.all_eq_true] at h1 ⊢
  intro x hx
  rcases ins_mem hx with hx | rfl
  · exact h1 x hx
  · exact new_type hn
theorem apply_right {s a : List Ty} {c : Chg} (hs : isSchema s = true) (h : applyX s c = (a, 0)) : isSchema a = true ∧ sameS a s = false := by
  obtain ⟨_, _, hn, hh⟩ := apply_done h
  rcases hh with ⟨_, hf, hl, rfl⟩ | ⟨_, i, t, t', _, h2, _, _, hd, rfl⟩
  · exact ⟨ins_right hs hf hl hn, allSame_len (by rw [ins_len]; omega)⟩
  · have ho := done_ok hd (TypeOk.of (sch_type hs h2))
    refine ⟨set_right hs h2 (done_name hd) ho.is, ?_⟩
    have hlt := (List.getElem?_eq_some_iff.1 h2).1
    exact allSame_ne (i := i) (a := t') (b := t) (by rw [List.getElem?_set]; simp [hlt]) h2 (done_diff hd)
theorem find_set_ne {nm : ByteArray} {t' : Ty} : ∀ {s : List Ty} {i : Nat} {t : Ty}, s[i]? = some t → t'.name = t.name → same t.name nm = false → findT (s.set i t') nm = findT s nm := by
  intro s i t h hn hne
  have : (s.set i t').find? (fun u => same u.name nm) = s.find? (fun u => same u.name nm) := by
    induction s generalizing i with
    | nil => simp
    | cons u s ih =>
      cases i with
      | zero =>
        simp at h; subst h
        simp only [List.set_cons_zero, List.find?_cons, hn, hne]
      | succ i =>
        simp only [List.set_cons_succ, List.find?_cons]
        rw [ih (by simpa using h)]
  unfold findT
  rw [this]
theorem find_set_eq {s : List Ty} {i : Nat} {t t' : Ty} {nm : ByteArray} (h : s[i]? = some t) (hn : t'.name = t.name) (he : t.name = nm) (hp : ∀ (j : Nat) (u : Ty), j < i → s[j]? = some u → same u.name nm = false) : findT (s.set i t') nm = (t', true) := by
  have hlt := (List.getElem?_eq_some_iff.1 h).1
  refine findT_at (i := i) (by rw [List.getElem?_set]; simp [hlt]) (by rw [hn, he]; exact same_refl _) fun j u hj hu => ?_
  rw [List.getElem?_set, if_neg (by omega)] at hu
  exact hp j u hj hu
theorem find_at {s : List Ty} {i : Nat} {t : Ty} {nm : ByteArray} (h : s[i]? = some t) (he : t.name = nm) (hp : ∀ (j : Nat) (u : Ty), j < i → s[j]? = some u → same u.name nm = false) : findT s nm = (t, true) :=
  findT_at h (by rw [he]; exact same_refl _) hp
theorem find_ins_ne {s : List Ty} {ty nm : ByteArray} (hne : same ty nm = false) : findT (insX s ty) nm = findT s nm := by
  have : (insX s ty).find? (fun u => same u.name nm) = s.find? (fun u => same u.name nm) := by
    unfold insX
    rw [List.find?_append, List.find?_cons]
    simp only [hne]
    conv => rhs; rw [← List.take_append_drop (posX s ty) s]
    rw [List.find?_append]
  unfold findT
  rw [this]
theorem evt_all {s : List Ty} {e : Ev} (h : evtR s e = 0) : (findT s e.ty).2 = true ∧ ¬ e.ts < 0 ∧ ¬ e.ts > 1073741824 ∧ e.vals.length = (findT s e.ty).1.fields.length ∧ (∀ v ∈ e.vals, isVal v = true) ∧ kindsAs e.vals (findT s e.ty).1.fields = true := by
  obtain ⟨h1, h2, h3, h4⟩ := evt_facts h
  have hq : (decide (e.ts < 0) || (decide (e.ts > 1073741824) || ((e.vals.length : Int) != ((findT s e.ty).1.fields.length : Int)))) = false := by
    cases hq : (decide (e.ts < 0) || (decide (e.ts > 1073741824) || ((e.vals.length : Int) != ((findT s e.ty).1.fields.length : Int)))) with
    | false => rfl
    | true => rw [evt_form h1 hq] at h; cases h
  simp only [Bool.or_eq_false_iff, decide_eq_false_iff_not] at hq
  exact ⟨h1, hq.1, hq.2.1, h2, h3, h4⟩
theorem evt_of {s : List Ty} {e : Ev} (h1 : (findT s e.ty).2 = true) (h2 : ¬ e.ts < 0) (h3 : ¬ e.ts > 1073741824) (h4 : e.vals.length = (findT s e.ty).1.fields.length) (h5 : ∀ v ∈ e.vals, isVal v = true) (h6 : kindsAs e.vals (findT s e.ty).1.fields = true) : evtR s e = 0 :=
  evt_yes h1 (by simp [h4]; omega) (List.all_eq_true.2 h5) h6
def Fits (vs : List Vl) (t : Ty) : Prop := vs.length = t.fields.length ∧ (∀ v ∈ vs, isVal v = true) ∧ ∀ (i : Nat) (v : Vl) (f : Fld), vs[i]? = some v → t.fields[i]? = some f → v.k = f.kind
theorem fits_of {vs : List Vl} {t : Ty} (h1 : vs.length = t.fields.length) (h2 : ∀ v ∈ vs, isVal v = true) (h3 : kindsAs vs t.fields = true) : Fits vs t := ⟨h1, h2, fun i v f hv hf => kindsAs_at h3 hv hf⟩
theorem fits_kinds {vs : List Vl} {t : Ty} (h : Fits vs t) : kindsAs vs t.fields = true := kindsAs_yes h.1 fun i v f hv hf => by simp [h.2.2 i v f hv hf]
theorem vals_fit {t t' : Ty} {c : Chg} {vs : List Vl} (h : Done t c t') (hf : Fits vs t) : Fits (valsX t c vs) t' := by
  obtain ⟨h1, h2, h3⟩ := hf
  unfold valsX
  cases h with
  | add k1 g1 g2 g3 g4 =>
    rw [show (c.kind == 1) = true by simp [k1]]
    simp only [cond_true]
    refine ⟨by simp [h1], fun v hv => ?_, fun i v f hv hfl => ?_⟩
    · rcases List.mem_append.1 hv with hv | hv
      · exact h2 v hv
      · simp at hv; subst hv; exact g2
    · simp only [List.getElem?_append] at hv hfl
      rw [← h1] at hfl
      split at hv
      · rename_i hi
        rw [if_pos hi] at hfl
        exact h3 i v f hv hfl
      · rename_i hi
        rw [if_neg hi] at hfl
        have : i - vs.length = 0 := by
          rcases Nat.eq_zero_or_pos (i - vs.length) with e | e
          · exact e
          · rw [List.getElem?_eq_none (by simp; omega)] at hv; cases hv
        rw [this] at hv hfl
        cases hv; cases hfl; rfl
  | drop k f k1 g1 g2 g3 =>
    have hlt := (List.getElem?_eq_some_iff.1 g2).1
    rw [show (c.kind == 1) = false by simp [k1], g1, show (decide ((k : Int) < 0) || decide ((k : Int) ≥ (vs.length : Int))) = false by simp; omega, show (c.kind == 2) = true by simp [k1]]
    simp only [cond_true, cond_false, Int.toNat_natCast]
    refine ⟨by show (vs.eraseIdx k).length = (t.fields.eraseIdx k).length; rw [List.length_eraseIdx, List.length_eraseIdx, h1], fun v hv => h2 v (List.mem_of_mem_eraseIdx hv), fun i v q hv hq => ?_⟩
    have hq : (t.fields.eraseIdx k)[i]? = some q := hq
    rw [List.getElem?_eraseIdx] at hv hq
    split at hv
    · rename_i hi; rw [if_pos hi] at hq; exact h3 i v q hv hq
    · rename_i hi; rw [if_neg hi] at hq; exact h3 _ v q hv hq
  | rename k f k1 g1 g2 g3 g4 g5 =>
    have hlt := (List.getElem?_eq_some_iff.1 g2).1
    rw [show (c.kind == 1) = false by simp [k1], g1, show (decide ((k : Int) < 0) || decide ((k : Int) ≥ (vs.length : Int))) = false by simp; omega, show (c.kind == 2) = false by simp [k1], show (c.kind == 4) = false by simp [k1]]
    simp only [cond_false]
    refine ⟨by simpa using h1, h2, fun i v q hv hq => ?_⟩
    have hq : (t.fields.set k ⟨c.to, f.kind⟩)[i]? = some q := hq
    rw [List.getElem?_set] at hq
    by_cases hi : k = i
    · subst hi
      rw [if_pos rfl, if_pos hlt] at hq
      cases hq; exact h3 _ v f hv g2
    · rw [if_neg hi] at hq
      exact h3 i v q hv hq
  | widen k f k1 g1 g2 g3 g4 =>
    have hlt := (List.getElem?_eq_some_iff.1 g2).1
    rw [show (c.kind == 1) = false by simp [k1], g1, show (decide ((k : Int) < 0) || decide ((k : Int) ≥ (vs.length : Int))) = false by simp; omega, show (c.kind == 2) = false by simp [k1], show (c.kind == 4) = true by simp [k1]]
    simp only [cond_true, cond_false, Int.toNat_natCast]
    refine ⟨by simpa using h1, fun v hv => ?_, fun i v q hv hq => ?_⟩
    · rcases List.mem_or_eq_of_mem_set hv with hv | rfl
      · exact h2 v hv
      · unfold isVal; exact same_refl nul
    · have hq : (t.fields.set k ⟨f.name, 1⟩)[i]? = some q := hq
      rw [List.getElem?_set] at hq hv
      by_cases hi : k = i
      · subst hi
        rw [if_pos rfl, if_pos hlt] at hq
        rw [if_pos rfl, if_pos (by omega)] at hv
        cases hq; cases hv; rfl
      · rw [if_neg hi] at hq hv
        exact h3 i v q hv hq
theorem apply_ok_iff (s : List Ty) (c : Chg) (h : (applyX s c).2 = 0) : applyX s c = ((applyX s c).1, 0) := by rw [← h]
theorem move_cases {s a : List Ty} {c : Chg} {e : Ev} (h : applyX s c = (a, 0)) (he : evtR s e = 0) :
    (moveX s c e = e ∧ findT a e.ty = findT s e.ty ∧ same e.ty c.ty = false) ∨
    (∃ t t', findT s e.ty = (t, true) ∧ findT a e.ty = (t', true) ∧ Done t c t' ∧ same e.ty c.ty = true ∧ c.kind ≠ 5 ∧ moveX s c e = ⟨e.ty, e.ts, valsX t c e.vals⟩) := by
  obtain ⟨_, _, hn, hh⟩ := apply_done h
  obtain ⟨f1, _⟩ := evt_all he
  have hap : ((applyX s c).2 != 0) = false := by rw [h]; rfl
  have hev : (evtR s e != 0) = false := by rw [he]; rfl
  cases hty : same e.ty c.ty with
  | false =>
    left
    refine ⟨by unfold moveX; rw [hap, hev, hty]; rfl, ?_, rfl⟩
    rcases hh with ⟨_, _, _, rfl⟩ | ⟨_, i, t, t', _, h2, h3, _, hd, rfl⟩
    · exact find_ins_ne (by rw [same_symm]; exact hty)
    · exact find_set_ne h2 (done_name hd) (by rw [h3, same_symm]; exact hty)
  | true =>
    right
    have ety := same_eq hty
    rcases hh with ⟨_, hf, _, _⟩ | ⟨k5, i, t, t', _, h2, h3, h4, hd, rfl⟩
    · rw [ety, hf] at f1; cases f1
    · have hs := find_at h2 h3 h4
      refine ⟨t, t', by rw [ety]; exact hs, by rw [ety]; exact find_set_eq h2 (done_name hd) h3 h4, hd, rfl, k5, ?_⟩
      unfold moveX
      rw [hap, hev, hty, show (c.kind == 5) = false by simpa using k5, ety, hs]; rfl
theorem move_right {s a : List Ty} {c : Chg} {e : Ev} (h : applyX s c = (a, 0)) (he : evtR s e = 0) : evtR a (moveX s c e) = 0 := by
  obtain ⟨f1, f2, f3, f4, f5, f6⟩ := evt_all he
  rcases move_cases h he with ⟨h1, h2, _⟩ | ⟨t, t', h1, h2, hd, _, _, h3⟩
  · rw [h1]; exact evt_of (by rw [h2]; exact f1) f2 f3 (by rw [h2]; exact f4) f5 (by rw [h2]; exact f6)
  · rw [h1] at f4 f6
    have hf := vals_fit hd (fits_of f4 f5 f6)
    rw [h3]
    refine evt_of (e := ⟨e.ty, e.ts, valsX t c e.vals⟩) (by show (findT a e.ty).2 = true; rw [h2]) f2 f3 ?_ hf.2.1 ?_
    · show (valsX t c e.vals).length = (findT a e.ty).1.fields.length; rw [h2]; exact hf.1
    · show kindsAs (valsX t c e.vals) (findT a e.ty).1.fields = true; rw [h2]; exact fits_kinds hf
end Go.AL
namespace Go.AL
set_option linter.unusedVariables false
set_option linter.unusedSimpArgs false
theorem find_type {s : List Ty} {nm : ByteArray} {t : Ty} (hs : isSchema s = true) (h : findT s nm = (t, true)) : TypeOk t := by
  have hd : decide (idx (fun t : Ty => same t.name nm) s < 0) = false := by
    cases hq : decide (idx (fun t : Ty => same t.name nm) s < 0) with
    | false => rfl
    | true => rw [find_neg hq] at h; cases h
  obtain ⟨i, a, _, h2, h3⟩ := find_pos hd
  rw [h] at h3
  cases h3
  exact TypeOk.of (sch_type hs h2)
theorem type_at {s : List Ty} {i : Nat} {t : Ty} (hs : isSchema s = true) (h : s[i]? = some t) : typeIdx s t.name = (i : Int) := by
  refine idx_some h (same_refl _) fun j u hj hu => ?_
  have := rise_lt (sch_rise hs) hj (a := u.name) (b := t.name) (by simp [hu]) (by simp [h])
  exact less_same this
end Go.AL
namespace Go.AL
set_option linter.unusedVariables false
set_option linter.unusedSimpArgs false
theorem sT_name {x y : Ty} (h : (!(x.name.toList == y.name.toList)) = true) : sameT x y = false := by
  unfold sameT same
  rw [show (x.name.toList == y.name.toList) = false by simpa using h]; rfl
theorem sT_len {x y : Ty} (h : x.fields.length ≠ y.fields.length) : sameT x y = false := by
  unfold sameT
  rw [allSame_len h, Bool.and_false]
theorem sT_fld {x y : Ty} {k : Nat} {f g : Fld} (hf : x.fields[k]? = some f) (hg : y.fields[k]? = some g) (h : sameF f g = false) : sameT x y = false := by
  unfold sameT
  rw [allSame_ne hf hg h, Bool.and_false]
theorem sT_ok {x y : Ty} (h : (!(x.name.toList == y.name.toList)) = false) (hl : x.fields.length = y.fields.length) (hp : ∀ (k : Nat) (f g : Fld), x.fields[k]? = some f → y.fields[k]? = some g → sameF f g = true) : sameT x y = true := by
  unfold sameT same
  rw [show (x.name.toList == y.name.toList) = true by simpa using h, allSame_all hl fun k f g _ hf hg => hp k f g hf hg]; rfl
theorem sS_len {a b : List Ty} (h : a.length ≠ b.length) : sameS a b = false := allSame_len h
theorem sS_ty {a b : List Ty} {i : Nat} {x y : Ty} (hx : a[i]? = some x) (hy : b[i]? = some y) (h : sameT x y = false) : sameS a b = false := allSame_ne hx hy h
theorem sS_ok {a b : List Ty} (hl : a.length = b.length) (hp : ∀ (i : Nat) (x y : Ty), a[i]? = some x → b[i]? = some y → sameT x y = true) : sameS a b = true := allSame_all hl fun i x y _ hx hy => hp i x y hx hy
theorem aS_rf {α : Type} {f : α → α → Bool} (h : ∀ a, f a a = true) : ∀ l : List α, allSame f l l = true
  | [] => rfl
  | a :: l => by simp [allSame, h a, aS_rf h l]
theorem sS_refl (s : List Ty) : sameS s s = true := aS_rf (fun t => by
  unfold sameT
  rw [same_refl, aS_rf fun f => by simp [sameF, same_refl]]; rfl) s
theorem evt_few {s : List Ty} {e : Ev} (hs : isSchema s = true) (he : evtR s e = 0) : e.vals.length ≤ 5 := by
  obtain ⟨f1, f2, f3, f4, f5, f6⟩ := evt_all he
  have := (find_type hs (show findT s e.ty = ((findT s e.ty).1, true) by rw [← f1])).few
  omega
def kZ : ByteArray := ⟨#[122]⟩
def oneS : List Ty := [⟨kA, [⟨kX, 3⟩]⟩]
def oneC1 : Chg := ⟨1, kA, kY, nul, ⟨1, 4, nul⟩⟩
def oneC2 : Chg := ⟨2, kA, kY, nul, ⟨0, 0, nul⟩⟩
def oneC3 : Chg := ⟨4, kA, kY, nul, ⟨0, 0, nul⟩⟩
def oneC4 : Chg := ⟨4, kA, kX, nul, ⟨0, 0, nul⟩⟩
def oneC5 : Chg := ⟨3, kA, kX, kZ, ⟨0, 0, nul⟩⟩
def oneS1 : List Ty := [⟨kA, [⟨kX, 3⟩, ⟨kY, 1⟩]⟩]
def oneE : Ev := ⟨kA, 0, [⟨3, 1, nul⟩]⟩
theorem one_s : isSchema oneS = true := by decide +kernel
theorem one_s1 : isSchema oneS1 = true := by decide +kernel
theorem one_a1 : applyX oneS oneC1 = (oneS1, 0) := by kernel_rfl
theorem one_a2 : applyX oneS oneC2 = (oneS, 13) := by kernel_rfl
theorem one_a3 : applyX oneS1 oneC3 = (oneS1, 14) := by kernel_rfl
theorem one_m : moveX oneS oneC4 oneE = ⟨kA, 0, [⟨1, 1, nul⟩]⟩ := by kernel_rfl
theorem one_b : backX oneC5 kZ = (kX, true) := by kernel_rfl
end Go.AL
namespace Go.AL
set_option linter.unusedVariables false
set_option linter.unusedSimpArgs false
end Go.AL
