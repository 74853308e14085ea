/- Parts of an abstract logic over the kit's walks, and walks in it: Rap, Rcp. -/
import Derived.Test.YtchpllgeahnmmaaDoorCp
import Derived.Test.YtchpllgeahnmmaaDoorAe
namespace Go.AL
set_option linter.unusedVariables false
set_option linter.unusedSimpArgs false
def atX (s : List Ty) (nm : ByteArray) (i : Nat) : Int := bif decide (typeIdx s nm < (i : Int)) then typeIdx s nm else -1
theorem typeIdx_cases (s : List Ty) (nm : ByteArray) : (∃ (k : Nat) (t : Ty), typeIdx s nm = (k : Int) ∧ s[k]? = some t ∧ same t.name nm = true) ∨ (typeIdx s nm = -1 ∧ ∀ t ∈ s, same t.name nm = false) := by
  rcases idx_cases (fun t : Ty => same t.name nm) s with ⟨k, t, h1, h2, h3, _⟩ | ⟨h1, h2⟩
  · exact .inl ⟨k, t, h1, h2, h3⟩
  · exact .inr ⟨h1, h2⟩
theorem atX_0 (s : List Ty) (nm : ByteArray) : atX s nm 0 = -1 := by
  unfold atX
  rcases typeIdx_cases s nm with ⟨k, t, h1, _⟩ | ⟨h1, _⟩
  · rw [h1, show decide ((k : Int) < ((0 : Nat) : Int)) = false by simp]; rfl
  · rw [h1]; rfl
theorem atX_yes {s : List Ty} {nm : ByteArray} {i : Nat} {t : Ty} (hs : isSchema s = true) (h : s[i]? = some t) (hn : same t.name nm = true) : atX s nm (i + 1) = (i : Int) := by
  have e := same_eq hn
  subst e
  unfold atX
  rw [type_at hs h, show decide ((i : Int) < ((i + 1 : Nat) : Int)) = true by simp; omega]; rfl
theorem atX_no {s : List Ty} {nm : ByteArray} {i : Nat} {t : Ty} (h : s[i]? = some t) (hn : same t.name nm = false) : atX s nm (i + 1) = atX s nm i := by
  unfold atX
  rcases typeIdx_cases s nm with ⟨k, u, h1, h2, h3⟩ | ⟨h1, _⟩
  · rw [h1]
    have hk : k ≠ i := fun e => by subst e; rw [h] at h2; cases h2; rw [hn] at h3; cases h3
    by_cases hlt : k < i
    · rw [show decide ((k : Int) < ((i + 1 : Nat) : Int)) = true by simp; omega, show decide ((k : Int) < (i : Int)) = true by simp; omega]
    · rw [show decide ((k : Int) < ((i + 1 : Nat) : Int)) = false by simp; omega, show decide ((k : Int) < (i : Int)) = false by simp; omega]
  · rw [h1, show decide ((-1 : Int) < ((i + 1 : Nat) : Int)) = true by simp; omega, show decide ((-1 : Int) < (i : Int)) = true by simp; omega]
theorem atX_end (s : List Ty) (nm : ByteArray) : atX s nm s.length = typeIdx s nm := by
  unfold atX
  rcases typeIdx_cases s nm with ⟨k, t, h1, h2, _⟩ | ⟨h1, _⟩
  · have := (List.getElem?_eq_some_iff.1 h2).1
    rw [h1, show decide ((k : Int) < (s.length : Int)) = true by simp; omega]; rfl
  · rw [h1, show decide ((-1 : Int) < (s.length : Int)) = true by simp; omega]; rfl
theorem typeIdx_find {s : List Ty} {nm : ByteArray} : (findT s nm).2 = decide (typeIdx s nm ≥ 0) := by
  rcases idx_cases (fun t : Ty => same t.name nm) s with ⟨k, t, h1, h2, h3, h4⟩ | ⟨h1, h2⟩
  · rw [findT_at h2 h3 h4, show typeIdx s nm = (k : Int) from h1]; simp
  · rw [findT_no fun j a _ ha => h2 a (List.mem_of_getElem? ha), show typeIdx s nm = -1 from h1]; rfl
def voidV : Vl := ⟨0, 0, nul⟩
theorem own_iff {c : Chg} (h1 : decide (c.kind < 1) = false) (h5 : decide (c.kind > 5) = false) :
    sameC c (ownC c) = (((c.kind == 1) || sameV c.dv voidV) && (((c.kind == 3) || same c.to nul) && (!(c.kind == 5) || same c.fld nul))) := by
  simp at h1 h5
  have hk : c.kind = 1 ∨ c.kind = 2 ∨ c.kind = 3 ∨ c.kind = 4 ∨ c.kind = 5 := by omega
  unfold sameC ownC sameV voidV
  rcases hk with h | h | h | h | h <;> rw [h] <;> simp [same_refl, h] <;> (try rfl)
  all_goals
    generalize (c.dv.k == 0) = a
    generalize (c.dv.n == 0) = b
    generalize same c.dv.s nul = d
    generalize same c.to nul = e
    generalize same c.fld nul = f
    revert a b d e f
    decide
theorem rm_place {s a : List Ty} {c : Chg} {e : Ev} (h : applyX s c = (a, 0)) (he : evtR s e = 0) (ht : same e.ty c.ty = true) (hk : c.kind = 2 ∨ c.kind = 4) :
    ∃ (k : Nat) (v : Vl), fieldAt (findT s e.ty).1 c.fld = (k : Int) ∧ e.vals[k]? = some v := by
  obtain ⟨f1, f2, f3, f4, f5, f6⟩ := evt_all he
  rcases move_cases h he with ⟨_, _, h3⟩ | ⟨t, t', h1, h2, hd, _, _, h3⟩
  · rw [ht] at h3; cases h3
  · rw [h1] at f4 ⊢
    cases hd with
    | add k1 => omega
    | drop k f k1 g1 g2 g3 => exact ⟨k, e.vals[k]'(by have := (List.getElem?_eq_some_iff.1 g2).1; simp only at f4; omega), g1, List.getElem?_eq_getElem _⟩
    | rename k f k1 => omega
    | widen k f k1 g1 g2 g3 g4 => exact ⟨k, e.vals[k]'(by have := (List.getElem?_eq_some_iff.1 g2).1; simp only at f4; omega), g1, List.getElem?_eq_getElem _⟩
theorem rm_to {s a : List Ty} {c : Chg} {e : Ev} (h : applyX s c = (a, 0)) (he : evtR s e = 0) (ht : same e.ty c.ty = true) : (c.kind == 5) = false ∧ moveX s c e = ⟨e.ty, e.ts, valsX (findT s e.ty).1 c e.vals⟩ := by
  rcases move_cases h he with ⟨_, _, h3⟩ | ⟨t, t', h1, h2, hd, _, k5, h3⟩
  · rw [ht] at h3; cases h3
  · exact ⟨by simpa using k5, by rw [h1, h3]⟩
theorem rm_find {s : List Ty} {e : Ev} (h : (findT s e.ty).2 = false) : (evtR s e != 0) = true := by
  rw [evt_none h]; rfl
theorem rb_1 {c : Chg} (q1 : decide (c.kind < 1) = false) (q2 : decide (c.kind > 5) = false) (b1 : (c.kind != 1) = true) (b2 : (!sameV c.dv voidV) = true) : badC c = true := bc_4 (by
  rw [own_iff q1 q2]; simp at b1 b2; simp [b1, b2])
theorem rb_2 {c : Chg} (q1 : decide (c.kind < 1) = false) (q2 : decide (c.kind > 5) = false) (b1 : (c.kind != 3) = true) (b2 : (!(c.to.toList == nul.toList)) = true) : badC c = true := bc_4 (by
  have b2 : (!same c.to nul) = true := b2
  rw [own_iff q1 q2]; simp at b1 b2; simp [b1, b2])
theorem rb_3 {c : Chg} (q1 : decide (c.kind < 1) = false) (q2 : decide (c.kind > 5) = false) (b1 : (c.kind == 5) = true) (b2 : (!(c.fld.toList == nul.toList)) = true) : badC c = true := bc_4 (by
  have b2 : (!same c.fld nul) = true := b2
  rw [own_iff q1 q2]; simp at b1 b2; simp [b1, b2])
theorem rb_no {c : Chg} (q1 : decide (c.kind < 1) = false) (q2 : decide (c.kind > 5) = false) (q3 : (!isName c.ty) = false) (p1 : (c.kind != 1) = false ∨ (!sameV c.dv voidV) = false) (p2 : (c.kind != 3) = false ∨ (!(c.to.toList == nul.toList)) = false) (p3 : (c.kind == 5) = false ∨ (!(c.fld.toList == nul.toList)) = false) : badC c = false :=
  bc_0 q1 q2 q3 (by
    have p2 : (c.kind != 3) = false ∨ (!same c.to nul) = false := p2
    have p3 : (c.kind == 5) = false ∨ (!same c.fld nul) = false := p3
    rw [own_iff q1 q2]
    have a1 : ((c.kind == 1) || sameV c.dv voidV) = true := by rcases p1 with h | h <;> simp at h <;> simp [h]
    have a2 : ((c.kind == 3) || same c.to nul) = true := by rcases p2 with h | h <;> simp at h <;> simp [h]
    have a3 : (!(c.kind == 5) || same c.fld nul) = true := by rcases p3 with h | h <;> simp at h <;> simp [h]
    rw [a1, a2, a3]; rfl)
def addR (t : Ty) (c : Chg) (k : Int) : Int := bif !isName c.fld || !isVal c.dv then 10 else bif decide (k ≥ 0) then 13 else bif decide ((t.fields.length : Int) ≥ 5) then 12 else 0
theorem ch_add {t : Ty} {c : Chg} (k1 : (c.kind == 1) = true) : (changeT t c).2 = addR t c (fieldAt t c.fld) := by
  unfold changeT addR
  rw [k1]
  simp only [cond_true]
  cases (!isName c.fld || !isVal c.dv) with
  | true => rfl
  | false =>
    cases decide (fieldAt t c.fld ≥ 0) with
    | true => rfl
    | false => cases decide ((t.fields.length : Int) ≥ 5) <;> rfl
theorem ch_add0 {t : Ty} {c : Chg} (k1 : (c.kind == 1) = true) (h : (addR t c (fieldAt t c.fld) == 0) = true) : changeT t c = (⟨t.name, t.fields ++ [⟨c.fld, c.dv.k⟩]⟩, 0) := by
  unfold addR at h
  unfold changeT
  rw [k1]
  simp only [cond_true]
  cases h1 : (!isName c.fld || !isVal c.dv) with
  | true => rw [h1] at h; cases h
  | false =>
    rw [h1] at h
    cases h2 : decide (fieldAt t c.fld ≥ 0) with
    | true => rw [h2] at h; cases h
    | false =>
      rw [h2] at h
      cases h3 : decide ((t.fields.length : Int) ≥ 5) with
      | true => rw [h3] at h; cases h
      | false => rfl
theorem ch_err {t : Ty} {c : Chg} (h : ((changeT t c).2 != 0) = true) : (changeT t c).1 = t := by
  unfold changeT at h ⊢
  have hb : ∀ (b : Bool) (x y : Ty × Int), ((x.2 != 0) = true → x.1 = t) → ((y.2 != 0) = true → y.1 = t) → (((bif b then x else y).2 != 0) = true → (bif b then x else y).1 = t) := fun b x y h1 h2 => by cases b <;> assumption
  revert h
  repeat' (refine hb _ _ _ ?_ ?_)
  all_goals (intro h; first | rfl | (simp at h))
theorem ins_dles3 (s : List Ty) (nm : ByteArray) {k : Nat} (hk : k = posX s nm) : Dles (((s.map encT).take k).drop 0 ++ [[str nm, .lit (.slice none 0 0)]] ++ ((s.map encT).take (s.map encT).length).drop k).flatten ((insX s nm).map encT).flatten := by
  subst hk
  rw [List.take_length, List.drop_zero]
  exact ins_dles s nm
theorem cX_put {a b : List D} {nm : ByteArray} {x y : AV} {i : Nat} (ha : a.length = i * 2) : overwrite (cX a b nm x) (i * 2) [.d (str nm), y] = cX a b nm y := by
  unfold overwrite cX
  rw [← ha]
  simp [List.drop_append]
theorem AVles.rfl' : ∀ l : List AV, AVles l l
  | [] => .nil
  | x :: l => .cons (AVle.refl x) (AVles.rfl' l)
theorem cX_any (a b : List D) (nm : ByteArray) (x : AV) : AVles (cX a b nm x) (cX a b nm .any) := by
  unfold cX
  have h : ∀ l : List D, AVles (l.map AV.d ++ AV.d (str nm) :: x :: b.map AV.d) (l.map AV.d ++ AV.d (str nm) :: .any :: b.map AV.d) := by
    intro l
    induction l with
    | nil => exact .cons (AVle.refl _) (.cons (fun _ _ _ => trivial) (AVles.rfl' _))
    | cons y l ih => exact .cons (AVle.refl _) ih
  exact h a
theorem del_whole {l : List Fld} {k : Nat} (hk : k < l.length) : (delX (l.map encF) k (k + 1)).take (k + ((l.map encF).length - (k + 1))) = (l.eraseIdx k).map encF := by
  rw [delX_take (Nat.le_succ k) (by simp; omega), List.eraseIdx_eq_take_drop_succ, List.map_append, List.map_take, List.map_drop]
theorem del_wholeV {l : List Vl} {k : Nat} (hk : k < l.length) : (delX (l.map encV) k (k + 1)).take (k + ((l.map encV).length - (k + 1))) = (l.eraseIdx k).map encV := by
  rw [delX_take (Nat.le_succ k) (by simp; omega), List.eraseIdx_eq_take_drop_succ, List.map_append, List.map_take, List.map_drop]
theorem rb_kinds {c : Chg} (h : badC c = false) (k5 : (c.kind == 5) = false) (k1 : (c.kind == 1) = false) (k2 : (c.kind == 2) = false) (k3 : (c.kind == 3) = false) (k4 : (c.kind == 4) = false) : False := by
  unfold badC at h
  simp at h k1 k2 k3 k4 k5
  omega
theorem eq_zero_of {x : Int} (h : (x == 0) = true) : x = 0 := by simpa using h
theorem ne_zero_of {x : Int} (h : (x == 0) = false) : (x != 0) = true := by simpa using h
theorem vl_00 {t : Ty} {c : Chg} {vs : List Vl} (h1 : (c.kind == 1) = false) (h4 : (c.kind == 2) = false) (h : (c.kind == 4) = false) : valsX t c vs = vs := by
  unfold valsX
  rw [h1, h4, h]
  cases (decide (fieldAt t c.fld < 0) || decide (fieldAt t c.fld ≥ (vs.length : Int))) <;> rfl
end Go.AL
namespace Go.AL
set_option linter.unusedVariables false
set_option linter.unusedSimpArgs false
theorem finC_snoc {q : Nat} : ∀ {j : Nat} {s : List Ty} {t : Ty}, finC q j (s ++ [t]) = finC q j s ++ [.d (str t.name), if j + s.length = q then .row 70 else fldD t]
  | j, [], t => by simp [finC]
  | j, u :: s, t => by
    simp only [List.cons_append, finC]
    rw [finC_snoc (j := j + 1) (s := s)]
    rw [show j + 1 + s.length = j + (u :: s).length by simp; omega]
theorem finC_next {q i : Nat} {s : List Ty} {t : Ty} {x : AV} (h : s[i]? = some t) (hx : x = if i = q then .row 70 else fldD t) : finC q 0 (s.take i) ++ [.d (str t.name), x] = finC q 0 (s.take (i + 1)) := by
  have hl := (List.getElem?_eq_some_iff.1 h).1
  have e : s.take (i + 1) = s.take i ++ [t] := by
    rw [List.take_add_one, h]; rfl
  rw [e, finC_snoc, hx]
  rw [show 0 + (s.take i).length = i by simp; omega]
theorem finC_unk {q k : Nat} (hk : k ≠ 70) : ∀ {j : Nat} {s : List Ty}, (finC q j s).map (unk k) = finC q j s
  | j, [] => rfl
  | j, t :: s => by
    simp only [finC, List.map_cons]
    rw [finC_unk hk (j := j + 1) (s := s), unk_d]
    split
    · rw [show unk k (.row 70) = .row 70 from by show (bif !(Nat.beq 70 k) then AV.row 70 else AV.any) = _; rw [show Nat.beq 70 k = false from by cases h : Nat.beq 70 k with | false => rfl | true => exact absurd (Nat.eq_of_beq_eq_true h).symm hk]; rfl]
    · rw [show unk k (fldD t) = fldD t from unk_d _ _]
theorem o70_unk {tF : TypeId} {s : List Ty} {q i k : Nat} : (match o70 tF s q i with | some e => some (unkE k e) | none => none) = o70 tF s q i := by
  unfold o70
  by_cases hqi : q < i
  · rw [if_pos hqi]
    cases s[q]? with
    | none => rfl
    | some t => rfl
  · rw [if_neg hqi]
def hRn (tS tT : TypeId) (s : List Ty) (V : List Value) (q i : Nat) : Heap :=
  hset (hset (hset (hset noHeap 1 (some (.box tS [.d (.lit (.slice none 0 0))]))) 2 (some (.box tS [.row 50]))) 50 (some (.rowA tT 2 i (finC q 0 (s.take i))))) 99 (some (.ghost [] V))
def hR (tS tT tF : TypeId) (s : List Ty) (V : List Value) (q i : Nat) : Heap :=
  hset (hset (hset (hset (hset noHeap 1 (some (.box tS [.d (.lit (.slice none 0 0))]))) 2 (some (.box tS [.row 50]))) 50 (some (.rowA tT 2 i (finC q 0 (s.take i))))) 70 (o70 tF s q i)) 99 (some (.ghost [] V))
theorem hR_hlh {tS tT tF : TypeId} {s : List Ty} {V : List Value} {q i : Nat} {H h : Heap} (h1 : h 1 = some (.box tS [.d (.lit (.slice none 0 0))])) (h2 : h 2 = some (.box tS [.row 50])) (h50 : h 50 = some (.rowA tT 2 i (finC q 0 (s.take i))))
    (h70 : h 70 = o70 tF s q i) (h99 : h 99 = some (.ghost [] V)) (hi : i ≤ s.length) (hH50 : (H 50).isSome = true) (hH70 : i ≤ q ∨ (H 70).isSome = true) : hlh H h (hR tS tT tF s V q i) := by
  refine hlh_set (hlh_opt (hlh_set (hlh_set (hlh_set (hlh_no _ _) h1 rfl) h2 (by simp [inE, inHs, inH, hH50])) h50 ?_) h70 ?_) h99 rfl
  · simp only [inE]
    rcases hH70 with h | h
    · exact finC_in (.inr (.inl (by simp; omega)))
    · exact finC_in (.inl h)
  · intro e he
    unfold o70 at he
    split at he
    · cases hq : s[q]? with
      | none => rw [hq] at he; cases he
      | some t => rw [hq] at he; cases he; rfl
    · cases he
theorem hRn_hlh {tS tT : TypeId} {s : List Ty} {V : List Value} {q i : Nat} {H h : Heap} (h1 : h 1 = some (.box tS [.d (.lit (.slice none 0 0))])) (h2 : h 2 = some (.box tS [.row 50])) (h50 : h 50 = some (.rowA tT 2 i (finC q 0 (s.take i))))
    (h99 : h 99 = some (.ghost [] V)) (hH50 : (H 50).isSome = true) (hiq : i ≤ q) : hlh H h (hRn tS tT s V q i) :=
  hlh_set (hlh_set (hlh_set (hlh_set (hlh_no _ _) h1 rfl) h2 (by simp [inE, inHs, inH, hH50])) h50 (finC_in (.inr (.inl (by simp; omega))))) h99 rfl
theorem copR_all {tT tF : TypeId} {s : List Ty} {q i : Nat} {h : Heap} (hi : i = s.length) (h50 : h 50 = some (.rowA tT 2 i (finC q 0 (s.take i)))) (h70 : h 70 = o70 tF s q i) : allE h (copL tT tF s q) := by
  subst hi
  rw [List.take_length] at h50
  unfold copL
  cases hq : s[q]? with
  | none => exact ⟨h50, trivial⟩
  | some t =>
    have hlt := (List.getElem?_eq_some_iff.1 hq).1
    refine ⟨h50, ?_, trivial⟩
    rw [h70]
    unfold o70
    rw [if_pos hlt, hq]; rfl
theorem hR_70 {tS tT tF : TypeId} {s : List Ty} {V : List Value} {q i : Nat} (hi : i ≤ s.length) : i ≤ q ∨ (hR tS tT tF s V q i 70).isSome = true := by
  by_cases h : i ≤ q
  · exact .inl h
  · right
    show (o70 tF s q i).isSome = true
    exact o70_some (by omega) hi
end Go.AL
