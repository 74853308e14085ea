/- Parts of an abstract logic over the kit's walks, and walks in it: Rcp. -/
import Derived.Test.YtchpllgeahnmmaaDoorCp
import Derived.Test.YtchpllgeahnmmaaDoorRap
/- A schema copied, cell by cell, the fields of one type the frame's own: plain data. -/
namespace Go.AL
set_option linter.unusedVariables false
set_option linter.unusedSimpArgs false
theorem finC_snoc {q : Nat} : ∀ {j : Nat} {s : List Ty} {t : Ty}, finC q j (s ++ [t]) = finC q j s ++ [.d (str t.name), if j + s.length = q then .row 70 else fldD t]
  | j, [], t => by simp [finC]
  | j, u :: s, t => by
    simp only [List.cons_append, finC]
    rw [finC_snoc (j := j + 1) (s := s)]
    rw [show j + 1 + s.length = j + (u :: s).length by simp; omega]
theorem finC_next {q i : Nat} {s : List Ty} {t : Ty} {x : AV} (h : s[i]? = some t) (hx : x = if i = q then .row 70 else fldD t) : finC q 0 (s.take i) ++ [.d (str t.name), x] = finC q 0 (s.take (i + 1)) := by
  have hl := (List.getElem?_eq_some_iff.1 h).1
  have e : s.take (i + 1) = s.take i ++ [t] := by
    rw [List.take_add_one, h]; rfl
  rw [e, finC_snoc, hx]
  rw [show 0 + (s.take i).length = i by simp; omega]
theorem finC_unk {q k : Nat} (hk : k ≠ 70) : ∀ {j : Nat} {s : List Ty}, (finC q j s).map (unk k) = finC q j s
  | j, [] => rfl
  | j, t :: s => by
    simp only [finC, List.map_cons]
    rw [finC_unk hk (j := j + 1) (s := s), unk_d]
    split
    · rw [show unk k (.row 70) = .row 70 from by show (bif !(Nat.beq 70 k) then AV.row 70 else AV.any) = _; rw [show Nat.beq 70 k = false from by cases h : Nat.beq 70 k with | false => rfl | true => exact absurd (Nat.eq_of_beq_eq_true h).symm hk]; rfl]
    · rw [show unk k (fldD t) = fldD t from unk_d _ _]
theorem o70_unk {tF : TypeId} {s : List Ty} {q i k : Nat} : (match o70 tF s q i with | some e => some (unkE k e) | none => none) = o70 tF s q i := by
  unfold o70
  by_cases hqi : q < i
  · rw [if_pos hqi]
    cases s[q]? with
    | none => rfl
    | some t => rfl
  · rw [if_neg hqi]
/-- What is held while a schema is copied type by type. -/
def hRn (tS tT : TypeId) (s : List Ty) (V : List Value) (q i : Nat) : Heap :=
  hset (hset (hset (hset noHeap 1 (some (.box tS [.d (.lit (.slice none 0 0))]))) 2 (some (.box tS [.row 50]))) 50 (some (.rowA tT 2 i (finC q 0 (s.take i))))) 99 (some (.ghost [] V))
def hR (tS tT tF : TypeId) (s : List Ty) (V : List Value) (q i : Nat) : Heap :=
  hset (hset (hset (hset (hset noHeap 1 (some (.box tS [.d (.lit (.slice none 0 0))]))) 2 (some (.box tS [.row 50]))) 50 (some (.rowA tT 2 i (finC q 0 (s.take i))))) 70 (o70 tF s q i)) 99 (some (.ghost [] V))
theorem hR_hlh {tS tT tF : TypeId} {s : List Ty} {V : List Value} {q i : Nat} {H h : Heap} (h1 : h 1 = some (.box tS [.d (.lit (.slice none 0 0))])) (h2 : h 2 = some (.box tS [.row 50])) (h50 : h 50 = some (.rowA tT 2 i (finC q 0 (s.take i))))
    (h70 : h 70 = o70 tF s q i) (h99 : h 99 = some (.ghost [] V)) (hi : i ≤ s.length) (hH50 : (H 50).isSome = true) (hH70 : i ≤ q ∨ (H 70).isSome = true) : hlh H h (hR tS tT tF s V q i) := by
  refine hlh_set (hlh_opt (hlh_set (hlh_set (hlh_set (hlh_no _ _) h1 rfl) h2 (by simp [inE, inHs, inH, hH50])) h50 ?_) h70 ?_) h99 rfl
  · simp only [inE]
    rcases hH70 with h | h
    · exact finC_in (.inr (.inl (by simp; omega)))
    · exact finC_in (.inl h)
  · intro e he
    unfold o70 at he
    split at he
    · cases hq : s[q]? with
      | none => rw [hq] at he; cases he
      | some t => rw [hq] at he; cases he; rfl
    · cases he
theorem hRn_hlh {tS tT : TypeId} {s : List Ty} {V : List Value} {q i : Nat} {H h : Heap} (h1 : h 1 = some (.box tS [.d (.lit (.slice none 0 0))])) (h2 : h 2 = some (.box tS [.row 50])) (h50 : h 50 = some (.rowA tT 2 i (finC q 0 (s.take i))))
    (h99 : h 99 = some (.ghost [] V)) (hH50 : (H 50).isSome = true) (hiq : i ≤ q) : hlh H h (hRn tS tT s V q i) :=
  hlh_set (hlh_set (hlh_set (hlh_set (hlh_no _ _) h1 rfl) h2 (by simp [inE, inHs, inH, hH50])) h50 (finC_in (.inr (.inl (by simp; omega))))) h99 rfl
theorem copR_all {tT tF : TypeId} {s : List Ty} {q i : Nat} {h : Heap} (hi : i = s.length) (h50 : h 50 = some (.rowA tT 2 i (finC q 0 (s.take i)))) (h70 : h 70 = o70 tF s q i) : allE h (copL tT tF s q) := by
  subst hi
  rw [List.take_length] at h50
  unfold copL
  cases hq : s[q]? with
  | none => exact ⟨h50, trivial⟩
  | some t =>
    have hlt := (List.getElem?_eq_some_iff.1 hq).1
    refine ⟨h50, ?_, trivial⟩
    rw [h70]
    unfold o70
    rw [if_pos hlt, hq]; rfl
theorem hR_70 {tS tT tF : TypeId} {s : List Ty} {V : List Value} {q i : Nat} (hi : i ≤ s.length) : i ≤ q ∨ (hR tS tT tF s V q i 70).isSome = true := by
  by_cases h : i ≤ q
  · exact .inl h
  · right
    show (o70 tF s q i).isSome = true
    exact o70_some (by omega) hi
end Go.AL
