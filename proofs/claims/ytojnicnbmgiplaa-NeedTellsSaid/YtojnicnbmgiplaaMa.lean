/- Parts of an abstract logic over the kit's walks, and walks in it: Mat, Ckr, Mat2, Mat3. -/
import Derived.Test.YtojnicnbmgiplaaDe
import Derived.Test.YtojnicnbmgiplaaAg
import Derived.Test.YtojnicnbmgiplaaMe
/- All matches of a pattern: their order, and how they grow; plain data. -/
namespace Go.AL
open Go.Proofs Go.Sort
set_option linter.unusedVariables false
set_option linter.unusedSimpArgs false
def orI (a b : Int) : Int := bif a != 0 then a else b
/-! ### how rows grow -/
section
variable {s : List Ty} {p : Pat} {l : List Kp} {b : List Bd} {k : Int} {n : Nat}
/-- Rows that are in hand: not empty, of elements that are, short. -/
def RowIn (p : Pat) (n : Nat) (b : List Bd) : Prop := 0 < b.length ∧ Fits p b ∧ b.length ≤ n
theorem RowIn.more {b : List Bd} {n m : Nat} (h : RowIn p n b) (hm : n ≤ m) : RowIn p m b := ⟨h.1, h.2.1, Nat.le_trans h.2.2 hm⟩
end
/-! ### the first that isn't 0 -/
def orL : List Int → Int
  | [] => 0
  | x :: r => bif x != 0 then x else orL r
theorem orL_two (a b : Int) : orL [a, b] = orI a b := by
  show (bif a != 0 then a else (bif b != 0 then b else 0)) = bif a != 0 then a else b
  cases h : a != 0 with
  | true => rfl
  | false =>
    cases h2 : b != 0 with
    | true => rfl
    | false => have := bne_eq_false_iff_eq.1 h2; rw [this]; rfl
theorem orL_at {ks : List Int} {i : Nat} {x : Int} (h : ks[i]? = some x) : orL (ks.drop i) = bif x != 0 then x else orL (ks.drop (i + 1)) := by
  obtain ⟨h1, rfl⟩ := List.getElem?_eq_some_iff.1 h
  rw [List.drop_eq_getElem_cons h1]; rfl
theorem orL_end {ks : List Int} {i : Nat} (h : ks.length ≤ i) : orL (ks.drop i) = 0 := by rw [List.drop_of_length_le h]; rfl
end Go.AL
/- The document's check of a pattern, plain. -/
namespace Go.AL
set_option linter.unusedVariables false
set_option linter.unusedSimpArgs false
def tysOk (s : List Ty) (tys : List ByteArray) : Bool := tys.all fun t => (findT s t).2
def condR (s : List Ty) (seen : List El) (e : El) : Int := bif e.cond.op != 0 then (bif (kindR s (seen ++ [e]) e.cond).2 != 0 then (kindR s (seen ++ [e]) e.cond).2 else bif (kindR s (seen ++ [e]) e.cond).1 != 3 then 14 else 0) else 0
def elR (s : List Ty) (seen : List El) (e : El) : Int := bif !tysOk s e.tys then 13 else condR s seen e
def seenN (seen : List El) (e : El) : List El := bif !e.neg then seen ++ [e] else seen
def elsR (s : List Ty) : List El → List El → Int
  | _, [] => 0
  | seen, e :: r => bif elR s seen e != 0 then elR s seen e else elsR s (seenN seen e) r
def byF (s : List Ty) (byf t : ByteArray) : Bool := !decide (fieldAt (findT s t).1 byf < 0)
def byT (s : List Ty) (byf : ByteArray) (e : El) : Bool := e.tys.all (byF s byf)
def kinR (s : List Ty) (byf : ByteArray) : Int → Bool → List El → Int
  | _, _, [] => 0
  | first, more, e :: r => bif (fkR s e.tys byf).2 != 0 || (more && ((fkR s e.tys byf).1 != first)) then 14 else kinR s byf (fkR s e.tys byf).1 true r
def byR (s : List Ty) (p : Pat) : Int := bif !(p.els.all (byT s p.byf)) then 13 else kinR s p.byf 0 false p.els
def chkR (s : List Ty) (p : Pat) : Int := bif !isPat p then 10 else bif elsR s [] p.els != 0 then elsR s [] p.els else bif same p.byf nul then 0 else byR s p
section
variable {s : List Ty} {p : Pat} {e : El} {seen : List El} {i : Nat}
theorem els_step (h : p.els[i]? = some e) : elsR s seen (p.els.drop i) = bif elR s seen e != 0 then elR s seen e else elsR s (seenN seen e) (p.els.drop (i + 1)) := by
  obtain ⟨h1, rfl⟩ := List.getElem?_eq_some_iff.1 h
  rw [List.drop_eq_getElem_cons h1]; rfl
theorem els_end (h : p.els.length ≤ i) : elsR s seen (p.els.drop i) = 0 := by rw [List.drop_of_length_le h]; rfl
theorem kin_step {byf : ByteArray} {f : Int} {b : Bool} (h : p.els[i]? = some e) : kinR s byf f b (p.els.drop i) = bif (fkR s e.tys byf).2 != 0 || (b && ((fkR s e.tys byf).1 != f)) then 14 else kinR s byf (fkR s e.tys byf).1 true (p.els.drop (i + 1)) := by
  obtain ⟨h1, rfl⟩ := List.getElem?_eq_some_iff.1 h
  rw [List.drop_eq_getElem_cons h1]; rfl
theorem kin_end {byf : ByteArray} {f : Int} {b : Bool} (h : p.els.length ≤ i) : kinR s byf f b (p.els.drop i) = 0 := by rw [List.drop_of_length_le h]; rfl
theorem chk_1 (h : isPat p = false) : chkR s p = 10 := by unfold chkR; rw [h]; rfl
theorem chk_2 {c : Int} (h : isPat p = true) (he : elsR s [] p.els = c) (h0 : (c != 0) = true) : chkR s p = c := by unfold chkR; rw [h, he, h0]; rfl
theorem chk_3 (h : isPat p = true) (he : elsR s [] p.els = 0) (hb : same p.byf nul = true) : chkR s p = 0 := by unfold chkR; rw [h, he, hb]; rfl
theorem chk_4 (h : isPat p = true) (he : elsR s [] p.els = 0) (hb : same p.byf nul = false) : chkR s p = byR s p := by unfold chkR; rw [h, he, hb]; rfl
theorem chk_isPat (h : chkR s p = 0) : isPat p = true := by
  cases hp : isPat p with
  | true => rfl
  | false => rw [chk_1 hp] at h; cases h
theorem tysOk_bad {t : ByteArray} (h : e.tys[i]? = some t) (hb : (findT s t).2 = false) : tysOk s e.tys = false := List.all_eq_false.2 ⟨t, List.mem_of_getElem? h, by rw [hb]; exact Bool.false_ne_true⟩
theorem tysOk_all (h : ∀ (j : Nat) (t : ByteArray), e.tys[j]? = some t → (findT s t).2 = true) : tysOk s e.tys = true := List.all_eq_true.2 fun t ht => by
  obtain ⟨j, hj⟩ := List.getElem?_of_mem ht; exact h j t hj
theorem byT_bad {byf t : ByteArray} (h : e.tys[i]? = some t) (hb : byF s byf t = false) : byT s byf e = false := List.all_eq_false.2 ⟨t, List.mem_of_getElem? h, by rw [hb]; exact Bool.false_ne_true⟩
theorem byT_all {byf : ByteArray} (h : ∀ (j : Nat) (t : ByteArray), e.tys[j]? = some t → byF s byf t = true) : byT s byf e = true := List.all_eq_true.2 fun t ht => by
  obtain ⟨j, hj⟩ := List.getElem?_of_mem ht; exact h j t hj
theorem byR_bad (h : p.els[i]? = some e) (hb : byT s p.byf e = false) : byR s p = 13 := by
  unfold byR; rw [show p.els.all (byT s p.byf) = false from List.all_eq_false.2 ⟨e, List.mem_of_getElem? h, by rw [hb]; exact Bool.false_ne_true⟩]; rfl
theorem byR_all (h : ∀ (j : Nat) (e : El), p.els[j]? = some e → byT s p.byf e = true) : byR s p = kinR s p.byf 0 false p.els := by
  unfold byR; rw [show p.els.all (byT s p.byf) = true from List.all_eq_true.2 fun e he => by obtain ⟨j, hj⟩ := List.getElem?_of_mem he; exact h j e hj]; rfl
theorem isPat_head (h : isPat p = true) : 1 ≤ p.els.length ∧ p.els.length ≤ 5 ∧ 0 ≤ p.within ∧ p.within ≤ 1000 := by
  unfold isPat at h
  have h := (Bool.and_eq_true_iff.1 h).1
  unfold headP at h
  simp at h
  omega
end
end Go.AL
/- What every match is: plain laws of rows that go on. -/
namespace Go.AL
open Go.Proofs Go.Sort
set_option linter.unusedVariables false
set_option linter.unusedSimpArgs false
section
variable {s : List Ty} {p : Pat} {l : List Kp} {b : List Bd} {k : Int} {n : Nat} {x : Bd}
end
/-! ### events that are kept one behind the other -/
end Go.AL
/- What law 14's known() sees, computed. -/
namespace Go.AL
open Go.Proofs Go.Sort
set_option linter.unusedVariables false
set_option linter.unusedSimpArgs false
end Go.AL
