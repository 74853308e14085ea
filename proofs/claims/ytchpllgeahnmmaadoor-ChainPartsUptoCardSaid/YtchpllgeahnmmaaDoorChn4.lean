/- Parts of an abstract logic over the kit's walks, and walks in it: Chn4. -/
import Derived.Test.YtchpllgeahnmmaaDoorCh
/- Events moved by parts along a chain: plain data. -/
namespace Go.AL
set_option linter.unusedVariables false
set_option linter.unusedSimpArgs false
theorem Does.narrow {P : Program} {f : Nat} {L L' : List AV} {h : Heap} {R : AV} (hd : Does P f L h R) (hle : AVles L' L) : Does P f L' h R := ⟨hd.1, fun n Z w vs hZ hv => hd.2 n Z w vs hZ (hle _ _ hv)⟩
theorem chM_add (ss : List (List Ty)) (cs : List Chg) (e : Ev) (i k : Nat) : ∀ m, chM ss cs e i (k + m) = chM ss cs (chM ss cs e i k) (i + k) m
  | 0 => rfl
  | m + 1 => by
    show (match ss[i + (k + m)]?, cs[i + (k + m)]? with | some s, some c => moveX s c (chM ss cs e i (k + m)) | _, _ => chM ss cs e i (k + m)) = (match ss[i + k + m]?, cs[i + k + m]? with | some s, some c => moveX s c (chM ss cs (chM ss cs e i k) (i + k) m) | _, _ => chM ss cs (chM ss cs e i k) (i + k) m)
    rw [show i + (k + m) = i + k + m by omega, chM_add ss cs e i k m]
theorem in_range {cs : List Chg} {i j : Nat} (hi : i ≤ j) (hj : j ≤ cs.length) : ((!isIn cs (i : Int) || !isIn cs (j : Int)) || decide ((i : Int) > (j : Int))) = false := by
  rw [isIn_of (show i ≤ cs.length by omega), isIn_of hj]
  simp; omega
theorem mv_at {ss : List (List Ty)} {cs : List Chg} {e : Ev} {i j : Nat} {s : List Ty} (hi : i ≤ j) (hj : j ≤ cs.length) (hs : ss[i]? = some s) : mvAt ss cs e (i : Int) (j : Int) = if evtR s e = 0 then (chM ss cs e i (j - i), 0) else (zeroEv, evtR s e) := by
  by_cases h : evtR s e = 0
  · rw [if_pos h, mv_ok (in_range hi hj) (by simpa using hs) (by simpa using h)]; simp
  · rw [if_neg h, mv_err (in_range hi hj) (by simpa using hs) (by simpa using h)]
theorem part_err {ss : List (List Ty)} {cs : List Chg} {e : Ev} {k : Nat} (h : ChainOk ss cs) (hk : k ≤ cs.length) (hz : ((mvAt ss cs e 0 (k : Int)).2 != 0) = true) : (mvAt ss cs e 0 ((cs.length : Nat) : Int)).2 = (mvAt ss cs e 0 (k : Int)).2 := by
  obtain ⟨s, hs, _⟩ := h.at (Nat.zero_le _)
  have e1 := mv_at (e := e) (Nat.zero_le k) hk hs
  have e2 := mv_at (e := e) (Nat.zero_le cs.length) (Nat.le_refl _) hs
  simp only [Int.ofNat_zero, Int.natCast_zero] at e1 e2
  rw [e1] at hz ⊢
  rw [e2]
  by_cases h : evtR s e = 0
  · rw [if_pos h] at hz; simp at hz
  · rw [if_neg h, if_neg h]
theorem part_ok {ss : List (List Ty)} {cs : List Chg} {e : Ev} {k : Nat} (h : ChainOk ss cs) (hk : k ≤ cs.length) (hz : ((mvAt ss cs e 0 (k : Int)).2 != 0) = false) :
    (mvAt ss cs e 0 ((cs.length : Nat) : Int)).2 = 0 ∧ (mvAt ss cs (mvAt ss cs e 0 (k : Int)).1 (k : Int) ((cs.length : Nat) : Int)).2 = 0 ∧
    (mvAt ss cs (mvAt ss cs e 0 (k : Int)).1 (k : Int) ((cs.length : Nat) : Int)).1 = (mvAt ss cs e 0 ((cs.length : Nat) : Int)).1 ∧
    ∃ t, ss[cs.length]? = some t ∧ evtR t (mvAt ss cs e 0 ((cs.length : Nat) : Int)).1 = 0 := by
  obtain ⟨s, hs, _⟩ := h.at (Nat.zero_le _)
  have e1 := mv_at (e := e) (Nat.zero_le k) hk hs
  have e2 := mv_at (e := e) (Nat.zero_le cs.length) (Nat.le_refl _) hs
  simp only [Int.ofNat_zero, Int.natCast_zero] at e1 e2
  rw [e1] at hz ⊢
  by_cases h0 : evtR s e = 0
  · rw [if_pos h0]
    rw [if_pos h0] at e2
    rw [e2]
    obtain ⟨sk, hsk, hek⟩ := chM_right h hs h0 k (by omega)
    obtain ⟨t, ht, hte⟩ := chM_right h hs h0 cs.length (by omega)
    rw [Nat.zero_add] at hsk ht
    have e3 := mv_at (e := chM ss cs e 0 (k - 0)) hk (Nat.le_refl _) hsk
    simp only [Nat.sub_zero] at e3 ⊢
    rw [if_pos hek] at e3
    rw [e3]
    refine ⟨by simp, by simp, ?_, t, ht, hte⟩
    have := chM_add ss cs e 0 k (cs.length - k)
    rw [Nat.zero_add, show k + (cs.length - k) = cs.length by omega] at this
    exact this.symm
  · rw [if_neg h0] at hz
    simp at hz
    exact absurd hz h0
end Go.AL
