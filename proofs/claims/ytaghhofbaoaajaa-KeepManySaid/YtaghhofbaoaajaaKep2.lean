/- Parts of an abstract logic over the kit's walks, and walks in it: Kep2. -/
import Derived.Test.YtaghhofbaoaajaaKep
import Derived.Test.YtaghhofbaoaajaaMa
/- Events that are kept: the known ones; many; plain data. -/
namespace Go.AL
open Go.Proofs
set_option linter.unusedVariables false
set_option linter.unusedSimpArgs false
def pKa : Pat := ⟨[eL (ch 97)], 2, ch 110, false⟩
def pKb : Pat := ⟨[eL (ch 97)], 5, nul, false⟩
theorem pKa_is : isPat pKa = true := by decide +kernel
theorem pKb_is : isPat pKb = true := by decide +kernel
theorem keep_no {e : Ev} {p : Pat} {k : Kp} (h : k.ev.ts < IntKind.i64.wrap (e.ts - p.within)) : keepB e p k = false := decide_eq_false (by omega)
theorem keep_yes {e : Ev} {p : Pat} {k : Kp} (h : IntKind.i64.wrap (e.ts - p.within) ≤ k.ev.ts) : keepB e p k = true := decide_eq_true h
theorem k17a : ∃ t1 : Ev, t1.ts = 1 ∧ kaddX bS pKa [] 3 (evT 1 7) = [⟨3, t1⟩] := ⟨_, rfl, rfl⟩
theorem k17b {t1 : Ev} (h : t1.ts = 1) : ∃ t2 : Ev, kaddX bS pKa [⟨3, t1⟩] 4 (evT 4 7) = [⟨4, t2⟩] := by
  refine ⟨trimX bS (usesX pKa) (evT 4 7), ?_⟩
  unfold kaddX
  rw [List.filter_cons, keep_no (by show t1.ts < IntKind.i64.wrap (4 - 2); rw [h]; decide)]; rfl
theorem k17c {t1 : Ev} : fromX [⟨3, t1⟩] 4 = [] := rfl
theorem k17d {t1 : Ev} : fromX [⟨3, t1⟩] 3 = [⟨3, t1⟩] := rfl
/-- Many at one time. -/
def keepT (e : Ev) : Nat → List Kp
  | 0 => []
  | n + 1 => keepT e n ++ [⟨((n : Nat) : Int), e⟩]
theorem keepT_len (e : Ev) : ∀ n, (keepT e n).length = n
  | 0 => rfl
  | n + 1 => by rw [keepT, List.length_append, keepT_len e n]; rfl
theorem keepT_mem (e : Ev) : ∀ n (k : Kp), k ∈ keepT e n → k.ev = e
  | 0, k, h => by cases h
  | n + 1, k, h => by
    rcases List.mem_append.1 h with h | h
    · exact keepT_mem e n k h
    · rw [List.mem_singleton.1 h]
def kE : Ev := trimX bS (usesX pKb) (evT 1 0)
theorem kE_ts : kE.ts = 1 := rfl
theorem many_add (n : Nat) (z : Int) : kaddX bS pKb (keepT kE n) z (evT 1 0) = keepT kE n ++ [⟨z, kE⟩] := by
  unfold kaddX
  rw [List.filter_eq_self.2 fun k hk => keep_yes (by rw [keepT_mem kE n k hk, kE_ts]; decide)]; rfl
theorem many_in {n : Nat} (h : n < 40) : keptR (kaddX bS pKb (keepT kE n) ((n : Nat) : Int) (evT 1 0)) = keepT kE (n + 1) ∧ keptE (kaddX bS pKb (keepT kE n) ((n : Nat) : Int) (evT 1 0)) = 0 := by
  have hm : manyX (kaddX bS pKb (keepT kE n) ((n : Nat) : Int) (evT 1 0)) = false := by
    rw [many_add]
    unfold manyX
    rw [List.length_append, keepT_len]
    exact decide_eq_false (by simp; omega)
  unfold keptR keptE
  rw [hm, many_add]
  exact ⟨rfl, rfl⟩
theorem many_out (z : Int) : keptR (kaddX bS pKb (keepT kE 40) z (evT 1 0)) = [] ∧ keptE (kaddX bS pKb (keepT kE 40) z (evT 1 0)) = 18 := by
  have hm : manyX (kaddX bS pKb (keepT kE 40) z (evT 1 0)) = true := by
    rw [many_add]
    unfold manyX
    rw [List.length_append, keepT_len]; rfl
  unfold keptR keptE
  rw [hm]
  exact ⟨rfl, rfl⟩
theorem many_end (n : Nat) (z : Int) : ∃ t2 : Ev, kaddX bS pKb (keepT kE n) z (evT 7 0) = [⟨z, t2⟩] := by
  refine ⟨trimX bS (usesX pKb) (evT 7 0), ?_⟩
  unfold kaddX
  rw [List.filter_eq_nil_iff.2 fun k hk => by rw [keep_no (by rw [keepT_mem kE n k hk, kE_ts]; decide)]; exact Bool.false_ne_true]; rfl
end Go.AL
