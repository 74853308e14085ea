/- Parts of an abstract logic over the kit's walks, and walks in it: R9ra, R9do, R9dp, R9rw, R9rt. -/
import Derived.Test.YtaghhofbaoaajaaRxa
import Derived.Test.YtaghhofbaoaajaaDe
import Derived.Test.YtaghhofbaoaajaaAf
import Derived.Test.YtaghhofbaoaajaaRxc
import Derived.Test.YtaghhofbaoaajaaAg
import Derived.Test.YtaghhofbaoaajaaKp
namespace Go.Proofs.Ytaghhofbaoaajaa
open Go Go.AL
set_option linter.unusedVariables false
set_option linter.unusedSimpArgs false
set_option maxHeartbeats 4000000
theorem lastKOk (l : List Kp) (hl : l.length ≤ 100000) : Does Try.prog 18 [.d (SK l)] noHeap (.tup [argK (lastK l).1, .d (boo (lastK l).2)]) := by
  refine Does_of T_ok mixed (N := 15) Try.func18 rfl rfl rfl (by rfl) fun F n Z hE hF J => ?_
  refine CW_seq ?_
  refine CW_region ?_
  refine OW_alloc' hE 1 rfl rfl rfl rfl rfl rfl rfl ?_
  refine OW_run' hE.ok 1 rfl ?_
  refine OW_end rfl ?_
  refine CW_seq ?_
  refine CW_region ?_
  refine OW_alloc' hE 2 rfl rfl rfl rfl rfl rfl rfl ?_
  refine OW_end rfl ?_
  refine CW_seq ?_
  refine CW_seq ?_
  refine CW_region ?_
  refine OW_run' hE.ok 3 rfl ?_
  refine OW_end rfl ?_
  refine CW_cond _ rfl (fun h1 => ?_) (fun h1 => ?_)
  · skip
    have hn : l = [] := by have := h1; rw [List.length_map] at this; simpa using this
    subst hn
    refine CW_seq ?_
    refine CW_region ?_
    refine OW_run' hE.ok 1 rfl ?_
    refine OW_store' hE rfl rfl rfl rfl rfl rfl rfl rfl rfl rfl rfl rfl ?_
    refine OW_run' hE.ok 1 rfl ?_
    refine OW_end rfl ?_
    refine CW_ret ?_
    refine ⟨.inr rfl, rfl, ⟨_, rfl, rfl, ?_⟩, rfl⟩
    exact AVle.tup (.cons (AVle.agg (.cons (.refl _) (.cons (.refl _) (.cons (.refl _) (.cons (.nilSl 3 32) .nil))))) (.cons (.refl _) .nil))
  · skip
    have hn : 0 < l.length := by have := h1; rw [List.length_map] at this; simp at this; cases l with | nil => exact absurd rfl this | cons _ _ => exact Nat.succ_pos _
    obtain ⟨k, hk⟩ : ∃ k, l[l.length - 1]? = some k := ⟨_, List.getElem?_eq_getElem (by omega)⟩
    refine CW_skip ?_
    refine CW_seq ?_
    refine CW_region ?_
    refine OW_run' hE.ok 4 rfl ?_
    refine OW_as' 12 (.d (int ((l.length - 1 : Nat) : Int))) (by show AV.d (.lit (.int .i64 (IntKind.i64.wrap (((l.map encK).length : Int) - 1)))) = _; rw [List.length_map, show ((l.length : Int) - 1) = ((l.length - 1 : Nat) : Int) by omega, wrapN (by omega)]; rfl) ?_
    refine OW_loc' hE (loc_indexAddr hE rfl rfl rfl rfl rfl (by omega) (x := encK k) (by rw [Int.toNat_natCast, List.getElem?_map, hk]; rfl)) rfl rfl rfl ?_
    refine OW_run' hE.ok 1 rfl ?_
    refine OW_store' hE rfl rfl rfl rfl rfl rfl rfl rfl rfl rfl rfl rfl ?_
    refine OW_run' hE.ok 1 rfl ?_
    refine OW_end rfl ?_
    refine CW_ret ?_
    refine ⟨.inr rfl, rfl, ⟨_, rfl, rfl, ?_⟩, rfl⟩
    rw [lastK_at hk]
    exact AVle.refl _

theorem lastDOk (l : List Bd) (hl : l.length ≤ 100000) : Does Try.prog 21 [.d (SBd l)] noHeap (.tup [argBd (lastD l).1, .d (boo (lastD l).2)]) := by
  refine Does_of T_ok mixed (N := 15) Try.func21 rfl rfl rfl (by rfl) fun F n Z hE hF J => ?_
  refine CW_seq ?_
  refine CW_region ?_
  refine OW_alloc' hE 1 rfl rfl rfl rfl rfl rfl rfl ?_
  refine OW_run' hE.ok 1 rfl ?_
  refine OW_end rfl ?_
  refine CW_seq ?_
  refine CW_region ?_
  refine OW_alloc' hE 2 rfl rfl rfl rfl rfl rfl rfl ?_
  refine OW_end rfl ?_
  refine CW_seq ?_
  refine CW_seq ?_
  refine CW_region ?_
  refine OW_run' hE.ok 3 rfl ?_
  refine OW_end rfl ?_
  refine CW_cond _ rfl (fun h1 => ?_) (fun h1 => ?_)
  · skip
    have hn : l = [] := by have := h1; rw [List.length_map] at this; simpa using this
    subst hn
    refine CW_seq ?_
    refine CW_region ?_
    refine OW_run' hE.ok 1 rfl ?_
    refine OW_store' hE rfl rfl rfl rfl rfl rfl rfl rfl rfl rfl rfl rfl ?_
    refine OW_run' hE.ok 1 rfl ?_
    refine OW_end rfl ?_
    refine CW_ret ?_
    refine ⟨.inr rfl, rfl, ⟨_, rfl, rfl, ?_⟩, rfl⟩
    exact AVle.refl _
  · skip
    have hn : 0 < l.length := by have := h1; rw [List.length_map] at this; simp at this; cases l with | nil => exact absurd rfl this | cons _ _ => exact Nat.succ_pos _
    obtain ⟨k, hk⟩ : ∃ k, l[l.length - 1]? = some k := ⟨_, List.getElem?_eq_getElem (by omega)⟩
    refine CW_skip ?_
    refine CW_seq ?_
    refine CW_region ?_
    refine OW_run' hE.ok 4 rfl ?_
    refine OW_as' 12 (.d (int ((l.length - 1 : Nat) : Int))) (by show AV.d (.lit (.int .i64 (IntKind.i64.wrap (((l.map encBd).length : Int) - 1)))) = _; rw [List.length_map, show ((l.length : Int) - 1) = ((l.length - 1 : Nat) : Int) by omega, wrapN (by omega)]; rfl) ?_
    refine OW_loc' hE (loc_indexAddr hE rfl rfl rfl rfl rfl (by omega) (x := encBd k) (by rw [Int.toNat_natCast, List.getElem?_map, hk]; rfl)) rfl rfl rfl ?_
    refine OW_run' hE.ok 1 rfl ?_
    refine OW_store' hE rfl rfl rfl rfl rfl rfl rfl rfl rfl rfl rfl rfl ?_
    refine OW_run' hE.ok 1 rfl ?_
    refine OW_end rfl ?_
    refine CW_ret ?_
    refine ⟨.inr rfl, rfl, ⟨_, rfl, rfl, ?_⟩, rfl⟩
    rw [lastD_at hk]
    exact AVle.refl _

theorem indexK (l : List Kp) (k : Nat) (first cap : List D) (p : Kp → Bool) (hc : ∀ a ∈ l, Does Try.prog k (first.map .d ++ [.agg ((encK a).map .d)] ++ cap.map .d) noHeap (.d (boo (p a)))) : Does Try.prog 19 [.d (.sl 4 64 (l.map encK)), .d (.fn (.func k) first cap)] noHeap (.d (int (idx p l))) := by
  refine Does_of T_ok mixed (N := 19) Try.func19 rfl rfl rfl (by rfl) fun F n Z hE hF J => ?_
  refine CW_know (know_sl (d := 0) rfl) fun hlen => ?_
  rw [List.length_map] at hlen
  refine CW_seq ?_
  refine CW_region ?_
  refine OW_run' hE.ok 1 rfl ?_
  refine OW_end rfl ?_
  refine CW_seq ?_
  refine CW_seq ?_
  refine CW_region ?_
  refine OW_run' hE.ok 3 rfl ?_
  refine OW_end rfl ?_
  refine CW_block ?_
  refine CW_loop (σ := {i : Nat // i ≤ l.length ∧ ∀ j a, j < i → l[j]? = some a → p a = false})
    (fun i => ⟨J, (sset (sset (sset (sset noSlots 0 (.d (.sl 4 64 (l.map encK)))) 1 (.d (.fn (.func k) first cap))) 7 (.d (.lit (.int .i64 l.length)))) 8 (.d (.lit (.int .i64 i.1)))), noHeap⟩) (fun i => l.length - i.1) ⟨0, Nat.zero_le _, by omega⟩ (LE_s (sle_set (sle_set (sle_set (sle_set (sle_no _) rfl) rfl) (by show AV.d (.lit (.int .i64 ((l.map encK).length : Int))) = _; rw [List.length_map])) rfl)) fun ⟨i, hi, hp⟩ => ?_
  refine CW_seq ?_
  refine CW_region ?_
  refine OW_run' hE.ok 1 rfl ?_
  refine OW_end rfl ?_
  refine CW_seq ?_
  refine CW_cond _ rfl (fun h1 => ?_) (fun h1 => ?_)
  · skip
    have hlt : i < l.length := by have := h1; simp at this; omega
    obtain ⟨a, ha⟩ : ∃ a, l[i]? = some a := ⟨_, List.getElem?_eq_getElem hlt⟩
    have hcall := hc a (List.mem_of_getElem? ha)
    refine CW_skip ?_
    refine CW_seq ?_
    refine CW_block ?_
    refine CW_seq ?_
    refine CW_region ?_
    refine OW_run' hE.ok 2 rfl ?_
    refine OW_end rfl ?_
    refine CW_seq ?_
    refine CW_region ?_
    refine OW_run' hE.ok 3 rfl ?_
    refine OW_loc' hE (loc_indexAddr hE rfl rfl rfl rfl rfl (by omega) (x := encK a) (by simp [ha])) rfl rfl rfl ?_
    refine OW_run' hE.ok 1 rfl ?_
    refine OW_call' hE (hcall) rfl rfl rfl rfl (kfs_fn rfl) rfl rfl ?_
    refine OW_end rfl ?_
    refine CW_cond _ rfl (fun h2 => ?_) (fun h2 => ?_)
    · skip
      refine CW_seq ?_
      refine CW_region ?_
      refine OW_run' hE.ok 2 rfl ?_
      refine OW_end rfl ?_
      refine CW_ret ?_
      refine ⟨.inr rfl, rfl, ⟨_, rfl, rfl, ?_⟩, rfl⟩
      rw [idx_some ha h2 hp]
      exact AVle.refl _
    · skip
      refine CW_skip ?_
      refine CW_region ?_
      refine OW_run' hE.ok 2 rfl ?_
      refine OW_end rfl ?_
      refine ⟨⟨i + 1, hlt, fun j b hj hb => ?_⟩, LE_s (sle_set (sle_set (sle_set (sle_set (sle_no _) rfl) rfl) rfl) (by show AV.d (.lit (.int .i64 (IntKind.i64.wrap (↑i + 1)))) = _; rw [wrap_succ (by omega)])), by show l.length - (i + 1) < l.length - i; omega⟩
      by_cases hji : j = i
      · subst hji; rw [ha] at hb; cases hb; exact h2
      · exact hp j b (by omega) hb
  · skip
    have hge : ¬ i < l.length := by have := h1; simp at this; omega
    refine CW_exit ?_
    show CW _ _ _ _
    refine CW_seq ?_
    refine CW_region ?_
    refine OW_run' hE.ok 1 rfl ?_
    refine OW_end rfl ?_
    refine CW_ret ?_
    refine ⟨.inr rfl, rfl, ⟨_, rfl, rfl, ?_⟩, rfl⟩
    rw [idx_none (fun j b hj => hp j b (by omega))]
    exact AVle.refl _

theorem lateFn (k : Kp) (r : List Bd) (b0 : Bd) (hb0 : r[0]? = some b0) : Does Try.prog 20 [argK k, .d (.iptr [SBd r])] noHeap (.d (boo (k.at_ == b0.at_))) := by
  refine Does_of T_ok mixed (N := 12) Try.func20 rfl rfl rfl (by rfl) fun F n Z hE hF J => ?_
  have hbe : (r.map encBd)[(0 : Int).toNat]? = some (encBd b0) := by rw [List.getElem?_map]; show (r[0]?).map encBd = _; rw [hb0]; rfl
  refine CW_seq ?_
  refine CW_region ?_
  refine OW_run' hE.ok 2 rfl ?_
  refine OW_end rfl ?_
  refine CW_seq ?_
  refine CW_drawn' hE 8 (by decide +kernel) ?_
  refine HW_run hE 4 rfl rfl ?_
  refine HW_loc hE (loc_indexAddr hE rfl rfl rfl rfl rfl (by omega) (x := encBd b0) hbe) rfl rfl rfl rfl ?_
  refine HW_run hE 3 rfl rfl ?_
  refine HW_end ?_
  refine OW_run' hE.ok 1 rfl ?_
  refine OW_end rfl ?_
  refine CW_ret ?_
  refine ⟨.inr rfl, rfl, ⟨_, rfl, rfl, ?_⟩, rfl⟩
  exact AVle.refl _

theorem lateOk (p : Pat) (l : List Kp) (r : List Bd) (hl : l.length ≤ 100000) : Does Try.prog 9 [argP p, .d (SK l), argRun r] noHeap (.d (boo (lateX p l r))) := by
  refine Does_of T_ok mixed (N := 43) Try.func9 rfl rfl rfl (by rfl) fun F n Z hE hF J => ?_
  refine CW_seq ?_
  refine CW_region ?_
  refine OW_run' hE.ok 3 rfl ?_
  refine OW_end rfl ?_
  refine CW_seq ?_
  refine CW_region ?_
  refine OW_run' hE.ok 1 rfl ?_
  refine OW_call' hE (lastKOk l hl) rfl rfl rfl rfl rfl rfl rfl ?_
  refine OW_run' hE.ok 3 rfl ?_
  refine OW_alloc' hE 1 rfl rfl rfl rfl rfl rfl rfl ?_
  refine OW_store' hE rfl rfl rfl rfl rfl rfl rfl rfl rfl rfl rfl rfl ?_
  refine OW_run' hE.ok 1 rfl ?_
  refine OW.le (LE_freezeBox 1 (ds := encK (lastK l).1) rfl rfl) ?_
  refine OW_end rfl ?_
  refine CW_seq ?_
  refine CW_seq ?_
  refine CW.le (show LE _ _ ⟨J, (sset (sset (sset (sset (sset noSlots 1 (.d (SK l))) 3 (.d (.iptr (encP p)))) 5 (.d (.iptr [SBd r]))) 7 (.d (.iptr (encK (lastK l).1)))) 8 (.d (boo (lastK l).2))), noHeap⟩ from LE_sh (slh_set (v := .d (boo (lastK l).2)) (slh_set (v := .d (.iptr (encK (lastK l).1))) (slh_set (v := .d (.iptr [SBd r])) (slh_set (v := .d (.iptr (encP p))) (slh_set (v := .d (SK l)) (slh_no _ _) (by rfl) rfl) (by rfl) rfl) (by rfl) rfl) (by rfl) rfl) (by rfl) rfl) (hlh_no _ _)) ?_
  refine CW_region ?_
  refine OW_run' hE.ok 3 rfl ?_
  refine OW_split' 17 rfl (fun h1 => ?_) (fun h1 => ?_)
  · skip
    have g1 : (lastK l).2 = false := by have := h1; simpa using this
    refine OW_run' hE.ok 5 rfl ?_
    refine OW_end rfl ?_
    refine CW_true rfl ?_
    refine CW_seq ?_
    refine CW_region ?_
    refine OW_run' hE.ok 1 rfl ?_
    refine OW_end rfl ?_
    refine CW_ret ?_
    refine ⟨.inr rfl, rfl, ⟨_, rfl, rfl, ?_⟩, rfl⟩
    rw [late_1 g1]
    exact AVle.refl _
  · skip
    have g1 : (lastK l).2 = true := by have := h1; simpa using this
    refine OW_run' hE.ok 5 rfl ?_
    refine OW_end rfl ?_
    refine CW_cond _ rfl (fun h2 => ?_) (fun h2 => ?_)
    · skip
      have hn : r = [] := by have := h2; rw [List.length_map] at this; simpa using this
      subst hn
      refine CW_seq ?_
      refine CW_region ?_
      refine OW_run' hE.ok 1 rfl ?_
      refine OW_end rfl ?_
      refine CW_ret ?_
      refine ⟨.inr rfl, rfl, ⟨_, rfl, rfl, ?_⟩, rfl⟩
      rw [late_2]
      exact AVle.refl _
    · skip
      have hn : 0 < r.length := by have := h2; rw [List.length_map] at this; simp at this; cases r with | nil => exact absurd rfl this | cons _ _ => exact Nat.succ_pos _
      obtain ⟨b0, hb0⟩ : ∃ q, r[0]? = some q := ⟨_, List.getElem?_eq_getElem hn⟩
      refine CW_skip ?_
      refine CW_seq ?_
      refine CW_region ?_
      refine OW_run' hE.ok 2 rfl ?_
      refine OW_call' hE ((indexK l 20 [] [.iptr [SBd r]] (fun k : Kp => k.at_ == b0.at_) (fun a _ => lateFn a r b0 hb0))) rfl rfl rfl rfl rfl rfl rfl ?_
      refine OW_run' hE.ok 1 rfl ?_
      refine OW_end rfl ?_
      refine CW_seq ?_
      refine CW_drawn' hE 17 (by decide +kernel) ?_
      refine HW_run hE 3 rfl rfl ?_
      refine HW_split 28 rfl (fun h3 => ?_) (fun h3 => ?_)
      · skip
        have g3 : decide (idx (fun k : Kp => k.at_ == b0.at_) l < 0) = true := h3
        refine HW_run hE 14 rfl rfl ?_
        refine HW_end ?_
        refine OW_run' hE.ok 1 rfl ?_
        refine OW_end rfl ?_
        refine CW_ret ?_
        refine ⟨.inr rfl, rfl, ⟨_, rfl, rfl, ?_⟩, rfl⟩
        rw [late_3 g1 hb0 (idx_neg g3)]
        exact AVle.refl _
      · skip
        have g3 : decide (idx (fun k : Kp => k.at_ == b0.at_) l < 0) = false := h3
        obtain ⟨i, x, hi, hx, hfx⟩ := idx_pos g3
        refine HW_run hE 5 rfl rfl ?_
        refine HW_as 33 (.d (int ((i : Nat) : Int))) (by exact congrArg (fun z => AV.d (int z)) hi) ?_
        refine HW_loc hE (loc_indexAddr hE rfl rfl rfl rfl rfl (by omega) (x := encK x) (by simp [hx])) rfl rfl rfl rfl ?_
        refine HW_run hE 8 rfl rfl ?_
        refine HW_end ?_
        refine OW_run' hE.ok 1 rfl ?_
        refine OW_end rfl ?_
        refine CW_ret ?_
        refine ⟨.inr rfl, rfl, ⟨_, rfl, rfl, ?_⟩, rfl⟩
        rw [late_4 g1 hb0 hfx]
        exact AVle.refl _
end Go.Proofs.Ytaghhofbaoaajaa
namespace Go.Proofs.Ytaghhofbaoaajaa
open Go Go.AL
set_option linter.unusedVariables false
set_option linter.unusedSimpArgs false
set_option maxHeartbeats 4000000
theorem goesOk (s : List Ty) (p : Pat) (l : List Kp) (b : List Bd) (x : Bd) (hr : Rises l) (hf : Fits p b) (hb : b.length ≤ 999) (hl : p.els.length ≤ 1000) : Does Try.prog 47 [argS s, argP p, .d (SK l), .d (SBd b), argBd x] noHeap (.d (boo (goesX s p l b x))) := by
  refine Does_of T_ok mixed (N := 135) Try.func47 rfl rfl rfl (by rfl) fun F n Z hE hF J => ?_
  obtain ⟨xe, xa⟩ := x
  have hat := atOk l xa hr
  obtain ⟨A, hA⟩ : ∃ A, atK l xa = A := ⟨_, rfl⟩
  rw [hA] at hat
  refine CW_seq ?_
  refine CW_region ?_
  refine OW_run' hE.ok 4 rfl ?_
  refine OW_end rfl ?_
  refine CW_seq ?_
  refine CW_region ?_
  refine OW_run' hE.ok 3 rfl ?_
  refine OW_call' hE (hat) rfl rfl rfl rfl rfl rfl rfl ?_
  refine OW_run' hE.ok 3 rfl ?_
  refine OW_alloc' hE 1 rfl rfl rfl rfl rfl rfl rfl ?_
  refine OW_store' hE rfl rfl rfl rfl rfl rfl rfl rfl rfl rfl rfl rfl ?_
  refine OW_run' hE.ok 1 rfl ?_
  refine OW.le (LE_freezeBox 1 (ds := encE A.1) rfl rfl) ?_
  refine OW_end rfl ?_
  refine CW_seq ?_
  refine CW_seq ?_
  refine CW.le (show LE _ _ ⟨J, (sset (sset (sset (sset (sset (sset (sset noSlots 2 (.d (SK l))) 3 (.d (SBd b))) 5 (.d (.iptr [encS s]))) 6 (.d (.iptr (encP p)))) 11 (.d (.iptr (encE A.1)))) 9 (.d (.iptr (encBd ⟨xe, xa⟩)))) 12 (.d (boo A.2))), noHeap⟩ from LE_sh (slh_set (v := .d (boo A.2)) (slh_set (v := .d (.iptr (encBd ⟨xe, xa⟩))) (slh_set (v := .d (.iptr (encE A.1))) (slh_set (v := .d (.iptr (encP p))) (slh_set (v := .d (.iptr [encS s])) (slh_set (v := .d (SBd b)) (slh_set (v := .d (SK l)) (slh_no _ _) (by rfl) rfl) (by rfl) rfl) (by rfl) rfl) (by rfl) rfl) (by rfl) rfl) (by rfl) rfl) (by rfl) rfl) (hlh_no _ _)) ?_
  refine CW_region ?_
  refine OW_run' hE.ok 3 rfl ?_
  refine OW_split' 26 rfl (fun h1 => ?_) (fun h1 => ?_)
  · skip
    have g1 : (!A.2) = true := h1
    refine OW_run' hE.ok 12 rfl ?_
    refine OW_end rfl ?_
    refine CW_true rfl ?_
    refine CW_seq ?_
    refine CW_region ?_
    refine OW_run' hE.ok 1 rfl ?_
    refine OW_end rfl ?_
    refine CW_ret ?_
    refine ⟨.inr rfl, rfl, ⟨_, rfl, rfl, ?_⟩, rfl⟩
    rw [goes_no (by rw [hA]; rw [g1]; rfl)]
    exact AVle.refl _
  · skip
    have g1 : (!A.2) = false := h1
    refine OW_run' hE.ok 5 rfl ?_
    refine OW_split' 31 rfl (fun h2 => ?_) (fun h2 => ?_)
    · skip
      have g2 : decide (xe < 0) = true := h2
      refine OW_run' hE.ok 7 rfl ?_
      refine OW_end rfl ?_
      refine CW_true rfl ?_
      refine CW_seq ?_
      refine CW_region ?_
      refine OW_run' hE.ok 1 rfl ?_
      refine OW_end rfl ?_
      refine CW_ret ?_
      refine ⟨.inr rfl, rfl, ⟨_, rfl, rfl, ?_⟩, rfl⟩
      rw [goes_no (by rw [hA]; rw [g1, g2]; rfl)]
      exact AVle.refl _
    · skip
      have g2 : decide (xe < 0) = false := h2
      refine OW_run' hE.ok 7 rfl ?_
      refine OW_end rfl ?_
      refine CW_cond _ rfl (fun h3 => ?_) (fun h3 => ?_)
      · skip
        have g3 : decide (xe ≥ (p.els.length : Int)) = true := by have := h3; rw [List.length_map] at this; exact this
        refine CW_seq ?_
        refine CW_region ?_
        refine OW_run' hE.ok 1 rfl ?_
        refine OW_end rfl ?_
        refine CW_ret ?_
        refine ⟨.inr rfl, rfl, ⟨_, rfl, rfl, ?_⟩, rfl⟩
        rw [goes_no (by rw [hA]; rw [g1, g2, g3]; rfl)]
        exact AVle.refl _
      · skip
        have g3 : decide (xe ≥ (p.els.length : Int)) = false := by have := h3; rw [List.length_map] at this; exact this
        have c0 : (!(atK l xa).2 || (decide (xe < 0) || decide (xe ≥ (p.els.length : Int)))) = false := by rw [hA, g1, g2, g3]; rfl
        have k0 : 0 ≤ xe ∧ xe < (p.els.length : Int) := by have h1 := g2; have h2 := g3; simp at h1 h2; omega
        refine CW_skip ?_
        refine CW_seq ?_
        refine CW_seq ?_
        refine CW_region ?_
        refine OW_run' hE.ok 3 rfl ?_
        refine OW_end rfl ?_
        refine CW_cond _ rfl (fun h4 => ?_) (fun h4 => ?_)
        · skip
          have hbn : b = [] := by have := h4; rw [List.length_map] at this; simpa using this
          subst hbn
          refine CW_seq ?_
          refine CW_region ?_
          refine OW_run' hE.ok 4 rfl ?_
          refine OW_split' 45 rfl (fun h5 => ?_) (fun h5 => ?_)
          · skip
            have g5 : (xe == 0) = true := h5
            refine OW_run' hE.ok 4 rfl ?_
            refine OW_call' hE ((Does_le (AVles.cons (AVle.refl _) (AVles.cons (AVle.refl _) (AVles.cons (AVle.refl _) (AVles.cons (AVle.nilSl 2 16) (AVles.cons (AVle.refl _) (AVles.cons (AVle.refl _) AVles.nil)))))) (takesOk s p l [] 0 A.1 hr (fun _ h => by cases h) (by simp) (by omega)))) rfl rfl rfl rfl rfl rfl rfl ?_
            refine OW_run' hE.ok 2 rfl ?_
            refine OW_end rfl ?_
            refine CW_ret ?_
            refine ⟨.inr rfl, rfl, ⟨_, rfl, rfl, ?_⟩, rfl⟩
            rw [goes_nil c0, hA, show ((⟨xe, xa⟩ : Bd).el == 0) = true from g5]
            exact AVle.refl _
          · skip
            have g5 : (xe == 0) = false := h5
            refine OW_run' hE.ok 7 rfl ?_
            refine OW_end rfl ?_
            refine CW_ret ?_
            refine ⟨.inr rfl, rfl, ⟨_, rfl, rfl, ?_⟩, rfl⟩
            rw [goes_nil c0, hA, show ((⟨xe, xa⟩ : Bd).el == 0) = false from g5]
            exact AVle.refl _
        · skip
          have hb1 : 0 < b.length := by have := h4; rw [List.length_map] at this; simp at this; cases b with | nil => exact absurd rfl this | cons _ _ => exact Nat.succ_pos _
          obtain ⟨lst, hlst⟩ : ∃ q, b[b.length - 1]? = some q := ⟨_, List.getElem?_eq_getElem (by omega)⟩
          obtain ⟨b0, hb0⟩ : ∃ q, b[0]? = some q := ⟨_, List.getElem?_eq_getElem hb1⟩
          have hla := lastBd_at hlst
          have hat0 := atOk l b0.at_ hr
          obtain ⟨A0, hA0⟩ : ∃ A, atK l b0.at_ = A := ⟨_, rfl⟩
          rw [hA0] at hat0
          have hfe : firstE l b = A0.1 := by rw [firstE_at hb0, hA0]
          have hbe : (b.map encBd)[(0 : Int).toNat]? = some (encBd b0) := by rw [List.getElem?_map]; show (b[0]?).map encBd = _; rw [hb0]; rfl
          obtain ⟨m, el, hm, hel, hex⟩ := hf.at hlst
          obtain ⟨le, la⟩ := lst
          have hm : le = (m : Int) := hm
          subst hm
          obtain ⟨k, rfl⟩ : ∃ k : Nat, xe = (k : Int) := ⟨xe.toNat, by omega⟩
          obtain ⟨sm, hsm⟩ : ∃ sm, (((k : Nat) : Int) == ((m : Nat) : Int) && el.plus) = sm := ⟨_, rfl⟩
          have hgo := goes_on (s := s) (x := ⟨((k : Nat) : Int), xa⟩) (sm := sm) c0 (by cases b with | nil => cases hb1 | cons _ _ => rfl) hla hfe (by show (((k : Nat) : Int) == ((m : Nat) : Int) && (elX p ((m : Nat) : Int)).plus) = _; rw [show elX p ((m : Nat) : Int) = el from hex]; exact hsm)
          simp only [hA] at hgo
          refine CW_skip ?_
          refine CW_seq ?_
          refine CW_region ?_
          refine OW_run' hE.ok 4 rfl ?_
          refine OW_as' 55 (.d (int ((b.length - 1 : Nat) : Int))) (by show AV.d (.lit (.int .i64 (IntKind.i64.wrap (((b.map encBd).length : Int) - 1)))) = _; rw [List.length_map, show ((b.length : Int) - 1) = ((b.length - 1 : Nat) : Int) by omega, wrapN (by omega)]; rfl) ?_
          refine OW_loc' hE (loc_indexAddr hE rfl rfl rfl rfl rfl (by omega) (x := encBd ⟨((m : Nat) : Int), la⟩) (by rw [Int.toNat_natCast, List.getElem?_map, hlst]; rfl)) rfl rfl rfl ?_
          refine OW_run' hE.ok 1 rfl ?_
          refine OW_alloc' hE 2 rfl rfl rfl rfl rfl rfl rfl ?_
          refine OW_store' hE rfl rfl rfl rfl rfl rfl rfl rfl rfl rfl rfl rfl ?_
          refine OW.le (LE_freezeBox 2 (ds := encBd ⟨((m : Nat) : Int), la⟩) rfl rfl) ?_
          refine OW_end rfl ?_
          refine CW_seq ?_
          refine CW_region ?_
          refine OW_run' hE.ok 2 rfl ?_
          refine OW_loc' hE (loc_indexAddr hE rfl rfl rfl rfl rfl (by omega) (x := encBd b0) hbe) rfl rfl rfl ?_
          refine OW_run' hE.ok 2 rfl ?_
          refine OW_call' hE (hat0) rfl rfl rfl rfl rfl rfl rfl ?_
          refine OW_run' hE.ok 3 rfl ?_
          refine OW_alloc' hE 3 rfl rfl rfl rfl rfl rfl rfl ?_
          refine OW_store' hE rfl rfl rfl rfl rfl rfl rfl rfl rfl rfl rfl rfl ?_
          refine OW_run' hE.ok 1 rfl ?_
          refine OW.le (LE_freezeBox 3 (ds := encE A0.1) rfl rfl) ?_
          refine OW_end rfl ?_
          refine CW_cutE (fun _ : Unit => ⟨J, (sset (sset (sset (sset (sset (sset (sset (sset (sset noSlots 2 (.d (SK l))) 3 (.d (SBd b))) 5 (.d (.iptr [encS s]))) 6 (.d (.iptr (encP p)))) 11 (.d (.iptr (encE A.1)))) 9 (.d (.iptr (encBd ⟨((k : Nat) : Int), xa⟩)))) 13 (.d (.iptr (encBd ⟨((m : Nat) : Int), la⟩)))) 14 (.d (.iptr (encE A0.1)))) 16 (.d (boo sm))), noHeap⟩) (fun _ => True) ?_ ?_
          · skip
            refine CW_region ?_
            refine OW_run' hE.ok 6 rfl ?_
            refine OW_split' 72 rfl (fun h6 => ?_) (fun h6 => ?_)
            · skip
              have s1 : (((k : Nat) : Int) == ((m : Nat) : Int)) = true := h6
              refine OW_run' hE.ok 4 rfl ?_
              refine OW_loc' hE (loc_indexAddr hE rfl rfl rfl rfl rfl (by omega) (x := encL el) (by simp [hel])) rfl rfl rfl ?_
              refine OW_run' hE.ok 4 rfl ?_
              refine OW_end rfl ?_
              exact ⟨(), trivial, LE_sh (slh_set (v := .d (boo sm)) (slh_set (v := .d (.iptr (encE A0.1))) (slh_set (v := .d (.iptr (encBd ⟨((m : Nat) : Int), la⟩))) (slh_set (v := .d (.iptr (encBd ⟨((k : Nat) : Int), xa⟩))) (slh_set (v := .d (.iptr (encE A.1))) (slh_set (v := .d (.iptr (encP p))) (slh_set (v := .d (.iptr [encS s])) (slh_set (v := .d (SBd b)) (slh_set (v := .d (SK l)) (slh_no _ _) (by rfl) rfl) (by rfl) rfl) (by rfl) rfl) (by rfl) rfl) (by rfl) rfl) (by rfl) rfl) (by rfl) rfl) (by rfl) rfl) (by exact (congrArg (fun z => AV.d (boo z)) (show el.plus = sm by rw [← hsm, s1]; rfl))) rfl) (hlh_no _ _)⟩
            · skip
              have s1 : (((k : Nat) : Int) == ((m : Nat) : Int)) = false := h6
              refine OW_run' hE.ok 9 rfl ?_
              refine OW_end rfl ?_
              exact ⟨(), trivial, LE_sh (slh_set (v := .d (boo sm)) (slh_set (v := .d (.iptr (encE A0.1))) (slh_set (v := .d (.iptr (encBd ⟨((m : Nat) : Int), la⟩))) (slh_set (v := .d (.iptr (encBd ⟨((k : Nat) : Int), xa⟩))) (slh_set (v := .d (.iptr (encE A.1))) (slh_set (v := .d (.iptr (encP p))) (slh_set (v := .d (.iptr [encS s])) (slh_set (v := .d (SBd b)) (slh_set (v := .d (SK l)) (slh_no _ _) (by rfl) rfl) (by rfl) rfl) (by rfl) rfl) (by rfl) rfl) (by rfl) rfl) (by rfl) rfl) (by rfl) rfl) (by rfl) rfl) (by exact (congrArg (fun z => AV.d (boo z)) (show false = sm by rw [← hsm, s1]; rfl))) rfl) (hlh_no _ _)⟩
          · skip
            rintro _ _
            refine CW_cutE (fun _ : Unit => ⟨J, (sset (sset (sset (sset (sset (sset (sset (sset (sset noSlots 2 (.d (SK l))) 3 (.d (SBd b))) 5 (.d (.iptr [encS s]))) 6 (.d (.iptr (encP p)))) 11 (.d (.iptr (encE A.1)))) 9 (.d (.iptr (encBd ⟨((k : Nat) : Int), xa⟩)))) 13 (.d (.iptr (encBd ⟨((m : Nat) : Int), la⟩)))) 14 (.d (.iptr (encE A0.1)))) 16 (.d (boo sm))), noHeap⟩) (fun _ => (decide (xa ≤ la) || ((!sm && (((k : Nat) : Int) != nextX p ((m : Nat) : Int))) || decide (wr (A.1.ts - A0.1.ts) > p.within))) = false) ?_ ?_
            · skip
              refine CW_seq ?_
              refine CW_drawn' hE 27 (by decide +kernel) ?_
              refine HW_run hE 6 rfl rfl ?_
              refine HW_split 86 rfl (fun h7 => ?_) (fun h7 => ?_)
              · skip
                have q1 : decide (xa ≤ la) = true := h7
                refine HW_run hE 21 rfl rfl ?_
                refine HW_end ?_
                refine OW_run' hE.ok 1 rfl ?_
                refine OW_end rfl ?_
                refine CW_true rfl ?_
                refine CW_seq ?_
                refine CW_region ?_
                refine OW_run' hE.ok 1 rfl ?_
                refine OW_end rfl ?_
                refine CW_ret ?_
                refine ⟨.inr rfl, rfl, ⟨_, rfl, rfl, ?_⟩, rfl⟩
                refine AVle.of (Eq.symm ((congrArg (fun z => AV.d (boo z)) hgo).trans ?_))
                rw [q1]; rfl
              · skip
                have q1 : decide (xa ≤ la) = false := h7
                refine HW_run hE 3 rfl rfl ?_
                refine HW_split 89 rfl (fun h8 => ?_) (fun h8 => ?_)
                · skip
                  have q2 : (!sm) = true := h8
                  refine HW_run hE 5 rfl rfl ?_
                  refine HW_call hE (nextOk p m (List.getElem?_eq_some_iff.1 hel).1 hl) rfl rfl rfl rfl rfl rfl rfl rfl ?_
                  refine HW_run hE 4 rfl rfl ?_
                  refine HW_split 99 rfl (fun h9 => ?_) (fun h9 => ?_)
                  · skip
                    have q3 : (((k : Nat) : Int) != nextX p ((m : Nat) : Int)) = true := h9
                    refine HW_run hE 8 rfl rfl ?_
                    refine HW_end ?_
                    refine OW_run' hE.ok 1 rfl ?_
                    refine OW_end rfl ?_
                    refine CW_true rfl ?_
                    refine CW_seq ?_
                    refine CW_region ?_
                    refine OW_run' hE.ok 1 rfl ?_
                    refine OW_end rfl ?_
                    refine CW_ret ?_
                    refine ⟨.inr rfl, rfl, ⟨_, rfl, rfl, ?_⟩, rfl⟩
                    refine AVle.of (Eq.symm ((congrArg (fun z => AV.d (boo z)) hgo).trans ?_))
                    rw [q1, q2, q3]; rfl
                  · skip
                    have q3 : (((k : Nat) : Int) != nextX p ((m : Nat) : Int)) = false := h9
                    refine HW_run hE 8 rfl rfl ?_
                    refine HW_end ?_
                    refine OW_run' hE.ok 1 rfl ?_
                    refine OW_end rfl ?_
                    refine CW_cond _ rfl (fun h10 => ?_) (fun h10 => ?_)
                    · skip
                      have q4 : decide (wr (A.1.ts - A0.1.ts) > p.within) = true := h10
                      refine CW_seq ?_
                      refine CW_region ?_
                      refine OW_run' hE.ok 1 rfl ?_
                      refine OW_end rfl ?_
                      refine CW_ret ?_
                      refine ⟨.inr rfl, rfl, ⟨_, rfl, rfl, ?_⟩, rfl⟩
                      refine AVle.of (Eq.symm ((congrArg (fun z => AV.d (boo z)) hgo).trans ?_))
                      rw [q1, q2, q3, q4]; rfl
                    · skip
                      have q4 : decide (wr (A.1.ts - A0.1.ts) > p.within) = false := h10
                      refine CW_skip ?_
                      exact ⟨(), by rw [q1, q2, q3, q4]; rfl, LE_sh (slh_set (v := .d (boo sm)) (slh_set (v := .d (.iptr (encE A0.1))) (slh_set (v := .d (.iptr (encBd ⟨((m : Nat) : Int), la⟩))) (slh_set (v := .d (.iptr (encBd ⟨((k : Nat) : Int), xa⟩))) (slh_set (v := .d (.iptr (encE A.1))) (slh_set (v := .d (.iptr (encP p))) (slh_set (v := .d (.iptr [encS s])) (slh_set (v := .d (SBd b)) (slh_set (v := .d (SK l)) (slh_no _ _) (by rfl) rfl) (by rfl) rfl) (by rfl) rfl) (by rfl) rfl) (by rfl) rfl) (by rfl) rfl) (by rfl) rfl) (by rfl) rfl) (by rfl) rfl) (hlh_no _ _)⟩
                · skip
                  have q2 : (!sm) = false := h8
                  refine HW_run hE 18 rfl rfl ?_
                  refine HW_end ?_
                  refine OW_run' hE.ok 1 rfl ?_
                  refine OW_end rfl ?_
                  refine CW_cond _ rfl (fun h11 => ?_) (fun h11 => ?_)
                  · skip
                    have q4 : decide (wr (A.1.ts - A0.1.ts) > p.within) = true := h11
                    refine CW_seq ?_
                    refine CW_region ?_
                    refine OW_run' hE.ok 1 rfl ?_
                    refine OW_end rfl ?_
                    refine CW_ret ?_
                    refine ⟨.inr rfl, rfl, ⟨_, rfl, rfl, ?_⟩, rfl⟩
                    refine AVle.of (Eq.symm ((congrArg (fun z => AV.d (boo z)) hgo).trans ?_))
                    rw [q1, q2, q4]; rfl
                  · skip
                    have q4 : decide (wr (A.1.ts - A0.1.ts) > p.within) = false := h11
                    refine CW_skip ?_
                    exact ⟨(), by rw [q1, q2, q4]; rfl, LE_sh (slh_set (v := .d (boo sm)) (slh_set (v := .d (.iptr (encE A0.1))) (slh_set (v := .d (.iptr (encBd ⟨((m : Nat) : Int), la⟩))) (slh_set (v := .d (.iptr (encBd ⟨((k : Nat) : Int), xa⟩))) (slh_set (v := .d (.iptr (encE A.1))) (slh_set (v := .d (.iptr (encP p))) (slh_set (v := .d (.iptr [encS s])) (slh_set (v := .d (SBd b)) (slh_set (v := .d (SK l)) (slh_no _ _) (by rfl) rfl) (by rfl) rfl) (by rfl) rfl) (by rfl) rfl) (by rfl) rfl) (by rfl) rfl) (by rfl) rfl) (by rfl) rfl) (by rfl) rfl) (hlh_no _ _)⟩
            · skip
              rintro _ hc2
              refine CW_seq ?_
              refine CW_region ?_
              refine OW_run' hE.ok 4 rfl ?_
              refine OW_call' hE (alikeOk s p A0.1 A.1) rfl rfl rfl rfl rfl rfl rfl ?_
              refine OW_run' hE.ok 1 rfl ?_
              refine OW_split' 114 rfl (fun h12 => ?_) (fun h12 => ?_)
              · skip
                have r1 : alikeX s p A0.1 A.1 = true := h12
                refine OW_run' hE.ok 7 rfl ?_
                refine OW_call' hE (takesOk s p l b k A.1 hr hf hb (by omega)) rfl rfl rfl rfl rfl rfl rfl ?_
                refine OW_run' hE.ok 2 rfl ?_
                refine OW_split' 124 rfl (fun h13 => ?_) (fun h13 => ?_)
                · skip
                  have r2 : takesX s p l b ((k : Nat) : Int) A.1 = true := h13
                  refine OW_run' hE.ok 2 rfl ?_
                  refine OW_split' 126 rfl (fun h14 => ?_) (fun h14 => ?_)
                  · skip
                    have r3 : sm = true := h14
                    refine OW_run' hE.ok 9 rfl ?_
                    refine OW_end rfl ?_
                    refine CW_ret ?_
                    refine ⟨.inr rfl, rfl, ⟨_, rfl, rfl, ?_⟩, rfl⟩
                    refine AVle.of (Eq.symm ((congrArg (fun z => AV.d (boo z)) hgo).trans ?_))
                    rw [hc2, r1, r2, r3]; rfl
                  · skip
                    have r3 : sm = false := h14
                    refine OW_run' hE.ok 5 rfl ?_
                    refine OW_call' hE (guardedOk s p l b ⟨((k : Nat) : Int), xa⟩ hr hf hb hb1 (Int.le_of_lt k0.2) hl) rfl rfl rfl rfl rfl rfl rfl ?_
                    refine OW_run' hE.ok 3 rfl ?_
                    refine OW_end rfl ?_
                    refine CW_ret ?_
                    refine ⟨.inr rfl, rfl, ⟨_, rfl, rfl, ?_⟩, rfl⟩
                    refine AVle.of (Eq.symm ((congrArg (fun z => AV.d (boo z)) hgo).trans ?_))
                    rw [hc2, r1, r2, r3]; rfl
                · skip
                  have r2 : takesX s p l b ((k : Nat) : Int) A.1 = false := h13
                  refine OW_run' hE.ok 11 rfl ?_
                  refine OW_end rfl ?_
                  refine CW_ret ?_
                  refine ⟨.inr rfl, rfl, ⟨_, rfl, rfl, ?_⟩, rfl⟩
                  refine AVle.of (Eq.symm ((congrArg (fun z => AV.d (boo z)) hgo).trans ?_))
                  rw [hc2, r1, r2]; rfl
              · skip
                have r1 : alikeX s p A0.1 A.1 = false := h12
                refine OW_run' hE.ok 21 rfl ?_
                refine OW_end rfl ?_
                refine CW_ret ?_
                refine ⟨.inr rfl, rfl, ⟨_, rfl, rfl, ?_⟩, rfl⟩
                refine AVle.of (Eq.symm ((congrArg (fun z => AV.d (boo z)) hgo).trans ?_))
                rw [hc2, r1]; rfl
end Go.Proofs.Ytaghhofbaoaajaa
namespace Go.Proofs.Ytaghhofbaoaajaa
open Go Go.AL
set_option linter.unusedVariables false
set_option linter.unusedSimpArgs false
set_option maxHeartbeats 4000000
theorem skipsOk (s : List Ty) (p : Pat) (l : List Kp) (b : List Bd) (to : Int) (hr : Rises l) (hf : Fits p b) (hb : b.length ≤ 999) (hb1 : 0 < b.length) (hl : p.els.length ≤ 1000) : Does Try.prog 48 [argS s, argP p, .d (SK l), .d (SBd b), .d (int to)] noHeap (.d (boo (skipsX s p l b to))) := by
  refine Does_of T_ok mixed (N := 49) Try.func48 rfl rfl rfl (by rfl) fun F n Z hE hF J => ?_
  obtain ⟨lst, hlst⟩ : ∃ q, b[b.length - 1]? = some q := ⟨_, List.getElem?_eq_getElem (by omega)⟩
  have hla := lastBd_at hlst
  obtain ⟨m, el, hm, hel, hex⟩ := hf.at hlst
  obtain ⟨le, la⟩ := lst
  have hm : le = (m : Int) := hm
  subst hm
  obtain ⟨lst, hls⟩ : ∃ q : Bd, q = ⟨((m : Nat) : Int), la⟩ := ⟨_, rfl⟩
  have hme : lst.el = ((m : Nat) : Int) := by rw [hls]
  rw [← hls] at hlst hla
  refine CW_seq ?_
  refine CW_region ?_
  refine OW_run' hE.ok 4 rfl ?_
  refine OW_alloc' hE 1 rfl rfl rfl rfl rfl rfl rfl ?_
  refine OW_end rfl ?_
  refine CW_seq ?_
  refine CW_region ?_
  refine OW_run' hE.ok 4 rfl ?_
  refine OW_as' 16 (.d (int ((b.length - 1 : Nat) : Int))) (by show AV.d (.lit (.int .i64 (IntKind.i64.wrap (((b.map encBd).length : Int) - 1)))) = _; rw [List.length_map, show ((b.length : Int) - 1) = ((b.length - 1 : Nat) : Int) by omega, wrapN (by omega)]; rfl) ?_
  refine OW_loc' hE (loc_indexAddr hE rfl rfl rfl rfl rfl (by omega) (x := encBd lst) (by rw [Int.toNat_natCast, List.getElem?_map, hlst]; rfl)) rfl rfl rfl ?_
  refine OW_run' hE.ok 1 rfl ?_
  refine OW_alloc' hE 2 rfl rfl rfl rfl rfl rfl rfl ?_
  refine OW_store' hE rfl rfl rfl rfl rfl rfl rfl rfl rfl rfl rfl rfl ?_
  refine OW.le (LE_freezeBox 2 (ds := encBd lst) rfl rfl) ?_
  refine OW_end rfl ?_
  refine CW_seq ?_
  refine CW_seq ?_
  refine CW_region ?_
  refine OW_run' hE.ok 4 rfl ?_
  refine OW_call' hE (betweenOk l lst.at_ to) rfl rfl rfl rfl rfl rfl rfl ?_
  refine OW_end rfl ?_
  refine CW_block ?_
  refine CW.le (show LE _ _ ⟨J, (sset (sset (sset (sset (sset (sset (sset noSlots 5 (.d (.iptr [encS s]))) 6 (.d (.iptr (encP p)))) 7 (.d (.iptr [SK l]))) 8 (.d (.iptr [SBd b]))) 10 (.ptr 1 0)) 11 (.d (.iptr (encBd lst)))) 23 (.d (.fn (.func 77) [] [.iptr [SK l], .iptr [int lst.at_], .iptr [int to]]))), (hset noHeap 1 (some (.box 4 [.d (boo false)])))⟩ from LE_sh (slh_set (v := .d (.fn (.func 77) [] [.iptr [SK l], .iptr [int lst.at_], .iptr [int to]])) (slh_set (v := .d (.iptr (encBd lst))) (slh_set (v := .ptr 1 0) (slh_set (v := .d (.iptr [SBd b])) (slh_set (v := .d (.iptr [SK l])) (slh_set (v := .d (.iptr (encP p))) (slh_set (v := .d (.iptr [encS s])) (slh_no _ _) (by rfl) rfl) (by rfl) rfl) (by rfl) rfl) (by rfl) rfl) (by rfl) rfl) (by rfl) rfl) (by rfl) rfl) (hlh_set (hlh_no _ _) rfl rfl)) ?_
  refine CW_rangeH hE hF (between1 l lst.at_ to) rfl rfl rfl (ysP_kf _) rfl 9 (fun _ => (hset noHeap 1 (some (.box 4 [.d (boo false)])))) (fun q => ∀ j k, j < q → (betweenX l lst.at_ to)[j]? = some k → (goesX s p l b ⟨lst.el, k.at_⟩ || goesX s p l b ⟨nextX p lst.el, k.at_⟩) = false) rfl (fun _ => rfl) (fun j k hj => absurd hj (Nat.not_lt_zero j)) (fun F' n' Z' Br Bb hE hB vs q args hargs hp => ?_) (fun hp vs => ?_)
  · skip
    obtain ⟨k, hk, rfl⟩ := ysP_of hargs
    refine CW_region ?_
    refine OW_alloc' hE 3 rfl rfl rfl rfl rfl rfl rfl ?_
    refine OW_store' hE rfl rfl rfl rfl rfl rfl rfl rfl rfl rfl rfl rfl ?_
    refine OW_end rfl ?_
    refine ⟨rfl, rfl, ?_⟩
    refine CW_block ?_
    refine CW_seq ?_
    refine CW_drawn' hE 23 (by decide +kernel) ?_
    refine HW_run hE 8 rfl rfl ?_
    refine HW_loc hE (loc_build hE rfl rfl) rfl rfl rfl rfl ?_
    refine HW_call hE (goesOk s p l b ⟨lst.el, k.at_⟩ hr hf hb hl) rfl rfl rfl rfl rfl rfl rfl rfl ?_
    refine HW_run hE 1 rfl rfl ?_
    refine HW_split 35 rfl (fun h1 => ?_) (fun h1 => ?_)
    · skip
      have t1 : goesX s p l b ⟨lst.el, k.at_⟩ = true := h1
      refine HW_run hE 12 rfl rfl ?_
      refine HW_end ?_
      refine OW_run' hE.ok 1 rfl ?_
      refine OW_end rfl ?_
      refine CW_true rfl ?_
      refine CW_seq ?_
      refine CW_region ?_
      refine OW_store' hE rfl rfl rfl rfl rfl rfl rfl rfl rfl rfl rfl rfl ?_
      refine OW_end rfl ?_
      refine CW_ret ⟨_, LE.refl _ _, J, _, fun h => h, rfl, rfl, ?_⟩
      refine ⟨.inr rfl, rfl, ⟨_, rfl, rfl, ?_⟩, rfl⟩
      rw [skips_yes (j := q) (k := k) (by rw [hla]; exact hk) (by rw [hla, t1]; rfl)]
      exact AVle.refl _
    · skip
      have t1 : goesX s p l b ⟨lst.el, k.at_⟩ = false := h1
      refine HW_run hE 7 rfl rfl ?_
      refine HW_as 42 (.d (int ((m : Nat) : Int))) (by exact congrArg (fun z => AV.d (int z)) hme) ?_
      refine HW_call hE (nextOk p m (List.getElem?_eq_some_iff.1 hel).1 hl) rfl rfl rfl rfl rfl rfl rfl rfl ?_
      refine HW_run hE 2 rfl rfl ?_
      refine HW_loc hE (loc_build hE rfl rfl) rfl rfl rfl rfl ?_
      refine HW_call hE ((by have h0 := goesOk s p l b ⟨nextX p lst.el, k.at_⟩ hr hf hb hl; rw [hme] at h0 ⊢; exact h0)) rfl rfl rfl rfl rfl rfl rfl rfl ?_
      refine HW_end ?_
      refine OW_run' hE.ok 1 rfl ?_
      refine OW_end rfl ?_
      refine CW_cond _ rfl (fun h2 => ?_) (fun h2 => ?_)
      · skip
        have t2 : goesX s p l b ⟨nextX p lst.el, k.at_⟩ = true := by rw [hme]; exact h2
        refine CW_seq ?_
        refine CW_region ?_
        refine OW_store' hE rfl rfl rfl rfl rfl rfl rfl rfl rfl rfl rfl rfl ?_
        refine OW_end rfl ?_
        refine CW_ret ⟨_, LE.refl _ _, J, _, fun h => h, rfl, rfl, ?_⟩
        refine ⟨.inr rfl, rfl, ⟨_, rfl, rfl, ?_⟩, rfl⟩
        rw [skips_yes (j := q) (k := k) (by rw [hla]; exact hk) (by rw [hla, t1, t2]; rfl)]
        exact AVle.refl _
      · skip
        have t2 : goesX s p l b ⟨nextX p lst.el, k.at_⟩ = false := by rw [hme]; exact h2
        refine CW_skip ?_
        have hno : (goesX s p l b ⟨lst.el, k.at_⟩ || goesX s p l b ⟨nextX p lst.el, k.at_⟩) = false := by rw [t1, t2]; rfl
        refine ⟨⟨Bb J, noSlots, (hset (hset noHeap 1 (some (.box 4 [.d (boo false)]))) 9 (some (.ghost _ vs)))⟩, LE_sh (slh_no _ _) (hlh_set (hlh_set (hlh_no _ _) rfl rfl) rfl rfl), J, rfl, rfl, rfl, fun j k' hj hk' => ?_⟩
        by_cases hji : j = q
        · subst hji; rw [hk] at hk'; cases hk'; exact hno
        · exact hp j k' (by omega) hk'
  · skip
    refine CW_seq ?_
    refine CW_region ?_
    refine OW_store' hE rfl rfl rfl rfl rfl rfl rfl rfl rfl rfl rfl rfl ?_
    refine OW_end rfl ?_
    refine CW_ret ?_
    refine ⟨.inr rfl, rfl, ⟨_, rfl, rfl, ?_⟩, rfl⟩
    rw [skips_no (by rw [hla]; exact fun j k hj hk => hp j k (by rw [ysP_length]; exact hj) hk)]
    exact AVle.refl _

theorem prefixOk (s : List Ty) (p : Pat) (l : List Kp) (b : List Bd) (hr : Rises l) (hb : b.length ≤ 999) (hl : p.els.length ≤ 1000) : Does Try.prog 35 [argS s, argP p, .d (SK l), .d (SBd b)] noHeap (.d (boo (prefixX s p l b))) := by
  refine Does_of T_ok mixed (N := 51) Try.func35 rfl rfl rfl (by rfl) fun F n Z hE hF J => ?_
  refine CW_seq ?_
  refine CW_region ?_
  refine OW_run' hE.ok 3 rfl ?_
  refine OW_end rfl ?_
  refine CW_seq ?_
  refine CW_seq ?_
  refine CW_region ?_
  refine OW_run' hE.ok 3 rfl ?_
  refine OW_end rfl ?_
  refine CW_block ?_
  refine CW_loop (σ := {i : Nat // i ≤ b.length ∧ ∀ j y, j < i → b[j]? = some y → prefAt s p l b j y = true}) (fun i => ⟨J, (sset (sset (sset (sset (sset (sset (sset noSlots 2 (.d (SK l))) 3 (.d (SBd b))) 4 (.d (.iptr [encS s]))) 5 (.d (.iptr (encP p)))) 11 (.d (SBd b))) 12 (.d (int ((b.length : Nat) : Int)))) 13 (.d (int ((i.1 : Nat) : Int)))), noHeap⟩) (fun i => b.length - i.1) ⟨0, Nat.zero_le _, by omega⟩ (LE_sh (slh_set (slh_set (slh_set (slh_set (slh_set (slh_set (slh_set (slh_no _ _) rfl rfl) rfl rfl) rfl rfl) rfl rfl) rfl rfl) (by show AV.d (.lit (.int .i64 ((b.map encBd).length : Int))) = _; rw [List.length_map]; rfl) rfl) rfl rfl) (hlh_no _ _)) fun ⟨i, hi, hp⟩ => ?_
  refine CW_seq ?_
  refine CW_region ?_
  refine OW_run' hE.ok 1 rfl ?_
  refine OW_end rfl ?_
  refine CW_seq ?_
  refine CW_cond _ rfl (fun h1 => ?_) (fun h1 => ?_)
  · skip
    have hlt : i < b.length := by have := h1; simp at this; omega
    obtain ⟨x, hx⟩ : ∃ x, b[i]? = some x := ⟨_, List.getElem?_eq_getElem hlt⟩
    have hfi := pref_fits hp
    have hbi : (b.take i).length ≤ 999 := by rw [List.length_take]; omega
    refine CW_skip ?_
    refine CW_seq ?_
    refine CW_block ?_
    refine CW_seq ?_
    refine CW_region ?_
    refine OW_run' hE.ok 1 rfl ?_
    refine OW_loc' hE (loc_indexAddr hE rfl rfl rfl rfl rfl (by omega) (x := encBd x) (by simp [hx])) rfl rfl rfl ?_
    refine OW_run' hE.ok 1 rfl ?_
    refine OW_alloc' hE 1 rfl rfl rfl rfl rfl rfl rfl ?_
    refine OW_run' hE.ok 1 rfl ?_
    refine OW_store' hE rfl rfl rfl rfl rfl rfl rfl rfl rfl rfl rfl rfl ?_
    refine OW_end rfl ?_
    refine CW_seq ?_
    refine CW_drawn' hE 28 (by decide +kernel) ?_
    refine HW_run hE 5 rfl rfl ?_
    refine HW_loc hE (loc_slice hE (lo := none) (hi := some (.tmp 22)) rfl rfl rfl rfl (l := 0) (u := i) rfl ⟨.i64, rfl⟩ (by omega) (by simp; omega)) rfl rfl rfl rfl ?_
    refine HW_as 23 (.d (SBd (b.take i))) (by unfold SBd; rw [List.map_take]; rfl) ?_
    refine HW_run hE 1 rfl rfl ?_
    refine HW_call hE (goesOk s p l (b.take i) x hr hfi hbi hl) rfl rfl rfl rfl rfl rfl rfl rfl ?_
    refine HW_run hE 2 rfl rfl ?_
    refine HW_split 27 rfl (fun h2 => ?_) (fun h2 => ?_)
    · skip
      have g1 : (!goesX s p l (b.take i) x) = true := h2
      refine HW_run hE 18 rfl rfl ?_
      refine HW_end ?_
      refine OW_run' hE.ok 1 rfl ?_
      refine OW_end rfl ?_
      refine CW_true rfl ?_
      refine CW_seq ?_
      refine CW_region ?_
      refine OW_run' hE.ok 1 rfl ?_
      refine OW_end rfl ?_
      refine CW_ret ?_
      refine ⟨.inr rfl, rfl, ⟨_, rfl, rfl, ?_⟩, rfl⟩
      rw [pref_no hx (show prefAt s p l b i x = false by unfold prefAt; rw [g1]; rfl)]
      exact AVle.refl _
    · skip
      have g1 : (!goesX s p l (b.take i) x) = false := h2
      refine HW_run hE 4 rfl rfl ?_
      refine HW_split 31 rfl (fun h3 => ?_) (fun h3 => ?_)
      · skip
        have g2 : (!p.any) = true := h3
        refine HW_run hE 4 rfl rfl ?_
        refine HW_split 35 rfl (fun h4 => ?_) (fun h4 => ?_)
        · skip
          have g3 : decide (((i : Nat) : Int) > 0) = true := h4
          refine HW_run hE 5 rfl rfl ?_
          refine HW_loc hE (loc_slice hE (lo := none) (hi := some (.tmp 40)) rfl rfl rfl rfl (l := 0) (u := i) rfl ⟨.i64, rfl⟩ (by omega) (by simp; omega)) rfl rfl rfl rfl ?_
          refine HW_as 41 (.d (SBd (b.take i))) (by unfold SBd; rw [List.map_take]; rfl) ?_
          refine HW_run hE 2 rfl rfl ?_
          refine HW_call hE (skipsOk s p l (b.take i) x.at_ hr hfi hbi (take_pos hx g3) hl) rfl rfl rfl rfl rfl rfl rfl rfl ?_
          refine HW_run hE 1 rfl rfl ?_
          refine HW_end ?_
          refine OW_run' hE.ok 1 rfl ?_
          refine OW_end rfl ?_
          refine CW_cond _ rfl (fun h5 => ?_) (fun h5 => ?_)
          · skip
            have g4 : skipsX s p l (b.take i) x.at_ = true := h5
            refine CW_seq ?_
            refine CW_region ?_
            refine OW_run' hE.ok 1 rfl ?_
            refine OW_end rfl ?_
            refine CW_ret ?_
            refine ⟨.inr rfl, rfl, ⟨_, rfl, rfl, ?_⟩, rfl⟩
            rw [pref_no hx (show prefAt s p l b i x = false by unfold prefAt; rw [g1, g2, show decide (i > 0) = decide (((i : Nat) : Int) > 0) from decide_eq_decide.2 (by omega), g3, g4]; rfl)]
            exact AVle.refl _
          · skip
            have g4 : skipsX s p l (b.take i) x.at_ = false := h5
            refine CW_skip ?_
            refine CW_region ?_
            refine OW_run' hE.ok 2 rfl ?_
            refine OW_end rfl ?_
            have hpa : prefAt s p l b i x = true := by unfold prefAt; rw [g1, g2, show decide (i > 0) = decide (((i : Nat) : Int) > 0) from decide_eq_decide.2 (by omega), g3, g4]; rfl
            refine ⟨⟨i + 1, by omega, fun j y hj hy => ?_⟩, LE_sh (slh_set (v := .d (int ((i + 1 : Nat) : Int))) (slh_set (v := .d (int ((b.length : Nat) : Int))) (slh_set (v := .d (SBd b)) (slh_set (v := .d (.iptr (encP p))) (slh_set (v := .d (.iptr [encS s])) (slh_set (v := .d (SBd b)) (slh_set (v := .d (SK l)) (slh_no _ _) (by rfl) rfl) (by rfl) rfl) (by rfl) rfl) (by rfl) rfl) (by rfl) rfl) (by rfl) rfl) (by show AV.d (.lit (.int .i64 (IntKind.i64.wrap ((i : Int) + 1)))) = _; rw [wrap_succ (by omega)]; rfl) rfl) (hlh_no _ _), by show b.length - (i + 1) < b.length - i; omega⟩
            by_cases hji : j = i
            · subst hji; rw [hx] at hy; cases hy; exact hpa
            · exact hp j y (by omega) hy
        · skip
          have g3 : decide (((i : Nat) : Int) > 0) = false := h4
          refine HW_run hE 10 rfl rfl ?_
          refine HW_end ?_
          refine OW_run' hE.ok 1 rfl ?_
          refine OW_end rfl ?_
          refine CW_false rfl ?_
          refine CW_skip ?_
          refine CW_region ?_
          refine OW_run' hE.ok 2 rfl ?_
          refine OW_end rfl ?_
          have hpa : prefAt s p l b i x = true := by unfold prefAt; rw [g1, g2, show decide (i > 0) = decide (((i : Nat) : Int) > 0) from decide_eq_decide.2 (by omega), g3]; rfl
          refine ⟨⟨i + 1, by omega, fun j y hj hy => ?_⟩, LE_sh (slh_set (v := .d (int ((i + 1 : Nat) : Int))) (slh_set (v := .d (int ((b.length : Nat) : Int))) (slh_set (v := .d (SBd b)) (slh_set (v := .d (.iptr (encP p))) (slh_set (v := .d (.iptr [encS s])) (slh_set (v := .d (SBd b)) (slh_set (v := .d (SK l)) (slh_no _ _) (by rfl) rfl) (by rfl) rfl) (by rfl) rfl) (by rfl) rfl) (by rfl) rfl) (by rfl) rfl) (by show AV.d (.lit (.int .i64 (IntKind.i64.wrap ((i : Int) + 1)))) = _; rw [wrap_succ (by omega)]; rfl) rfl) (hlh_no _ _), by show b.length - (i + 1) < b.length - i; omega⟩
          by_cases hji : j = i
          · subst hji; rw [hx] at hy; cases hy; exact hpa
          · exact hp j y (by omega) hy
      · skip
        have g2 : (!p.any) = false := h3
        refine HW_run hE 14 rfl rfl ?_
        refine HW_end ?_
        refine OW_run' hE.ok 1 rfl ?_
        refine OW_end rfl ?_
        refine CW_false rfl ?_
        refine CW_skip ?_
        refine CW_region ?_
        refine OW_run' hE.ok 2 rfl ?_
        refine OW_end rfl ?_
        have hpa : prefAt s p l b i x = true := by unfold prefAt; rw [g1, g2]; rfl
        refine ⟨⟨i + 1, by omega, fun j y hj hy => ?_⟩, LE_sh (slh_set (v := .d (int ((i + 1 : Nat) : Int))) (slh_set (v := .d (int ((b.length : Nat) : Int))) (slh_set (v := .d (SBd b)) (slh_set (v := .d (.iptr (encP p))) (slh_set (v := .d (.iptr [encS s])) (slh_set (v := .d (SBd b)) (slh_set (v := .d (SK l)) (slh_no _ _) (by rfl) rfl) (by rfl) rfl) (by rfl) rfl) (by rfl) rfl) (by rfl) rfl) (by rfl) rfl) (by show AV.d (.lit (.int .i64 (IntKind.i64.wrap ((i : Int) + 1)))) = _; rw [wrap_succ (by omega)]; rfl) rfl) (hlh_no _ _), by show b.length - (i + 1) < b.length - i; omega⟩
        by_cases hji : j = i
        · subst hji; rw [hx] at hy; cases hy; exact hpa
        · exact hp j y (by omega) hy
  · skip
    have hge : b.length ≤ i := by have := h1; simp at this; omega
    refine CW_exit ?_
    show CW _ _ _ _
    refine CW_seq ?_
    refine CW_region ?_
    refine OW_run' hE.ok 4 rfl ?_
    refine OW_end rfl ?_
    refine CW_ret ?_
    refine ⟨.inr rfl, rfl, ⟨_, rfl, rfl, ?_⟩, rfl⟩
    refine AVle.of (Eq.trans (b := .d (boo (decide (((b.map encBd).length : Int) > 0)))) rfl (congrArg (fun z => AV.d (boo z)) ?_))
    rw [List.length_map]
    exact (pref_all fun j x hj hx => hp j x (by omega) hx).symm
end Go.Proofs.Ytaghhofbaoaajaa
namespace Go.Proofs.Ytaghhofbaoaajaa
open Go Go.AL
set_option linter.unusedVariables false
set_option linter.unusedSimpArgs false
set_option maxHeartbeats 4000000
theorem cloneBd (l : List Bd) : Does Try.prog 34 [.d (SBd l)] (oneRow 45 2 (l.map encBd)) (.row 0) := by
  refine Does_ofRow T_ok mixed (N := 8) Try.func34 rfl rfl rfl (by rfl) fun F n Z hE hF J => ?_
  refine CW_know (know_sl (d := 0) rfl) fun hlen => ?_
  rw [List.length_map] at hlen
  refine CW_seq ?_
  refine CW_region ?_
  refine OW_run' hE.ok 1 rfl ?_
  refine OW_end rfl ?_
  refine CW_seq ?_
  refine CW_seq ?_
  refine CW_region ?_
  refine OW_run' hE.ok 1 rfl ?_
  refine OW_eqNil' hE rfl rfl rfl rfl rfl rfl rfl rfl (fun b hb => ?_)
  refine OW_end rfl ?_
  refine CW_cond _ rfl (fun h1 => ?_) (fun h1 => ?_)
  · skip
    refine CW_seq ?_
    refine CW_region ?_
    refine OW_run' hE.ok 1 rfl ?_
    refine OW.le (LE_nilSlot 2 7 45 2 rfl rfl) ?_
    refine OW_end rfl ?_
    refine CW_ret ⟨.inr rfl, rfl, 7, rfl, ?_⟩
    rw [hb h1]
    rfl
  · skip
    refine CW_skip ?_
    refine CW_seq ?_
    refine CW_region ?_
    refine OW_litsOwn' hE 7 rfl rfl rfl rfl rfl rfl rfl rfl rfl rfl rfl rfl ?_
    refine OW_run' hE.ok 1 rfl ?_
    refine OW_append' hE (key := 7) rfl rfl rfl rfl rfl rfl rfl rfl (.inl rfl) (by simp; omega) (by simp; omega) rfl ?_
    refine OW_run' hE.ok 1 rfl ?_
    refine OW_end rfl ?_
    exact CW_ret ⟨.inr rfl, rfl, 7, rfl, rfl⟩

theorem withOk (s : List Ty) (p : Pat) (l : List Kp) (r : List Bd) (e : Int) (hr : Rises l) (hl : l.length ≤ 100000) (hb : r.length ≤ 998) (hp : p.els.length ≤ 1000) : Does Try.prog 22 [argS s, argP p, .d (SK l), argRun r, .d (int e)] noHeap (.tup [argRun (withX s p l r e).1, .d (boo (withX s p l r e).2)]) := by
  refine Does_of T_ok mixed (N := 43) Try.func22 rfl rfl rfl (by rfl) fun F n Z hE hF J => ?_
  obtain ⟨els, wi, byf, any⟩ := p
  obtain ⟨A, hA⟩ : ∃ A, lastK l = A := ⟨_, rfl⟩
  have hlk := lastKOk l hl
  rw [hA] at hlk
  refine CW_seq ?_
  refine CW_region ?_
  refine OW_run' hE.ok 1 rfl ?_
  refine OW_box' hE 1 rfl rfl rfl rfl rfl rfl ?_
  refine OW_run' hE.ok 1 rfl ?_
  refine OW_alloc' hE 2 rfl rfl rfl rfl rfl rfl rfl ?_
  refine OW_run' hE.ok 1 rfl ?_
  refine OW_end rfl ?_
  refine CW_seq ?_
  refine CW_region ?_
  refine OW_run' hE.ok 1 rfl ?_
  refine OW_call' hE (hlk) rfl rfl rfl rfl rfl rfl rfl ?_
  refine OW_run' hE.ok 3 rfl ?_
  refine OW_alloc' hE 3 rfl rfl rfl rfl rfl rfl rfl ?_
  refine OW_store' hE rfl rfl rfl rfl rfl rfl rfl rfl rfl rfl rfl rfl ?_
  refine OW_run' hE.ok 1 rfl ?_
  refine OW.le (LE_freezeBox 3 (ds := encK A.1) rfl rfl) ?_
  refine OW_end rfl ?_
  refine CW_seq ?_
  refine CW_seq ?_
  refine CW_region ?_
  refine OW_run' hE.ok 2 rfl ?_
  refine OW_end rfl ?_
  refine CW_cond _ rfl (fun h1 => ?_) (fun h1 => ?_)
  · skip
    have g1 : A.2 = false := by have := h1; simpa using this
    refine CW_seq ?_
    refine CW_region ?_
    refine OW_build' hE rfl rfl rfl rfl rfl ?_
    refine OW_store' hE rfl rfl rfl rfl rfl rfl rfl rfl rfl rfl rfl rfl ?_
    refine OW_run' hE.ok 1 rfl ?_
    refine OW_end rfl ?_
    refine CW_ret ?_
    refine ⟨.inr rfl, rfl, ⟨_, rfl, rfl, ?_⟩, rfl⟩
    rw [with_1 hA g1]
    exact AVle.tup (.cons (AVle.agg (.cons (AVle.nilSl 2 16) .nil)) (.cons (.refl _) .nil))
  · skip
    have g1 : A.2 = true := by have := h1; simpa using this
    have hw := with_2 (s := s) (p := ⟨els, wi, byf, any⟩) (r := r) (k := e) hA g1
    simp only at hw
    refine CW_skip ?_
    refine CW_seq ?_
    have okW : Tga.Ok (⟨[(2, .box 48 [.d (.lit (.slice none 0 0))]), (1, .box 43 [.d (.sl 11 144 (els.map encL)), .d (int wi), .d (str byf), .d (boo any)])], ⟨2, 8, 60, 45, 2, r.map encBd, [encBd ⟨e, A.1.at_⟩]⟩, 10, 40, .box 48 [.d (.lit (.slice none 0 0))]⟩ : Tga) := ⟨by show (60 : Nat) ≠ 40; decide, rfl, rfl⟩
    have nd : (Tga.qs (⟨[(2, .box 48 [.d (.lit (.slice none 0 0))]), (1, .box 43 [.d (.sl 11 144 (els.map encL)), .d (int wi), .d (str byf), .d (boo any)])], ⟨2, 8, 60, 45, 2, r.map encBd, [encBd ⟨e, A.1.at_⟩]⟩, 10, 40, .box 48 [.d (.lit (.slice none 0 0))]⟩ : Tga)).Nodup := by show ([2, 8, 10] : List Nat).Nodup; decide
    have nk60 : ∀ j, nokey 60 ((sset (sset (sset (sset (sset (sset (sset noSlots 2 (.d (SK l))) 5 (.d (.iptr [encS s]))) 6 (.ptr 1 0)) 10 (.ptr 2 0)) 4 (.d (int e))) 8 (.d (.iptr [SBd r]))) 12 (.d (.iptr (encK A.1)))) j) = true := by repeat (first | exact nokeyS_no _ | refine nokeyS_set ?_ rfl)
    refine CW.le (show LE _ _ ⟨J, (sset (sset (sset (sset (sset (sset (sset noSlots 2 (.d (SK l))) 5 (.d (.iptr [encS s]))) 6 (.ptr 1 0)) 10 (.ptr 2 0)) 4 (.d (int e))) 8 (.d (.iptr [SBd r]))) 12 (.d (.iptr (encK A.1)))), (hset (hset noHeap 1 (some (.box 43 [.d (.sl 11 144 (els.map encL)), .d (int wi), .d (str byf), .d (boo any)]))) 2 (some (.box 48 [.d (.lit (.slice none 0 0))])))⟩ from LE_sh (slh_set (v := .d (.iptr (encK A.1))) (slh_set (v := .d (.iptr [SBd r])) (slh_set (v := .d (int e)) (slh_set (v := .ptr 2 0) (slh_set (v := .ptr 1 0) (slh_set (v := .d (.iptr [encS s])) (slh_set (v := .d (SK l)) (slh_no _ _) (by rfl) rfl) (by rfl) rfl) (by rfl) rfl) (by rfl) rfl) (by rfl) rfl) (by rfl) rfl) (by rfl) rfl) (hlh_set (hlh_set (hlh_no _ _) rfl rfl) rfl rfl)) ?_
    refine CW_drawnY hE 11 ⟨[2, 8, 10], Tga.H (⟨[(2, .box 48 [.d (.lit (.slice none 0 0))]), (1, .box 43 [.d (.sl 11 144 (els.map encL)), .d (int wi), .d (str byf), .d (boo any)])], ⟨2, 8, 60, 45, 2, r.map encBd, [encBd ⟨e, A.1.at_⟩]⟩, 10, 40, .box 48 [.d (.lit (.slice none 0 0))]⟩ : Tga), [(8, 60)], [(8, 25)]⟩ (by decide +kernel) (by kernel_rfl) rfl (fun b b' hb => Tga.dep (hb 2 (by simp)) (hb 8 (by simp)) (hb 10 (by simp))) (fun q k hm _ j _ => by simp at hm; obtain ⟨rfl, rfl⟩ := hm; exact nk60 j) (LE_eq (Tga.start (t := (⟨[(2, .box 48 [.d (.lit (.slice none 0 0))]), (1, .box 43 [.d (.sl 11 144 (els.map encL)), .d (int wi), .d (str byf), .d (boo any)])], ⟨2, 8, 60, 45, 2, r.map encBd, [encBd ⟨e, A.1.at_⟩]⟩, 10, 40, .box 48 [.d (.lit (.slice none 0 0))]⟩ : Tga)) rfl rfl).symm) ?_
    refine HY_run hE 2 (h0 := noHeap) (fun _ => noHeap_no) rfl rfl rfl ?_
    refine HY_callRow hE 60 (cloneBd r) rfl rfl rfl rfl rfl rfl rfl rfl rfl (fun b hb => (Tga.new okW nd hb rfl (by kernel_rfl)).1) (fun b hb => (Tga.new okW nd hb rfl (by kernel_rfl)).2) ?_
    refine HY_run hE 3 (h0 := noHeap) (fun _ => noHeap_no) rfl rfl rfl ?_
    refine HY_loc2 hE rfl rfl rfl (fun b hb => loc_build hE rfl rfl) rfl rfl rfl ?_
    refine HY_loc2 hE rfl rfl rfl (fun b hb => loc_lits hE (t := 46) (len := 1) (parts := #[(0, .tmp 29)]) rfl rfl rfl rfl rfl rfl rfl rfl (xs := [encBd ⟨e, A.1.at_⟩]) rfl) rfl rfl rfl ?_
    refine HY_append hE (key := 60) rfl rfl rfl rfl rfl rfl rfl rfl rfl rfl rfl (.inl rfl) (by simp; omega) (by simp; omega) rfl (fun b hb => (Tga.more okW nd hb (by kernel_rfl)).1) (fun b hb => (Tga.more okW nd hb (by kernel_rfl)).2) ?_
    refine HY_loc2 hE rfl rfl rfl (fun b hb => loc_build hE rfl rfl) rfl rfl (by kernel_rfl) ?_
    refine HY_alloc hE rfl rfl rfl rfl rfl rfl rfl rfl rfl (fun b hb => (Tga.alloc okW nd hb).1) (fun b hb => (Tga.alloc okW nd hb).2) ?_
    refine HY_end ?_
    refine OW.le (show LE _ _ ⟨J, (sset (sset (sset (sset (sset (sset noSlots 2 (.d (SK l))) 5 (.d (.iptr [encS s]))) 6 (.ptr 1 0)) 10 (.ptr 2 0)) 14 (.ptr 40 0)) 32 (.agg [.row 60])), (hset (hset (hset (hset noHeap 1 (some (.box 43 [.d (.sl 11 144 (els.map encL)), .d (int wi), .d (str byf), .d (boo any)]))) 2 (some (.box 48 [.d (.lit (.slice none 0 0))]))) 60 (some (.row 45 2 (r.map encBd ++ [encBd ⟨e, A.1.at_⟩])))) 40 (some (.box 48 [.d (.lit (.slice none 0 0))])))⟩ from LE_sh (slh_set (v := .agg [.row 60]) (slh_set (v := .ptr 40 0) (slh_set (v := .ptr 2 0) (slh_set (v := .ptr 1 0) (slh_set (v := .d (.iptr [encS s])) (slh_set (v := .d (SK l)) (slh_no _ _) (by rfl) rfl) (by rfl) rfl) (by rfl) rfl) (by rfl) rfl) (by rfl) rfl) (by rfl) rfl) (hlh_set (hlh_set (hlh_set (hlh_set (hlh_no _ _) rfl rfl) rfl rfl) rfl rfl) rfl rfl)) ?_
    refine OW_store' hE rfl rfl rfl rfl rfl rfl rfl rfl rfl rfl rfl rfl ?_
    refine OW.le (LE_freeze 60 16 rfl (by simp; omega)) ?_
    refine OW.le (LE_freezeBox 40 (ds := [.sl 2 16 (r.map encBd ++ [encBd ⟨e, A.1.at_⟩])]) rfl rfl) ?_
    refine OW_end rfl ?_
    refine CW_seq ?_
    refine CW.le (show LE _ _ ⟨J, (sset (sset (sset (sset (sset noSlots 2 (.d (SK l))) 5 (.d (.iptr [encS s]))) 6 (.ptr 1 0)) 10 (.ptr 2 0)) 14 (.d (.iptr [SBd (r ++ [⟨e, A.1.at_⟩])]))), (hset (hset noHeap 1 (some (.box 43 [.d (.sl 11 144 (els.map encL)), .d (int wi), .d (str byf), .d (boo any)]))) 2 (some (.box 48 [.d (.lit (.slice none 0 0))])))⟩ from LE_sh (slh_set (v := .d (.iptr [SBd (r ++ [⟨e, A.1.at_⟩])])) (slh_set (v := .ptr 2 0) (slh_set (v := .ptr 1 0) (slh_set (v := .d (.iptr [encS s])) (slh_set (v := .d (SK l)) (slh_no _ _) (by rfl) rfl) (by rfl) rfl) (by rfl) rfl) (by rfl) rfl) (by show AV.d (.iptr [.sl 2 16 (r.map encBd ++ [encBd ⟨e, A.1.at_⟩])]) = _; unfold SBd; rw [List.map_append]; rfl) rfl) (hlh_set (hlh_set (hlh_no _ _) rfl rfl) rfl rfl)) ?_
    refine CW_region ?_
    refine OW_run' hE.ok 1 rfl ?_
    refine OW_store' hE rfl rfl rfl rfl rfl rfl rfl rfl rfl rfl rfl rfl ?_
    refine OW_end rfl ?_
    refine CW_seq ?_
    refine CW_seq ?_
    refine CW_region ?_
    refine OW_run' hE.ok 5 rfl ?_
    refine OW_call' hE (prefixOk s ⟨els, wi, byf, true⟩ l (r ++ [⟨e, A.1.at_⟩]) hr (by simp; omega) hp) rfl rfl rfl rfl rfl rfl rfl ?_
    refine OW_run' hE.ok 1 rfl ?_
    refine OW_end rfl ?_
    refine CW_cond _ rfl (fun h2 => ?_) (fun h2 => ?_)
    · skip
      have g2 : prefixX s ⟨els, wi, byf, true⟩ l (r ++ [⟨e, A.1.at_⟩]) = false := by have := h2; simpa using this
      refine CW_seq ?_
      refine CW_region ?_
      refine OW_build' hE rfl rfl rfl rfl rfl ?_
      refine OW_store' hE rfl rfl rfl rfl rfl rfl rfl rfl rfl rfl rfl rfl ?_
      refine OW_run' hE.ok 1 rfl ?_
      refine OW_end rfl ?_
      refine CW_ret ?_
      refine ⟨.inr rfl, rfl, ⟨_, rfl, rfl, ?_⟩, rfl⟩
      rw [hw, g2]
      exact AVle.tup (.cons (AVle.agg (.cons (AVle.nilSl 2 16) .nil)) (.cons (.refl _) .nil))
    · skip
      have g2 : prefixX s ⟨els, wi, byf, true⟩ l (r ++ [⟨e, A.1.at_⟩]) = true := by have := h2; simpa using this
      refine CW_skip ?_
      refine CW_seq ?_
      refine CW_region ?_
      refine OW_run' hE.ok 1 rfl ?_
      refine OW_store' hE rfl rfl rfl rfl rfl rfl rfl rfl rfl rfl rfl rfl ?_
      refine OW_run' hE.ok 1 rfl ?_
      refine OW_end rfl ?_
      refine CW_ret ?_
      refine ⟨.inr rfl, rfl, ⟨_, rfl, rfl, ?_⟩, rfl⟩
      rw [hw, g2]
      exact AVle.refl _
end Go.Proofs.Ytaghhofbaoaajaa
namespace Go.Proofs.Ytaghhofbaoaajaa
open Go Go.AL
set_option linter.unusedVariables false
set_option linter.unusedSimpArgs false
set_option maxHeartbeats 4000000
theorem startOk (s : List Ty) (p : Pat) (l : List Kp) (hr : Rises l) (hl : l.length ≤ 100000) (hp : p.els.length ≤ 1000) : Does Try.prog 15 [argS s, argP p, .d (SK l)] noHeap (.tup [argRun (startX s p l).1, .d (boo (startX s p l).2)]) := by
  refine Does_of T_ok mixed (N := 15) Try.func15 rfl rfl rfl (by rfl) fun F n Z hE hF J => ?_
  refine CW_seq ?_
  refine CW_region ?_
  refine OW_run' hE.ok 2 rfl ?_
  refine OW_alloc' hE 1 rfl rfl rfl rfl rfl rfl rfl ?_
  refine OW_run' hE.ok 1 rfl ?_
  refine OW_end rfl ?_
  refine CW_seq ?_
  refine CW_region ?_
  refine OW_run' hE.ok 3 rfl ?_
  refine OW_build' hE rfl rfl rfl rfl rfl ?_
  refine OW_call' hE ((Does_le (AVles.cons (AVle.refl _) (AVles.cons (AVle.refl _) (AVles.cons (AVle.refl _) (AVles.cons (AVle.agg (.cons (AVle.nilSl 2 16) .nil)) (AVles.cons (AVle.refl _) AVles.nil))))) (withOk s p l [] 0 hr hl (by simp) hp))) rfl rfl rfl rfl rfl rfl rfl ?_
  refine OW_run' hE.ok 2 rfl ?_
  refine OW_store' hE rfl rfl rfl rfl rfl rfl rfl rfl rfl rfl rfl rfl ?_
  refine OW_run' hE.ok 1 rfl ?_
  refine OW_end rfl ?_
  refine CW_ret ?_
  refine ⟨.inr rfl, rfl, ⟨_, rfl, rfl, ?_⟩, rfl⟩
  unfold startX
  exact AVle.refl _

theorem doneOk (p : Pat) (r : List Bd) (hr : r.length ≤ 100000) (hp : p.els.length ≤ 1000) : Does Try.prog 16 [argP p, argRun r] noHeap (.d (boo (doneX p r))) := by
  refine Does_of T_ok mixed (N := 23) Try.func16 rfl rfl rfl (by rfl) fun F n Z hE hF J => ?_
  obtain ⟨A, hA⟩ : ∃ A, lastD r = A := ⟨_, rfl⟩
  have hlk := lastDOk r hr
  rw [hA] at hlk
  refine CW_seq ?_
  refine CW_region ?_
  refine OW_run' hE.ok 3 rfl ?_
  refine OW_end rfl ?_
  refine CW_seq ?_
  refine CW_region ?_
  refine OW_run' hE.ok 2 rfl ?_
  refine OW_call' hE (hlk) rfl rfl rfl rfl rfl rfl rfl ?_
  refine OW_run' hE.ok 3 rfl ?_
  refine OW_alloc' hE 1 rfl rfl rfl rfl rfl rfl rfl ?_
  refine OW_store' hE rfl rfl rfl rfl rfl rfl rfl rfl rfl rfl rfl rfl ?_
  refine OW_run' hE.ok 1 rfl ?_
  refine OW.le (LE_freezeBox 1 (ds := encBd A.1) rfl rfl) ?_
  refine OW_end rfl ?_
  refine CW_seq ?_
  refine CW_region ?_
  refine OW_run' hE.ok 2 rfl ?_
  refine OW_split' 14 rfl (fun h1 => ?_) (fun h1 => ?_)
  · skip
    have g1 : A.2 = true := h1
    refine OW_run' hE.ok 6 rfl ?_
    refine OW_as' 20 (.d (int ((p.els.length : Int) - 1))) (by show AV.d (.lit (.int .i64 (IntKind.i64.wrap (((p.els.map encL).length : Int) - 1)))) = _; rw [List.length_map, wrap_id _ _ (by simp [IntKind.min, IntKind.signed, IntKind.bits]; omega) (by simp [IntKind.max, IntKind.signed, IntKind.bits]; omega)]; rfl) ?_
    refine OW_run' hE.ok 1 rfl ?_
    refine OW_run' hE.ok 2 rfl ?_
    refine OW_end rfl ?_
    refine CW_ret ?_
    refine ⟨.inr rfl, rfl, ⟨_, rfl, rfl, ?_⟩, rfl⟩
    rw [done_2 hA g1]
    exact AVle.refl _
  · skip
    have g1 : A.2 = false := h1
    refine OW_run' hE.ok 9 rfl ?_
    refine OW_end rfl ?_
    refine CW_ret ?_
    refine ⟨.inr rfl, rfl, ⟨_, rfl, rfl, ?_⟩, rfl⟩
    rw [done_1 hA g1]
    exact AVle.refl _

theorem takeOk (s : List Ty) (p : Pat) (l : List Kp) (r : List Bd) (hr : Rises l) (hl : l.length ≤ 100000) (hb : r.length ≤ 998) (hp : p.els.length ≤ 1000) (hf : (lastD r).2 = true → ∃ m : Nat, (lastD r).1.el = (m : Int) ∧ m ≤ 1000) : Does Try.prog 10 [argS s, argP p, .d (SK l), argRun r] (oneRow 48 1 ((takeX s p l r).map encR)) (.row 0) := by
  refine Does_ofRow T_ok mixed (N := 81) Try.func10 rfl rfl rfl (by rfl) fun F n Z hE hF J => ?_
  obtain ⟨A, hA⟩ : ∃ A, lastD r = A := ⟨_, rfl⟩
  have hlk := lastDOk r (by omega)
  rw [hA] at hlk hf
  refine CW_seq ?_
  refine CW_region ?_
  refine OW_run' hE.ok 4 rfl ?_
  refine OW_end rfl ?_
  refine CW_seq ?_
  refine CW_region ?_
  refine OW_run' hE.ok 2 rfl ?_
  refine OW_call' hE (hlk) rfl rfl rfl rfl rfl rfl rfl ?_
  refine OW_run' hE.ok 3 rfl ?_
  refine OW_alloc' hE 1 rfl rfl rfl rfl rfl rfl rfl ?_
  refine OW_store' hE rfl rfl rfl rfl rfl rfl rfl rfl rfl rfl rfl rfl ?_
  refine OW_run' hE.ok 1 rfl ?_
  refine OW.le (LE_freezeBox 1 (ds := encBd A.1) rfl rfl) ?_
  refine OW_end rfl ?_
  refine CW_seq ?_
  refine CW_seq ?_
  refine CW_region ?_
  refine OW_run' hE.ok 2 rfl ?_
  refine OW_end rfl ?_
  refine CW_cond _ rfl (fun h1 => ?_) (fun h1 => ?_)
  · skip
    have g1 : A.2 = false := by have := h1; simpa using this
    refine CW_seq ?_
    refine CW_region ?_
    refine OW_run' hE.ok 1 rfl ?_
    refine OW.le (LE_nilSlot 8 51 48 1 rfl rfl) ?_
    refine OW_end rfl ?_
    exact CW_ret ⟨.inr rfl, rfl, 51, rfl, by rw [take_1 hA g1]; rfl⟩
  · skip
    have g1 : A.2 = true := by have := h1; simpa using this
    obtain ⟨m, hm, hm1⟩ := hf g1
    refine CW_skip ?_
    refine CW_seq ?_
    refine CW_region ?_
    refine OW_run' hE.ok 2 rfl ?_
    refine OW_as' 27 (.d (int ((m : Nat) : Int))) (by exact congrArg (fun z => AV.d (int z)) hm) ?_
    refine OW_litsOwn' hE 50 rfl rfl rfl rfl rfl rfl rfl rfl rfl rfl rfl rfl ?_
    refine OW_run' hE.ok 1 rfl ?_
    refine OW_end rfl ?_
    refine CW_cutE (fun _ : Unit => ⟨J, (sset (sset (sset (sset (sset noSlots 2 (.d (SK l))) 4 (.d (.iptr [encS s]))) 5 (.d (.iptr (encP p)))) 7 (.d (.iptr [SBd r]))) 11 (.row 50)), (hset noHeap 50 (some (.row 3 1 (intRow (elemsX p ((m : Nat) : Int))))))⟩) (fun _ => True) ?_ ?_
    · skip
      refine CW_seq ?_
      refine CW_region ?_
      refine OW_run' hE.ok 2 rfl ?_
      refine OW_as' 30 (.d (int ((m : Nat) : Int))) (by exact congrArg (fun z => AV.d (int z)) hm) ?_
      refine OW_run' hE.ok 1 rfl ?_
      refine OW_run' hE.ok 1 rfl ?_
      refine OW_end rfl ?_
      refine CW_block ?_
      refine CW_loop (σ := {q : Nat × List Int // Sought p m q.1 q.2}) (fun q => ⟨J, (sset (sset (sset (sset (sset (sset noSlots 2 (.d (SK l))) 4 (.d (.iptr [encS s]))) 5 (.d (.iptr (encP p)))) 7 (.d (.iptr [SBd r]))) 11 (.row 50)) 12 (.d (int ((q.1.1 : Nat) : Int)))), (hset noHeap 50 (some (.row 3 1 (intRow q.1.2))))⟩) (fun q => p.els.length - q.1.1) ⟨(m + 1, [(m : Int)]), Nat.le_refl _, .inl ⟨rfl, nextX_from⟩⟩ (LE_sh (slh_set (slh_set (slh_set (slh_set (slh_set (slh_set (slh_no _ _) rfl rfl) rfl rfl) rfl rfl) rfl rfl) rfl rfl) (by show AV.d (.lit (.int .i64 (IntKind.i64.wrap ((m : Int) + 1)))) = _; rw [wrap_succ (by omega)]; rfl) rfl) (hlh_set (hlh_no _ _) (congrArg (fun z => some (Ent.row 3 1 z)) (rfl)) rfl)) fun ⟨⟨i, ks⟩, hS⟩ => ?_
      refine CW_seq ?_
      refine CW_seq ?_
      refine CW_region ?_
      refine OW_run' hE.ok 6 rfl ?_
      refine OW_split' 37 rfl (fun h2 => ?_) (fun h2 => ?_)
      · skip
        have hlt : i < p.els.length := by have := h2; rw [List.length_map] at this; simp at this; omega
        refine OW_run' hE.ok 4 rfl ?_
        refine OW_end rfl ?_
        refine CW_cond _ rfl (fun h3 => ?_) (fun h3 => ?_)
        · skip
          have hk1 : ks.length = 1 := by have := h3; rw [intRow_len] at this; simp at this; omega
          obtain ⟨e, hel⟩ : ∃ e, p.els[i]? = some e := ⟨_, List.getElem?_eq_getElem hlt⟩
          have hks : ks = [(m : Int)] := (hS.one hk1).1
          subst hks
          refine CW_skip ?_
          refine CW_seq ?_
          refine CW_block ?_
          refine CW_seq ?_
          refine CW_region ?_
          refine OW_run' hE.ok 2 rfl ?_
          refine OW_as' 45 (.d (boo true)) (by show AV.d (.lit (.bool (decide (((i : Nat) : Int) ≥ 0)))) = _; rw [show decide (((i : Nat) : Int) ≥ 0) = true by simp]; rfl) ?_
          refine OW_run' hE.ok 1 rfl ?_
          refine OW_run' hE.ok 3 rfl ?_
          refine OW_loc' hE (loc_indexAddr hE rfl rfl rfl rfl rfl (by omega) (x := encL e) (by simp [hel])) rfl rfl rfl ?_
          refine OW_run' hE.ok 4 rfl ?_
          refine OW_end rfl ?_
          refine CW_cond _ rfl (fun h4 => ?_) (fun h4 => ?_)
          · skip
            have hneg : (!e.neg) = true := h4
            refine CW_region ?_
            refine OW_run' hE.ok 2 rfl ?_
            refine OW_loc' hE (loc_lits hE (t := 76) (len := 1) (parts := #[(0, .tmp 56)]) rfl rfl rfl rfl rfl rfl rfl rfl (xs := [[int ((i : Nat) : Int)]]) rfl) rfl rfl rfl ?_
            refine OW_append' hE (key := 50) rfl rfl rfl rfl rfl rfl rfl rfl (.inl rfl) (by simp [intRow]) (by simp [intRow]) rfl ?_
            refine OW_run' hE.ok 1 rfl ?_
            refine OW_end rfl ?_
            refine CW_region ?_
            refine OW_run' hE.ok 3 rfl ?_
            refine OW_end rfl ?_
            refine ⟨⟨(i + 1, [(m : Int), (i : Int)]), by have := hS.1; exact Nat.le_succ_of_le this, .inr ⟨i, rfl, (hS.one hk1).2.trans (nextF_at hel (by simpa using hneg))⟩⟩, LE_sh (slh_set (v := .d (int ((i + 1 : Nat) : Int))) (slh_set (v := .row 50) (slh_set (v := .d (.iptr [SBd r])) (slh_set (v := .d (.iptr (encP p))) (slh_set (v := .d (.iptr [encS s])) (slh_set (v := .d (SK l)) (slh_no _ _) (by rfl) rfl) (by rfl) rfl) (by rfl) rfl) (by rfl) rfl) (by rfl) rfl) (by show AV.d (.lit (.int .i64 (IntKind.i64.wrap ((i : Int) + 1)))) = _; rw [wrap_succ (by omega)]; rfl) rfl) (hlh_set (hlh_no _ _) (congrArg (fun z => some (Ent.row 3 1 z)) (rfl)) rfl), by show p.els.length - (i + 1) < p.els.length - i; omega⟩
          · skip
            have hneg : (!e.neg) = false := h4
            refine CW_skip ?_
            refine CW_region ?_
            refine OW_run' hE.ok 3 rfl ?_
            refine OW_end rfl ?_
            refine ⟨⟨(i + 1, [(m : Int)]), by have := hS.1; exact Nat.le_succ_of_le this, .inl ⟨rfl, (hS.one hk1).2.trans (nextF_go hel (by simpa using hneg))⟩⟩, LE_sh (slh_set (v := .d (int ((i + 1 : Nat) : Int))) (slh_set (v := .row 50) (slh_set (v := .d (.iptr [SBd r])) (slh_set (v := .d (.iptr (encP p))) (slh_set (v := .d (.iptr [encS s])) (slh_set (v := .d (SK l)) (slh_no _ _) (by rfl) rfl) (by rfl) rfl) (by rfl) rfl) (by rfl) rfl) (by rfl) rfl) (by show AV.d (.lit (.int .i64 (IntKind.i64.wrap ((i : Int) + 1)))) = _; rw [wrap_succ (by omega)]; rfl) rfl) (hlh_set (hlh_no _ _) (congrArg (fun z => some (Ent.row 3 1 z)) (rfl)) rfl), by show p.els.length - (i + 1) < p.els.length - i; omega⟩
        · skip
          have hdone := hS.done (.inr (by have := h3; rw [intRow_len] at this; show ks.length ≠ 1; intro h1; rw [h1] at this; cases this))
          refine CW_exit ?_
          exact ⟨(), trivial, LE_sh (slh_set (v := .row 50) (slh_set (v := .d (.iptr [SBd r])) (slh_set (v := .d (.iptr (encP p))) (slh_set (v := .d (.iptr [encS s])) (slh_set (v := .d (SK l)) (slh_no _ _) (by rfl) rfl) (by rfl) rfl) (by rfl) rfl) (by rfl) rfl) (by rfl) rfl) (hlh_set (hlh_no _ _) (congrArg (fun z => some (Ent.row 3 1 z)) (by rw [hdone])) rfl)⟩
      · skip
        have hge : p.els.length ≤ i := by have := h2; rw [List.length_map] at this; simp at this; omega
        have hdone := hS.done (.inl hge)
        refine OW_run' hE.ok 4 rfl ?_
        refine OW_end rfl ?_
        refine CW_false rfl ?_
        refine CW_exit ?_
        exact ⟨(), trivial, LE_sh (slh_set (v := .row 50) (slh_set (v := .d (.iptr [SBd r])) (slh_set (v := .d (.iptr (encP p))) (slh_set (v := .d (.iptr [encS s])) (slh_set (v := .d (SK l)) (slh_no _ _) (by rfl) rfl) (by rfl) rfl) (by rfl) rfl) (by rfl) rfl) (by rfl) rfl) (hlh_set (hlh_no _ _) (congrArg (fun z => some (Ent.row 3 1 z)) (by rw [hdone])) rfl)⟩
    · skip
      rintro _ _
      have hes := elems_len p m
      refine CW_seq ?_
      refine CW.le (LE_freeze 50 8 rfl (by rw [intRow_len]; omega)) ?_
      refine CW_region ?_
      refine OW_run' hE.ok 1 rfl ?_
      refine OW.le (LE_nilSlot 13 51 48 1 rfl rfl) ?_
      refine OW_end rfl ?_
      refine CW_seq ?_
      refine CW_seq ?_
      refine CW_region ?_
      refine OW_run' hE.ok 3 rfl ?_
      refine OW_end rfl ?_
      refine CW_block ?_
      refine CW_loop (σ := {q : Nat // q ≤ (elemsX p ((m : Nat) : Int)).length}) (fun q => ⟨J, (sset (sset (sset (sset (sset (sset (sset (sset noSlots 2 (.d (SK l))) 4 (.d (.iptr [encS s]))) 5 (.d (.iptr (encP p)))) 7 (.d (.iptr [SBd r]))) 13 (.row 51)) 59 (.d (.sl 1 8 (intRow (elemsX p ((m : Nat) : Int)))))) 60 (.d (int (((elemsX p ((m : Nat) : Int)).length : Nat) : Int)))) 61 (.d (int ((q.1 : Nat) : Int)))), (hset noHeap 51 (some (.row 48 1 ((((elemsX p ((m : Nat) : Int)).take q.1).filterMap (runF s p l r)).map encR))))⟩) (fun q => (elemsX p ((m : Nat) : Int)).length - q.1) ⟨0, Nat.zero_le _⟩ (LE_sh (slh_set (slh_set (slh_set (slh_set (slh_set (slh_set (slh_set (slh_set (slh_no _ _) rfl rfl) rfl rfl) rfl rfl) rfl rfl) rfl rfl) rfl rfl) (by show AV.d (.lit (.int .i64 ((intRow (elemsX p ((m : Nat) : Int))).length : Int))) = _; rw [intRow_len]; rfl) rfl) rfl rfl) (hlh_set (hlh_no _ _) (congrArg (fun z => some (Ent.row 48 1 z)) (rfl)) rfl)) fun ⟨q, hq⟩ => ?_
      refine CW_seq ?_
      refine CW_region ?_
      refine OW_run' hE.ok 1 rfl ?_
      refine OW_end rfl ?_
      refine CW_seq ?_
      refine CW_cond _ rfl (fun h5 => ?_) (fun h5 => ?_)
      · skip
        have hlt : q < (elemsX p ((m : Nat) : Int)).length := by have := h5; simp at this; omega
        obtain ⟨k, hk⟩ : ∃ k, (elemsX p ((m : Nat) : Int))[q]? = some k := ⟨_, List.getElem?_eq_getElem hlt⟩
        have hfew := fm_len (runF s p l r) ((elemsX p ((m : Nat) : Int)).take q)
        rw [List.length_take] at hfew
        refine CW_skip ?_
        refine CW_seq ?_
        refine CW_block ?_
        refine CW_seq ?_
        refine CW_region ?_
        refine OW_loc' hE (loc_indexAddr hE rfl rfl rfl rfl rfl (by omega) (x := [.lit (.int .i64 k)]) (intRow_get hk)) rfl rfl rfl ?_
        refine OW_run' hE.ok 2 rfl ?_
        refine OW_end rfl ?_
        refine CW_seq ?_
        refine CW_region ?_
        refine OW_run' hE.ok 5 rfl ?_
        refine OW_call' hE (withOk s p l r k hr hl hb hp) rfl rfl rfl rfl rfl rfl rfl ?_
        refine OW_run' hE.ok 3 rfl ?_
        refine OW_alloc' hE 2 rfl rfl rfl rfl rfl rfl rfl ?_
        refine OW_store' hE rfl rfl rfl rfl rfl rfl rfl rfl rfl rfl rfl rfl ?_
        refine OW_run' hE.ok 1 rfl ?_
        refine OW_end rfl ?_
        refine CW_seq ?_
        refine CW_region ?_
        refine OW_run' hE.ok 1 rfl ?_
        refine OW_end rfl ?_
        refine CW_cond _ rfl (fun h6 => ?_) (fun h6 => ?_)
        · skip
          have g2 : (withX s p l r k).2 = true := h6
          refine CW_region ?_
          refine OW_run' hE.ok 2 rfl ?_
          refine OW_loc' hE (loc_lits hE (t := 50) (len := 1) (parts := #[(0, .tmp 76)]) rfl rfl rfl rfl rfl rfl rfl rfl (xs := [encR (withX s p l r k).1]) rfl) rfl rfl rfl ?_
          refine OW_append' hE (key := 51) rfl rfl rfl rfl rfl rfl rfl rfl (.inl rfl) (by simp; omega) (by simp; omega) rfl ?_
          refine OW_run' hE.ok 1 rfl ?_
          refine OW_end rfl ?_
          refine CW_region ?_
          refine OW_run' hE.ok 2 rfl ?_
          refine OW_end rfl ?_
          exact ⟨⟨q + 1, by omega⟩, LE_sh (slh_set (v := .d (int ((q + 1 : Nat) : Int))) (slh_set (v := .d (int (((elemsX p ((m : Nat) : Int)).length : Nat) : Int))) (slh_set (v := .d (.sl 1 8 (intRow (elemsX p ((m : Nat) : Int))))) (slh_set (v := .row 51) (slh_set (v := .d (.iptr [SBd r])) (slh_set (v := .d (.iptr (encP p))) (slh_set (v := .d (.iptr [encS s])) (slh_set (v := .d (SK l)) (slh_no _ _) (by rfl) rfl) (by rfl) rfl) (by rfl) rfl) (by rfl) rfl) (by rfl) rfl) (by rfl) rfl) (by rfl) rfl) (by show AV.d (.lit (.int .i64 (IntKind.i64.wrap ((q : Int) + 1)))) = _; rw [wrap_succ (by omega)]; rfl) rfl) (hlh_set (hlh_no _ _) (congrArg (fun z => some (Ent.row 48 1 z)) (by rw [fm_t hk (show runF s p l r k = some (withX s p l r k).1 by unfold runF; rw [g2]; rfl), List.map_append]; rfl)) rfl), by show (elemsX p ((m : Nat) : Int)).length - (q + 1) < (elemsX p ((m : Nat) : Int)).length - q; omega⟩
        · skip
          have g2 : (withX s p l r k).2 = false := h6
          refine CW_skip ?_
          refine CW_region ?_
          refine OW_run' hE.ok 2 rfl ?_
          refine OW_end rfl ?_
          exact ⟨⟨q + 1, by omega⟩, LE_sh (slh_set (v := .d (int ((q + 1 : Nat) : Int))) (slh_set (v := .d (int (((elemsX p ((m : Nat) : Int)).length : Nat) : Int))) (slh_set (v := .d (.sl 1 8 (intRow (elemsX p ((m : Nat) : Int))))) (slh_set (v := .row 51) (slh_set (v := .d (.iptr [SBd r])) (slh_set (v := .d (.iptr (encP p))) (slh_set (v := .d (.iptr [encS s])) (slh_set (v := .d (SK l)) (slh_no _ _) (by rfl) rfl) (by rfl) rfl) (by rfl) rfl) (by rfl) rfl) (by rfl) rfl) (by rfl) rfl) (by rfl) rfl) (by show AV.d (.lit (.int .i64 (IntKind.i64.wrap ((q : Int) + 1)))) = _; rw [wrap_succ (by omega)]; rfl) rfl) (hlh_set (hlh_no _ _) (congrArg (fun z => some (Ent.row 48 1 z)) (by rw [fm_f hk (show runF s p l r k = none by unfold runF; rw [g2]; rfl)])) rfl), by show (elemsX p ((m : Nat) : Int)).length - (q + 1) < (elemsX p ((m : Nat) : Int)).length - q; omega⟩
      · skip
        have hge : (elemsX p ((m : Nat) : Int)).length ≤ q := by have := h5; simp at this; omega
        refine CW_exit ?_
        show CW _ _ _ _
        refine CW_seq ?_
        refine CW_region ?_
        refine OW_run' hE.ok 2 rfl ?_
        refine OW_end rfl ?_
        have hh : (elemsX p ((m : Nat) : Int)).take q = (elemsX p ((m : Nat) : Int)) := List.take_of_length_le hge
        exact CW_ret ⟨.inr rfl, rfl, 51, rfl, by rw [take_2 hA g1, hm]; show some (Ent.row _ _ _) = _; rw [hh]⟩
end Go.Proofs.Ytaghhofbaoaajaa
