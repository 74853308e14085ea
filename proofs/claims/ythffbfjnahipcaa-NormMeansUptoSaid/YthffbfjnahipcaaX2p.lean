/- Parts of an abstract logic over the kit's walks, and walks in it: X2p. -/
import Derived.Test.YthffbfjnahipcaaX2c
import Derived.Test.YthffbfjnahipcaaBa
import Derived.Test.YthffbfjnahipcaaAe
namespace Go.Proofs.Ythffbfjnahipcaa
open Go Go.AL
set_option linter.unusedVariables false
set_option linter.unusedSimpArgs false
set_option maxHeartbeats 4000000
theorem equalS (l r : List ByteArray) : Does Try.prog 97 [.d (.sl 1 16 (l.map encB)), .d (.sl 1 16 (r.map encB))] noHeap (.d (boo (allSame same l r))) := by
  refine Does_of T_ok mixed (N := 26) Try.func97 rfl rfl rfl (by rfl) fun F n Z hE hF J => ?_
  refine CW_know (know_sl (d := 0) rfl) fun hlen => ?_
  rw [List.length_map] at hlen
  refine CW_seq ?_
  refine CW_region ?_
  refine OW_run' hE.ok 1 rfl ?_
  refine OW_end rfl ?_
  refine CW_seq ?_
  refine CW_seq ?_
  refine CW_region ?_
  refine OW_run' hE.ok 5 rfl ?_
  refine OW_end rfl ?_
  refine CW_cond _ rfl (fun h1 => ?_) (fun h1 => ?_)
  · skip
    have hne : l.length ≠ r.length := by have := h1; simp at this; omega
    refine CW_seq ?_
    refine CW_region ?_
    refine OW_run' hE.ok 1 rfl ?_
    refine OW_end rfl ?_
    refine CW_ret ?_
    refine ⟨.inr rfl, rfl, ⟨_, rfl, rfl, ?_⟩, rfl⟩
    exact AVle.of (congrArg (fun b => AV.d (boo b)) (by rw [allSame_len hne]))
  · skip
    have hll : l.length = r.length := by have := h1; simp at this; omega
    refine CW_skip ?_
    refine CW_seq ?_
    refine CW_seq ?_
    refine CW_region ?_
    refine OW_run' hE.ok 3 rfl ?_
    refine OW_end rfl ?_
    refine CW_block ?_
    refine CW_loop (σ := {i : Nat // i ≤ l.length ∧ ∀ j a b, j < i → l[j]? = some a → r[j]? = some b → same a b = true}) (fun i => ⟨J, (sset (sset (sset (sset noSlots 0 (.d (.sl 1 16 (l.map encB)))) 1 (.d (.sl 1 16 (r.map encB)))) 12 (.d (.lit (.int .i64 l.length)))) 13 (.d (.lit (.int .i64 i.1)))), noHeap⟩) (fun i => l.length - i.1) ⟨0, Nat.zero_le _, by omega⟩ (LE_s (sle_set (sle_set (sle_set (sle_set (sle_no _) rfl) rfl) (by show AV.d (.lit (.int .i64 ((l.map encB).length : Int))) = _; rw [List.length_map])) rfl)) fun ⟨i, hi, hp⟩ => ?_
    refine CW_seq ?_
    refine CW_region ?_
    refine OW_run' hE.ok 1 rfl ?_
    refine OW_end rfl ?_
    refine CW_seq ?_
    refine CW_cond _ rfl (fun h2 => ?_) (fun h2 => ?_)
    · skip
      have hlt : i < l.length := by have := h2; simp at this; omega
      obtain ⟨a, ha⟩ : ∃ a, l[i]? = some a := ⟨_, List.getElem?_eq_getElem hlt⟩
      obtain ⟨b, hb⟩ : ∃ b, r[i]? = some b := ⟨_, List.getElem?_eq_getElem (by omega)⟩
      refine CW_skip ?_
      refine CW_seq ?_
      refine CW_block ?_
      refine CW_seq ?_
      refine CW_region ?_
      refine OW_run' hE.ok 2 rfl ?_
      refine OW_end rfl ?_
      refine CW_seq ?_
      refine CW_drawn' hE 8 (by decide +kernel) ?_
      refine HW_run hE 2 rfl rfl ?_
      refine HW_loc hE (loc_indexAddr hE rfl rfl rfl rfl rfl (by omega) (x := encB a) (by simp [ha])) rfl rfl rfl rfl ?_
      refine HW_run hE 3 rfl rfl ?_
      refine HW_loc hE (loc_indexAddr hE rfl rfl rfl rfl rfl (by omega) (x := encB b) (by simp [hb])) rfl rfl rfl rfl ?_
      refine HW_run hE 1 rfl rfl ?_
      refine HW_end ?_
      refine OW_run' hE.ok 1 rfl ?_
      refine OW_end rfl ?_
      refine CW_cond _ rfl (fun h3 => ?_) (fun h3 => ?_)
      · skip
        have hdiff : same a b = false := by simpa [same] using h3
        refine CW_seq ?_
        refine CW_region ?_
        refine OW_run' hE.ok 1 rfl ?_
        refine OW_end rfl ?_
        refine CW_ret ?_
        refine ⟨.inr rfl, rfl, ⟨_, rfl, rfl, ?_⟩, rfl⟩
        exact AVle.of (congrArg (fun b => AV.d (boo b)) (by rw [allSame_ne ha hb hdiff]))
      · skip
        have hsame : same a b = true := by simpa [same] using h3
        refine CW_skip ?_
        refine CW_region ?_
        refine OW_run' hE.ok 2 rfl ?_
        refine OW_end rfl ?_
        refine ⟨⟨i + 1, hlt, fun j x y hj hx hy => ?_⟩, LE_s (sle_set (sle_set (sle_set (sle_set (sle_no _) rfl) rfl) rfl) (by show AV.d (.lit (.int .i64 (IntKind.i64.wrap (↑i + 1)))) = _; rw [wrap_succ (by omega)])), by show l.length - (i + 1) < l.length - i; omega⟩
        by_cases hji : j = i
        · subst hji; rw [ha] at hx; rw [hb] at hy; cases hx; cases hy; exact hsame
        · exact hp j x y (by omega) hx hy
    · skip
      have hge : ¬ i < l.length := by have := h2; simp at this; omega
      refine CW_exit ?_
      show CW _ _ _ _
      refine CW_seq ?_
      refine CW_region ?_
      refine OW_run' hE.ok 1 rfl ?_
      refine OW_end rfl ?_
      refine CW_ret ?_
      refine ⟨.inr rfl, rfl, ⟨_, rfl, rfl, ?_⟩, rfl⟩
      exact AVle.of (congrArg (fun b => AV.d (boo b)) (by rw [allSame_all hll (fun j a b hj => hp j a b (by omega))]))

theorem sameL1 (a b : El) : Does Try.prog 82 [argL a, argL b] noHeap (.d (boo (sameL a b))) := by
  refine Does_of T_ok mixed (N := 38) Try.func82 rfl rfl rfl (by rfl) fun F n Z hE hF J => ?_
  obtain ⟨y1, y2, y3, y4, y5, y6, y7, y8, y9, rfl⟩ := El.shape a
  obtain ⟨z1, z2, z3, z4, z5, z6, z7, z8, z9, rfl⟩ := El.shape b
  have hx := sameXOk (.mk y5 y6 y7 y8 y9) (.mk z5 z6 z7 z8 z9)
  have hs := equalS y2 z2
  refine CW_seq ?_
  refine CW_region ?_
  refine OW_run' hE.ok 3 rfl ?_
  refine OW_end rfl ?_
  refine CW_seq ?_
  refine CW_region ?_
  refine OW_run' hE.ok 6 rfl ?_
  refine OW_split' 10 rfl (fun h1 => ?_) (fun h1 => ?_)
  · skip
    refine OW_run' hE.ok 4 rfl ?_
    refine OW_call' hE (hs) rfl rfl rfl rfl rfl rfl rfl ?_
    refine OW_run' hE.ok 2 rfl ?_
    refine OW_split' 17 rfl (fun h2 => ?_) (fun h2 => ?_)
    · skip
      refine OW_run' hE.ok 7 rfl ?_
      refine OW_split' 24 rfl (fun h3 => ?_) (fun h3 => ?_)
      · skip
        refine OW_run' hE.ok 7 rfl ?_
        refine OW_split' 31 rfl (fun h4 => ?_) (fun h4 => ?_)
        · skip
          refine OW_run' hE.ok 4 rfl ?_
          refine OW_call' hE (hx) rfl rfl rfl rfl rfl rfl rfl ?_
          refine OW_run' hE.ok 2 rfl ?_
          refine OW_end rfl ?_
          refine CW_ret ?_
          refine ⟨.inr rfl, rfl, ⟨_, rfl, rfl, ?_⟩, rfl⟩
          exact AVle.of (congrArg (fun b => AV.d (boo b)) (by unfold sameL; simp_all [same]))
        · skip
          refine OW_run' hE.ok 7 rfl ?_
          refine OW_end rfl ?_
          refine CW_ret ?_
          refine ⟨.inr rfl, rfl, ⟨_, rfl, rfl, ?_⟩, rfl⟩
          exact AVle.of (congrArg (fun b => AV.d (boo b)) (by unfold sameL; simp_all [same]))
      · skip
        refine OW_run' hE.ok 14 rfl ?_
        refine OW_end rfl ?_
        refine CW_ret ?_
        refine ⟨.inr rfl, rfl, ⟨_, rfl, rfl, ?_⟩, rfl⟩
        exact AVle.of (congrArg (fun b => AV.d (boo b)) (by unfold sameL; simp_all [same]))
    · skip
      refine OW_run' hE.ok 21 rfl ?_
      refine OW_end rfl ?_
      refine CW_ret ?_
      refine ⟨.inr rfl, rfl, ⟨_, rfl, rfl, ?_⟩, rfl⟩
      exact AVle.of (congrArg (fun b => AV.d (boo b)) (by unfold sameL; simp_all [same]))
  · skip
    refine OW_run' hE.ok 28 rfl ?_
    refine OW_end rfl ?_
    refine CW_ret ?_
    refine ⟨.inr rfl, rfl, ⟨_, rfl, rfl, ?_⟩, rfl⟩
    exact AVle.of (congrArg (fun b => AV.d (boo b)) (by unfold sameL; simp_all [same]))

theorem equalL (l r : List El) (k : Nat) (first cap : List D) (p : El → El → Bool) (hc : ∀ a b, Does Try.prog k (first.map .d ++ [.agg ((encL a).map .d), .agg ((encL b).map .d)] ++ cap.map .d) noHeap (.d (boo (p a b)))) : Does Try.prog 81 [.d (.sl 11 144 (l.map encL)), .d (.sl 11 144 (r.map encL)), .d (.fn (.func k) first cap)] noHeap (.d (boo (allSame p l r))) := by
  refine Does_of T_ok mixed (N := 32) Try.func81 rfl rfl rfl (by rfl) fun F n Z hE hF J => ?_
  refine CW_know (know_sl (d := 0) rfl) fun hlen => ?_
  rw [List.length_map] at hlen
  refine CW_seq ?_
  refine CW_region ?_
  refine OW_run' hE.ok 1 rfl ?_
  refine OW_end rfl ?_
  refine CW_seq ?_
  refine CW_seq ?_
  refine CW_region ?_
  refine OW_run' hE.ok 5 rfl ?_
  refine OW_end rfl ?_
  refine CW_cond _ rfl (fun h1 => ?_) (fun h1 => ?_)
  · skip
    have hne : l.length ≠ r.length := by have := h1; simp at this; omega
    refine CW_seq ?_
    refine CW_region ?_
    refine OW_run' hE.ok 1 rfl ?_
    refine OW_end rfl ?_
    refine CW_ret ?_
    refine ⟨.inr rfl, rfl, ⟨_, rfl, rfl, ?_⟩, rfl⟩
    exact AVle.of (congrArg (fun b => AV.d (boo b)) (by rw [allSame_len hne]))
  · skip
    have hll : l.length = r.length := by have := h1; simp at this; omega
    refine CW_skip ?_
    refine CW_seq ?_
    refine CW_seq ?_
    refine CW_region ?_
    refine OW_run' hE.ok 3 rfl ?_
    refine OW_end rfl ?_
    refine CW_block ?_
    refine CW_loop (σ := {i : Nat // i ≤ l.length ∧ ∀ j a b, j < i → l[j]? = some a → r[j]? = some b → p a b = true})
      (fun i => ⟨J, (sset (sset (sset (sset (sset (sset noSlots 0 (.d (.sl 11 144 (l.map encL)))) 1 (.d (.sl 11 144 (r.map encL)))) 2 (.d (.fn (.func k) first cap))) 15 (.d (.sl 11 144 (l.map encL)))) 16 (.d (.lit (.int .i64 l.length)))) 17 (.d (.lit (.int .i64 i.1)))), noHeap⟩) (fun i => l.length - i.1) ⟨0, Nat.zero_le _, by omega⟩ (LE_sh (slh_set (slh_set (slh_set (slh_set (slh_set (slh_set (slh_no _ _) rfl rfl) rfl rfl) rfl rfl) rfl rfl) (by show AV.d (.lit (.int .i64 ((l.map encL).length : Int))) = _; rw [List.length_map]) rfl) rfl rfl) (hlh_no _ _)) fun ⟨i, hi, hp⟩ => ?_
    refine CW_seq ?_
    refine CW_region ?_
    refine OW_run' hE.ok 1 rfl ?_
    refine OW_end rfl ?_
    refine CW_seq ?_
    refine CW_cond _ rfl (fun h2 => ?_) (fun h2 => ?_)
    · skip
      have hlt : i < l.length := by have := h2; simp at this; omega
      obtain ⟨a, ha⟩ : ∃ a, l[i]? = some a := ⟨_, List.getElem?_eq_getElem hlt⟩
      obtain ⟨b, hb⟩ : ∃ b, r[i]? = some b := ⟨_, List.getElem?_eq_getElem (by omega)⟩
      have hcall := hc a b
      obtain ⟨y1, y2, y3, y4, y5, y6, y7, y8, y9, rfl⟩ := El.shape a
      obtain ⟨z1, z2, z3, z4, z5, z6, z7, z8, z9, rfl⟩ := El.shape b
      refine CW_skip ?_
      refine CW_seq ?_
      refine CW_block ?_
      refine CW_seq ?_
      refine CW_region ?_
      refine OW_run' hE.ok 1 rfl ?_
      refine OW_loc' hE (loc_indexAddr hE rfl rfl rfl rfl rfl (by omega) (x := encL ⟨y1, y2, y3, y4, .mk y5 y6 y7 y8 y9⟩) (by simp [ha])) rfl rfl rfl ?_
      refine OW_run' hE.ok 1 rfl ?_
      refine OW_alloc' hE 1 rfl rfl rfl rfl rfl rfl rfl ?_
      refine OW_run' hE.ok 1 rfl ?_
      refine OW_store' hE rfl rfl rfl rfl rfl rfl rfl rfl rfl rfl rfl rfl ?_
      refine OW_end rfl ?_
      refine CW_seq ?_
      refine CW_region ?_
      refine OW_run' hE.ok 2 rfl ?_
      refine OW_loc' hE (loc_indexAddr hE rfl rfl rfl rfl rfl (by omega) (x := encL ⟨z1, z2, z3, z4, .mk z5 z6 z7 z8 z9⟩) (by simp [hb])) rfl rfl rfl ?_
      refine OW_run' hE.ok 1 rfl ?_
      refine OW_alloc' hE 2 rfl rfl rfl rfl rfl rfl rfl ?_
      refine OW_store' hE rfl rfl rfl rfl rfl rfl rfl rfl rfl rfl rfl rfl ?_
      refine OW_end rfl ?_
      refine CW_seq ?_
      refine CW_region ?_
      refine OW_run' hE.ok 3 rfl ?_
      refine OW_call' hE (hcall) rfl rfl rfl rfl (kfs_fn rfl) rfl rfl ?_
      refine OW_run' hE.ok 1 rfl ?_
      refine OW_end rfl ?_
      refine CW_cond _ rfl (fun h3 => ?_) (fun h3 => ?_)
      · skip
        have hdiff : p ⟨y1, y2, y3, y4, .mk y5 y6 y7 y8 y9⟩ ⟨z1, z2, z3, z4, .mk z5 z6 z7 z8 z9⟩ = false := by simpa using h3
        refine CW_seq ?_
        refine CW_region ?_
        refine OW_run' hE.ok 1 rfl ?_
        refine OW_end rfl ?_
        refine CW_ret ?_
        refine ⟨.inr rfl, rfl, ⟨_, rfl, rfl, ?_⟩, rfl⟩
        exact AVle.of (congrArg (fun b => AV.d (boo b)) (by rw [allSame_ne ha hb hdiff]))
      · skip
        have hsame : p ⟨y1, y2, y3, y4, .mk y5 y6 y7 y8 y9⟩ ⟨z1, z2, z3, z4, .mk z5 z6 z7 z8 z9⟩ = true := by simpa using h3
        refine CW_skip ?_
        refine CW_region ?_
        refine OW_run' hE.ok 2 rfl ?_
        refine OW_end rfl ?_
        refine ⟨⟨i + 1, hlt, fun j x y hj hx hy => ?_⟩, LE_sh (slh_set (slh_set (slh_set (slh_set (slh_set (slh_set (slh_no _ _) rfl rfl) rfl rfl) rfl rfl) rfl rfl) rfl rfl) (by show AV.d (.lit (.int .i64 (IntKind.i64.wrap (↑i + 1)))) = _; rw [wrap_succ (by omega)]) rfl) (hlh_no _ _), by show l.length - (i + 1) < l.length - i; omega⟩
        by_cases hji : j = i
        · subst hji; rw [ha] at hx; rw [hb] at hy; cases hx; cases hy; exact hsame
        · exact hp j x y (by omega) hx hy
    · skip
      have hge : ¬ i < l.length := by have := h2; simp at this; omega
      refine CW_exit ?_
      show CW _ _ _ _
      refine CW_seq ?_
      refine CW_region ?_
      refine OW_run' hE.ok 1 rfl ?_
      refine OW_end rfl ?_
      refine CW_ret ?_
      refine ⟨.inr rfl, rfl, ⟨_, rfl, rfl, ?_⟩, rfl⟩
      exact AVle.of (congrArg (fun b => AV.d (boo b)) (by rw [allSame_all hll (fun j a b hj => hp j a b (by omega))]))

theorem samePOk (a b : Pat) : Does Try.prog 43 [argP a, argP b] noHeap (.d (boo (sameP a b))) := by
  refine Does_of T_ok mixed (N := 31) Try.func43 rfl rfl rfl (by rfl) fun F n Z hE hF J => ?_
  refine CW_seq ?_
  refine CW_region ?_
  refine OW_run' hE.ok 3 rfl ?_
  refine OW_end rfl ?_
  refine CW_seq ?_
  refine CW_region ?_
  refine OW_run' hE.ok 4 rfl ?_
  refine OW_call' hE (equalL a.els b.els 82 [] [] sameL (fun x y => sameL1 x y)) rfl rfl rfl rfl rfl rfl rfl ?_
  refine OW_run' hE.ok 1 rfl ?_
  refine OW_split' 10 rfl (fun h1 => ?_) (fun h1 => ?_)
  · skip
    refine OW_run' hE.ok 7 rfl ?_
    refine OW_split' 17 rfl (fun h2 => ?_) (fun h2 => ?_)
    · skip
      refine OW_run' hE.ok 7 rfl ?_
      refine OW_split' 24 rfl (fun h3 => ?_) (fun h3 => ?_)
      · skip
        refine OW_run' hE.ok 7 rfl ?_
        refine OW_end rfl ?_
        refine CW_ret ?_
        refine ⟨.inr rfl, rfl, ⟨_, rfl, rfl, ?_⟩, rfl⟩
        exact AVle.of (congrArg (fun b => AV.d (boo b)) (by unfold sameP; simp_all [same]))
      · skip
        refine OW_run' hE.ok 7 rfl ?_
        refine OW_end rfl ?_
        refine CW_ret ?_
        refine ⟨.inr rfl, rfl, ⟨_, rfl, rfl, ?_⟩, rfl⟩
        exact AVle.of (congrArg (fun b => AV.d (boo b)) (by unfold sameP; simp_all [same]))
    · skip
      refine OW_run' hE.ok 14 rfl ?_
      refine OW_end rfl ?_
      refine CW_ret ?_
      refine ⟨.inr rfl, rfl, ⟨_, rfl, rfl, ?_⟩, rfl⟩
      exact AVle.of (congrArg (fun b => AV.d (boo b)) (by unfold sameP; simp_all [same]))
  · skip
    refine OW_run' hE.ok 21 rfl ?_
    refine OW_end rfl ?_
    refine CW_ret ?_
    refine ⟨.inr rfl, rfl, ⟨_, rfl, rfl, ?_⟩, rfl⟩
    exact AVle.of (congrArg (fun b => AV.d (boo b)) (by unfold sameP; simp_all [same]))

theorem indexL (l : List El) (k : Nat) (first cap : List D) (p : El → Bool) (hc : ∀ a ∈ l, Does Try.prog k (first.map .d ++ [.agg ((encL a).map .d)] ++ cap.map .d) noHeap (.d (boo (p a)))) : Does Try.prog 67 [.d (.sl 11 144 (l.map encL)), .d (.fn (.func k) first cap)] noHeap (.d (int (idx p l))) := by
  refine Does_of T_ok mixed (N := 19) Try.func67 rfl rfl rfl (by rfl) fun F n Z hE hF J => ?_
  refine CW_know (know_sl (d := 0) rfl) fun hlen => ?_
  rw [List.length_map] at hlen
  refine CW_seq ?_
  refine CW_region ?_
  refine OW_run' hE.ok 1 rfl ?_
  refine OW_end rfl ?_
  refine CW_seq ?_
  refine CW_seq ?_
  refine CW_region ?_
  refine OW_run' hE.ok 3 rfl ?_
  refine OW_end rfl ?_
  refine CW_block ?_
  refine CW_loop (σ := {i : Nat // i ≤ l.length ∧ ∀ j a, j < i → l[j]? = some a → p a = false})
    (fun i => ⟨J, (sset (sset (sset (sset noSlots 0 (.d (.sl 11 144 (l.map encL)))) 1 (.d (.fn (.func k) first cap))) 7 (.d (.lit (.int .i64 l.length)))) 8 (.d (.lit (.int .i64 i.1)))), noHeap⟩) (fun i => l.length - i.1) ⟨0, Nat.zero_le _, by omega⟩ (LE_s (sle_set (sle_set (sle_set (sle_set (sle_no _) rfl) rfl) (by show AV.d (.lit (.int .i64 ((l.map encL).length : Int))) = _; rw [List.length_map])) rfl)) fun ⟨i, hi, hp⟩ => ?_
  refine CW_seq ?_
  refine CW_region ?_
  refine OW_run' hE.ok 1 rfl ?_
  refine OW_end rfl ?_
  refine CW_seq ?_
  refine CW_cond _ rfl (fun h1 => ?_) (fun h1 => ?_)
  · skip
    have hlt : i < l.length := by have := h1; simp at this; omega
    obtain ⟨a, ha⟩ : ∃ a, l[i]? = some a := ⟨_, List.getElem?_eq_getElem hlt⟩
    have hcall := hc a (List.mem_of_getElem? ha)
    obtain ⟨y1, y2, y3, y4, y5, y6, y7, y8, y9, rfl⟩ := El.shape a
    refine CW_skip ?_
    refine CW_seq ?_
    refine CW_block ?_
    refine CW_seq ?_
    refine CW_region ?_
    refine OW_run' hE.ok 2 rfl ?_
    refine OW_end rfl ?_
    refine CW_seq ?_
    refine CW_region ?_
    refine OW_run' hE.ok 3 rfl ?_
    refine OW_loc' hE (loc_indexAddr hE rfl rfl rfl rfl rfl (by omega) (x := encL ⟨y1, y2, y3, y4, .mk y5 y6 y7 y8 y9⟩) (by simp [ha])) rfl rfl rfl ?_
    refine OW_run' hE.ok 1 rfl ?_
    refine OW_call' hE (hcall) rfl rfl rfl rfl (kfs_fn rfl) rfl rfl ?_
    refine OW_end rfl ?_
    refine CW_cond _ rfl (fun h2 => ?_) (fun h2 => ?_)
    · skip
      refine CW_seq ?_
      refine CW_region ?_
      refine OW_run' hE.ok 2 rfl ?_
      refine OW_end rfl ?_
      refine CW_ret ?_
      refine ⟨.inr rfl, rfl, ⟨_, rfl, rfl, ?_⟩, rfl⟩
      rw [idx_some ha h2 hp]
      exact AVle.refl _
    · skip
      refine CW_skip ?_
      refine CW_region ?_
      refine OW_run' hE.ok 2 rfl ?_
      refine OW_end rfl ?_
      refine ⟨⟨i + 1, hlt, fun j b hj hb => ?_⟩, LE_s (sle_set (sle_set (sle_set (sle_set (sle_no _) rfl) rfl) rfl) (by show AV.d (.lit (.int .i64 (IntKind.i64.wrap (↑i + 1)))) = _; rw [wrap_succ (by omega)])), by show l.length - (i + 1) < l.length - i; omega⟩
      by_cases hji : j = i
      · subst hji; rw [ha] at hb; cases hb; exact h2
      · exact hp j b (by omega) hb
  · skip
    have hge : ¬ i < l.length := by have := h1; simp at this; omega
    refine CW_exit ?_
    show CW _ _ _ _
    refine CW_seq ?_
    refine CW_region ?_
    refine OW_run' hE.ok 1 rfl ?_
    refine OW_end rfl ?_
    refine CW_ret ?_
    refine ⟨.inr rfl, rfl, ⟨_, rfl, rfl, ?_⟩, rfl⟩
    rw [idx_none (fun j b hj => hp j b (by omega))]
    exact AVle.refl _

theorem containsL (l : List El) (k : Nat) (first cap : List D) (p : El → Bool) (hc : ∀ a ∈ l, Does Try.prog k (first.map .d ++ [.agg ((encL a).map .d)] ++ cap.map .d) noHeap (.d (boo (p a)))) : Does Try.prog 49 [.d (.sl 11 144 (l.map encL)), .d (.fn (.func k) first cap)] noHeap (.d (boo (l.any p))) := by
  refine Does_of T_ok mixed (N := 9) Try.func49 rfl rfl rfl (by rfl) fun F n Z hE hF J => ?_
  refine CW_seq ?_
  refine CW_region ?_
  refine OW_run' hE.ok 1 rfl ?_
  refine OW_end rfl ?_
  refine CW_seq ?_
  refine CW_region ?_
  refine OW_run' hE.ok 2 rfl ?_
  refine OW_call' hE (indexL l k first cap p hc) rfl rfl rfl rfl rfl rfl rfl ?_
  refine OW_run' hE.ok 2 rfl ?_
  refine OW_end rfl ?_
  refine CW_ret ?_
  refine ⟨.inr rfl, rfl, ⟨_, rfl, rfl, ?_⟩, rfl⟩
  exact AVle.of (congrArg (fun b => AV.d (boo b)) (by exact any_idxX))

theorem pat1 (x e : El) : Does Try.prog 50 [argL x, .d (.iptr (encL e))] noHeap (.d (boo (same x.al e.al))) := by
  refine Does_of T_ok mixed (N := 9) Try.func50 rfl rfl rfl (by rfl) fun F n Z hE hF J => ?_
  obtain ⟨y1, y2, y3, y4, y5, y6, y7, y8, y9, rfl⟩ := El.shape x
  obtain ⟨z1, z2, z3, z4, z5, z6, z7, z8, z9, rfl⟩ := El.shape e
  refine CW_seq ?_
  refine CW_region ?_
  refine OW_run' hE.ok 2 rfl ?_
  refine OW_end rfl ?_
  refine CW_seq ?_
  refine CW_region ?_
  refine OW_run' hE.ok 6 rfl ?_
  refine OW_end rfl ?_
  refine CW_ret ?_
  refine ⟨.inr rfl, rfl, ⟨_, rfl, rfl, ?_⟩, rfl⟩
  exact AVle.refl _

theorem isElemOk (e : El) : Does Try.prog 51 [argL e] noHeap (.d (boo (isElemX e))) := by
  refine Does_of T_ok mixed (N := 55) Try.func51 rfl rfl rfl (by rfl) fun F n Z hE hF J => ?_
  obtain ⟨al, tys, pl, ng, o, v, a, f, ks, rfl⟩ := El.shape e
  have hsx := sameXOk (.mk o v a f ks) zeroX
  have hix := isXOk (.mk o v a f ks)
  have hrise := riseOk tys
  refine CW_seq ?_
  refine CW_region ?_
  refine OW_run' hE.ok 2 rfl ?_
  refine OW_end rfl ?_
  refine CW_cutE (fun _ : Unit => ⟨J, (sset noSlots 1 (.d (.iptr (encL ⟨al, tys, pl, ng, .mk o v a f ks⟩)))), noHeap⟩) (fun _ => headL ⟨al, tys, pl, ng, .mk o v a f ks⟩ = true) ?_ ?_
  · skip
    refine CW_seq ?_
    refine CW_region ?_
    refine OW_run' hE.ok 2 rfl ?_
    refine OW_call' hE (nameOk _) rfl rfl rfl rfl rfl rfl rfl ?_
    refine OW_run' hE.ok 2 rfl ?_
    refine OW_split' 9 rfl (fun h1 => ?_) (fun h1 => ?_)
    · skip
      have g1 : isName al = false := by simpa using h1
      have hb : headL ⟨al, tys, pl, ng, .mk o v a f ks⟩ = false := by unfold headL; dsimp only; rw [g1]; rfl
      refine OW_run' hE.ok 25 rfl ?_
      refine OW_end rfl ?_
      refine CW_true rfl ?_
      refine CW_seq ?_
      refine CW_region ?_
      refine OW_run' hE.ok 1 rfl ?_
      refine OW_end rfl ?_
      refine CW_ret ?_
      refine ⟨.inr rfl, rfl, ⟨_, rfl, rfl, ?_⟩, rfl⟩
      exact AVle.of (congrArg (fun b => AV.d (boo b)) (by unfold isElemX; rw [hb]; rfl))
    · skip
      have g1 : isName al = true := by simpa using h1
      refine OW_run' hE.ok 6 rfl ?_
      refine OW_split' 15 rfl (fun h2 => ?_) (fun h2 => ?_)
      · skip
        have g2 : decide ((tys.length : Int) < 1) = true := by have := h2; rw [List.length_map] at this; exact this
        have hb : headL ⟨al, tys, pl, ng, .mk o v a f ks⟩ = false := by unfold headL; dsimp only; rw [g1, g2]; rfl
        refine OW_run' hE.ok 19 rfl ?_
        refine OW_end rfl ?_
        refine CW_true rfl ?_
        refine CW_seq ?_
        refine CW_region ?_
        refine OW_run' hE.ok 1 rfl ?_
        refine OW_end rfl ?_
        refine CW_ret ?_
        refine ⟨.inr rfl, rfl, ⟨_, rfl, rfl, ?_⟩, rfl⟩
        exact AVle.of (congrArg (fun b => AV.d (boo b)) (by unfold isElemX; rw [hb]; rfl))
      · skip
        have g2 : decide ((tys.length : Int) < 1) = false := by have := h2; rw [List.length_map] at this; exact this
        refine OW_run' hE.ok 6 rfl ?_
        refine OW_split' 21 rfl (fun h3 => ?_) (fun h3 => ?_)
        · skip
          have g3 : decide ((tys.length : Int) > 3) = true := by have := h3; rw [List.length_map] at this; exact this
          have hb : headL ⟨al, tys, pl, ng, .mk o v a f ks⟩ = false := by unfold headL; dsimp only; rw [g1, g2, g3]; rfl
          refine OW_run' hE.ok 13 rfl ?_
          refine OW_end rfl ?_
          refine CW_true rfl ?_
          refine CW_seq ?_
          refine CW_region ?_
          refine OW_run' hE.ok 1 rfl ?_
          refine OW_end rfl ?_
          refine CW_ret ?_
          refine ⟨.inr rfl, rfl, ⟨_, rfl, rfl, ?_⟩, rfl⟩
          exact AVle.of (congrArg (fun b => AV.d (boo b)) (by unfold isElemX; rw [hb]; rfl))
        · skip
          have g3 : decide ((tys.length : Int) > 3) = false := by have := h3; rw [List.length_map] at this; exact this
          refine OW_run' hE.ok 2 rfl ?_
          refine OW_call' hE (hrise) rfl rfl rfl rfl rfl rfl rfl ?_
          refine OW_run' hE.ok 3 rfl ?_
          refine OW_split' 27 rfl (fun h4 => ?_) (fun h4 => ?_)
          · skip
            have g4 : rise tys = false := by simpa using h4
            have hb : headL ⟨al, tys, pl, ng, .mk o v a f ks⟩ = false := by unfold headL; dsimp only; rw [g1, g2, g3, g4]; rfl
            refine OW_run' hE.ok 7 rfl ?_
            refine OW_end rfl ?_
            refine CW_true rfl ?_
            refine CW_seq ?_
            refine CW_region ?_
            refine OW_run' hE.ok 1 rfl ?_
            refine OW_end rfl ?_
            refine CW_ret ?_
            refine ⟨.inr rfl, rfl, ⟨_, rfl, rfl, ?_⟩, rfl⟩
            exact AVle.of (congrArg (fun b => AV.d (boo b)) (by unfold isElemX; rw [hb]; rfl))
          · skip
            have g4 : rise tys = true := by simpa using h4
            refine OW_run' hE.ok 3 rfl ?_
            refine OW_split' 30 rfl (fun h5 => ?_) (fun h5 => ?_)
            · skip
              have g5 : pl = true := h5
              refine OW_run' hE.ok 4 rfl ?_
              refine OW_end rfl ?_
              refine CW_cond _ rfl (fun h6 => ?_) (fun h6 => ?_)
              · skip
                have g6 : ng = true := h6
                have hb : headL ⟨al, tys, pl, ng, .mk o v a f ks⟩ = false := by unfold headL; dsimp only; rw [g1, g2, g3, g4, g5, g6]; rfl
                refine CW_seq ?_
                refine CW_region ?_
                refine OW_run' hE.ok 1 rfl ?_
                refine OW_end rfl ?_
                refine CW_ret ?_
                refine ⟨.inr rfl, rfl, ⟨_, rfl, rfl, ?_⟩, rfl⟩
                exact AVle.of (congrArg (fun b => AV.d (boo b)) (by unfold isElemX; rw [hb]; rfl))
              · skip
                have g6 : ng = false := h6
                have hh : headL ⟨al, tys, pl, ng, .mk o v a f ks⟩ = true := by unfold headL; dsimp only; rw [g1, g2, g3, g4, g5, g6]; rfl
                refine CW_skip ?_
                exact ⟨(), hh, LE_sh (slh_set (slh_no _ _) rfl rfl) (hlh_no _ _)⟩
            · skip
              have g5 : pl = false := h5
              have hh : headL ⟨al, tys, pl, ng, .mk o v a f ks⟩ = true := by unfold headL; dsimp only; rw [g1, g2, g3, g4, g5]; rfl
              refine OW_run' hE.ok 4 rfl ?_
              refine OW_end rfl ?_
              refine CW_false rfl ?_
              refine CW_skip ?_
              exact ⟨(), hh, LE_sh (slh_set (slh_no _ _) rfl rfl) (hlh_no _ _)⟩
  · skip
    rintro _ hh
    refine CW_seq ?_
    refine CW_seq ?_
    refine CW_region ?_
    refine OW_run' hE.ok 4 rfl ?_
    refine OW_end rfl ?_
    refine CW_block ?_
    refine CW_know (know_sl (d := 36) rfl) fun hlen => ?_
    rw [List.length_map] at hlen
    dsimp only at hlen
    refine CW_loop (σ := {i : Nat // i ≤ tys.length ∧ ∀ j b, j < i → tys[j]? = some b → isName b = true}) (fun i => ⟨J, (sset (sset (sset (sset noSlots 1 (.d (.iptr (encL ⟨al, tys, pl, ng, .mk o v a f ks⟩)))) 36 (.d (.sl 1 16 (tys.map encB)))) 37 (.d (int ((tys.length : Nat) : Int)))) 38 (.d (int ((i.1 : Nat) : Int)))), noHeap⟩) (fun i => tys.length - i.1) ⟨0, Nat.zero_le _, fun j b hj => by omega⟩ (LE_sh (slh_set (slh_set (slh_set (slh_set (slh_no _ _) rfl rfl) rfl rfl) (by show AV.d (.lit (.int .i64 ((tys.map encB).length : Int))) = _; rw [List.length_map]; rfl) rfl) rfl rfl) (hlh_no _ _)) fun ⟨i, hi, hp⟩ => ?_
    refine CW_seq ?_
    refine CW_region ?_
    refine OW_run' hE.ok 1 rfl ?_
    refine OW_end rfl ?_
    refine CW_seq ?_
    refine CW_cond _ rfl (fun h7 => ?_) (fun h7 => ?_)
    · skip
      have hlt : i < tys.length := by have := h7; simp at this; omega
      obtain ⟨b, hb⟩ : ∃ b, tys[i]? = some b := ⟨_, List.getElem?_eq_getElem hlt⟩
      refine CW_skip ?_
      refine CW_seq ?_
      refine CW_block ?_
      refine CW_seq ?_
      refine CW_region ?_
      refine OW_loc' hE (loc_indexAddr hE rfl rfl rfl rfl rfl (by omega) (x := encB b) (by simp [hb])) rfl rfl rfl ?_
      refine OW_run' hE.ok 2 rfl ?_
      refine OW_end rfl ?_
      refine CW_seq ?_
      refine CW_region ?_
      refine OW_run' hE.ok 1 rfl ?_
      refine OW_call' hE (nameOk _) rfl rfl rfl rfl rfl rfl rfl ?_
      refine OW_run' hE.ok 1 rfl ?_
      refine OW_end rfl ?_
      refine CW_cond _ rfl (fun h8 => ?_) (fun h8 => ?_)
      · skip
        have hbad : isName b = false := by simpa using h8
        refine CW_seq ?_
        refine CW_region ?_
        refine OW_run' hE.ok 1 rfl ?_
        refine OW_end rfl ?_
        refine CW_ret ?_
        refine ⟨.inr rfl, rfl, ⟨_, rfl, rfl, ?_⟩, rfl⟩
        exact AVle.of (congrArg (fun b => AV.d (boo b)) (by rw [isElem_bad (e := ⟨al, tys, pl, ng, .mk o v a f ks⟩) hh hb hbad]))
      · skip
        have hgood : isName b = true := by simpa using h8
        refine CW_skip ?_
        refine CW_region ?_
        refine OW_run' hE.ok 2 rfl ?_
        refine OW_end rfl ?_
        refine ⟨⟨i + 1, by omega, fun j x hj hx => ?_⟩, LE_sh (slh_set (slh_set (slh_set (slh_set (slh_no _ _) rfl rfl) rfl rfl) rfl rfl) (by show AV.d (.lit (.int .i64 (IntKind.i64.wrap (↑i + 1)))) = _; rw [wrap_succ (by omega)]; rfl) rfl) (hlh_no _ _), by show tys.length - (i + 1) < tys.length - i; omega⟩
        by_cases hji : j = i
        · subst hji; rw [hb] at hx; cases hx; exact hgood
        · exact hp j x (by omega) hx
    · skip
      have hge : tys.length ≤ i := by have := h7; simp at this; omega
      have hall : tys.all isName = true := all_of fun j b hj hb => hp j b (by omega) hb
      refine CW_exit ?_
      show CW _ _ _ _
      refine CW_seq ?_
      refine CW_region ?_
      refine OW_run' hE.ok 2 rfl ?_
      refine OW_build' hE rfl rfl rfl rfl rfl ?_
      refine OW.le (LE_slot 48 (argX zeroX) (AVle.agg (.cons (.refl _) (.cons (.refl _) (.cons (.refl _) (.cons (.refl _) (.cons (.refl _) (.cons (.refl _) (.cons (.nilSl 7 96) .nil))))))))) ?_
      refine OW_call' hE (hsx) rfl rfl rfl rfl rfl rfl rfl ?_
      refine OW_run' hE.ok 1 rfl ?_
      refine OW_split' 50 rfl (fun h9 => ?_) (fun h9 => ?_)
      · skip
        have g7 := h9
        refine OW_run' hE.ok 5 rfl ?_
        refine OW_end rfl ?_
        refine CW_ret ?_
        refine ⟨.inr rfl, rfl, ⟨_, rfl, rfl, ?_⟩, rfl⟩
        exact AVle.of (congrArg (fun b => AV.d (boo b)) (by unfold isElemX; rw [hh]; dsimp only; rw [hall, g7]; rfl))
      · skip
        have g7 := h9
        refine OW_run' hE.ok 2 rfl ?_
        refine OW_call' hE (hix) rfl rfl rfl rfl rfl rfl rfl ?_
        refine OW_run' hE.ok 2 rfl ?_
        refine OW_end rfl ?_
        refine CW_ret ?_
        refine ⟨.inr rfl, rfl, ⟨_, rfl, rfl, ?_⟩, rfl⟩
        exact AVle.of (congrArg (fun b => AV.d (boo b)) (by unfold isElemX; rw [hh]; dsimp only; rw [hall, g7]; rfl))
end Go.Proofs.Ythffbfjnahipcaa
