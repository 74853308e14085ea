/- Part of an abstract logic over the kit's walks, and walks in it: X6d. -/
import Derived.Test.YthffbfjnahipcaaX2k
import Derived.Test.YthffbfjnahipcaaX6m
namespace Go.Proofs.Ythffbfjnahipcaa
open Go Go.AL
set_option linter.unusedVariables false
set_option linter.unusedSimpArgs false
set_option maxHeartbeats 4000000
theorem deepOk (n1 : UInt8) (full : Bool) : Does Try.prog 3 [.d (.lit (.int .u8 (n1.toNat : Int))), .d (boo full)] noHeap (.d (boo true)) := by
  refine Does_of T_ok mixed (N := 58) Try.func3 rfl rfl rfl (by rfl) fun F n Z hE hF J => ?_
  refine CW_seq ?_
  refine CW_region ?_
  refine OW_run' hE.ok 1 rfl ?_
  refine OW_end rfl ?_
  refine CW_seq ?_
  refine CW_seq ?_
  refine CW_region ?_
  refine OW_call' hE (known6) rfl rfl rfl rfl rfl rfl rfl ?_
  refine OW_run' hE.ok 1 rfl ?_
  refine OW_end rfl ?_
  refine CW_false rfl ?_
  refine CW_skip ?_
  refine CW_seq ?_
  obtain ⟨k, hk⟩ : ∃ k, n1.toNat % 7 + 1 = k := ⟨_, rfl⟩
  have hk1 : 1 ≤ k := by omega
  have hk7 : k ≤ 7 := by omega
  refine CW_region ?_
  refine OW_run' hE.ok 4 rfl ?_
  refine OW_as' 14 (.d (int ((k : Nat) : Int))) (by show AV.d (.lit (.int .i64 (IntKind.i64.wrap (IntKind.i64.wrap ((n1.toNat % 7 : Nat) : Int) + 1)))) = _; rw [wrapN (by omega), wrap_succ (by omega), ← hk]; rfl) ?_
  refine OW_run' hE.ok 1 rfl ?_
  refine OW_end rfl ?_
  refine CW_seq ?_
  refine CW_region ?_
  refine OW_call' hE (litOk 1) rfl rfl rfl rfl rfl rfl rfl ?_
  refine OW_alloc' hE 1 rfl rfl rfl rfl rfl rfl rfl ?_
  refine OW_store' hE rfl rfl rfl rfl rfl rfl rfl rfl rfl rfl rfl rfl ?_
  refine OW_end rfl ?_
  refine CW_seq ?_
  refine CW_seq ?_
  refine CW_region ?_
  refine OW_run' hE.ok 1 rfl ?_
  refine OW_end rfl ?_
  refine CW_block ?_
  refine CW_loop (σ := {i : Nat // i + 1 ≤ k}) (fun i => ⟨J, (sset (sset (sset (sset noSlots 1 (.d (boo full))) 5 (.d (int ((k : Nat) : Int)))) 6 (.ptr 1 0)) 7 (.d (int ((i.1 + 1 : Nat) : Int)))), (hset noHeap 1 (some (.box 27 ((encX (deepX full i.1)).map .d))))⟩) (fun i => k - i.1) ⟨0, hk1⟩ (LE_sh (slh_set (slh_set (slh_set (slh_set (slh_no _ _) rfl rfl) rfl rfl) rfl rfl) rfl rfl) (hlh_set (hlh_no _ _) rfl rfl)) fun ⟨i, hi⟩ => ?_
  refine CW_seq ?_
  refine CW_seq ?_
  refine CW_region ?_
  refine OW_run' hE.ok 3 rfl ?_
  refine OW_end rfl ?_
  refine CW_cond _ rfl (fun h1 => ?_) (fun h1 => ?_)
  · skip
    have hlt : i + 1 < k := by have := h1; simp at this; omega
    refine CW_skip ?_
    refine CW_seq ?_
    refine CW_block ?_
    refine CW_seq ?_
    refine CW_region ?_
    refine OW_run' hE.ok 1 rfl ?_
    refine OW_end rfl ?_
    refine CW_cond _ rfl (fun h2 => ?_) (fun h2 => ?_)
    · skip
      have hfull : full = true := h2
      subst hfull
      refine CW_region ?_
      refine OW_run' hE.ok 2 rfl ?_
      refine OW_call' hE (twoOk 3 (deepX true i) (deepX true i)) rfl rfl rfl rfl rfl rfl rfl ?_
      refine OW_store' hE rfl rfl rfl rfl rfl rfl rfl rfl rfl rfl rfl rfl ?_
      refine OW_end rfl ?_
      refine CW_region ?_
      refine OW_run' hE.ok 3 rfl ?_
      refine OW_end rfl ?_
      exact ⟨⟨i + 1, by omega⟩, LE_sh (slh_set (slh_set (slh_set (slh_set (slh_no _ _) rfl rfl) rfl rfl) rfl rfl) (by show AV.d (.lit (.int .i64 (IntKind.i64.wrap (((i + 1 : Nat) : Int) + 1)))) = _; rw [wrap_succ (by omega)]; rfl) rfl) (hlh_set (hlh_no _ _) rfl rfl), by show k - (i + 1) < k - i; omega⟩
    · skip
      have hfull : full = false := h2
      subst hfull
      refine CW_drawn' hE 2 (by decide +kernel) ?_
      refine HW_run hE 1 rfl rfl ?_
      refine HW_call hE (litOk 2) rfl rfl rfl rfl rfl rfl rfl rfl ?_
      refine HW_end ?_
      refine OW_call' hE (twoOk 3 (deepX false i) (litX 2)) rfl rfl rfl rfl rfl rfl rfl ?_
      refine OW_store' hE rfl rfl rfl rfl rfl rfl rfl rfl rfl rfl rfl rfl ?_
      refine OW_end rfl ?_
      refine CW_region ?_
      refine OW_run' hE.ok 3 rfl ?_
      refine OW_end rfl ?_
      exact ⟨⟨i + 1, by omega⟩, LE_sh (slh_set (slh_set (slh_set (slh_set (slh_no _ _) rfl rfl) rfl rfl) rfl rfl) (by show AV.d (.lit (.int .i64 (IntKind.i64.wrap (((i + 1 : Nat) : Int) + 1)))) = _; rw [wrap_succ (by omega)]; rfl) rfl) (hlh_set (hlh_no _ _) rfl rfl), by show k - (i + 1) < k - i; omega⟩
  · skip
    have hki : k - 1 = i := by have := h1; simp at this; omega
    refine CW_exit ?_
    show CW _ _ _ _
    refine CW_seq ?_
    refine CW.le (show LE _ _ ⟨J, (sset (sset (sset noSlots 1 (.d (boo full))) 5 (.d (int ((k : Nat) : Int)))) 6 (.ptr 1 0)), (hset noHeap 1 (some (.box 27 ((encX (deepX full (k - 1))).map .d))))⟩ from LE_sh (slh_set (slh_set (slh_set (slh_no _ _) rfl rfl) rfl rfl) rfl rfl) (hlh_set (hlh_no _ _) (by rw [hki]; rfl) rfl)) ?_
    refine CW_region ?_
    refine OW_run' hE.ok 3 rfl ?_
    refine OW_as' 30 (.d (int ((2 * k - 1 : Nat) : Int))) (by show AV.d (.lit (.int .i64 (IntKind.i64.wrap (IntKind.i64.wrap (2 * (k : Int)) - 1)))) = _; rw [show (2 * (k : Int)) = ((2 * k : Nat) : Int) by omega, wrapN (by omega), show (((2 * k : Nat) : Int) - 1) = ((2 * k - 1 : Nat) : Int) by omega, wrapN (by omega)]; rfl) ?_
    refine OW_run' hE.ok 1 rfl ?_
    refine OW_end rfl ?_
    refine CW_cutE (fun _ : Unit => ⟨J, (sset (sset (sset (sset noSlots 1 (.d (boo full))) 5 (.d (int ((k : Nat) : Int)))) 6 (.ptr 1 0)) 8 (.d (int ((dN full k : Nat) : Int)))), (hset noHeap 1 (some (.box 27 ((encX (deepX full (k - 1))).map .d))))⟩) (fun _ => True) ?_ ?_
    · skip
      refine CW_seq ?_
      refine CW_region ?_
      refine OW_run' hE.ok 1 rfl ?_
      refine OW_end rfl ?_
      refine CW_cond _ rfl (fun h3 => ?_) (fun h3 => ?_)
      · skip
        have hfull : full = true := h3
        subst hfull
        refine CW_region ?_
        refine OW_run' hE.ok 2 rfl ?_
        refine OW_as' 33 (.d (.lit (.int .u64 (k : Int)))) (by show AV.d (.lit (.int .u64 (IntKind.u64.wrap (k : Int)))) = _; rw [wrap_id _ _ (by have : IntKind.u64.min = 0 := rfl; omega) (by have : IntKind.u64.max = 18446744073709551615 := rfl; omega)]) ?_
        refine OW_loc' hE (loc_shl hE rfl (k := k) rfl rfl (by omega)) rfl rfl rfl ?_
        refine OW_run' hE.ok 1 rfl ?_
        refine OW_as' 35 (.d (int ((2 ^ k - 1 : Nat) : Int))) (by have h1 : (2 : Nat) ^ k ≤ 2 ^ 7 := Nat.pow_le_pow_right (by omega) hk7; have h2 : 0 < (2 : Nat) ^ k := Nat.pow_pos (by omega); show AV.d (.lit (.int .i64 (IntKind.i64.wrap (((2 ^ k : Nat) : Int) - 1)))) = _; rw [show (((2 ^ k : Nat) : Int) - 1) = ((2 ^ k - 1 : Nat) : Int) by omega, wrapN (by omega)]; rfl) ?_
        refine OW_run' hE.ok 1 rfl ?_
        refine OW_end rfl ?_
        exact ⟨(), trivial, LE_sh (slh_set (slh_set (slh_set (slh_set (slh_no _ _) rfl rfl) rfl rfl) rfl rfl) rfl rfl) (hlh_set (hlh_no _ _) rfl rfl)⟩
      · skip
        have hfull : full = false := h3
        subst hfull
        refine CW_skip ?_
        exact ⟨(), trivial, LE_sh (slh_set (slh_set (slh_set (slh_set (slh_no _ _) rfl rfl) rfl rfl) rfl rfl) rfl rfl) (hlh_set (hlh_no _ _) rfl rfl)⟩
    · skip
      rintro _ _
      obtain ⟨j, rfl⟩ : ∃ j, k = j + 1 := ⟨k - 1, by omega⟩
      rw [Nat.add_sub_cancel]
      have h7 : j < 7 := by omega
      have q1 := isXOk (deepX full j); rw [deep_is h7] at q1
      have q2 := depthXOk (deepX full j); rw [deep_depth h7] at q2
      have hd := dN_le (full := full) hk7
      have q3 := nodesOk (deepX full j) (by rw [deep_nodes h7]; omega)
      refine CW_seq ?_
      refine CW_region ?_
      refine OW_run' hE.ok 1 rfl ?_
      refine OW_call' hE (q1) rfl rfl rfl rfl rfl rfl rfl ?_
      refine OW_run' hE.ok 3 rfl ?_
      refine OW_split' 40 rfl (fun h4 => ?_) (fun h4 => ?_)
      · skip
        refine OW_run' hE.ok 3 rfl ?_
        refine OW_run' hE.ok 1 rfl ?_
        refine OW_as' 44 (.d (boo true)) (by refine congrArg (fun b => AV.d (boo b)) ?_; simp_all) ?_
        refine OW_run' hE.ok 2 rfl ?_
        refine OW_call' hE (q2) rfl rfl rfl rfl rfl rfl rfl ?_
        refine OW_run' hE.ok 1 rfl ?_
        refine OW_run' hE.ok 1 rfl ?_
        refine OW_as' 49 (.d (boo true)) (by refine congrArg (fun b => AV.d (boo b)) ?_; simp) ?_
        refine OW_run' hE.ok 3 rfl ?_
        refine OW_call' hE (q3) rfl rfl rfl rfl rfl rfl rfl ?_
        refine OW_run' hE.ok 2 rfl ?_
        refine OW_as' 54 (.d (int ((dN full (j + 1) : Nat) : Int))) (by show AV.d (.lit (.int .i64 (((encXs (nodesX (deepX full j) 1)).length : Nat) : Int))) = _; rw [encXs_length, deep_nodes h7]; rfl) ?_
        refine OW_run' hE.ok 1 rfl ?_
        refine OW_as' 56 (.d (boo true)) (by refine congrArg (fun b => AV.d (boo b)) ?_; simp) ?_
        refine OW_run' hE.ok 2 rfl ?_
        refine OW_end rfl ?_
        refine CW_ret ?_
        refine ⟨.inr rfl, rfl, ⟨[.d (boo true)], rfl, rfl, ?_⟩, rfl⟩
        exact AVle.refl _
      · skip
        refine OW_run' hE.ok 3 rfl ?_
        refine OW_run' hE.ok 1 rfl ?_
        refine OW_as' 44 (.d (boo true)) (by refine congrArg (fun b => AV.d (boo b)) ?_; simp_all) ?_
        refine OW_run' hE.ok 2 rfl ?_
        refine OW_call' hE (q2) rfl rfl rfl rfl rfl rfl rfl ?_
        refine OW_run' hE.ok 1 rfl ?_
        refine OW_run' hE.ok 1 rfl ?_
        refine OW_as' 49 (.d (boo true)) (by refine congrArg (fun b => AV.d (boo b)) ?_; simp) ?_
        refine OW_run' hE.ok 3 rfl ?_
        refine OW_call' hE (q3) rfl rfl rfl rfl rfl rfl rfl ?_
        refine OW_run' hE.ok 2 rfl ?_
        refine OW_as' 54 (.d (int ((dN full (j + 1) : Nat) : Int))) (by show AV.d (.lit (.int .i64 (((encXs (nodesX (deepX full j) 1)).length : Nat) : Int))) = _; rw [encXs_length, deep_nodes h7]; rfl) ?_
        refine OW_run' hE.ok 1 rfl ?_
        refine OW_as' 56 (.d (boo true)) (by refine congrArg (fun b => AV.d (boo b)) ?_; simp) ?_
        refine OW_run' hE.ok 2 rfl ?_
        refine OW_end rfl ?_
        refine CW_ret ?_
        refine ⟨.inr rfl, rfl, ⟨[.d (boo true)], rfl, rfl, ?_⟩, rfl⟩
        exact AVle.refl _
end Go.Proofs.Ythffbfjnahipcaa
