/- Part of an abstract logic over the kit's walks, and walks in it: V1m. -/
import Derived.Test.YtdlikopmjhfalaaV1k
namespace Go.Proofs.Ytdlikopmjhfalaa
open Go Go.AL
set_option linter.unusedVariables false
set_option linter.unusedSimpArgs false
set_option maxHeartbeats 4000000
theorem textsOk (n1 at1 c : UInt8) : Does Try.prog 9 [.d (.lit (.int .u8 (n1.toNat : Int))), .d (.lit (.int .u8 (at1.toNat : Int))), .d (.lit (.int .u8 (c.toNat : Int)))] noHeap (.d (boo true)) := by
  refine Does_of T_ok mixed (N := 59) Try.func9 rfl rfl rfl (by rfl) fun F n Z hE hF J => ?_
  obtain ⟨k, hk⟩ : ∃ k, n1.toNat % 20 = k := ⟨_, rfl⟩
  have hkl : k < 20 := by omega
  refine CW_seq ?_
  refine CW_region ?_
  refine OW_run' hE.ok 1 rfl ?_
  refine OW_end rfl ?_
  refine CW_seq ?_
  refine CW_seq ?_
  refine CW_region ?_
  refine OW_call' hE (known1) rfl rfl rfl rfl rfl rfl rfl ?_
  refine OW_run' hE.ok 1 rfl ?_
  refine OW_end rfl ?_
  refine CW_false rfl ?_
  refine CW_skip ?_
  refine CW_seq ?_
  refine CW_region ?_
  refine OW_run' hE.ok 3 rfl ?_
  refine OW_as' 15 (.d (int ((k : Nat) : Int))) (by show AV.d (.lit (.int .i64 (IntKind.i64.wrap ((n1.toNat % 20 : Nat) : Int)))) = _; rw [hk, wrap_id _ _ (by have : IntKind.i64.min = -9223372036854775808 := rfl; omega) (by have : IntKind.i64.max = 9223372036854775807 := rfl; omega)]; rfl) ?_
  refine OW_run' hE.ok 1 rfl ?_
  refine OW_end rfl ?_
  refine CW_seq ?_
  refine CW_region ?_
  refine OW_run' hE.ok 1 rfl ?_
  refine OW_make' hE 7 rfl rfl rfl rfl rfl rfl rfl (n := k) rfl rfl (by omega) (by omega) rfl ?_
  refine OW_run' hE.ok 1 rfl ?_
  refine OW_end rfl ?_
  refine CW_seq ?_
  refine CW_seq ?_
  refine CW_region ?_
  refine OW_run' hE.ok 1 rfl ?_
  refine OW_end rfl ?_
  refine CW_block ?_
  refine CW_loop (σ := {i : Nat // i ≤ k}) (fun i => ⟨J, (sset (sset (sset (sset (sset noSlots 1 (.d (.lit (.int .u8 (at1.toNat : Int))))) 2 (.d (.lit (.int .u8 (c.toNat : Int))))) 7 (.d (int ((k : Nat) : Int)))) 8 (.row 7)) 9 (.d (int ((i.1 : Nat) : Int)))), (hset noHeap 7 (some (.row 5 1 (bytesD (fillB 120 i.1 k)))))⟩) (fun i => k - i.1) ⟨0, Nat.zero_le _⟩ (LE_sh (slh_set (slh_set (slh_set (slh_set (slh_set (slh_no _ _) rfl rfl) rfl rfl) rfl rfl) rfl rfl) rfl rfl) (hlh_set (hlh_no _ _) (congrArg (fun z => some (Ent.row 5 1 z)) (fill_start 120 k)) rfl)) fun ⟨i, hi⟩ => ?_
  refine CW_seq ?_
  refine CW_seq ?_
  refine CW_region ?_
  refine OW_run' hE.ok 3 rfl ?_
  refine OW_end rfl ?_
  refine CW_cond _ rfl (fun h1 => ?_) (fun h1 => ?_)
  · skip
    have hlt : i < k := by have := h1; simp at this; omega
    refine CW_skip ?_
    refine CW_seq ?_
    refine CW_block ?_
    refine CW_region ?_
    refine OW_run' hE.ok 2 rfl ?_
    refine OW_setAt' hE (key := 7) rfl rfl rfl rfl rfl rfl rfl rfl rfl rfl rfl (run_size T_ok (t := 5) rfl) rfl rfl (j := i) rfl (by rw [bytesD_length]; simp [fillB]; omega) (y := [.lit (.int .u8 120)]) rfl rfl rfl ?_
    refine OW_end rfl ?_
    refine CW_region ?_
    refine OW_run' hE.ok 3 rfl ?_
    refine OW_end rfl ?_
    exact ⟨⟨i + 1, hlt⟩, LE_sh (slh_set (slh_set (slh_set (slh_set (slh_set (slh_no _ _) rfl rfl) rfl rfl) rfl rfl) rfl rfl) (by show AV.d (.lit (.int .i64 (IntKind.i64.wrap (↑i + 1)))) = _; rw [wrap_succ (by omega)]; rfl) rfl) (hlh_set (hlh_no _ _) (congrArg (fun z => some (Ent.row 5 1 z)) (fill_next (c := 120) hlt)) rfl), by show k - (i + 1) < k - i; omega⟩
  · skip
    have hik : k = i := by have := h1; simp at this; omega
    subst hik
    refine CW_exit ?_
    show CW _ _ _ _
    refine CW_seq ?_
    refine CW_region ?_
    refine OW_run' hE.ok 3 rfl ?_
    refine OW_end rfl ?_
    refine CW_seq ?_
    refine CW_seq ?_
    refine CW_region ?_
    refine OW_run' hE.ok 2 rfl ?_
    refine OW_end rfl ?_
    refine CW_cond _ rfl (fun h2 => ?_) (fun h2 => ?_)
    · skip
      have h0 : 0 < k := by have := h2; simp at this; omega
      have hset : (bytesD (fillB 120 k k)).set (at1.toNat % k) [D.lit (.int .u8 c.toNat)] = bytesD ((List.replicate k 120).set (at1.toNat % k) c) := by rw [bytes_set, fill_end]
      obtain ⟨L, hL⟩ : ∃ L, L = (List.replicate k (120 : UInt8)).set (at1.toNat % k) c := ⟨_, rfl⟩
      have hT := text_fill (c := c) (Nat.mod_lt at1.toNat h0)
      rw [← hL] at hset hT
      have hq := isValOk ⟨2, 1, ⟨L.toArray⟩⟩; rw [text_one] at hq
      refine CW_seq ?_
      refine CW_region ?_
      refine OW_run' hE.ok 4 rfl ?_
      refine OW_as' 32 (.d (int ((at1.toNat : Nat) : Int))) (by show AV.d (.lit (.int .i64 (IntKind.i64.wrap (at1.toNat : Int)))) = _; rw [wrap_id _ _ (by have : IntKind.i64.min = -9223372036854775808 := rfl; omega) (by have := at1.toNat_lt; have : IntKind.i64.max = 9223372036854775807 := rfl; omega)]; rfl) ?_
      refine OW_loc' hE (loc_rem hE rfl rfl rfl (by omega)) rfl rfl rfl ?_
      refine OW_as' 34 (.d (int ((at1.toNat % k : Nat) : Int))) rfl ?_
      refine OW_run' hE.ok 1 rfl ?_
      refine OW_setAt' hE (key := 7) rfl rfl rfl rfl rfl rfl rfl rfl rfl rfl rfl (run_size T_ok (t := 5) rfl) rfl rfl (j := at1.toNat % k) rfl (by rw [bytesD_length]; simp [fillB]; exact Nat.mod_lt _ h0) (y := [.lit (.int .u8 c.toNat)]) rfl rfl rfl ?_
      refine OW_end rfl ?_
      refine CW_region ?_
      refine OW_run' hE.ok 2 rfl ?_
      refine OW_split' 38 rfl (fun h3 => ?_) (fun h3 => ?_)
      · skip
        refine OW_run' hE.ok 4 rfl ?_
        refine OW_split' 42 rfl (fun h4 => ?_) (fun h4 => ?_)
        · skip
          refine OW_run' hE.ok 4 rfl ?_
          refine OW_end rfl ?_
          refine CW_seq ?_
          refine CW_region ?_
          refine OW_run' hE.ok 1 rfl ?_
          refine OW_bytesString' hE (key := 7) rfl rfl rfl rfl rfl rfl rfl rfl hset rfl ?_
          refine OW_build' hE rfl rfl rfl rfl rfl ?_
          refine OW_call' hE (isValOk ⟨2, 0, ⟨L.toArray⟩⟩) rfl rfl rfl rfl rfl rfl rfl ?_
          refine OW_run' hE.ok 2 rfl ?_
          refine OW_as' 51 (.d (boo true)) (congrArg (fun b => AV.d (boo b)) (by rw [hT]; simp_all)) ?_
          refine OW_run' hE.ok 1 rfl ?_
          refine OW_run' hE.ok 1 rfl ?_
          refine OW_bytesString' hE (key := 7) rfl rfl rfl rfl rfl rfl rfl rfl hset rfl ?_
          refine OW_build' hE rfl rfl rfl rfl rfl ?_
          refine OW_call' hE (hq) rfl rfl rfl rfl rfl rfl rfl ?_
          refine OW_run' hE.ok 3 rfl ?_
          refine OW_end rfl ?_
          refine CW_ret ?_
          refine ⟨.inr rfl, rfl, ⟨[.d (boo true)], rfl, rfl, ?_⟩, rfl⟩
          exact AVle.refl _
        · skip
          refine OW_run' hE.ok 4 rfl ?_
          refine OW_end rfl ?_
          refine CW_seq ?_
          refine CW_region ?_
          refine OW_run' hE.ok 1 rfl ?_
          refine OW_bytesString' hE (key := 7) rfl rfl rfl rfl rfl rfl rfl rfl hset rfl ?_
          refine OW_build' hE rfl rfl rfl rfl rfl ?_
          refine OW_call' hE (isValOk ⟨2, 0, ⟨L.toArray⟩⟩) rfl rfl rfl rfl rfl rfl rfl ?_
          refine OW_run' hE.ok 2 rfl ?_
          refine OW_as' 51 (.d (boo true)) (congrArg (fun b => AV.d (boo b)) (by rw [hT]; simp_all)) ?_
          refine OW_run' hE.ok 1 rfl ?_
          refine OW_run' hE.ok 1 rfl ?_
          refine OW_bytesString' hE (key := 7) rfl rfl rfl rfl rfl rfl rfl rfl hset rfl ?_
          refine OW_build' hE rfl rfl rfl rfl rfl ?_
          refine OW_call' hE (hq) rfl rfl rfl rfl rfl rfl rfl ?_
          refine OW_run' hE.ok 3 rfl ?_
          refine OW_end rfl ?_
          refine CW_ret ?_
          refine ⟨.inr rfl, rfl, ⟨[.d (boo true)], rfl, rfl, ?_⟩, rfl⟩
          exact AVle.refl _
      · skip
        refine OW_run' hE.ok 8 rfl ?_
        refine OW_end rfl ?_
        refine CW_seq ?_
        refine CW_region ?_
        refine OW_run' hE.ok 1 rfl ?_
        refine OW_bytesString' hE (key := 7) rfl rfl rfl rfl rfl rfl rfl rfl hset rfl ?_
        refine OW_build' hE rfl rfl rfl rfl rfl ?_
        refine OW_call' hE (isValOk ⟨2, 0, ⟨L.toArray⟩⟩) rfl rfl rfl rfl rfl rfl rfl ?_
        refine OW_run' hE.ok 2 rfl ?_
        refine OW_as' 51 (.d (boo true)) (congrArg (fun b => AV.d (boo b)) (by rw [hT]; simp_all)) ?_
        refine OW_run' hE.ok 1 rfl ?_
        refine OW_run' hE.ok 1 rfl ?_
        refine OW_bytesString' hE (key := 7) rfl rfl rfl rfl rfl rfl rfl rfl hset rfl ?_
        refine OW_build' hE rfl rfl rfl rfl rfl ?_
        refine OW_call' hE (hq) rfl rfl rfl rfl rfl rfl rfl ?_
        refine OW_run' hE.ok 3 rfl ?_
        refine OW_end rfl ?_
        refine CW_ret ?_
        refine ⟨.inr rfl, rfl, ⟨[.d (boo true)], rfl, rfl, ?_⟩, rfl⟩
        exact AVle.refl _
    · skip
      have h0 : k = 0 := by have := h2; simp at this; omega
      subst h0
      have hset : bytesD (fillB 120 0 0) = bytesD (List.replicate 0 120) := rfl
      obtain ⟨L, hL⟩ : ∃ L, L = List.replicate 0 (120 : UInt8) := ⟨_, rfl⟩
      have hT := text_none
      rw [← hL] at hset hT
      have hq := isValOk ⟨2, 1, ⟨L.toArray⟩⟩; rw [text_one] at hq
      refine CW_skip ?_
      refine CW_seq ?_
      refine CW_region ?_
      refine OW_run' hE.ok 1 rfl ?_
      refine OW_bytesString' hE (key := 7) rfl rfl rfl rfl rfl rfl rfl rfl hset rfl ?_
      refine OW_build' hE rfl rfl rfl rfl rfl ?_
      refine OW_call' hE (isValOk ⟨2, 0, ⟨L.toArray⟩⟩) rfl rfl rfl rfl rfl rfl rfl ?_
      refine OW_run' hE.ok 2 rfl ?_
      refine OW_as' 51 (.d (boo true)) (congrArg (fun b => AV.d (boo b)) (by rw [hT]; simp_all)) ?_
      refine OW_run' hE.ok 1 rfl ?_
      refine OW_run' hE.ok 1 rfl ?_
      refine OW_bytesString' hE (key := 7) rfl rfl rfl rfl rfl rfl rfl rfl hset rfl ?_
      refine OW_build' hE rfl rfl rfl rfl rfl ?_
      refine OW_call' hE (hq) rfl rfl rfl rfl rfl rfl rfl ?_
      refine OW_run' hE.ok 3 rfl ?_
      refine OW_end rfl ?_
      refine CW_ret ?_
      refine ⟨.inr rfl, rfl, ⟨[.d (boo true)], rfl, rfl, ?_⟩, rfl⟩
      exact AVle.refl _

theorem namesOk (n1 at1 c : UInt8) : Does Try.prog 10 [.d (.lit (.int .u8 (n1.toNat : Int))), .d (.lit (.int .u8 (at1.toNat : Int))), .d (.lit (.int .u8 (c.toNat : Int)))] noHeap (.d (boo true)) := by
  refine Does_of T_ok mixed (N := 55) Try.func10 rfl rfl rfl (by rfl) fun F n Z hE hF J => ?_
  obtain ⟨k, hk⟩ : ∃ k, n1.toNat % 11 = k := ⟨_, rfl⟩
  have hkl : k < 11 := by omega
  refine CW_seq ?_
  refine CW_region ?_
  refine OW_run' hE.ok 1 rfl ?_
  refine OW_end rfl ?_
  refine CW_seq ?_
  refine CW_seq ?_
  refine CW_region ?_
  refine OW_call' hE (known1) rfl rfl rfl rfl rfl rfl rfl ?_
  refine OW_run' hE.ok 1 rfl ?_
  refine OW_end rfl ?_
  refine CW_false rfl ?_
  refine CW_skip ?_
  refine CW_seq ?_
  refine CW_region ?_
  refine OW_run' hE.ok 3 rfl ?_
  refine OW_as' 15 (.d (int ((k : Nat) : Int))) (by show AV.d (.lit (.int .i64 (IntKind.i64.wrap ((n1.toNat % 11 : Nat) : Int)))) = _; rw [hk, wrap_id _ _ (by have : IntKind.i64.min = -9223372036854775808 := rfl; omega) (by have : IntKind.i64.max = 9223372036854775807 := rfl; omega)]; rfl) ?_
  refine OW_run' hE.ok 1 rfl ?_
  refine OW_end rfl ?_
  refine CW_seq ?_
  refine CW_region ?_
  refine OW_run' hE.ok 1 rfl ?_
  refine OW_make' hE 7 rfl rfl rfl rfl rfl rfl rfl (n := k) rfl rfl (by omega) (by omega) rfl ?_
  refine OW_run' hE.ok 1 rfl ?_
  refine OW_end rfl ?_
  refine CW_seq ?_
  refine CW_seq ?_
  refine CW_region ?_
  refine OW_run' hE.ok 1 rfl ?_
  refine OW_end rfl ?_
  refine CW_block ?_
  refine CW_loop (σ := {i : Nat // i ≤ k}) (fun i => ⟨J, (sset (sset (sset (sset (sset noSlots 1 (.d (.lit (.int .u8 (at1.toNat : Int))))) 2 (.d (.lit (.int .u8 (c.toNat : Int))))) 7 (.d (int ((k : Nat) : Int)))) 8 (.row 7)) 9 (.d (int ((i.1 : Nat) : Int)))), (hset noHeap 7 (some (.row 5 1 (bytesD (fillB 110 i.1 k)))))⟩) (fun i => k - i.1) ⟨0, Nat.zero_le _⟩ (LE_sh (slh_set (slh_set (slh_set (slh_set (slh_set (slh_no _ _) rfl rfl) rfl rfl) rfl rfl) rfl rfl) rfl rfl) (hlh_set (hlh_no _ _) (congrArg (fun z => some (Ent.row 5 1 z)) (fill_start 110 k)) rfl)) fun ⟨i, hi⟩ => ?_
  refine CW_seq ?_
  refine CW_seq ?_
  refine CW_region ?_
  refine OW_run' hE.ok 3 rfl ?_
  refine OW_end rfl ?_
  refine CW_cond _ rfl (fun h1 => ?_) (fun h1 => ?_)
  · skip
    have hlt : i < k := by have := h1; simp at this; omega
    refine CW_skip ?_
    refine CW_seq ?_
    refine CW_block ?_
    refine CW_region ?_
    refine OW_run' hE.ok 2 rfl ?_
    refine OW_setAt' hE (key := 7) rfl rfl rfl rfl rfl rfl rfl rfl rfl rfl rfl (run_size T_ok (t := 5) rfl) rfl rfl (j := i) rfl (by rw [bytesD_length]; simp [fillB]; omega) (y := [.lit (.int .u8 110)]) rfl rfl rfl ?_
    refine OW_end rfl ?_
    refine CW_region ?_
    refine OW_run' hE.ok 3 rfl ?_
    refine OW_end rfl ?_
    exact ⟨⟨i + 1, hlt⟩, LE_sh (slh_set (slh_set (slh_set (slh_set (slh_set (slh_no _ _) rfl rfl) rfl rfl) rfl rfl) rfl rfl) (by show AV.d (.lit (.int .i64 (IntKind.i64.wrap (↑i + 1)))) = _; rw [wrap_succ (by omega)]; rfl) rfl) (hlh_set (hlh_no _ _) (congrArg (fun z => some (Ent.row 5 1 z)) (fill_next (c := 110) hlt)) rfl), by show k - (i + 1) < k - i; omega⟩
  · skip
    have hik : k = i := by have := h1; simp at this; omega
    subst hik
    refine CW_exit ?_
    show CW _ _ _ _
    refine CW_seq ?_
    refine CW_region ?_
    refine OW_run' hE.ok 3 rfl ?_
    refine OW_split' 28 rfl (fun h2 => ?_) (fun h2 => ?_)
    · skip
      refine OW_run' hE.ok 4 rfl ?_
      refine OW_end rfl ?_
      refine CW_seq ?_
      refine CW_seq ?_
      refine CW_region ?_
      refine OW_run' hE.ok 2 rfl ?_
      refine OW_end rfl ?_
      refine CW_cond _ rfl (fun h3 => ?_) (fun h3 => ?_)
      · skip
        have h0 : 0 < k := by have := h3; simp at this; omega
        have hset : (bytesD (fillB 110 k k)).set (at1.toNat % k) [D.lit (.int .u8 c.toNat)] = bytesD ((List.replicate k 110).set (at1.toNat % k) c) := by rw [bytes_set, fill_end]
        obtain ⟨L, hL⟩ : ∃ L, L = (List.replicate k (110 : UInt8)).set (at1.toNat % k) c := ⟨_, rfl⟩
        have hT := name_fill (c := c) (Nat.mod_lt at1.toNat h0)
        rw [← hL] at hset hT
        refine CW_seq ?_
        refine CW_region ?_
        refine OW_run' hE.ok 4 rfl ?_
        refine OW_as' 36 (.d (int ((at1.toNat : Nat) : Int))) (by show AV.d (.lit (.int .i64 (IntKind.i64.wrap (at1.toNat : Int)))) = _; rw [wrap_id _ _ (by have : IntKind.i64.min = -9223372036854775808 := rfl; omega) (by have := at1.toNat_lt; have : IntKind.i64.max = 9223372036854775807 := rfl; omega)]; rfl) ?_
        refine OW_loc' hE (loc_rem hE rfl rfl rfl (by omega)) rfl rfl rfl ?_
        refine OW_as' 38 (.d (int ((at1.toNat % k : Nat) : Int))) rfl ?_
        refine OW_run' hE.ok 1 rfl ?_
        refine OW_setAt' hE (key := 7) rfl rfl rfl rfl rfl rfl rfl rfl rfl rfl rfl (run_size T_ok (t := 5) rfl) rfl rfl (j := at1.toNat % k) rfl (by rw [bytesD_length]; simp [fillB]; exact Nat.mod_lt _ h0) (y := [.lit (.int .u8 c.toNat)]) rfl rfl rfl ?_
        refine OW_end rfl ?_
        refine CW_region ?_
        refine OW_run' hE.ok 2 rfl ?_
        refine OW_split' 42 rfl (fun h4 => ?_) (fun h4 => ?_)
        · skip
          refine OW_run' hE.ok 4 rfl ?_
          refine OW_split' 46 rfl (fun h5 => ?_) (fun h5 => ?_)
          · skip
            refine OW_run' hE.ok 4 rfl ?_
            refine OW_end rfl ?_
            refine CW_seq ?_
            refine CW_region ?_
            refine OW_run' hE.ok 1 rfl ?_
            refine OW_bytesString' hE (key := 7) rfl rfl rfl rfl rfl rfl rfl rfl hset rfl ?_
            refine OW_call' hE (nameOk ⟨L.toArray⟩) rfl rfl rfl rfl rfl rfl rfl ?_
            refine OW_run' hE.ok 2 rfl ?_
            refine OW_as' 54 (.d (boo true)) (congrArg (fun b => AV.d (boo b)) (by first | (rw [hT]; simp_all; done) | (rw [hT]; simp_all; omega) | (exfalso; simp_all; done) | (exfalso; simp_all; omega))) ?_
            refine OW_run' hE.ok 1 rfl ?_
            refine OW_end rfl ?_
            refine CW_ret ?_
            refine ⟨.inr rfl, rfl, ⟨[.d (boo true)], rfl, rfl, ?_⟩, rfl⟩
            exact AVle.refl _
          · skip
            refine OW_run' hE.ok 4 rfl ?_
            refine OW_end rfl ?_
            refine CW_seq ?_
            refine CW_region ?_
            refine OW_run' hE.ok 1 rfl ?_
            refine OW_bytesString' hE (key := 7) rfl rfl rfl rfl rfl rfl rfl rfl hset rfl ?_
            refine OW_call' hE (nameOk ⟨L.toArray⟩) rfl rfl rfl rfl rfl rfl rfl ?_
            refine OW_run' hE.ok 2 rfl ?_
            refine OW_as' 54 (.d (boo true)) (congrArg (fun b => AV.d (boo b)) (by first | (rw [hT]; simp_all; done) | (rw [hT]; simp_all; omega) | (exfalso; simp_all; done) | (exfalso; simp_all; omega))) ?_
            refine OW_run' hE.ok 1 rfl ?_
            refine OW_end rfl ?_
            refine CW_ret ?_
            refine ⟨.inr rfl, rfl, ⟨[.d (boo true)], rfl, rfl, ?_⟩, rfl⟩
            exact AVle.refl _
        · skip
          refine OW_run' hE.ok 8 rfl ?_
          refine OW_end rfl ?_
          refine CW_seq ?_
          refine CW_region ?_
          refine OW_run' hE.ok 1 rfl ?_
          refine OW_bytesString' hE (key := 7) rfl rfl rfl rfl rfl rfl rfl rfl hset rfl ?_
          refine OW_call' hE (nameOk ⟨L.toArray⟩) rfl rfl rfl rfl rfl rfl rfl ?_
          refine OW_run' hE.ok 2 rfl ?_
          refine OW_as' 54 (.d (boo true)) (congrArg (fun b => AV.d (boo b)) (by first | (rw [hT]; simp_all; done) | (rw [hT]; simp_all; omega) | (exfalso; simp_all; done) | (exfalso; simp_all; omega))) ?_
          refine OW_run' hE.ok 1 rfl ?_
          refine OW_end rfl ?_
          refine CW_ret ?_
          refine ⟨.inr rfl, rfl, ⟨[.d (boo true)], rfl, rfl, ?_⟩, rfl⟩
          exact AVle.refl _
      · skip
        have h0 : k = 0 := by have := h3; simp at this; omega
        subst h0
        have hset : bytesD (fillB 110 0 0) = bytesD (List.replicate 0 110) := rfl
        obtain ⟨L, hL⟩ : ∃ L, L = List.replicate 0 (110 : UInt8) := ⟨_, rfl⟩
        have hT := name_none
        rw [← hL] at hset hT
        refine CW_skip ?_
        refine CW_seq ?_
        refine CW_region ?_
        refine OW_run' hE.ok 1 rfl ?_
        refine OW_bytesString' hE (key := 7) rfl rfl rfl rfl rfl rfl rfl rfl hset rfl ?_
        refine OW_call' hE (nameOk ⟨L.toArray⟩) rfl rfl rfl rfl rfl rfl rfl ?_
        refine OW_run' hE.ok 2 rfl ?_
        refine OW_as' 54 (.d (boo true)) (congrArg (fun b => AV.d (boo b)) (by first | (rw [hT]; simp_all; done) | (rw [hT]; simp_all; omega) | (exfalso; simp_all; done) | (exfalso; simp_all; omega))) ?_
        refine OW_run' hE.ok 1 rfl ?_
        refine OW_end rfl ?_
        refine CW_ret ?_
        refine ⟨.inr rfl, rfl, ⟨[.d (boo true)], rfl, rfl, ?_⟩, rfl⟩
        exact AVle.refl _
    · skip
      refine OW_run' hE.ok 4 rfl ?_
      refine OW_end rfl ?_
      refine CW_seq ?_
      refine CW_seq ?_
      refine CW_region ?_
      refine OW_run' hE.ok 2 rfl ?_
      refine OW_end rfl ?_
      refine CW_cond _ rfl (fun h6 => ?_) (fun h6 => ?_)
      · skip
        have h0 : 0 < k := by have := h6; simp at this; omega
        have hset : (bytesD (fillB 110 k k)).set (at1.toNat % k) [D.lit (.int .u8 c.toNat)] = bytesD ((List.replicate k 110).set (at1.toNat % k) c) := by rw [bytes_set, fill_end]
        obtain ⟨L, hL⟩ : ∃ L, L = (List.replicate k (110 : UInt8)).set (at1.toNat % k) c := ⟨_, rfl⟩
        have hT := name_fill (c := c) (Nat.mod_lt at1.toNat h0)
        rw [← hL] at hset hT
        refine CW_seq ?_
        refine CW_region ?_
        refine OW_run' hE.ok 4 rfl ?_
        refine OW_as' 36 (.d (int ((at1.toNat : Nat) : Int))) (by show AV.d (.lit (.int .i64 (IntKind.i64.wrap (at1.toNat : Int)))) = _; rw [wrap_id _ _ (by have : IntKind.i64.min = -9223372036854775808 := rfl; omega) (by have := at1.toNat_lt; have : IntKind.i64.max = 9223372036854775807 := rfl; omega)]; rfl) ?_
        refine OW_loc' hE (loc_rem hE rfl rfl rfl (by omega)) rfl rfl rfl ?_
        refine OW_as' 38 (.d (int ((at1.toNat % k : Nat) : Int))) rfl ?_
        refine OW_run' hE.ok 1 rfl ?_
        refine OW_setAt' hE (key := 7) rfl rfl rfl rfl rfl rfl rfl rfl rfl rfl rfl (run_size T_ok (t := 5) rfl) rfl rfl (j := at1.toNat % k) rfl (by rw [bytesD_length]; simp [fillB]; exact Nat.mod_lt _ h0) (y := [.lit (.int .u8 c.toNat)]) rfl rfl rfl ?_
        refine OW_end rfl ?_
        refine CW_region ?_
        refine OW_run' hE.ok 10 rfl ?_
        refine OW_end rfl ?_
        refine CW_seq ?_
        refine CW_region ?_
        refine OW_run' hE.ok 1 rfl ?_
        refine OW_bytesString' hE (key := 7) rfl rfl rfl rfl rfl rfl rfl rfl hset rfl ?_
        refine OW_call' hE (nameOk ⟨L.toArray⟩) rfl rfl rfl rfl rfl rfl rfl ?_
        refine OW_run' hE.ok 2 rfl ?_
        refine OW_as' 54 (.d (boo true)) (congrArg (fun b => AV.d (boo b)) (by first | (rw [hT]; simp_all; done) | (rw [hT]; simp_all; omega) | (exfalso; simp_all; done) | (exfalso; simp_all; omega))) ?_
        refine OW_run' hE.ok 1 rfl ?_
        refine OW_end rfl ?_
        refine CW_ret ?_
        refine ⟨.inr rfl, rfl, ⟨[.d (boo true)], rfl, rfl, ?_⟩, rfl⟩
        exact AVle.refl _
      · skip
        have h0 : k = 0 := by have := h6; simp at this; omega
        subst h0
        have hset : bytesD (fillB 110 0 0) = bytesD (List.replicate 0 110) := rfl
        obtain ⟨L, hL⟩ : ∃ L, L = List.replicate 0 (110 : UInt8) := ⟨_, rfl⟩
        have hT := name_none
        rw [← hL] at hset hT
        refine CW_skip ?_
        refine CW_seq ?_
        refine CW_region ?_
        refine OW_run' hE.ok 1 rfl ?_
        refine OW_bytesString' hE (key := 7) rfl rfl rfl rfl rfl rfl rfl rfl hset rfl ?_
        refine OW_call' hE (nameOk ⟨L.toArray⟩) rfl rfl rfl rfl rfl rfl rfl ?_
        refine OW_run' hE.ok 2 rfl ?_
        refine OW_as' 54 (.d (boo true)) (congrArg (fun b => AV.d (boo b)) (by first | (rw [hT]; simp_all; done) | (rw [hT]; simp_all; omega) | (exfalso; simp_all; done) | (exfalso; simp_all; omega))) ?_
        refine OW_run' hE.ok 1 rfl ?_
        refine OW_end rfl ?_
        refine CW_ret ?_
        refine ⟨.inr rfl, rfl, ⟨[.d (boo true)], rfl, rfl, ?_⟩, rfl⟩
        exact AVle.refl _
end Go.Proofs.Ytdlikopmjhfalaa
