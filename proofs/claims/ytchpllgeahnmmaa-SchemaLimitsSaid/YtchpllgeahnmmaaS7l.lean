/- Parts of an abstract logic over the kit's walks, and walks in it: S7l. -/
import Derived.Test.YtchpllgeahnmmaaS7c
import Derived.Test.YtchpllgeahnmmaaLim
import Derived.Test.YtchpllgeahnmmaaBa
namespace Go.Proofs.Ytchpllgeahnmmaa
open Go Go.AL
set_option linter.unusedVariables false
set_option linter.unusedSimpArgs false
set_option maxHeartbeats 4000000
def sm60 (j : Nat) : Nat → Option Ent
  | 0 => none
  | _ + 1 => some (.row 31 2 ((smFs j).map encF))

theorem limitsOk (n1 m1 w1 : UInt8) : Does Try.prog 3 [.d (.lit (.int .u8 (n1.toNat : Int))), .d (.lit (.int .u8 (m1.toNat : Int))), .d (.lit (.int .u8 (w1.toNat : Int)))] noHeap (.d (boo true)) := by
  refine Does_of T_ok mixed (N := 122) Try.func3 rfl rfl rfl (by rfl) fun F n Z hE hF J => ?_
  refine CW_seq ?_
  refine CW_region ?_
  refine OW_run' hE.ok 1 rfl ?_
  refine OW_end rfl ?_
  refine CW_seq ?_
  refine CW_seq ?_
  refine CW_region ?_
  refine OW_call' hE (known2) rfl rfl rfl rfl rfl rfl rfl ?_
  refine OW_run' hE.ok 1 rfl ?_
  refine OW_end rfl ?_
  refine CW_false rfl ?_
  refine CW_skip ?_
  refine CW_seq ?_
  obtain ⟨k, hk⟩ : ∃ k, n1.toNat % 8 = k := ⟨_, rfl⟩
  have hk8 : k < 8 := by omega
  obtain ⟨j, hj⟩ : ∃ j, m1.toNat % 8 = j := ⟨_, rfl⟩
  have hj8 : j < 8 := by omega
  obtain ⟨c, hc0⟩ : ∃ c, w1.toNat % 3 = c := ⟨_, rfl⟩
  have hc3 : c = 0 ∨ c = 1 ∨ c = 2 := by omega
  refine CW_region ?_
  refine OW_run' hE.ok 8 rfl ?_
  refine OW_as' 7 (.d (int ((k : Nat) : Int))) (by show AV.d (.lit (.int .i64 (IntKind.i64.wrap ((n1.toNat % 8 : Nat) : Int)))) = _; rw [hk, wrapN (by omega)]; rfl) ?_
  refine OW_as' 8 (.d (int ((j : Nat) : Int))) (by show AV.d (.lit (.int .i64 (IntKind.i64.wrap ((m1.toNat % 8 : Nat) : Int)))) = _; rw [hj, wrapN (by omega)]; rfl) ?_
  clear hk hj
  refine OW_end rfl ?_
  refine CW_seq ?_
  refine CW_region ?_
  refine OW_alloc' hE 1 rfl rfl rfl rfl rfl rfl rfl ?_
  refine OW_end rfl ?_
  refine CW_cutE (fun _ : Unit => ⟨J, (sset (sset (sset (sset noSlots 2 (.d (.lit (.int .u8 (w1.toNat : Int))))) 7 (.d (int ((k : Nat) : Int)))) 8 (.d (int ((j : Nat) : Int)))) 9 (.ptr 1 0)), (hset (hset (hset noHeap 1 (some (.box 25 [.row 50]))) 50 (some (.rowA 29 2 (k) (smCs j k)))) 60 (sm60 j k))⟩) (fun _ => True) ?_ ?_
  · skip
    refine CW_seq ?_
    refine CW_region ?_
    refine OW_run' hE.ok 1 rfl ?_
    refine OW_end rfl ?_
    refine CW_block ?_
    refine CW.le (LE_nilCell 1 50 0 29 2 rfl rfl rfl) ?_
    refine CW.le (LE_rowA 50 (n := 0) (cs := []) rfl rfl rfl) ?_
    refine CW_loop (σ := {i : Nat // i ≤ k}) (fun i => ⟨J, (sset (sset (sset (sset (sset noSlots 2 (.d (.lit (.int .u8 (w1.toNat : Int))))) 7 (.d (int ((k : Nat) : Int)))) 8 (.d (int ((j : Nat) : Int)))) 9 (.ptr 1 0)) 10 (.d (int ((i.1 : Nat) : Int)))), (hset (hset (hset noHeap 1 (some (.box 25 [.row 50]))) 50 (some (.rowA 29 2 (i.1) (smCs j i.1)))) 60 (sm60 j i.1))⟩) (fun i => k - i.1) ⟨0, Nat.zero_le _⟩ (LE_sh (slh_set (slh_set (slh_set (slh_set (slh_set (slh_no _ _) rfl rfl) rfl rfl) rfl rfl) rfl rfl) rfl rfl) (hlh_none (hlh_set (hlh_set (hlh_no _ _) rfl rfl) rfl rfl))) fun ⟨i, hi⟩ => ?_
    obtain rfl | ⟨i', rfl⟩ : i = 0 ∨ ∃ i', i = i' + 1 := by cases i; exact .inl rfl; exact .inr ⟨_, rfl⟩
    · skip
      -- i = 0
      refine CW_seq ?_
      refine CW_seq ?_
      refine CW_region ?_
      refine OW_run' hE.ok 3 rfl ?_
      refine OW_end rfl ?_
      refine CW_cond _ rfl (fun h1 => ?_) (fun h1 => ?_)
      · skip
        have hlt : 0 < k := by have := h1; simp at this; omega
        refine CW_skip ?_
        refine CW_seq ?_
        refine CW_block ?_
        refine CW_seq ?_
        refine CW_region ?_
        refine OW_run' hE.ok 2 rfl ?_
        refine OW_as' 28 (.d (int ((97 + (0) : Nat) : Int))) (by show AV.d (.lit (.int .i64 (IntKind.i64.wrap (97 + (((0) : Nat) : Int))))) = _; rw [show (97 + (((0) : Nat) : Int)) = ((97 + (0) : Nat) : Int) by omega, wrapN (by omega)]; rfl) ?_
        refine OW_run' hE.ok 1 rfl ?_
        refine OW_as' 29 (.d (.lit (.int .u8 ((UInt8.ofNat (97 + (0))).toNat : Int)))) (by show AV.d (.lit (.int .u8 (IntKind.u8.wrap ((97 + (0) : Nat) : Int)))) = _; rw [wrapB (by omega)]) ?_
        refine OW_litsOwn' hE 53 rfl rfl rfl rfl rfl rfl rfl rfl rfl rfl rfl rfl ?_
        refine OW_bytesString' hE (key := 53) (bs := [UInt8.ofNat (97 + (0))]) rfl rfl rfl rfl rfl rfl rfl rfl rfl rfl ?_
        refine OW_loc' hE (loc_concat hE rfl rfl rfl (by show 1 + 1 ≤ _; omega)) rfl rfl rfl ?_
        refine OW_as' 32 (.d (str (smA 116 (0)))) (by rfl) ?_
        refine OW_build' hE rfl rfl rfl rfl rfl ?_
        refine OW_alloc' hE 2 rfl rfl rfl rfl rfl rfl rfl ?_
        refine OW_store' hE rfl rfl rfl rfl rfl rfl rfl rfl rfl rfl rfl rfl ?_
        refine OW_end rfl ?_
        refine CW_seq ?_
        refine CW_seq ?_
        refine CW_region ?_
        refine OW_run' hE.ok 1 rfl ?_
        refine OW_end rfl ?_
        refine CW_block ?_
        rw [hset_hset]
        refine CW.le (LE_nilCell 2 60 1 31 2 rfl rfl rfl) ?_
        refine CW_loop (σ := {f : Nat // f ≤ j}) (fun f => ⟨J, (sset (sset (sset (sset (sset (sset (sset noSlots 2 (.d (.lit (.int .u8 (w1.toNat : Int))))) 7 (.d (int ((k : Nat) : Int)))) 8 (.d (int ((j : Nat) : Int)))) 9 (.ptr 1 0)) 10 (.d (int ((0 : Nat) : Int)))) 11 (.ptr 2 0)) 12 (.d (int ((f.1 : Nat) : Int)))), (hset (hset (hset (hset noHeap 1 (some (.box 25 [.row 50]))) 50 (some (.rowA 29 2 (0) (smCs j (0))))) 2 (some (.box 29 [.d (str (smA 116 (0))), .row 60]))) 60 (some (.row 31 2 ((smFs f.1).map encF))))⟩) (fun f => j - f.1) ⟨0, Nat.zero_le _⟩ (LE_sh (slh_set (slh_set (slh_set (slh_set (slh_set (slh_set (slh_set (slh_no _ _) rfl rfl) rfl rfl) rfl rfl) rfl rfl) rfl rfl) rfl rfl) rfl rfl) (hlh_set (hlh_set (hlh_set (hlh_set (hlh_no _ _) rfl rfl) rfl rfl) rfl rfl) rfl rfl)) fun ⟨f, hf⟩ => ?_
        refine CW_seq ?_
        refine CW_seq ?_
        refine CW_region ?_
        refine OW_run' hE.ok 3 rfl ?_
        refine OW_end rfl ?_
        refine CW_cond _ rfl (fun h2 => ?_) (fun h2 => ?_)
        · skip
          have hfl : f < j := by have := h2; simp at this; omega
          refine CW_skip ?_
          refine CW_seq ?_
          refine CW_block ?_
          refine CW_region ?_
          refine OW_run' hE.ok 4 rfl ?_
          refine OW_as' 42 (.d (int ((97 + f : Nat) : Int))) (by show AV.d (.lit (.int .i64 (IntKind.i64.wrap (97 + ((f : Nat) : Int))))) = _; rw [show (97 + ((f : Nat) : Int)) = ((97 + f : Nat) : Int) by omega, wrapN (by omega)]; rfl) ?_
          refine OW_run' hE.ok 1 rfl ?_
          refine OW_as' 43 (.d (.lit (.int .u8 ((UInt8.ofNat (97 + f)).toNat : Int)))) (by show AV.d (.lit (.int .u8 (IntKind.u8.wrap ((97 + f : Nat) : Int)))) = _; rw [wrapB (by omega)]) ?_
          refine OW_litsOwn' hE 53 rfl rfl rfl rfl rfl rfl rfl rfl rfl rfl rfl rfl ?_
          refine OW_bytesString' hE (key := 53) (bs := [UInt8.ofNat (97 + f)]) rfl rfl rfl rfl rfl rfl rfl rfl rfl rfl ?_
          refine OW_loc' hE (loc_concat hE rfl rfl rfl (by show 1 + 1 ≤ _; omega)) rfl rfl rfl ?_
          refine OW_as' 46 (.d (str (smA 102 f))) (by rfl) ?_
          refine OW_run' hE.ok 1 rfl ?_
          refine OW_loc' hE (loc_rem hE rfl rfl rfl (by decide)) rfl rfl rfl ?_
          refine OW_as' 48 (.d (int ((f % 3 : Nat) : Int))) (by rfl) ?_
          refine OW_run' hE.ok 1 rfl ?_
          refine OW_as' 49 (.d (int ((f % 3 + 1 : Nat) : Int))) (by show AV.d (.lit (.int .i64 (IntKind.i64.wrap (1 + ((f % 3 : Nat) : Int))))) = _; rw [show (1 + ((f % 3 : Nat) : Int)) = ((f % 3 + 1 : Nat) : Int) by omega, wrapN (by omega)]; rfl) ?_
          refine OW_build' hE rfl rfl rfl rfl rfl ?_
          refine OW_lits' hE rfl rfl rfl rfl rfl rfl rfl rfl rfl rfl rfl rfl ?_
          refine OW_append' hE (key := 60) rfl rfl rfl rfl rfl rfl rfl rfl (.inl rfl) (by simp [smFs_len]; omega) (by simp [smFs_len]; omega) rfl ?_
          refine OW_run' hE.ok 1 rfl ?_
          refine OW_store' hE rfl rfl rfl rfl rfl rfl rfl rfl rfl rfl rfl rfl ?_
          refine OW_end rfl ?_
          refine CW_region ?_
          refine OW_run' hE.ok 3 rfl ?_
          refine OW_end rfl ?_
          exact ⟨⟨f + 1, by omega⟩, LE_sh (slh_set (slh_set (slh_set (slh_set (slh_set (slh_set (slh_set (slh_no _ _) rfl rfl) rfl rfl) rfl rfl) rfl rfl) rfl rfl) rfl rfl) (by show AV.d (.lit (.int .i64 (IntKind.i64.wrap ((f : Nat) + 1 : Int)))) = _; rw [wrap_succ (by omega)]; rfl) rfl) (hlh_set (hlh_set (hlh_set (hlh_set (hlh_no _ _) rfl rfl) rfl rfl) rfl rfl) (congrArg (fun z => some (Ent.row 31 2 z)) (smFs_snoc f)) rfl), by show j - (f + 1) < j - f; omega⟩
        · skip
          have hfj : f = j := by have := h2; simp at this; omega
          refine CW_exit ?_
          show CW _ _ _ _
          subst hfj
          refine CW.le (show LE _ _ ⟨J, (sset (sset (sset (sset (sset (sset noSlots 2 (.d (.lit (.int .u8 (w1.toNat : Int))))) 7 (.d (int ((k : Nat) : Int)))) 8 (.d (int ((f : Nat) : Int)))) 9 (.ptr 1 0)) 10 (.d (int ((0 : Nat) : Int)))) 11 (.ptr 2 0)), (hset (hset (hset (hset noHeap 1 (some (.box 25 [.row 50]))) 50 (some (.rowA 29 2 (0) (smCs f (0))))) 2 (some (.box 29 [.d (str (smA 116 (0))), .row 60]))) 60 (some (.row 31 2 ((smFs f).map encF))))⟩ from LE_sh (slh_set (slh_set (slh_set (slh_set (slh_set (slh_set (slh_no _ _) rfl rfl) rfl rfl) rfl rfl) rfl rfl) rfl rfl) rfl rfl) (hlh_set (hlh_set (hlh_set (hlh_set (hlh_no _ _) rfl rfl) rfl rfl) rfl rfl) rfl rfl)) ?_
          refine CW_region ?_
          refine OW_run' hE.ok 3 rfl ?_
          refine OW_litsOwnA' hE 70 rfl rfl rfl rfl rfl rfl rfl rfl rfl rfl rfl rfl rfl ?_
          refine OW_appendA' hE (key := 50) (key2 := 70) rfl rfl rfl rfl rfl rfl rfl rfl rfl rfl rfl (smCs_len f (0)) rfl (by omega) (by omega) (smCs_snoc f (0)) rfl ?_
          refine OW_run' hE.ok 1 rfl ?_
          refine OW_store' hE rfl rfl rfl rfl rfl rfl rfl rfl rfl rfl rfl rfl ?_
          refine OW_end rfl ?_
          refine CW_region ?_
          refine OW_run' hE.ok 3 rfl ?_
          refine OW_end rfl ?_
          -- first
          exact ⟨⟨0 + 1, by omega⟩, LE_sh (slh_set (slh_set (slh_set (slh_set (slh_set (slh_no _ _) rfl rfl) rfl rfl) rfl rfl) rfl rfl) (by show AV.d (.lit (.int .i64 (IntKind.i64.wrap ((0 : Nat) + 1 : Int)))) = _; rw [wrap_succ (by omega)]; rfl) rfl) (hlh_set (hlh_set (hlh_set (hlh_no _ _) rfl rfl) rfl (by exact smCs_in rfl _)) rfl rfl), by show k - (0 + 1) < k - (0); omega⟩
      · skip
        obtain rfl : k = 0 := by have := h1; simp at this; omega
        refine CW_exit ?_
        exact ⟨(), trivial, LE_sh (slh_set (slh_set (slh_set (slh_set (slh_no _ _) rfl rfl) rfl rfl) rfl rfl) rfl rfl) (hlh_none (hlh_set (hlh_set (hlh_no _ _) rfl rfl) rfl rfl))⟩
    · skip
      -- i > 0
      refine CW_seq ?_
      refine CW_seq ?_
      refine CW_region ?_
      refine OW_run' hE.ok 3 rfl ?_
      refine OW_end rfl ?_
      refine CW_cond _ rfl (fun h3 => ?_) (fun h3 => ?_)
      · skip
        have hlt : i' + 1 < k := by have := h3; simp at this; omega
        refine CW_skip ?_
        refine CW_seq ?_
        refine CW_block ?_
        refine CW_seq ?_
        refine CW_region ?_
        refine OW_run' hE.ok 2 rfl ?_
        refine OW_as' 28 (.d (int ((97 + (i' + 1) : Nat) : Int))) (by show AV.d (.lit (.int .i64 (IntKind.i64.wrap (97 + (((i' + 1) : Nat) : Int))))) = _; rw [show (97 + (((i' + 1) : Nat) : Int)) = ((97 + (i' + 1) : Nat) : Int) by omega, wrapN (by omega)]; rfl) ?_
        refine OW_run' hE.ok 1 rfl ?_
        refine OW_as' 29 (.d (.lit (.int .u8 ((UInt8.ofNat (97 + (i' + 1))).toNat : Int)))) (by show AV.d (.lit (.int .u8 (IntKind.u8.wrap ((97 + (i' + 1) : Nat) : Int)))) = _; rw [wrapB (by omega)]) ?_
        refine OW_litsOwn' hE 53 rfl rfl rfl rfl rfl rfl rfl rfl rfl rfl rfl rfl ?_
        refine OW_bytesString' hE (key := 53) (bs := [UInt8.ofNat (97 + (i' + 1))]) rfl rfl rfl rfl rfl rfl rfl rfl rfl rfl ?_
        refine OW_loc' hE (loc_concat hE rfl rfl rfl (by show 1 + 1 ≤ _; omega)) rfl rfl rfl ?_
        refine OW_as' 32 (.d (str (smA 116 (i' + 1)))) (by rfl) ?_
        refine OW_build' hE rfl rfl rfl rfl rfl ?_
        refine OW_alloc' hE 2 rfl rfl rfl rfl rfl rfl rfl ?_
        refine OW_store' hE rfl rfl rfl rfl rfl rfl rfl rfl rfl rfl rfl rfl ?_
        refine OW_end rfl ?_
        refine CW_seq ?_
        refine CW_seq ?_
        refine CW_region ?_
        refine OW_run' hE.ok 1 rfl ?_
        refine OW_end rfl ?_
        refine CW_block ?_
        rw [hset_hset]
        refine CW.le (LE_nilCell 2 61 1 31 2 rfl rfl rfl) ?_
        refine CW_loop (σ := {f : Nat // f ≤ j}) (fun f => ⟨J, (sset (sset (sset (sset (sset (sset (sset noSlots 2 (.d (.lit (.int .u8 (w1.toNat : Int))))) 7 (.d (int ((k : Nat) : Int)))) 8 (.d (int ((j : Nat) : Int)))) 9 (.ptr 1 0)) 10 (.d (int ((i' + 1 : Nat) : Int)))) 11 (.ptr 2 0)) 12 (.d (int ((f.1 : Nat) : Int)))), (hset (hset (hset (hset (hset noHeap 1 (some (.box 25 [.row 50]))) 50 (some (.rowA 29 2 (i' + 1) (smCs j (i' + 1))))) 60 (some (.row 31 2 ((smFs j).map encF)))) 2 (some (.box 29 [.d (str (smA 116 (i' + 1))), .row 61]))) 61 (some (.row 31 2 ((smFs f.1).map encF))))⟩) (fun f => j - f.1) ⟨0, Nat.zero_le _⟩ (LE_sh (slh_set (slh_set (slh_set (slh_set (slh_set (slh_set (slh_set (slh_no _ _) rfl rfl) rfl rfl) rfl rfl) rfl rfl) rfl rfl) rfl rfl) rfl rfl) (hlh_set (hlh_set (hlh_set (hlh_set (hlh_set (hlh_no _ _) rfl rfl) rfl (by exact smCs_in rfl _)) rfl rfl) rfl rfl) rfl rfl)) fun ⟨f, hf⟩ => ?_
        refine CW_seq ?_
        refine CW_seq ?_
        refine CW_region ?_
        refine OW_run' hE.ok 3 rfl ?_
        refine OW_end rfl ?_
        refine CW_cond _ rfl (fun h4 => ?_) (fun h4 => ?_)
        · skip
          have hfl : f < j := by have := h4; simp at this; omega
          refine CW_skip ?_
          refine CW_seq ?_
          refine CW_block ?_
          refine CW_region ?_
          refine OW_run' hE.ok 4 rfl ?_
          refine OW_as' 42 (.d (int ((97 + f : Nat) : Int))) (by show AV.d (.lit (.int .i64 (IntKind.i64.wrap (97 + ((f : Nat) : Int))))) = _; rw [show (97 + ((f : Nat) : Int)) = ((97 + f : Nat) : Int) by omega, wrapN (by omega)]; rfl) ?_
          refine OW_run' hE.ok 1 rfl ?_
          refine OW_as' 43 (.d (.lit (.int .u8 ((UInt8.ofNat (97 + f)).toNat : Int)))) (by show AV.d (.lit (.int .u8 (IntKind.u8.wrap ((97 + f : Nat) : Int)))) = _; rw [wrapB (by omega)]) ?_
          refine OW_litsOwn' hE 53 rfl rfl rfl rfl rfl rfl rfl rfl rfl rfl rfl rfl ?_
          refine OW_bytesString' hE (key := 53) (bs := [UInt8.ofNat (97 + f)]) rfl rfl rfl rfl rfl rfl rfl rfl rfl rfl ?_
          refine OW_loc' hE (loc_concat hE rfl rfl rfl (by show 1 + 1 ≤ _; omega)) rfl rfl rfl ?_
          refine OW_as' 46 (.d (str (smA 102 f))) (by rfl) ?_
          refine OW_run' hE.ok 1 rfl ?_
          refine OW_loc' hE (loc_rem hE rfl rfl rfl (by decide)) rfl rfl rfl ?_
          refine OW_as' 48 (.d (int ((f % 3 : Nat) : Int))) (by rfl) ?_
          refine OW_run' hE.ok 1 rfl ?_
          refine OW_as' 49 (.d (int ((f % 3 + 1 : Nat) : Int))) (by show AV.d (.lit (.int .i64 (IntKind.i64.wrap (1 + ((f % 3 : Nat) : Int))))) = _; rw [show (1 + ((f % 3 : Nat) : Int)) = ((f % 3 + 1 : Nat) : Int) by omega, wrapN (by omega)]; rfl) ?_
          refine OW_build' hE rfl rfl rfl rfl rfl ?_
          refine OW_lits' hE rfl rfl rfl rfl rfl rfl rfl rfl rfl rfl rfl rfl ?_
          refine OW_append' hE (key := 61) rfl rfl rfl rfl rfl rfl rfl rfl (.inl rfl) (by simp [smFs_len]; omega) (by simp [smFs_len]; omega) rfl ?_
          refine OW_run' hE.ok 1 rfl ?_
          refine OW_store' hE rfl rfl rfl rfl rfl rfl rfl rfl rfl rfl rfl rfl ?_
          refine OW_end rfl ?_
          refine CW_region ?_
          refine OW_run' hE.ok 3 rfl ?_
          refine OW_end rfl ?_
          exact ⟨⟨f + 1, by omega⟩, LE_sh (slh_set (slh_set (slh_set (slh_set (slh_set (slh_set (slh_set (slh_no _ _) rfl rfl) rfl rfl) rfl rfl) rfl rfl) rfl rfl) rfl rfl) (by show AV.d (.lit (.int .i64 (IntKind.i64.wrap ((f : Nat) + 1 : Int)))) = _; rw [wrap_succ (by omega)]; rfl) rfl) (hlh_set (hlh_set (hlh_set (hlh_set (hlh_set (hlh_no _ _) rfl rfl) (congrArg (fun z => some (Ent.rowA 29 2 (i' + 1) z)) (smCs_unk61 _ _)) (by exact smCs_in rfl _)) rfl rfl) rfl rfl) (congrArg (fun z => some (Ent.row 31 2 z)) (smFs_snoc f)) rfl), by show j - (f + 1) < j - f; omega⟩
        · skip
          have hfj : f = j := by have := h4; simp at this; omega
          refine CW_exit ?_
          show CW _ _ _ _
          refine CW.le (LE_freeze 61 24 rfl (by simp [smFs_len]; omega)) ?_
          refine CW.le (show LE _ _ ⟨J, (sset (sset (sset (sset (sset (sset noSlots 2 (.d (.lit (.int .u8 (w1.toNat : Int))))) 7 (.d (int ((k : Nat) : Int)))) 8 (.d (int ((j : Nat) : Int)))) 9 (.ptr 1 0)) 10 (.d (int ((i' + 1 : Nat) : Int)))) 11 (.ptr 2 0)), (hset (hset (hset (hset noHeap 1 (some (.box 25 [.row 50]))) 50 (some (.rowA 29 2 (i' + 1) (smCs j (i' + 1))))) 60 (some (.row 31 2 ((smFs j).map encF)))) 2 (some (.box 29 [.d (str (smA 116 (i' + 1))), .d (.sl 2 24 ((smFs j).map encF))])))⟩ from LE_sh (slh_set (slh_set (slh_set (slh_set (slh_set (slh_set (slh_no _ _) rfl rfl) rfl rfl) rfl rfl) rfl rfl) rfl rfl) rfl rfl) (hlh_set (hlh_set (hlh_set (hlh_set (hlh_no _ _) rfl rfl) (congrArg (fun z => some (Ent.rowA 29 2 (i' + 1) z)) (smCs_fz61 _ _ _)) (by exact smCs_in rfl _)) rfl rfl) (congrArg (fun z => some (Ent.box 29 [.d (str (smA 116 (i' + 1))), .d (.sl 2 24 ((smFs z).map encF))])) hfj) rfl)) ?_
          refine CW_region ?_
          refine OW_run' hE.ok 3 rfl ?_
          refine OW_litsOwnA' hE 70 rfl rfl rfl rfl rfl rfl rfl rfl rfl rfl rfl rfl rfl ?_
          refine OW_appendA' hE (key := 50) (key2 := 70) rfl rfl rfl rfl rfl rfl rfl rfl rfl rfl rfl (smCs_len j (i' + 1)) rfl (by omega) (by omega) (smCs_snoc j (i' + 1)) rfl ?_
          refine OW_run' hE.ok 1 rfl ?_
          refine OW_store' hE rfl rfl rfl rfl rfl rfl rfl rfl rfl rfl rfl rfl ?_
          refine OW_end rfl ?_
          refine CW_region ?_
          refine OW_run' hE.ok 3 rfl ?_
          refine OW_end rfl ?_
          exact ⟨⟨(i' + 1) + 1, by omega⟩, LE_sh (slh_set (slh_set (slh_set (slh_set (slh_set (slh_no _ _) rfl rfl) rfl rfl) rfl rfl) rfl rfl) (by show AV.d (.lit (.int .i64 (IntKind.i64.wrap ((i' + 1 : Nat) + 1 : Int)))) = _; rw [wrap_succ (by omega)]; rfl) rfl) (hlh_set (hlh_set (hlh_set (hlh_no _ _) rfl rfl) rfl (by exact smCs_in rfl _)) rfl rfl), by show k - ((i' + 1) + 1) < k - ((i' + 1)); omega⟩
      · skip
        obtain rfl : k = i' + 1 := by have := h3; simp at this; omega
        refine CW_exit ?_
        exact ⟨(), trivial, LE_sh (slh_set (slh_set (slh_set (slh_set (slh_no _ _) rfl rfl) rfl rfl) rfl rfl) rfl rfl) (hlh_set (hlh_set (hlh_set (hlh_no _ _) rfl rfl) rfl (by exact smCs_in rfl _)) rfl rfl)⟩
  · skip
    rintro _ _
    refine CW_cutE (fun _ : Unit => ⟨J, (sset (sset (sset (sset (sset noSlots 2 (.d (.lit (.int .u8 (w1.toNat : Int))))) 7 (.d (int ((k : Nat) : Int)))) 8 (.d (int ((j : Nat) : Int)))) 9 (.ptr 1 0)) 13 (.d (boo (decide (k ≤ 5) && (decide (j ≤ 5) || k == 0))))), (hset (hset (hset noHeap 1 (some (.box 25 [.row 50]))) 50 (some (.rowA 29 2 (k) (smCs j k)))) 60 (sm60 j k))⟩) (fun _ => True) ?_ ?_
    · skip
      refine CW_region ?_
      refine OW_run' hE.ok 3 rfl ?_
      refine OW_split' 62 rfl (fun h5 => ?_) (fun h5 => ?_)
      · skip
        have y1 : (decide (((k : Nat) : Int) ≤ 5)) = true := h5
        refine OW_run' hE.ok 3 rfl ?_
        refine OW_split' 65 rfl (fun h6 => ?_) (fun h6 => ?_)
        · skip
          have y2 : (decide (((j : Nat) : Int) ≤ 5)) = true := h6
          refine OW_run' hE.ok 5 rfl ?_
          refine OW_as' 13 (.d (boo (decide (k ≤ 5) && (decide (j ≤ 5) || k == 0)))) (by refine congrArg (fun b => AV.d (boo b)) ?_; rw [← dec_le5 k, ← dec_le5 j, ← eq0N k]; simp [*]) ?_
          refine OW_end rfl ?_
          cases k with
          | zero => exact ⟨(), trivial, LE_sh (slh_set (slh_set (slh_set (slh_set (slh_set (slh_no _ _) rfl rfl) rfl rfl) rfl rfl) rfl rfl) rfl rfl) (hlh_none (hlh_set (hlh_set (hlh_no _ _) rfl rfl) rfl rfl))⟩
          | succ q => exact ⟨(), trivial, LE_sh (slh_set (slh_set (slh_set (slh_set (slh_set (slh_no _ _) rfl rfl) rfl rfl) rfl rfl) rfl rfl) rfl rfl) (hlh_set (hlh_set (hlh_set (hlh_no _ _) rfl rfl) rfl (by exact smCs_in rfl _)) rfl rfl)⟩
        · skip
          have y2 : (decide (((j : Nat) : Int) ≤ 5)) = false := h6
          refine OW_run' hE.ok 5 rfl ?_
          refine OW_as' 13 (.d (boo (decide (k ≤ 5) && (decide (j ≤ 5) || k == 0)))) (by refine congrArg (fun b => AV.d (boo b)) ?_; rw [← dec_le5 k, ← dec_le5 j, ← eq0N k]; simp [*]) ?_
          refine OW_end rfl ?_
          cases k with
          | zero => exact ⟨(), trivial, LE_sh (slh_set (slh_set (slh_set (slh_set (slh_set (slh_no _ _) rfl rfl) rfl rfl) rfl rfl) rfl rfl) rfl rfl) (hlh_none (hlh_set (hlh_set (hlh_no _ _) rfl rfl) rfl rfl))⟩
          | succ q => exact ⟨(), trivial, LE_sh (slh_set (slh_set (slh_set (slh_set (slh_set (slh_no _ _) rfl rfl) rfl rfl) rfl rfl) rfl rfl) rfl rfl) (hlh_set (hlh_set (hlh_set (hlh_no _ _) rfl rfl) rfl (by exact smCs_in rfl _)) rfl rfl)⟩
      · skip
        have y1 : (decide (((k : Nat) : Int) ≤ 5)) = false := h5
        refine OW_run' hE.ok 8 rfl ?_
        refine OW_as' 13 (.d (boo (decide (k ≤ 5) && (decide (j ≤ 5) || k == 0)))) (by refine congrArg (fun b => AV.d (boo b)) ?_; rw [← dec_le5 k, ← dec_le5 j, ← eq0N k]; simp [*]) ?_
        refine OW_end rfl ?_
        cases k with
        | zero => exact ⟨(), trivial, LE_sh (slh_set (slh_set (slh_set (slh_set (slh_set (slh_no _ _) rfl rfl) rfl rfl) rfl rfl) rfl rfl) rfl rfl) (hlh_none (hlh_set (hlh_set (hlh_no _ _) rfl rfl) rfl rfl))⟩
        | succ q => exact ⟨(), trivial, LE_sh (slh_set (slh_set (slh_set (slh_set (slh_set (slh_no _ _) rfl rfl) rfl rfl) rfl rfl) rfl rfl) rfl rfl) (hlh_set (hlh_set (hlh_set (hlh_no _ _) rfl rfl) rfl (by exact smCs_in rfl _)) rfl rfl)⟩
    · skip
      rintro _ _
      rcases hc3 with rfl | rfl | rfl
      · skip
        -- c = 0
        refine CW_cutE (fun _ : Unit => ⟨J, smSl (smG k j 0), hset (hset noHeap 1 (some (.box 25 [.row 50]))) 50 (some (.row 29 2 ((smS k j 0).map encT)))⟩) (fun _ => True) ?_ ?_
        · skip
          refine CW_seq ?_
          refine CW_region ?_
          refine OW_run' hE.ok 2 rfl ?_
          refine OW_as' 71 (.d (.lit (.int .u8 (0 : Int)))) (by show AV.d (.lit (.int .u8 ((w1.toNat % 3 : Nat) : Int))) = _; rw [hc0]; rfl) ?_
          refine OW_run' hE.ok 1 rfl ?_
          refine OW_run' hE.ok 4 rfl ?_
          refine OW_end rfl ?_
          refine CW_false rfl ?_
          refine CW_seq ?_
          refine CW_region ?_
          refine OW_run' hE.ok 2 rfl ?_
          refine OW_as' 91 (.d (.lit (.int .u8 (0 : Int)))) (by show AV.d (.lit (.int .u8 ((w1.toNat % 3 : Nat) : Int))) = _; rw [hc0]; rfl) ?_
          refine OW_run' hE.ok 1 rfl ?_
          refine OW_run' hE.ok 8 rfl ?_
          refine OW_end rfl ?_
          refine CW_false rfl ?_
          refine CW_skip ?_
          refine ⟨(), trivial, ?_⟩
          cases k with
          | zero => rw [smS_0]; exact LE.trans (b := ⟨J, smSl (smG 0 j 0), hset (hset noHeap 1 (some (.box 25 [.row 50]))) 50 (some (.rowA 29 2 0 []))⟩) (LE_sh (slh_set (slh_set (slh_no _ _) rfl rfl) (congrArg (fun b => AV.d (boo b)) (smG0_c0.symm)) rfl) (hlh_set (hlh_set (hlh_no _ _) rfl rfl) rfl rfl)) (smEnd0 25 29)
          | succ q => rw [smS_0]; exact LE.trans (b := ⟨J, smSl (smG (q + 1) j 0), (hset (hset (hset noHeap 1 (some (.box 25 [.row 50]))) 50 (some (.rowA 29 2 (q + 1) (smCs j (q + 1))))) 60 (some (.row 31 2 ((smFs j).map encF))))⟩) (LE_sh (slh_set (slh_set (slh_no _ _) rfl rfl) (congrArg (fun b => AV.d (boo b)) (smG0_c0.symm)) rfl) (hlh_set (hlh_set (hlh_set (hlh_no _ _) rfl rfl) rfl (by exact smCs_in rfl _)) rfl rfl)) (smEnd 25 29 31 (by simp [smFs_len]; omega) (sm0_fz j (q + 1)) (smTs_len j (q + 1)))
        · skip
          rintro _ _
          have q := isOk (smS k j 0); rw [smS_ok hk8 hj8 (by omega)] at q
          refine CW.le (LE_freeze 50 40 rfl (by simp [smS_len]; omega)) ?_
          refine CW.le (show LE _ _ ⟨J, smSl (smG k j 0), hset noHeap 1 (some (.box 25 [.d (encS (smS k j 0))]))⟩ from LE_sh (slh_set (slh_set (slh_no _ _) rfl rfl) rfl rfl) (hlh_set (hlh_no _ _) rfl rfl)) ?_
          refine CW_seq ?_
          refine CW_region ?_
          refine OW_run' hE.ok 1 rfl ?_
          refine OW_call' hE (q) rfl rfl rfl rfl rfl rfl rfl ?_
          refine OW_run' hE.ok 2 rfl ?_
          refine OW_as' 121 (.d (boo true)) (by refine congrArg (fun b => AV.d (boo b)) ?_; simp) ?_
          refine OW_run' hE.ok 1 rfl ?_
          refine OW_end rfl ?_
          refine CW_ret ?_
          refine ⟨.inr rfl, rfl, ⟨[.d (boo true)], rfl, rfl, ?_⟩, rfl⟩
          exact AVle.refl _
      · skip
        -- c = 1
        refine CW_cutE (fun _ : Unit => ⟨J, smSl (smG k j 1), hset (hset noHeap 1 (some (.box 25 [.row 50]))) 50 (some (.row 29 2 ((smS k j 1).map encT)))⟩) (fun _ => True) ?_ ?_
        · skip
          refine CW_seq ?_
          refine CW_region ?_
          refine OW_run' hE.ok 2 rfl ?_
          refine OW_as' 71 (.d (.lit (.int .u8 (1 : Int)))) (by show AV.d (.lit (.int .u8 ((w1.toNat % 3 : Nat) : Int))) = _; rw [hc0]; rfl) ?_
          refine OW_run' hE.ok 1 rfl ?_
          refine OW_run' hE.ok 4 rfl ?_
          refine OW_end rfl ?_
          refine CW_cond _ rfl (fun h7 => ?_) (fun h7 => ?_)
          · skip
            obtain ⟨q, rfl⟩ : ∃ q, k = q + 2 := ⟨k - 2, by have := h7; simp at this; omega⟩
            refine CW_seq ?_
            refine CW_drawn' hE 11 (by decide +kernel) ?_
            refine HW_run hE 8 rfl rfl ?_
            refine HW_as 84 (.d (int ((q : Nat) : Int))) (by show AV.d (.lit (.int .i64 (IntKind.i64.wrap (((q + 2 : Nat) : Int) - 2)))) = _; rw [show (((q + 2 : Nat) : Int) - 2) = ((q : Nat) : Int) by omega, wrapN (by omega)]; rfl) ?_
            refine HW_loc hE (loc_idxRowA hE rfl rfl rfl rfl rfl (j := q) rfl (by omega)) rfl rfl rfl rfl ?_
            refine HW_run hE 1 rfl rfl ?_
            refine HW_loc hE (loc_loadRowA hE rfl rfl rfl rfl (by exact smA_load j q)) rfl rfl rfl rfl ?_
            refine HW_end ?_
            refine OW_as' 80 (.d (int ((q + 1 : Nat) : Int))) (by show AV.d (.lit (.int .i64 (IntKind.i64.wrap (((q + 2 : Nat) : Int) - 1)))) = _; rw [show (((q + 2 : Nat) : Int) - 1) = ((q + 1 : Nat) : Int) by omega, wrapN (by omega)]; rfl) ?_
            refine OW_loc' hE (loc_idxRowA hE rfl rfl rfl rfl rfl (j := q + 1) rfl (by omega)) rfl rfl rfl ?_
            refine OW_run' hE.ok 1 rfl ?_
            refine OW_storeRowA' hE rfl rfl rfl rfl rfl (q := (q + 1) * 2) rfl rfl rfl rfl rfl rfl (by rw [smCs_len]; show (q + 1) * 2 + 1 ≤ _; omega) (smA_over j q _) ?_
            refine OW_end rfl ?_
            refine CW_region ?_
            refine OW_run' hE.ok 1 rfl ?_
            refine OW_end rfl ?_
            refine ⟨(), trivial, LE.trans (b := ⟨J, smSl (smG (q + 2) j 1), (hset (hset (hset noHeap 1 (some (.box 25 [.row 50]))) 50 (some (.rowA 29 2 (q + 2) (smCs j (q + 1) ++ [.d (str (smA 116 q)), .d (.sl 2 24 ((smFs j).map encF))])))) 60 (some (.row 31 2 ((smFs j).map encF))))⟩) (LE_sh (slh_set (slh_set (slh_no _ _) rfl rfl) (congrArg (fun b => AV.d (boo b)) (by simp [smG])) rfl) (hlh_set (hlh_set (hlh_set (hlh_no _ _) rfl rfl) rfl ?_) rfl rfl)) (smEnd 25 29 31 (by simp [smFs_len]; omega) (smA_fz j q) smS_len)⟩
            exact inHs_app (smCs_in rfl _) rfl
          · skip
            have y3 : decide (1 < k) = false := by have := h7; simp at this ⊢; omega
            refine CW_seq ?_
            refine CW_region ?_
            refine OW_run' hE.ok 2 rfl ?_
            refine OW_as' 91 (.d (.lit (.int .u8 (1 : Int)))) (by show AV.d (.lit (.int .u8 ((w1.toNat % 3 : Nat) : Int))) = _; rw [hc0]; rfl) ?_
            refine OW_run' hE.ok 1 rfl ?_
            refine OW_run' hE.ok 8 rfl ?_
            refine OW_end rfl ?_
            refine CW_false rfl ?_
            refine CW_skip ?_
            refine ⟨(), trivial, ?_⟩
            cases k with
            | zero => rw [smS_1 y3]; exact LE.trans (b := ⟨J, smSl (smG 0 j 1), hset (hset noHeap 1 (some (.box 25 [.row 50]))) 50 (some (.rowA 29 2 0 []))⟩) (LE_sh (slh_set (slh_set (slh_no _ _) rfl rfl) (congrArg (fun b => AV.d (boo b)) ((smG0_c1 y3).symm)) rfl) (hlh_set (hlh_set (hlh_no _ _) rfl rfl) rfl rfl)) (smEnd0 25 29)
            | succ q => rw [smS_1 y3]; exact LE.trans (b := ⟨J, smSl (smG (q + 1) j 1), (hset (hset (hset noHeap 1 (some (.box 25 [.row 50]))) 50 (some (.rowA 29 2 (q + 1) (smCs j (q + 1))))) 60 (some (.row 31 2 ((smFs j).map encF))))⟩) (LE_sh (slh_set (slh_set (slh_no _ _) rfl rfl) (congrArg (fun b => AV.d (boo b)) ((smG0_c1 y3).symm)) rfl) (hlh_set (hlh_set (hlh_set (hlh_no _ _) rfl rfl) rfl (by exact smCs_in rfl _)) rfl rfl)) (smEnd 25 29 31 (by simp [smFs_len]; omega) (sm0_fz j (q + 1)) (smTs_len j (q + 1)))
        · skip
          rintro _ _
          have q := isOk (smS k j 1); rw [smS_ok hk8 hj8 (by omega)] at q
          refine CW.le (LE_freeze 50 40 rfl (by simp [smS_len]; omega)) ?_
          refine CW.le (show LE _ _ ⟨J, smSl (smG k j 1), hset noHeap 1 (some (.box 25 [.d (encS (smS k j 1))]))⟩ from LE_sh (slh_set (slh_set (slh_no _ _) rfl rfl) rfl rfl) (hlh_set (hlh_no _ _) rfl rfl)) ?_
          refine CW_seq ?_
          refine CW_region ?_
          refine OW_run' hE.ok 1 rfl ?_
          refine OW_call' hE (q) rfl rfl rfl rfl rfl rfl rfl ?_
          refine OW_run' hE.ok 2 rfl ?_
          refine OW_as' 121 (.d (boo true)) (by refine congrArg (fun b => AV.d (boo b)) ?_; simp) ?_
          refine OW_run' hE.ok 1 rfl ?_
          refine OW_end rfl ?_
          refine CW_ret ?_
          refine ⟨.inr rfl, rfl, ⟨[.d (boo true)], rfl, rfl, ?_⟩, rfl⟩
          exact AVle.refl _
      · skip
        -- c = 2
        refine CW_cutE (fun _ : Unit => ⟨J, smSl (smG k j 2), hset (hset noHeap 1 (some (.box 25 [.row 50]))) 50 (some (.row 29 2 ((smS k j 2).map encT)))⟩) (fun _ => True) ?_ ?_
        · skip
          refine CW_seq ?_
          refine CW_region ?_
          refine OW_run' hE.ok 2 rfl ?_
          refine OW_as' 71 (.d (.lit (.int .u8 (2 : Int)))) (by show AV.d (.lit (.int .u8 ((w1.toNat % 3 : Nat) : Int))) = _; rw [hc0]; rfl) ?_
          refine OW_run' hE.ok 1 rfl ?_
          refine OW_run' hE.ok 4 rfl ?_
          refine OW_end rfl ?_
          refine CW_false rfl ?_
          refine CW_seq ?_
          refine CW_region ?_
          refine OW_run' hE.ok 2 rfl ?_
          refine OW_as' 91 (.d (.lit (.int .u8 (2 : Int)))) (by show AV.d (.lit (.int .u8 ((w1.toNat % 3 : Nat) : Int))) = _; rw [hc0]; rfl) ?_
          refine OW_run' hE.ok 1 rfl ?_
          refine OW_run' hE.ok 5 rfl ?_
          refine OW_split' 97 rfl (fun h8 => ?_) (fun h8 => ?_)
          · skip
            obtain ⟨q, rfl⟩ : ∃ q, k = q + 1 := ⟨k - 1, by have := h8; simp at this; omega⟩
            refine OW_run' hE.ok 3 rfl ?_
            refine OW_end rfl ?_
            refine CW_cond _ rfl (fun h9 => ?_) (fun h9 => ?_)
            · skip
              obtain ⟨r, rfl⟩ : ∃ r, j = r + 2 := ⟨j - 2, by have := h9; simp at this; omega⟩
              refine CW_seq ?_
              refine CW_drawn' hE 15 (by decide +kernel) ?_
              refine HW_run hE 2 rfl rfl ?_
              refine HW_loc hE (loc_idxRowA hE rfl rfl rfl rfl rfl (j := 0) rfl (by omega)) rfl rfl rfl rfl ?_
              refine HW_run hE 1 rfl rfl ?_
              refine HW_loc hE (loc_loadRowA hE rfl rfl rfl rfl (by exact smB_load (r + 2) q)) rfl rfl rfl rfl ?_
              refine HW_run hE 4 rfl rfl ?_
              refine HW_loc hE (loc_idxRowA hE rfl rfl rfl rfl rfl (j := 0) rfl (by omega)) rfl rfl rfl rfl ?_
              refine HW_run hE 1 rfl rfl ?_
              refine HW_loc hE (loc_loadRowA hE rfl rfl rfl rfl (by exact smB_load (r + 2) q)) rfl rfl rfl rfl ?_
              refine HW_loc hE (loc_idxRow hE rfl rfl rfl rfl rfl (j := 0) rfl (by simp [smFs_len])) rfl rfl rfl rfl ?_
              refine HW_run hE 1 rfl rfl ?_
              refine HW_loc hE (loc_loadRow hE rfl rfl rfl (j := 0) (off := 0) (by omega) rfl (x := encF (smF 0)) (by simp [smFs_get]) (Nat.zero_le _) rfl) rfl rfl rfl rfl ?_
              refine HW_end ?_
              refine OW_as' 107 (.d (int ((r + 1 : Nat) : Int))) (by show AV.d (.lit (.int .i64 (IntKind.i64.wrap (((r + 2 : Nat) : Int) - 1)))) = _; rw [show (((r + 2 : Nat) : Int) - 1) = ((r + 1 : Nat) : Int) by omega, wrapN (by omega)]; rfl) ?_
              refine OW_loc' hE (loc_idxRow hE rfl rfl rfl rfl rfl (j := r + 1) rfl (by simp [smFs_len])) rfl rfl rfl ?_
              refine OW_run' hE.ok 1 rfl ?_
              refine OW_storeRow' hE rfl rfl rfl rfl rfl (j := r + 1) (off := 0) rfl (by omega) rfl (x := encF (smF (r + 1))) (by simp [smFs_get]) (y := [str (smA 102 0)]) rfl rfl rfl (by decide) (xs' := ((smFs (r + 2)).set (r + 1) { smF (r + 1) with name := smA 102 0 }).map encF) (by rw [List.map_set]; rfl) ?_
              refine OW_end rfl ?_
              refine CW_region ?_
              refine OW_run' hE.ok 1 rfl ?_
              refine OW_end rfl ?_
              exact ⟨(), trivial, LE.trans (b := ⟨J, smSl (smG (q + 1) (r + 2) 2), (hset (hset (hset noHeap 1 (some (.box 25 [.row 50]))) 50 (some (.rowA 29 2 (q + 1) (smCs (r + 2) (q + 1))))) 60 (some (.row 31 2 (((smFs (r + 2)).set (r + 1) { smF (r + 1) with name := smA 102 0 }).map encF))))⟩) (LE_sh (slh_set (slh_set (slh_no _ _) rfl rfl) (congrArg (fun b => AV.d (boo b)) (by simp [smG])) rfl) (hlh_set (hlh_set (hlh_set (hlh_no _ _) rfl rfl) rfl (by exact smCs_in rfl _)) rfl rfl)) (smEnd 25 29 31 (by simp [smFs_len]; omega) (smB_fz q r) smS_len)⟩
            · skip
              have y4 : decide (1 < j) = false := by have := h9; simp at this ⊢; omega
              refine CW_skip ?_
              refine ⟨(), trivial, ?_⟩
              rw [smS_2 (.inr y4)]
              exact LE.trans (b := ⟨J, smSl (smG (q + 1) j 2), (hset (hset (hset noHeap 1 (some (.box 25 [.row 50]))) 50 (some (.rowA 29 2 (q + 1) (smCs j (q + 1))))) 60 (some (.row 31 2 ((smFs j).map encF))))⟩) (LE_sh (slh_set (slh_set (slh_no _ _) rfl rfl) (congrArg (fun b => AV.d (boo b)) ((smG0_c2 (.inr y4)).symm)) rfl) (hlh_set (hlh_set (hlh_set (hlh_no _ _) rfl rfl) rfl (by exact smCs_in rfl _)) rfl rfl)) (smEnd 25 29 31 (by simp [smFs_len]; omega) (sm0_fz j (q + 1)) (smTs_len j (q + 1)))
          · skip
            have y3 : decide (0 < k) = false := by have := h8; simp at this ⊢; omega
            refine OW_run' hE.ok 3 rfl ?_
            refine OW_end rfl ?_
            refine CW_false rfl ?_
            refine CW_skip ?_
            refine ⟨(), trivial, ?_⟩
            cases k with
            | zero => rw [smS_2 (.inl y3)]; exact LE.trans (b := ⟨J, smSl (smG 0 j 2), hset (hset noHeap 1 (some (.box 25 [.row 50]))) 50 (some (.rowA 29 2 0 []))⟩) (LE_sh (slh_set (slh_set (slh_no _ _) rfl rfl) (congrArg (fun b => AV.d (boo b)) ((smG0_c2 (.inl y3)).symm)) rfl) (hlh_set (hlh_set (hlh_no _ _) rfl rfl) rfl rfl)) (smEnd0 25 29)
            | succ q => rw [smS_2 (.inl y3)]; exact LE.trans (b := ⟨J, smSl (smG (q + 1) j 2), (hset (hset (hset noHeap 1 (some (.box 25 [.row 50]))) 50 (some (.rowA 29 2 (q + 1) (smCs j (q + 1))))) 60 (some (.row 31 2 ((smFs j).map encF))))⟩) (LE_sh (slh_set (slh_set (slh_no _ _) rfl rfl) (congrArg (fun b => AV.d (boo b)) ((smG0_c2 (.inl y3)).symm)) rfl) (hlh_set (hlh_set (hlh_set (hlh_no _ _) rfl rfl) rfl (by exact smCs_in rfl _)) rfl rfl)) (smEnd 25 29 31 (by simp [smFs_len]; omega) (sm0_fz j (q + 1)) (smTs_len j (q + 1)))
        · skip
          rintro _ _
          have q := isOk (smS k j 2); rw [smS_ok hk8 hj8 (by omega)] at q
          refine CW.le (LE_freeze 50 40 rfl (by simp [smS_len]; omega)) ?_
          refine CW.le (show LE _ _ ⟨J, smSl (smG k j 2), hset noHeap 1 (some (.box 25 [.d (encS (smS k j 2))]))⟩ from LE_sh (slh_set (slh_set (slh_no _ _) rfl rfl) rfl rfl) (hlh_set (hlh_no _ _) rfl rfl)) ?_
          refine CW_seq ?_
          refine CW_region ?_
          refine OW_run' hE.ok 1 rfl ?_
          refine OW_call' hE (q) rfl rfl rfl rfl rfl rfl rfl ?_
          refine OW_run' hE.ok 2 rfl ?_
          refine OW_as' 121 (.d (boo true)) (by refine congrArg (fun b => AV.d (boo b)) ?_; simp) ?_
          refine OW_run' hE.ok 1 rfl ?_
          refine OW_end rfl ?_
          refine CW_ret ?_
          refine ⟨.inr rfl, rfl, ⟨[.d (boo true)], rfl, rfl, ?_⟩, rfl⟩
          exact AVle.refl _
end Go.Proofs.Ytchpllgeahnmmaa
