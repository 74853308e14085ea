/- Parts of an abstract logic over the kit's walks, and walks in it: W7cl. -/
import Derived.Test.YtchpllgeahnmmaaWg
import Derived.Test.YtchpllgeahnmmaaCh
namespace Go.Proofs.Ytchpllgeahnmmaa
open Go Go.AL
set_option linter.unusedVariables false
set_option linter.unusedSimpArgs false
set_option maxHeartbeats 4000000
theorem manyLaw (u : UInt8) : Does Try.prog 7 [.d (.lit (.int .u8 (u.toNat : Int)))] noHeap (.d (boo true)) := by
  refine Does_of T_ok mixed (N := 61) Try.func7 rfl rfl rfl (by rfl) fun F n Z hE hF J => ?_
  refine CW_seq ?_
  refine CW_region ?_
  refine OW_run' hE.ok 1 rfl ?_
  refine OW_end rfl ?_
  refine CW_seq ?_
  refine CW_seq ?_
  refine CW_region ?_
  refine OW_call' hE (known5) rfl rfl rfl rfl rfl rfl rfl ?_
  refine OW_run' hE.ok 1 rfl ?_
  refine OW_end rfl ?_
  refine CW_false rfl ?_
  refine CW_skip ?_
  refine CW_seq ?_
  refine CW_region ?_
  refine OW_build' hE rfl rfl rfl rfl rfl ?_
  refine OW.le (LE_slot 12 (argT ⟨kA, []⟩) (AVle.agg (.cons (.refl _) (.cons (.nilSl 2 24) .nil)))) ?_
  refine OW_lits' hE rfl rfl rfl rfl rfl rfl rfl rfl rfl rfl rfl rfl ?_
  refine OW_build' hE rfl rfl rfl rfl rfl ?_
  refine OW_callM' hE (tr []) (newNil mS mS_ok) rfl rfl rfl rfl rfl trivial rfl rfl ?_
  refine OW_run' hE.ok 5 rfl ?_
  refine OW_end rfl ?_
  refine CW_seq ?_
  refine CW_seq ?_
  refine CW_region ?_
  refine OW_run' hE.ok 1 rfl ?_
  refine OW_loc' hE (loc_errNe hE rfl rfl (EN := 63) (z := 0) rfl) rfl rfl rfl ?_
  refine OW_run' hE.ok 2 rfl ?_
  refine OW_loc' hE (loc_ptrNil hE rfl rfl (k := 40) (off := 0) rfl) rfl rfl rfl ?_
  refine OW_run' hE.ok 1 rfl ?_
  refine OW_end rfl ?_
  refine CW_false rfl ?_
  refine CW_skip ?_
  refine CW_seq ?_
  obtain ⟨k, hk⟩ : ∃ k : Nat, k = u.toNat % 25 := ⟨_, rfl⟩
  have hk25 : k < 25 := by rw [hk]; exact Nat.mod_lt _ (by omega)
  refine CW_region ?_
  refine OW_run' hE.ok 1 rfl ?_
  refine OW_loc' hE (loc_rem hE rfl rfl rfl (by decide)) rfl rfl rfl ?_
  refine OW_as' 25 (.d (.lit (.int .u8 ((k : Nat) : Int)))) (by rw [hk]; rfl) ?_
  refine OW_run' hE.ok 1 rfl ?_
  refine OW_as' 26 (.d (int ((k : Nat) : Int))) (by show AV.d (.lit (.int .i64 (IntKind.i64.wrap ((k : Nat) : Int)))) = _; rw [wrapN (by omega)]; rfl) ?_
  refine OW_run' hE.ok 1 rfl ?_
  refine OW_end rfl ?_
  refine CW_seq ?_
  refine CW_seq ?_
  refine CW_region ?_
  refine OW_run' hE.ok 1 rfl ?_
  refine OW_end rfl ?_
  refine CW_block ?_
  refine CW.le (show LE _ _ ⟨J, (sset (sset (sset noSlots 3 (.ptr 40 0)) 5 (.d (int ((k : Nat) : Int)))) 6 (.d (int ((0 : Nat) : Int)))), (hset (hset (hset noHeap 40 (some (.box 93 [.row 50, .row 51]))) 50 (some (.row 25 1 ((mN (0)).1.map encS1)))) 51 (some (.row 37 7 ((mN (0)).2.map encC))))⟩ from LE_sh (slh_set (v := .d (int ((0 : Nat) : Int))) (slh_set (v := .d (int ((k : Nat) : Int))) (slh_set (v := .ptr 40 0) (slh_no _ _) (by rfl) rfl) (by rfl) rfl) (by rfl) rfl) (hlh_set (hlh_set (hlh_set (hlh_no _ _) rfl rfl) rfl rfl) rfl rfl)) ?_
  refine CW_loop (σ := {i : Nat // i ≤ k}) (fun i => ⟨J, (sset (sset (sset noSlots 3 (.ptr 40 0)) 5 (.d (int ((k : Nat) : Int)))) 6 (.d (int ((i.1 : Nat) : Int)))), (hset (hset (hset noHeap 40 (some (.box 93 [.row 50, .row 51]))) 50 (some (.row 25 1 ((mN (i.1)).1.map encS1)))) 51 (some (.row 37 7 ((mN (i.1)).2.map encC))))⟩) (fun i => k - i.1) ⟨0, Nat.zero_le _⟩ (LE.refl _ _) fun ⟨i, hi⟩ => ?_
  refine CW_seq ?_
  refine CW_seq ?_
  refine CW_region ?_
  refine OW_run' hE.ok 3 rfl ?_
  refine OW_end rfl ?_
  refine CW_cond _ rfl (fun h1 => ?_) (fun h1 => ?_)
  · skip
    have hlt : i < k := by have := h1; simp at this; omega
    obtain ⟨f1, f2, f3⟩ := m_at (show i < 25 by omega)
    refine CW_skip ?_
    refine CW_seq ?_
    refine CW_block ?_
    refine CW_seq ?_
    refine CW_region ?_
    refine OW_build' hE rfl rfl rfl rfl rfl ?_
    refine OW_build' hE rfl rfl rfl rfl rfl ?_
    refine OW_alloc' hE 5 rfl rfl rfl rfl rfl rfl rfl ?_
    refine OW_store' hE rfl rfl rfl rfl rfl rfl rfl rfl rfl rfl rfl rfl ?_
    refine OW_end rfl ?_
    refine CW_cutE (fun _ : Unit => ⟨J, (sset (sset (sset (sset noSlots 3 (.ptr 40 0)) 5 (.d (int ((k : Nat) : Int)))) 6 (.d (int ((i : Nat) : Int)))) 7 (.ptr 5 0)), (hset (hset (hset (hset noHeap 40 (some (.box 93 [.row 50, .row 51]))) 50 (some (.row 25 1 ((mN (i)).1.map encS1)))) 51 (some (.row 37 7 ((mN (i)).2.map encC)))) 5 (some (.box 37 ((encC (mc i)).map .d))))⟩) (fun _ => True) ?_ ?_
    · skip
      refine CW_seq ?_
      refine CW_region ?_
      refine OW_run' hE.ok 1 rfl ?_
      refine OW_loc' hE (loc_rem hE rfl rfl rfl (by decide)) rfl rfl rfl ?_
      refine OW_as' 35 (.d (int ((i % 2 : Nat) : Int))) (by rfl) ?_
      refine OW_run' hE.ok 1 rfl ?_
      refine OW_end rfl ?_
      refine CW_cond _ rfl (fun h2 => ?_) (fun h2 => ?_)
      · skip
        have hq : (((i % 2 : Nat) : Int) == 1) = true := h2
        refine CW_region ?_
        refine OW_build' hE rfl rfl rfl rfl rfl ?_
        refine OW_store' hE rfl rfl rfl rfl rfl rfl rfl rfl rfl rfl rfl rfl ?_
        refine OW_end rfl ?_
        have hmc : mc i = mDrop := by unfold mc; rw [hq]; rfl
        exact ⟨(), trivial, LE_sh (slh_set (v := .ptr 5 0) (slh_set (v := .d (int ((i : Nat) : Int))) (slh_set (v := .d (int ((k : Nat) : Int))) (slh_set (v := .ptr 40 0) (slh_no _ _) (by rfl) rfl) (by rfl) rfl) (by rfl) rfl) (by rfl) rfl) (hlh_set (hlh_set (hlh_set (hlh_set (hlh_no _ _) rfl rfl) rfl rfl) rfl rfl) (by exact congrArg (fun z : Chg => some (Ent.box 37 ((encC z).map .d))) hmc.symm) rfl)⟩
      · skip
        have hq : (((i % 2 : Nat) : Int) == 1) = false := h2
        refine CW_skip ?_
        have hmc : mc i = mAdd := by unfold mc; rw [hq]; rfl
        exact ⟨(), trivial, LE_sh (slh_set (v := .ptr 5 0) (slh_set (v := .d (int ((i : Nat) : Int))) (slh_set (v := .d (int ((k : Nat) : Int))) (slh_set (v := .ptr 40 0) (slh_no _ _) (by rfl) rfl) (by rfl) rfl) (by rfl) rfl) (by rfl) rfl) (hlh_set (hlh_set (hlh_set (hlh_set (hlh_no _ _) rfl rfl) rfl rfl) rfl rfl) (by exact congrArg (fun z : Chg => some (Ent.box 37 ((encC z).map .d))) hmc.symm) rfl)⟩
    · skip
      rintro _ _
      refine CW_seq ?_
      refine CW_region ?_
      refine OW_run' hE.ok 2 rfl ?_
      refine OW_callM' hE (tr []) (addOk (mN i).1 (mN i).2 (mc i) (mN_ok i)) rfl rfl rfl rfl rfl ⟨rfl, rfl, rfl, trivial⟩ rfl rfl ?_
      refine OW_run' hE.ok 1 rfl ?_
      refine OW_end rfl ?_
      refine CW_seq ?_
      refine CW_region ?_
      refine OW_run' hE.ok 1 rfl ?_
      refine OW_loc' hE (loc_errEq hE rfl rfl (EN := 63) (z := (addE (mN i).1 (mN i).2 (mc i))) rfl) rfl rfl rfl ?_
      refine OW_run' hE.ok 3 rfl ?_
      refine OW_as' 45 (.d (boo false)) (by exact congrArg (fun b => AV.d (boo b)) (by rw [f1]; simp; omega)) ?_
      refine OW_run' hE.ok 1 rfl ?_
      refine OW_run' hE.ok 1 rfl ?_
      refine OW_loc' hE (loc_errNe hE rfl rfl (EN := 63) (z := (addE (mN i).1 (mN i).2 (mc i))) rfl) rfl rfl rfl ?_
      refine OW_run' hE.ok 1 rfl ?_
      refine OW_split' 49 rfl (fun h3 => ?_) (fun h3 => ?_)
      · skip
        have h12 : (addE (mN i).1 (mN i).2 (mc i)) = 12 := f2 (Nat.le_of_not_lt fun hlt20 => by have h0 : ((addE (mN i).1 (mN i).2 (mc i)) == 0) = true := (by rw [f1]; simpa using hlt20); have := h3; simp at h0 this; exact this h0)
        refine OW_run' hE.ok 2 rfl ?_
        refine OW_as' 50 (.d (errD 12)) (by rw [h12]; rfl) ?_
        refine OW_call' hE (errIs 12 12) rfl rfl rfl rfl rfl rfl rfl ?_
        refine OW_run' hE.ok 3 rfl ?_
        refine OW_end rfl ?_
        refine CW_false rfl ?_
        refine CW_skip ?_
        refine CW_region ?_
        refine OW_run' hE.ok 3 rfl ?_
        refine OW_end rfl ?_
        refine ⟨⟨i + 1, by omega⟩, LE_sh (slh_set (v := .d (int ((i + 1 : Nat) : Int))) (slh_set (v := .d (int ((k : Nat) : Int))) (slh_set (v := .ptr 40 0) (slh_no _ _) (by rfl) rfl) (by rfl) rfl) (by show AV.d (.lit (.int .i64 (IntKind.i64.wrap ((i : Int) + 1)))) = _; rw [wrap_succ (by omega)]; rfl) rfl) (hlh_set (hlh_set (hlh_set (hlh_no _ _) rfl rfl) rfl rfl) rfl rfl), by show k - (i + 1) < k - i; omega⟩
      · skip
        refine OW_run' hE.ok 6 rfl ?_
        refine OW_end rfl ?_
        refine CW_false rfl ?_
        refine CW_skip ?_
        refine CW_region ?_
        refine OW_run' hE.ok 3 rfl ?_
        refine OW_end rfl ?_
        refine ⟨⟨i + 1, by omega⟩, LE_sh (slh_set (v := .d (int ((i + 1 : Nat) : Int))) (slh_set (v := .d (int ((k : Nat) : Int))) (slh_set (v := .ptr 40 0) (slh_no _ _) (by rfl) rfl) (by rfl) rfl) (by show AV.d (.lit (.int .i64 (IntKind.i64.wrap ((i : Int) + 1)))) = _; rw [wrap_succ (by omega)]; rfl) rfl) (hlh_set (hlh_set (hlh_set (hlh_no _ _) rfl rfl) rfl rfl) rfl rfl), by show k - (i + 1) < k - i; omega⟩
  · skip
    have hge : i = k := by have := h1; simp at this; omega
    obtain ⟨f1, f2, f3⟩ := m_at hk25
    refine CW_exit ?_
    show CW _ _ _ _
    refine CW_seq ?_
    refine CW_region ?_
    refine OW_run' hE.ok 1 rfl ?_
    refine OW_callR' hE (nowOk (mN i).1 (mN i).2) rfl rfl rfl rfl rfl rfl ⟨rfl, rfl, rfl, trivial⟩ (freshL_own _) rfl ?_
    refine OW_run' hE.ok 1 rfl ?_
    refine OW_loc' hE (loc_min2 hE rfl rfl rfl) rfl rfl rfl ?_
    refine OW_run' hE.ok 1 rfl ?_
    refine OW_as' 60 (.d (boo true)) (by exact congrArg (fun b => AV.d (boo b)) (by rw [hge, f3]; simp only [beq_iff_eq]; split <;> omega)) ?_
    refine OW_run' hE.ok 1 rfl ?_
    refine OW_end rfl ?_
    refine CW_ret ?_
    refine ⟨.inr rfl, rfl, ⟨_, rfl, rfl, ?_⟩, rfl⟩
    exact AVle.refl _
end Go.Proofs.Ytchpllgeahnmmaa
