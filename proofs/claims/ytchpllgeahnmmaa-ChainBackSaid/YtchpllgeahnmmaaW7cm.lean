/- Parts of an abstract logic over the kit's walks, and walks in it: W7cm. -/
import Derived.Test.YtchpllgeahnmmaaWg
import Derived.Test.YtchpllgeahnmmaaCh
namespace Go.Proofs.Ytchpllgeahnmmaa
open Go Go.AL
set_option linter.unusedVariables false
set_option linter.unusedSimpArgs false
set_option maxHeartbeats 4000000
theorem chainBackLaw (a b : UInt8) : Does Try.prog 8 [.d (.lit (.int .u8 (a.toNat : Int))), .d (.lit (.int .u8 (b.toNat : Int)))] noHeap (.d (boo true)) := by
  refine Does_of T_ok mixed (N := 144) Try.func8 rfl rfl rfl (by rfl) fun F n Z hE hF J => ?_
  refine CW_seq ?_
  refine CW_region ?_
  refine OW_run' hE.ok 1 rfl ?_
  refine OW_end rfl ?_
  refine CW_seq ?_
  refine CW_seq ?_
  refine CW_region ?_
  refine OW_call' hE (known5) rfl rfl rfl rfl rfl rfl rfl ?_
  refine OW_run' hE.ok 1 rfl ?_
  refine OW_end rfl ?_
  refine CW_false rfl ?_
  refine CW_skip ?_
  refine CW_seq ?_
  refine CW_region ?_
  refine OW_build' hE rfl rfl rfl rfl rfl ?_
  refine OW.le (LE_slot 20 (argT ⟨kA, []⟩) (AVle.agg (.cons (.refl _) (.cons (.nilSl 2 24) .nil)))) ?_
  refine OW_build' hE rfl rfl rfl rfl rfl ?_
  refine OW_lits' hE rfl rfl rfl rfl rfl rfl rfl rfl rfl rfl rfl rfl ?_
  refine OW_build' hE rfl rfl rfl rfl rfl ?_
  refine OW_lits' hE rfl rfl rfl rfl rfl rfl rfl rfl rfl rfl rfl rfl ?_
  refine OW_build' hE rfl rfl rfl rfl rfl ?_
  refine OW_callM' hE (tr []) (newNil bSch bSch_ok) rfl rfl rfl rfl rfl trivial rfl rfl ?_
  refine OW_run' hE.ok 5 rfl ?_
  refine OW_end rfl ?_
  refine CW_seq ?_
  refine CW_seq ?_
  refine CW.le (show LE _ _ ⟨J, (sset (sset (sset (sset noSlots 0 (.d (.lit (.int .u8 (a.toNat : Int))))) 1 (.d (.lit (.int .u8 (b.toNat : Int))))) 5 (.ptr 40 0)) 6 (.d (errC 63 0))), (hset (hset (hset noHeap 40 (some (.box 93 [.row 50, .row 51]))) 50 (some (.row 25 1 ([bSch].map encS1)))) 51 (some (.row 37 7 (([] : List Chg).map encC))))⟩ from LE_sh (slh_set (v := .d (errC 63 0)) (slh_set (v := .ptr 40 0) (slh_set (v := .d (.lit (.int .u8 (b.toNat : Int)))) (slh_set (v := .d (.lit (.int .u8 (a.toNat : Int)))) (slh_no _ _) (by rfl) rfl) (by rfl) rfl) (by rfl) rfl) (by rfl) rfl) (hlh_set (hlh_set (hlh_set (hlh_no _ _) rfl rfl) rfl rfl) rfl rfl)) ?_
  refine CW_region ?_
  refine OW_run' hE.ok 1 rfl ?_
  refine OW_loc' hE (loc_errNe hE rfl rfl (EN := 63) (z := 0) rfl) rfl rfl rfl ?_
  refine OW_run' hE.ok 2 rfl ?_
  refine OW_loc' hE (loc_ptrNil hE rfl rfl (k := 40) (off := 0) rfl) rfl rfl rfl ?_
  refine OW_run' hE.ok 1 rfl ?_
  refine OW_end rfl ?_
  refine CW_false rfl ?_
  refine CW_skip ?_
  refine CW_seq ?_
  obtain ⟨k0, hk0⟩ : ∃ k0 : Nat, k0 = a.toNat % 8 := ⟨_, rfl⟩
  have hk8 : k0 < 8 := by rw [hk0]; exact Nat.mod_lt _ (by omega)
  obtain ⟨k, hk⟩ : ∃ k, k = k0 + 1 := ⟨_, rfl⟩
  refine CW_region ?_
  refine OW_run' hE.ok 1 rfl ?_
  refine OW_loc' hE (loc_rem hE rfl rfl rfl (by decide)) rfl rfl rfl ?_
  refine OW_as' 36 (.d (.lit (.int .u8 ((k0 : Nat) : Int)))) (by rw [hk0]; rfl) ?_
  refine OW_run' hE.ok 1 rfl ?_
  refine OW_as' 37 (.d (int ((k0 : Nat) : Int))) (by show AV.d (.lit (.int .i64 (IntKind.i64.wrap ((k0 : Nat) : Int)))) = _; rw [wrapN (by omega)]; rfl) ?_
  refine OW_run' hE.ok 1 rfl ?_
  refine OW_as' 38 (.d (int ((k : Nat) : Int))) (by show AV.d (.lit (.int .i64 (IntKind.i64.wrap ((k0 : Nat) + 1)))) = _; rw [wrap_succ (by omega), ← hk]; rfl) ?_
  refine OW_run' hE.ok 1 rfl ?_
  refine OW_end rfl ?_
  refine CW_seq ?_
  refine CW_seq ?_
  refine CW_region ?_
  refine OW_run' hE.ok 1 rfl ?_
  refine OW_build' hE rfl rfl rfl rfl rfl ?_
  refine OW_build' hE rfl rfl rfl rfl rfl ?_
  refine OW_callM' hE (tr []) (addOk ((([bSch], []) : List (List Ty) × List Chg)).1 ((([bSch], []) : List (List Ty) × List Chg)).2 bC0 (ChainOk.one bSch_ok)) rfl rfl rfl rfl rfl ⟨rfl, rfl, rfl, trivial⟩ rfl rfl ?_
  refine OW_as' 42 (.d (errC 63 0)) (by exact congrArg (fun z => AV.d (errC 63 z)) b_0) ?_
  refine OW_loc' hE (loc_errNe hE rfl rfl (EN := 63) (z := 0) rfl) rfl rfl rfl ?_
  refine OW_end rfl ?_
  refine CW_false rfl ?_
  refine CW_skip ?_
  refine CW_seq ?_
  refine CW_region ?_
  refine OW_run' hE.ok 1 rfl ?_
  refine OW_end rfl ?_
  refine CW_seq ?_
  refine CW_seq ?_
  refine CW_region ?_
  refine OW_run' hE.ok 1 rfl ?_
  refine OW_end rfl ?_
  refine CW_block ?_
  refine CW.le (show LE _ _ ⟨J, (sset (sset (sset (sset (sset noSlots 1 (.d (.lit (.int .u8 (b.toNat : Int))))) 5 (.ptr 40 0)) 7 (.d (int ((k : Nat) : Int)))) 8 (.d (str (fnm (0))))) 9 (.d (int ((0 + 1 : Nat) : Int)))), (hset (hset (hset noHeap 40 (some (.box 93 [.row 50, .row 51]))) 50 (some (.row 25 1 ((bN 0).1.map encS1)))) 51 (some (.row 37 7 ((bN 0).2.map encC))))⟩ from LE_sh (slh_set (v := .d (int ((0 + 1 : Nat) : Int))) (slh_set (v := .d (str (fnm (0)))) (slh_set (v := .d (int ((k : Nat) : Int))) (slh_set (v := .ptr 40 0) (slh_set (v := .d (.lit (.int .u8 (b.toNat : Int)))) (slh_no _ _) (by rfl) rfl) (by rfl) rfl) (by rfl) rfl) (by rfl) rfl) (by rfl) rfl) (hlh_set (hlh_set (hlh_set (hlh_no _ _) rfl rfl) rfl rfl) rfl rfl)) ?_
  refine CW_loop (σ := {q : Nat // q ≤ 6 ∧ q ≤ k}) (fun q => ⟨J, (sset (sset (sset (sset (sset noSlots 1 (.d (.lit (.int .u8 (b.toNat : Int))))) 5 (.ptr 40 0)) 7 (.d (int ((k : Nat) : Int)))) 8 (.d (str (fnm (q.1))))) 9 (.d (int ((q.1 + 1 : Nat) : Int)))), (hset (hset (hset noHeap 40 (some (.box 93 [.row 50, .row 51]))) 50 (some (.row 25 1 ((bN q.1).1.map encS1)))) 51 (some (.row 37 7 ((bN q.1).2.map encC))))⟩) (fun q => k - q.1) ⟨0, by omega⟩ (LE.refl _ _) fun ⟨q, hq6, hqk⟩ => ?_
  refine CW_seq ?_
  refine CW_seq ?_
  refine CW_region ?_
  refine OW_run' hE.ok 3 rfl ?_
  refine OW_end rfl ?_
  refine CW_cond _ rfl (fun h1 => ?_) (fun h1 => ?_)
  · skip
    have hlt : q + 1 ≤ k := by have := h1; simp at this; omega
    obtain ⟨f1, f2, f3, f4⟩ := b_at hq6
    refine CW_skip ?_
    refine CW_seq ?_
    refine CW_block ?_
    refine CW_seq ?_
    refine CW_region ?_
    refine OW_run' hE.ok 2 rfl ?_
    refine OW_as' 50 (.d (int ((97 + (q + 1) : Nat) : Int))) (by show AV.d (.lit (.int .i64 (IntKind.i64.wrap (97 + (((q + 1) : Nat) : Int))))) = _; rw [show (97 + (((q + 1) : Nat) : Int)) = ((97 + (q + 1) : Nat) : Int) by omega, wrapN (by omega)]; rfl) ?_
    refine OW_run' hE.ok 1 rfl ?_
    refine OW_as' 51 (.d (.lit (.int .u8 ((UInt8.ofNat (97 + (q + 1))).toNat : Int)))) (by show AV.d (.lit (.int .u8 (IntKind.u8.wrap ((97 + (q + 1) : Nat) : Int)))) = _; rw [wrapB5 (by omega)]) ?_
    refine OW_lits' hE rfl rfl rfl rfl rfl rfl rfl rfl rfl rfl rfl rfl ?_
    refine OW_loc' hE (loc_bytesD hE rfl rfl rfl rfl (bs := [UInt8.ofNat (97 + (q + 1))]) rfl rfl) rfl rfl rfl ?_
    refine OW_loc' hE (loc_concat hE rfl rfl rfl (by show 1 + 1 ≤ _; omega)) rfl rfl rfl ?_
    refine OW_as' 54 (.d (str (fnm (q + 1)))) (by rfl) ?_
    refine OW_run' hE.ok 1 rfl ?_
    refine OW_end rfl ?_
    refine CW_seq ?_
    refine CW_seq ?_
    refine CW_region ?_
    refine OW_run' hE.ok 3 rfl ?_
    refine OW_build' hE rfl rfl rfl rfl rfl ?_
    refine OW_callM' hE (tr []) (addOk (bN q).1 (bN q).2 (bC1 q) (bN_ok q)) rfl rfl rfl rfl rfl ⟨rfl, rfl, rfl, trivial⟩ rfl rfl ?_
    refine OW_as' 59 (.d (errC 63 0)) (by exact congrArg (fun z => AV.d (errC 63 z)) f1) ?_
    refine OW.le (show LE _ _ ⟨J, (sset (sset (sset (sset (sset (sset (sset noSlots 1 (.d (.lit (.int .u8 (b.toNat : Int))))) 5 (.ptr 40 0)) 7 (.d (int ((k : Nat) : Int)))) 8 (.d (str (fnm (q))))) 9 (.d (int ((q + 1 : Nat) : Int)))) 10 (.d (str (fnm (q + 1))))) 59 (.d (errC 63 0))), (hset (hset (hset noHeap 40 (some (.box 93 [.row 50, .row 51]))) 50 (some (.row 25 1 (((bAdd (bN q) (bC1 q))).1.map encS1)))) 51 (some (.row 37 7 (((bAdd (bN q) (bC1 q))).2.map encC))))⟩ from LE_sh (slh_set (v := .d (errC 63 0)) (slh_set (v := .d (str (fnm (q + 1)))) (slh_set (v := .d (int ((q + 1 : Nat) : Int))) (slh_set (v := .d (str (fnm (q)))) (slh_set (v := .d (int ((k : Nat) : Int))) (slh_set (v := .ptr 40 0) (slh_set (v := .d (.lit (.int .u8 (b.toNat : Int)))) (slh_no _ _) (by rfl) rfl) (by rfl) rfl) (by rfl) rfl) (by rfl) rfl) (by rfl) rfl) (by rfl) rfl) (by rfl) rfl) (hlh_set (hlh_set (hlh_set (hlh_no _ _) rfl rfl) rfl rfl) rfl rfl)) ?_
    refine OW_loc' hE (loc_errNe hE rfl rfl (EN := 63) (z := 0) rfl) rfl rfl rfl ?_
    refine OW_run' hE.ok 2 rfl ?_
    refine OW_build' hE rfl rfl rfl rfl rfl ?_
    refine OW_callM' hE (tr []) (addOk ((bAdd (bN q) (bC1 q))).1 ((bAdd (bN q) (bC1 q))).2 bC2 (bAdd_ok _ (bN_ok q))) rfl rfl rfl rfl rfl ⟨rfl, rfl, rfl, trivial⟩ rfl rfl ?_
    refine OW.le (show LE _ _ ⟨J, (sset (sset (sset (sset (sset (sset (sset (sset noSlots 1 (.d (.lit (.int .u8 (b.toNat : Int))))) 5 (.ptr 40 0)) 7 (.d (int ((k : Nat) : Int)))) 8 (.d (str (fnm (q))))) 9 (.d (int ((q + 1 : Nat) : Int)))) 10 (.d (str (fnm (q + 1))))) 61 (.d (boo false))) 64 (.d (errC 63 (bE (bAdd (bN q) (bC1 q)) bC2)))), (hset (hset (hset noHeap 40 (some (.box 93 [.row 50, .row 51]))) 50 (some (.row 25 1 (((bAdd (bAdd (bN q) (bC1 q)) bC2)).1.map encS1)))) 51 (some (.row 37 7 (((bAdd (bAdd (bN q) (bC1 q)) bC2)).2.map encC))))⟩ from LE_sh (slh_set (v := .d (errC 63 (bE (bAdd (bN q) (bC1 q)) bC2))) (slh_set (v := .d (boo false)) (slh_set (v := .d (str (fnm (q + 1)))) (slh_set (v := .d (int ((q + 1 : Nat) : Int))) (slh_set (v := .d (str (fnm (q)))) (slh_set (v := .d (int ((k : Nat) : Int))) (slh_set (v := .ptr 40 0) (slh_set (v := .d (.lit (.int .u8 (b.toNat : Int)))) (slh_no _ _) (by rfl) rfl) (by rfl) rfl) (by rfl) rfl) (by rfl) rfl) (by rfl) rfl) (by rfl) rfl) (by rfl) rfl) (by rfl) rfl) (hlh_set (hlh_set (hlh_set (hlh_no _ _) rfl rfl) rfl rfl) rfl rfl)) ?_
    refine OW_loc' hE (loc_errNe hE rfl rfl (EN := 63) (z := bE (bAdd (bN q) (bC1 q)) bC2) rfl) rfl rfl rfl ?_
    refine OW_run' hE.ok 2 rfl ?_
    refine OW_split' 67 rfl (fun h2 => ?_) (fun h2 => ?_)
    · skip
      have hq : q = 6 := by have := h2; have h1 : (bE (bAdd (bN q) (bC1 q)) bC2 == 0) = false := (by simpa using this); rw [h1] at f2; have := f2.symm; simp at this; omega
      refine OW_run' hE.ok 5 rfl ?_
      refine OW_end rfl ?_
      refine CW_true rfl ?_
      refine CW_seq ?_
      refine CW_region ?_
      refine OW_run' hE.ok 2 rfl ?_
      refine OW_as' 74 (.d (boo true)) (by exact congrArg (fun b => AV.d (boo b)) (by rw [hq]; rfl)) ?_
      refine OW_run' hE.ok 1 rfl ?_
      refine OW_end rfl ?_
      refine CW_ret ?_
      refine ⟨.inr rfl, rfl, ⟨_, rfl, rfl, ?_⟩, rfl⟩
      exact AVle.refl _
    · skip
      have hq : q < 6 := by have := h2; have h1 : (bE (bAdd (bN q) (bC1 q)) bC2 == 0) = true := (by simpa using this); rw [h1] at f2; have := f2.symm; simpa using this
      refine OW_run' hE.ok 1 rfl ?_
      refine OW_build' hE rfl rfl rfl rfl rfl ?_
      refine OW_callM' hE (tr []) (addOk ((bAdd (bAdd (bN q) (bC1 q)) bC2)).1 ((bAdd (bAdd (bN q) (bC1 q)) bC2)).2 bC3 (bAdd_ok _ (bAdd_ok _ (bN_ok q)))) rfl rfl rfl rfl rfl ⟨rfl, rfl, rfl, trivial⟩ rfl rfl ?_
      refine OW_as' 70 (.d (errC 63 0)) (by exact congrArg (fun z => AV.d (errC 63 z)) (f3 hq)) ?_
      refine OW.le (show LE _ _ ⟨J, (sset (sset (sset (sset (sset (sset (sset (sset noSlots 1 (.d (.lit (.int .u8 (b.toNat : Int))))) 5 (.ptr 40 0)) 7 (.d (int ((k : Nat) : Int)))) 8 (.d (str (fnm (q))))) 9 (.d (int ((q + 1 : Nat) : Int)))) 10 (.d (str (fnm (q + 1))))) 67 (.d (boo false))) 70 (.d (errC 63 0))), (hset (hset (hset noHeap 40 (some (.box 93 [.row 50, .row 51]))) 50 (some (.row 25 1 (((bN (q + 1))).1.map encS1)))) 51 (some (.row 37 7 (((bN (q + 1))).2.map encC))))⟩ from LE_sh (slh_set (v := .d (errC 63 0)) (slh_set (v := .d (boo false)) (slh_set (v := .d (str (fnm (q + 1)))) (slh_set (v := .d (int ((q + 1 : Nat) : Int))) (slh_set (v := .d (str (fnm (q)))) (slh_set (v := .d (int ((k : Nat) : Int))) (slh_set (v := .ptr 40 0) (slh_set (v := .d (.lit (.int .u8 (b.toNat : Int)))) (slh_no _ _) (by rfl) rfl) (by rfl) rfl) (by rfl) rfl) (by rfl) rfl) (by rfl) rfl) (by rfl) rfl) (by rfl) rfl) (by rfl) rfl) (hlh_set (hlh_set (hlh_set (hlh_no _ _) rfl rfl) rfl rfl) rfl rfl)) ?_
      refine OW_loc' hE (loc_errNe hE rfl rfl (EN := 63) (z := 0) rfl) rfl rfl rfl ?_
      refine OW_run' hE.ok 1 rfl ?_
      refine OW_end rfl ?_
      refine CW_false rfl ?_
      refine CW_skip ?_
      refine CW_region ?_
      refine OW_run' hE.ok 2 rfl ?_
      refine OW_end rfl ?_
      refine CW_region ?_
      refine OW_run' hE.ok 3 rfl ?_
      refine OW_end rfl ?_
      refine ⟨⟨q + 1, by omega⟩, LE_sh (slh_set (v := .d (int ((q + 1 + 1 : Nat) : Int))) (slh_set (v := .d (str (fnm (q + 1)))) (slh_set (v := .d (int ((k : Nat) : Int))) (slh_set (v := .ptr 40 0) (slh_set (v := .d (.lit (.int .u8 (b.toNat : Int)))) (slh_no _ _) (by rfl) rfl) (by rfl) rfl) (by rfl) rfl) (by rfl) rfl) (by show AV.d (.lit (.int .i64 (IntKind.i64.wrap (((q + 1 : Nat) : Int) + 1)))) = _; rw [wrap_succ (i := q + 1) (by omega)]; rfl) rfl) (hlh_set (hlh_set (hlh_set (hlh_no _ _) rfl rfl) rfl rfl) rfl rfl), by show k - (q + 1) < k - q; omega⟩
  · skip
    have hge : q = k := by have := h1; simp at this; omega
    obtain ⟨f1, f2, f3, f4⟩ := b_at hq6
    have hl1 : (bN q).1.length = 2 + 3 * q := by rw [(bN_ok q).len, f4]; omega
    refine CW_exit ?_
    show CW _ _ _ _
    refine CW_seq ?_
    refine CW.le (LE_freeze 50 24 rfl (by rw [List.length_map, hl1]; omega)) ?_
    refine CW.le (LE_freeze 51 88 rfl (by rw [List.length_map, f4]; omega)) ?_
    refine CW.le (LE_freezeBox 40 (ds := encCh (bN q).1 (bN q).2) rfl rfl) ?_
    refine CW.le (show LE _ _ ⟨J, (sset (sset (sset noSlots 1 (.d (.lit (.int .u8 (b.toNat : Int))))) 5 (.d (.iptr (encCh (bN q).1 (bN q).2)))) 8 (.d (str (fnm q)))), noHeap⟩ from LE_sh (slh_set (v := .d (str (fnm q))) (slh_set (v := .d (.iptr (encCh (bN q).1 (bN q).2))) (slh_set (v := .d (.lit (.int .u8 (b.toNat : Int)))) (slh_no _ _) (by rfl) rfl) (by rfl) rfl) (by rfl) rfl) (hlh_no _ _)) ?_
    obtain ⟨i, hi⟩ : ∃ i : Nat, i = b.toNat % (2 + 3 * q) := ⟨_, rfl⟩
    have hi2 : i < 3 * q + 2 := by rw [hi]; have := Nat.mod_lt b.toNat (show 0 < 2 + 3 * q by omega); omega
    have hub := b.toNat_lt
    have hq1 : 1 ≤ q := by omega
    refine CW_region ?_
    refine OW_run' hE.ok 2 rfl ?_
    refine OW_as' 77 (.d (int ((b.toNat : Nat) : Int))) (by show AV.d (.lit (.int .i64 (IntKind.i64.wrap ((b.toNat : Nat) : Int)))) = _; rw [wrapN (by omega)]; rfl) ?_
    refine OW_run' hE.ok 1 rfl ?_
    refine OW_call' hE ((by have hq := nowD (bN q).1 (bN q).2; rw [f4] at hq; exact hq)) rfl rfl rfl rfl rfl rfl rfl ?_
    refine OW_run' hE.ok 1 rfl ?_
    refine OW_as' 80 (.d (int ((2 + 3 * q : Nat) : Int))) (by show AV.d (.lit (.int .i64 (IntKind.i64.wrap (((1 + 3 * q : Nat) : Int) + 1)))) = _; rw [wrap_succ (by omega)]; exact congrArg (fun z : Nat => AV.d (int (z : Int))) (by omega)) ?_
    refine OW_loc' hE (loc_rem hE rfl rfl rfl (by omega)) rfl rfl rfl ?_
    refine OW_as' 81 (.d (int ((i : Nat) : Int))) (by rw [hi]; rfl) ?_
    refine OW_run' hE.ok 1 rfl ?_
    refine OW_end rfl ?_
    refine CW_seq ?_
    refine CW_region ?_
    refine OW_run' hE.ok 4 rfl ?_
    refine OW_call' hE ((by have hq := nowD (bN q).1 (bN q).2; rw [f4] at hq; exact hq)) rfl rfl rfl rfl rfl rfl rfl ?_
    refine OW_call' hE ((show Does _ _ _ _ (.tup [.d (str (r1 q i).1), .d (boo (r1 q i).2)]) from backD (bN q).1 (bN q).2 kA (fnm q) (i : Int) ((1 + 3 * q : Nat) : Int) (bN_ok q))) rfl rfl rfl rfl rfl rfl rfl ?_
    refine OW_run' hE.ok 5 rfl ?_
    refine OW_end rfl ?_
    refine CW_seq ?_
    refine CW_seq ?_
    refine CW_region ?_
    refine OW_run' hE.ok 2 rfl ?_
    refine OW_end rfl ?_
    refine CW_cond _ rfl (fun h3 => ?_) (fun h3 => ?_)
    · skip
      have hi0 : i = 0 := by have := h3; simp at this; omega
      obtain ⟨g1, g2⟩ := f_0 hq1 hq6
      refine CW_seq ?_
      refine CW_region ?_
      refine OW_run' hE.ok 2 rfl ?_
      refine OW_as' 94 (.d (boo true)) (by rw [hi0, g1]; rfl) ?_
      refine OW_run' hE.ok 1 rfl ?_
      refine OW_run' hE.ok 2 rfl ?_
      refine OW_as' 97 (.d (boo true)) (by rw [hi0]; exact congrArg (fun b => AV.d (boo b)) g2) ?_
      refine OW_run' hE.ok 1 rfl ?_
      refine OW_run' hE.ok 1 rfl ?_
      refine OW_end rfl ?_
      refine CW_ret ?_
      refine ⟨.inr rfl, rfl, ⟨_, rfl, rfl, ?_⟩, rfl⟩
      exact AVle.refl _
    · skip
      have hi0 : i ≠ 0 := by have := h3; simp at this; omega
      obtain ⟨g1, g2, g3, g4⟩ := f_1 hq1 hq6 hi2 hi0
      refine CW_skip ?_
      refine CW_seq ?_
      refine CW_region ?_
      refine OW_run' hE.ok 3 rfl ?_
      refine OW_call' hE ((by have hq := nowD (bN q).1 (bN q).2; rw [f4] at hq; exact hq)) rfl rfl rfl rfl rfl rfl rfl ?_
      refine OW_call' hE ((show Does _ _ _ _ (.tup [.d (str (r2 q i).1), .d (boo (r2 q i).2)]) from backD (bN q).1 (bN q).2 kB kX (i : Int) ((1 + 3 * q : Nat) : Int) (bN_ok q))) rfl rfl rfl rfl rfl rfl rfl ?_
      refine OW_run' hE.ok 5 rfl ?_
      refine OW_end rfl ?_
      refine CW_seq ?_
      refine CW_region ?_
      refine OW_run' hE.ok 2 rfl ?_
      refine OW_as' 108 (.d (int ((i + 1 : Nat) : Int))) (by show AV.d (.lit (.int .i64 (IntKind.i64.wrap (((i : Nat) : Int) + 1)))) = _; rw [wrap_succ (by omega)]; rfl) ?_
      refine OW_run' hE.ok 1 rfl ?_
      refine OW_as' 109 (.d (int (((i + 1) / 3 : Nat) : Int))) (by show AV.d (.lit (.int .i64 (IntKind.i64.wrap (((i + 1 : Nat) : Int).tdiv 3)))) = _; rw [show ((i + 1 : Nat) : Int).tdiv 3 = (((i + 1) / 3 : Nat) : Int) from rfl, wrapN (by omega)]; rfl) ?_
      refine OW_run' hE.ok 1 rfl ?_
      refine OW_as' 110 (.d (int ((97 + ((i + 1) / 3) : Nat) : Int))) (by show AV.d (.lit (.int .i64 (IntKind.i64.wrap (97 + ((((i + 1) / 3) : Nat) : Int))))) = _; rw [show (97 + ((((i + 1) / 3) : Nat) : Int)) = ((97 + ((i + 1) / 3) : Nat) : Int) by omega, wrapN (by omega)]; rfl) ?_
      refine OW_run' hE.ok 1 rfl ?_
      refine OW_as' 111 (.d (.lit (.int .u8 ((UInt8.ofNat (97 + ((i + 1) / 3))).toNat : Int)))) (by show AV.d (.lit (.int .u8 (IntKind.u8.wrap ((97 + ((i + 1) / 3) : Nat) : Int)))) = _; rw [wrapB5 (by omega)]) ?_
      refine OW_lits' hE rfl rfl rfl rfl rfl rfl rfl rfl rfl rfl rfl rfl ?_
      refine OW_loc' hE (loc_bytesD hE rfl rfl rfl rfl (bs := [UInt8.ofNat (97 + ((i + 1) / 3))]) rfl rfl) rfl rfl rfl ?_
      refine OW_loc' hE (loc_concat hE rfl rfl rfl (by show 1 + 1 ≤ _; omega)) rfl rfl rfl ?_
      refine OW_as' 114 (.d (str (fnm ((i + 1) / 3)))) (by rfl) ?_
      refine OW_run' hE.ok 1 rfl ?_
      refine OW_end rfl ?_
      refine CW_cutE (fun _ : Unit => ⟨J, (sset (sset (sset (sset (sset noSlots 12 (.d (str (r1 q i).1))) 13 (.d (boo (r1 q i).2))) 14 (.d (str (r2 q i).1))) 15 (.d (boo (r2 q i).2))) 16 (.d (str (expN i)))), noHeap⟩) (fun _ => True) ?_ ?_
      · skip
        refine CW_seq ?_
        refine CW_region ?_
        refine OW_run' hE.ok 2 rfl ?_
        refine OW_as' 116 (.d (int ((i - 1 : Nat) : Int))) (by show AV.d (.lit (.int .i64 (IntKind.i64.wrap (((i : Nat) : Int) - 1)))) = _; rw [show (((i : Nat) : Int) - 1) = ((i - 1 : Nat) : Int) by omega, wrapN (by omega)]; rfl) ?_
        refine OW_loc' hE (loc_rem hE rfl rfl rfl (by decide)) rfl rfl rfl ?_
        refine OW_as' 117 (.d (int (((i - 1) % 3 : Nat) : Int))) (by rfl) ?_
        refine OW_run' hE.ok 1 rfl ?_
        refine OW_end rfl ?_
        refine CW_cond _ rfl (fun h4 => ?_) (fun h4 => ?_)
        · skip
          have hm : ((((i - 1) % 3 : Nat) : Int) == 0) = true := h4
          have hexp : expN i = fnm ((i - 1) / 3) := by unfold expN; rw [hm]; rfl
          refine CW_region ?_
          refine OW_run' hE.ok 2 rfl ?_
          refine OW_as' 120 (.d (int ((i - 1 : Nat) : Int))) (by show AV.d (.lit (.int .i64 (IntKind.i64.wrap (((i : Nat) : Int) - 1)))) = _; rw [show (((i : Nat) : Int) - 1) = ((i - 1 : Nat) : Int) by omega, wrapN (by omega)]; rfl) ?_
          refine OW_run' hE.ok 1 rfl ?_
          refine OW_as' 121 (.d (int (((i - 1) / 3 : Nat) : Int))) (by show AV.d (.lit (.int .i64 (IntKind.i64.wrap (((i - 1 : Nat) : Int).tdiv 3)))) = _; rw [show ((i - 1 : Nat) : Int).tdiv 3 = (((i - 1) / 3 : Nat) : Int) from rfl, wrapN (by omega)]; rfl) ?_
          refine OW_run' hE.ok 1 rfl ?_
          refine OW_as' 122 (.d (int ((97 + ((i - 1) / 3) : Nat) : Int))) (by show AV.d (.lit (.int .i64 (IntKind.i64.wrap (97 + ((((i - 1) / 3) : Nat) : Int))))) = _; rw [show (97 + ((((i - 1) / 3) : Nat) : Int)) = ((97 + ((i - 1) / 3) : Nat) : Int) by omega, wrapN (by omega)]; rfl) ?_
          refine OW_run' hE.ok 1 rfl ?_
          refine OW_as' 123 (.d (.lit (.int .u8 ((UInt8.ofNat (97 + ((i - 1) / 3))).toNat : Int)))) (by show AV.d (.lit (.int .u8 (IntKind.u8.wrap ((97 + ((i - 1) / 3) : Nat) : Int)))) = _; rw [wrapB5 (by omega)]) ?_
          refine OW_lits' hE rfl rfl rfl rfl rfl rfl rfl rfl rfl rfl rfl rfl ?_
          refine OW_loc' hE (loc_bytesD hE rfl rfl rfl rfl (bs := [UInt8.ofNat (97 + ((i - 1) / 3))]) rfl rfl) rfl rfl rfl ?_
          refine OW_loc' hE (loc_concat hE rfl rfl rfl (by show 1 + 1 ≤ _; omega)) rfl rfl rfl ?_
          refine OW_as' 126 (.d (str (fnm ((i - 1) / 3)))) (by rfl) ?_
          refine OW_run' hE.ok 1 rfl ?_
          refine OW_end rfl ?_
          exact ⟨(), trivial, LE_sh (slh_set (v := .d (str (expN i))) (slh_set (v := .d (boo (r2 q i).2)) (slh_set (v := .d (str (r2 q i).1)) (slh_set (v := .d (boo (r1 q i).2)) (slh_set (v := .d (str (r1 q i).1)) (slh_no _ _) (by rfl) rfl) (by rfl) rfl) (by rfl) rfl) (by rfl) rfl) (by exact congrArg (fun z => AV.d (str z)) hexp.symm) rfl) (hlh_no _ _)⟩
        · skip
          have hm : ((((i - 1) % 3 : Nat) : Int) == 0) = false := h4
          have hexp : expN i = fnm ((i + 1) / 3) := by unfold expN; rw [hm]; rfl
          refine CW_skip ?_
          exact ⟨(), trivial, LE_sh (slh_set (v := .d (str (expN i))) (slh_set (v := .d (boo (r2 q i).2)) (slh_set (v := .d (str (r2 q i).1)) (slh_set (v := .d (boo (r1 q i).2)) (slh_set (v := .d (str (r1 q i).1)) (slh_no _ _) (by rfl) rfl) (by rfl) rfl) (by rfl) rfl) (by rfl) rfl) (by exact congrArg (fun z => AV.d (str z)) hexp.symm) rfl) (hlh_no _ _)⟩
      · skip
        rintro _ _
        refine CW_as' 12 (.d (str (expN i))) (congrArg (fun z => AV.d (str z)) g2) ?_
        refine CW_as' 13 (.d (boo true)) (congrArg (fun z => AV.d (boo z)) g1) ?_
        refine CW_as' 15 (.d (boo true)) (congrArg (fun z => AV.d (boo z)) g3) ?_
        refine CW_seq ?_
        refine CW_region ?_
        refine OW_run' hE.ok 5 rfl ?_
        refine OW_as' 131 (.d (boo true)) (by exact congrArg (fun b => AV.d (boo b)) (same_refl (expN i))) ?_
        refine OW_run' hE.ok 1 rfl ?_
        refine OW_run' hE.ok 7 rfl ?_
        refine OW_split' 139 rfl (fun h5 => ?_) (fun h5 => ?_)
        · skip
          refine OW_run' hE.ok 5 rfl ?_
          refine OW_end rfl ?_
          refine CW_ret ?_
          refine ⟨.inr rfl, rfl, ⟨_, rfl, rfl, ?_⟩, rfl⟩
          exact AVle.refl _
        · skip
          have hy : same (r2 q i).1 kY = true := g4.resolve_left (by have := h5; intro h; rw [show same (r2 q i).1 kX = false from this] at h; cases h)
          refine OW_run' hE.ok 1 rfl ?_
          refine OW_run' hE.ok 1 rfl ?_
          refine OW_as' 141 (.d (boo true)) (by exact congrArg (fun b => AV.d (boo b)) hy) ?_
          refine OW_run' hE.ok 3 rfl ?_
          refine OW_end rfl ?_
          refine CW_ret ?_
          refine ⟨.inr rfl, rfl, ⟨_, rfl, rfl, ?_⟩, rfl⟩
          exact AVle.refl _
end Go.Proofs.Ytchpllgeahnmmaa
