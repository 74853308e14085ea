/- Parts of an abstract logic over the kit's walks, and walks in it: R9km. -/
import Derived.Test.YtaghhofbaoaajaaR9k7
import Derived.Test.YtaghhofbaoaajaaRxb
import Derived.Test.YtaghhofbaoaajaaAg
namespace Go.Proofs.Ytaghhofbaoaajaa
open Go Go.AL
set_option linter.unusedVariables false
set_option linter.unusedSimpArgs false
set_option maxHeartbeats 4000000
theorem keepManyOk (n1 : UInt8) : Does Try.prog 4 [.d (.lit (.int .u8 (n1.toNat : Int)))] noHeap (.d (boo true)) := by
  refine Does_of T_ok mixed (N := 80) Try.func4 rfl rfl rfl (by rfl) fun F n Z hE hF J => ?_
  obtain ⟨kk, hkk⟩ : ∃ kk, n1.toNat % 50 = kk := ⟨_, rfl⟩
  have hk50 : kk < 50 := by omega
  refine CW_seq ?_
  refine CW_region ?_
  refine OW_run' hE.ok 1 rfl ?_
  refine OW_end rfl ?_
  refine CW_seq ?_
  refine CW_seq ?_
  refine CW_region ?_
  refine OW_call' hE (known17Ok) rfl rfl rfl rfl rfl rfl rfl ?_
  refine OW_run' hE.ok 1 rfl ?_
  refine OW_end rfl ?_
  refine CW_false rfl ?_
  refine CW_skip ?_
  refine CW_seq ?_
  refine CW_region ?_
  refine OW_call' hE (elOf (ch 97) (ch 116)) rfl rfl rfl rfl rfl rfl rfl ?_
  refine OW_lits' hE rfl rfl rfl rfl rfl rfl rfl rfl rfl rfl rfl rfl ?_
  refine OW_build' hE rfl rfl rfl rfl rfl ?_
  refine OW_alloc' hE 1 rfl rfl rfl rfl rfl rfl rfl ?_
  refine OW_store' hE rfl rfl rfl rfl rfl rfl rfl rfl rfl rfl rfl rfl ?_
  refine OW.le (LE_freezeBox 1 (ds := encP pKb) rfl rfl) ?_
  refine OW_end rfl ?_
  refine CW_seq ?_
  refine CW_region ?_
  refine OW_run' hE.ok 1 rfl ?_
  refine OW.le (LE_slotLe 4 (y := .d (SK (keepT kE 0))) rfl (AVle.nilSl 4 64)) ?_
  refine OW_end rfl ?_
  refine CW_seq ?_
  refine CW_region ?_
  refine OW_run' hE.ok 3 rfl ?_
  refine OW_as' 18 (.d (int ((kk : Nat) : Int))) (by show AV.d (.lit (.int .i64 (IntKind.i64.wrap ((n1.toNat % 50 : Nat) : Int)))) = _; rw [wrapN (by omega), hkk]; rfl) ?_
  refine OW_run' hE.ok 1 rfl ?_
  refine OW_end rfl ?_
  refine CW_seq ?_
  refine CW_seq ?_
  refine CW_region ?_
  refine OW_run' hE.ok 1 rfl ?_
  refine OW_end rfl ?_
  refine CW_block ?_
  refine CW_loop (σ := {i : Nat // i ≤ kk}) (fun i => ⟨J, (sset (sset (sset (sset noSlots 3 (.d (.iptr (encP pKb)))) 4 (.d (SK (keepT kE (min i.1 40))))) 5 (.d (int ((kk : Nat) : Int)))) 6 (.d (int ((i.1 : Nat) : Int)))), noHeap⟩) (fun i => kk - i.1) ⟨0, Nat.zero_le _⟩ (LE_sh (slh_set (slh_set (slh_set (slh_set (slh_no _ _) rfl rfl) rfl rfl) rfl rfl) rfl rfl) (hlh_no _ _)) fun ⟨i, hi⟩ => ?_
  rcases Nat.lt_or_ge i 40 with hlo | hhi
  · skip
    skip
    refine CW_seq ?_
    refine CW_seq ?_
    refine CW.le (show LE _ _ ⟨J, (sset (sset (sset (sset noSlots 3 (.d (.iptr (encP pKb)))) 4 (.d (SK (keepT kE i)))) 5 (.d (int ((kk : Nat) : Int)))) 6 (.d (int ((i : Nat) : Int)))), noHeap⟩ from LE_sh (slh_set (v := .d (int ((i : Nat) : Int))) (slh_set (v := .d (int ((kk : Nat) : Int))) (slh_set (v := .d (SK (keepT kE i))) (slh_set (v := .d (.iptr (encP pKb))) (slh_no _ _) (by rfl) rfl) (by exact (congrArg (fun z : Nat => AV.d (SK (keepT kE z))) (show min i 40 = i by omega))) rfl) (by rfl) rfl) (by rfl) rfl) (hlh_no _ _)) ?_
    refine CW_region ?_
    refine OW_run' hE.ok 3 rfl ?_
    refine OW_end rfl ?_
    refine CW_cond _ rfl (fun h1 => ?_) (fun h1 => ?_)
    · skip
      have hlt : i < kk := by have := h1; simp at this; omega
      refine CW_skip ?_
      refine CW_seq ?_
      refine CW_block ?_
      refine CW_seq ?_
      have q := addOk bS pKb (keepT kE i) ((i : Nat) : Int) (evT 1 0) pKb_is (by rw [keepT_len]; omega)
      rw [(many_in hlo).1, (many_in hlo).2] at q
      refine CW_drawn' hE 10 (by decide +kernel) ?_
      refine HW_call hE (baseOk) rfl rfl rfl rfl rfl rfl rfl rfl ?_
      refine HW_run hE 3 rfl rfl ?_
      refine HW_call hE (evOf 1 0) rfl rfl rfl rfl rfl rfl rfl rfl ?_
      refine HW_call hE (q) rfl rfl rfl rfl rfl rfl rfl rfl ?_
      refine HW_run hE 4 rfl rfl ?_
      refine HW_end ?_
      refine OW_run' hE.ok 1 rfl ?_
      refine OW_end rfl ?_
      refine CW_seq ?_
      refine CW_seq ?_
      refine CW.le (show LE _ _ ⟨J, (sset (sset (sset (sset (sset (sset noSlots 3 (.d (.iptr (encP pKb)))) 4 (.d (SK (keepT kE i)))) 5 (.d (int ((kk : Nat) : Int)))) 6 (.d (int ((i : Nat) : Int)))) 7 (.d (SK (keepT kE (i + 1))))) 8 (.d (errC 62 0))), noHeap⟩ from LE_sh (slh_set (v := .d (errC 62 0)) (slh_set (v := .d (SK (keepT kE (i + 1)))) (slh_set (v := .d (int ((i : Nat) : Int))) (slh_set (v := .d (int ((kk : Nat) : Int))) (slh_set (v := .d (SK (keepT kE i))) (slh_set (v := .d (.iptr (encP pKb))) (slh_no _ _) (by rfl) rfl) (by rfl) rfl) (by rfl) rfl) (by rfl) rfl) (by rfl) rfl) (by rfl) rfl) (hlh_no _ _)) ?_
      refine CW_region ?_
      refine OW_run' hE.ok 1 rfl ?_
      refine OW_loc' hE (loc_errEq hE rfl rfl (EN := 62) (c := 0) rfl) rfl rfl rfl ?_
      refine OW_run' hE.ok 2 rfl ?_
      refine OW_as' 36 (.d (boo true)) (by exact congrArg (fun z => AV.d (boo z)) (decide_eq_true (show ((i : Nat) : Int) < 40 by omega))) ?_
      refine OW_run' hE.ok 1 rfl ?_
      refine OW_run' hE.ok 2 rfl ?_
      refine OW_loc' hE (loc_errNe hE rfl rfl (EN := 62) (c := 0) rfl) rfl rfl rfl ?_
      refine OW_run' hE.ok 12 rfl ?_
      refine OW_end rfl ?_
      refine CW_false rfl ?_
      refine CW_skip ?_
      refine CW_seq ?_
      refine CW_region ?_
      refine OW_run' hE.ok 1 rfl ?_
      refine OW_loc' hE (loc_errEq hE rfl rfl (EN := 62) (c := 0) rfl) rfl rfl rfl ?_
      refine OW_end rfl ?_
      refine CW_true rfl ?_
      refine CW_region ?_
      refine OW_run' hE.ok 2 rfl ?_
      refine OW_end rfl ?_
      refine CW_region ?_
      refine OW_run' hE.ok 3 rfl ?_
      refine OW_end rfl ?_
      refine ⟨⟨i + 1, by omega⟩, LE_sh (slh_set (v := .d (int ((i + 1 : Nat) : Int))) (slh_set (v := .d (int ((kk : Nat) : Int))) (slh_set (v := .d (SK (keepT kE (min (i + 1) 40)))) (slh_set (v := .d (.iptr (encP pKb))) (slh_no _ _) (by rfl) rfl) (by exact (congrArg (fun z : Nat => AV.d (SK (keepT kE z))) (show i + 1 = min (i + 1) 40 by omega))) rfl) (by rfl) rfl) (by show AV.d (.lit (.int .i64 (IntKind.i64.wrap ((i : Int) + 1)))) = _; rw [wrap_succ (by omega)]; rfl) rfl) (hlh_no _ _), by show kk - (i + 1) < kk - i; omega⟩
    · skip
      have hge : i = kk := by have := h1; simp at this; omega
      refine CW_exit ?_
      show CW _ _ _ _
      refine CW_seq ?_
      have q9 := addOk bS pKb (keepT kE i) ((kk : Nat) : Int) (evT 7 0) pKb_is (by rw [keepT_len]; omega)
      obtain ⟨t2, hk2⟩ := many_end i ((kk : Nat) : Int)
      rw [hk2, show keptR [⟨((kk : Nat) : Int), t2⟩] = [⟨((kk : Nat) : Int), t2⟩] from rfl, show keptE [⟨((kk : Nat) : Int), t2⟩] = 0 from rfl] at q9
      refine CW_drawn' hE 10 (by decide +kernel) ?_
      refine HW_call hE (baseOk) rfl rfl rfl rfl rfl rfl rfl rfl ?_
      refine HW_run hE 3 rfl rfl ?_
      refine HW_call hE (evOf 7 0) rfl rfl rfl rfl rfl rfl rfl rfl ?_
      refine HW_call hE (q9) rfl rfl rfl rfl rfl rfl rfl rfl ?_
      refine HW_run hE 4 rfl rfl ?_
      refine HW_end ?_
      refine OW_run' hE.ok 1 rfl ?_
      refine OW_end rfl ?_
      refine CW_seq ?_
      refine CW.le (show LE _ _ ⟨J, (sset (sset (sset noSlots 5 (.d (int ((kk : Nat) : Int)))) 9 (.d (SK [⟨((kk : Nat) : Int), t2⟩]))) 10 (.d (errC 62 0))), noHeap⟩ from LE_sh (slh_set (v := .d (errC 62 0)) (slh_set (v := .d (SK [⟨((kk : Nat) : Int), t2⟩])) (slh_set (v := .d (int ((kk : Nat) : Int))) (slh_no _ _) (by rfl) rfl) (by rfl) rfl) (by rfl) rfl) (hlh_no _ _)) ?_
      refine CW_region ?_
      refine OW_run' hE.ok 1 rfl ?_
      refine OW_loc' hE (loc_errEq hE rfl rfl (EN := 62) (c := 0) rfl) rfl rfl rfl ?_
      refine OW_run' hE.ok 7 rfl ?_
      refine OW_loc' hE (loc_indexAddr hE rfl rfl rfl rfl rfl (by omega) (x := encK ⟨((kk : Nat) : Int), t2⟩) rfl) rfl rfl rfl ?_
      refine OW_run' hE.ok 3 rfl ?_
      refine OW_run' hE.ok 1 rfl ?_
      refine OW_as' 78 (.d (boo true)) (by exact congrArg (fun z => AV.d (boo z)) (beq_self_eq_true ((kk : Nat) : Int))) ?_
      refine OW_run' hE.ok 2 rfl ?_
      refine OW_end rfl ?_
      refine CW_ret ?_
      refine ⟨.inr rfl, rfl, ⟨[.d (boo true)], rfl, rfl, ?_⟩, rfl⟩
      exact AVle.refl _
  · skip
    skip
    refine CW_seq ?_
    refine CW_seq ?_
    refine CW.le (show LE _ _ ⟨J, (sset (sset (sset (sset noSlots 3 (.d (.iptr (encP pKb)))) 4 (.d (SK (keepT kE 40)))) 5 (.d (int ((kk : Nat) : Int)))) 6 (.d (int ((i : Nat) : Int)))), noHeap⟩ from LE_sh (slh_set (v := .d (int ((i : Nat) : Int))) (slh_set (v := .d (int ((kk : Nat) : Int))) (slh_set (v := .d (SK (keepT kE 40))) (slh_set (v := .d (.iptr (encP pKb))) (slh_no _ _) (by rfl) rfl) (by exact (congrArg (fun z : Nat => AV.d (SK (keepT kE z))) (show min i 40 = 40 by omega))) rfl) (by rfl) rfl) (by rfl) rfl) (hlh_no _ _)) ?_
    refine CW_region ?_
    refine OW_run' hE.ok 3 rfl ?_
    refine OW_end rfl ?_
    refine CW_cond _ rfl (fun h2 => ?_) (fun h2 => ?_)
    · skip
      have hlt : i < kk := by have := h2; simp at this; omega
      refine CW_skip ?_
      refine CW_seq ?_
      refine CW_block ?_
      refine CW_seq ?_
      have q := addOk bS pKb (keepT kE 40) ((i : Nat) : Int) (evT 1 0) pKb_is (by rw [keepT_len]; omega)
      rw [(many_out ((i : Nat) : Int)).1, (many_out ((i : Nat) : Int)).2] at q
      refine CW_drawn' hE 10 (by decide +kernel) ?_
      refine HW_call hE (baseOk) rfl rfl rfl rfl rfl rfl rfl rfl ?_
      refine HW_run hE 3 rfl rfl ?_
      refine HW_call hE (evOf 1 0) rfl rfl rfl rfl rfl rfl rfl rfl ?_
      refine HW_call hE (q) rfl rfl rfl rfl rfl rfl rfl rfl ?_
      refine HW_run hE 4 rfl rfl ?_
      refine HW_end ?_
      refine OW_run' hE.ok 1 rfl ?_
      refine OW_end rfl ?_
      refine CW_seq ?_
      refine CW_seq ?_
      refine CW.le (show LE _ _ ⟨J, (sset (sset (sset (sset (sset (sset noSlots 3 (.d (.iptr (encP pKb)))) 4 (.d (SK (keepT kE 40)))) 5 (.d (int ((kk : Nat) : Int)))) 6 (.d (int ((i : Nat) : Int)))) 7 (.d (SK ([] : List Kp)))) 8 (.d (errC 62 18))), noHeap⟩ from LE_sh (slh_set (v := .d (errC 62 18)) (slh_set (v := .d (SK ([] : List Kp))) (slh_set (v := .d (int ((i : Nat) : Int))) (slh_set (v := .d (int ((kk : Nat) : Int))) (slh_set (v := .d (SK (keepT kE 40))) (slh_set (v := .d (.iptr (encP pKb))) (slh_no _ _) (by rfl) rfl) (by rfl) rfl) (by rfl) rfl) (by rfl) rfl) (by rfl) rfl) (by rfl) rfl) (hlh_no _ _)) ?_
      refine CW_region ?_
      refine OW_run' hE.ok 1 rfl ?_
      refine OW_loc' hE (loc_errEq hE rfl rfl (EN := 62) (c := 18) rfl) rfl rfl rfl ?_
      refine OW_run' hE.ok 2 rfl ?_
      refine OW_as' 36 (.d (boo false)) (by exact congrArg (fun z => AV.d (boo z)) (decide_eq_false (show ¬ ((i : Nat) : Int) < 40 by omega))) ?_
      refine OW_run' hE.ok 1 rfl ?_
      refine OW_run' hE.ok 2 rfl ?_
      refine OW_loc' hE (loc_errNe hE rfl rfl (EN := 62) (c := 18) rfl) rfl rfl rfl ?_
      refine OW_run' hE.ok 3 rfl ?_
      refine OW_call' hE (errIs 18 18) rfl rfl rfl rfl rfl rfl rfl ?_
      refine OW_run' hE.ok 8 rfl ?_
      refine OW_end rfl ?_
      refine CW_false rfl ?_
      refine CW_skip ?_
      refine CW_seq ?_
      refine CW_region ?_
      refine OW_run' hE.ok 1 rfl ?_
      refine OW_loc' hE (loc_errEq hE rfl rfl (EN := 62) (c := 18) rfl) rfl rfl rfl ?_
      refine OW_end rfl ?_
      refine CW_false rfl ?_
      refine CW_skip ?_
      refine CW_region ?_
      refine OW_run' hE.ok 3 rfl ?_
      refine OW_end rfl ?_
      refine ⟨⟨i + 1, by omega⟩, LE_sh (slh_set (v := .d (int ((i + 1 : Nat) : Int))) (slh_set (v := .d (int ((kk : Nat) : Int))) (slh_set (v := .d (SK (keepT kE (min (i + 1) 40)))) (slh_set (v := .d (.iptr (encP pKb))) (slh_no _ _) (by rfl) rfl) (by exact (congrArg (fun z : Nat => AV.d (SK (keepT kE z))) (show 40 = min (i + 1) 40 by omega))) rfl) (by rfl) rfl) (by show AV.d (.lit (.int .i64 (IntKind.i64.wrap ((i : Int) + 1)))) = _; rw [wrap_succ (by omega)]; rfl) rfl) (hlh_no _ _), by show kk - (i + 1) < kk - i; omega⟩
    · skip
      have hge : i = kk := by have := h2; simp at this; omega
      refine CW_exit ?_
      show CW _ _ _ _
      refine CW_seq ?_
      have q9 := addOk bS pKb (keepT kE 40) ((kk : Nat) : Int) (evT 7 0) pKb_is (by rw [keepT_len]; omega)
      obtain ⟨t2, hk2⟩ := many_end 40 ((kk : Nat) : Int)
      rw [hk2, show keptR [⟨((kk : Nat) : Int), t2⟩] = [⟨((kk : Nat) : Int), t2⟩] from rfl, show keptE [⟨((kk : Nat) : Int), t2⟩] = 0 from rfl] at q9
      refine CW_drawn' hE 10 (by decide +kernel) ?_
      refine HW_call hE (baseOk) rfl rfl rfl rfl rfl rfl rfl rfl ?_
      refine HW_run hE 3 rfl rfl ?_
      refine HW_call hE (evOf 7 0) rfl rfl rfl rfl rfl rfl rfl rfl ?_
      refine HW_call hE (q9) rfl rfl rfl rfl rfl rfl rfl rfl ?_
      refine HW_run hE 4 rfl rfl ?_
      refine HW_end ?_
      refine OW_run' hE.ok 1 rfl ?_
      refine OW_end rfl ?_
      refine CW_seq ?_
      refine CW.le (show LE _ _ ⟨J, (sset (sset (sset noSlots 5 (.d (int ((kk : Nat) : Int)))) 9 (.d (SK [⟨((kk : Nat) : Int), t2⟩]))) 10 (.d (errC 62 0))), noHeap⟩ from LE_sh (slh_set (v := .d (errC 62 0)) (slh_set (v := .d (SK [⟨((kk : Nat) : Int), t2⟩])) (slh_set (v := .d (int ((kk : Nat) : Int))) (slh_no _ _) (by rfl) rfl) (by rfl) rfl) (by rfl) rfl) (hlh_no _ _)) ?_
      refine CW_region ?_
      refine OW_run' hE.ok 1 rfl ?_
      refine OW_loc' hE (loc_errEq hE rfl rfl (EN := 62) (c := 0) rfl) rfl rfl rfl ?_
      refine OW_run' hE.ok 7 rfl ?_
      refine OW_loc' hE (loc_indexAddr hE rfl rfl rfl rfl rfl (by omega) (x := encK ⟨((kk : Nat) : Int), t2⟩) rfl) rfl rfl rfl ?_
      refine OW_run' hE.ok 3 rfl ?_
      refine OW_run' hE.ok 1 rfl ?_
      refine OW_as' 78 (.d (boo true)) (by exact congrArg (fun z => AV.d (boo z)) (beq_self_eq_true ((kk : Nat) : Int))) ?_
      refine OW_run' hE.ok 2 rfl ?_
      refine OW_end rfl ?_
      refine CW_ret ?_
      refine ⟨.inr rfl, rfl, ⟨[.d (boo true)], rfl, rfl, ?_⟩, rfl⟩
      exact AVle.refl _
end Go.Proofs.Ytaghhofbaoaajaa
