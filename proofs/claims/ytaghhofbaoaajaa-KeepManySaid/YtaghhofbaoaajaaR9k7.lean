/- Parts of an abstract logic over the kit's walks, and walks in it: R9k7. -/
import Derived.Test.YtaghhofbaoaajaaR9kp
import Derived.Test.YtaghhofbaoaajaaRxe
import Derived.Test.YtaghhofbaoaajaaKep2
import Derived.Test.YtaghhofbaoaajaaAg
namespace Go.Proofs.Ytaghhofbaoaajaa
open Go Go.AL
set_option linter.unusedVariables false
set_option linter.unusedSimpArgs false
set_option maxHeartbeats 4000000
theorem known17Ok  : Does Try.prog 12 [] noHeap (.d (boo true)) := by
  refine Does_of T_ok mixed (N := 75) Try.func12 rfl rfl rfl (by rfl) fun F n Z hE hF J => ?_
  have q1 := addOk bS pKa [] 3 (evT 1 7) pKa_is (by decide)
  obtain ⟨t1, ht1, hk1⟩ := k17a
  rw [hk1, show keptR [⟨3, t1⟩] = [⟨3, t1⟩] from rfl, show keptE [⟨3, t1⟩] = 0 from rfl] at q1
  have q2 := addOk bS pKa [⟨3, t1⟩] 4 (evT 4 7) pKa_is (by show (1 : Nat) ≤ 1000; decide)
  obtain ⟨t2, hk2⟩ := k17b ht1
  rw [hk2, show keptR [⟨4, t2⟩] = [⟨4, t2⟩] from rfl, show keptE [⟨4, t2⟩] = 0 from rfl] at q2
  have q3 := sinceOk [⟨4, t2⟩] 9
  rw [show sinceX [⟨4, t2⟩] 9 = 4 from rfl] at q3
  have q4 := (Does_le (AVles.cons (AVle.nilSl 4 64) (AVles.cons (AVle.refl _) AVles.nil)) (sinceOk [] 9))
  rw [show sinceX [] 9 = 9 from rfl] at q4
  have q5 := fromOk [⟨3, t1⟩] 4 (by show (1 : Nat) ≤ 1000; decide)
  rw [k17c] at q5
  have q6 := fromOk [⟨3, t1⟩] 3 (by show (1 : Nat) ≤ 1000; decide)
  rw [k17d] at q6
  have q0 := (Does_le (AVles.cons (AVle.refl _) (AVles.cons (AVle.refl _) (AVles.cons (AVle.nilSl 4 64) (AVles.cons (AVle.refl _) (AVles.cons (AVle.refl _) AVles.nil))))) q1)
  refine CW_seq ?_
  refine CW_region ?_
  refine OW_run' hE.ok 1 rfl ?_
  refine OW_end rfl ?_
  refine CW_seq ?_
  refine CW_region ?_
  refine OW_call' hE (elOf (ch 97) (ch 116)) rfl rfl rfl rfl rfl rfl rfl ?_
  refine OW_lits' hE rfl rfl rfl rfl rfl rfl rfl rfl rfl rfl rfl rfl ?_
  refine OW_build' hE rfl rfl rfl rfl rfl ?_
  refine OW_alloc' hE 1 rfl rfl rfl rfl rfl rfl rfl ?_
  refine OW_store' hE rfl rfl rfl rfl rfl rfl rfl rfl rfl rfl rfl rfl ?_
  refine OW.le (LE_freezeBox 1 (ds := encP pKa) rfl rfl) ?_
  refine OW_end rfl ?_
  refine CW_seq ?_
  refine CW_drawn' hE 8 (by decide +kernel) ?_
  refine HW_call hE (baseOk) rfl rfl rfl rfl rfl rfl rfl rfl ?_
  refine HW_run hE 1 rfl rfl ?_
  refine HW_call hE (evOf 1 7) rfl rfl rfl rfl rfl rfl rfl rfl ?_
  refine HW_call hE (q0) rfl rfl rfl rfl rfl rfl rfl rfl ?_
  refine HW_run hE 4 rfl rfl ?_
  refine HW_end ?_
  refine OW_run' hE.ok 1 rfl ?_
  refine OW_end rfl ?_
  refine CW_seq ?_
  refine CW.le (show LE _ _ ⟨J, (sset (sset (sset noSlots 1 (.d (.iptr (encP pKa)))) 2 (.d (SK [⟨3, t1⟩]))) 3 (.d (errC 62 0))), noHeap⟩ from LE_sh (slh_set (v := .d (errC 62 0)) (slh_set (v := .d (SK [⟨3, t1⟩])) (slh_set (v := .d (.iptr (encP pKa))) (slh_no _ _) (by rfl) rfl) (by rfl) rfl) (by rfl) rfl) (hlh_no _ _)) ?_
  refine CW_drawn' hE 9 (by decide +kernel) ?_
  refine HW_call hE (baseOk) rfl rfl rfl rfl rfl rfl rfl rfl ?_
  refine HW_run hE 2 rfl rfl ?_
  refine HW_call hE (evOf 4 7) rfl rfl rfl rfl rfl rfl rfl rfl ?_
  refine HW_call hE (q2) rfl rfl rfl rfl rfl rfl rfl rfl ?_
  refine HW_run hE 4 rfl rfl ?_
  refine HW_end ?_
  refine OW_run' hE.ok 1 rfl ?_
  refine OW_end rfl ?_
  refine CW_seq ?_
  refine CW.le (show LE _ _ ⟨J, (sset (sset (sset (sset noSlots 2 (.d (SK [⟨3, t1⟩]))) 3 (.d (errC 62 0))) 4 (.d (SK [⟨4, t2⟩]))) 5 (.d (errC 62 0))), noHeap⟩ from LE_sh (slh_set (v := .d (errC 62 0)) (slh_set (v := .d (SK [⟨4, t2⟩])) (slh_set (v := .d (errC 62 0)) (slh_set (v := .d (SK [⟨3, t1⟩])) (slh_no _ _) (by rfl) rfl) (by rfl) rfl) (by rfl) rfl) (by rfl) rfl) (hlh_no _ _)) ?_
  refine CW_region ?_
  refine OW_run' hE.ok 1 rfl ?_
  refine OW_loc' hE (loc_errEq hE rfl rfl (EN := 62) (c := 0) rfl) rfl rfl rfl ?_
  refine OW_run' hE.ok 7 rfl ?_
  refine OW_loc' hE (loc_indexAddr hE rfl rfl rfl rfl rfl (by omega) (x := encK ⟨3, t1⟩) rfl) rfl rfl rfl ?_
  refine OW_run' hE.ok 6 rfl ?_
  refine OW_loc' hE (loc_errEq hE rfl rfl (EN := 62) (c := 0) rfl) rfl rfl rfl ?_
  refine OW_run' hE.ok 8 rfl ?_
  refine OW_loc' hE (loc_indexAddr hE rfl rfl rfl rfl rfl (by omega) (x := encK ⟨4, t2⟩) rfl) rfl rfl rfl ?_
  refine OW_run' hE.ok 6 rfl ?_
  refine OW_call' hE (q3) rfl rfl rfl rfl rfl rfl rfl ?_
  refine OW_run' hE.ok 3 rfl ?_
  refine OW_call' hE (q4) rfl rfl rfl rfl rfl rfl rfl ?_
  refine OW_run' hE.ok 4 rfl ?_
  refine OW_call' hE (q5) rfl rfl rfl rfl rfl rfl rfl ?_
  refine OW_run' hE.ok 5 rfl ?_
  refine OW_call' hE (q6) rfl rfl rfl rfl rfl rfl rfl ?_
  refine OW_run' hE.ok 4 rfl ?_
  refine OW_end rfl ?_
  refine CW_ret ?_
  refine ⟨.inr rfl, rfl, ⟨[.d (boo true)], rfl, rfl, ?_⟩, rfl⟩
  exact AVle.refl _
end Go.Proofs.Ytaghhofbaoaajaa
