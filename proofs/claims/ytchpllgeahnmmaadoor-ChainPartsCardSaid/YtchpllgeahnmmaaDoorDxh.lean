/- Parts of an abstract logic over the kit's walks, and walks in it: D7ce2, D7cn. -/
import Derived.Test.YtchpllgeahnmmaaDoorDxf
import Derived.Test.YtchpllgeahnmmaaDoorCh
namespace Go.Proofs.YtchpllgeahnmmaaDoor
open Go Go.AL
set_option linter.unusedVariables false
set_option linter.unusedSimpArgs false
set_option maxHeartbeats 4000000
theorem newErr (s : List Ty) (l : List Chg) (hs : isSchema s = true) (hz : newE s l ≠ 0) : Does Tryd.prog 27 [argS s, .d (.sl 7 88 (l.map encC))] noHeap (.tup [.d (.lit (.pointer none)), .d (errC 74 (newE s l))]) := by
 refine Does_of T_ok mixed (N := 30) Tryd.func27 rfl rfl rfl (by rfl) fun F n Z hE hF J => ?_
 refine CW_seq ?_
 refine CW_region ?_
 refine OW_run' hE.ok 1 rfl ?_
 refine OW_alloc' hE 1 rfl rfl rfl rfl rfl rfl rfl ?_
 refine OW_alloc' hE 2 rfl rfl rfl rfl rfl rfl rfl ?_
 refine OW_end rfl ?_
 refine CW_seq ?_
 refine CW_seq ?_
 refine CW_region ?_
 refine OW_run' hE.ok 1 rfl ?_
 refine OW_call' hE ((by have hq := isOk s; rw [hs] at hq; exact hq)) rfl rfl rfl rfl rfl rfl rfl ?_
 refine OW_run' hE.ok 1 rfl ?_
 refine OW_end rfl ?_
 refine CW_false rfl ?_
 refine CW_skip ?_
 refine CW_seq ?_
 refine CW_region ?_
 refine OW_run' hE.ok 1 rfl ?_
 refine OW_call' hE (ccopyOk s) rfl rfl rfl rfl rfl rfl rfl ?_
 refine OW_litsOwn' hE 50 rfl rfl rfl rfl rfl rfl rfl rfl rfl rfl rfl rfl ?_
 refine OW_build' hE rfl rfl rfl rfl rfl ?_
 refine OW_box' hE 40 rfl rfl rfl rfl rfl rfl ?_
 refine OW_alloc' hE 3 rfl rfl rfl rfl rfl rfl rfl ?_
 refine OW_store' hE rfl rfl rfl rfl rfl rfl rfl rfl rfl rfl rfl rfl ?_
 refine OW_end rfl ?_
 refine CW_seq ?_
 refine CW_seq ?_
 refine CW.le (LE_nilBox 40 51 43 7 (i := 1) rfl rfl rfl) ?_
 refine CW_region ?_
 refine OW_run' hE.ok 1 rfl ?_
 refine OW_call' hE (allC l) rfl rfl rfl rfl rfl rfl rfl ?_
 refine OW_end rfl ?_
 refine CW_block ?_
 refine CW.le (show LE _ _ ⟨J, (sset (sset (sset (sset noSlots 4 (.ptr 1 0)) 5 (.ptr 2 0)) 6 (.ptr 3 0)) 20 (.d (.fn (.func 90) [] [.iptr [.sl 7 88 (l.map encC)]]))), (hset (hset (hset (hset (hset (hset noHeap 1 (some (.box 54 [.d (.lit (.pointer none))]))) 2 (some (.box 36 [.d (.lit .nilIface)]))) 40 (some (.box 102 [.row 50, .row 51]))) 50 (some (.row 24 1 ((chF s l (0)).1.map encS1)))) 51 (some (.row 43 7 ((chF s l (0)).2.map encC)))) 3 (some (.box 54 [.ptr 40 0])))⟩ from LE_sh (slh_set (v := .d (.fn (.func 90) [] [.iptr [.sl 7 88 (l.map encC)]])) (slh_set (v := .ptr 3 0) (slh_set (v := .ptr 2 0) (slh_set (v := .ptr 1 0) (slh_no _ _) (by rfl) rfl) (by rfl) rfl) (by rfl) rfl) (by rfl) rfl) (hlh_set (hlh_set (hlh_set (hlh_set (hlh_set (hlh_set (hlh_no _ _) rfl rfl) rfl rfl) rfl rfl) rfl rfl) rfl rfl) rfl rfl)) ?_
 refine CW_rangeH hE hF (allC1 l) rfl rfl rfl (ysI_kf encC l) rfl 9 (fun i => (hset (hset (hset (hset (hset (hset noHeap 1 (some (.box 54 [.d (.lit (.pointer none))]))) 2 (some (.box 36 [.d (.lit .nilIface)]))) 40 (some (.box 102 [.row 50, .row 51]))) 50 (some (.row 24 1 ((chF s l (i)).1.map encS1)))) 51 (some (.row 43 7 ((chF s l (i)).2.map encC)))) 3 (some (.box 54 [.ptr 40 0])))) (fun i => newX s l i = 0) rfl (fun _ => rfl) rfl (fun F' n' Z' Br Bb hE hB vs i args hargs hp => ?_) (fun hp vs => ?_)
 ·
  obtain ⟨c, hc, rfl⟩ := ysI_of hargs
  refine CW_region ?_
  refine OW_alloc' hE 4 rfl rfl rfl rfl rfl rfl rfl ?_
  refine OW_store' hE rfl rfl rfl rfl rfl rfl rfl rfl rfl rfl rfl rfl ?_
  refine OW_end rfl ?_
  refine ⟨rfl, rfl, ?_⟩
  refine CW_block ?_
  refine CW_seq ?_
  refine CW_region ?_
  refine OW_run' hE.ok 2 rfl ?_
  refine OW_callM' hE (tr []) (addOk (chF s l i).1 (chF s l i).2 c (chF_ok hs i)) rfl rfl rfl rfl rfl ⟨rfl, rfl, rfl, trivial⟩ rfl rfl ?_
  refine OW_run' hE.ok 1 rfl ?_
  refine OW_end rfl ?_
  refine CW_seq ?_
  refine CW_region ?_
  refine OW_run' hE.ok 1 rfl ?_
  refine OW_loc' hE (loc_errNe hE rfl rfl rfl) rfl rfl rfl ?_
  refine OW_end rfl ?_
  refine CW_cond _ rfl (fun h1 => ?_) (fun h1 => ?_)
  ·
   have he : (addE (chF s l i).1 (chF s l i).2 c != 0) = true := h1
   refine CW_seq ?_
   refine CW_region ?_
   refine OW_run' hE.ok 1 rfl ?_
   refine OW_store' hE rfl rfl rfl rfl rfl rfl rfl rfl rfl rfl rfl rfl ?_
   refine OW_store' hE rfl rfl rfl rfl rfl rfl rfl rfl rfl rfl rfl rfl ?_
   refine OW_end rfl ?_
   refine CW_ret ⟨_, LE.refl _ _, J, _, fun h => h, rfl, rfl, ?_⟩
   refine ⟨.inr rfl, rfl, ⟨_, rfl, rfl, ?_⟩, rfl⟩
   rw [newX_ret hp hc he]; exact AVle.refl _
  ·
   have he : (addE (chF s l i).1 (chF s l i).2 c != 0) = false := h1
   refine CW_skip ?_
   exact ⟨⟨Bb J, noSlots, (hset (hset (hset (hset (hset (hset (hset noHeap 1 (some (.box 54 [.d (.lit (.pointer none))]))) 2 (some (.box 36 [.d (.lit .nilIface)]))) 40 (some (.box 102 [.row 50, .row 51]))) 50 (some (.row 24 1 ((chF s l (i + 1)).1.map encS1)))) 51 (some (.row 43 7 ((chF s l (i + 1)).2.map encC)))) 3 (some (.box 54 [.ptr 40 0]))) 9 (some (.ghost _ vs)))⟩, LE_sh (slh_no _ _) (hlh_set (hlh_set (hlh_set (hlh_set (hlh_set (hlh_set (hlh_set (hlh_no _ _) rfl rfl) rfl rfl) rfl rfl) (by exact congrArg (fun z : List (List Ty) × List Chg => some (Ent.row 24 1 (z.1.map encS1))) (chF_succ hc).symm) rfl) (by exact congrArg (fun z : List (List Ty) × List Chg => some (Ent.row 43 7 (z.2.map encC))) (chF_succ hc).symm) rfl) rfl rfl) rfl rfl), J, rfl, rfl, rfl, newX_go hp hc he⟩
 ·
  refine CW_seq ?_
  refine CW_region ?_
  refine OW_run' hE.ok 1 rfl ?_
  refine OW_store' hE rfl rfl rfl rfl rfl rfl rfl rfl rfl rfl rfl rfl ?_
  refine OW_store' hE rfl rfl rfl rfl rfl rfl rfl rfl rfl rfl rfl rfl ?_
  refine OW_end rfl ?_
  exact absurd (show newE s l = 0 by rw [ysI_length] at hp; exact hp) hz
end Go.Proofs.YtchpllgeahnmmaaDoor
namespace Go.Proofs.YtchpllgeahnmmaaDoor
open Go Go.AL
set_option linter.unusedVariables false
set_option linter.unusedSimpArgs false
set_option maxHeartbeats 4000000
theorem newBad (s : List Ty) (l : List Chg) (hs : isSchema s = false) : Does Tryd.prog 27 [argS s, .d (.sl 7 88 (l.map encC))] noHeap (.tup [.d (.lit (.pointer none)), .d (errC 74 10)]) := by
 refine Does_of T_ok mixed (N := 30) Tryd.func27 rfl rfl rfl (by rfl) fun F n Z hE hF J => ?_
 refine CW_seq ?_
 refine CW_region ?_
 refine OW_run' hE.ok 1 rfl ?_
 refine OW_alloc' hE 1 rfl rfl rfl rfl rfl rfl rfl ?_
 refine OW_alloc' hE 2 rfl rfl rfl rfl rfl rfl rfl ?_
 refine OW_end rfl ?_
 refine CW_seq ?_
 refine CW_seq ?_
 refine CW_region ?_
 refine OW_run' hE.ok 1 rfl ?_
 refine OW_call' hE ((by have hq := isOk s; rw [hs] at hq; exact hq)) rfl rfl rfl rfl rfl rfl rfl ?_
 refine OW_run' hE.ok 1 rfl ?_
 refine OW_end rfl ?_
 refine CW_true rfl ?_
 refine CW_seq ?_
 refine CW_region ?_
 refine OW_run' hE.ok 1 rfl ?_
 refine OW_store' hE rfl rfl rfl rfl rfl rfl rfl rfl rfl rfl rfl rfl ?_
 refine OW_store' hE rfl rfl rfl rfl rfl rfl rfl rfl rfl rfl rfl rfl ?_
 refine OW_end rfl ?_
 refine CW_ret ?_
 refine ⟨.inr rfl, rfl, ⟨_, rfl, rfl, ?_⟩, rfl⟩
 exact AVle.refl _
theorem newBadNil (s : List Ty) (hs : isSchema s = false) : Does Tryd.prog 27 [argS s, .d (.lit (.slice none 0 0))] noHeap (.tup [.d (.lit (.pointer none)), .d (errC 74 10)]) :=
 Does.narrow (newBad s [] hs) (AVles.cons (.refl _) (.cons (.nilSl 7 88) .nil))
end Go.Proofs.YtchpllgeahnmmaaDoor
