/- Parts of an abstract logic over the kit's walks, and walks in it: D7l4. -/
import Derived.Test.YtchpllgeahnmmaaDoorDxg
import Derived.Test.YtchpllgeahnmmaaDoorDxe
import Derived.Test.YtchpllgeahnmmaaDoorD7co
import Derived.Test.YtchpllgeahnmmaaDoorAg
import Derived.Test.YtchpllgeahnmmaaDoorDxb
namespace Go.Proofs.YtchpllgeahnmmaaDoor
open Go Go.AL
set_option linter.unusedVariables false
set_option linter.unusedSimpArgs false
set_option maxHeartbeats 4000000
theorem tellsLaw4 (s : List Ty) (c : Chg) (e : Ev) (nm : ByteArray) : DoesW Tryd.prog Tab 4 [argS s, argC c, argE e, .d (str nm)] (.d (boo true)) := by
 refine DoesW_of tab_grew T_ok mixed (N := 113) Tryd.func4 rfl rfl rfl (by rfl) fun F n Z hE hF J hJ => ?_
 refine CW_seq ?_
 refine CW_region ?_
 refine OW_run' hE.ok 4 rfl ?_
 refine OW_end rfl ?_
 refine CW_seq ?_
 refine CW_seq ?_
 refine CW_region ?_
 refine OW_call' hE (known4) rfl rfl rfl rfl rfl rfl rfl ?_
 refine OW_run' hE.ok 1 rfl ?_
 refine OW_end rfl ?_
 refine CW_false rfl ?_
 refine CW_skip ?_
 refine CW_seq ?_
 refine CW_seq ?_
 refine CW.le (show LE _ _ ⟨J, (sset (sset (sset (sset noSlots 3 (.d (str nm))) 4 (.d (.iptr [encS s]))) 5 (.d (.iptr (encC c)))) 6 (.d (.iptr (encE e)))), noHeap⟩ from LE_sh (slh_set (v := .d (.iptr (encE e))) (slh_set (v := .d (.iptr (encC c))) (slh_set (v := .d (.iptr [encS s])) (slh_set (v := .d (str nm)) (slh_no _ _) (by rfl) rfl) (by rfl) rfl) (by rfl) rfl) (by rfl) rfl) (hlh_no _ _)) ?_
 refine CW_region ?_
 refine OW_run' hE.ok 1 rfl ?_
 refine OW_call' hE (refIsSOk s) rfl rfl rfl rfl rfl rfl rfl ?_
 refine OW_run' hE.ok 2 rfl ?_
 refine OW_split' 22 rfl (fun h1 => ?_) (fun h1 => ?_)
 ·
  have w1 : (!isSchema s) = true := h1
  refine OW.le (show LE _ _ ⟨J, (sset (sset (sset (sset (sset noSlots 3 (.d (str nm))) 4 (.d (.iptr [encS s]))) 5 (.d (.iptr (encC c)))) 6 (.d (.iptr (encE e)))) 22 (.d (.lit (.bool true)))), noHeap⟩ from LE_sh (slh_set (v := .d (.lit (.bool true))) (slh_set (v := .d (.iptr (encE e))) (slh_set (v := .d (.iptr (encC c))) (slh_set (v := .d (.iptr [encS s])) (slh_set (v := .d (str nm)) (slh_no _ _) (by rfl) rfl) (by rfl) rfl) (by rfl) rfl) (by rfl) rfl) (by rfl) rfl) (hlh_no _ _)) ?_
  refine OW_run' hE.ok 24 rfl ?_
  refine OW_end rfl ?_
  refine CW_true rfl ?_
  refine CW_seq ?_
  refine CW_region ?_
  refine OW_run' hE.ok 1 rfl ?_
  refine OW_end rfl ?_
  refine CW_ret ?_
  refine ⟨.inr rfl, rfl, ⟨_, rfl, rfl, ?_⟩, rfl⟩
  exact AVle.refl _
 ·
  have w1 : (!isSchema s) = false := h1
  refine OW.le (show LE _ _ ⟨J, (sset (sset (sset (sset (sset noSlots 3 (.d (str nm))) 4 (.d (.iptr [encS s]))) 5 (.d (.iptr (encC c)))) 6 (.d (.iptr (encE e)))) 22 (.d (.lit (.bool false)))), noHeap⟩ from LE_sh (slh_set (v := .d (.lit (.bool false))) (slh_set (v := .d (.iptr (encE e))) (slh_set (v := .d (.iptr (encC c))) (slh_set (v := .d (.iptr [encS s])) (slh_set (v := .d (str nm)) (slh_no _ _) (by rfl) rfl) (by rfl) rfl) (by rfl) rfl) (by rfl) rfl) (by rfl) rfl) (hlh_no _ _)) ?_
  refine OW_run' hE.ok 6 rfl ?_
  refine OW_split' 28 rfl (fun h2 => ?_) (fun h2 => ?_)
  ·
   refine OW.le (show LE _ _ ⟨J, (sset (sset (sset (sset (sset noSlots 3 (.d (str nm))) 4 (.d (.iptr [encS s]))) 5 (.d (.iptr (encC c)))) 6 (.d (.iptr (encE e)))) 28 (.d (.lit (.bool true)))), noHeap⟩ from LE_sh (slh_set (v := .d (.lit (.bool true))) (slh_set (v := .d (.iptr (encE e))) (slh_set (v := .d (.iptr (encC c))) (slh_set (v := .d (.iptr [encS s])) (slh_set (v := .d (str nm)) (slh_no _ _) (by rfl) rfl) (by rfl) rfl) (by rfl) rfl) (by rfl) rfl) (by rfl) rfl) (hlh_no _ _)) ?_
   refine OW_run' hE.ok 18 rfl ?_
   refine OW_end rfl ?_
   refine CW_true rfl ?_
   refine CW_seq ?_
   refine CW_region ?_
   refine OW_run' hE.ok 1 rfl ?_
   refine OW_end rfl ?_
   refine CW_ret ?_
   refine ⟨.inr rfl, rfl, ⟨_, rfl, rfl, ?_⟩, rfl⟩
   exact AVle.refl _
  ·
   have hv : e.vals.length ≤ 20 := by have := h2; rw [List.length_map] at this; simp at this; omega
   refine OW.le (show LE _ _ ⟨J, (sset (sset (sset (sset (sset noSlots 3 (.d (str nm))) 4 (.d (.iptr [encS s]))) 5 (.d (.iptr (encC c)))) 6 (.d (.iptr (encE e)))) 28 (.d (.lit (.bool false)))), noHeap⟩ from LE_sh (slh_set (v := .d (.lit (.bool false))) (slh_set (v := .d (.iptr (encE e))) (slh_set (v := .d (.iptr (encC c))) (slh_set (v := .d (.iptr [encS s])) (slh_set (v := .d (str nm)) (slh_no _ _) (by rfl) rfl) (by rfl) rfl) (by rfl) rfl) (by rfl) rfl) (by rfl) rfl) (hlh_no _ _)) ?_
   refine OW_run' hE.ok 6 rfl ?_
   refine OW_split' 34 rfl (fun h3 => ?_) (fun h3 => ?_)
   ·
    refine OW.le (show LE _ _ ⟨J, (sset (sset (sset (sset (sset noSlots 3 (.d (str nm))) 4 (.d (.iptr [encS s]))) 5 (.d (.iptr (encC c)))) 6 (.d (.iptr (encE e)))) 34 (.d (.lit (.bool true)))), noHeap⟩ from LE_sh (slh_set (v := .d (.lit (.bool true))) (slh_set (v := .d (.iptr (encE e))) (slh_set (v := .d (.iptr (encC c))) (slh_set (v := .d (.iptr [encS s])) (slh_set (v := .d (str nm)) (slh_no _ _) (by rfl) rfl) (by rfl) rfl) (by rfl) rfl) (by rfl) rfl) (by rfl) rfl) (hlh_no _ _)) ?_
    refine OW_run' hE.ok 12 rfl ?_
    refine OW_end rfl ?_
    refine CW_true rfl ?_
    refine CW_seq ?_
    refine CW_region ?_
    refine OW_run' hE.ok 1 rfl ?_
    refine OW_end rfl ?_
    refine CW_ret ?_
    refine ⟨.inr rfl, rfl, ⟨_, rfl, rfl, ?_⟩, rfl⟩
    exact AVle.refl _
   ·
    refine OW.le (show LE _ _ ⟨J, (sset (sset (sset (sset (sset noSlots 3 (.d (str nm))) 4 (.d (.iptr [encS s]))) 5 (.d (.iptr (encC c)))) 6 (.d (.iptr (encE e)))) 34 (.d (.lit (.bool false)))), noHeap⟩ from LE_sh (slh_set (v := .d (.lit (.bool false))) (slh_set (v := .d (.iptr (encE e))) (slh_set (v := .d (.iptr (encC c))) (slh_set (v := .d (.iptr [encS s])) (slh_set (v := .d (str nm)) (slh_no _ _) (by rfl) rfl) (by rfl) rfl) (by rfl) rfl) (by rfl) rfl) (by rfl) rfl) (hlh_no _ _)) ?_
    refine OW_run' hE.ok 6 rfl ?_
    refine OW_split' 40 rfl (fun h4 => ?_) (fun h4 => ?_)
    ·
     refine OW.le (show LE _ _ ⟨J, (sset (sset (sset (sset (sset noSlots 3 (.d (str nm))) 4 (.d (.iptr [encS s]))) 5 (.d (.iptr (encC c)))) 6 (.d (.iptr (encE e)))) 40 (.d (.lit (.bool true)))), noHeap⟩ from LE_sh (slh_set (v := .d (.lit (.bool true))) (slh_set (v := .d (.iptr (encE e))) (slh_set (v := .d (.iptr (encC c))) (slh_set (v := .d (.iptr [encS s])) (slh_set (v := .d (str nm)) (slh_no _ _) (by rfl) rfl) (by rfl) rfl) (by rfl) rfl) (by rfl) rfl) (by rfl) rfl) (hlh_no _ _)) ?_
     refine OW_run' hE.ok 6 rfl ?_
     refine OW_end rfl ?_
     refine CW_true rfl ?_
     refine CW_seq ?_
     refine CW_region ?_
     refine OW_run' hE.ok 1 rfl ?_
     refine OW_end rfl ?_
     refine CW_ret ?_
     refine ⟨.inr rfl, rfl, ⟨_, rfl, rfl, ?_⟩, rfl⟩
     exact AVle.refl _
    ·
     refine OW.le (show LE _ _ ⟨J, (sset (sset (sset (sset (sset noSlots 3 (.d (str nm))) 4 (.d (.iptr [encS s]))) 5 (.d (.iptr (encC c)))) 6 (.d (.iptr (encE e)))) 40 (.d (.lit (.bool false)))), noHeap⟩ from LE_sh (slh_set (v := .d (.lit (.bool false))) (slh_set (v := .d (.iptr (encE e))) (slh_set (v := .d (.iptr (encC c))) (slh_set (v := .d (.iptr [encS s])) (slh_set (v := .d (str nm)) (slh_no _ _) (by rfl) rfl) (by rfl) rfl) (by rfl) rfl) (by rfl) rfl) (by rfl) rfl) (hlh_no _ _)) ?_
     refine OW_run' hE.ok 6 rfl ?_
     refine OW_end rfl ?_
     refine CW_cond _ rfl (fun h5 => ?_) (fun h5 => ?_)
     ·
      skip
      refine CW_seq ?_
      refine CW_region ?_
      refine OW_run' hE.ok 1 rfl ?_
      refine OW_end rfl ?_
      refine CW_ret ?_
      refine ⟨.inr rfl, rfl, ⟨_, rfl, rfl, ?_⟩, rfl⟩
      exact AVle.refl _
     ·
      skip
      refine CW_skip ?_
      refine CW_seq ?_
      have hs : isSchema s = true := by simpa using w1
      refine CW.le (show LE _ _ ⟨J, (sset (sset (sset (sset noSlots 3 (.d (str nm))) 4 (.d (.iptr [encS s]))) 5 (.d (.iptr (encC c)))) 6 (.d (.iptr (encE e)))), noHeap⟩ from LE_sh (slh_set (v := .d (.iptr (encE e))) (slh_set (v := .d (.iptr (encC c))) (slh_set (v := .d (.iptr [encS s])) (slh_set (v := .d (str nm)) (slh_no _ _) (by rfl) rfl) (by rfl) rfl) (by rfl) rfl) (by rfl) rfl) (hlh_no _ _)) ?_
      refine CW_region ?_
      refine OW_run' hE.ok 2 rfl ?_
      refine OW_call' hE (applyOk s c hs) rfl rfl rfl rfl rfl rfl rfl ?_
      refine OW_run' hE.ok 3 rfl ?_
      refine OW_alloc' hE 1 rfl rfl rfl rfl rfl rfl rfl ?_
      refine OW_store' hE rfl rfl rfl rfl rfl rfl rfl rfl rfl rfl rfl rfl ?_
      refine OW_run' hE.ok 1 rfl ?_
      refine OW_end rfl ?_
      refine CW_seq ?_
      refine CW_region ?_
      refine OW_run' hE.ok 2 rfl ?_
      refine OW_call' hE (refApplyOk s c hs) rfl rfl rfl rfl rfl rfl rfl ?_
      refine OW_run' hE.ok 3 rfl ?_
      refine OW_alloc' hE 2 rfl rfl rfl rfl rfl rfl rfl ?_
      refine OW_store' hE rfl rfl rfl rfl rfl rfl rfl rfl rfl rfl rfl rfl ?_
      refine OW_run' hE.ok 1 rfl ?_
      refine OW_end rfl ?_
      refine CW_seq ?_
      refine CW_seq ?_
      refine CW.le (show LE _ _ ⟨J, (sset (sset (sset (sset (sset (sset (sset (sset noSlots 3 (.d (str nm))) 4 (.d (.iptr [encS s]))) 5 (.d (.iptr (encC c)))) 6 (.d (.iptr (encE e)))) 9 (.ptr 1 0)) 10 (.d (errC 74 (applyX s c).2))) 11 (.ptr 2 0)) 12 (.d (int (applyX s c).2))), (hset (hset noHeap 1 (some (.box 24 [.d (encS (applyX s c).1)]))) 2 (some (.box 24 [.d (encS (applyX s c).1)])))⟩ from LE_sh (slh_set (v := .d (int (applyX s c).2)) (slh_set (v := .ptr 2 0) (slh_set (v := .d (errC 74 (applyX s c).2)) (slh_set (v := .ptr 1 0) (slh_set (v := .d (.iptr (encE e))) (slh_set (v := .d (.iptr (encC c))) (slh_set (v := .d (.iptr [encS s])) (slh_set (v := .d (str nm)) (slh_no _ _) (by rfl) rfl) (by rfl) rfl) (by rfl) rfl) (by rfl) rfl) (by rfl) rfl) (by rfl) rfl) (by rfl) rfl) (by rfl) rfl) (hlh_set (hlh_set (hlh_no _ _) rfl rfl) rfl rfl)) ?_
      refine CW_region ?_
      refine OW_run' hE.ok 1 rfl ?_
      refine OW_callW' hE (code20Ok _) hJ rfl rfl rfl rfl rfl rfl rfl ?_
      refine OW_run' hE.ok 1 rfl ?_
      refine OW_run' hE.ok 1 rfl ?_
      refine OW_as' 62 (.d (boo false)) (congrArg (fun b => AV.d (boo b)) (by simp)) ?_
      refine OW_run' hE.ok 3 rfl ?_
      refine OW_call' hE ((by have hq := refSameSOk (applyX s c).1 (applyX s c).1; rw [sS_refl] at hq; exact hq)) rfl rfl rfl rfl rfl rfl rfl ?_
      refine OW_run' hE.ok 2 rfl ?_
      refine OW_end rfl ?_
      refine CW_false rfl ?_
      refine CW_skip ?_
      refine CW_seq ?_
      refine CW_seq ?_
      refine CW.le (show LE _ _ ⟨J, (sset (sset (sset (sset (sset noSlots 3 (.d (str nm))) 4 (.d (.iptr [encS s]))) 5 (.d (.iptr (encC c)))) 6 (.d (.iptr (encE e)))) 12 (.d (int (applyX s c).2))), noHeap⟩ from LE_sh (slh_set (v := .d (int (applyX s c).2)) (slh_set (v := .d (.iptr (encE e))) (slh_set (v := .d (.iptr (encC c))) (slh_set (v := .d (.iptr [encS s])) (slh_set (v := .d (str nm)) (slh_no _ _) (by rfl) rfl) (by rfl) rfl) (by rfl) rfl) (by rfl) rfl) (by rfl) rfl) (hlh_no _ _)) ?_
      refine CW_region ?_
      refine OW_run' hE.ok 3 rfl ?_
      refine OW_split' 71 rfl (fun h6 => ?_) (fun h6 => ?_)
      ·
       have e0 : ((applyX s c).2 != 0) = true := h6
       refine OW_run' hE.ok 5 rfl ?_
       refine OW_end rfl ?_
       refine CW_true rfl ?_
       refine CW_seq ?_
       refine CW_region ?_
       refine OW_run' hE.ok 1 rfl ?_
       refine OW_end rfl ?_
       refine CW_ret ?_
       refine ⟨.inr rfl, rfl, ⟨_, rfl, rfl, ?_⟩, rfl⟩
       exact AVle.refl _
      ·
       have e0 : ((applyX s c).2 != 0) = false := h6
       refine OW_run' hE.ok 2 rfl ?_
       refine OW_call' hE (refIsEOk s e) rfl rfl rfl rfl rfl rfl rfl ?_
       refine OW_run' hE.ok 2 rfl ?_
       refine OW_end rfl ?_
       refine CW_cond _ rfl (fun h7 => ?_) (fun h7 => ?_)
       ·
        have w3 : (evtR s e != 0) = true := h7
        refine CW_seq ?_
        refine CW_region ?_
        refine OW_run' hE.ok 1 rfl ?_
        refine OW_end rfl ?_
        refine CW_ret ?_
        refine ⟨.inr rfl, rfl, ⟨_, rfl, rfl, ?_⟩, rfl⟩
        exact AVle.refl _
       ·
        have w3 : (evtR s e != 0) = false := h7
        refine CW_skip ?_
        refine CW_seq ?_
        refine CW.le (show LE _ _ ⟨J, (sset (sset (sset (sset noSlots 3 (.d (str nm))) 4 (.d (.iptr [encS s]))) 5 (.d (.iptr (encC c)))) 6 (.d (.iptr (encE e)))), noHeap⟩ from LE_sh (slh_set (v := .d (.iptr (encE e))) (slh_set (v := .d (.iptr (encC c))) (slh_set (v := .d (.iptr [encS s])) (slh_set (v := .d (str nm)) (slh_no _ _) (by rfl) rfl) (by rfl) rfl) (by rfl) rfl) (by rfl) rfl) (hlh_no _ _)) ?_
        refine CW_region ?_
        refine OW_run' hE.ok 2 rfl ?_
        refine OW_call' hE (backOk c nm) rfl rfl rfl rfl rfl rfl rfl ?_
        refine OW_run' hE.ok 5 rfl ?_
        refine OW_end rfl ?_
        refine CW_seq ?_
        refine CW_region ?_
        refine OW_run' hE.ok 2 rfl ?_
        refine OW_call' hE (refBackOk c nm) rfl rfl rfl rfl rfl rfl rfl ?_
        refine OW_run' hE.ok 5 rfl ?_
        refine OW_end rfl ?_
        refine CW_seq ?_
        refine CW.le (show LE _ _ ⟨J, (sset (sset (sset (sset (sset (sset (sset (sset noSlots 3 (.d (str nm))) 4 (.d (.iptr [encS s]))) 5 (.d (.iptr (encC c)))) 6 (.d (.iptr (encE e)))) 13 (.d (str (backX c nm).1))) 14 (.d (boo (backX c nm).2))) 15 (.d (str (backX c nm).1))) 16 (.d (boo (backX c nm).2))), noHeap⟩ from LE_sh (slh_set (v := .d (boo (backX c nm).2)) (slh_set (v := .d (str (backX c nm).1)) (slh_set (v := .d (boo (backX c nm).2)) (slh_set (v := .d (str (backX c nm).1)) (slh_set (v := .d (.iptr (encE e))) (slh_set (v := .d (.iptr (encC c))) (slh_set (v := .d (.iptr [encS s])) (slh_set (v := .d (str nm)) (slh_no _ _) (by rfl) rfl) (by rfl) rfl) (by rfl) rfl) (by rfl) rfl) (by rfl) rfl) (by rfl) rfl) (by rfl) rfl) (by rfl) rfl) (hlh_no _ _)) ?_
        refine CW_drawn' hE 20 (by decide +kernel) ?_
        refine HW_run hE 3 rfl rfl ?_
        refine HW_call hE (moveOk s c e hs (by omega)) rfl rfl rfl rfl rfl rfl rfl rfl ?_
        refine HW_run hE 3 rfl rfl ?_
        refine HW_call hE (refMoveOk s c e hs (by omega)) rfl rfl rfl rfl rfl rfl rfl rfl ?_
        refine HW_call hE ((by have hq := refSameEOk (moveX s c e) (moveX s c e); rw [sameEv_refl] at hq; exact hq)) rfl rfl rfl rfl rfl rfl rfl rfl ?_
        refine HW_run hE 5 rfl rfl ?_
        refine HW_split 102 rfl (fun h8 => ?_) (fun h8 => ?_)
        ·
         have k5 : (c.kind == 5) = true := h8
         refine HW_run hE 6 rfl rfl ?_
         refine HW_end ?_
         refine OW_run' hE.ok 5 rfl ?_
         refine OW_end rfl ?_
         refine CW_ret ?_
         refine ⟨.inr rfl, rfl, ⟨_, rfl, rfl, ?_⟩, rfl⟩
         exact AVle.refl _
        ·
         have k5 : (c.kind == 5) = false := h8
         refine HW_run hE 2 rfl rfl ?_
         refine HW_run hE 1 rfl rfl ?_
         refine HW_as 105 (.d (boo true)) (congrArg (fun b => AV.d (boo b)) (same_refl _)) ?_
         refine HW_run hE 3 rfl rfl ?_
         refine HW_end ?_
         refine OW_run' hE.ok 1 rfl ?_
         refine OW_as' 109 (.d (boo true)) (congrArg (fun b => AV.d (boo b)) (by simp)) ?_
         refine OW_run' hE.ok 4 rfl ?_
         refine OW_end rfl ?_
         refine CW_ret ?_
         refine ⟨.inr rfl, rfl, ⟨_, rfl, rfl, ?_⟩, rfl⟩
         exact AVle.refl _
end Go.Proofs.YtchpllgeahnmmaaDoor
