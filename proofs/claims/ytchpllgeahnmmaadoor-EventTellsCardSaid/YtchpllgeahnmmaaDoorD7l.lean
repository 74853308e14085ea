/- Parts of an abstract logic over the kit's walks, and walks in it: D7l. -/
import Derived.Test.YtchpllgeahnmmaaDoorD7k
import Derived.Test.YtchpllgeahnmmaaDoorDxa
import Derived.Test.YtchpllgeahnmmaaDoorDxb
import Derived.Test.YtchpllgeahnmmaaDoorD7co
import Derived.Test.YtchpllgeahnmmaaDoorAg
import Derived.Test.YtchpllgeahnmmaaDoorCp
namespace Go.Proofs.YtchpllgeahnmmaaDoor
open Go Go.AL
set_option linter.unusedVariables false
set_option linter.unusedSimpArgs false
set_option maxHeartbeats 4000000
theorem isEvL (s : List Ty) (e : Ev) : Does Tryd.prog 12 [argS s, argE e] noHeap (.d (errC 74 (evtR s e))) := by
 rw [← evErr_errC]
 exact isEvOk s e
theorem tellsLaw (s : List Ty) (e d : Ev) (nm : ByteArray) : DoesW Tryd.prog Tab 3 [argS s, argE e, argE d, .d (str nm)] (.d (boo true)) := by
 refine DoesW_of tab_grew T_ok mixed (N := 82) Tryd.func3 rfl rfl rfl (by rfl) fun F n Z hE hF J hJ => ?_
 refine CW_seq ?_
 refine CW_region ?_
 refine OW_run' hE.ok 4 rfl ?_
 refine OW_end rfl ?_
 refine CW_seq ?_
 refine CW_seq ?_
 refine CW_region ?_
 refine OW_call' hE (known3) rfl rfl rfl rfl rfl rfl rfl ?_
 refine OW_run' hE.ok 1 rfl ?_
 refine OW_end rfl ?_
 refine CW_false rfl ?_
 refine CW_skip ?_
 refine CW_seq ?_
 refine CW_seq ?_
 refine CW_region ?_
 refine OW_run' hE.ok 1 rfl ?_
 refine OW_call' hE (refIsSOk s) rfl rfl rfl rfl rfl rfl rfl ?_
 refine OW_run' hE.ok 2 rfl ?_
 refine OW_split' 18 rfl (fun h1 => ?_) (fun h1 => ?_)
 ·
  have w1 : (!isSchema s) = true := h1
  refine OW_run' hE.ok 11 rfl ?_
  refine OW_end rfl ?_
  refine CW_true rfl ?_
  refine CW_seq ?_
  refine CW_region ?_
  refine OW_run' hE.ok 1 rfl ?_
  refine OW_end rfl ?_
  refine CW_ret ?_
  refine ⟨.inr rfl, rfl, ⟨_, rfl, rfl, ?_⟩, rfl⟩
  exact AVle.refl _
 ·
  have w1 : (!isSchema s) = false := h1
  refine OW_run' hE.ok 6 rfl ?_
  refine OW_split' 24 rfl (fun h2 => ?_) (fun h2 => ?_)
  ·
   skip
   refine OW_run' hE.ok 5 rfl ?_
   refine OW_end rfl ?_
   refine CW_true rfl ?_
   refine CW_seq ?_
   refine CW_region ?_
   refine OW_run' hE.ok 1 rfl ?_
   refine OW_end rfl ?_
   refine CW_ret ?_
   refine ⟨.inr rfl, rfl, ⟨_, rfl, rfl, ?_⟩, rfl⟩
   exact AVle.refl _
  ·
   have hv : e.vals.length ≤ 20 := by have := h2; rw [List.length_map] at this; simp at this; omega
   refine OW_run' hE.ok 5 rfl ?_
   refine OW_end rfl ?_
   refine CW_cond _ rfl (fun h3 => ?_) (fun h3 => ?_)
   ·
    skip
    refine CW_seq ?_
    refine CW_region ?_
    refine OW_run' hE.ok 1 rfl ?_
    refine OW_end rfl ?_
    refine CW_ret ?_
    refine ⟨.inr rfl, rfl, ⟨_, rfl, rfl, ?_⟩, rfl⟩
    exact AVle.refl _
   ·
    have hd : d.vals.length ≤ 20 := by have := h3; rw [List.length_map] at this; simp at this; omega
    refine CW_skip ?_
    refine CW_seq ?_
    refine CW_region ?_
    refine OW_run' hE.ok 3 rfl ?_
    refine OW_call' hE (getOk s e nm) rfl rfl rfl rfl rfl rfl rfl ?_
    refine OW_run' hE.ok 3 rfl ?_
    refine OW_alloc' hE 1 rfl rfl rfl rfl rfl rfl rfl ?_
    refine OW_store' hE rfl rfl rfl rfl rfl rfl rfl rfl rfl rfl rfl rfl ?_
    refine OW_run' hE.ok 1 rfl ?_
    refine OW_end rfl ?_
    refine CW_seq ?_
    refine CW_region ?_
    refine OW_run' hE.ok 3 rfl ?_
    refine OW_call' hE (refGetOk s e nm) rfl rfl rfl rfl rfl rfl rfl ?_
    refine OW_run' hE.ok 3 rfl ?_
    refine OW_alloc' hE 2 rfl rfl rfl rfl rfl rfl rfl ?_
    refine OW_store' hE rfl rfl rfl rfl rfl rfl rfl rfl rfl rfl rfl rfl ?_
    refine OW_run' hE.ok 1 rfl ?_
    refine OW_end rfl ?_
    refine CW_seq ?_
    refine CW.le (show LE _ _ ⟨J, (sset (sset (sset (sset (sset (sset (sset noSlots 4 (.d (.iptr [encS s]))) 5 (.d (.iptr (encE e)))) 6 (.d (.iptr (encE d)))) 9 (.ptr 1 0)) 10 (.d (boo (getV s e nm).2))) 11 (.ptr 2 0)) 12 (.d (boo (getV s e nm).2))), (hset (hset noHeap 1 (some (.box 31 ((encV (getV s e nm).1).map .d)))) 2 (some (.box 31 ((encV (getV s e nm).1).map .d))))⟩ from LE_sh (slh_set (v := .d (boo (getV s e nm).2)) (slh_set (v := .ptr 2 0) (slh_set (v := .d (boo (getV s e nm).2)) (slh_set (v := .ptr 1 0) (slh_set (v := .d (.iptr (encE d))) (slh_set (v := .d (.iptr (encE e))) (slh_set (v := .d (.iptr [encS s])) (slh_no _ _) (by rfl) rfl) (by rfl) rfl) (by rfl) rfl) (by rfl) rfl) (by rfl) rfl) (by rfl) rfl) (by rfl) rfl) (hlh_set (hlh_set (hlh_no _ _) rfl rfl) rfl rfl)) ?_
    skip
    refine CW_drawnX hE 36 ⟨[34], HA1 (hset (hset noHeap 1 (some (.box 31 ((encV (getV s e nm).1).map .d)))) 2 (some (.box 31 ((encV (getV s e nm).1).map .d)))) 34 77 (.row 31 3 (e.vals.map encV)), []⟩ (by decide +kernel) rfl (ha1_dep (by simp)) (fun q k hm => by cases hm) (LE.refl _ _) ?_
    refine HX_run hE 2 (h0 := noHeap) (fun _ => noHeap_no) rfl rfl rfl ?_
    refine HX_call hE (isEvL s e) rfl rfl rfl rfl rfl rfl rfl rfl rfl rfl ?_
    refine HX_callW hE (code11Ok _) hJ rfl rfl rfl rfl rfl rfl rfl rfl rfl rfl ?_
    refine HX_run hE 2 (h0 := noHeap) (fun _ => noHeap_no) rfl rfl rfl ?_
    refine HX_call hE (refIsEOk s e) rfl rfl rfl rfl rfl rfl rfl rfl rfl rfl ?_
    refine HX_run hE 1 (h0 := noHeap) (fun _ => noHeap_no) rfl rfl rfl ?_
    refine HX_as 51 (.d (boo true)) (by exact congrArg (fun b => AV.d (boo b)) (by simp)) ?_
    refine HX_run hE 3 (h0 := noHeap) (fun _ => noHeap_no) rfl rfl rfl ?_
    refine HX_call hE (sameEvOk e d) rfl rfl rfl rfl rfl rfl rfl rfl rfl rfl ?_
    refine HX_run hE 2 (h0 := noHeap) (fun _ => noHeap_no) rfl rfl rfl ?_
    refine HX_call hE (refSameEOk e d) rfl rfl rfl rfl rfl rfl rfl rfl rfl rfl ?_
    refine HX_run hE 1 (h0 := noHeap) (fun _ => noHeap_no) rfl rfl rfl ?_
    refine HX_as 59 (.d (boo true)) (by exact congrArg (fun b => AV.d (boo b)) (by simp)) ?_
    refine HX_run hE 4 (h0 := noHeap) (fun _ => noHeap_no) rfl rfl rfl ?_
    refine HX_call hE ((by have hq := sameEvOk e e; rw [sameEv_refl e] at hq; exact hq)) rfl rfl rfl rfl rfl rfl rfl rfl rfl rfl ?_
    refine HX_run hE 2 (h0 := noHeap) (fun _ => noHeap_no) rfl rfl rfl ?_
    refine HX_run hE 2 (h0 := (hset (hset noHeap 1 (some (.box 31 ((encV (getV s e nm).1).map .d)))) 2 (some (.box 31 ((encV (getV s e nm).1).map .d))))) (ha1_more rfl) rfl rfl rfl ?_
    refine HX_loc2 hE rfl rfl rfl (fun b _ => loc_eql rfl rfl rfl (r := sameV (getV s e nm).1 (getV s e nm).1) (eqLaw_flat T_ok (t := 31) rfl (by decide +kernel) rfl (X := encV (getV s e nm).1) (Y := encV (getV s e nm).1) rfl rfl rfl)) rfl rfl rfl ?_
    refine HX_as 69 (.d (boo true)) (by exact congrArg (fun b => AV.d (boo b)) (sameV_rfl _)) ?_
    refine HX_run hE 5 (h0 := noHeap) (fun _ => noHeap_no) rfl rfl rfl ?_
    refine HX_as 74 (.d (boo true)) (by exact congrArg (fun b => AV.d (boo b)) (by simp)) ?_
    refine HX_run hE 3 (h0 := noHeap) (fun _ => noHeap_no) rfl rfl rfl ?_
    refine HX_own hE (copyOk e) rfl rfl rfl rfl rfl rfl rfl rfl ?_
    refine HX_run hE 1 (h0 := noHeap) (fun _ => noHeap_no) rfl rfl rfl ?_
    refine HX_end ?_
    refine OW.le (LE_freeze 77 32 rfl (by simp; omega)) ?_
    refine OW_call' hE ((by have hq := refSameEOk e e; rw [sameEv_refl e] at hq; exact hq)) rfl rfl rfl rfl rfl rfl rfl ?_
    refine OW_run' hE.ok 2 rfl ?_
    refine OW_end rfl ?_
    refine CW_ret ?_
    exact ⟨.inr rfl, rfl, ⟨_, rfl, rfl, AVle.refl _⟩, rfl⟩
end Go.Proofs.YtchpllgeahnmmaaDoor
