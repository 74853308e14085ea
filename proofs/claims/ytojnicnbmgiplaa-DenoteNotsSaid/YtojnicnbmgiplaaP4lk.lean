/- Parts of an abstract logic over the kit's walks, and walks in it: P4lk. -/
import Derived.Test.YtojnicnbmgiplaaPxi
import Derived.Test.YtojnicnbmgiplaaPxe
import Derived.Test.YtojnicnbmgiplaaPxd
import Derived.Test.YtojnicnbmgiplaaMa
import Derived.Test.YtojnicnbmgiplaaAg
namespace Go.Proofs.Ytojnicnbmgiplaa
open Go Go.AL
set_option linter.unusedVariables false
set_option linter.unusedSimpArgs false
set_option maxHeartbeats 4000000
theorem known14Ok  : Does Try.prog 24 [] noHeap (.d (boo true)) := by
  refine Does_of T_ok mixed (N := 90) Try.func24 rfl rfl rfl (by rfl) fun F n Z hE hF J => ?_
  have hk : Rises kQw := kept_rises mQw 0
  have qS := streamOk mQw 0 (by decide) (by decide); rw [knownC_stream] at qS
  have qA := matchesOk bS (pQw true) kQw hk (by decide) (by decide); rw [knownC_any] at qA
  have qB := matchesOk bS (pQw false) kQw hk (by decide) (by decide); rw [knownC_next] at qB
  have qP := prefixOk bS (pQw false) kQw [⟨0, 1⟩] hk (by decide) (by decide); rw [knownC_pre] at qP
  have qN := (Does_le (AVles.cons (AVle.refl _) (AVles.cons (AVle.refl _) (AVles.cons (AVle.refl _) (AVles.cons (AVle.nilSl 2 16) AVles.nil)))) (prefixOk bS (pQw false) kQw [] hk (by decide) (by decide))); rw [knownC_nil] at qN
  have qL := lessBdOk [⟨0, 1⟩] [⟨0, 2⟩] (by decide) (by decide); rw [knownC_less] at qL
  refine CW_seq ?_
  refine CW_region ?_
  refine OW_run' hE.ok 1 rfl ?_
  refine OW_end rfl ?_
  refine CW_seq ?_
  refine CW_region ?_
  refine OW_call' hE (evOf 1 1) rfl rfl rfl rfl rfl rfl rfl ?_
  refine OW_call' hE (evOf 2 2) rfl rfl rfl rfl rfl rfl rfl ?_
  refine OW_call' hE (evOf 3 3) rfl rfl rfl rfl rfl rfl rfl ?_
  refine OW_loc' hE (loc_lits hE (t := 44) (len := 3) (parts := #[(0, .tmp 7), (1, .tmp 8), (2, .tmp 9)]) rfl rfl rfl rfl rfl rfl rfl rfl (xs := [encE (evT 1 1), encE (evT 2 2), encE (evT 3 3)]) rfl) rfl rfl rfl ?_
  refine OW_callOwn' hE 77 qS rfl rfl rfl rfl rfl rfl rfl ?_
  refine OW_run' hE.ok 5 rfl ?_
  refine OW.le (LE_freeze 77 64 rfl (by decide)) ?_
  refine OW_end rfl ?_
  refine CW_seq ?_
  refine CW_region ?_
  refine OW_call' hE (elOf (ch 97) (ch 116)) rfl rfl rfl rfl rfl rfl rfl ?_
  refine OW_call' hE (elOf (ch 98) (ch 116)) rfl rfl rfl rfl rfl rfl rfl ?_
  refine OW_loc' hE (loc_lits hE (t := 25) (len := 2) (parts := #[(0, .tmp 14), (1, .tmp 15)]) rfl rfl rfl rfl rfl rfl rfl rfl (xs := [encL (eL (ch 97)), encL (eL (ch 98))]) rfl) rfl rfl rfl ?_
  refine OW_build' hE rfl rfl rfl rfl rfl ?_
  refine OW_alloc' hE 1 rfl rfl rfl rfl rfl rfl rfl ?_
  refine OW_store' hE rfl rfl rfl rfl rfl rfl rfl rfl rfl rfl rfl rfl ?_
  refine OW_end rfl ?_
  refine CW_seq ?_
  refine CW.le (show LE _ _ ⟨J, (sset (sset (sset noSlots 1 (.d (SK kQw))) 2 (.d (boo true))) 3 (.ptr 1 0)), (hset noHeap 1 (some (.box 27 [.d (.sl 11 144 ([(eL (ch 97)), (eL (ch 98))].map encL)), .d (int 10), .d (str nul), .d (boo true)])))⟩ from LE_sh (slh_set (v := .ptr 1 0) (slh_set (v := .d (boo true)) (slh_set (v := .d (SK kQw)) (slh_no _ _) (by rfl) rfl) (by rfl) rfl) (by rfl) rfl) (hlh_set (hlh_no _ _) rfl rfl)) ?_
  refine CW_drawn' hE 3 (by decide +kernel) ?_
  refine HW_call hE (base11) rfl rfl rfl rfl rfl rfl rfl rfl ?_
  refine HW_run hE 2 rfl rfl ?_
  refine HW_end ?_
  refine OW_callRow' hE 60 qA rfl rfl rfl rfl rfl rfl rfl ?_
  refine OW_run' hE.ok 1 rfl ?_
  refine OW.le (LE_freeze 60 24 rfl (by decide)) ?_
  refine OW.le (show LE _ _ ⟨J, (sset (sset (sset (sset noSlots 1 (.d (SK kQw))) 2 (.d (boo true))) 3 (.ptr 1 0)) 4 (.d (.sl 1 24 (([[⟨0, 0⟩, ⟨1, 1⟩], [⟨0, 0⟩, ⟨1, 2⟩], [⟨0, 1⟩, ⟨1, 2⟩]] : List (List Bd)).map encR)))), (hset noHeap 1 (some (.box 27 [.d (.sl 11 144 ([(eL (ch 97)), (eL (ch 98))].map encL)), .d (int 10), .d (str nul), .d (boo true)])))⟩ from LE_sh (slh_set (v := .d (.sl 1 24 (([[⟨0, 0⟩, ⟨1, 1⟩], [⟨0, 0⟩, ⟨1, 2⟩], [⟨0, 1⟩, ⟨1, 2⟩]] : List (List Bd)).map encR))) (slh_set (v := .ptr 1 0) (slh_set (v := .d (boo true)) (slh_set (v := .d (SK kQw)) (slh_no _ _) (by rfl) rfl) (by rfl) rfl) (by rfl) rfl) (by rfl) rfl) (hlh_set (hlh_no _ _) rfl rfl)) ?_
  refine OW_end rfl ?_
  refine CW_seq ?_
  refine CW_region ?_
  refine OW_run' hE.ok 1 rfl ?_
  refine OW_store' hE rfl rfl rfl rfl rfl rfl rfl rfl rfl rfl rfl rfl ?_
  refine OW_end rfl ?_
  refine CW_seq ?_
  refine CW.le (show LE _ _ ⟨J, (sset (sset (sset (sset noSlots 1 (.d (SK kQw))) 2 (.d (boo true))) 3 (.ptr 1 0)) 4 (.d (.sl 1 24 (([[⟨0, 0⟩, ⟨1, 1⟩], [⟨0, 0⟩, ⟨1, 2⟩], [⟨0, 1⟩, ⟨1, 2⟩]] : List (List Bd)).map encR)))), (hset noHeap 1 (some (.box 27 [.d (.sl 11 144 ([(eL (ch 97)), (eL (ch 98))].map encL)), .d (int 10), .d (str nul), .d (boo false)])))⟩ from LE_sh (slh_set (v := .d (.sl 1 24 (([[⟨0, 0⟩, ⟨1, 1⟩], [⟨0, 0⟩, ⟨1, 2⟩], [⟨0, 1⟩, ⟨1, 2⟩]] : List (List Bd)).map encR))) (slh_set (v := .ptr 1 0) (slh_set (v := .d (boo true)) (slh_set (v := .d (SK kQw)) (slh_no _ _) (by rfl) rfl) (by rfl) rfl) (by rfl) rfl) (by rfl) rfl) (hlh_set (hlh_no _ _) rfl rfl)) ?_
  refine CW_drawn' hE 3 (by decide +kernel) ?_
  refine HW_call hE (base11) rfl rfl rfl rfl rfl rfl rfl rfl ?_
  refine HW_run hE 2 rfl rfl ?_
  refine HW_end ?_
  refine OW_callRow' hE 61 qB rfl rfl rfl rfl rfl rfl rfl ?_
  refine OW_run' hE.ok 1 rfl ?_
  refine OW.le (LE_freeze 61 24 rfl (by decide)) ?_
  refine OW_end rfl ?_
  refine CW_seq ?_
  refine CW.le (LE_freezeBox 1 (ds := encP (pQw false)) rfl rfl) ?_
  refine CW.le (show LE _ _ ⟨J, (sset (sset (sset (sset (sset noSlots 1 (.d (SK kQw))) 2 (.d (boo true))) 3 (.d (.iptr (encP (pQw false))))) 4 (.d (.sl 1 24 (([[⟨0, 0⟩, ⟨1, 1⟩], [⟨0, 0⟩, ⟨1, 2⟩], [⟨0, 1⟩, ⟨1, 2⟩]] : List (List Bd)).map encR)))) 5 (.d (.sl 1 24 (([[⟨0, 0⟩, ⟨1, 1⟩], [⟨0, 1⟩, ⟨1, 2⟩]] : List (List Bd)).map encR)))), noHeap⟩ from LE_sh (slh_set (v := .d (.sl 1 24 (([[⟨0, 0⟩, ⟨1, 1⟩], [⟨0, 1⟩, ⟨1, 2⟩]] : List (List Bd)).map encR))) (slh_set (v := .d (.sl 1 24 (([[⟨0, 0⟩, ⟨1, 1⟩], [⟨0, 0⟩, ⟨1, 2⟩], [⟨0, 1⟩, ⟨1, 2⟩]] : List (List Bd)).map encR))) (slh_set (v := .d (.iptr (encP (pQw false)))) (slh_set (v := .d (boo true)) (slh_set (v := .d (SK kQw)) (slh_no _ _) (by rfl) rfl) (by rfl) rfl) (by rfl) rfl) (by rfl) rfl) (by rfl) rfl) (hlh_no _ _)) ?_
  refine CW_drawn' hE 62 (by decide +kernel) ?_
  refine HW_run hE 2 rfl rfl ?_
  refine HW_fgt (s' := (sset (sset (sset (sset (sset noSlots 1 (.d (SK kQw))) 3 (.d (.iptr (encP (pQw false))))) 4 (.d (.sl 1 24 (([[⟨0, 0⟩, ⟨1, 1⟩], [⟨0, 0⟩, ⟨1, 2⟩], [⟨0, 1⟩, ⟨1, 2⟩]] : List (List Bd)).map encR)))) 5 (.d (.sl 1 24 (([[⟨0, 0⟩, ⟨1, 1⟩], [⟨0, 1⟩, ⟨1, 2⟩]] : List (List Bd)).map encR)))) 28 (.d (boo true)))) (fgt_set (fgt_set (fgt_set (fgt_set (fgt_set (fgt_no _) (by rfl)) (by rfl)) (by rfl)) (by rfl)) (by rfl)) ?_
  refine HW_run hE 1 rfl rfl ?_
  refine HW_run hE 2 rfl rfl ?_
  refine HW_as 31 (.d (boo true)) (by rfl) ?_
  refine HW_run hE 1 rfl rfl ?_
  refine HW_run hE 1 rfl rfl ?_
  refine HW_fgt (s' := (sset (sset (sset (sset (sset noSlots 1 (.d (SK kQw))) 3 (.d (.iptr (encP (pQw false))))) 4 (.d (.sl 1 24 (([[⟨0, 0⟩, ⟨1, 1⟩], [⟨0, 0⟩, ⟨1, 2⟩], [⟨0, 1⟩, ⟨1, 2⟩]] : List (List Bd)).map encR)))) 5 (.d (.sl 1 24 (([[⟨0, 0⟩, ⟨1, 1⟩], [⟨0, 1⟩, ⟨1, 2⟩]] : List (List Bd)).map encR)))) 33 (.d (boo true)))) (fgt_set (fgt_set (fgt_set (fgt_set (fgt_set (fgt_no _) (by rfl)) (by rfl)) (by rfl)) (by rfl)) (by rfl)) ?_
  refine HW_run hE 1 rfl rfl ?_
  refine HW_run hE 2 rfl rfl ?_
  refine HW_as 36 (.d (boo true)) (by rfl) ?_
  refine HW_run hE 1 rfl rfl ?_
  refine HW_run hE 1 rfl rfl ?_
  refine HW_fgt (s' := (sset (sset (sset (sset (sset noSlots 1 (.d (SK kQw))) 3 (.d (.iptr (encP (pQw false))))) 4 (.d (.sl 1 24 (([[⟨0, 0⟩, ⟨1, 1⟩], [⟨0, 0⟩, ⟨1, 2⟩], [⟨0, 1⟩, ⟨1, 2⟩]] : List (List Bd)).map encR)))) 5 (.d (.sl 1 24 (([[⟨0, 0⟩, ⟨1, 1⟩], [⟨0, 1⟩, ⟨1, 2⟩]] : List (List Bd)).map encR)))) 38 (.d (boo true)))) (fgt_set (fgt_set (fgt_set (fgt_set (fgt_set (fgt_no _) (by rfl)) (by rfl)) (by rfl)) (by rfl)) (by rfl)) ?_
  refine HW_run hE 1 rfl rfl ?_
  refine HW_loc hE (loc_indexAddr hE rfl rfl rfl rfl rfl (by omega) (x := encR [⟨0, 0⟩, ⟨1, 1⟩]) rfl) rfl rfl rfl rfl ?_
  refine HW_run hE 4 rfl rfl ?_
  refine HW_as 44 (.d (boo true)) (by rfl) ?_
  refine HW_run hE 1 rfl rfl ?_
  refine HW_run hE 1 rfl rfl ?_
  refine HW_fgt (s' := (sset (sset (sset (sset (sset noSlots 1 (.d (SK kQw))) 3 (.d (.iptr (encP (pQw false))))) 4 (.d (.sl 1 24 (([[⟨0, 0⟩, ⟨1, 1⟩], [⟨0, 0⟩, ⟨1, 2⟩], [⟨0, 1⟩, ⟨1, 2⟩]] : List (List Bd)).map encR)))) 5 (.d (.sl 1 24 (([[⟨0, 0⟩, ⟨1, 1⟩], [⟨0, 1⟩, ⟨1, 2⟩]] : List (List Bd)).map encR)))) 46 (.d (boo true)))) (fgt_set (fgt_set (fgt_set (fgt_set (fgt_set (fgt_no _) (by rfl)) (by rfl)) (by rfl)) (by rfl)) (by rfl)) ?_
  refine HW_run hE 1 rfl rfl ?_
  refine HW_loc hE (loc_indexAddr hE rfl rfl rfl rfl rfl (by omega) (x := encR [⟨0, 0⟩, ⟨1, 1⟩]) rfl) rfl rfl rfl rfl ?_
  refine HW_run hE 2 rfl rfl ?_
  refine HW_loc hE (loc_indexAddr hE rfl rfl rfl rfl rfl (by omega) (x := encBd ⟨1, 1⟩) rfl) rfl rfl rfl rfl ?_
  refine HW_run hE 1 rfl rfl ?_
  refine HW_loc hE (loc_build hE rfl rfl) rfl rfl rfl rfl ?_
  refine HW_loc hE (loc_eql rfl rfl rfl (r := true) (eqLaw_flat T_ok (t := 110) rfl (by decide +kernel) rfl (X := encBd ⟨1, 1⟩) (Y := encBd ⟨1, 1⟩) rfl rfl rfl)) rfl rfl rfl rfl ?_
  refine HW_run hE 2 rfl rfl ?_
  refine HW_fgt (s' := (sset (sset (sset (sset (sset noSlots 1 (.d (SK kQw))) 3 (.d (.iptr (encP (pQw false))))) 4 (.d (.sl 1 24 (([[⟨0, 0⟩, ⟨1, 1⟩], [⟨0, 0⟩, ⟨1, 2⟩], [⟨0, 1⟩, ⟨1, 2⟩]] : List (List Bd)).map encR)))) 5 (.d (.sl 1 24 (([[⟨0, 0⟩, ⟨1, 1⟩], [⟨0, 1⟩, ⟨1, 2⟩]] : List (List Bd)).map encR)))) 56 (.d (boo true)))) (fgt_set (fgt_set (fgt_set (fgt_set (fgt_set (fgt_no _) (by rfl)) (by rfl)) (by rfl)) (by rfl)) (by rfl)) ?_
  refine HW_call hE (base11) rfl rfl rfl rfl rfl rfl rfl rfl ?_
  refine HW_run hE 2 rfl rfl ?_
  refine HW_loc hE (loc_build hE rfl rfl) rfl rfl rfl rfl ?_
  refine HW_loc hE (loc_lits hE (t := 105) (len := 1) (parts := #[(0, .tmp 60)]) rfl rfl rfl rfl rfl rfl rfl rfl (xs := [encBd ⟨0, 1⟩]) rfl) rfl rfl rfl rfl ?_
  refine HW_call hE (qP) rfl rfl rfl rfl rfl rfl rfl rfl ?_
  refine HW_run hE 2 rfl rfl ?_
  refine HW_fgt (s' := (sset (sset (sset (sset (sset noSlots 1 (.d (SK kQw))) 3 (.d (.iptr (encP (pQw false))))) 4 (.d (.sl 1 24 (([[⟨0, 0⟩, ⟨1, 1⟩], [⟨0, 0⟩, ⟨1, 2⟩], [⟨0, 1⟩, ⟨1, 2⟩]] : List (List Bd)).map encR)))) 5 (.d (.sl 1 24 (([[⟨0, 0⟩, ⟨1, 1⟩], [⟨0, 1⟩, ⟨1, 2⟩]] : List (List Bd)).map encR)))) 64 (.d (boo true)))) (fgt_set (fgt_set (fgt_set (fgt_set (fgt_set (fgt_no _) (by rfl)) (by rfl)) (by rfl)) (by rfl)) (by rfl)) ?_
  refine HW_call hE (base11) rfl rfl rfl rfl rfl rfl rfl rfl ?_
  refine HW_run hE 2 rfl rfl ?_
  refine HW_call hE (qN) rfl rfl rfl rfl rfl rfl rfl rfl ?_
  refine HW_run hE 3 rfl rfl ?_
  refine HW_fgt (s' := (sset (sset (sset (sset (sset noSlots 1 (.d (SK kQw))) 3 (.d (.iptr (encP (pQw false))))) 4 (.d (.sl 1 24 (([[⟨0, 0⟩, ⟨1, 1⟩], [⟨0, 0⟩, ⟨1, 2⟩], [⟨0, 1⟩, ⟨1, 2⟩]] : List (List Bd)).map encR)))) 5 (.d (.sl 1 24 (([[⟨0, 0⟩, ⟨1, 1⟩], [⟨0, 1⟩, ⟨1, 2⟩]] : List (List Bd)).map encR)))) 71 (.d (boo true)))) (fgt_set (fgt_set (fgt_set (fgt_set (fgt_set (fgt_no _) (by rfl)) (by rfl)) (by rfl)) (by rfl)) (by rfl)) ?_
  refine HW_loc hE (loc_build hE rfl rfl) rfl rfl rfl rfl ?_
  refine HW_loc hE (loc_lits hE (t := 105) (len := 1) (parts := #[(0, .tmp 72)]) rfl rfl rfl rfl rfl rfl rfl rfl (xs := [encBd ⟨0, 1⟩]) rfl) rfl rfl rfl rfl ?_
  refine HW_loc hE (loc_build hE rfl rfl) rfl rfl rfl rfl ?_
  refine HW_loc hE (loc_lits hE (t := 105) (len := 1) (parts := #[(0, .tmp 74)]) rfl rfl rfl rfl rfl rfl rfl rfl (xs := [encBd ⟨0, 2⟩]) rfl) rfl rfl rfl rfl ?_
  refine HW_call hE (qL) rfl rfl rfl rfl rfl rfl rfl rfl ?_
  refine HW_run hE 2 rfl rfl ?_
  refine HW_fgt (s' := (sset (sset (sset (sset (sset noSlots 1 (.d (SK kQw))) 3 (.d (.iptr (encP (pQw false))))) 4 (.d (.sl 1 24 (([[⟨0, 0⟩, ⟨1, 1⟩], [⟨0, 0⟩, ⟨1, 2⟩], [⟨0, 1⟩, ⟨1, 2⟩]] : List (List Bd)).map encR)))) 5 (.d (.sl 1 24 (([[⟨0, 0⟩, ⟨1, 1⟩], [⟨0, 1⟩, ⟨1, 2⟩]] : List (List Bd)).map encR)))) 78 (.d (boo true)))) (fgt_set (fgt_set (fgt_set (fgt_set (fgt_set (fgt_no _) (by rfl)) (by rfl)) (by rfl)) (by rfl)) (by rfl)) ?_
  refine HW_call hE (field11 (ch 97) (ch 110)) rfl rfl rfl rfl rfl rfl rfl rfl ?_
  refine HW_run hE 2 rfl rfl ?_
  refine HW_as 81 (.d (boo true)) (by show AV.d (.lit (.bool ((ch 97).toList == (⟨#[97]⟩ : ByteArray).toList))) = _; rw [show ((ch 97).toList == (⟨#[97]⟩ : ByteArray).toList) = true by decide +kernel]; rfl) ?_
  refine HW_run hE 1 rfl rfl ?_
  refine HW_run hE 1 rfl rfl ?_
  refine HW_fgt (s' := (sset (sset (sset (sset (sset noSlots 1 (.d (SK kQw))) 3 (.d (.iptr (encP (pQw false))))) 4 (.d (.sl 1 24 (([[⟨0, 0⟩, ⟨1, 1⟩], [⟨0, 0⟩, ⟨1, 2⟩], [⟨0, 1⟩, ⟨1, 2⟩]] : List (List Bd)).map encR)))) 5 (.d (.sl 1 24 (([[⟨0, 0⟩, ⟨1, 1⟩], [⟨0, 1⟩, ⟨1, 2⟩]] : List (List Bd)).map encR)))) 83 (.d (boo true)))) (fgt_set (fgt_set (fgt_set (fgt_set (fgt_set (fgt_no _) (by rfl)) (by rfl)) (by rfl)) (by rfl)) (by rfl)) ?_
  refine HW_call hE (lit11 1) rfl rfl rfl rfl rfl rfl rfl rfl ?_
  refine HW_call hE (lit11 1) rfl rfl rfl rfl rfl rfl rfl rfl ?_
  refine HW_call hE (two11 6 (litX 1) (litX 1)) rfl rfl rfl rfl rfl rfl rfl rfl ?_
  refine HW_run hE 2 rfl rfl ?_
  refine HW_end ?_
  refine OW_as' 88 (.d (boo true)) (by rfl) ?_
  refine OW_run' hE.ok 1 rfl ?_
  refine OW_run' hE.ok 1 rfl ?_
  refine OW_end rfl ?_
  refine CW_ret ?_
  refine ⟨.inr rfl, rfl, ⟨_, rfl, rfl, ?_⟩, rfl⟩
  exact AVle.refl _
end Go.Proofs.Ytojnicnbmgiplaa
