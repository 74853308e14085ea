/- Parts of an abstract logic over the kit's walks, and walks in it: D7p. -/
import Derived.Test.YtchpllgeahnmmaaDoorD7g
import Derived.Test.YtchpllgeahnmmaaDoorD7h
import Derived.Test.YtchpllgeahnmmaaDoorD7o
namespace Go.Proofs.YtchpllgeahnmmaaDoor
open Go Go.AL
set_option linter.unusedVariables false
set_option linter.unusedSimpArgs false
set_option maxHeartbeats 4000000
theorem copiedAt (s : List Ty) (i : Nat) (t : Ty) (ht : s[i]? = some t) : DoesM Tryd.prog 56 [] [argS s] (.agg [.row 50]) [(50, .rowA 72 2 s.length (cX (preD s i) (postD s i) t.name (.row 70))), (70, .row 69 2 (t.fields.map encF))] [] := by
  have h := copiedOk s i
  rw [copL_at ht] at h
  exact h

theorem eqC (a b : Chg) : EqLaw Tryd.prog 43 ((encC a).map .d) ((encC b).map .d) (sameC a b) := by
  rw [sameC_eq]
  exact eqLaw_tail T_ok (t := 43) (fs := [(3, 0), (9, 1), (9, 2), (9, 3)]) (t2 := 31) rfl (by decide +kernel) rfl (X := [int a.kind, str a.ty, str a.fld, str a.to]) (Y := [int b.kind, str b.ty, str b.fld, str b.to]) (X2 := encV a.dv) (Y2 := encV b.dv) rfl rfl rfl rfl (by decide +kernel) rfl rfl rfl rfl rfl rfl

theorem apply1 (t : Ty) (c : Chg) : Does Tryd.prog 55 [argT t, .d (.iptr (encC c))] noHeap (.d (boo (same t.name c.ty))) := by
  refine Does_of T_ok mixed (N := 9) Tryd.func55 rfl rfl rfl (by rfl) fun F n Z hE hF J => ?_
  refine CW_seq ?_
  refine CW_region ?_
  refine OW_run' hE.ok 2 rfl ?_
  refine OW_end rfl ?_
  refine CW_seq ?_
  refine CW_region ?_
  refine OW_run' hE.ok 6 rfl ?_
  refine OW_end rfl ?_
  refine CW_ret ?_
  refine ⟨.inr rfl, rfl, ⟨_, rfl, rfl, ?_⟩, rfl⟩
  exact AVle.refl _

theorem applyOk (s : List Ty) (c : Chg) (hs : isSchema s = true) : Does Tryd.prog 18 [argS s, argC c] noHeap (.tup [argS (applyX s c).1, .d (errC 74 (applyX s c).2)]) := by
  refine Does_of T_ok mixed (N := 60) Tryd.func18 rfl rfl rfl (by rfl) fun F n Z hE hF J => ?_
  refine CW_seq ?_
  refine CW_region ?_
  refine OW_run' hE.ok 2 rfl ?_
  refine OW_alloc' hE 1 rfl rfl rfl rfl rfl rfl rfl ?_
  refine OW_run' hE.ok 1 rfl ?_
  refine OW_end rfl ?_
  refine CW_seq ?_
  refine CW_seq ?_
  refine CW_drawn' hE 18 (by decide +kernel) ?_
  refine HW_run hE 4 rfl rfl ?_
  refine HW_split 12 rfl (fun h1 => ?_) (fun h1 => ?_)
  · skip
    have q1 : decide (c.kind < 1) = true := h1
    refine HW_run hE 14 rfl rfl ?_
    refine HW_end ?_
    refine OW_run' hE.ok 2 rfl ?_
    refine OW_end rfl ?_
    refine CW_true rfl ?_
    refine CW_seq ?_
    refine CW_region ?_
    refine OW_run' hE.ok 2 rfl ?_
    refine OW_store' hE rfl rfl rfl rfl rfl rfl rfl rfl rfl rfl rfl rfl ?_
    refine OW_run' hE.ok 1 rfl ?_
    refine OW_end rfl ?_
    refine CW_ret ?_
    refine ⟨.inr rfl, rfl, ⟨_, rfl, rfl, ?_⟩, rfl⟩
    rw [ap_bad (bc_1 q1)]
    exact AVle.refl _
  · skip
    have q1 : decide (c.kind < 1) = false := h1
    refine HW_run hE 5 rfl rfl ?_
    refine HW_split 17 rfl (fun h2 => ?_) (fun h2 => ?_)
    · skip
      have q2 : decide (c.kind > 5) = true := h2
      refine HW_run hE 9 rfl rfl ?_
      refine HW_end ?_
      refine OW_run' hE.ok 2 rfl ?_
      refine OW_end rfl ?_
      refine CW_true rfl ?_
      refine CW_seq ?_
      refine CW_region ?_
      refine OW_run' hE.ok 2 rfl ?_
      refine OW_store' hE rfl rfl rfl rfl rfl rfl rfl rfl rfl rfl rfl rfl ?_
      refine OW_run' hE.ok 1 rfl ?_
      refine OW_end rfl ?_
      refine CW_ret ?_
      refine ⟨.inr rfl, rfl, ⟨_, rfl, rfl, ?_⟩, rfl⟩
      rw [ap_bad (bc_2 q2)]
      exact AVle.refl _
    · skip
      have q2 : decide (c.kind > 5) = false := h2
      refine HW_run hE 2 rfl rfl ?_
      refine HW_call hE (nameOk c.ty) rfl rfl rfl rfl rfl rfl rfl rfl ?_
      refine HW_run hE 3 rfl rfl ?_
      refine HW_split 23 rfl (fun h3 => ?_) (fun h3 => ?_)
      · skip
        have q3 : (!isName c.ty) = true := h3
        refine HW_run hE 3 rfl rfl ?_
        refine HW_end ?_
        refine OW_run' hE.ok 2 rfl ?_
        refine OW_end rfl ?_
        refine CW_true rfl ?_
        refine CW_seq ?_
        refine CW_region ?_
        refine OW_run' hE.ok 2 rfl ?_
        refine OW_store' hE rfl rfl rfl rfl rfl rfl rfl rfl rfl rfl rfl rfl ?_
        refine OW_run' hE.ok 1 rfl ?_
        refine OW_end rfl ?_
        refine CW_ret ?_
        refine ⟨.inr rfl, rfl, ⟨_, rfl, rfl, ?_⟩, rfl⟩
        rw [ap_bad (bc_3 q3)]
        exact AVle.refl _
      · skip
        have q3 : (!isName c.ty) = false := h3
        refine HW_run hE 2 rfl rfl ?_
        refine HW_call hE (ownOk c) rfl rfl rfl rfl rfl rfl rfl rfl ?_
        refine HW_end ?_
        refine OW_loc' hE (loc_neq rfl rfl rfl (r := sameC c (ownC c)) (eqC c (ownC c))) rfl rfl rfl ?_
        refine OW_run' hE.ok 1 rfl ?_
        refine OW_end rfl ?_
        refine CW_cond _ rfl (fun h4 => ?_) (fun h4 => ?_)
        · skip
          have hbad : badC c = true := bc_4 h4
          refine CW_seq ?_
          refine CW_region ?_
          refine OW_run' hE.ok 2 rfl ?_
          refine OW_store' hE rfl rfl rfl rfl rfl rfl rfl rfl rfl rfl rfl rfl ?_
          refine OW_run' hE.ok 1 rfl ?_
          refine OW_end rfl ?_
          refine CW_ret ?_
          refine ⟨.inr rfl, rfl, ⟨_, rfl, rfl, ?_⟩, rfl⟩
          rw [ap_bad hbad]
          exact AVle.refl _
        · skip
          have hgood : badC c = false := bc_0 q1 q2 q3 h4
          refine CW_skip ?_
          refine CW_seq ?_
          refine CW_seq ?_
          refine CW_region ?_
          refine OW_run' hE.ok 3 rfl ?_
          refine OW_end rfl ?_
          refine CW_cond _ rfl (fun h5 => ?_) (fun h5 => ?_)
          · skip
            have k5 : (c.kind == 5) = true := h5
            refine CW_seq ?_
            refine CW_region ?_
            refine OW_run' hE.ok 2 rfl ?_
            refine OW_call' hE (addsOk s c) rfl rfl rfl rfl rfl rfl rfl ?_
            refine OW_run' hE.ok 2 rfl ?_
            refine OW_store' hE rfl rfl rfl rfl rfl rfl rfl rfl rfl rfl rfl rfl ?_
            refine OW_run' hE.ok 1 rfl ?_
            refine OW_end rfl ?_
            refine CW_ret ?_
            refine ⟨.inr rfl, rfl, ⟨_, rfl, rfl, ?_⟩, rfl⟩
            rw [ap_5 hgood k5]
            exact AVle.refl _
          · skip
            have k5 : (c.kind == 5) = false := h5
            refine CW_skip ?_
            refine CW_seq ?_
            refine CW_region ?_
            refine OW_run' hE.ok 3 rfl ?_
            refine OW_call' hE (indexT s 55 [] [.iptr (encC c)] (fun t => same t.name c.ty) (fun a _ => apply1 a c)) rfl rfl rfl rfl rfl rfl rfl ?_
            refine OW_run' hE.ok 1 rfl ?_
            refine OW_end rfl ?_
            refine CW_seq ?_
            refine CW_seq ?_
            refine CW_region ?_
            refine OW_run' hE.ok 2 rfl ?_
            refine OW_end rfl ?_
            refine CW_cond _ rfl (fun h6 => ?_) (fun h6 => ?_)
            · skip
              have k6 : decide (typeIdx s c.ty < 0) = true := h6
              refine CW_seq ?_
              refine CW_region ?_
              refine OW_run' hE.ok 2 rfl ?_
              refine OW_store' hE rfl rfl rfl rfl rfl rfl rfl rfl rfl rfl rfl rfl ?_
              refine OW_run' hE.ok 1 rfl ?_
              refine OW_end rfl ?_
              refine CW_ret ?_
              refine ⟨.inr rfl, rfl, ⟨_, rfl, rfl, ?_⟩, rfl⟩
              rw [ap_no hgood k5 k6]
              exact AVle.refl _
            · skip
              obtain ⟨i, t, hix, ht⟩ := typeX_at (s := s) (nm := c.ty) (by have h : decide (typeIdx s c.ty < 0) = false := h6; simpa using h)
              have hfew := right_fields hs ht
              have hil := (List.getElem?_eq_some_iff.1 ht).1
              refine CW_as' 6 (.d (int ((i : Nat) : Int))) (congrArg (fun z => AV.d (int z)) hix) ?_
              refine CW_skip ?_
              refine CW_seq ?_
              refine CW_region ?_
              refine OW_run' hE.ok 1 rfl ?_
              refine OW_callM' hE (tr []) (copiedAt s i t ht) rfl rfl rfl rfl rfl trivial rfl rfl ?_
              refine OW_alloc' hE 2 rfl rfl rfl rfl rfl rfl rfl ?_
              refine OW_store' hE rfl rfl rfl rfl rfl rfl rfl rfl rfl rfl rfl rfl ?_
              refine OW_end rfl ?_
              refine CW_seq ?_
              refine CW_seq ?_
              refine CW.le (show LE _ _ ⟨J, (sset (sset (sset (sset (sset noSlots 2 (.d (.iptr [encS s]))) 3 (.d (.iptr (encC c)))) 4 (.ptr 1 0)) 6 (.d (int ((i : Nat) : Int)))) 7 (.ptr 2 0)), (hset (hset (hset (hset noHeap 1 (some (.box 24 [.d (.lit (.slice none 0 0))]))) 2 (some (.box 24 [.row 50]))) 50 (some (.rowA 72 2 s.length (cX (preD s i) (postD s i) t.name (.row 70))))) 70 (some (.row 69 2 (t.fields.map encF))))⟩ from LE_sh (slh_set (v := .ptr 2 0) (slh_set (v := .d (int ((i : Nat) : Int))) (slh_set (v := .ptr 1 0) (slh_set (v := .d (.iptr (encC c))) (slh_set (v := .d (.iptr [encS s])) (slh_no _ _) (by rfl) rfl) (by rfl) rfl) (by rfl) rfl) (by rfl) rfl) (by rfl) rfl) (hlh_set (hlh_set (hlh_set (hlh_set (hlh_no _ _) rfl rfl) rfl rfl) (by exact congrArg (fun z => some (Ent.rowA 72 2 s.length z)) (cX_rn _ _ _ _ _)) (by exact cX_in rfl)) rfl rfl)) ?_
              refine CW_drawn' hE 5 (by decide +kernel) ?_
              refine HW_run hE 3 rfl rfl ?_
              refine HW_loc hE (loc_idxRowA hE rfl rfl rfl rfl rfl (j := i) rfl hil) rfl rfl rfl rfl ?_
              refine HW_run hE 1 rfl rfl ?_
              refine HW_end ?_
              refine OW_callM' hE (tr []) (changesOk (preD s i) (postD s i) t c i s.length (preD_len ht) (by omega)) rfl rfl rfl rfl rfl ⟨by show _ = some (Ent.rowA 72 2 s.length (rnAs _ _)); rw [cX_rn]; rfl, rfl, trivial⟩ rfl rfl ?_
              refine OW_run' hE.ok 1 rfl ?_
              refine OW_end rfl ?_
              refine CW_seq ?_
              refine CW.le (show LE _ _ ⟨J, (sset (sset (sset (sset noSlots 2 (.d (.iptr [encS s]))) 4 (.ptr 1 0)) 7 (.ptr 2 0)) 8 (.d (errC 74 (changeT t c).2))), (hset (hset (hset (hset noHeap 1 (some (.box 24 [.d (.lit (.slice none 0 0))]))) 2 (some (.box 24 [.row 50]))) 50 (some (.rowA 72 2 s.length (cX (preD s i) (postD s i) t.name (.row 70))))) 70 (some (.row 69 2 ((changeT t c).1.fields.map encF))))⟩ from LE_sh (slh_set (v := .d (errC 74 (changeT t c).2)) (slh_set (v := .ptr 2 0) (slh_set (v := .ptr 1 0) (slh_set (v := .d (.iptr [encS s])) (slh_no _ _) (by rfl) rfl) (by rfl) rfl) (by rfl) rfl) (by rfl) rfl) (hlh_set (hlh_set (hlh_set (hlh_set (hlh_no _ _) rfl rfl) rfl rfl) (by exact congrArg (fun z => some (Ent.rowA 72 2 s.length z)) (cX_rn _ _ _ _ _)) (by exact cX_in rfl)) rfl rfl)) ?_
              refine CW_region ?_
              refine OW_run' hE.ok 1 rfl ?_
              refine OW_loc' hE (loc_errNe hE rfl rfl rfl) rfl rfl rfl ?_
              refine OW_end rfl ?_
              refine CW_cond _ rfl (fun h7 => ?_) (fun h7 => ?_)
              · skip
                have he : ((changeT t c).2 != 0) = true := h7
                refine CW_seq ?_
                refine CW_region ?_
                refine OW_run' hE.ok 2 rfl ?_
                refine OW_store' hE rfl rfl rfl rfl rfl rfl rfl rfl rfl rfl rfl rfl ?_
                refine OW_run' hE.ok 1 rfl ?_
                refine OW_end rfl ?_
                refine CW_ret ?_
                refine ⟨.inr rfl, rfl, ⟨_, rfl, rfl, ?_⟩, rfl⟩
                rw [ap_err hgood k5 hix ht he]
                exact AVle.refl _
              · skip
                have he : ((changeT t c).2 != 0) = false := h7
                refine CW_skip ?_
                refine CW_seq ?_
                refine CW.le (LE_freeze 70 24 rfl (by have := change_few t c; simp; omega)) ?_
                refine CW.le (show LE _ _ ⟨J, (sset (sset noSlots 4 (.ptr 1 0)) 7 (.ptr 2 0)), (hset (hset (hset noHeap 1 (some (.box 24 [.d (.lit (.slice none 0 0))]))) 2 (some (.box 24 [.row 50]))) 50 (some (.rowA 72 2 s.length (cX (preD s i) (postD s i) t.name (.d (.sl 2 24 ((changeT t c).1.fields.map encF)))))))⟩ from LE_sh (slh_set (v := .ptr 2 0) (slh_set (v := .ptr 1 0) (slh_no _ _) (by rfl) rfl) (by rfl) rfl) (hlh_set (hlh_set (hlh_set (hlh_no _ _) rfl rfl) rfl rfl) (by exact congrArg (fun z => some (Ent.rowA 72 2 s.length z)) (cX_fz _ _ _ _ _ _)) (by exact cX_in rfl))) ?_
                rw [cX_set ht (change_name t c)]
                refine CW.le (LE_rowD 50 (xs := (s.set i (changeT t c).1).map encT) rfl (by simp) rfl (enc_two _)) ?_
                have hsl := right_len hs
                refine CW.le (LE_freeze 50 40 rfl (by simp; omega)) ?_
                refine CW_region ?_
                refine OW_run' hE.ok 1 rfl ?_
                refine OW_store' hE rfl rfl rfl rfl rfl rfl rfl rfl rfl rfl rfl rfl ?_
                refine OW_run' hE.ok 1 rfl ?_
                refine OW_end rfl ?_
                refine CW_ret ?_
                refine ⟨.inr rfl, rfl, ⟨_, rfl, rfl, ?_⟩, rfl⟩
                rw [ap_ok hgood k5 hix ht he]
                exact AVle.refl _
end Go.Proofs.YtchpllgeahnmmaaDoor
