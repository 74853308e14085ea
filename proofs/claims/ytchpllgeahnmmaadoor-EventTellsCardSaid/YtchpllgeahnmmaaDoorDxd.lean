/- Parts of an abstract logic over the kit's walks, and walks in it: D7p, D7m. -/
import Derived.Test.YtchpllgeahnmmaaDoorDxc
import Derived.Test.YtchpllgeahnmmaaDoorDxb
import Derived.Test.YtchpllgeahnmmaaDoorDxa
namespace Go.Proofs.YtchpllgeahnmmaaDoor
open Go Go.AL
set_option linter.unusedVariables false
set_option linter.unusedSimpArgs false
set_option maxHeartbeats 4000000
theorem copiedAt (s : List Ty) (i : Nat) (t : Ty) (ht : s[i]? = some t) : DoesM Tryd.prog 56 [] [argS s] (.agg [.row 50]) [(50, .rowA 72 2 s.length (cX (preD s i) (postD s i) t.name (.row 70))), (70, .row 69 2 (t.fields.map encF))] [] := by
 have h := copiedOk s i
 rw [copL_at ht] at h
 exact h
theorem eqC (a b : Chg) : EqLaw Tryd.prog 43 ((encC a).map .d) ((encC b).map .d) (sameC a b) := by
 rw [sameC_eq]
 exact eqLaw_tail T_ok (t := 43) (fs := [(3, 0), (9, 1), (9, 2), (9, 3)]) (t2 := 31) rfl (by decide +kernel) rfl (X := [int a.kind, str a.ty, str a.fld, str a.to]) (Y := [int b.kind, str b.ty, str b.fld, str b.to]) (X2 := encV a.dv) (Y2 := encV b.dv) rfl rfl rfl rfl (by decide +kernel) rfl rfl rfl rfl rfl rfl
theorem apply1 (t : Ty) (c : Chg) : Does Tryd.prog 55 [argT t, .d (.iptr (encC c))] noHeap (.d (boo (same t.name c.ty))) := by
 refine Does_of T_ok mixed (N := 9) Tryd.func55 rfl rfl rfl (by rfl) fun F n Z hE hF J => ?_
 refine CW_seq ?_
 refine CW_region ?_
 refine OW_run' hE.ok 2 rfl ?_
 refine OW_end rfl ?_
 refine CW_seq ?_
 refine CW_region ?_
 refine OW_run' hE.ok 6 rfl ?_
 refine OW_end rfl ?_
 refine CW_ret ?_
 refine ⟨.inr rfl, rfl, ⟨_, rfl, rfl, ?_⟩, rfl⟩
 exact AVle.refl _
theorem applyOk (s : List Ty) (c : Chg) (hs : isSchema s = true) : Does Tryd.prog 18 [argS s, argC c] noHeap (.tup [argS (applyX s c).1, .d (errC 74 (applyX s c).2)]) := by
 refine Does_of T_ok mixed (N := 60) Tryd.func18 rfl rfl rfl (by rfl) fun F n Z hE hF J => ?_
 refine CW_seq ?_
 refine CW_region ?_
 refine OW_run' hE.ok 2 rfl ?_
 refine OW_alloc' hE 1 rfl rfl rfl rfl rfl rfl rfl ?_
 refine OW_run' hE.ok 1 rfl ?_
 refine OW_end rfl ?_
 refine CW_seq ?_
 refine CW_seq ?_
 refine CW_drawn' hE 18 (by decide +kernel) ?_
 refine HW_run hE 4 rfl rfl ?_
 refine HW_split 12 rfl (fun h1 => ?_) (fun h1 => ?_)
 ·
  have q1 : decide (c.kind < 1) = true := h1
  refine HW_run hE 14 rfl rfl ?_
  refine HW_end ?_
  refine OW_run' hE.ok 2 rfl ?_
  refine OW_end rfl ?_
  refine CW_true rfl ?_
  refine CW_seq ?_
  refine CW_region ?_
  refine OW_run' hE.ok 2 rfl ?_
  refine OW_store' hE rfl rfl rfl rfl rfl rfl rfl rfl rfl rfl rfl rfl ?_
  refine OW_run' hE.ok 1 rfl ?_
  refine OW_end rfl ?_
  refine CW_ret ?_
  refine ⟨.inr rfl, rfl, ⟨_, rfl, rfl, ?_⟩, rfl⟩
  rw [ap_bad (bc_1 q1)]
  exact AVle.refl _
 ·
  have q1 : decide (c.kind < 1) = false := h1
  refine HW_run hE 5 rfl rfl ?_
  refine HW_split 17 rfl (fun h2 => ?_) (fun h2 => ?_)
  ·
   have q2 : decide (c.kind > 5) = true := h2
   refine HW_run hE 9 rfl rfl ?_
   refine HW_end ?_
   refine OW_run' hE.ok 2 rfl ?_
   refine OW_end rfl ?_
   refine CW_true rfl ?_
   refine CW_seq ?_
   refine CW_region ?_
   refine OW_run' hE.ok 2 rfl ?_
   refine OW_store' hE rfl rfl rfl rfl rfl rfl rfl rfl rfl rfl rfl rfl ?_
   refine OW_run' hE.ok 1 rfl ?_
   refine OW_end rfl ?_
   refine CW_ret ?_
   refine ⟨.inr rfl, rfl, ⟨_, rfl, rfl, ?_⟩, rfl⟩
   rw [ap_bad (bc_2 q2)]
   exact AVle.refl _
  ·
   have q2 : decide (c.kind > 5) = false := h2
   refine HW_run hE 2 rfl rfl ?_
   refine HW_call hE (nameOk c.ty) rfl rfl rfl rfl rfl rfl rfl rfl ?_
   refine HW_run hE 3 rfl rfl ?_
   refine HW_split 23 rfl (fun h3 => ?_) (fun h3 => ?_)
   ·
    have q3 : (!isName c.ty) = true := h3
    refine HW_run hE 3 rfl rfl ?_
    refine HW_end ?_
    refine OW_run' hE.ok 2 rfl ?_
    refine OW_end rfl ?_
    refine CW_true rfl ?_
    refine CW_seq ?_
    refine CW_region ?_
    refine OW_run' hE.ok 2 rfl ?_
    refine OW_store' hE rfl rfl rfl rfl rfl rfl rfl rfl rfl rfl rfl rfl ?_
    refine OW_run' hE.ok 1 rfl ?_
    refine OW_end rfl ?_
    refine CW_ret ?_
    refine ⟨.inr rfl, rfl, ⟨_, rfl, rfl, ?_⟩, rfl⟩
    rw [ap_bad (bc_3 q3)]
    exact AVle.refl _
   ·
    have q3 : (!isName c.ty) = false := h3
    refine HW_run hE 2 rfl rfl ?_
    refine HW_call hE (ownOk c) rfl rfl rfl rfl rfl rfl rfl rfl ?_
    refine HW_end ?_
    refine OW_loc' hE (loc_neq rfl rfl rfl (r := sameC c (ownC c)) (eqC c (ownC c))) rfl rfl rfl ?_
    refine OW_run' hE.ok 1 rfl ?_
    refine OW_end rfl ?_
    refine CW_cond _ rfl (fun h4 => ?_) (fun h4 => ?_)
    ·
     have hbad : badC c = true := bc_4 h4
     refine CW_seq ?_
     refine CW_region ?_
     refine OW_run' hE.ok 2 rfl ?_
     refine OW_store' hE rfl rfl rfl rfl rfl rfl rfl rfl rfl rfl rfl rfl ?_
     refine OW_run' hE.ok 1 rfl ?_
     refine OW_end rfl ?_
     refine CW_ret ?_
     refine ⟨.inr rfl, rfl, ⟨_, rfl, rfl, ?_⟩, rfl⟩
     rw [ap_bad hbad]
     exact AVle.refl _
    ·
     have hgood : badC c = false := bc_0 q1 q2 q3 h4
     refine CW_skip ?_
     refine CW_seq ?_
     refine CW_seq ?_
     refine CW_region ?_
     refine OW_run' hE.ok 3 rfl ?_
     refine OW_end rfl ?_
     refine CW_cond _ rfl (fun h5 => ?_) (fun h5 => ?_)
     ·
      have k5 : (c.kind == 5) = true := h5
      refine CW_seq ?_
      refine CW_region ?_
      refine OW_run' hE.ok 2 rfl ?_
      refine OW_call' hE (addsOk s c) rfl rfl rfl rfl rfl rfl rfl ?_
      refine OW_run' hE.ok 2 rfl ?_
      refine OW_store' hE rfl rfl rfl rfl rfl rfl rfl rfl rfl rfl rfl rfl ?_
      refine OW_run' hE.ok 1 rfl ?_
      refine OW_end rfl ?_
      refine CW_ret ?_
      refine ⟨.inr rfl, rfl, ⟨_, rfl, rfl, ?_⟩, rfl⟩
      rw [ap_5 hgood k5]
      exact AVle.refl _
     ·
      have k5 : (c.kind == 5) = false := h5
      refine CW_skip ?_
      refine CW_seq ?_
      refine CW_region ?_
      refine OW_run' hE.ok 3 rfl ?_
      refine OW_call' hE (indexT s 55 [] [.iptr (encC c)] (fun t => same t.name c.ty) (fun a _ => apply1 a c)) rfl rfl rfl rfl rfl rfl rfl ?_
      refine OW_run' hE.ok 1 rfl ?_
      refine OW_end rfl ?_
      refine CW_seq ?_
      refine CW_seq ?_
      refine CW_region ?_
      refine OW_run' hE.ok 2 rfl ?_
      refine OW_end rfl ?_
      refine CW_cond _ rfl (fun h6 => ?_) (fun h6 => ?_)
      ·
       have k6 : decide (typeIdx s c.ty < 0) = true := h6
       refine CW_seq ?_
       refine CW_region ?_
       refine OW_run' hE.ok 2 rfl ?_
       refine OW_store' hE rfl rfl rfl rfl rfl rfl rfl rfl rfl rfl rfl rfl ?_
       refine OW_run' hE.ok 1 rfl ?_
       refine OW_end rfl ?_
       refine CW_ret ?_
       refine ⟨.inr rfl, rfl, ⟨_, rfl, rfl, ?_⟩, rfl⟩
       rw [ap_no hgood k5 k6]
       exact AVle.refl _
      ·
       obtain ⟨i, t, hix, ht⟩ := typeX_at (s := s) (nm := c.ty) (by have h : decide (typeIdx s c.ty < 0) = false := h6; simpa using h)
       have hfew := right_fields hs ht
       have hil := (List.getElem?_eq_some_iff.1 ht).1
       refine CW_as' 6 (.d (int ((i : Nat) : Int))) (congrArg (fun z => AV.d (int z)) hix) ?_
       refine CW_skip ?_
       refine CW_seq ?_
       refine CW_region ?_
       refine OW_run' hE.ok 1 rfl ?_
       refine OW_callM' hE (tr []) (copiedAt s i t ht) rfl rfl rfl rfl rfl trivial rfl rfl ?_
       refine OW_alloc' hE 2 rfl rfl rfl rfl rfl rfl rfl ?_
       refine OW_store' hE rfl rfl rfl rfl rfl rfl rfl rfl rfl rfl rfl rfl ?_
       refine OW_end rfl ?_
       refine CW_seq ?_
       refine CW_seq ?_
       refine CW.le (show LE _ _ ⟨J, (sset (sset (sset (sset (sset noSlots 2 (.d (.iptr [encS s]))) 3 (.d (.iptr (encC c)))) 4 (.ptr 1 0)) 6 (.d (int ((i : Nat) : Int)))) 7 (.ptr 2 0)), (hset (hset (hset (hset noHeap 1 (some (.box 24 [.d (.lit (.slice none 0 0))]))) 2 (some (.box 24 [.row 50]))) 50 (some (.rowA 72 2 s.length (cX (preD s i) (postD s i) t.name (.row 70))))) 70 (some (.row 69 2 (t.fields.map encF))))⟩ from LE_sh (slh_set (v := .ptr 2 0) (slh_set (v := .d (int ((i : Nat) : Int))) (slh_set (v := .ptr 1 0) (slh_set (v := .d (.iptr (encC c))) (slh_set (v := .d (.iptr [encS s])) (slh_no _ _) (by rfl) rfl) (by rfl) rfl) (by rfl) rfl) (by rfl) rfl) (by rfl) rfl) (hlh_set (hlh_set (hlh_set (hlh_set (hlh_no _ _) rfl rfl) rfl rfl) (by exact congrArg (fun z => some (Ent.rowA 72 2 s.length z)) (cX_rn _ _ _ _ _)) (by exact cX_in rfl)) rfl rfl)) ?_
       refine CW_drawn' hE 5 (by decide +kernel) ?_
       refine HW_run hE 3 rfl rfl ?_
       refine HW_loc hE (loc_idxRowA hE rfl rfl rfl rfl rfl (j := i) rfl hil) rfl rfl rfl rfl ?_
       refine HW_run hE 1 rfl rfl ?_
       refine HW_end ?_
       refine OW_callM' hE (tr []) (changesOk (preD s i) (postD s i) t c i s.length (preD_len ht) (by omega)) rfl rfl rfl rfl rfl ⟨by show _ = some (Ent.rowA 72 2 s.length (rnAs _ _)); rw [cX_rn]; rfl, rfl, trivial⟩ rfl rfl ?_
       refine OW_run' hE.ok 1 rfl ?_
       refine OW_end rfl ?_
       refine CW_seq ?_
       refine CW.le (show LE _ _ ⟨J, (sset (sset (sset (sset noSlots 2 (.d (.iptr [encS s]))) 4 (.ptr 1 0)) 7 (.ptr 2 0)) 8 (.d (errC 74 (changeT t c).2))), (hset (hset (hset (hset noHeap 1 (some (.box 24 [.d (.lit (.slice none 0 0))]))) 2 (some (.box 24 [.row 50]))) 50 (some (.rowA 72 2 s.length (cX (preD s i) (postD s i) t.name (.row 70))))) 70 (some (.row 69 2 ((changeT t c).1.fields.map encF))))⟩ from LE_sh (slh_set (v := .d (errC 74 (changeT t c).2)) (slh_set (v := .ptr 2 0) (slh_set (v := .ptr 1 0) (slh_set (v := .d (.iptr [encS s])) (slh_no _ _) (by rfl) rfl) (by rfl) rfl) (by rfl) rfl) (by rfl) rfl) (hlh_set (hlh_set (hlh_set (hlh_set (hlh_no _ _) rfl rfl) rfl rfl) (by exact congrArg (fun z => some (Ent.rowA 72 2 s.length z)) (cX_rn _ _ _ _ _)) (by exact cX_in rfl)) rfl rfl)) ?_
       refine CW_region ?_
       refine OW_run' hE.ok 1 rfl ?_
       refine OW_loc' hE (loc_errNe hE rfl rfl rfl) rfl rfl rfl ?_
       refine OW_end rfl ?_
       refine CW_cond _ rfl (fun h7 => ?_) (fun h7 => ?_)
       ·
        have he : ((changeT t c).2 != 0) = true := h7
        refine CW_seq ?_
        refine CW_region ?_
        refine OW_run' hE.ok 2 rfl ?_
        refine OW_store' hE rfl rfl rfl rfl rfl rfl rfl rfl rfl rfl rfl rfl ?_
        refine OW_run' hE.ok 1 rfl ?_
        refine OW_end rfl ?_
        refine CW_ret ?_
        refine ⟨.inr rfl, rfl, ⟨_, rfl, rfl, ?_⟩, rfl⟩
        rw [ap_err hgood k5 hix ht he]
        exact AVle.refl _
       ·
        have he : ((changeT t c).2 != 0) = false := h7
        refine CW_skip ?_
        refine CW_seq ?_
        refine CW.le (LE_freeze 70 24 rfl (by have := change_few t c; simp; omega)) ?_
        refine CW.le (show LE _ _ ⟨J, (sset (sset noSlots 4 (.ptr 1 0)) 7 (.ptr 2 0)), (hset (hset (hset noHeap 1 (some (.box 24 [.d (.lit (.slice none 0 0))]))) 2 (some (.box 24 [.row 50]))) 50 (some (.rowA 72 2 s.length (cX (preD s i) (postD s i) t.name (.d (.sl 2 24 ((changeT t c).1.fields.map encF)))))))⟩ from LE_sh (slh_set (v := .ptr 2 0) (slh_set (v := .ptr 1 0) (slh_no _ _) (by rfl) rfl) (by rfl) rfl) (hlh_set (hlh_set (hlh_set (hlh_no _ _) rfl rfl) rfl rfl) (by exact congrArg (fun z => some (Ent.rowA 72 2 s.length z)) (cX_fz _ _ _ _ _ _)) (by exact cX_in rfl))) ?_
        rw [cX_set ht (change_name t c)]
        refine CW.le (LE_rowD 50 (xs := (s.set i (changeT t c).1).map encT) rfl (by simp) rfl (enc_two _)) ?_
        have hsl := right_len hs
        refine CW.le (LE_freeze 50 40 rfl (by simp; omega)) ?_
        refine CW_region ?_
        refine OW_run' hE.ok 1 rfl ?_
        refine OW_store' hE rfl rfl rfl rfl rfl rfl rfl rfl rfl rfl rfl rfl ?_
        refine OW_run' hE.ok 1 rfl ?_
        refine OW_end rfl ?_
        refine CW_ret ?_
        refine ⟨.inr rfl, rfl, ⟨_, rfl, rfl, ?_⟩, rfl⟩
        rw [ap_ok hgood k5 hix ht he]
        exact AVle.refl _
end Go.Proofs.YtchpllgeahnmmaaDoor
namespace Go.Proofs.YtchpllgeahnmmaaDoor
open Go Go.AL
set_option linter.unusedVariables false
set_option linter.unusedSimpArgs false
set_option maxHeartbeats 4000000
theorem isEvC (s : List Ty) (e : Ev) : Does Tryd.prog 12 [argS s, argE e] noHeap (.d (errC 74 (evtR s e))) := by
 rw [← evErr_errC]
 exact isEvOk s e
theorem moveOk (s : List Ty) (c : Chg) (e : Ev) (hs : isSchema s = true) (hv : e.vals.length ≤ 1000) : Does Tryd.prog 24 [argS s, argC c, argE e] noHeap (argE (moveX s c e)) := by
 refine Does_of T_ok mixed (N := 101) Tryd.func24 rfl rfl rfl (by rfl) fun F n Z hE hF J => ?_
 refine CW_seq ?_
 refine CW_region ?_
 refine OW_run' hE.ok 3 rfl ?_
 refine OW_alloc' hE 1 rfl rfl rfl rfl rfl rfl rfl ?_
 refine OW_end rfl ?_
 refine CW_seq ?_
 refine CW_region ?_
 refine OW_run' hE.ok 1 rfl ?_
 refine OW_callOwn' hE 77 (copyOk e) rfl rfl rfl rfl rfl rfl rfl ?_
 refine OW_alloc' hE 2 rfl rfl rfl rfl rfl rfl rfl ?_
 refine OW_store' hE rfl rfl rfl rfl rfl rfl rfl rfl rfl rfl rfl rfl ?_
 refine OW_end rfl ?_
 refine CW_seq ?_
 refine CW_seq ?_
 refine CW_region ?_
 refine OW_run' hE.ok 2 rfl ?_
 refine OW_call' hE (applyOk s c hs) rfl rfl rfl rfl rfl rfl rfl ?_
 refine OW_run' hE.ok 3 rfl ?_
 refine OW_alloc' hE 3 rfl rfl rfl rfl rfl rfl rfl ?_
 refine OW_store' hE rfl rfl rfl rfl rfl rfl rfl rfl rfl rfl rfl rfl ?_
 refine OW_run' hE.ok 1 rfl ?_
 refine OW_end rfl ?_
 refine CW_seq ?_
 refine CW_region ?_
 refine OW_run' hE.ok 1 rfl ?_
 refine OW_loc' hE (loc_errNe hE rfl rfl rfl) rfl rfl rfl ?_
 refine OW_run' hE.ok 1 rfl ?_
 refine OW_split' 23 rfl (fun h1 => ?_) (fun h1 => ?_)
 ·
  have m1 : ((applyX s c).2 != 0) = true := h1
  refine OW_run' hE.ok 17 rfl ?_
  refine OW_end rfl ?_
  refine CW_true rfl ?_
  refine CW_seq ?_
  refine CW.le (LE_freeze 77 32 rfl (by simp; omega)) ?_
  refine CW_region ?_
  refine OW_run' hE.ok 1 rfl ?_
  refine OW_store' hE rfl rfl rfl rfl rfl rfl rfl rfl rfl rfl rfl rfl ?_
  refine OW_end rfl ?_
  refine CW_ret ?_
  refine ⟨.inr rfl, rfl, ⟨_, rfl, rfl, ?_⟩, rfl⟩
  rw [mv_0 (.inl m1)]
  exact AVle.refl _
 ·
  have m1 : ((applyX s c).2 != 0) = false := h1
  refine OW_run' hE.ok 2 rfl ?_
  refine OW_call' hE (isEvC s e) rfl rfl rfl rfl rfl rfl rfl ?_
  refine OW_loc' hE (loc_errNe hE rfl rfl rfl) rfl rfl rfl ?_
  refine OW_run' hE.ok 2 rfl ?_
  refine OW_split' 29 rfl (fun h2 => ?_) (fun h2 => ?_)
  ·
   have m2 : (evtR s e != 0) = true := h2
   refine OW_run' hE.ok 11 rfl ?_
   refine OW_end rfl ?_
   refine CW_true rfl ?_
   refine CW_seq ?_
   refine CW.le (LE_freeze 77 32 rfl (by simp; omega)) ?_
   refine CW_region ?_
   refine OW_run' hE.ok 1 rfl ?_
   refine OW_store' hE rfl rfl rfl rfl rfl rfl rfl rfl rfl rfl rfl rfl ?_
   refine OW_end rfl ?_
   refine CW_ret ?_
   refine ⟨.inr rfl, rfl, ⟨_, rfl, rfl, ?_⟩, rfl⟩
   rw [mv_0 (.inr (.inl m2))]
   exact AVle.refl _
  ·
   have m2 : (evtR s e != 0) = false := h2
   refine OW_run' hE.ok 7 rfl ?_
   refine OW_split' 36 rfl (fun h3 => ?_) (fun h3 => ?_)
   ·
    have m3 : (!(e.ty.toList == c.ty.toList)) = true := h3
    refine OW_run' hE.ok 4 rfl ?_
    refine OW_end rfl ?_
    refine CW_true rfl ?_
    refine CW_seq ?_
    refine CW.le (LE_freeze 77 32 rfl (by simp; omega)) ?_
    refine CW_region ?_
    refine OW_run' hE.ok 1 rfl ?_
    refine OW_store' hE rfl rfl rfl rfl rfl rfl rfl rfl rfl rfl rfl rfl ?_
    refine OW_end rfl ?_
    refine CW_ret ?_
    refine ⟨.inr rfl, rfl, ⟨_, rfl, rfl, ?_⟩, rfl⟩
    rw [mv_0 (.inr (.inr (.inl m3)))]
    exact AVle.refl _
   ·
    have m3 : (!(e.ty.toList == c.ty.toList)) = false := h3
    refine OW_run' hE.ok 4 rfl ?_
    refine OW_end rfl ?_
    refine CW_cond _ rfl (fun h4 => ?_) (fun h4 => ?_)
    ·
     have m4 : (c.kind == 5) = true := h4
     refine CW_seq ?_
     refine CW.le (LE_freeze 77 32 rfl (by simp; omega)) ?_
     refine CW_region ?_
     refine OW_run' hE.ok 1 rfl ?_
     refine OW_store' hE rfl rfl rfl rfl rfl rfl rfl rfl rfl rfl rfl rfl ?_
     refine OW_end rfl ?_
     refine CW_ret ?_
     refine ⟨.inr rfl, rfl, ⟨_, rfl, rfl, ?_⟩, rfl⟩
     rw [mv_0 (.inr (.inr (.inr m4)))]
     exact AVle.refl _
    ·
     have m4 : (c.kind == 5) = false := h4
     refine CW_skip ?_
     refine CW_seq ?_
     refine CW_region ?_
     refine OW_run' hE.ok 3 rfl ?_
     refine OW_call' hE (findOk s e.ty) rfl rfl rfl rfl rfl rfl rfl ?_
     refine OW_run' hE.ok 3 rfl ?_
     refine OW_alloc' hE 4 rfl rfl rfl rfl rfl rfl rfl ?_
     refine OW_store' hE rfl rfl rfl rfl rfl rfl rfl rfl rfl rfl rfl rfl ?_
     refine OW_run' hE.ok 1 rfl ?_
     refine OW_end rfl ?_
     refine CW_seq ?_
     refine CW_region ?_
     refine OW_run' hE.ok 3 rfl ?_
     refine OW_call' hE (fieldOk (findT s e.ty).1 c.fld) rfl rfl rfl rfl rfl rfl rfl ?_
     refine OW_run' hE.ok 1 rfl ?_
     refine OW_end rfl ?_
     refine CW_cutE (fun _ : Unit => ⟨J, (sset (sset noSlots 6 (.ptr 1 0)) 7 (.ptr 2 0)), (hset (hset (hset noHeap 1 (some (.box 27 [.d (str nul), .d (int 0), .d (.lit (.slice none 0 0))]))) 2 (some (.box 27 [.d (str e.ty), .d (int e.ts), .row 77]))) 77 (some (.row 31 3 ((valsX (findT s e.ty).1 c e.vals).map encV))))⟩) (fun _ => True) ?_ ?_
     ·
      refine CW_block ?_
      refine CW_seq ?_
      refine CW.le (show LE _ _ ⟨J, (sset (sset (sset (sset noSlots 4 (.d (.iptr (encC c)))) 6 (.ptr 1 0)) 7 (.ptr 2 0)) 12 (.d (int (fieldAt (findT s e.ty).1 c.fld)))), (hset (hset (hset noHeap 1 (some (.box 27 [.d (str nul), .d (int 0), .d (.lit (.slice none 0 0))]))) 2 (some (.box 27 [.d (str e.ty), .d (int e.ts), .row 77]))) 77 (some (.row 31 3 (e.vals.map encV))))⟩ from LE_sh (slh_set (v := .d (int (fieldAt (findT s e.ty).1 c.fld))) (slh_set (v := .ptr 2 0) (slh_set (v := .ptr 1 0) (slh_set (v := .d (.iptr (encC c))) (slh_no _ _) (by rfl) rfl) (by rfl) rfl) (by rfl) rfl) (by rfl) rfl) (hlh_set (hlh_set (hlh_set (hlh_no _ _) rfl rfl) rfl rfl) rfl rfl)) ?_
      refine CW_region ?_
      refine OW_run' hE.ok 4 rfl ?_
      refine OW_end rfl ?_
      refine CW_cond _ rfl (fun h5 => ?_) (fun h5 => ?_)
      ·
       have k1 : (c.kind == 1) = true := h5
       refine CW_region ?_
       refine OW_run' hE.ok 4 rfl ?_
       refine OW_lits' hE rfl rfl rfl rfl rfl rfl rfl rfl rfl rfl rfl rfl ?_
       refine OW_append' hE (key := 77) rfl rfl rfl rfl rfl rfl rfl rfl (.inl rfl) (by simp; omega) (by simp; omega) rfl ?_
       refine OW_run' hE.ok 1 rfl ?_
       refine OW_store' hE rfl rfl rfl rfl rfl rfl rfl rfl rfl rfl rfl rfl ?_
       refine OW_end rfl ?_
       exact ⟨(), trivial, LE_sh (slh_set (v := .ptr 2 0) (slh_set (v := .ptr 1 0) (slh_no _ _) (by rfl) rfl) (by rfl) rfl) (hlh_set (hlh_set (hlh_set (hlh_no _ _) rfl rfl) rfl rfl) (by exact congrArg (fun z => some (Ent.row 31 3 z)) (by rw [vl_1 k1, List.map_append]; rfl)) rfl)⟩
      ·
       have k1 : (c.kind == 1) = false := h5
       refine CW_seq ?_
       refine CW_region ?_
       refine OW_run' hE.ok 3 rfl ?_
       refine OW_split' 67 rfl (fun h6 => ?_) (fun h6 => ?_)
       ·
        have k2 : decide (fieldAt (findT s e.ty).1 c.fld < 0) = true := h6
        refine OW_run' hE.ok 7 rfl ?_
        refine OW_end rfl ?_
        refine CW_true rfl ?_
        refine CW_skip ?_
        exact ⟨(), trivial, LE_sh (slh_set (v := .ptr 2 0) (slh_set (v := .ptr 1 0) (slh_no _ _) (by rfl) rfl) (by rfl) rfl) (hlh_set (hlh_set (hlh_set (hlh_no _ _) rfl rfl) rfl rfl) (by exact congrArg (fun z => some (Ent.row 31 3 z)) (by rw [vl_2 k1 (.inl k2)])) rfl)⟩
       ·
        have k2 : decide (fieldAt (findT s e.ty).1 c.fld < 0) = false := h6
        refine OW_run' hE.ok 7 rfl ?_
        refine OW_end rfl ?_
        refine CW_cond _ rfl (fun h7 => ?_) (fun h7 => ?_)
        ·
         have k3 : decide (fieldAt (findT s e.ty).1 c.fld ≥ (e.vals.length : Int)) = true := by have := h7; rw [List.length_map] at this; exact this
         refine CW_skip ?_
         exact ⟨(), trivial, LE_sh (slh_set (v := .ptr 2 0) (slh_set (v := .ptr 1 0) (slh_no _ _) (by rfl) rfl) (by rfl) rfl) (hlh_set (hlh_set (hlh_set (hlh_no _ _) rfl rfl) rfl rfl) (by exact congrArg (fun z => some (Ent.row 31 3 z)) (by rw [vl_2 k1 (.inr k3)])) rfl)⟩
        ·
         have k3 : decide (fieldAt (findT s e.ty).1 c.fld ≥ (e.vals.length : Int)) = false := by have := h7; rw [List.length_map] at this; exact this
         obtain ⟨k, v, hk, hvk⟩ := vl_at k2 k3
         have hkl := (List.getElem?_eq_some_iff.1 hvk).1
         refine CW_as' 12 (.d (int ((k : Nat) : Int))) (congrArg (fun z => AV.d (int z)) hk) ?_
         refine CW_seq ?_
         refine CW_region ?_
         refine OW_run' hE.ok 4 rfl ?_
         refine OW_end rfl ?_
         refine CW_cond _ rfl (fun h8 => ?_) (fun h8 => ?_)
         ·
          have k4 : (c.kind == 2) = true := h8
          refine CW_region ?_
          refine OW_run' hE.ok 4 rfl ?_
          refine OW_run' hE.ok 1 rfl ?_
          refine OW_as' 82 (.d (int ((k + 1 : Nat) : Int))) (by show AV.d (.lit (.int .i64 (IntKind.i64.wrap ((k : Int) + 1)))) = _; rw [wrap_succ (by omega)]; rfl) ?_
          refine OW_callM' hE (tr [(7, 77)]) (delV e.vals k hkl (by omega)) rfl rfl rfl rfl rfl ⟨rfl, trivial⟩ rfl rfl ?_
          refine OW.le (show LE _ _ ⟨J, (sset (sset (sset noSlots 6 (.ptr 1 0)) 7 (.ptr 2 0)) 83 (.row 77)), (hset (hset (hset noHeap 1 (some (.box 27 [.d (str nul), .d (int 0), .d (.lit (.slice none 0 0))]))) 2 (some (.box 27 [.d (str e.ty), .d (int e.ts), .any]))) 77 (some (.row 31 3 ((e.vals.eraseIdx k).map encV))))⟩ from LE_sh (slh_set (v := .row 77) (slh_set (v := .ptr 2 0) (slh_set (v := .ptr 1 0) (slh_no _ _) (by rfl) rfl) (by rfl) rfl) (by rfl) rfl) (hlh_set (hlh_set (hlh_set (hlh_no _ _) rfl rfl) rfl rfl) rfl rfl)) ?_
          refine OW_run' hE.ok 1 rfl ?_
          refine OW_store' hE rfl rfl rfl rfl rfl rfl rfl rfl rfl rfl rfl rfl ?_
          refine OW_end rfl ?_
          exact ⟨(), trivial, LE_sh (slh_set (v := .ptr 2 0) (slh_set (v := .ptr 1 0) (slh_no _ _) (by rfl) rfl) (by rfl) rfl) (hlh_set (hlh_set (hlh_set (hlh_no _ _) rfl rfl) rfl rfl) (by exact congrArg (fun z => some (Ent.row 31 3 z)) (by rw [vl_3 k1 k2 k3 hk k4])) rfl)⟩
         ·
          have k4 : (c.kind == 2) = false := h8
          refine CW_seq ?_
          refine CW_region ?_
          refine OW_run' hE.ok 4 rfl ?_
          refine OW_end rfl ?_
          refine CW_cond _ rfl (fun h9 => ?_) (fun h9 => ?_)
          ·
           have k5 : (c.kind == 4) = true := h9
           refine CW_drawn' hE 10 (by decide +kernel) ?_
           refine HW_run hE 6 rfl rfl ?_
           refine HW_loc hE (loc_idxRow hE rfl rfl rfl rfl rfl (j := k) rfl (by rw [List.length_map]; exact hkl)) rfl rfl rfl rfl ?_
           refine HW_run hE 1 rfl rfl ?_
           refine HW_loc hE (loc_loadRow hE rfl rfl rfl (j := k) (off := 1) rfl rfl (x := encV v) (by simp [hvk]) (by show 1 ≤ 3; omega) rfl) rfl rfl rfl rfl ?_
           refine HW_loc hE (loc_build hE rfl rfl) rfl rfl rfl rfl ?_
           refine HW_end ?_
           refine OW_loc' hE (loc_idxRow hE rfl rfl rfl rfl rfl (j := k) rfl (by rw [List.length_map]; exact hkl)) rfl rfl rfl ?_
           refine OW_storeRow' hE rfl rfl rfl rfl rfl (j := k) (off := 0) rfl rfl rfl (x := encV v) (by simp [hvk]) (y := encV ⟨1, v.n, nul⟩) rfl rfl rfl (Nat.le_refl 3) (xs' := (e.vals.set k ⟨1, v.n, nul⟩).map encV) (by simp [encV, List.map_set]) ?_
           refine OW_end rfl ?_
           exact ⟨(), trivial, LE_sh (slh_set (v := .ptr 2 0) (slh_set (v := .ptr 1 0) (slh_no _ _) (by rfl) rfl) (by rfl) rfl) (hlh_set (hlh_set (hlh_set (hlh_no _ _) rfl rfl) rfl rfl) (by exact congrArg (fun z => some (Ent.row 31 3 z)) (by rw [vl_4 k1 k2 k3 hk hvk k4 k5])) rfl)⟩
          ·
           have k5 : (c.kind == 4) = false := h9
           refine CW_skip ?_
           exact ⟨(), trivial, LE_sh (slh_set (v := .ptr 2 0) (slh_set (v := .ptr 1 0) (slh_no _ _) (by rfl) rfl) (by rfl) rfl) (hlh_set (hlh_set (hlh_set (hlh_no _ _) rfl rfl) rfl rfl) (by exact congrArg (fun z => some (Ent.row 31 3 z)) (by rw [vl_0 k1 k2 k3 k4 k5])) rfl)⟩
     ·
      rintro _ _
      have hvl := vl_len (t := (findT s e.ty).1) (c := c) (vs := e.vals)
      rw [mv_1 m1 m2 m3 m4]
      refine CW_seq ?_
      refine CW.le (LE_freeze 77 32 rfl (by simp; omega)) ?_
      refine CW_region ?_
      refine OW_run' hE.ok 1 rfl ?_
      refine OW_store' hE rfl rfl rfl rfl rfl rfl rfl rfl rfl rfl rfl rfl ?_
      refine OW_end rfl ?_
      refine CW_ret ?_
      refine ⟨.inr rfl, rfl, ⟨_, rfl, rfl, ?_⟩, rfl⟩
      exact AVle.refl _
end Go.Proofs.YtchpllgeahnmmaaDoor
