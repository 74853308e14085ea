/- Parts of an abstract logic over the kit's walks, and walks in it: D7rm. -/
import Derived.Test.YtchpllgeahnmmaaDoorD7ra
import Derived.Test.YtchpllgeahnmmaaDoorD7q
namespace Go.Proofs.YtchpllgeahnmmaaDoor
open Go Go.AL
set_option linter.unusedVariables false
set_option linter.unusedSimpArgs false
set_option maxHeartbeats 4000000
theorem refMoveOk (s : List Ty) (c : Chg) (e : Ev) (hs : isSchema s = true) (hv : e.vals.length ≤ 1000) : Does Tryd.prog 25 [argS s, argC c, argE e] noHeap (argE (moveX s c e)) := by
  refine Does_of T_ok mixed (N := 96) Tryd.func25 rfl rfl rfl (by rfl) fun F n Z hE hF J => ?_
  refine CW_seq ?_
  refine CW_region ?_
  refine OW_run' hE.ok 3 rfl ?_
  refine OW_alloc' hE 1 rfl rfl rfl rfl rfl rfl rfl ?_
  refine OW_end rfl ?_
  refine CW_seq ?_
  refine CW_region ?_
  refine OW_run' hE.ok 3 rfl ?_
  refine OW_call' hE (refFindOk s e.ty) rfl rfl rfl rfl rfl rfl rfl ?_
  refine OW_run' hE.ok 3 rfl ?_
  refine OW_alloc' hE 2 rfl rfl rfl rfl rfl rfl rfl ?_
  refine OW_store' hE rfl rfl rfl rfl rfl rfl rfl rfl rfl rfl rfl rfl ?_
  refine OW_run' hE.ok 1 rfl ?_
  refine OW_end rfl ?_
  refine CW_seq ?_
  refine CW_seq ?_
  refine CW_region ?_
  refine OW_run' hE.ok 2 rfl ?_
  refine OW_call' hE (refApplyOk s c hs) rfl rfl rfl rfl rfl rfl rfl ?_
  refine OW_run' hE.ok 3 rfl ?_
  refine OW_alloc' hE 3 rfl rfl rfl rfl rfl rfl rfl ?_
  refine OW_store' hE rfl rfl rfl rfl rfl rfl rfl rfl rfl rfl rfl rfl ?_
  refine OW_run' hE.ok 1 rfl ?_
  refine OW_end rfl ?_
  refine CW_seq ?_
  refine CW.le (show LE _ _ ⟨J, (sset (sset (sset (sset (sset (sset (sset noSlots 3 (.d (.iptr [encS s]))) 4 (.d (.iptr (encC c)))) 5 (.d (.iptr (encE e)))) 6 (.ptr 1 0)) 7 (.ptr 2 0)) 8 (.d (boo (findT s e.ty).2))) 10 (.d (int (applyX s c).2))), (hset (hset noHeap 1 (some (.box 27 [.d (str nul), .d (int 0), .d (.lit (.slice none 0 0))]))) 2 (some (.box 72 ((encT (findT s e.ty).1).map .d))))⟩ from LE_sh (slh_set (v := .d (int (applyX s c).2)) (slh_set (v := .d (boo (findT s e.ty).2)) (slh_set (v := .ptr 2 0) (slh_set (v := .ptr 1 0) (slh_set (v := .d (.iptr (encE e))) (slh_set (v := .d (.iptr (encC c))) (slh_set (v := .d (.iptr [encS s])) (slh_no _ _) (by rfl) rfl) (by rfl) rfl) (by rfl) rfl) (by rfl) rfl) (by rfl) rfl) (by rfl) rfl) (by rfl) rfl) (hlh_set (hlh_set (hlh_no _ _) rfl rfl) rfl rfl)) ?_
  refine CW_region ?_
  refine OW_run' hE.ok 3 rfl ?_
  refine OW_split' 28 rfl (fun h1 => ?_) (fun h1 => ?_)
  · skip
    have m0 : (!(findT s e.ty).2) = true := h1
    refine OW.le (show LE _ _ ⟨J, (sset (sset (sset (sset (sset (sset (sset (sset noSlots 3 (.d (.iptr [encS s]))) 4 (.d (.iptr (encC c)))) 5 (.d (.iptr (encE e)))) 6 (.ptr 1 0)) 7 (.ptr 2 0)) 8 (.d (boo (findT s e.ty).2))) 10 (.d (int (applyX s c).2))) 28 (.d (.lit (.bool true)))), (hset (hset noHeap 1 (some (.box 27 [.d (str nul), .d (int 0), .d (.lit (.slice none 0 0))]))) 2 (some (.box 72 ((encT (findT s e.ty).1).map .d))))⟩ from LE_sh (slh_set (v := .d (.lit (.bool true))) (slh_set (v := .d (int (applyX s c).2)) (slh_set (v := .d (boo (findT s e.ty).2)) (slh_set (v := .ptr 2 0) (slh_set (v := .ptr 1 0) (slh_set (v := .d (.iptr (encE e))) (slh_set (v := .d (.iptr (encC c))) (slh_set (v := .d (.iptr [encS s])) (slh_no _ _) (by rfl) rfl) (by rfl) rfl) (by rfl) rfl) (by rfl) rfl) (by rfl) rfl) (by rfl) rfl) (by rfl) rfl) (by rfl) rfl) (hlh_set (hlh_set (hlh_no _ _) rfl rfl) rfl rfl)) ?_
    refine OW_run' hE.ok 16 rfl ?_
    refine OW_end rfl ?_
    refine CW_true rfl ?_
    refine CW_seq ?_
    refine CW_region ?_
    refine OW_run' hE.ok 1 rfl ?_
    refine OW_store' hE rfl rfl rfl rfl rfl rfl rfl rfl rfl rfl rfl rfl ?_
    refine OW_end rfl ?_
    refine CW_ret ?_
    refine ⟨.inr rfl, rfl, ⟨_, rfl, rfl, ?_⟩, rfl⟩
    rw [mv_0 (.inr (.inl (rm_find (by simpa using m0))))]
    exact AVle.refl _
  · skip
    have m0 : (!(findT s e.ty).2) = false := h1
    refine OW.le (show LE _ _ ⟨J, (sset (sset (sset (sset (sset (sset (sset (sset noSlots 3 (.d (.iptr [encS s]))) 4 (.d (.iptr (encC c)))) 5 (.d (.iptr (encE e)))) 6 (.ptr 1 0)) 7 (.ptr 2 0)) 8 (.d (boo (findT s e.ty).2))) 10 (.d (int (applyX s c).2))) 28 (.d (.lit (.bool false)))), (hset (hset noHeap 1 (some (.box 27 [.d (str nul), .d (int 0), .d (.lit (.slice none 0 0))]))) 2 (some (.box 72 ((encT (findT s e.ty).1).map .d))))⟩ from LE_sh (slh_set (v := .d (.lit (.bool false))) (slh_set (v := .d (int (applyX s c).2)) (slh_set (v := .d (boo (findT s e.ty).2)) (slh_set (v := .ptr 2 0) (slh_set (v := .ptr 1 0) (slh_set (v := .d (.iptr (encE e))) (slh_set (v := .d (.iptr (encC c))) (slh_set (v := .d (.iptr [encS s])) (slh_no _ _) (by rfl) rfl) (by rfl) rfl) (by rfl) rfl) (by rfl) rfl) (by rfl) rfl) (by rfl) rfl) (by rfl) rfl) (by rfl) rfl) (hlh_set (hlh_set (hlh_no _ _) rfl rfl) rfl rfl)) ?_
    refine OW_run' hE.ok 4 rfl ?_
    refine OW_split' 32 rfl (fun h2 => ?_) (fun h2 => ?_)
    · skip
      have m1 : ((applyX s c).2 != 0) = true := h2
      refine OW.le (show LE _ _ ⟨J, (sset (sset (sset (sset (sset (sset (sset (sset noSlots 3 (.d (.iptr [encS s]))) 4 (.d (.iptr (encC c)))) 5 (.d (.iptr (encE e)))) 6 (.ptr 1 0)) 7 (.ptr 2 0)) 8 (.d (boo (findT s e.ty).2))) 10 (.d (int (applyX s c).2))) 32 (.d (.lit (.bool true)))), (hset (hset noHeap 1 (some (.box 27 [.d (str nul), .d (int 0), .d (.lit (.slice none 0 0))]))) 2 (some (.box 72 ((encT (findT s e.ty).1).map .d))))⟩ from LE_sh (slh_set (v := .d (.lit (.bool true))) (slh_set (v := .d (int (applyX s c).2)) (slh_set (v := .d (boo (findT s e.ty).2)) (slh_set (v := .ptr 2 0) (slh_set (v := .ptr 1 0) (slh_set (v := .d (.iptr (encE e))) (slh_set (v := .d (.iptr (encC c))) (slh_set (v := .d (.iptr [encS s])) (slh_no _ _) (by rfl) rfl) (by rfl) rfl) (by rfl) rfl) (by rfl) rfl) (by rfl) rfl) (by rfl) rfl) (by rfl) rfl) (by rfl) rfl) (hlh_set (hlh_set (hlh_no _ _) rfl rfl) rfl rfl)) ?_
      refine OW_run' hE.ok 12 rfl ?_
      refine OW_end rfl ?_
      refine CW_true rfl ?_
      refine CW_seq ?_
      refine CW_region ?_
      refine OW_run' hE.ok 1 rfl ?_
      refine OW_store' hE rfl rfl rfl rfl rfl rfl rfl rfl rfl rfl rfl rfl ?_
      refine OW_end rfl ?_
      refine CW_ret ?_
      refine ⟨.inr rfl, rfl, ⟨_, rfl, rfl, ?_⟩, rfl⟩
      rw [mv_0 (.inl m1)]
      exact AVle.refl _
    · skip
      have m1 : ((applyX s c).2 != 0) = false := h2
      refine OW.le (show LE _ _ ⟨J, (sset (sset (sset (sset (sset (sset (sset (sset noSlots 3 (.d (.iptr [encS s]))) 4 (.d (.iptr (encC c)))) 5 (.d (.iptr (encE e)))) 6 (.ptr 1 0)) 7 (.ptr 2 0)) 8 (.d (boo (findT s e.ty).2))) 10 (.d (int (applyX s c).2))) 32 (.d (.lit (.bool false)))), (hset (hset noHeap 1 (some (.box 27 [.d (str nul), .d (int 0), .d (.lit (.slice none 0 0))]))) 2 (some (.box 72 ((encT (findT s e.ty).1).map .d))))⟩ from LE_sh (slh_set (v := .d (.lit (.bool false))) (slh_set (v := .d (int (applyX s c).2)) (slh_set (v := .d (boo (findT s e.ty).2)) (slh_set (v := .ptr 2 0) (slh_set (v := .ptr 1 0) (slh_set (v := .d (.iptr (encE e))) (slh_set (v := .d (.iptr (encC c))) (slh_set (v := .d (.iptr [encS s])) (slh_no _ _) (by rfl) rfl) (by rfl) rfl) (by rfl) rfl) (by rfl) rfl) (by rfl) rfl) (by rfl) rfl) (by rfl) rfl) (by rfl) rfl) (hlh_set (hlh_set (hlh_no _ _) rfl rfl) rfl rfl)) ?_
      refine OW_run' hE.ok 7 rfl ?_
      refine OW_split' 39 rfl (fun h3 => ?_) (fun h3 => ?_)
      · skip
        have m3 : (!(e.ty.toList == c.ty.toList)) = true := h3
        refine OW.le (show LE _ _ ⟨J, (sset (sset (sset (sset (sset (sset (sset (sset noSlots 3 (.d (.iptr [encS s]))) 4 (.d (.iptr (encC c)))) 5 (.d (.iptr (encE e)))) 6 (.ptr 1 0)) 7 (.ptr 2 0)) 8 (.d (boo (findT s e.ty).2))) 10 (.d (int (applyX s c).2))) 39 (.d (.lit (.bool true)))), (hset (hset noHeap 1 (some (.box 27 [.d (str nul), .d (int 0), .d (.lit (.slice none 0 0))]))) 2 (some (.box 72 ((encT (findT s e.ty).1).map .d))))⟩ from LE_sh (slh_set (v := .d (.lit (.bool true))) (slh_set (v := .d (int (applyX s c).2)) (slh_set (v := .d (boo (findT s e.ty).2)) (slh_set (v := .ptr 2 0) (slh_set (v := .ptr 1 0) (slh_set (v := .d (.iptr (encE e))) (slh_set (v := .d (.iptr (encC c))) (slh_set (v := .d (.iptr [encS s])) (slh_no _ _) (by rfl) rfl) (by rfl) rfl) (by rfl) rfl) (by rfl) rfl) (by rfl) rfl) (by rfl) rfl) (by rfl) rfl) (by rfl) rfl) (hlh_set (hlh_set (hlh_no _ _) rfl rfl) rfl rfl)) ?_
        refine OW_run' hE.ok 5 rfl ?_
        refine OW_end rfl ?_
        refine CW_true rfl ?_
        refine CW_seq ?_
        refine CW_region ?_
        refine OW_run' hE.ok 1 rfl ?_
        refine OW_store' hE rfl rfl rfl rfl rfl rfl rfl rfl rfl rfl rfl rfl ?_
        refine OW_end rfl ?_
        refine CW_ret ?_
        refine ⟨.inr rfl, rfl, ⟨_, rfl, rfl, ?_⟩, rfl⟩
        rw [mv_0 (.inr (.inr (.inl m3)))]
        exact AVle.refl _
      · skip
        have m3 : (!(e.ty.toList == c.ty.toList)) = false := h3
        refine OW.le (show LE _ _ ⟨J, (sset (sset (sset (sset (sset (sset (sset (sset noSlots 3 (.d (.iptr [encS s]))) 4 (.d (.iptr (encC c)))) 5 (.d (.iptr (encE e)))) 6 (.ptr 1 0)) 7 (.ptr 2 0)) 8 (.d (boo (findT s e.ty).2))) 10 (.d (int (applyX s c).2))) 39 (.d (.lit (.bool false)))), (hset (hset noHeap 1 (some (.box 27 [.d (str nul), .d (int 0), .d (.lit (.slice none 0 0))]))) 2 (some (.box 72 ((encT (findT s e.ty).1).map .d))))⟩ from LE_sh (slh_set (v := .d (.lit (.bool false))) (slh_set (v := .d (int (applyX s c).2)) (slh_set (v := .d (boo (findT s e.ty).2)) (slh_set (v := .ptr 2 0) (slh_set (v := .ptr 1 0) (slh_set (v := .d (.iptr (encE e))) (slh_set (v := .d (.iptr (encC c))) (slh_set (v := .d (.iptr [encS s])) (slh_no _ _) (by rfl) rfl) (by rfl) rfl) (by rfl) rfl) (by rfl) rfl) (by rfl) rfl) (by rfl) rfl) (by rfl) rfl) (by rfl) rfl) (hlh_set (hlh_set (hlh_no _ _) rfl rfl) rfl rfl)) ?_
        refine OW_run' hE.ok 2 rfl ?_
        refine OW_call' hE (refIsEOk s e) rfl rfl rfl rfl rfl rfl rfl ?_
        refine OW_run' hE.ok 2 rfl ?_
        refine OW_end rfl ?_
        refine CW_cond _ rfl (fun h4 => ?_) (fun h4 => ?_)
        · skip
          have m2 : (evtR s e != 0) = true := h4
          refine CW_seq ?_
          refine CW_region ?_
          refine OW_run' hE.ok 1 rfl ?_
          refine OW_store' hE rfl rfl rfl rfl rfl rfl rfl rfl rfl rfl rfl rfl ?_
          refine OW_end rfl ?_
          refine CW_ret ?_
          refine ⟨.inr rfl, rfl, ⟨_, rfl, rfl, ?_⟩, rfl⟩
          rw [mv_0 (.inr (.inl m2))]
          exact AVle.refl _
        · skip
          have m2 : (evtR s e != 0) = false := h4
          refine CW_skip ?_
          refine CW_seq ?_
          have he0 : evtR s e = 0 := by simpa using m2
          have hA := apply_ok_iff s c (by simpa using m1)
          have hty : same e.ty c.ty = true := by show (e.ty.toList == c.ty.toList) = true; simpa using m3
          obtain ⟨hk5, hmv⟩ := rm_to hA he0 hty
          refine CW_region ?_
          refine OW_run' hE.ok 3 rfl ?_
          refine OW_call' hE (refFieldOk (findT s e.ty).1 c.fld) rfl rfl rfl rfl rfl rfl rfl ?_
          refine OW_run' hE.ok 1 rfl ?_
          refine OW_end rfl ?_
          refine CW_seq ?_
          refine CW.le (show LE _ _ ⟨J, (sset (sset (sset (sset noSlots 4 (.d (.iptr (encC c)))) 5 (.d (.iptr (encE e)))) 6 (.ptr 1 0)) 11 (.d (int (fieldAt (findT s e.ty).1 c.fld)))), (hset noHeap 1 (some (.box 27 [.d (str nul), .d (int 0), .d (.lit (.slice none 0 0))])))⟩ from LE_sh (slh_set (v := .d (int (fieldAt (findT s e.ty).1 c.fld))) (slh_set (v := .ptr 1 0) (slh_set (v := .d (.iptr (encE e))) (slh_set (v := .d (.iptr (encC c))) (slh_no _ _) (by rfl) rfl) (by rfl) rfl) (by rfl) rfl) (by rfl) rfl) (hlh_set (hlh_no _ _) rfl rfl)) ?_
          refine CW_drawnG hE 9 [(6, 77, .row 31 3 (e.vals.map encV)), (8, 12, .box 27 [.d (str nul), .d (int 0), .d (.lit (.slice none 0 0))])] (by decide +kernel) rfl ?_
          refine HG_run hE 6 rfl rfl rfl rfl ?_
          refine HG_appendNil hE rfl rfl rfl rfl rfl rfl rfl rfl rfl rfl (by simp; omega) (by simp; omega) rfl ?_
          refine HG_loc hE (fun b => loc_build hE rfl rfl) rfl rfl rfl rfl rfl ?_
          refine HG_alloc hE rfl rfl rfl rfl rfl rfl rfl rfl ?_
          refine HG_end ?_
          refine OW_store' hE rfl rfl rfl rfl rfl rfl rfl rfl rfl rfl rfl rfl ?_
          refine OW_end rfl ?_
          refine CW_cutE (fun _ : Unit => ⟨J, (sset (sset noSlots 6 (.ptr 1 0)) 12 (.ptr 12 0)), (hset (hset (hset noHeap 1 (some (.box 27 [.d (str nul), .d (int 0), .d (.lit (.slice none 0 0))]))) 12 (some (.box 27 [.d (str e.ty), .d (int e.ts), .row 77]))) 77 (some (.row 31 3 ((valsX (findT s e.ty).1 c e.vals).map encV))))⟩) (fun _ => True) ?_ ?_
          · skip
            refine CW_seq ?_
            refine CW.le (show LE _ _ ⟨J, (sset (sset (sset (sset (sset noSlots 4 (.d (.iptr (encC c)))) 5 (.d (.iptr (encE e)))) 6 (.ptr 1 0)) 11 (.d (int (fieldAt (findT s e.ty).1 c.fld)))) 12 (.ptr 12 0)), (hset (hset (hset noHeap 1 (some (.box 27 [.d (str nul), .d (int 0), .d (.lit (.slice none 0 0))]))) 12 (some (.box 27 [.d (str e.ty), .d (int e.ts), .row 77]))) 77 (some (.row 31 3 (e.vals.map encV))))⟩ from LE_sh (slh_set (v := .ptr 12 0) (slh_set (v := .d (int (fieldAt (findT s e.ty).1 c.fld))) (slh_set (v := .ptr 1 0) (slh_set (v := .d (.iptr (encE e))) (slh_set (v := .d (.iptr (encC c))) (slh_no _ _) (by rfl) rfl) (by rfl) rfl) (by rfl) rfl) (by rfl) rfl) (by rfl) rfl) (hlh_set (hlh_set (hlh_set (hlh_no _ _) rfl rfl) rfl rfl) rfl rfl)) ?_
            refine CW_region ?_
            refine OW_run' hE.ok 2 rfl ?_
            refine OW_end rfl ?_
            refine CW_block ?_
            refine CW_seq ?_
            refine CW_region ?_
            refine OW_run' hE.ok 2 rfl ?_
            refine OW_end rfl ?_
            refine CW_cond _ rfl (fun h5 => ?_) (fun h5 => ?_)
            · skip
              have k1 : (c.kind == 1) = true := h5
              refine CW_region ?_
              refine OW_run' hE.ok 4 rfl ?_
              refine OW_lits' hE rfl rfl rfl rfl rfl rfl rfl rfl rfl rfl rfl rfl ?_
              refine OW_append' hE (key := 77) rfl rfl rfl rfl rfl rfl rfl rfl (.inl rfl) (by simp; omega) (by simp; omega) rfl ?_
              refine OW_run' hE.ok 1 rfl ?_
              refine OW_store' hE rfl rfl rfl rfl rfl rfl rfl rfl rfl rfl rfl rfl ?_
              refine OW_end rfl ?_
              exact ⟨(), trivial, LE_sh (slh_set (v := .ptr 12 0) (slh_set (v := .ptr 1 0) (slh_no _ _) (by rfl) rfl) (by rfl) rfl) (hlh_set (hlh_set (hlh_set (hlh_no _ _) rfl rfl) rfl rfl) (by exact congrArg (fun z => some (Ent.row 31 3 z)) (by rw [vl_1 k1, List.map_append]; rfl)) rfl)⟩
            · skip
              have k1 : (c.kind == 1) = false := h5
              refine CW_seq ?_
              refine CW_region ?_
              refine OW_run' hE.ok 2 rfl ?_
              refine OW_end rfl ?_
              refine CW_cond _ rfl (fun h6 => ?_) (fun h6 => ?_)
              · skip
                have k2 : (c.kind == 2) = true := h6
                obtain ⟨k, v, hk, hvk⟩ := rm_place hA he0 hty (by first | exact .inl (by simpa using k2) | exact .inr (by simpa using k2))
                have hkl := (List.getElem?_eq_some_iff.1 hvk).1
                have g2 : decide (fieldAt (findT s e.ty).1 c.fld < 0) = false := by rw [hk]; simp
                have g3 : decide (fieldAt (findT s e.ty).1 c.fld ≥ (e.vals.length : Int)) = false := by rw [hk]; simp; omega
                refine CW_as' 11 (.d (int ((k : Nat) : Int))) (congrArg (fun z => AV.d (int z)) hk) ?_
                refine CW_drawn' hE 9 (by decide +kernel) ?_
                refine HW_run hE 3 rfl rfl ?_
                refine HW_loc hE (loc_headRow hE rfl rfl rfl rfl rfl rfl (by simp; omega) (by simp; omega)) rfl rfl rfl rfl ?_
                refine HW_run hE 3 rfl rfl ?_
                refine HW_run hE 1 rfl rfl ?_
                refine HW_as 78 (.d (int ((k + 1 : Nat) : Int))) (by show AV.d (.lit (.int .i64 (IntKind.i64.wrap ((k : Int) + 1)))) = _; rw [wrap_succ (by omega)]; rfl) ?_
                refine HW_loc hE (loc_tailRow hE rfl rfl rfl rfl rfl rfl rfl (by simp; omega)) rfl rfl rfl rfl ?_
                refine HW_end ?_
                refine OW_appendTail' hE rfl rfl rfl rfl rfl rfl rfl rfl (Nat.le_succ k) (by simp; omega) (by simp; omega) rfl ?_
                refine OW.le (LE_viewRow 80 rfl rfl (by rw [delX_len (Nat.le_succ k) (by simp; omega)]; simp; omega) (by rw [delX_len (Nat.le_succ k) (by simp; omega)]; simp; omega) (xs' := (e.vals.eraseIdx k).map encV) (del_wholeV hkl)) ?_
                refine OW_run' hE.ok 1 rfl ?_
                refine OW_store' hE rfl rfl rfl rfl rfl rfl rfl rfl rfl rfl rfl rfl ?_
                refine OW_end rfl ?_
                exact ⟨(), trivial, LE_sh (slh_set (v := .ptr 12 0) (slh_set (v := .ptr 1 0) (slh_no _ _) (by rfl) rfl) (by rfl) rfl) (hlh_set (hlh_set (hlh_set (hlh_no _ _) rfl rfl) rfl rfl) (by exact congrArg (fun z => some (Ent.row 31 3 z)) (by rw [vl_3 k1 g2 g3 hk k2])) rfl)⟩
              · skip
                have k2 : (c.kind == 2) = false := h6
                refine CW_seq ?_
                refine CW_region ?_
                refine OW_run' hE.ok 2 rfl ?_
                refine OW_end rfl ?_
                refine CW_cond _ rfl (fun h7 => ?_) (fun h7 => ?_)
                · skip
                  have k4 : (c.kind == 4) = true := h7
                  obtain ⟨k, v, hk, hvk⟩ := rm_place hA he0 hty (by first | exact .inl (by simpa using k4) | exact .inr (by simpa using k4))
                  have hkl := (List.getElem?_eq_some_iff.1 hvk).1
                  have g2 : decide (fieldAt (findT s e.ty).1 c.fld < 0) = false := by rw [hk]; simp
                  have g3 : decide (fieldAt (findT s e.ty).1 c.fld ≥ (e.vals.length : Int)) = false := by rw [hk]; simp; omega
                  refine CW_as' 11 (.d (int ((k : Nat) : Int))) (congrArg (fun z => AV.d (int z)) hk) ?_
                  refine CW_drawn' hE 10 (by decide +kernel) ?_
                  refine HW_run hE 6 rfl rfl ?_
                  refine HW_loc hE (loc_indexAddr hE rfl rfl rfl rfl rfl (by omega) (x := encV v) (by simp [hvk])) rfl rfl rfl rfl ?_
                  refine HW_run hE 2 rfl rfl ?_
                  refine HW_loc hE (loc_build hE rfl rfl) rfl rfl rfl rfl ?_
                  refine HW_end ?_
                  refine OW_loc' hE (loc_idxRow hE rfl rfl rfl rfl rfl (j := k) rfl (by rw [List.length_map]; exact hkl)) rfl rfl rfl ?_
                  refine OW_storeRow' hE rfl rfl rfl rfl rfl (j := k) (off := 0) rfl rfl rfl (x := encV v) (by simp [hvk]) (y := encV ⟨1, v.n, nul⟩) rfl rfl rfl (Nat.le_refl 3) (xs' := (e.vals.set k ⟨1, v.n, nul⟩).map encV) (by simp [encV, List.map_set]) ?_
                  refine OW_end rfl ?_
                  exact ⟨(), trivial, LE_sh (slh_set (v := .ptr 12 0) (slh_set (v := .ptr 1 0) (slh_no _ _) (by rfl) rfl) (by rfl) rfl) (hlh_set (hlh_set (hlh_set (hlh_no _ _) rfl rfl) rfl rfl) (by exact congrArg (fun z => some (Ent.row 31 3 z)) (by rw [vl_4 k1 g2 g3 hk hvk k2 k4])) rfl)⟩
                · skip
                  have k4 : (c.kind == 4) = false := h7
                  refine CW_skip ?_
                  exact ⟨(), trivial, LE_sh (slh_set (v := .ptr 12 0) (slh_set (v := .ptr 1 0) (slh_no _ _) (by rfl) rfl) (by rfl) rfl) (hlh_set (hlh_set (hlh_set (hlh_no _ _) rfl rfl) rfl rfl) (by exact congrArg (fun z => some (Ent.row 31 3 z)) (by rw [vl_00 k1 k2 k4])) rfl)⟩
          · skip
            rintro _ _
            have hvl := vl_len (t := (findT s e.ty).1) (c := c) (vs := e.vals)
            rw [hmv]
            refine CW_seq ?_
            refine CW.le (LE_freeze 77 32 rfl (by simp; omega)) ?_
            refine CW_region ?_
            refine OW_run' hE.ok 1 rfl ?_
            refine OW_store' hE rfl rfl rfl rfl rfl rfl rfl rfl rfl rfl rfl rfl ?_
            refine OW_end rfl ?_
            refine CW_ret ?_
            refine ⟨.inr rfl, rfl, ⟨_, rfl, rfl, ?_⟩, rfl⟩
            exact AVle.refl _
end Go.Proofs.YtchpllgeahnmmaaDoor
