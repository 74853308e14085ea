/- Parts of an abstract logic over the kit's walks, and walks in it: D7ra. -/
import Derived.Test.YtchpllgeahnmmaaDoorD7rc
import Derived.Test.YtchpllgeahnmmaaDoorD7n
import Derived.Test.YtchpllgeahnmmaaDoorAe
namespace Go.Proofs.YtchpllgeahnmmaaDoor
open Go Go.AL
set_option linter.unusedVariables false
set_option linter.unusedSimpArgs false
set_option maxHeartbeats 4000000
theorem refCopiedAt (s : List Ty) (i : Nat) (t : Ty) (hs : isSchema s = true) (ht : s[i]? = some t) : DoesM Tryd.prog 58 [] [argS s] (.agg [.row 50]) [(50, .rowA 72 2 s.length (cX (preD s i) (postD s i) t.name (.row 70))), (70, .row 69 2 (t.fields.map encF))] [] := by
  have h := refCopiedOk s i hs
  rw [copL_at ht] at h
  exact h

theorem refCopiedAll (s : List Ty) (hs : isSchema s = true) : DoesM Tryd.prog 58 [] [argS s] (.agg [.row 50]) [(50, .rowA 72 2 s.length ((s.map encT).flatten.map .d))] [] := by
  have h := refCopiedOk s s.length hs
  rw [copL_none] at h
  exact h

theorem refAddR (t : Ty) (c : Chg) (k : Int) : Does Tryd.prog 59 [argT t, argC c, .d (int k)] noHeap (.d (int (addR t c k))) := refAddOk t c k

theorem refApplyOk (s : List Ty) (c : Chg) (hs : isSchema s = true) : Does Tryd.prog 19 [argS s, argC c] noHeap (.tup [argS (applyX s c).1, .d (int (applyX s c).2)]) := by
  refine Does_of T_ok mixed (N := 224) Tryd.func19 rfl rfl rfl (by rfl) fun F n Z hE hF J => ?_
  have hsl := right_len hs
  refine CW_seq ?_
  refine CW_region ?_
  refine OW_run' hE.ok 2 rfl ?_
  refine OW_alloc' hE 1 rfl rfl rfl rfl rfl rfl rfl ?_
  refine OW_run' hE.ok 1 rfl ?_
  refine OW_end rfl ?_
  refine CW_cutE (fun _ : Unit => ⟨J, (sset (sset (sset noSlots 2 (.d (.iptr [encS s]))) 3 (.d (.iptr (encC c)))) 4 (.ptr 1 0)), (hset noHeap 1 (some (.box 24 [.d (.lit (.slice none 0 0))])))⟩) (fun _ => badC c = false) ?_ ?_
  · skip
    refine CW_seq ?_
    refine CW_region ?_
    refine OW_run' hE.ok 4 rfl ?_
    refine OW_split' 16 rfl (fun h1 => ?_) (fun h1 => ?_)
    · skip
      have q1 : decide (c.kind < 1) = true := h1
      refine OW.le (show LE _ _ ⟨J, (sset (sset (sset (sset noSlots 2 (.d (.iptr [encS s]))) 3 (.d (.iptr (encC c)))) 4 (.ptr 1 0)) 16 (.d (.lit (.bool true)))), (hset noHeap 1 (some (.box 24 [.d (.lit (.slice none 0 0))])))⟩ from LE_sh (slh_set (v := .d (.lit (.bool true))) (slh_set (v := .ptr 1 0) (slh_set (v := .d (.iptr (encC c))) (slh_set (v := .d (.iptr [encS s])) (slh_no _ _) (by rfl) rfl) (by rfl) rfl) (by rfl) rfl) (by rfl) rfl) (hlh_set (hlh_no _ _) rfl rfl)) ?_
      refine OW_run' hE.ok 41 rfl ?_
      refine OW_end rfl ?_
      refine CW_true rfl ?_
      refine CW_seq ?_
      refine CW_region ?_
      refine OW_run' hE.ok 1 rfl ?_
      refine OW_store' hE rfl rfl rfl rfl rfl rfl rfl rfl rfl rfl rfl rfl ?_
      refine OW_run' hE.ok 1 rfl ?_
      refine OW_end rfl ?_
      refine CW_ret ?_
      refine ⟨.inr rfl, rfl, ⟨_, rfl, rfl, ?_⟩, rfl⟩
      rw [ap_bad (bc_1 q1)]
      exact AVle.refl _
    · skip
      have q1 : decide (c.kind < 1) = false := h1
      refine OW.le (show LE _ _ ⟨J, (sset (sset (sset (sset noSlots 2 (.d (.iptr [encS s]))) 3 (.d (.iptr (encC c)))) 4 (.ptr 1 0)) 16 (.d (.lit (.bool false)))), (hset noHeap 1 (some (.box 24 [.d (.lit (.slice none 0 0))])))⟩ from LE_sh (slh_set (v := .d (.lit (.bool false))) (slh_set (v := .ptr 1 0) (slh_set (v := .d (.iptr (encC c))) (slh_set (v := .d (.iptr [encS s])) (slh_no _ _) (by rfl) rfl) (by rfl) rfl) (by rfl) rfl) (by rfl) rfl) (hlh_set (hlh_no _ _) rfl rfl)) ?_
      refine OW_run' hE.ok 5 rfl ?_
      refine OW_split' 21 rfl (fun h2 => ?_) (fun h2 => ?_)
      · skip
        have q2 : decide (c.kind > 5) = true := h2
        refine OW.le (show LE _ _ ⟨J, (sset (sset (sset (sset noSlots 2 (.d (.iptr [encS s]))) 3 (.d (.iptr (encC c)))) 4 (.ptr 1 0)) 21 (.d (.lit (.bool true)))), (hset noHeap 1 (some (.box 24 [.d (.lit (.slice none 0 0))])))⟩ from LE_sh (slh_set (v := .d (.lit (.bool true))) (slh_set (v := .ptr 1 0) (slh_set (v := .d (.iptr (encC c))) (slh_set (v := .d (.iptr [encS s])) (slh_no _ _) (by rfl) rfl) (by rfl) rfl) (by rfl) rfl) (by rfl) rfl) (hlh_set (hlh_no _ _) rfl rfl)) ?_
        refine OW_run' hE.ok 36 rfl ?_
        refine OW_end rfl ?_
        refine CW_true rfl ?_
        refine CW_seq ?_
        refine CW_region ?_
        refine OW_run' hE.ok 1 rfl ?_
        refine OW_store' hE rfl rfl rfl rfl rfl rfl rfl rfl rfl rfl rfl rfl ?_
        refine OW_run' hE.ok 1 rfl ?_
        refine OW_end rfl ?_
        refine CW_ret ?_
        refine ⟨.inr rfl, rfl, ⟨_, rfl, rfl, ?_⟩, rfl⟩
        rw [ap_bad (bc_2 q2)]
        exact AVle.refl _
      · skip
        have q2 : decide (c.kind > 5) = false := h2
        refine OW.le (show LE _ _ ⟨J, (sset (sset (sset (sset noSlots 2 (.d (.iptr [encS s]))) 3 (.d (.iptr (encC c)))) 4 (.ptr 1 0)) 21 (.d (.lit (.bool false)))), (hset noHeap 1 (some (.box 24 [.d (.lit (.slice none 0 0))])))⟩ from LE_sh (slh_set (v := .d (.lit (.bool false))) (slh_set (v := .ptr 1 0) (slh_set (v := .d (.iptr (encC c))) (slh_set (v := .d (.iptr [encS s])) (slh_no _ _) (by rfl) rfl) (by rfl) rfl) (by rfl) rfl) (by rfl) rfl) (hlh_set (hlh_no _ _) rfl rfl)) ?_
        refine OW_run' hE.ok 2 rfl ?_
        refine OW_call' hE (refNameOk c.ty) rfl rfl rfl rfl rfl rfl rfl ?_
        refine OW_run' hE.ok 3 rfl ?_
        refine OW_split' 27 rfl (fun h3 => ?_) (fun h3 => ?_)
        · skip
          have q3 : (!isName c.ty) = true := h3
          refine OW.le (show LE _ _ ⟨J, (sset (sset (sset (sset noSlots 2 (.d (.iptr [encS s]))) 3 (.d (.iptr (encC c)))) 4 (.ptr 1 0)) 27 (.d (.lit (.bool true)))), (hset noHeap 1 (some (.box 24 [.d (.lit (.slice none 0 0))])))⟩ from LE_sh (slh_set (v := .d (.lit (.bool true))) (slh_set (v := .ptr 1 0) (slh_set (v := .d (.iptr (encC c))) (slh_set (v := .d (.iptr [encS s])) (slh_no _ _) (by rfl) rfl) (by rfl) rfl) (by rfl) rfl) (by rfl) rfl) (hlh_set (hlh_no _ _) rfl rfl)) ?_
          refine OW_run' hE.ok 30 rfl ?_
          refine OW_end rfl ?_
          refine CW_true rfl ?_
          refine CW_seq ?_
          refine CW_region ?_
          refine OW_run' hE.ok 1 rfl ?_
          refine OW_store' hE rfl rfl rfl rfl rfl rfl rfl rfl rfl rfl rfl rfl ?_
          refine OW_run' hE.ok 1 rfl ?_
          refine OW_end rfl ?_
          refine CW_ret ?_
          refine ⟨.inr rfl, rfl, ⟨_, rfl, rfl, ?_⟩, rfl⟩
          rw [ap_bad (bc_3 q3)]
          exact AVle.refl _
        · skip
          have q3 : (!isName c.ty) = false := h3
          refine OW.le (show LE _ _ ⟨J, (sset (sset (sset (sset noSlots 2 (.d (.iptr [encS s]))) 3 (.d (.iptr (encC c)))) 4 (.ptr 1 0)) 27 (.d (.lit (.bool false)))), (hset noHeap 1 (some (.box 24 [.d (.lit (.slice none 0 0))])))⟩ from LE_sh (slh_set (v := .d (.lit (.bool false))) (slh_set (v := .ptr 1 0) (slh_set (v := .d (.iptr (encC c))) (slh_set (v := .d (.iptr [encS s])) (slh_no _ _) (by rfl) rfl) (by rfl) rfl) (by rfl) rfl) (by rfl) rfl) (hlh_set (hlh_no _ _) rfl rfl)) ?_
          refine OW_run' hE.ok 4 rfl ?_
          refine OW_split' 31 rfl (fun h4 => ?_) (fun h4 => ?_)
          · skip
            have b1 : (c.kind != 1) = true := h4
            refine OW.le (show LE _ _ ⟨J, (sset (sset (sset (sset (sset noSlots 2 (.d (.iptr [encS s]))) 3 (.d (.iptr (encC c)))) 4 (.ptr 1 0)) 27 (.d (.lit (.bool false)))) 31 (.d (.lit (.bool true)))), (hset noHeap 1 (some (.box 24 [.d (.lit (.slice none 0 0))])))⟩ from LE_sh (slh_set (v := .d (.lit (.bool true))) (slh_set (v := .d (.lit (.bool false))) (slh_set (v := .ptr 1 0) (slh_set (v := .d (.iptr (encC c))) (slh_set (v := .d (.iptr [encS s])) (slh_no _ _) (by rfl) rfl) (by rfl) rfl) (by rfl) rfl) (by rfl) rfl) (by rfl) rfl) (hlh_set (hlh_no _ _) rfl rfl)) ?_
            refine OW_run' hE.ok 2 rfl ?_
            refine OW_build' hE rfl rfl rfl rfl rfl ?_
            refine OW_loc' hE (loc_neq rfl rfl rfl (r := sameV c.dv voidV) (eqLaw_flat T_ok (t := 31) rfl (by decide +kernel) rfl (X := encV c.dv) (Y := encV voidV) rfl rfl rfl)) rfl rfl rfl ?_
            refine OW_run' hE.ok 3 rfl ?_
            refine OW_split' 38 rfl (fun h5 => ?_) (fun h5 => ?_)
            · skip
              have b2 : (!sameV c.dv voidV) = true := h5
              refine OW.le (show LE _ _ ⟨J, (sset (sset (sset (sset noSlots 2 (.d (.iptr [encS s]))) 3 (.d (.iptr (encC c)))) 4 (.ptr 1 0)) 38 (.d (.lit (.bool true)))), (hset noHeap 1 (some (.box 24 [.d (.lit (.slice none 0 0))])))⟩ from LE_sh (slh_set (v := .d (.lit (.bool true))) (slh_set (v := .ptr 1 0) (slh_set (v := .d (.iptr (encC c))) (slh_set (v := .d (.iptr [encS s])) (slh_no _ _) (by rfl) rfl) (by rfl) rfl) (by rfl) rfl) (by rfl) rfl) (hlh_set (hlh_no _ _) rfl rfl)) ?_
              refine OW_run' hE.ok 19 rfl ?_
              refine OW_end rfl ?_
              refine CW_true rfl ?_
              refine CW_seq ?_
              refine CW_region ?_
              refine OW_run' hE.ok 1 rfl ?_
              refine OW_store' hE rfl rfl rfl rfl rfl rfl rfl rfl rfl rfl rfl rfl ?_
              refine OW_run' hE.ok 1 rfl ?_
              refine OW_end rfl ?_
              refine CW_ret ?_
              refine ⟨.inr rfl, rfl, ⟨_, rfl, rfl, ?_⟩, rfl⟩
              rw [ap_bad (rb_1 q1 q2 b1 b2)]
              exact AVle.refl _
            · skip
              have b2 : (!sameV c.dv voidV) = false := h5
              have p1 : (c.kind != 1) = false ∨ (!sameV c.dv voidV) = false := .inr b2
              refine OW.le (show LE _ _ ⟨J, (sset (sset (sset (sset noSlots 2 (.d (.iptr [encS s]))) 3 (.d (.iptr (encC c)))) 4 (.ptr 1 0)) 38 (.d (.lit (.bool false)))), (hset noHeap 1 (some (.box 24 [.d (.lit (.slice none 0 0))])))⟩ from LE_sh (slh_set (v := .d (.lit (.bool false))) (slh_set (v := .ptr 1 0) (slh_set (v := .d (.iptr (encC c))) (slh_set (v := .d (.iptr [encS s])) (slh_no _ _) (by rfl) rfl) (by rfl) rfl) (by rfl) rfl) (by rfl) rfl) (hlh_set (hlh_no _ _) rfl rfl)) ?_
              refine OW_run' hE.ok 4 rfl ?_
              refine OW_split' 42 rfl (fun h6 => ?_) (fun h6 => ?_)
              · skip
                have b3 : (c.kind != 3) = true := h6
                refine OW.le (show LE _ _ ⟨J, (sset (sset (sset (sset (sset noSlots 2 (.d (.iptr [encS s]))) 3 (.d (.iptr (encC c)))) 4 (.ptr 1 0)) 38 (.d (.lit (.bool false)))) 42 (.d (.lit (.bool true)))), (hset noHeap 1 (some (.box 24 [.d (.lit (.slice none 0 0))])))⟩ from LE_sh (slh_set (v := .d (.lit (.bool true))) (slh_set (v := .d (.lit (.bool false))) (slh_set (v := .ptr 1 0) (slh_set (v := .d (.iptr (encC c))) (slh_set (v := .d (.iptr [encS s])) (slh_no _ _) (by rfl) rfl) (by rfl) rfl) (by rfl) rfl) (by rfl) rfl) (by rfl) rfl) (hlh_set (hlh_no _ _) rfl rfl)) ?_
                refine OW_run' hE.ok 6 rfl ?_
                refine OW_split' 48 rfl (fun h7 => ?_) (fun h7 => ?_)
                · skip
                  have b4 : (!(c.to.toList == nul.toList)) = true := h7
                  refine OW.le (show LE _ _ ⟨J, (sset (sset (sset (sset noSlots 2 (.d (.iptr [encS s]))) 3 (.d (.iptr (encC c)))) 4 (.ptr 1 0)) 48 (.d (.lit (.bool true)))), (hset noHeap 1 (some (.box 24 [.d (.lit (.slice none 0 0))])))⟩ from LE_sh (slh_set (v := .d (.lit (.bool true))) (slh_set (v := .ptr 1 0) (slh_set (v := .d (.iptr (encC c))) (slh_set (v := .d (.iptr [encS s])) (slh_no _ _) (by rfl) rfl) (by rfl) rfl) (by rfl) rfl) (by rfl) rfl) (hlh_set (hlh_no _ _) rfl rfl)) ?_
                  refine OW_run' hE.ok 9 rfl ?_
                  refine OW_end rfl ?_
                  refine CW_true rfl ?_
                  refine CW_seq ?_
                  refine CW_region ?_
                  refine OW_run' hE.ok 1 rfl ?_
                  refine OW_store' hE rfl rfl rfl rfl rfl rfl rfl rfl rfl rfl rfl rfl ?_
                  refine OW_run' hE.ok 1 rfl ?_
                  refine OW_end rfl ?_
                  refine CW_ret ?_
                  refine ⟨.inr rfl, rfl, ⟨_, rfl, rfl, ?_⟩, rfl⟩
                  rw [ap_bad (rb_2 q1 q2 b3 b4)]
                  exact AVle.refl _
                · skip
                  have b4 : (!(c.to.toList == nul.toList)) = false := h7
                  have p2 : (c.kind != 3) = false ∨ (!(c.to.toList == nul.toList)) = false := .inr b4
                  refine OW.le (show LE _ _ ⟨J, (sset (sset (sset (sset noSlots 2 (.d (.iptr [encS s]))) 3 (.d (.iptr (encC c)))) 4 (.ptr 1 0)) 48 (.d (.lit (.bool false)))), (hset noHeap 1 (some (.box 24 [.d (.lit (.slice none 0 0))])))⟩ from LE_sh (slh_set (v := .d (.lit (.bool false))) (slh_set (v := .ptr 1 0) (slh_set (v := .d (.iptr (encC c))) (slh_set (v := .d (.iptr [encS s])) (slh_no _ _) (by rfl) rfl) (by rfl) rfl) (by rfl) rfl) (by rfl) rfl) (hlh_set (hlh_no _ _) rfl rfl)) ?_
                  refine OW_run' hE.ok 4 rfl ?_
                  refine OW_split' 52 rfl (fun h8 => ?_) (fun h8 => ?_)
                  · skip
                    have b5 : (c.kind == 5) = true := h8
                    refine OW.le (show LE _ _ ⟨J, (sset (sset (sset (sset (sset noSlots 2 (.d (.iptr [encS s]))) 3 (.d (.iptr (encC c)))) 4 (.ptr 1 0)) 48 (.d (.lit (.bool false)))) 52 (.d (.lit (.bool true)))), (hset noHeap 1 (some (.box 24 [.d (.lit (.slice none 0 0))])))⟩ from LE_sh (slh_set (v := .d (.lit (.bool true))) (slh_set (v := .d (.lit (.bool false))) (slh_set (v := .ptr 1 0) (slh_set (v := .d (.iptr (encC c))) (slh_set (v := .d (.iptr [encS s])) (slh_no _ _) (by rfl) rfl) (by rfl) rfl) (by rfl) rfl) (by rfl) rfl) (by rfl) rfl) (hlh_set (hlh_no _ _) rfl rfl)) ?_
                    refine OW_run' hE.ok 5 rfl ?_
                    refine OW_end rfl ?_
                    refine CW_cond _ rfl (fun h9 => ?_) (fun h9 => ?_)
                    · skip
                      have b6 : (!(c.fld.toList == nul.toList)) = true := h9
                      refine CW_seq ?_
                      refine CW_region ?_
                      refine OW_run' hE.ok 1 rfl ?_
                      refine OW_store' hE rfl rfl rfl rfl rfl rfl rfl rfl rfl rfl rfl rfl ?_
                      refine OW_run' hE.ok 1 rfl ?_
                      refine OW_end rfl ?_
                      refine CW_ret ?_
                      refine ⟨.inr rfl, rfl, ⟨_, rfl, rfl, ?_⟩, rfl⟩
                      rw [ap_bad (rb_3 q1 q2 b5 b6)]
                      exact AVle.refl _
                    · skip
                      have b6 : (!(c.fld.toList == nul.toList)) = false := h9
                      have p3 : (c.kind == 5) = false ∨ (!(c.fld.toList == nul.toList)) = false := .inr b6
                      refine CW_skip ?_
                      exact ⟨(), rb_no q1 q2 q3 p1 p2 p3, LE_sh (slh_set (v := .ptr 1 0) (slh_set (v := .d (.iptr (encC c))) (slh_set (v := .d (.iptr [encS s])) (slh_no _ _) (by rfl) rfl) (by rfl) rfl) (by rfl) rfl) (hlh_set (hlh_no _ _) rfl rfl)⟩
                  · skip
                    have b5 : (c.kind == 5) = false := h8
                    have p3 : (c.kind == 5) = false ∨ (!(c.fld.toList == nul.toList)) = false := .inl b5
                    refine OW.le (show LE _ _ ⟨J, (sset (sset (sset (sset (sset noSlots 2 (.d (.iptr [encS s]))) 3 (.d (.iptr (encC c)))) 4 (.ptr 1 0)) 48 (.d (.lit (.bool false)))) 52 (.d (.lit (.bool false)))), (hset noHeap 1 (some (.box 24 [.d (.lit (.slice none 0 0))])))⟩ from LE_sh (slh_set (v := .d (.lit (.bool false))) (slh_set (v := .d (.lit (.bool false))) (slh_set (v := .ptr 1 0) (slh_set (v := .d (.iptr (encC c))) (slh_set (v := .d (.iptr [encS s])) (slh_no _ _) (by rfl) rfl) (by rfl) rfl) (by rfl) rfl) (by rfl) rfl) (by rfl) rfl) (hlh_set (hlh_no _ _) rfl rfl)) ?_
                    refine OW_run' hE.ok 5 rfl ?_
                    refine OW_end rfl ?_
                    refine CW_false rfl ?_
                    refine CW_skip ?_
                    exact ⟨(), rb_no q1 q2 q3 p1 p2 p3, LE_sh (slh_set (v := .ptr 1 0) (slh_set (v := .d (.iptr (encC c))) (slh_set (v := .d (.iptr [encS s])) (slh_no _ _) (by rfl) rfl) (by rfl) rfl) (by rfl) rfl) (hlh_set (hlh_no _ _) rfl rfl)⟩
              · skip
                have b3 : (c.kind != 3) = false := h6
                have p2 : (c.kind != 3) = false ∨ (!(c.to.toList == nul.toList)) = false := .inl b3
                refine OW.le (show LE _ _ ⟨J, (sset (sset (sset (sset (sset noSlots 2 (.d (.iptr [encS s]))) 3 (.d (.iptr (encC c)))) 4 (.ptr 1 0)) 38 (.d (.lit (.bool false)))) 42 (.d (.lit (.bool false)))), (hset noHeap 1 (some (.box 24 [.d (.lit (.slice none 0 0))])))⟩ from LE_sh (slh_set (v := .d (.lit (.bool false))) (slh_set (v := .d (.lit (.bool false))) (slh_set (v := .ptr 1 0) (slh_set (v := .d (.iptr (encC c))) (slh_set (v := .d (.iptr [encS s])) (slh_no _ _) (by rfl) rfl) (by rfl) rfl) (by rfl) rfl) (by rfl) rfl) (by rfl) rfl) (hlh_set (hlh_no _ _) rfl rfl)) ?_
                refine OW_run' hE.ok 10 rfl ?_
                refine OW_split' 52 rfl (fun h10 => ?_) (fun h10 => ?_)
                · skip
                  have b5 : (c.kind == 5) = true := h10
                  refine OW.le (show LE _ _ ⟨J, (sset (sset (sset (sset (sset noSlots 2 (.d (.iptr [encS s]))) 3 (.d (.iptr (encC c)))) 4 (.ptr 1 0)) 48 (.d (.lit (.bool false)))) 52 (.d (.lit (.bool true)))), (hset noHeap 1 (some (.box 24 [.d (.lit (.slice none 0 0))])))⟩ from LE_sh (slh_set (v := .d (.lit (.bool true))) (slh_set (v := .d (.lit (.bool false))) (slh_set (v := .ptr 1 0) (slh_set (v := .d (.iptr (encC c))) (slh_set (v := .d (.iptr [encS s])) (slh_no _ _) (by rfl) rfl) (by rfl) rfl) (by rfl) rfl) (by rfl) rfl) (by rfl) rfl) (hlh_set (hlh_no _ _) rfl rfl)) ?_
                  refine OW_run' hE.ok 5 rfl ?_
                  refine OW_end rfl ?_
                  refine CW_cond _ rfl (fun h11 => ?_) (fun h11 => ?_)
                  · skip
                    have b6 : (!(c.fld.toList == nul.toList)) = true := h11
                    refine CW_seq ?_
                    refine CW_region ?_
                    refine OW_run' hE.ok 1 rfl ?_
                    refine OW_store' hE rfl rfl rfl rfl rfl rfl rfl rfl rfl rfl rfl rfl ?_
                    refine OW_run' hE.ok 1 rfl ?_
                    refine OW_end rfl ?_
                    refine CW_ret ?_
                    refine ⟨.inr rfl, rfl, ⟨_, rfl, rfl, ?_⟩, rfl⟩
                    rw [ap_bad (rb_3 q1 q2 b5 b6)]
                    exact AVle.refl _
                  · skip
                    have b6 : (!(c.fld.toList == nul.toList)) = false := h11
                    have p3 : (c.kind == 5) = false ∨ (!(c.fld.toList == nul.toList)) = false := .inr b6
                    refine CW_skip ?_
                    exact ⟨(), rb_no q1 q2 q3 p1 p2 p3, LE_sh (slh_set (v := .ptr 1 0) (slh_set (v := .d (.iptr (encC c))) (slh_set (v := .d (.iptr [encS s])) (slh_no _ _) (by rfl) rfl) (by rfl) rfl) (by rfl) rfl) (hlh_set (hlh_no _ _) rfl rfl)⟩
                · skip
                  have b5 : (c.kind == 5) = false := h10
                  have p3 : (c.kind == 5) = false ∨ (!(c.fld.toList == nul.toList)) = false := .inl b5
                  refine OW.le (show LE _ _ ⟨J, (sset (sset (sset (sset (sset noSlots 2 (.d (.iptr [encS s]))) 3 (.d (.iptr (encC c)))) 4 (.ptr 1 0)) 48 (.d (.lit (.bool false)))) 52 (.d (.lit (.bool false)))), (hset noHeap 1 (some (.box 24 [.d (.lit (.slice none 0 0))])))⟩ from LE_sh (slh_set (v := .d (.lit (.bool false))) (slh_set (v := .d (.lit (.bool false))) (slh_set (v := .ptr 1 0) (slh_set (v := .d (.iptr (encC c))) (slh_set (v := .d (.iptr [encS s])) (slh_no _ _) (by rfl) rfl) (by rfl) rfl) (by rfl) rfl) (by rfl) rfl) (by rfl) rfl) (hlh_set (hlh_no _ _) rfl rfl)) ?_
                  refine OW_run' hE.ok 5 rfl ?_
                  refine OW_end rfl ?_
                  refine CW_false rfl ?_
                  refine CW_skip ?_
                  exact ⟨(), rb_no q1 q2 q3 p1 p2 p3, LE_sh (slh_set (v := .ptr 1 0) (slh_set (v := .d (.iptr (encC c))) (slh_set (v := .d (.iptr [encS s])) (slh_no _ _) (by rfl) rfl) (by rfl) rfl) (by rfl) rfl) (hlh_set (hlh_no _ _) rfl rfl)⟩
          · skip
            have b1 : (c.kind != 1) = false := h4
            have p1 : (c.kind != 1) = false ∨ (!sameV c.dv voidV) = false := .inl b1
            refine OW.le (show LE _ _ ⟨J, (sset (sset (sset (sset (sset noSlots 2 (.d (.iptr [encS s]))) 3 (.d (.iptr (encC c)))) 4 (.ptr 1 0)) 27 (.d (.lit (.bool false)))) 31 (.d (.lit (.bool false)))), (hset noHeap 1 (some (.box 24 [.d (.lit (.slice none 0 0))])))⟩ from LE_sh (slh_set (v := .d (.lit (.bool false))) (slh_set (v := .d (.lit (.bool false))) (slh_set (v := .ptr 1 0) (slh_set (v := .d (.iptr (encC c))) (slh_set (v := .d (.iptr [encS s])) (slh_no _ _) (by rfl) rfl) (by rfl) rfl) (by rfl) rfl) (by rfl) rfl) (by rfl) rfl) (hlh_set (hlh_no _ _) rfl rfl)) ?_
            refine OW_run' hE.ok 11 rfl ?_
            refine OW_split' 42 rfl (fun h12 => ?_) (fun h12 => ?_)
            · skip
              have b3 : (c.kind != 3) = true := h12
              refine OW.le (show LE _ _ ⟨J, (sset (sset (sset (sset (sset noSlots 2 (.d (.iptr [encS s]))) 3 (.d (.iptr (encC c)))) 4 (.ptr 1 0)) 38 (.d (.lit (.bool false)))) 42 (.d (.lit (.bool true)))), (hset noHeap 1 (some (.box 24 [.d (.lit (.slice none 0 0))])))⟩ from LE_sh (slh_set (v := .d (.lit (.bool true))) (slh_set (v := .d (.lit (.bool false))) (slh_set (v := .ptr 1 0) (slh_set (v := .d (.iptr (encC c))) (slh_set (v := .d (.iptr [encS s])) (slh_no _ _) (by rfl) rfl) (by rfl) rfl) (by rfl) rfl) (by rfl) rfl) (by rfl) rfl) (hlh_set (hlh_no _ _) rfl rfl)) ?_
              refine OW_run' hE.ok 6 rfl ?_
              refine OW_split' 48 rfl (fun h13 => ?_) (fun h13 => ?_)
              · skip
                have b4 : (!(c.to.toList == nul.toList)) = true := h13
                refine OW.le (show LE _ _ ⟨J, (sset (sset (sset (sset noSlots 2 (.d (.iptr [encS s]))) 3 (.d (.iptr (encC c)))) 4 (.ptr 1 0)) 48 (.d (.lit (.bool true)))), (hset noHeap 1 (some (.box 24 [.d (.lit (.slice none 0 0))])))⟩ from LE_sh (slh_set (v := .d (.lit (.bool true))) (slh_set (v := .ptr 1 0) (slh_set (v := .d (.iptr (encC c))) (slh_set (v := .d (.iptr [encS s])) (slh_no _ _) (by rfl) rfl) (by rfl) rfl) (by rfl) rfl) (by rfl) rfl) (hlh_set (hlh_no _ _) rfl rfl)) ?_
                refine OW_run' hE.ok 9 rfl ?_
                refine OW_end rfl ?_
                refine CW_true rfl ?_
                refine CW_seq ?_
                refine CW_region ?_
                refine OW_run' hE.ok 1 rfl ?_
                refine OW_store' hE rfl rfl rfl rfl rfl rfl rfl rfl rfl rfl rfl rfl ?_
                refine OW_run' hE.ok 1 rfl ?_
                refine OW_end rfl ?_
                refine CW_ret ?_
                refine ⟨.inr rfl, rfl, ⟨_, rfl, rfl, ?_⟩, rfl⟩
                rw [ap_bad (rb_2 q1 q2 b3 b4)]
                exact AVle.refl _
              · skip
                have b4 : (!(c.to.toList == nul.toList)) = false := h13
                have p2 : (c.kind != 3) = false ∨ (!(c.to.toList == nul.toList)) = false := .inr b4
                refine OW.le (show LE _ _ ⟨J, (sset (sset (sset (sset noSlots 2 (.d (.iptr [encS s]))) 3 (.d (.iptr (encC c)))) 4 (.ptr 1 0)) 48 (.d (.lit (.bool false)))), (hset noHeap 1 (some (.box 24 [.d (.lit (.slice none 0 0))])))⟩ from LE_sh (slh_set (v := .d (.lit (.bool false))) (slh_set (v := .ptr 1 0) (slh_set (v := .d (.iptr (encC c))) (slh_set (v := .d (.iptr [encS s])) (slh_no _ _) (by rfl) rfl) (by rfl) rfl) (by rfl) rfl) (by rfl) rfl) (hlh_set (hlh_no _ _) rfl rfl)) ?_
                refine OW_run' hE.ok 4 rfl ?_
                refine OW_split' 52 rfl (fun h14 => ?_) (fun h14 => ?_)
                · skip
                  have b5 : (c.kind == 5) = true := h14
                  refine OW.le (show LE _ _ ⟨J, (sset (sset (sset (sset (sset noSlots 2 (.d (.iptr [encS s]))) 3 (.d (.iptr (encC c)))) 4 (.ptr 1 0)) 48 (.d (.lit (.bool false)))) 52 (.d (.lit (.bool true)))), (hset noHeap 1 (some (.box 24 [.d (.lit (.slice none 0 0))])))⟩ from LE_sh (slh_set (v := .d (.lit (.bool true))) (slh_set (v := .d (.lit (.bool false))) (slh_set (v := .ptr 1 0) (slh_set (v := .d (.iptr (encC c))) (slh_set (v := .d (.iptr [encS s])) (slh_no _ _) (by rfl) rfl) (by rfl) rfl) (by rfl) rfl) (by rfl) rfl) (by rfl) rfl) (hlh_set (hlh_no _ _) rfl rfl)) ?_
                  refine OW_run' hE.ok 5 rfl ?_
                  refine OW_end rfl ?_
                  refine CW_cond _ rfl (fun h15 => ?_) (fun h15 => ?_)
                  · skip
                    have b6 : (!(c.fld.toList == nul.toList)) = true := h15
                    refine CW_seq ?_
                    refine CW_region ?_
                    refine OW_run' hE.ok 1 rfl ?_
                    refine OW_store' hE rfl rfl rfl rfl rfl rfl rfl rfl rfl rfl rfl rfl ?_
                    refine OW_run' hE.ok 1 rfl ?_
                    refine OW_end rfl ?_
                    refine CW_ret ?_
                    refine ⟨.inr rfl, rfl, ⟨_, rfl, rfl, ?_⟩, rfl⟩
                    rw [ap_bad (rb_3 q1 q2 b5 b6)]
                    exact AVle.refl _
                  · skip
                    have b6 : (!(c.fld.toList == nul.toList)) = false := h15
                    have p3 : (c.kind == 5) = false ∨ (!(c.fld.toList == nul.toList)) = false := .inr b6
                    refine CW_skip ?_
                    exact ⟨(), rb_no q1 q2 q3 p1 p2 p3, LE_sh (slh_set (v := .ptr 1 0) (slh_set (v := .d (.iptr (encC c))) (slh_set (v := .d (.iptr [encS s])) (slh_no _ _) (by rfl) rfl) (by rfl) rfl) (by rfl) rfl) (hlh_set (hlh_no _ _) rfl rfl)⟩
                · skip
                  have b5 : (c.kind == 5) = false := h14
                  have p3 : (c.kind == 5) = false ∨ (!(c.fld.toList == nul.toList)) = false := .inl b5
                  refine OW.le (show LE _ _ ⟨J, (sset (sset (sset (sset (sset noSlots 2 (.d (.iptr [encS s]))) 3 (.d (.iptr (encC c)))) 4 (.ptr 1 0)) 48 (.d (.lit (.bool false)))) 52 (.d (.lit (.bool false)))), (hset noHeap 1 (some (.box 24 [.d (.lit (.slice none 0 0))])))⟩ from LE_sh (slh_set (v := .d (.lit (.bool false))) (slh_set (v := .d (.lit (.bool false))) (slh_set (v := .ptr 1 0) (slh_set (v := .d (.iptr (encC c))) (slh_set (v := .d (.iptr [encS s])) (slh_no _ _) (by rfl) rfl) (by rfl) rfl) (by rfl) rfl) (by rfl) rfl) (by rfl) rfl) (hlh_set (hlh_no _ _) rfl rfl)) ?_
                  refine OW_run' hE.ok 5 rfl ?_
                  refine OW_end rfl ?_
                  refine CW_false rfl ?_
                  refine CW_skip ?_
                  exact ⟨(), rb_no q1 q2 q3 p1 p2 p3, LE_sh (slh_set (v := .ptr 1 0) (slh_set (v := .d (.iptr (encC c))) (slh_set (v := .d (.iptr [encS s])) (slh_no _ _) (by rfl) rfl) (by rfl) rfl) (by rfl) rfl) (hlh_set (hlh_no _ _) rfl rfl)⟩
            · skip
              have b3 : (c.kind != 3) = false := h12
              have p2 : (c.kind != 3) = false ∨ (!(c.to.toList == nul.toList)) = false := .inl b3
              refine OW.le (show LE _ _ ⟨J, (sset (sset (sset (sset (sset noSlots 2 (.d (.iptr [encS s]))) 3 (.d (.iptr (encC c)))) 4 (.ptr 1 0)) 38 (.d (.lit (.bool false)))) 42 (.d (.lit (.bool false)))), (hset noHeap 1 (some (.box 24 [.d (.lit (.slice none 0 0))])))⟩ from LE_sh (slh_set (v := .d (.lit (.bool false))) (slh_set (v := .d (.lit (.bool false))) (slh_set (v := .ptr 1 0) (slh_set (v := .d (.iptr (encC c))) (slh_set (v := .d (.iptr [encS s])) (slh_no _ _) (by rfl) rfl) (by rfl) rfl) (by rfl) rfl) (by rfl) rfl) (by rfl) rfl) (hlh_set (hlh_no _ _) rfl rfl)) ?_
              refine OW_run' hE.ok 10 rfl ?_
              refine OW_split' 52 rfl (fun h16 => ?_) (fun h16 => ?_)
              · skip
                have b5 : (c.kind == 5) = true := h16
                refine OW.le (show LE _ _ ⟨J, (sset (sset (sset (sset (sset noSlots 2 (.d (.iptr [encS s]))) 3 (.d (.iptr (encC c)))) 4 (.ptr 1 0)) 48 (.d (.lit (.bool false)))) 52 (.d (.lit (.bool true)))), (hset noHeap 1 (some (.box 24 [.d (.lit (.slice none 0 0))])))⟩ from LE_sh (slh_set (v := .d (.lit (.bool true))) (slh_set (v := .d (.lit (.bool false))) (slh_set (v := .ptr 1 0) (slh_set (v := .d (.iptr (encC c))) (slh_set (v := .d (.iptr [encS s])) (slh_no _ _) (by rfl) rfl) (by rfl) rfl) (by rfl) rfl) (by rfl) rfl) (by rfl) rfl) (hlh_set (hlh_no _ _) rfl rfl)) ?_
                refine OW_run' hE.ok 5 rfl ?_
                refine OW_end rfl ?_
                refine CW_cond _ rfl (fun h17 => ?_) (fun h17 => ?_)
                · skip
                  have b6 : (!(c.fld.toList == nul.toList)) = true := h17
                  refine CW_seq ?_
                  refine CW_region ?_
                  refine OW_run' hE.ok 1 rfl ?_
                  refine OW_store' hE rfl rfl rfl rfl rfl rfl rfl rfl rfl rfl rfl rfl ?_
                  refine OW_run' hE.ok 1 rfl ?_
                  refine OW_end rfl ?_
                  refine CW_ret ?_
                  refine ⟨.inr rfl, rfl, ⟨_, rfl, rfl, ?_⟩, rfl⟩
                  rw [ap_bad (rb_3 q1 q2 b5 b6)]
                  exact AVle.refl _
                · skip
                  have b6 : (!(c.fld.toList == nul.toList)) = false := h17
                  have p3 : (c.kind == 5) = false ∨ (!(c.fld.toList == nul.toList)) = false := .inr b6
                  refine CW_skip ?_
                  exact ⟨(), rb_no q1 q2 q3 p1 p2 p3, LE_sh (slh_set (v := .ptr 1 0) (slh_set (v := .d (.iptr (encC c))) (slh_set (v := .d (.iptr [encS s])) (slh_no _ _) (by rfl) rfl) (by rfl) rfl) (by rfl) rfl) (hlh_set (hlh_no _ _) rfl rfl)⟩
              · skip
                have b5 : (c.kind == 5) = false := h16
                have p3 : (c.kind == 5) = false ∨ (!(c.fld.toList == nul.toList)) = false := .inl b5
                refine OW.le (show LE _ _ ⟨J, (sset (sset (sset (sset (sset noSlots 2 (.d (.iptr [encS s]))) 3 (.d (.iptr (encC c)))) 4 (.ptr 1 0)) 48 (.d (.lit (.bool false)))) 52 (.d (.lit (.bool false)))), (hset noHeap 1 (some (.box 24 [.d (.lit (.slice none 0 0))])))⟩ from LE_sh (slh_set (v := .d (.lit (.bool false))) (slh_set (v := .d (.lit (.bool false))) (slh_set (v := .ptr 1 0) (slh_set (v := .d (.iptr (encC c))) (slh_set (v := .d (.iptr [encS s])) (slh_no _ _) (by rfl) rfl) (by rfl) rfl) (by rfl) rfl) (by rfl) rfl) (by rfl) rfl) (hlh_set (hlh_no _ _) rfl rfl)) ?_
                refine OW_run' hE.ok 5 rfl ?_
                refine OW_end rfl ?_
                refine CW_false rfl ?_
                refine CW_skip ?_
                exact ⟨(), rb_no q1 q2 q3 p1 p2 p3, LE_sh (slh_set (v := .ptr 1 0) (slh_set (v := .d (.iptr (encC c))) (slh_set (v := .d (.iptr [encS s])) (slh_no _ _) (by rfl) rfl) (by rfl) rfl) (by rfl) rfl) (hlh_set (hlh_no _ _) rfl rfl)⟩
  · skip
    rintro _ hgood
    refine CW_seq ?_
    refine CW_region ?_
    refine OW_run' hE.ok 1 rfl ?_
    refine OW_end rfl ?_
    refine CW_cutE (fun _ : Unit => ⟨J, (sset (sset (sset (sset noSlots 2 (.d (.iptr [encS s]))) 3 (.d (.iptr (encC c)))) 4 (.ptr 1 0)) 6 (.d (int (typeIdx s c.ty)))), (hset noHeap 1 (some (.box 24 [.d (.lit (.slice none 0 0))])))⟩) (fun _ => True) ?_ ?_
    · skip
      refine CW_seq ?_
      refine CW_region ?_
      refine OW_run' hE.ok 1 rfl ?_
      refine OW_end rfl ?_
      refine CW_block ?_
      refine CW_loop (σ := {i : Nat // i ≤ s.length}) (fun i => ⟨J, (sset (sset (sset (sset (sset noSlots 2 (.d (.iptr [encS s]))) 3 (.d (.iptr (encC c)))) 4 (.ptr 1 0)) 6 (.d (int (atX s c.ty i.1)))) 7 (.d (int ((i.1 : Nat) : Int)))), (hset noHeap 1 (some (.box 24 [.d (.lit (.slice none 0 0))])))⟩) (fun i => s.length - i.1) ⟨0, Nat.zero_le _⟩ (LE_sh (slh_set (slh_set (slh_set (slh_set (slh_set (slh_no _ _) rfl rfl) rfl rfl) rfl rfl) (congrArg (fun z => AV.d (int z)) (atX_0 s c.ty).symm) rfl) rfl rfl) (hlh_set (hlh_no _ _) rfl rfl)) fun ⟨i, hi⟩ => ?_
      refine CW_seq ?_
      refine CW_seq ?_
      refine CW_region ?_
      refine OW_run' hE.ok 5 rfl ?_
      refine OW_end rfl ?_
      refine CW_cond _ rfl (fun h18 => ?_) (fun h18 => ?_)
      · skip
        have hlt : i < s.length := by have := h18; rw [List.length_map] at this; simp at this; omega
        obtain ⟨t, ht⟩ : ∃ t, s[i]? = some t := ⟨_, List.getElem?_eq_getElem hlt⟩
        refine CW_skip ?_
        refine CW_seq ?_
        refine CW_block ?_
        refine CW_seq ?_
        refine CW_drawn' hE 8 (by decide +kernel) ?_
        refine HW_run hE 3 rfl rfl ?_
        refine HW_loc hE (loc_indexAddr hE rfl rfl rfl rfl rfl (by omega) (x := encT t) (by simp [ht])) rfl rfl rfl rfl ?_
        refine HW_run hE 4 rfl rfl ?_
        refine HW_end ?_
        refine OW_run' hE.ok 1 rfl ?_
        refine OW_end rfl ?_
        refine CW_cond _ rfl (fun h19 => ?_) (fun h19 => ?_)
        · skip
          have hn : same t.name c.ty = true := h19
          refine CW_region ?_
          refine OW_run' hE.ok 2 rfl ?_
          refine OW_end rfl ?_
          refine CW_region ?_
          refine OW_run' hE.ok 3 rfl ?_
          refine OW_end rfl ?_
          refine ⟨⟨i + 1, hlt⟩, LE_sh (slh_set (v := .d (int ((i + 1 : Nat) : Int))) (slh_set (v := .d (int (atX s c.ty (i + 1)))) (slh_set (v := .ptr 1 0) (slh_set (v := .d (.iptr (encC c))) (slh_set (v := .d (.iptr [encS s])) (slh_no _ _) (by rfl) rfl) (by rfl) rfl) (by rfl) rfl) (by exact (congrArg (fun z => AV.d (int z)) ((atX_yes hs ht hn).symm))) rfl) (by show AV.d (.lit (.int .i64 (IntKind.i64.wrap ((i : Int) + 1)))) = _; rw [wrap_succ (by omega)]; rfl) rfl) (hlh_set (hlh_no _ _) rfl rfl), by show s.length - (i + 1) < s.length - i; omega⟩
        · skip
          have hn : same t.name c.ty = false := h19
          refine CW_skip ?_
          refine CW_region ?_
          refine OW_run' hE.ok 3 rfl ?_
          refine OW_end rfl ?_
          refine ⟨⟨i + 1, hlt⟩, LE_sh (slh_set (v := .d (int ((i + 1 : Nat) : Int))) (slh_set (v := .d (int (atX s c.ty (i + 1)))) (slh_set (v := .ptr 1 0) (slh_set (v := .d (.iptr (encC c))) (slh_set (v := .d (.iptr [encS s])) (slh_no _ _) (by rfl) rfl) (by rfl) rfl) (by rfl) rfl) (by exact (congrArg (fun z => AV.d (int z)) ((atX_no ht hn).symm))) rfl) (by show AV.d (.lit (.int .i64 (IntKind.i64.wrap ((i : Int) + 1)))) = _; rw [wrap_succ (by omega)]; rfl) rfl) (hlh_set (hlh_no _ _) rfl rfl), by show s.length - (i + 1) < s.length - i; omega⟩
      · skip
        have hge : i = s.length := by have := h18; rw [List.length_map] at this; simp at this; omega
        refine CW_exit ?_
        exact ⟨(), trivial, LE_sh (slh_set (v := .d (int (typeIdx s c.ty))) (slh_set (v := .ptr 1 0) (slh_set (v := .d (.iptr (encC c))) (slh_set (v := .d (.iptr [encS s])) (slh_no _ _) (by rfl) rfl) (by rfl) rfl) (by rfl) rfl) (by exact (congrArg (fun z => AV.d (int z)) (by show atX s c.ty i = _; rw [hge]; exact atX_end s c.ty))) rfl) (hlh_set (hlh_no _ _) rfl rfl)⟩
    · skip
      rintro _ _
      have hcs : (c.kind == 5) = true ∨ ((c.kind == 5) = false ∧ decide (typeIdx s c.ty < 0) = true) ∨ ((c.kind == 5) = false ∧ ∃ (i : Nat) (t : Ty), typeIdx s c.ty = (i : Int) ∧ s[i]? = some t) := by
        cases k5 : (c.kind == 5) with
        | true => exact .inl rfl
        | false =>
          cases k6 : decide (typeIdx s c.ty < 0) with
          | true => exact .inr (.inl ⟨rfl, rfl⟩)
          | false => exact .inr (.inr ⟨rfl, typeX_at (by simpa using k6)⟩)
      rcases hcs with k5 | ⟨k5, k6⟩ | ⟨k5, i, t, hix, ht⟩
      · skip
        skip
        refine CW_seq ?_
        refine CW_region ?_
        refine OW_run' hE.ok 1 rfl ?_
        refine OW_callM' hE (tr []) (refCopiedAll s hs) rfl rfl rfl rfl rfl trivial rfl rfl ?_
        refine OW_alloc' hE 2 rfl rfl rfl rfl rfl rfl rfl ?_
        refine OW_store' hE rfl rfl rfl rfl rfl rfl rfl rfl rfl rfl rfl rfl ?_
        refine OW_end rfl ?_
        refine CW_seq ?_
        refine CW_seq ?_
        refine CW.le (LE_rowD 50 (xs := s.map encT) rfl (by simp) (rnAs_dd _ _) (enc_two s)) ?_
        refine CW.le (LE_freeze 50 40 rfl (by simp; omega)) ?_
        refine CW.le (show LE _ _ ⟨J, (sset (sset (sset (sset (sset noSlots 2 (.d (.iptr [encS s]))) 3 (.d (.iptr (encC c)))) 4 (.ptr 1 0)) 6 (.d (int (typeIdx s c.ty)))) 8 (.ptr 2 0)), (hset (hset noHeap 1 (some (.box 24 [.d (.lit (.slice none 0 0))]))) 2 (some (.box 24 [.d (.sl 2 40 (s.map encT))])))⟩ from LE_sh (slh_set (v := .ptr 2 0) (slh_set (v := .d (int (typeIdx s c.ty))) (slh_set (v := .ptr 1 0) (slh_set (v := .d (.iptr (encC c))) (slh_set (v := .d (.iptr [encS s])) (slh_no _ _) (by rfl) rfl) (by rfl) rfl) (by rfl) rfl) (by rfl) rfl) (by rfl) rfl) (hlh_set (hlh_set (hlh_no _ _) rfl rfl) rfl rfl)) ?_
        refine CW_region ?_
        refine OW_run' hE.ok 3 rfl ?_
        refine OW_as' 80 (.d (boo true)) (congrArg (fun b => AV.d (boo b)) k5) ?_
        refine OW_end rfl ?_
        refine CW_true rfl ?_
        refine CW_seq ?_
        refine CW_seq ?_
        refine CW_region ?_
        refine OW_run' hE.ok 2 rfl ?_
        refine OW_end rfl ?_
        refine CW_cond _ rfl (fun h20 => ?_) (fun h20 => ?_)
        · skip
          have f1 : (findT s c.ty).2 = true := by rw [typeIdx_find]; exact h20
          refine CW_seq ?_
          refine CW_region ?_
          refine OW_run' hE.ok 1 rfl ?_
          refine OW_store' hE rfl rfl rfl rfl rfl rfl rfl rfl rfl rfl rfl rfl ?_
          refine OW_run' hE.ok 1 rfl ?_
          refine OW_end rfl ?_
          refine CW_ret ?_
          refine ⟨.inr rfl, rfl, ⟨_, rfl, rfl, ?_⟩, rfl⟩
          rw [ap_5 hgood k5, ad_1 f1]
          exact AVle.refl _
        · skip
          have f1 : (findT s c.ty).2 = false := by rw [typeIdx_find]; exact h20
          refine CW_skip ?_
          refine CW_seq ?_
          refine CW_seq ?_
          refine CW_region ?_
          refine OW_run' hE.ok 4 rfl ?_
          refine OW_end rfl ?_
          refine CW_cond _ rfl (fun h21 => ?_) (fun h21 => ?_)
          · skip
            have f2 : decide ((s.length : Int) ≥ 5) = true := by have := h21; rw [List.length_map] at this; exact this
            refine CW_seq ?_
            refine CW_region ?_
            refine OW_run' hE.ok 1 rfl ?_
            refine OW_store' hE rfl rfl rfl rfl rfl rfl rfl rfl rfl rfl rfl rfl ?_
            refine OW_run' hE.ok 1 rfl ?_
            refine OW_end rfl ?_
            refine CW_ret ?_
            refine ⟨.inr rfl, rfl, ⟨_, rfl, rfl, ?_⟩, rfl⟩
            rw [ap_5 hgood k5, ad_2 f1 f2]
            exact AVle.refl _
          · skip
            have f2 : decide ((s.length : Int) ≥ 5) = false := by have := h21; rw [List.length_map] at this; exact this
            refine CW_skip ?_
            refine CW_seq ?_
            refine CW_region ?_
            refine OW_run' hE.ok 1 rfl ?_
            refine OW_end rfl ?_
            refine CW_cutE (fun _ : Unit => ⟨J, (sset (sset (sset (sset noSlots 3 (.d (.iptr (encC c)))) 4 (.ptr 1 0)) 8 (.ptr 2 0)) 9 (.d (int ((posX s c.ty : Nat) : Int)))), (hset (hset noHeap 1 (some (.box 24 [.d (.lit (.slice none 0 0))]))) 2 (some (.box 24 [.d (.sl 2 40 (s.map encT))])))⟩) (fun _ => True) ?_ ?_
            · skip
              refine CW_block ?_
              refine CW_loop (σ := {k : Nat // k ≤ s.length ∧ ∀ (j : Nat) (a : Ty), j < k → s[j]? = some a → less a.name c.ty = true}) (fun k => ⟨J, (sset (sset (sset (sset (sset (sset noSlots 2 (.d (.iptr [encS s]))) 3 (.d (.iptr (encC c)))) 4 (.ptr 1 0)) 6 (.d (int (typeIdx s c.ty)))) 8 (.ptr 2 0)) 9 (.d (int ((k.1 : Nat) : Int)))), (hset (hset noHeap 1 (some (.box 24 [.d (.lit (.slice none 0 0))]))) 2 (some (.box 24 [.d (.sl 2 40 (s.map encT))])))⟩) (fun k => s.length - k.1) ⟨0, Nat.zero_le _, fun j a hj => by omega⟩ (LE_sh (slh_set (slh_set (slh_set (slh_set (slh_set (slh_set (slh_no _ _) rfl rfl) rfl rfl) rfl rfl) rfl rfl) rfl rfl) rfl rfl) (hlh_set (hlh_set (hlh_no _ _) rfl rfl) rfl rfl)) fun ⟨k, hk, hp⟩ => ?_
              refine CW_seq ?_
              refine CW_seq ?_
              refine CW_drawn' hE 14 (by decide +kernel) ?_
              refine HW_run hE 6 rfl rfl ?_
              refine HW_split 94 rfl (fun h22 => ?_) (fun h22 => ?_)
              · skip
                have hlt : k < s.length := by have := h22; rw [List.length_map] at this; simp at this; omega
                obtain ⟨a, ha⟩ : ∃ a, s[k]? = some a := ⟨_, List.getElem?_eq_getElem hlt⟩
                refine HW_run hE 3 rfl rfl ?_
                refine HW_loc hE (loc_indexAddr hE rfl rfl rfl rfl rfl (by omega) (x := encT a) (by simp [ha])) rfl rfl rfl rfl ?_
                refine HW_run hE 4 rfl rfl ?_
                refine HW_end ?_
                refine OW_run' hE.ok 2 rfl ?_
                refine OW_end rfl ?_
                refine CW_cond _ rfl (fun h23 => ?_) (fun h23 => ?_)
                · skip
                  have hles : less a.name c.ty = true := h23
                  refine CW_skip ?_
                  refine CW_block ?_
                  refine CW_region ?_
                  refine OW_run' hE.ok 3 rfl ?_
                  refine OW_end rfl ?_
                  refine ⟨⟨k + 1, by omega, fun j x hj hx => ?_⟩, LE_sh (slh_set (v := .d (int ((k + 1 : Nat) : Int))) (slh_set (v := .ptr 2 0) (slh_set (v := .d (int (typeIdx s c.ty))) (slh_set (v := .ptr 1 0) (slh_set (v := .d (.iptr (encC c))) (slh_set (v := .d (.iptr [encS s])) (slh_no _ _) (by rfl) rfl) (by rfl) rfl) (by rfl) rfl) (by rfl) rfl) (by rfl) rfl) (by show AV.d (.lit (.int .i64 (IntKind.i64.wrap ((k : Int) + 1)))) = _; rw [wrap_succ (by omega)]; rfl) rfl) (hlh_set (hlh_set (hlh_no _ _) rfl rfl) rfl rfl), by show s.length - (k + 1) < s.length - k; omega⟩
                  by_cases hji : j = k
                  · subst hji; rw [ha] at hx; cases hx; exact hles
                  · exact hp j x (by omega) hx
                · skip
                  have hles : less a.name c.ty = false := h23
                  refine CW_exit ?_
                  have hkp : k = posX s c.ty := (posX_at (by omega) hp (.inr ⟨a, ha, hles⟩)).symm
                  exact ⟨(), trivial, LE_sh (slh_set (v := .d (int ((posX s c.ty : Nat) : Int))) (slh_set (v := .ptr 2 0) (slh_set (v := .ptr 1 0) (slh_set (v := .d (.iptr (encC c))) (slh_no _ _) (by rfl) rfl) (by rfl) rfl) (by rfl) rfl) (by exact (congrArg (fun z : Nat => AV.d (int ((z : Nat) : Int))) hkp)) rfl) (hlh_set (hlh_set (hlh_no _ _) rfl rfl) rfl rfl)⟩
              · skip
                have hkge : k = s.length := by have := h22; rw [List.length_map] at this; simp at this; omega
                refine HW_run hE 8 rfl rfl ?_
                refine HW_end ?_
                refine OW_run' hE.ok 2 rfl ?_
                refine OW_end rfl ?_
                refine CW_false rfl ?_
                refine CW_exit ?_
                have hkp : k = posX s c.ty := (posX_at (by omega) hp (.inl hkge)).symm
                exact ⟨(), trivial, LE_sh (slh_set (v := .d (int ((posX s c.ty : Nat) : Int))) (slh_set (v := .ptr 2 0) (slh_set (v := .ptr 1 0) (slh_set (v := .d (.iptr (encC c))) (slh_no _ _) (by rfl) rfl) (by rfl) rfl) (by rfl) rfl) (by exact (congrArg (fun z : Nat => AV.d (int ((z : Nat) : Int))) hkp)) rfl) (hlh_set (hlh_set (hlh_no _ _) rfl rfl) rfl rfl)⟩
            · skip
              rintro _ _
              have hpl := posX_le s c.ty
              refine CW_seq ?_
              refine CW_drawn3 hE 14 4 9 61 (by decide +kernel) (ys1 := ((s.map encT).take (posX s c.ty)).drop 0) (ys2 := [[str c.ty, .lit (.slice none 0 0)]]) rfl rfl rfl rfl rfl rfl rfl rfl rfl rfl rfl (by intro h; cases h) (by decide +kernel) rfl rfl rfl rfl rfl (by simp; omega) (by simp; omega) ?_
              refine H3_oneB hE (grow_more (kb := 2) rfl rfl rfl) rfl rfl rfl rfl rfl rfl ?_
              refine H3_oneB hE (grow_more (kb := 2) rfl rfl rfl) rfl rfl rfl rfl rfl rfl ?_
              refine H3_one hE rfl rfl rfl rfl rfl rfl ?_
              refine H3_loc hE (fun _ => loc_slice hE (lo := none) (hi := some (.tmp 109)) rfl rfl rfl rfl (l := 0) (u := posX s c.ty) rfl ⟨.i64, rfl⟩ (by omega) (by simp; omega)) rfl rfl rfl rfl rfl ?_
              refine H3_begin rfl rfl rfl rfl ?_
              refine H3_one hE rfl rfl rfl rfl rfl rfl ?_
              refine H3_one hE rfl rfl rfl rfl rfl rfl ?_
              refine H3_loc hE (fun _ => loc_build hE rfl rfl) rfl rfl rfl rfl rfl ?_
              refine H3_loc hE (fun _ => loc_lits hE (t := 22) (len := 1) (parts := #[(0, .tmp 114)]) rfl rfl rfl rfl rfl rfl rfl rfl rfl) rfl rfl rfl rfl rfl ?_
              refine H3_more rfl rfl rfl rfl ?_
              refine H3_oneB hE (grow_more (kb := 2) rfl rfl rfl) rfl rfl rfl rfl rfl rfl ?_
              refine H3_oneB hE (grow_more (kb := 2) rfl rfl rfl) rfl rfl rfl rfl rfl rfl ?_
              refine H3_one hE rfl rfl rfl rfl rfl rfl ?_
              refine H3_loc hE (fun _ => loc_slice hE (lo := some (.tmp 119)) (hi := none) rfl rfl rfl rfl (l := posX s c.ty) (u := (s.map encT).length) ⟨.i64, rfl⟩ rfl (by simp; omega) (by simp)) rfl rfl rfl rfl rfl ?_
              refine H3_end ?_
              refine OW_append' hE (key := 61) rfl rfl rfl rfl rfl rfl rfl rfl (.inl rfl) (by simp; omega) (by simp; omega) rfl ?_
              refine OW_run' hE.ok 1 rfl ?_
              refine OW_store' hE rfl rfl rfl rfl rfl rfl rfl rfl rfl rfl rfl rfl ?_
              refine OW_end rfl ?_
              refine CW_seq ?_
              refine CW.le (LE_rowLe 61 (xs' := (insX s c.ty).map encT) rfl (by simp [insX_len]; omega) (fun _ => ins_two s c.ty) (ins_dles3 s c.ty rfl)) ?_
              refine CW.le (LE_freeze 61 40 rfl (by simp [insX_len]; omega)) ?_
              refine CW_region ?_
              refine OW_run' hE.ok 1 rfl ?_
              refine OW_store' hE rfl rfl rfl rfl rfl rfl rfl rfl rfl rfl rfl rfl ?_
              refine OW_run' hE.ok 1 rfl ?_
              refine OW_end rfl ?_
              refine CW_ret ?_
              refine ⟨.inr rfl, rfl, ⟨_, rfl, rfl, ?_⟩, rfl⟩
              rw [ap_5 hgood k5, ad_3 f1 f2]
              exact AVle.refl _
      · skip
        skip
        refine CW_seq ?_
        refine CW_region ?_
        refine OW_run' hE.ok 1 rfl ?_
        refine OW_callM' hE (tr []) (refCopiedAll s hs) rfl rfl rfl rfl rfl trivial rfl rfl ?_
        refine OW_alloc' hE 2 rfl rfl rfl rfl rfl rfl rfl ?_
        refine OW_store' hE rfl rfl rfl rfl rfl rfl rfl rfl rfl rfl rfl rfl ?_
        refine OW_end rfl ?_
        refine CW_seq ?_
        refine CW_seq ?_
        refine CW.le (LE_rowD 50 (xs := s.map encT) rfl (by simp) (rnAs_dd _ _) (enc_two s)) ?_
        refine CW.le (LE_freeze 50 40 rfl (by simp; omega)) ?_
        refine CW.le (show LE _ _ ⟨J, (sset (sset (sset (sset (sset noSlots 2 (.d (.iptr [encS s]))) 3 (.d (.iptr (encC c)))) 4 (.ptr 1 0)) 6 (.d (int (typeIdx s c.ty)))) 8 (.ptr 2 0)), (hset (hset noHeap 1 (some (.box 24 [.d (.lit (.slice none 0 0))]))) 2 (some (.box 24 [.d (.sl 2 40 (s.map encT))])))⟩ from LE_sh (slh_set (v := .ptr 2 0) (slh_set (v := .d (int (typeIdx s c.ty))) (slh_set (v := .ptr 1 0) (slh_set (v := .d (.iptr (encC c))) (slh_set (v := .d (.iptr [encS s])) (slh_no _ _) (by rfl) rfl) (by rfl) rfl) (by rfl) rfl) (by rfl) rfl) (by rfl) rfl) (hlh_set (hlh_set (hlh_no _ _) rfl rfl) rfl rfl)) ?_
        refine CW_region ?_
        refine OW_run' hE.ok 3 rfl ?_
        refine OW_as' 80 (.d (boo false)) (congrArg (fun b => AV.d (boo b)) k5) ?_
        refine OW_end rfl ?_
        refine CW_false rfl ?_
        refine CW_skip ?_
        refine CW_seq ?_
        refine CW_seq ?_
        refine CW_region ?_
        refine OW_run' hE.ok 2 rfl ?_
        refine OW_as' 125 (.d (boo true)) (congrArg (fun b => AV.d (boo b)) k6) ?_
        refine OW_end rfl ?_
        refine CW_true rfl ?_
        refine CW_seq ?_
        refine CW_region ?_
        refine OW_run' hE.ok 1 rfl ?_
        refine OW_store' hE rfl rfl rfl rfl rfl rfl rfl rfl rfl rfl rfl rfl ?_
        refine OW_run' hE.ok 1 rfl ?_
        refine OW_end rfl ?_
        refine CW_ret ?_
        refine ⟨.inr rfl, rfl, ⟨_, rfl, rfl, ?_⟩, rfl⟩
        rw [ap_no hgood k5 k6]
        exact AVle.refl _
      · skip
        have hfew := right_fields hs ht
        have hil := (List.getElem?_eq_some_iff.1 ht).1
        refine CW_as' 6 (.d (int ((i : Nat) : Int))) (congrArg (fun z => AV.d (int z)) hix) ?_
        refine CW_seq ?_
        refine CW_region ?_
        refine OW_run' hE.ok 1 rfl ?_
        refine OW_callM' hE (tr []) (refCopiedAt s i t hs ht) rfl rfl rfl rfl rfl trivial rfl rfl ?_
        refine OW_alloc' hE 2 rfl rfl rfl rfl rfl rfl rfl ?_
        refine OW_store' hE rfl rfl rfl rfl rfl rfl rfl rfl rfl rfl rfl rfl ?_
        refine OW_end rfl ?_
        refine CW_seq ?_
        refine CW_seq ?_
        refine CW.le (show LE _ _ ⟨J, (sset (sset (sset (sset (sset noSlots 2 (.d (.iptr [encS s]))) 3 (.d (.iptr (encC c)))) 4 (.ptr 1 0)) 6 (.d (int ((i : Nat) : Int)))) 8 (.ptr 2 0)), (hset (hset (hset (hset noHeap 1 (some (.box 24 [.d (.lit (.slice none 0 0))]))) 2 (some (.box 24 [.row 50]))) 50 (some (.rowA 72 2 s.length (cX (preD s i) (postD s i) t.name (.row 70))))) 70 (some (.row 69 2 (t.fields.map encF))))⟩ from LE_sh (slh_set (v := .ptr 2 0) (slh_set (v := .d (int ((i : Nat) : Int))) (slh_set (v := .ptr 1 0) (slh_set (v := .d (.iptr (encC c))) (slh_set (v := .d (.iptr [encS s])) (slh_no _ _) (by rfl) rfl) (by rfl) rfl) (by rfl) rfl) (by rfl) rfl) (by rfl) rfl) (hlh_set (hlh_set (hlh_set (hlh_set (hlh_no _ _) rfl rfl) rfl rfl) (by exact congrArg (fun z => some (Ent.rowA 72 2 s.length z)) (cX_rn _ _ _ _ _)) (by exact cX_in rfl)) rfl rfl)) ?_
        refine CW_region ?_
        refine OW_run' hE.ok 3 rfl ?_
        refine OW_as' 80 (.d (boo false)) (congrArg (fun b => AV.d (boo b)) k5) ?_
        refine OW_end rfl ?_
        refine CW_false rfl ?_
        refine CW_skip ?_
        refine CW_seq ?_
        refine CW_seq ?_
        refine CW_region ?_
        refine OW_run' hE.ok 2 rfl ?_
        refine OW_as' 125 (.d (boo false)) (congrArg (fun b => AV.d (boo b)) (by simp)) ?_
        refine OW_end rfl ?_
        refine CW_false rfl ?_
        refine CW_skip ?_
        refine CW_seq ?_
        refine CW_region ?_
        refine OW_run' hE.ok 3 rfl ?_
        refine OW_loc' hE (loc_idxRowA hE rfl rfl rfl rfl rfl (j := i) rfl hil) rfl rfl rfl ?_
        refine OW_loc' hE (loc_loadRowA hE rfl rfl rfl (q := i * 2) rfl (by exact cX_ty (preD_len ht))) rfl rfl rfl ?_
        refine OW_alloc' hE 3 rfl rfl rfl rfl rfl rfl rfl ?_
        refine OW_store' hE rfl rfl rfl rfl rfl rfl rfl rfl rfl rfl rfl rfl ?_
        refine OW_end rfl ?_
        refine CW_seq ?_
        refine CW_region ?_
        refine OW_run' hE.ok 3 rfl ?_
        refine OW_callLend' hE (LE_freeze 70 24 rfl (by simp; omega)) (refFieldOk t c.fld) rfl rfl rfl rfl rfl rfl ?_
        refine OW_run' hE.ok 1 rfl ?_
        refine OW_end rfl ?_
        refine CW_seq ?_
        refine CW_region ?_
        refine OW_run' hE.ok 1 rfl ?_
        refine OW_end rfl ?_
        refine CW_cutE (fun _ : Unit => ⟨J, (sset (sset (sset (sset (sset (sset noSlots 2 (.d (.iptr [encS s]))) 4 (.ptr 1 0)) 6 (.d (int ((i : Nat) : Int)))) 8 (.ptr 2 0)) 10 (.ptr 3 0)) 12 (.d (int (changeT t c).2))), (hset (hset (hset (hset (hset noHeap 1 (some (.box 24 [.d (.lit (.slice none 0 0))]))) 2 (some (.box 24 [.row 50]))) 50 (some (.rowA 72 2 s.length (cX (preD s i) (postD s i) t.name .any)))) 3 (some (.box 72 [.d (str t.name), .row 70]))) 70 (some (.row 69 2 ((changeT t c).1.fields.map encF))))⟩) (fun _ => True) ?_ ?_
        · skip
          refine CW_seq ?_
          refine CW_region ?_
          refine OW_run' hE.ok 2 rfl ?_
          refine OW_end rfl ?_
          refine CW_block ?_
          refine CW_seq ?_
          refine CW.le (LE_rowAle 50 (cs' := (cX (preD s i) (postD s i) t.name .any)) rfl (cX_any _ _ _ _)) ?_
          refine CW_region ?_
          refine OW_run' hE.ok 2 rfl ?_
          refine OW_end rfl ?_
          refine CW_cond _ rfl (fun h24 => ?_) (fun h24 => ?_)
          · skip
            have k1 : (c.kind == 1) = true := h24
            refine CW_seq ?_
            refine CW_region ?_
            refine OW_run' hE.ok 3 rfl ?_
            refine OW_callLend' hE (LE_freeze 70 24 rfl (by simp; omega)) (refAddR t c (fieldAt t c.fld)) rfl rfl rfl rfl rfl rfl ?_
            refine OW_run' hE.ok 1 rfl ?_
            refine OW_end rfl ?_
            refine CW_seq ?_
            refine CW_region ?_
            refine OW_run' hE.ok 2 rfl ?_
            refine OW_end rfl ?_
            refine CW_cond _ rfl (fun h25 => ?_) (fun h25 => ?_)
            · skip
              have k0 : (addR t c (fieldAt t c.fld) == 0) = true := h25
              refine CW_region ?_
              refine OW_run' hE.ok 7 rfl ?_
              refine OW_build' hE rfl rfl rfl rfl rfl ?_
              refine OW_lits' hE rfl rfl rfl rfl rfl rfl rfl rfl rfl rfl rfl rfl ?_
              refine OW_append' hE (key := 70) rfl rfl rfl rfl rfl rfl rfl rfl (.inl rfl) (by simp; omega) (by simp; omega) rfl ?_
              refine OW_run' hE.ok 1 rfl ?_
              refine OW_store' hE rfl rfl rfl rfl rfl rfl rfl rfl rfl rfl rfl rfl ?_
              refine OW_end rfl ?_
              have hch := ch_add0 k1 k0
              exact ⟨(), trivial, LE_sh (slh_set (v := .d (int (changeT t c).2)) (slh_set (v := .ptr 3 0) (slh_set (v := .ptr 2 0) (slh_set (v := .d (int ((i : Nat) : Int))) (slh_set (v := .ptr 1 0) (slh_set (v := .d (.iptr [encS s])) (slh_no _ _) (by rfl) rfl) (by rfl) rfl) (by rfl) rfl) (by rfl) rfl) (by rfl) rfl) (by exact (congrArg (fun z => AV.d (int z)) (by rw [hch]; exact eq_zero_of k0))) rfl) (hlh_set (hlh_set (hlh_set (hlh_set (hlh_set (hlh_no _ _) rfl rfl) rfl rfl) (by first | rfl | exact congrArg (fun z => some (Ent.rowA 72 2 s.length z)) (cX_unk _ _ _ _ _)) (by exact cX_in rfl)) rfl rfl) (by exact congrArg (fun z => some (Ent.row 69 2 z)) (by rw [hch, List.map_append]; rfl)) rfl)⟩
            · skip
              have k0 : (addR t c (fieldAt t c.fld) == 0) = false := h25
              refine CW_skip ?_
              have hch := ch_add (t := t) k1
              exact ⟨(), trivial, LE_sh (slh_set (v := .d (int (changeT t c).2)) (slh_set (v := .ptr 3 0) (slh_set (v := .ptr 2 0) (slh_set (v := .d (int ((i : Nat) : Int))) (slh_set (v := .ptr 1 0) (slh_set (v := .d (.iptr [encS s])) (slh_no _ _) (by rfl) rfl) (by rfl) rfl) (by rfl) rfl) (by rfl) rfl) (by rfl) rfl) (by exact (congrArg (fun z => AV.d (int z)) (by rw [hch]))) rfl) (hlh_set (hlh_set (hlh_set (hlh_set (hlh_set (hlh_no _ _) rfl rfl) rfl rfl) (by first | rfl | exact congrArg (fun z => some (Ent.rowA 72 2 s.length z)) (cX_unk _ _ _ _ _)) (by exact cX_in rfl)) rfl rfl) (by exact congrArg (fun z => some (Ent.row 69 2 z)) (by rw [ch_err (by rw [ch_add k1]; exact ne_zero_of k0)])) rfl)⟩
          · skip
            have k1 : (c.kind == 1) = false := h24
            refine CW_seq ?_
            refine CW_region ?_
            refine OW_run' hE.ok 2 rfl ?_
            refine OW_end rfl ?_
            refine CW_cond _ rfl (fun h26 => ?_) (fun h26 => ?_)
            · skip
              have k2 : (c.kind == 2) = true := h26
              refine CW_seq ?_
              refine CW_seq ?_
              refine CW_region ?_
              refine OW_run' hE.ok 2 rfl ?_
              refine OW_end rfl ?_
              refine CW_cond _ rfl (fun h27 => ?_) (fun h27 => ?_)
              · skip
                have k3 : decide (fieldAt t c.fld < 0) = true := h27
                refine CW_seq ?_
                refine CW_region ?_
                refine OW_run' hE.ok 1 rfl ?_
                refine OW_store' hE rfl rfl rfl rfl rfl rfl rfl rfl rfl rfl rfl rfl ?_
                refine OW_run' hE.ok 1 rfl ?_
                refine OW_end rfl ?_
                refine CW_ret ?_
                refine ⟨.inr rfl, rfl, ⟨_, rfl, rfl, ?_⟩, rfl⟩
                rw [ap_err hgood k5 hix ht (by rw [ch_b1 k1 k3]; rfl), ch_b1 k1 k3]
                exact AVle.refl _
              · skip
                have k3 : decide (fieldAt t c.fld < 0) = false := h27
                obtain ⟨k, f, hk, hf, _⟩ := fieldAt_yes (t := t) (nm := c.fld) (by simpa using k3)
                have hkl := (List.getElem?_eq_some_iff.1 hf).1
                refine CW_as' 11 (.d (int ((k : Nat) : Int))) (congrArg (fun z => AV.d (int z)) hk) ?_
                refine CW_skip ?_
                refine CW_drawn' hE 9 (by decide +kernel) ?_
                refine HW_run hE 3 rfl rfl ?_
                refine HW_loc hE (loc_headRow hE rfl rfl rfl rfl rfl rfl (by simp; omega) (by simp; omega)) rfl rfl rfl rfl ?_
                refine HW_run hE 3 rfl rfl ?_
                refine HW_run hE 1 rfl rfl ?_
                refine HW_as 169 (.d (int ((k + 1 : Nat) : Int))) (by show AV.d (.lit (.int .i64 (IntKind.i64.wrap ((k : Int) + 1)))) = _; rw [wrap_succ (by omega)]; rfl) ?_
                refine HW_loc hE (loc_tailRow hE rfl rfl rfl rfl rfl rfl rfl (by simp; omega)) rfl rfl rfl rfl ?_
                refine HW_end ?_
                refine OW_appendTail' hE rfl rfl rfl rfl rfl rfl rfl rfl (Nat.le_succ k) (by simp; omega) (by simp; omega) rfl ?_
                refine OW.le (LE_viewRow 171 rfl rfl (by rw [delX_len (Nat.le_succ k) (by simp; omega)]; simp; omega) (by rw [delX_len (Nat.le_succ k) (by simp; omega)]; simp; omega) (xs' := (t.fields.eraseIdx k).map encF) (del_whole hkl)) ?_
                refine OW_run' hE.ok 1 rfl ?_
                refine OW_store' hE rfl rfl rfl rfl rfl rfl rfl rfl rfl rfl rfl rfl ?_
                refine OW_end rfl ?_
                have hch := ch_drop k1 k3 hk k2
                exact ⟨(), trivial, LE_sh (slh_set (v := .d (int (changeT t c).2)) (slh_set (v := .ptr 3 0) (slh_set (v := .ptr 2 0) (slh_set (v := .d (int ((i : Nat) : Int))) (slh_set (v := .ptr 1 0) (slh_set (v := .d (.iptr [encS s])) (slh_no _ _) (by rfl) rfl) (by rfl) rfl) (by rfl) rfl) (by rfl) rfl) (by rfl) rfl) (by exact (congrArg (fun z => AV.d (int z)) (by rw [hch]))) rfl) (hlh_set (hlh_set (hlh_set (hlh_set (hlh_set (hlh_no _ _) rfl rfl) rfl rfl) (by first | rfl | exact congrArg (fun z => some (Ent.rowA 72 2 s.length z)) (cX_unk _ _ _ _ _)) (by exact cX_in rfl)) rfl rfl) (by exact congrArg (fun z => some (Ent.row 69 2 z)) (by rw [hch])) rfl)⟩
            · skip
              have k2 : (c.kind == 2) = false := h26
              refine CW_seq ?_
              refine CW_region ?_
              refine OW_run' hE.ok 2 rfl ?_
              refine OW_end rfl ?_
              refine CW_cond _ rfl (fun h28 => ?_) (fun h28 => ?_)
              · skip
                have k4 : (c.kind == 3) = true := h28
                refine CW_block ?_
                refine CW_seq ?_
                refine CW_region ?_
                refine OW_run' hE.ok 3 rfl ?_
                refine OW_end rfl ?_
                refine CW_cond _ rfl (fun h29 => ?_) (fun h29 => ?_)
                · skip
                  have k5a : decide (fieldAt t c.fld < 0) = true := h29
                  refine CW_region ?_
                  refine OW_run' hE.ok 1 rfl ?_
                  refine OW_end rfl ?_
                  have hch := ch_b1 k1 k5a
                  exact ⟨(), trivial, LE_sh (slh_set (v := .d (int (changeT t c).2)) (slh_set (v := .ptr 3 0) (slh_set (v := .ptr 2 0) (slh_set (v := .d (int ((i : Nat) : Int))) (slh_set (v := .ptr 1 0) (slh_set (v := .d (.iptr [encS s])) (slh_no _ _) (by rfl) rfl) (by rfl) rfl) (by rfl) rfl) (by rfl) rfl) (by rfl) rfl) (by exact (congrArg (fun z => AV.d (int z)) (by rw [hch]))) rfl) (hlh_set (hlh_set (hlh_set (hlh_set (hlh_set (hlh_no _ _) rfl rfl) rfl rfl) (by first | rfl | exact congrArg (fun z => some (Ent.rowA 72 2 s.length z)) (cX_unk _ _ _ _ _)) (by exact cX_in rfl)) rfl rfl) (by exact congrArg (fun z => some (Ent.row 69 2 z)) (by rw [hch])) rfl)⟩
                · skip
                  have k5a : decide (fieldAt t c.fld < 0) = false := h29
                  obtain ⟨k, f, hk, hf, _⟩ := fieldAt_yes (t := t) (nm := c.fld) (by simpa using k5a)
                  have hkl := (List.getElem?_eq_some_iff.1 hf).1
                  refine CW_as' 11 (.d (int ((k : Nat) : Int))) (congrArg (fun z => AV.d (int z)) hk) ?_
                  refine CW_seq ?_
                  refine CW_region ?_
                  refine OW_run' hE.ok 2 rfl ?_
                  refine OW_call' hE (refNameOk c.to) rfl rfl rfl rfl rfl rfl rfl ?_
                  refine OW_run' hE.ok 2 rfl ?_
                  refine OW_end rfl ?_
                  refine CW_cond _ rfl (fun h30 => ?_) (fun h30 => ?_)
                  · skip
                    have n1 : (!isName c.to) = true := h30
                    refine CW_region ?_
                    refine OW_run' hE.ok 1 rfl ?_
                    refine OW_end rfl ?_
                    have hch := ch_r1 k1 k5a k2 k4 n1
                    exact ⟨(), trivial, LE_sh (slh_set (v := .d (int (changeT t c).2)) (slh_set (v := .ptr 3 0) (slh_set (v := .ptr 2 0) (slh_set (v := .d (int ((i : Nat) : Int))) (slh_set (v := .ptr 1 0) (slh_set (v := .d (.iptr [encS s])) (slh_no _ _) (by rfl) rfl) (by rfl) rfl) (by rfl) rfl) (by rfl) rfl) (by rfl) rfl) (by exact (congrArg (fun z => AV.d (int z)) (by rw [hch]))) rfl) (hlh_set (hlh_set (hlh_set (hlh_set (hlh_set (hlh_no _ _) rfl rfl) rfl rfl) (by first | rfl | exact congrArg (fun z => some (Ent.rowA 72 2 s.length z)) (cX_unk _ _ _ _ _)) (by exact cX_in rfl)) rfl rfl) (by exact congrArg (fun z => some (Ent.row 69 2 z)) (by rw [hch])) rfl)⟩
                  · skip
                    have n1 : (!isName c.to) = false := h30
                    refine CW_seq ?_
                    refine CW_region ?_
                    refine OW_run' hE.ok 3 rfl ?_
                    refine OW_callLend' hE (LE_freeze 70 24 rfl (by simp; omega)) (refFieldOk t c.to) rfl rfl rfl rfl rfl rfl ?_
                    refine OW_run' hE.ok 2 rfl ?_
                    refine OW_end rfl ?_
                    refine CW_cond _ rfl (fun h31 => ?_) (fun h31 => ?_)
                    · skip
                      have n2 : decide (fieldAt t c.to ≥ 0) = true := h31
                      refine CW_region ?_
                      refine OW_run' hE.ok 1 rfl ?_
                      refine OW_end rfl ?_
                      have hch := ch_r2 k1 k5a k2 k4 n1 n2
                      exact ⟨(), trivial, LE_sh (slh_set (v := .d (int (changeT t c).2)) (slh_set (v := .ptr 3 0) (slh_set (v := .ptr 2 0) (slh_set (v := .d (int ((i : Nat) : Int))) (slh_set (v := .ptr 1 0) (slh_set (v := .d (.iptr [encS s])) (slh_no _ _) (by rfl) rfl) (by rfl) rfl) (by rfl) rfl) (by rfl) rfl) (by rfl) rfl) (by exact (congrArg (fun z => AV.d (int z)) (by rw [hch]))) rfl) (hlh_set (hlh_set (hlh_set (hlh_set (hlh_set (hlh_no _ _) rfl rfl) rfl rfl) (by first | rfl | exact congrArg (fun z => some (Ent.rowA 72 2 s.length z)) (cX_unk _ _ _ _ _)) (by exact cX_in rfl)) rfl rfl) (by exact congrArg (fun z => some (Ent.row 69 2 z)) (by rw [hch])) rfl)⟩
                    · skip
                      have n2 : decide (fieldAt t c.to ≥ 0) = false := h31
                      refine CW_region ?_
                      refine OW_run' hE.ok 5 rfl ?_
                      refine OW_loc' hE (loc_idxRow hE rfl rfl rfl rfl rfl (j := k) rfl (by rw [List.length_map]; exact hkl)) rfl rfl rfl ?_
                      refine OW_run' hE.ok 1 rfl ?_
                      refine OW_storeRow' hE rfl rfl rfl rfl rfl (j := k) (off := 0) rfl rfl rfl (x := encF f) (by simp [hf]) (y := [str c.to]) rfl rfl rfl (by show 0 + 1 ≤ 2; omega) (xs' := (t.fields.set k ⟨c.to, f.kind⟩).map encF) (by rw [List.map_set]; rfl) ?_
                      refine OW_end rfl ?_
                      have hch := ch_r3 k1 k5a k2 k4 n1 n2 hk hf
                      exact ⟨(), trivial, LE_sh (slh_set (v := .d (int (changeT t c).2)) (slh_set (v := .ptr 3 0) (slh_set (v := .ptr 2 0) (slh_set (v := .d (int ((i : Nat) : Int))) (slh_set (v := .ptr 1 0) (slh_set (v := .d (.iptr [encS s])) (slh_no _ _) (by rfl) rfl) (by rfl) rfl) (by rfl) rfl) (by rfl) rfl) (by rfl) rfl) (by exact (congrArg (fun z => AV.d (int z)) (by rw [hch]))) rfl) (hlh_set (hlh_set (hlh_set (hlh_set (hlh_set (hlh_no _ _) rfl rfl) rfl rfl) (by first | rfl | exact congrArg (fun z => some (Ent.rowA 72 2 s.length z)) (cX_unk _ _ _ _ _)) (by exact cX_in rfl)) rfl rfl) (by exact congrArg (fun z => some (Ent.row 69 2 z)) (by rw [hch])) rfl)⟩
              · skip
                have k4 : (c.kind == 3) = false := h28
                refine CW_seq ?_
                refine CW_region ?_
                refine OW_run' hE.ok 2 rfl ?_
                refine OW_end rfl ?_
                refine CW_cond _ rfl (fun h32 => ?_) (fun h32 => ?_)
                · skip
                  have k6 : (c.kind == 4) = true := h32
                  refine CW_block ?_
                  refine CW_seq ?_
                  refine CW_region ?_
                  refine OW_run' hE.ok 3 rfl ?_
                  refine OW_end rfl ?_
                  refine CW_cond _ rfl (fun h33 => ?_) (fun h33 => ?_)
                  · skip
                    have k5b : decide (fieldAt t c.fld < 0) = true := h33
                    refine CW_region ?_
                    refine OW_run' hE.ok 1 rfl ?_
                    refine OW_end rfl ?_
                    have hch := ch_b1 k1 k5b
                    exact ⟨(), trivial, LE_sh (slh_set (v := .d (int (changeT t c).2)) (slh_set (v := .ptr 3 0) (slh_set (v := .ptr 2 0) (slh_set (v := .d (int ((i : Nat) : Int))) (slh_set (v := .ptr 1 0) (slh_set (v := .d (.iptr [encS s])) (slh_no _ _) (by rfl) rfl) (by rfl) rfl) (by rfl) rfl) (by rfl) rfl) (by rfl) rfl) (by exact (congrArg (fun z => AV.d (int z)) (by rw [hch]))) rfl) (hlh_set (hlh_set (hlh_set (hlh_set (hlh_set (hlh_no _ _) rfl rfl) rfl rfl) (by first | rfl | exact congrArg (fun z => some (Ent.rowA 72 2 s.length z)) (cX_unk _ _ _ _ _)) (by exact cX_in rfl)) rfl rfl) (by exact congrArg (fun z => some (Ent.row 69 2 z)) (by rw [hch])) rfl)⟩
                  · skip
                    have k5b : decide (fieldAt t c.fld < 0) = false := h33
                    obtain ⟨k, f, hk, hf, _⟩ := fieldAt_yes (t := t) (nm := c.fld) (by simpa using k5b)
                    have hkl := (List.getElem?_eq_some_iff.1 hf).1
                    refine CW_as' 11 (.d (int ((k : Nat) : Int))) (congrArg (fun z => AV.d (int z)) hk) ?_
                    refine CW_seq ?_
                    refine CW_region ?_
                    refine OW_run' hE.ok 3 rfl ?_
                    refine OW_loc' hE (loc_idxRow hE rfl rfl rfl rfl rfl (j := k) rfl (by rw [List.length_map]; exact hkl)) rfl rfl rfl ?_
                    refine OW_run' hE.ok 1 rfl ?_
                    refine OW_loc' hE (loc_loadRow hE rfl rfl rfl (j := k) (off := 1) rfl rfl (x := encF f) (by simp [hf]) (by show 1 ≤ 2; omega) rfl) rfl rfl rfl ?_
                    refine OW_run' hE.ok 2 rfl ?_
                    refine OW_end rfl ?_
                    refine CW_cond _ rfl (fun h34 => ?_) (fun h34 => ?_)
                    · skip
                      have k7 : (f.kind != 3) = true := h34
                      refine CW_region ?_
                      refine OW_run' hE.ok 1 rfl ?_
                      refine OW_end rfl ?_
                      have hch := ch_w1 k1 k5b k2 k4 k6 hk hf k7
                      exact ⟨(), trivial, LE_sh (slh_set (v := .d (int (changeT t c).2)) (slh_set (v := .ptr 3 0) (slh_set (v := .ptr 2 0) (slh_set (v := .d (int ((i : Nat) : Int))) (slh_set (v := .ptr 1 0) (slh_set (v := .d (.iptr [encS s])) (slh_no _ _) (by rfl) rfl) (by rfl) rfl) (by rfl) rfl) (by rfl) rfl) (by rfl) rfl) (by exact (congrArg (fun z => AV.d (int z)) (by rw [hch]))) rfl) (hlh_set (hlh_set (hlh_set (hlh_set (hlh_set (hlh_no _ _) rfl rfl) rfl rfl) (by first | rfl | exact congrArg (fun z => some (Ent.rowA 72 2 s.length z)) (cX_unk _ _ _ _ _)) (by exact cX_in rfl)) rfl rfl) (by exact congrArg (fun z => some (Ent.row 69 2 z)) (by rw [hch])) rfl)⟩
                    · skip
                      have k7 : (f.kind != 3) = false := h34
                      refine CW_region ?_
                      refine OW_run' hE.ok 3 rfl ?_
                      refine OW_loc' hE (loc_idxRow hE rfl rfl rfl rfl rfl (j := k) rfl (by rw [List.length_map]; exact hkl)) rfl rfl rfl ?_
                      refine OW_run' hE.ok 1 rfl ?_
                      refine OW_storeRow' hE rfl rfl rfl rfl rfl (j := k) (off := 1) rfl rfl rfl (x := encF f) (by simp [hf]) (y := [int 1]) rfl rfl rfl (by show 1 + 1 ≤ 2; omega) (xs' := (t.fields.set k ⟨f.name, 1⟩).map encF) (by rw [List.map_set]; rfl) ?_
                      refine OW_end rfl ?_
                      have hch := ch_w2 k1 k5b k2 k4 k6 hk hf k7
                      exact ⟨(), trivial, LE_sh (slh_set (v := .d (int (changeT t c).2)) (slh_set (v := .ptr 3 0) (slh_set (v := .ptr 2 0) (slh_set (v := .d (int ((i : Nat) : Int))) (slh_set (v := .ptr 1 0) (slh_set (v := .d (.iptr [encS s])) (slh_no _ _) (by rfl) rfl) (by rfl) rfl) (by rfl) rfl) (by rfl) rfl) (by rfl) rfl) (by exact (congrArg (fun z => AV.d (int z)) (by rw [hch]))) rfl) (hlh_set (hlh_set (hlh_set (hlh_set (hlh_set (hlh_no _ _) rfl rfl) rfl rfl) (by first | rfl | exact congrArg (fun z => some (Ent.rowA 72 2 s.length z)) (cX_unk _ _ _ _ _)) (by exact cX_in rfl)) rfl rfl) (by exact congrArg (fun z => some (Ent.row 69 2 z)) (by rw [hch])) rfl)⟩
                · skip
                  have k6 : (c.kind == 4) = false := h32
                  refine CW_skip ?_
                  exact (rb_kinds hgood k5 k1 k2 k4 k6).elim
        · skip
          rintro _ _
          have hcf := change_few t c
          refine CW_seq ?_
          refine CW_seq ?_
          refine CW_region ?_
          refine OW_run' hE.ok 2 rfl ?_
          refine OW_end rfl ?_
          refine CW_cond _ rfl (fun h35 => ?_) (fun h35 => ?_)
          · skip
            have he : ((changeT t c).2 != 0) = true := h35
            refine CW_seq ?_
            refine CW_region ?_
            refine OW_run' hE.ok 2 rfl ?_
            refine OW_store' hE rfl rfl rfl rfl rfl rfl rfl rfl rfl rfl rfl rfl ?_
            refine OW_run' hE.ok 1 rfl ?_
            refine OW_end rfl ?_
            refine CW_ret ?_
            refine ⟨.inr rfl, rfl, ⟨_, rfl, rfl, ?_⟩, rfl⟩
            rw [ap_err hgood k5 hix ht he]
            exact AVle.refl _
          · skip
            have he : ((changeT t c).2 != 0) = false := h35
            refine CW_skip ?_
            refine CW_seq ?_
            refine CW_region ?_
            refine OW_run' hE.ok 4 rfl ?_
            refine OW_loc' hE (loc_idxRowA hE rfl rfl rfl rfl rfl (j := i) rfl hil) rfl rfl rfl ?_
            refine OW_storeRowA' hE rfl rfl rfl rfl rfl (q := i * 2) rfl rfl rfl rfl rfl rfl (by rw [cX_len, preD_len ht]; show i * 2 + 2 ≤ _; omega) (cX_put (y := .row 70) (preD_len ht)) ?_
            refine OW_end rfl ?_
            refine CW_seq ?_
            refine CW.le (LE_freeze 70 24 rfl (by simp; omega)) ?_
            refine CW.le (show LE _ _ ⟨J, (sset (sset noSlots 4 (.ptr 1 0)) 8 (.ptr 2 0)), (hset (hset (hset noHeap 1 (some (.box 24 [.d (.lit (.slice none 0 0))]))) 2 (some (.box 24 [.row 50]))) 50 (some (.rowA 72 2 s.length (cX (preD s i) (postD s i) t.name (.d (.sl 2 24 ((changeT t c).1.fields.map encF)))))))⟩ from LE_sh (slh_set (v := .ptr 2 0) (slh_set (v := .ptr 1 0) (slh_no _ _) (by rfl) rfl) (by rfl) rfl) (hlh_set (hlh_set (hlh_set (hlh_no _ _) rfl rfl) rfl rfl) (by exact congrArg (fun z => some (Ent.rowA 72 2 s.length z)) (cX_fz _ _ _ _ _ _)) (by exact cX_in rfl))) ?_
            rw [cX_set ht (change_name t c)]
            refine CW.le (LE_rowD 50 (xs := (s.set i (changeT t c).1).map encT) rfl (by simp) rfl (enc_two _)) ?_
            refine CW.le (LE_freeze 50 40 rfl (by simp; omega)) ?_
            refine CW_region ?_
            refine OW_run' hE.ok 1 rfl ?_
            refine OW_store' hE rfl rfl rfl rfl rfl rfl rfl rfl rfl rfl rfl rfl ?_
            refine OW_run' hE.ok 1 rfl ?_
            refine OW_end rfl ?_
            refine CW_ret ?_
            refine ⟨.inr rfl, rfl, ⟨_, rfl, rfl, ?_⟩, rfl⟩
            rw [ap_ok hgood k5 hix ht he]
            exact AVle.refl _
end Go.Proofs.YtchpllgeahnmmaaDoor
