/- Parts of an abstract logic over the kit's walks, and walks in it: P4nw. -/
import Derived.Test.YtojnicnbmgiplaaP4nk
import Derived.Test.YtojnicnbmgiplaaPxi
import Derived.Test.YtojnicnbmgiplaaPxg
namespace Go.Proofs.Ytojnicnbmgiplaa
open Go Go.AL
set_option linter.unusedVariables false
set_option linter.unusedSimpArgs false
set_option maxHeartbeats 4000000
theorem twice13 (s : List Ty) (p : Pat) (e : Ev) : Does Try.prog 5 [argS s, argP p, argE e] noHeap (.d (boo true)) := by
  refine Does_of T_ok mixed (N := 59) Try.func5 rfl rfl rfl (by rfl) fun F n Z hE hF J => ?_
  obtain ⟨ty, ts, vals⟩ := e
  refine CW_seq ?_
  refine CW_region ?_
  refine OW_run' hE.ok 4 rfl ?_
  refine OW_end rfl ?_
  refine CW_seq ?_
  refine CW_seq ?_
  refine CW_region ?_
  refine OW_call' hE (known13Ok) rfl rfl rfl rfl rfl rfl rfl ?_
  refine OW_run' hE.ok 1 rfl ?_
  refine OW_end rfl ?_
  refine CW_false rfl ?_
  refine CW_skip ?_
  refine CW_seq ?_
  refine CW_seq ?_
  refine CW_region ?_
  refine OW_run' hE.ok 1 rfl ?_
  refine OW_call' hE (refIsSOk s) rfl rfl rfl rfl rfl rfl rfl ?_
  refine OW_run' hE.ok 2 rfl ?_
  refine OW_split' 14 rfl (fun h1 => ?_) (fun h1 => ?_)
  · skip
    skip
    refine OW_run' hE.ok 11 rfl ?_
    refine OW_end rfl ?_
    refine CW_true rfl ?_
    refine CW_seq ?_
    refine CW_region ?_
    refine OW_run' hE.ok 1 rfl ?_
    refine OW_end rfl ?_
    refine CW_ret ?_
    refine ⟨.inr rfl, rfl, ⟨[.d (boo true)], rfl, rfl, ?_⟩, rfl⟩
    exact AVle.refl _
  · skip
    have hs : isSchema s = true := by have h9 : (!isSchema s) = false := h1; simpa using h9
    refine OW_run' hE.ok 2 rfl ?_
    refine OW_call' hE (refCheckOk s p) rfl rfl rfl rfl rfl rfl rfl ?_
    refine OW_run' hE.ok 3 rfl ?_
    refine OW_split' 20 rfl (fun h2 => ?_) (fun h2 => ?_)
    · skip
      skip
      refine OW_run' hE.ok 5 rfl ?_
      refine OW_end rfl ?_
      refine CW_true rfl ?_
      refine CW_seq ?_
      refine CW_region ?_
      refine OW_run' hE.ok 1 rfl ?_
      refine OW_end rfl ?_
      refine CW_ret ?_
      refine ⟨.inr rfl, rfl, ⟨[.d (boo true)], rfl, rfl, ?_⟩, rfl⟩
      exact AVle.refl _
    · skip
      have hck : chkR s p = 0 := bne_eq_false_iff_eq.1 h2
      refine OW_run' hE.ok 2 rfl ?_
      refine OW_call' hE (refIsEOk s ⟨ty, ts, vals⟩) rfl rfl rfl rfl rfl rfl rfl ?_
      refine OW_run' hE.ok 2 rfl ?_
      refine OW_end rfl ?_
      refine CW_cond _ rfl (fun h3 => ?_) (fun h3 => ?_)
      · skip
        skip
        refine CW_seq ?_
        refine CW_region ?_
        refine OW_run' hE.ok 1 rfl ?_
        refine OW_end rfl ?_
        refine CW_ret ?_
        refine ⟨.inr rfl, rfl, ⟨[.d (boo true)], rfl, rfl, ?_⟩, rfl⟩
        exact AVle.refl _
      · skip
        have he : evtR s ⟨ty, ts, vals⟩ = 0 := bne_eq_false_iff_eq.1 h3
        refine CW_skip ?_
        refine CW_seq ?_
        have hpt := chk_isPat hck
        have q1 := usesOk s p (fun e he => Nat.le_trans ((pat_few hpt).2 e he).1 (by decide)) (fun e he => ((pat_few hpt).2 e he).2) (Nat.le_trans (uses_few hpt) (by decide))
        have hul := usesX_few hpt
        obtain ⟨U, hU⟩ : ∃ U, usesX p = U := ⟨_, rfl⟩
        rw [hU] at q1 hul
        have q2 := trimOk s U ⟨ty, ts, vals⟩
        have hF0 := trim_ok (u := U) hs he
        have hF1 := trimX_twice s U ⟨ty, ts, vals⟩
        obtain ⟨fv, hfv⟩ : ∃ fv, trimX s U ⟨ty, ts, vals⟩ = ⟨ty, ts, fv⟩ := ⟨_, rfl⟩
        rw [hfv] at q2 hF0 hF1
        have q3 := refIsEOk s (⟨ty, ts, fv⟩ : Ev)
        rw [hF0] at q3
        have q4 := trimOk s U (⟨ty, ts, fv⟩ : Ev)
        rw [hF1] at q4
        have q5 := refSameEOk (⟨ty, ts, fv⟩ : Ev) (⟨ty, ts, fv⟩ : Ev)
        rw [sameEv_refl] at q5
        refine CW_region ?_
        refine OW_run' hE.ok 2 rfl ?_
        refine OW_callRow' hE 60 q1 rfl rfl rfl rfl rfl rfl rfl ?_
        refine OW_run' hE.ok 1 rfl ?_
        refine OW.le (LE_freeze 60 32 rfl (by rw [List.length_map]; omega)) ?_
        refine OW_end rfl ?_
        refine CW_seq ?_
        refine CW.le (show LE _ _ ⟨J, (sset (sset (sset noSlots 3 (.d (.iptr [encS s]))) 5 (.d (.iptr (encE ⟨ty, ts, vals⟩)))) 7 (.d (.sl 2 32 (U.map encU)))), noHeap⟩ from LE_sh (slh_set (v := .d (.sl 2 32 (U.map encU))) (slh_set (v := .d (.iptr (encE ⟨ty, ts, vals⟩))) (slh_set (v := .d (.iptr [encS s])) (slh_no _ _) (by rfl) rfl) (by rfl) rfl) (by rfl) rfl) (hlh_no _ _)) ?_
        refine CW_region ?_
        refine OW_run' hE.ok 3 rfl ?_
        refine OW_call' hE (q2) rfl rfl rfl rfl rfl rfl rfl ?_
        refine OW_alloc' hE 1 rfl rfl rfl rfl rfl rfl rfl ?_
        refine OW_store' hE rfl rfl rfl rfl rfl rfl rfl rfl rfl rfl rfl rfl ?_
        refine OW.le (LE_freezeBox 1 (ds := encE ⟨ty, ts, fv⟩) rfl rfl) ?_
        refine OW_end rfl ?_
        refine CW_seq ?_
        refine CW.le (show LE _ _ ⟨J, (sset (sset (sset (sset noSlots 3 (.d (.iptr [encS s]))) 5 (.d (.iptr (encE ⟨ty, ts, vals⟩)))) 7 (.d (.sl 2 32 (U.map encU)))) 8 (.d (.iptr (encE ⟨ty, ts, fv⟩)))), noHeap⟩ from LE_sh (slh_set (v := .d (.iptr (encE ⟨ty, ts, fv⟩))) (slh_set (v := .d (.sl 2 32 (U.map encU))) (slh_set (v := .d (.iptr (encE ⟨ty, ts, vals⟩))) (slh_set (v := .d (.iptr [encS s])) (slh_no _ _) (by rfl) rfl) (by rfl) rfl) (by rfl) rfl) (by rfl) rfl) (hlh_no _ _)) ?_
        refine CW_drawn' hE 26 (by decide +kernel) ?_
        refine HW_run hE 2 rfl rfl ?_
        refine HW_call hE (q3) rfl rfl rfl rfl rfl rfl rfl rfl ?_
        refine HW_run hE 5 rfl rfl ?_
        refine HW_call hE (q4) rfl rfl rfl rfl rfl rfl rfl rfl ?_
        refine HW_run hE 1 rfl rfl ?_
        refine HW_call hE (q5) rfl rfl rfl rfl rfl rfl rfl rfl ?_
        refine HW_run hE 6 rfl rfl ?_
        refine HW_run hE 1 rfl rfl ?_
        refine HW_as 50 (.d (boo true)) (by exact congrArg (fun z => AV.d (boo z)) (beq_self_eq_true ts)) ?_
        refine HW_run hE 6 rfl rfl ?_
        refine HW_run hE 1 rfl rfl ?_
        refine HW_as 57 (.d (boo true)) (by exact congrArg (fun z => AV.d (boo z)) (beq_self_eq_true ty.toList)) ?_
        refine HW_run hE 1 rfl rfl ?_
        refine HW_end ?_
        refine OW_run' hE.ok 1 rfl ?_
        refine OW_end rfl ?_
        refine CW_ret ?_
        refine ⟨.inr rfl, rfl, ⟨[.d (boo true)], rfl, rfl, ?_⟩, rfl⟩
        exact AVle.refl _
end Go.Proofs.Ytojnicnbmgiplaa
