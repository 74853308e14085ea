/- Parts of an abstract logic over the kit's walks, and walks in it: P4nx. -/
import Derived.Test.YtojnicnbmgiplaaP4nk
import Derived.Test.YtojnicnbmgiplaaPxi
import Derived.Test.YtojnicnbmgiplaaPxg
import Derived.Test.YtojnicnbmgiplaaP4nf
import Derived.Test.YtojnicnbmgiplaaP4ng
namespace Go.Proofs.Ytojnicnbmgiplaa
open Go Go.AL
set_option linter.unusedVariables false
set_option linter.unusedSimpArgs false
set_option maxHeartbeats 4000000
theorem tells13 (s : List Ty) (p : Pat) (e : Ev) (u : Us) : Does Try.prog 3 [argS s, argP p, argE e, argU u] noHeap (.d (boo true)) := by
  refine Does_of T_ok mixed (N := 57) Try.func3 rfl rfl rfl (by rfl) fun F n Z hE hF J => ?_
  refine CW_seq ?_
  refine CW_region ?_
  refine OW_run' hE.ok 5 rfl ?_
  refine OW_end rfl ?_
  refine CW_seq ?_
  refine CW_seq ?_
  refine CW_region ?_
  refine OW_call' hE (known13Ok) rfl rfl rfl rfl rfl rfl rfl ?_
  refine OW_run' hE.ok 1 rfl ?_
  refine OW_end rfl ?_
  refine CW_false rfl ?_
  refine CW_skip ?_
  refine CW_seq ?_
  refine CW_seq ?_
  refine CW_region ?_
  refine OW_run' hE.ok 1 rfl ?_
  refine OW_call' hE (refIsSOk s) rfl rfl rfl rfl rfl rfl rfl ?_
  refine OW_run' hE.ok 2 rfl ?_
  refine OW_split' 16 rfl (fun h1 => ?_) (fun h1 => ?_)
  · skip
    skip
    refine OW_run' hE.ok 11 rfl ?_
    refine OW_end rfl ?_
    refine CW_true rfl ?_
    refine CW_seq ?_
    refine CW_region ?_
    refine OW_run' hE.ok 1 rfl ?_
    refine OW_end rfl ?_
    refine CW_ret ?_
    refine ⟨.inr rfl, rfl, ⟨[.d (boo true)], rfl, rfl, ?_⟩, rfl⟩
    exact AVle.refl _
  · skip
    skip
    refine OW_run' hE.ok 2 rfl ?_
    refine OW_call' hE (refCheckOk s p) rfl rfl rfl rfl rfl rfl rfl ?_
    refine OW_run' hE.ok 3 rfl ?_
    refine OW_split' 22 rfl (fun h2 => ?_) (fun h2 => ?_)
    · skip
      skip
      refine OW_run' hE.ok 5 rfl ?_
      refine OW_end rfl ?_
      refine CW_true rfl ?_
      refine CW_seq ?_
      refine CW_region ?_
      refine OW_run' hE.ok 1 rfl ?_
      refine OW_end rfl ?_
      refine CW_ret ?_
      refine ⟨.inr rfl, rfl, ⟨[.d (boo true)], rfl, rfl, ?_⟩, rfl⟩
      exact AVle.refl _
    · skip
      have hck : chkR s p = 0 := bne_eq_false_iff_eq.1 h2
      refine OW_run' hE.ok 2 rfl ?_
      refine OW_call' hE (refIsEOk s e) rfl rfl rfl rfl rfl rfl rfl ?_
      refine OW_run' hE.ok 2 rfl ?_
      refine OW_end rfl ?_
      refine CW_cond _ rfl (fun h3 => ?_) (fun h3 => ?_)
      · skip
        skip
        refine CW_seq ?_
        refine CW_region ?_
        refine OW_run' hE.ok 1 rfl ?_
        refine OW_end rfl ?_
        refine CW_ret ?_
        refine ⟨.inr rfl, rfl, ⟨[.d (boo true)], rfl, rfl, ?_⟩, rfl⟩
        exact AVle.refl _
      · skip
        skip
        refine CW_skip ?_
        refine CW_seq ?_
        have hpt := chk_isPat hck
        obtain ⟨U, hU⟩ : ∃ U, usesX p = U := ⟨_, rfl⟩
        have q1 := usesD s p (fun e he => Nat.le_trans ((pat_few hpt).2 e he).1 (by decide)) (fun e he => ((pat_few hpt).2 e he).2) (Nat.le_trans (uses_few hpt) (by decide))
        have q2 := refUsesOk s p hck
        rw [← uses_ref, hU] at q2
        rw [hU] at q1
        have q3 := sameUsOk U U
        rw [sameUs_refl] at q3
        have q4 := trimOk s U e
        have q5 := refTrimOk s U e
        obtain ⟨F2, hF⟩ : ∃ F2, trimX s U e = F2 := ⟨_, rfl⟩
        rw [hF] at q4 q5
        have q6 := refSameEOk F2 F2
        rw [sameEv_refl] at q6
        have q7 := hasUOk U u
        have q8 := refHasOk U u
        obtain ⟨hb, hhb⟩ : ∃ hb, hasU U u = hb := ⟨_, rfl⟩
        rw [hhb] at q7 q8
        refine CW_drawn' hE 5 (by decide +kernel) ?_
        refine HW_run hE 2 rfl rfl ?_
        refine HW_call hE (q1) rfl rfl rfl rfl rfl rfl rfl rfl ?_
        refine HW_run hE 2 rfl rfl ?_
        refine HW_end ?_
        refine OW_call' hE (q2) rfl rfl rfl rfl rfl rfl rfl ?_
        refine OW_run' hE.ok 2 rfl ?_
        refine OW_end rfl ?_
        refine CW_seq ?_
        refine CW.le (show LE _ _ ⟨J, (sset (sset (sset (sset (sset noSlots 4 (.d (.iptr [encS s]))) 6 (.d (.iptr (encE e)))) 7 (.d (.iptr (encU u)))) 9 (.d (.sl 2 32 (U.map encU)))) 10 (.d (.sl 2 32 (U.map encU)))), noHeap⟩ from LE_sh (slh_set (v := .d (.sl 2 32 (U.map encU))) (slh_set (v := .d (.sl 2 32 (U.map encU))) (slh_set (v := .d (.iptr (encU u))) (slh_set (v := .d (.iptr (encE e))) (slh_set (v := .d (.iptr [encS s])) (slh_no _ _) (by rfl) rfl) (by rfl) rfl) (by rfl) rfl) (by rfl) rfl) (by rfl) rfl) (hlh_no _ _)) ?_
        refine CW_drawn' hE 20 (by decide +kernel) ?_
        refine HW_run hE 2 rfl rfl ?_
        refine HW_call hE (q3) rfl rfl rfl rfl rfl rfl rfl rfl ?_
        refine HW_run hE 3 rfl rfl ?_
        refine HW_call hE (q7) rfl rfl rfl rfl rfl rfl rfl rfl ?_
        refine HW_run hE 2 rfl rfl ?_
        refine HW_call hE (q8) rfl rfl rfl rfl rfl rfl rfl rfl ?_
        refine HW_run hE 1 rfl rfl ?_
        refine HW_as 44 (.d (boo true)) (by exact congrArg (fun z => AV.d (boo z)) (beq_self_eq_true hb)) ?_
        refine HW_run hE 5 rfl rfl ?_
        refine HW_call hE (q4) rfl rfl rfl rfl rfl rfl rfl rfl ?_
        refine HW_run hE 3 rfl rfl ?_
        refine HW_end ?_
        refine OW_call' hE (q5) rfl rfl rfl rfl rfl rfl rfl ?_
        refine OW_call' hE (q6) rfl rfl rfl rfl rfl rfl rfl ?_
        refine OW_run' hE.ok 2 rfl ?_
        refine OW_end rfl ?_
        refine CW_ret ?_
        refine ⟨.inr rfl, rfl, ⟨[.d (boo true)], rfl, rfl, ?_⟩, rfl⟩
        exact AVle.refl _
end Go.Proofs.Ytojnicnbmgiplaa
