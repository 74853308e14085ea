/- Parts of an abstract logic over the kit's walks, and walks in it: P4q1, P4q2, P4q3, P4q4. -/
import Derived.Test.YtojnicnbmgiplaaPxa
import Derived.Test.YtojnicnbmgiplaaNrm
namespace Go.Proofs.Ytojnicnbmgiplaa
open Go Go.AL
set_option linter.unusedVariables false
set_option linter.unusedSimpArgs false
set_option maxHeartbeats 4000000
theorem plainOk (s : ByteArray) : Does Try.prog 79 [.d (str s)] noHeap (.d (boo (isText s))) := by
  refine Does_of T_ok mixed (N := 23) Try.func79 rfl rfl rfl (by rfl) fun F n Z hE hF J => ?_
  refine CW_know (know_str (d := 0) rfl) fun hlen => ?_
  refine CW_seq ?_
  refine CW_region ?_
  refine OW_run' hE.ok 1 rfl ?_
  refine OW_end rfl ?_
  refine CW_seq ?_
  refine CW_seq ?_
  refine CW_region ?_
  refine OW_run' hE.ok 1 rfl ?_
  refine OW_end rfl ?_
  refine CW_block ?_
  refine CW_loop (σ := {i : Nat // i ≤ s.size ∧ ∀ j c, j < i → s.data.toList[j]? = some c → shownC c = true})
    (fun i => ⟨J, (sset (sset noSlots 0 (.d (str s))) 3 (.d (.lit (.int .i64 i.1)))), noHeap⟩) (fun i => s.size - i.1) ⟨0, Nat.zero_le _, by omega⟩ (LE_s (sle_set (sle_set (sle_no _) rfl) rfl)) fun ⟨i, hi, hp⟩ => ?_
  refine CW_seq ?_
  refine CW_seq ?_
  refine CW_region ?_
  refine OW_run' hE.ok 4 rfl ?_
  refine OW_end rfl ?_
  refine CW_cond _ rfl (fun h1 => ?_) (fun h1 => ?_)
  · skip
    have hlt : i < s.size := by have := h1; simp at this; omega
    obtain ⟨c, ha⟩ : ∃ c, s.data.toList[i]? = some c := ⟨_, List.getElem?_eq_getElem (by simpa using hlt)⟩
    refine CW_skip ?_
    refine CW_seq ?_
    refine CW_block ?_
    refine CW_seq ?_
    refine CW_region ?_
    refine OW_run' hE.ok 2 rfl ?_
    refine OW_loc' hE (loc_index hE rfl rfl rfl rfl (by omega) (by simpa using ha)) rfl rfl rfl ?_
    refine OW_run' hE.ok 2 rfl ?_
    refine OW_split' 14 rfl (fun h2 => ?_) (fun h2 => ?_)
    · skip
      have hbad : shownC c = false := shown_lo h2
      refine OW_run' hE.ok 5 rfl ?_
      refine OW_end rfl ?_
      refine CW_true rfl ?_
      refine CW_seq ?_
      refine CW_region ?_
      refine OW_run' hE.ok 1 rfl ?_
      refine OW_end rfl ?_
      refine CW_ret ?_
      refine ⟨.inr rfl, rfl, ⟨_, rfl, rfl, ?_⟩, rfl⟩
      exact AVle.of (congrArg (fun b => AV.d (boo b)) (by rw [isText_bad ha hbad]))
    · skip
      refine OW_run' hE.ok 2 rfl ?_
      refine OW_loc' hE (loc_index hE rfl rfl rfl rfl (by omega) (by simpa using ha)) rfl rfl rfl ?_
      refine OW_run' hE.ok 2 rfl ?_
      refine OW_end rfl ?_
      refine CW_cond _ rfl (fun h3 => ?_) (fun h3 => ?_)
      · skip
        have hbad : shownC c = false := shown_hi h3
        refine CW_seq ?_
        refine CW_region ?_
        refine OW_run' hE.ok 1 rfl ?_
        refine OW_end rfl ?_
        refine CW_ret ?_
        refine ⟨.inr rfl, rfl, ⟨_, rfl, rfl, ?_⟩, rfl⟩
        exact AVle.of (congrArg (fun b => AV.d (boo b)) (by rw [isText_bad ha hbad]))
      · skip
        have hgood : shownC c = true := shown_ok h2 h3
        refine CW_skip ?_
        refine CW_region ?_
        refine OW_run' hE.ok 3 rfl ?_
        refine OW_end rfl ?_
        refine ⟨⟨i + 1, hlt, fun j x hj hx => ?_⟩, LE_s (sle_set (sle_set (sle_no _) rfl) (by show AV.d (.lit (.int .i64 (IntKind.i64.wrap (↑i + 1)))) = _; rw [wrap_succ (by omega)])), by show s.size - (i + 1) < s.size - i; omega⟩
        by_cases hji : j = i
        · subst hji; rw [ha] at hx; cases hx; exact hgood
        · exact hp j x (by omega) hx
  · skip
    have hge : ¬ i < s.size := by have := h1; simp at this; omega
    have hall := allShown hi hge hp
    refine CW_exit ?_
    show CW _ _ _ _
    refine CW_seq ?_
    refine CW_region ?_
    refine OW_run' hE.ok 4 rfl ?_
    refine OW_end rfl ?_
    refine CW_ret ?_
    refine ⟨.inr rfl, rfl, ⟨_, rfl, rfl, ?_⟩, rfl⟩
    exact AVle.of (congrArg (fun b => AV.d (boo b)) (by rw [text_end hall]))

theorem refIsValOk (v : Vl) : Does Try.prog 43 [argV v] noHeap (.d (boo (isVal v))) := by
  refine Does_of T_ok mixed (N := 35) Try.func43 rfl rfl rfl (by rfl) fun F n Z hE hF J => ?_
  refine CW_seq ?_
  refine CW_region ?_
  refine OW_run' hE.ok 2 rfl ?_
  refine OW_end rfl ?_
  refine CW_seq ?_
  refine CW_seq ?_
  refine CW_region ?_
  refine OW_run' hE.ok 2 rfl ?_
  refine OW_end rfl ?_
  refine CW_block ?_
  refine CW_seq ?_
  refine CW_region ?_
  refine OW_run' hE.ok 2 rfl ?_
  refine OW_end rfl ?_
  refine CW_cond _ rfl (fun h1 => ?_) (fun h1 => ?_)
  · skip
    refine CW_seq ?_
    refine CW_region ?_
    refine OW_run' hE.ok 4 rfl ?_
    refine OW_end rfl ?_
    refine CW_ret ?_
    refine ⟨.inr rfl, rfl, ⟨_, rfl, rfl, ?_⟩, rfl⟩
    exact AVle.of (congrArg (fun b => AV.d (boo b)) (by simp_all [isVal, same, nul]))
  · skip
    refine CW_seq ?_
    refine CW_region ?_
    refine OW_run' hE.ok 2 rfl ?_
    refine OW_end rfl ?_
    refine CW_cond _ rfl (fun h2 => ?_) (fun h2 => ?_)
    · skip
      refine CW_seq ?_
      refine CW_region ?_
      refine OW_run' hE.ok 4 rfl ?_
      refine OW_split' 15 rfl (fun h3 => ?_) (fun h3 => ?_)
      · skip
        refine OW_run' hE.ok 2 rfl ?_
        refine OW_call' hE (plainOk _) rfl rfl rfl rfl rfl rfl rfl ?_
        refine OW_run' hE.ok 2 rfl ?_
        refine OW_end rfl ?_
        refine CW_ret ?_
        refine ⟨.inr rfl, rfl, ⟨_, rfl, rfl, ?_⟩, rfl⟩
        exact AVle.of (congrArg (fun b => AV.d (boo b)) (by simp_all [isVal, same, nul]))
      · skip
        refine OW_run' hE.ok 5 rfl ?_
        refine OW_end rfl ?_
        refine CW_ret ?_
        refine ⟨.inr rfl, rfl, ⟨_, rfl, rfl, ?_⟩, rfl⟩
        exact AVle.of (congrArg (fun b => AV.d (boo b)) (by simp_all [isVal, same, nul]))
    · skip
      refine CW_seq ?_
      refine CW_region ?_
      refine OW_run' hE.ok 2 rfl ?_
      refine OW_end rfl ?_
      refine CW_cond _ rfl (fun h4 => ?_) (fun h4 => ?_)
      · skip
        refine CW_seq ?_
        refine CW_region ?_
        refine OW_run' hE.ok 4 rfl ?_
        refine OW_split' 25 rfl (fun h5 => ?_) (fun h5 => ?_)
        · skip
          refine OW_run' hE.ok 10 rfl ?_
          refine OW_end rfl ?_
          refine CW_ret ?_
          refine ⟨.inr rfl, rfl, ⟨_, rfl, rfl, ?_⟩, rfl⟩
          exact AVle.of (congrArg (fun b => AV.d (boo b)) (by simp_all [isVal, same, nul]))
        · skip
          refine OW_run' hE.ok 5 rfl ?_
          refine OW_split' 30 rfl (fun h6 => ?_) (fun h6 => ?_)
          · skip
            refine OW_run' hE.ok 5 rfl ?_
            refine OW_end rfl ?_
            refine CW_ret ?_
            refine ⟨.inr rfl, rfl, ⟨_, rfl, rfl, ?_⟩, rfl⟩
            exact AVle.of (congrArg (fun b => AV.d (boo b)) (by simp_all [isVal, same, nul]))
          · skip
            refine OW_run' hE.ok 5 rfl ?_
            refine OW_end rfl ?_
            refine CW_ret ?_
            refine ⟨.inr rfl, rfl, ⟨_, rfl, rfl, ?_⟩, rfl⟩
            exact AVle.of (congrArg (fun b => AV.d (boo b)) (by simp_all [isVal, same, nul]))
      · skip
        refine CW_skip ?_
        refine CW_seq ?_
        refine CW_region ?_
        refine OW_run' hE.ok 1 rfl ?_
        refine OW_end rfl ?_
        refine CW_ret ?_
        refine ⟨.inr rfl, rfl, ⟨_, rfl, rfl, ?_⟩, rfl⟩
        exact AVle.of (congrArg (fun b => AV.d (boo b)) (by simp_all [isVal, same, nul]))

end Go.Proofs.Ytojnicnbmgiplaa
namespace Go.Proofs.Ytojnicnbmgiplaa
open Go Go.AL
set_option linter.unusedVariables false
set_option linter.unusedSimpArgs false
set_option maxHeartbeats 4000000
end Go.Proofs.Ytojnicnbmgiplaa
namespace Go.Proofs.Ytojnicnbmgiplaa
open Go Go.AL
set_option linter.unusedVariables false
set_option linter.unusedSimpArgs false
set_option maxHeartbeats 4000000
end Go.Proofs.Ytojnicnbmgiplaa
namespace Go.Proofs.Ytojnicnbmgiplaa
open Go Go.AL
set_option linter.unusedVariables false
set_option linter.unusedSimpArgs false
set_option maxHeartbeats 4000000
end Go.Proofs.Ytojnicnbmgiplaa
