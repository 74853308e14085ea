/- Parts of an abstract logic over the kit's walks, and walks in it: P4g, P4h, P4p, P4f, P4v, P4u. -/
import Derived.Test.YtojnicnbmgiplaaPxa
import Derived.Test.YtojnicnbmgiplaaAe
import Derived.Test.YtojnicnbmgiplaaBa
namespace Go.Proofs.Ytojnicnbmgiplaa
open Go Go.AL
set_option linter.unusedVariables false
set_option linter.unusedSimpArgs false
set_option maxHeartbeats 4000000
theorem truthOk (b : Bool) : Does Try.prog 150 [.d (boo b)] noHeap (argV (truthV b)) := by
  refine Does_of T_ok mixed (N := 6) Try.func150 rfl rfl rfl (by rfl) fun F n Z hE hF J => ?_
  refine CW_seq ?_
  refine CW_region ?_
  refine OW_alloc' hE 1 rfl rfl rfl rfl rfl rfl rfl ?_
  refine OW_end rfl ?_
  refine CW_seq ?_
  refine CW_seq ?_
  refine CW_region ?_
  refine OW_run' hE.ok 1 rfl ?_
  refine OW_end rfl ?_
  refine CW_cond _ rfl (fun h1 => ?_) (fun h1 => ?_)
  · skip
    refine CW_seq ?_
    refine CW_region ?_
    refine OW_build' hE rfl rfl rfl rfl rfl ?_
    refine OW_store' hE rfl rfl rfl rfl rfl rfl rfl rfl rfl rfl rfl rfl ?_
    refine OW_end rfl ?_
    refine CW_ret ?_
    refine ⟨.inr rfl, rfl, ⟨_, rfl, rfl, ?_⟩, rfl⟩
    rw [show b = true from h1]
    exact AVle.refl _
  · skip
    refine CW_skip ?_
    refine CW_seq ?_
    refine CW_region ?_
    refine OW_build' hE rfl rfl rfl rfl rfl ?_
    refine OW_store' hE rfl rfl rfl rfl rfl rfl rfl rfl rfl rfl rfl rfl ?_
    refine OW_end rfl ?_
    refine CW_ret ?_
    refine ⟨.inr rfl, rfl, ⟨_, rfl, rfl, ?_⟩, rfl⟩
    rw [show b = false from h1]
    exact AVle.refl _

theorem lessOk (a b : Vl) : Does Try.prog 188 [argV a, argV b] noHeap (.d (boo (lessV a b))) := by
  refine Does_of T_ok mixed (N := 18) Try.func188 rfl rfl rfl (by rfl) fun F n Z hE hF J => ?_
  refine CW_seq ?_
  refine CW_region ?_
  refine OW_run' hE.ok 3 rfl ?_
  refine OW_end rfl ?_
  refine CW_seq ?_
  refine CW_seq ?_
  refine CW_region ?_
  refine OW_run' hE.ok 3 rfl ?_
  refine OW_end rfl ?_
  refine CW_cond _ rfl (fun h1 => ?_) (fun h1 => ?_)
  · skip
    have g1 := h1
    refine CW_seq ?_
    refine CW_region ?_
    refine OW_run' hE.ok 6 rfl ?_
    refine OW_end rfl ?_
    refine CW_ret ?_
    refine ⟨.inr rfl, rfl, ⟨_, rfl, rfl, ?_⟩, rfl⟩
    exact AVle.of (congrArg (fun b => AV.d (boo b)) (by unfold lessV; rw [show (a.k == 1) = true from g1]; rfl))
  · skip
    have g1 := h1
    refine CW_skip ?_
    refine CW_seq ?_
    refine CW_region ?_
    refine OW_run' hE.ok 6 rfl ?_
    refine OW_end rfl ?_
    refine CW_ret ?_
    refine ⟨.inr rfl, rfl, ⟨_, rfl, rfl, ?_⟩, rfl⟩
    exact AVle.of (congrArg (fun b => AV.d (boo b)) (by unfold lessV; rw [show (a.k == 1) = false from g1]; rfl))

theorem sumOk (a b : Int) : Does Try.prog 193 [.d (int a), .d (int b)] noHeap (.tup [.d (int (sumX a b).1), .d (boo (sumX a b).2)]) := by
  refine Does_of T_ok mixed (N := 27) Try.func193 rfl rfl rfl (by rfl) fun F n Z hE hF J => ?_
  refine CW_seq ?_
  refine CW_region ?_
  refine OW_run' hE.ok 2 rfl ?_
  refine OW_end rfl ?_
  refine CW_seq ?_
  refine CW_seq ?_
  refine CW_region ?_
  refine OW_run' hE.ok 3 rfl ?_
  refine OW_split' 8 rfl (fun h1 => ?_) (fun h1 => ?_)
  · skip
    have g1 : decide (b > 0) = true := h1
    refine OW_run' hE.ok 6 rfl ?_
    refine OW_split' 14 rfl (fun h2 => ?_) (fun h2 => ?_)
    · skip
      have g2 : decide (a > IntKind.i64.wrap (9223372036854775807 - b)) = true := h2
      refine OW_run' hE.ok 9 rfl ?_
      refine OW_end rfl ?_
      refine CW_true rfl ?_
      refine CW_seq ?_
      refine CW_region ?_
      refine OW_run' hE.ok 2 rfl ?_
      refine OW_end rfl ?_
      refine CW_ret ?_
      refine ⟨.inr rfl, rfl, ⟨[.d (int 0), .d (boo false)], rfl, rfl, ?_⟩, rfl⟩
      rw [show sumX a b = (0, false) by unfold sumX wr maxI minI; rw [g1, g2]; rfl]
      exact AVle.refl _
    · skip
      have g2 : decide (a > IntKind.i64.wrap (9223372036854775807 - b)) = false := h2
      refine OW_run' hE.ok 3 rfl ?_
      refine OW_split' 17 rfl (fun h3 => ?_) (fun h3 => ?_)
      · skip
        have g3 : decide (b < 0) = true := h3
        refine OW_run' hE.ok 6 rfl ?_
        refine OW_end rfl ?_
        refine CW_cond _ rfl (fun h4 => ?_) (fun h4 => ?_)
        · skip
          have g4 : decide (a < IntKind.i64.wrap (-9223372036854775808 - b)) = true := h4
          refine CW_seq ?_
          refine CW_region ?_
          refine OW_run' hE.ok 2 rfl ?_
          refine OW_end rfl ?_
          refine CW_ret ?_
          refine ⟨.inr rfl, rfl, ⟨[.d (int 0), .d (boo false)], rfl, rfl, ?_⟩, rfl⟩
          rw [show sumX a b = (0, false) by unfold sumX wr maxI minI; rw [g1, g2, g3, g4]; rfl]
          exact AVle.refl _
        · skip
          have g4 : decide (a < IntKind.i64.wrap (-9223372036854775808 - b)) = false := h4
          refine CW_skip ?_
          refine CW_seq ?_
          refine CW_region ?_
          refine OW_run' hE.ok 5 rfl ?_
          refine OW_end rfl ?_
          refine CW_ret ?_
          refine ⟨.inr rfl, rfl, ⟨[.d (int (IntKind.i64.wrap (a + b))), .d (boo true)], rfl, rfl, ?_⟩, rfl⟩
          rw [show sumX a b = (IntKind.i64.wrap (a + b), true) by unfold sumX wr maxI minI; rw [g1, g2, g3, g4]; rfl]
          exact AVle.refl _
      · skip
        have g3 : decide (b < 0) = false := h3
        refine OW_run' hE.ok 6 rfl ?_
        refine OW_end rfl ?_
        refine CW_false rfl ?_
        refine CW_skip ?_
        refine CW_seq ?_
        refine CW_region ?_
        refine OW_run' hE.ok 5 rfl ?_
        refine OW_end rfl ?_
        refine CW_ret ?_
        refine ⟨.inr rfl, rfl, ⟨[.d (int (IntKind.i64.wrap (a + b))), .d (boo true)], rfl, rfl, ?_⟩, rfl⟩
        rw [show sumX a b = (IntKind.i64.wrap (a + b), true) by unfold sumX wr maxI minI; rw [g1, g2, g3]; rfl]
        exact AVle.refl _
  · skip
    have g1 : decide (b > 0) = false := h1
    refine OW_run' hE.ok 9 rfl ?_
    refine OW_split' 17 rfl (fun h5 => ?_) (fun h5 => ?_)
    · skip
      have g3 : decide (b < 0) = true := h5
      refine OW_run' hE.ok 6 rfl ?_
      refine OW_end rfl ?_
      refine CW_cond _ rfl (fun h6 => ?_) (fun h6 => ?_)
      · skip
        have g4 : decide (a < IntKind.i64.wrap (-9223372036854775808 - b)) = true := h6
        refine CW_seq ?_
        refine CW_region ?_
        refine OW_run' hE.ok 2 rfl ?_
        refine OW_end rfl ?_
        refine CW_ret ?_
        refine ⟨.inr rfl, rfl, ⟨[.d (int 0), .d (boo false)], rfl, rfl, ?_⟩, rfl⟩
        rw [show sumX a b = (0, false) by unfold sumX wr maxI minI; rw [g1, g3, g4]; rfl]
        exact AVle.refl _
      · skip
        have g4 : decide (a < IntKind.i64.wrap (-9223372036854775808 - b)) = false := h6
        refine CW_skip ?_
        refine CW_seq ?_
        refine CW_region ?_
        refine OW_run' hE.ok 5 rfl ?_
        refine OW_end rfl ?_
        refine CW_ret ?_
        refine ⟨.inr rfl, rfl, ⟨[.d (int (IntKind.i64.wrap (a + b))), .d (boo true)], rfl, rfl, ?_⟩, rfl⟩
        rw [show sumX a b = (IntKind.i64.wrap (a + b), true) by unfold sumX wr maxI minI; rw [g1, g3, g4]; rfl]
        exact AVle.refl _
    · skip
      have g3 : decide (b < 0) = false := h5
      refine OW_run' hE.ok 6 rfl ?_
      refine OW_end rfl ?_
      refine CW_false rfl ?_
      refine CW_skip ?_
      refine CW_seq ?_
      refine CW_region ?_
      refine OW_run' hE.ok 5 rfl ?_
      refine OW_end rfl ?_
      refine CW_ret ?_
      refine ⟨.inr rfl, rfl, ⟨[.d (int (IntKind.i64.wrap (a + b))), .d (boo true)], rfl, rfl, ?_⟩, rfl⟩
      rw [show sumX a b = (IntKind.i64.wrap (a + b), true) by unfold sumX wr maxI minI; rw [g1, g3]; rfl]
      exact AVle.refl _

theorem differenceOk (a b : Int) : Does Try.prog 194 [.d (int a), .d (int b)] noHeap (.tup [.d (int (diffX a b).1), .d (boo (diffX a b).2)]) := by
  refine Does_of T_ok mixed (N := 27) Try.func194 rfl rfl rfl (by rfl) fun F n Z hE hF J => ?_
  refine CW_seq ?_
  refine CW_region ?_
  refine OW_run' hE.ok 2 rfl ?_
  refine OW_end rfl ?_
  refine CW_seq ?_
  refine CW_seq ?_
  refine CW_region ?_
  refine OW_run' hE.ok 3 rfl ?_
  refine OW_split' 8 rfl (fun h1 => ?_) (fun h1 => ?_)
  · skip
    have g1 : decide (b < 0) = true := h1
    refine OW_run' hE.ok 6 rfl ?_
    refine OW_split' 14 rfl (fun h2 => ?_) (fun h2 => ?_)
    · skip
      have g2 : decide (a > IntKind.i64.wrap (9223372036854775807 + b)) = true := h2
      refine OW_run' hE.ok 9 rfl ?_
      refine OW_end rfl ?_
      refine CW_true rfl ?_
      refine CW_seq ?_
      refine CW_region ?_
      refine OW_run' hE.ok 2 rfl ?_
      refine OW_end rfl ?_
      refine CW_ret ?_
      refine ⟨.inr rfl, rfl, ⟨[.d (int 0), .d (boo false)], rfl, rfl, ?_⟩, rfl⟩
      rw [show diffX a b = (0, false) by unfold diffX wr maxI minI; rw [g1, g2]; rfl]
      exact AVle.refl _
    · skip
      have g2 : decide (a > IntKind.i64.wrap (9223372036854775807 + b)) = false := h2
      refine OW_run' hE.ok 3 rfl ?_
      refine OW_split' 17 rfl (fun h3 => ?_) (fun h3 => ?_)
      · skip
        have g3 : decide (b > 0) = true := h3
        refine OW_run' hE.ok 6 rfl ?_
        refine OW_end rfl ?_
        refine CW_cond _ rfl (fun h4 => ?_) (fun h4 => ?_)
        · skip
          have g4 : decide (a < IntKind.i64.wrap (-9223372036854775808 + b)) = true := h4
          refine CW_seq ?_
          refine CW_region ?_
          refine OW_run' hE.ok 2 rfl ?_
          refine OW_end rfl ?_
          refine CW_ret ?_
          refine ⟨.inr rfl, rfl, ⟨[.d (int 0), .d (boo false)], rfl, rfl, ?_⟩, rfl⟩
          rw [show diffX a b = (0, false) by unfold diffX wr maxI minI; rw [g1, g2, g3, g4]; rfl]
          exact AVle.refl _
        · skip
          have g4 : decide (a < IntKind.i64.wrap (-9223372036854775808 + b)) = false := h4
          refine CW_skip ?_
          refine CW_seq ?_
          refine CW_region ?_
          refine OW_run' hE.ok 5 rfl ?_
          refine OW_end rfl ?_
          refine CW_ret ?_
          refine ⟨.inr rfl, rfl, ⟨[.d (int (IntKind.i64.wrap (a - b))), .d (boo true)], rfl, rfl, ?_⟩, rfl⟩
          rw [show diffX a b = (IntKind.i64.wrap (a - b), true) by unfold diffX wr maxI minI; rw [g1, g2, g3, g4]; rfl]
          exact AVle.refl _
      · skip
        have g3 : decide (b > 0) = false := h3
        refine OW_run' hE.ok 6 rfl ?_
        refine OW_end rfl ?_
        refine CW_false rfl ?_
        refine CW_skip ?_
        refine CW_seq ?_
        refine CW_region ?_
        refine OW_run' hE.ok 5 rfl ?_
        refine OW_end rfl ?_
        refine CW_ret ?_
        refine ⟨.inr rfl, rfl, ⟨[.d (int (IntKind.i64.wrap (a - b))), .d (boo true)], rfl, rfl, ?_⟩, rfl⟩
        rw [show diffX a b = (IntKind.i64.wrap (a - b), true) by unfold diffX wr maxI minI; rw [g1, g2, g3]; rfl]
        exact AVle.refl _
  · skip
    have g1 : decide (b < 0) = false := h1
    refine OW_run' hE.ok 9 rfl ?_
    refine OW_split' 17 rfl (fun h5 => ?_) (fun h5 => ?_)
    · skip
      have g3 : decide (b > 0) = true := h5
      refine OW_run' hE.ok 6 rfl ?_
      refine OW_end rfl ?_
      refine CW_cond _ rfl (fun h6 => ?_) (fun h6 => ?_)
      · skip
        have g4 : decide (a < IntKind.i64.wrap (-9223372036854775808 + b)) = true := h6
        refine CW_seq ?_
        refine CW_region ?_
        refine OW_run' hE.ok 2 rfl ?_
        refine OW_end rfl ?_
        refine CW_ret ?_
        refine ⟨.inr rfl, rfl, ⟨[.d (int 0), .d (boo false)], rfl, rfl, ?_⟩, rfl⟩
        rw [show diffX a b = (0, false) by unfold diffX wr maxI minI; rw [g1, g3, g4]; rfl]
        exact AVle.refl _
      · skip
        have g4 : decide (a < IntKind.i64.wrap (-9223372036854775808 + b)) = false := h6
        refine CW_skip ?_
        refine CW_seq ?_
        refine CW_region ?_
        refine OW_run' hE.ok 5 rfl ?_
        refine OW_end rfl ?_
        refine CW_ret ?_
        refine ⟨.inr rfl, rfl, ⟨[.d (int (IntKind.i64.wrap (a - b))), .d (boo true)], rfl, rfl, ?_⟩, rfl⟩
        rw [show diffX a b = (IntKind.i64.wrap (a - b), true) by unfold diffX wr maxI minI; rw [g1, g3, g4]; rfl]
        exact AVle.refl _
    · skip
      have g3 : decide (b > 0) = false := h5
      refine OW_run' hE.ok 6 rfl ?_
      refine OW_end rfl ?_
      refine CW_false rfl ?_
      refine CW_skip ?_
      refine CW_seq ?_
      refine CW_region ?_
      refine OW_run' hE.ok 5 rfl ?_
      refine OW_end rfl ?_
      refine CW_ret ?_
      refine ⟨.inr rfl, rfl, ⟨[.d (int (IntKind.i64.wrap (a - b))), .d (boo true)], rfl, rfl, ?_⟩, rfl⟩
      rw [show diffX a b = (IntKind.i64.wrap (a - b), true) by unfold diffX wr maxI minI; rw [g1, g3]; rfl]
      exact AVle.refl _
end Go.Proofs.Ytojnicnbmgiplaa
namespace Go.Proofs.Ytojnicnbmgiplaa
open Go Go.AL
set_option linter.unusedVariables false
set_option linter.unusedSimpArgs false
set_option maxHeartbeats 4000000
theorem productOk (a b : Int) : Does Try.prog 195 [.d (int a), .d (int b)] noHeap (.tup [.d (int (prodX a b).1), .d (boo (prodX a b).2)]) := by
  refine Does_of T_ok mixed (N := 38) Try.func195 rfl rfl rfl (by rfl) fun F n Z hE hF J => ?_
  refine CW_seq ?_
  refine CW_region ?_
  refine OW_run' hE.ok 2 rfl ?_
  refine OW_end rfl ?_
  refine CW_seq ?_
  refine CW_seq ?_
  refine CW_region ?_
  refine OW_run' hE.ok 3 rfl ?_
  refine OW_split' 9 rfl (fun h1 => ?_) (fun h1 => ?_)
  · skip
    have g1 : (a == 0) = true := h1
    refine OW_run' hE.ok 3 rfl ?_
    refine OW_end rfl ?_
    refine CW_true rfl ?_
    refine CW_seq ?_
    refine CW_region ?_
    refine OW_run' hE.ok 2 rfl ?_
    refine OW_end rfl ?_
    refine CW_ret ?_
    refine ⟨.inr rfl, rfl, ⟨[.d (int 0), .d (boo true)], rfl, rfl, ?_⟩, rfl⟩
    rw [show prodX a b = (0, true) by unfold prodX wr minI; rw [g1]; rfl]
    exact AVle.refl _
  · skip
    have g1 : (a == 0) = false := h1
    refine OW_run' hE.ok 3 rfl ?_
    refine OW_end rfl ?_
    refine CW_cond _ rfl (fun h2 => ?_) (fun h2 => ?_)
    · skip
      have g2 : (b == 0) = true := h2
      refine CW_seq ?_
      refine CW_region ?_
      refine OW_run' hE.ok 2 rfl ?_
      refine OW_end rfl ?_
      refine CW_ret ?_
      refine ⟨.inr rfl, rfl, ⟨[.d (int 0), .d (boo true)], rfl, rfl, ?_⟩, rfl⟩
      rw [show prodX a b = (0, true) by unfold prodX wr minI; rw [g1, g2]; rfl]
      exact AVle.refl _
    · skip
      have g2 : (b == 0) = false := h2
      refine CW_skip ?_
      refine CW_seq ?_
      refine CW_region ?_
      refine OW_run' hE.ok 4 rfl ?_
      refine OW_end rfl ?_
      refine CW_seq ?_
      refine CW_seq ?_
      refine CW_region ?_
      refine OW_run' hE.ok 2 rfl ?_
      refine OW_loc' hE (loc_quo hE rfl rfl rfl (by simpa using g2)) rfl rfl rfl ?_
      refine OW_run' hE.ok 3 rfl ?_
      refine OW_split' 21 rfl (fun h3 => ?_) (fun h3 => ?_)
      · skip
        have g3 : (IntKind.i64.wrap ((IntKind.i64.wrap (a * b)).tdiv b) != a) = true := h3
        refine OW_run' hE.ok 15 rfl ?_
        refine OW_end rfl ?_
        refine CW_true rfl ?_
        refine CW_seq ?_
        refine CW_region ?_
        refine OW_run' hE.ok 2 rfl ?_
        refine OW_end rfl ?_
        refine CW_ret ?_
        refine ⟨.inr rfl, rfl, ⟨[.d (int 0), .d (boo false)], rfl, rfl, ?_⟩, rfl⟩
        rw [show prodX a b = (0, false) by unfold prodX wr minI; rw [g1, g2, g3]; rfl]
        exact AVle.refl _
      · skip
        have g3 : (IntKind.i64.wrap ((IntKind.i64.wrap (a * b)).tdiv b) != a) = false := h3
        refine OW_run' hE.ok 3 rfl ?_
        refine OW_split' 24 rfl (fun h4 => ?_) (fun h4 => ?_)
        · skip
          have g4 : (a == -1) = true := h4
          refine OW_run' hE.ok 5 rfl ?_
          refine OW_split' 29 rfl (fun h5 => ?_) (fun h5 => ?_)
          · skip
            have g5 : (b == -9223372036854775808) = true := h5
            refine OW_run' hE.ok 7 rfl ?_
            refine OW_end rfl ?_
            refine CW_true rfl ?_
            refine CW_seq ?_
            refine CW_region ?_
            refine OW_run' hE.ok 2 rfl ?_
            refine OW_end rfl ?_
            refine CW_ret ?_
            refine ⟨.inr rfl, rfl, ⟨[.d (int 0), .d (boo false)], rfl, rfl, ?_⟩, rfl⟩
            rw [show prodX a b = (0, false) by unfold prodX wr minI; rw [g1, g2, g3, g4, g5]; rfl]
            exact AVle.refl _
          · skip
            have g5 : (b == -9223372036854775808) = false := h5
            refine OW_run' hE.ok 3 rfl ?_
            refine OW_split' 32 rfl (fun h6 => ?_) (fun h6 => ?_)
            · skip
              have g6 : (b == -1) = true := h6
              refine OW_run' hE.ok 4 rfl ?_
              refine OW_end rfl ?_
              refine CW_cond _ rfl (fun h7 => ?_) (fun h7 => ?_)
              · skip
                have g7 : (a == -9223372036854775808) = true := h7
                refine CW_seq ?_
                refine CW_region ?_
                refine OW_run' hE.ok 2 rfl ?_
                refine OW_end rfl ?_
                refine CW_ret ?_
                refine ⟨.inr rfl, rfl, ⟨[.d (int 0), .d (boo false)], rfl, rfl, ?_⟩, rfl⟩
                rw [show prodX a b = (0, false) by unfold prodX wr minI; rw [g1, g2, g3, g4, g5, g6, g7]; rfl]
                exact AVle.refl _
              · skip
                have g7 : (a == -9223372036854775808) = false := h7
                refine CW_skip ?_
                refine CW_seq ?_
                refine CW_region ?_
                refine OW_run' hE.ok 3 rfl ?_
                refine OW_end rfl ?_
                refine CW_ret ?_
                refine ⟨.inr rfl, rfl, ⟨[.d (int (IntKind.i64.wrap (a * b))), .d (boo true)], rfl, rfl, ?_⟩, rfl⟩
                rw [show prodX a b = (IntKind.i64.wrap (a * b), true) by unfold prodX wr minI; rw [g1, g2, g3, g4, g5, g6, g7]; rfl]
                exact AVle.refl _
            · skip
              have g6 : (b == -1) = false := h6
              refine OW_run' hE.ok 4 rfl ?_
              refine OW_end rfl ?_
              refine CW_false rfl ?_
              refine CW_skip ?_
              refine CW_seq ?_
              refine CW_region ?_
              refine OW_run' hE.ok 3 rfl ?_
              refine OW_end rfl ?_
              refine CW_ret ?_
              refine ⟨.inr rfl, rfl, ⟨[.d (int (IntKind.i64.wrap (a * b))), .d (boo true)], rfl, rfl, ?_⟩, rfl⟩
              rw [show prodX a b = (IntKind.i64.wrap (a * b), true) by unfold prodX wr minI; rw [g1, g2, g3, g4, g5, g6]; rfl]
              exact AVle.refl _
        · skip
          have g4 : (a == -1) = false := h4
          refine OW_run' hE.ok 8 rfl ?_
          refine OW_split' 32 rfl (fun h8 => ?_) (fun h8 => ?_)
          · skip
            have g6 : (b == -1) = true := h8
            refine OW_run' hE.ok 4 rfl ?_
            refine OW_end rfl ?_
            refine CW_cond _ rfl (fun h9 => ?_) (fun h9 => ?_)
            · skip
              have g7 : (a == -9223372036854775808) = true := h9
              refine CW_seq ?_
              refine CW_region ?_
              refine OW_run' hE.ok 2 rfl ?_
              refine OW_end rfl ?_
              refine CW_ret ?_
              refine ⟨.inr rfl, rfl, ⟨[.d (int 0), .d (boo false)], rfl, rfl, ?_⟩, rfl⟩
              rw [show prodX a b = (0, false) by unfold prodX wr minI; rw [g1, g2, g3, g4, g6, g7]; rfl]
              exact AVle.refl _
            · skip
              have g7 : (a == -9223372036854775808) = false := h9
              refine CW_skip ?_
              refine CW_seq ?_
              refine CW_region ?_
              refine OW_run' hE.ok 3 rfl ?_
              refine OW_end rfl ?_
              refine CW_ret ?_
              refine ⟨.inr rfl, rfl, ⟨[.d (int (IntKind.i64.wrap (a * b))), .d (boo true)], rfl, rfl, ?_⟩, rfl⟩
              rw [show prodX a b = (IntKind.i64.wrap (a * b), true) by unfold prodX wr minI; rw [g1, g2, g3, g4, g6, g7]; rfl]
              exact AVle.refl _
          · skip
            have g6 : (b == -1) = false := h8
            refine OW_run' hE.ok 4 rfl ?_
            refine OW_end rfl ?_
            refine CW_false rfl ?_
            refine CW_skip ?_
            refine CW_seq ?_
            refine CW_region ?_
            refine OW_run' hE.ok 3 rfl ?_
            refine OW_end rfl ?_
            refine CW_ret ?_
            refine ⟨.inr rfl, rfl, ⟨[.d (int (IntKind.i64.wrap (a * b))), .d (boo true)], rfl, rfl, ?_⟩, rfl⟩
            rw [show prodX a b = (IntKind.i64.wrap (a * b), true) by unfold prodX wr minI; rw [g1, g2, g3, g4, g6]; rfl]
            exact AVle.refl _
end Go.Proofs.Ytojnicnbmgiplaa
namespace Go.Proofs.Ytojnicnbmgiplaa
open Go Go.AL
set_option linter.unusedVariables false
set_option linter.unusedSimpArgs false
set_option maxHeartbeats 4000000
theorem countsOk (op a b : Int) : Does Try.prog 187 [.d (int op), .d (int a), .d (int b)] noHeap (.tup [argV (countsX op a b).1, .d (errC 122 (countsX op a b).2)]) := by
  refine Does_of T_ok mixed (N := 39) Try.func187 rfl rfl rfl (by rfl) fun F n Z hE hF J => ?_
  refine CW_seq ?_
  refine CW_region ?_
  refine OW_alloc' hE 1 rfl rfl rfl rfl rfl rfl rfl ?_
  refine OW_run' hE.ok 1 rfl ?_
  refine OW_end rfl ?_
  refine CW_seq ?_
  refine CW_region ?_
  refine OW_run' hE.ok 2 rfl ?_
  refine OW_end rfl ?_
  refine CW_cutE (fun _ : Unit => ⟨J, (sset (sset (sset noSlots 6 (.ptr 1 0)) 8 (.d (int (countsR op a b).1))) 9 (.d (boo (countsR op a b).2))), (hset noHeap 1 (some (.box 61 [.d (int 0), .d (int 0), .d (str nul)])))⟩) (fun _ => True) ?_ ?_
  · skip
    refine CW_seq ?_
    refine CW_region ?_
    refine OW_run' hE.ok 1 rfl ?_
    refine OW_end rfl ?_
    refine CW_block ?_
    refine CW_seq ?_
    refine CW_region ?_
    refine OW_run' hE.ok 2 rfl ?_
    refine OW_end rfl ?_
    refine CW_cond _ rfl (fun h1 => ?_) (fun h1 => ?_)
    · skip
      have g1 : (op == 3) = true := h1
      refine CW_region ?_
      refine OW_run' hE.ok 2 rfl ?_
      refine OW_call' hE (sumOk _ _) rfl rfl rfl rfl rfl rfl rfl ?_
      refine OW_run' hE.ok 5 rfl ?_
      refine OW_end rfl ?_
      have hr : countsR op a b = sumX a b := by unfold countsR; rw [g1]; rfl
      exact ⟨(), trivial, LE_sh (slh_set (slh_set (slh_set (slh_no _ _) rfl rfl) (by rw [hr]; rfl) rfl) (by rw [hr]; rfl) rfl) (hlh_set (hlh_no _ _) rfl rfl)⟩
    · skip
      have g1 : (op == 3) = false := h1
      refine CW_seq ?_
      refine CW_region ?_
      refine OW_run' hE.ok 2 rfl ?_
      refine OW_end rfl ?_
      refine CW_cond _ rfl (fun h2 => ?_) (fun h2 => ?_)
      · skip
        have g2 : (op == 4) = true := h2
        refine CW_region ?_
        refine OW_run' hE.ok 2 rfl ?_
        refine OW_call' hE (differenceOk _ _) rfl rfl rfl rfl rfl rfl rfl ?_
        refine OW_run' hE.ok 5 rfl ?_
        refine OW_end rfl ?_
        have hr : countsR op a b = diffX a b := by unfold countsR; rw [g1, g2]; rfl
        exact ⟨(), trivial, LE_sh (slh_set (slh_set (slh_set (slh_no _ _) rfl rfl) (by rw [hr]; rfl) rfl) (by rw [hr]; rfl) rfl) (hlh_set (hlh_no _ _) rfl rfl)⟩
      · skip
        have g2 : (op == 4) = false := h2
        refine CW_region ?_
        refine OW_run' hE.ok 2 rfl ?_
        refine OW_call' hE (productOk _ _) rfl rfl rfl rfl rfl rfl rfl ?_
        refine OW_run' hE.ok 5 rfl ?_
        refine OW_end rfl ?_
        have hr : countsR op a b = prodX a b := by unfold countsR; rw [g1, g2]; rfl
        exact ⟨(), trivial, LE_sh (slh_set (slh_set (slh_set (slh_no _ _) rfl rfl) (by rw [hr]; rfl) rfl) (by rw [hr]; rfl) rfl) (hlh_set (hlh_no _ _) rfl rfl)⟩
  · skip
    rintro _ _
    refine CW_seq ?_
    refine CW_seq ?_
    refine CW_region ?_
    refine OW_run' hE.ok 2 rfl ?_
    refine OW_end rfl ?_
    refine CW_cond _ rfl (fun h3 => ?_) (fun h3 => ?_)
    · skip
      have g3 : (!(countsR op a b).2) = true := h3
      refine CW_seq ?_
      refine CW_region ?_
      refine OW_build' hE rfl rfl rfl rfl rfl ?_
      refine OW_run' hE.ok 1 rfl ?_
      refine OW_store' hE rfl rfl rfl rfl rfl rfl rfl rfl rfl rfl rfl rfl ?_
      refine OW_run' hE.ok 1 rfl ?_
      refine OW_end rfl ?_
      refine CW_ret ?_
      refine ⟨.inr rfl, rfl, ⟨_, rfl, rfl, ?_⟩, rfl⟩
      rw [show countsX op a b = (nulV, 16) by unfold countsX; rw [g3]; rfl]
      exact AVle.refl _
    · skip
      have g3 : (!(countsR op a b).2) = false := h3
      refine CW_skip ?_
      refine CW_seq ?_
      refine CW_region ?_
      refine OW_run' hE.ok 1 rfl ?_
      refine OW_build' hE rfl rfl rfl rfl rfl ?_
      refine OW_store' hE rfl rfl rfl rfl rfl rfl rfl rfl rfl rfl rfl rfl ?_
      refine OW_run' hE.ok 1 rfl ?_
      refine OW_end rfl ?_
      refine CW_ret ?_
      refine ⟨.inr rfl, rfl, ⟨_, rfl, rfl, ?_⟩, rfl⟩
      rw [show countsX op a b = (⟨1, (countsR op a b).1, nul⟩, 0) by unfold countsX; rw [g3]; rfl]
      exact AVle.refl _

theorem pairOk (op : Int) (a b : Vl) : Does Try.prog 178 [.d (int op), argV a, argV b] noHeap (.tup [argV (pairX op a b).1, .d (errC 122 (pairX op a b).2)]) := by
  refine Does_of T_ok mixed (N := 94) Try.func178 rfl rfl rfl (by rfl) fun F n Z hE hF J => ?_
  refine CW_seq ?_
  refine CW_region ?_
  refine OW_run' hE.ok 2 rfl ?_
  refine OW_alloc' hE 1 rfl rfl rfl rfl rfl rfl rfl ?_
  refine OW_run' hE.ok 1 rfl ?_
  refine OW_end rfl ?_
  refine CW_seq ?_
  refine CW_region ?_
  refine OW_run' hE.ok 6 rfl ?_
  refine OW_end rfl ?_
  refine CW_seq ?_
  refine CW_block ?_
  refine CW_cutE (fun _ : Unit => ⟨J, (sset (sset (sset (sset (sset (sset noSlots 0 (.d (int op))) 4 (.d (.iptr (encV a)))) 5 (.d (.iptr (encV b)))) 6 (.ptr 1 0)) 8 (.d (boo (a.k == b.k)))) 14 (.d (boo ((op == 3 || op == 4 || op == 5) && (a.k == b.k && a.k == 1))))), (hset noHeap 1 (some (.box 61 [.d (int 0), .d (int 0), .d (str nul)])))⟩) (fun _ => True) ?_ ?_
  · skip
    refine CW_region ?_
    refine OW_run' hE.ok 3 rfl ?_
    refine OW_split' 17 rfl (fun h1 => ?_) (fun h1 => ?_)
    · skip
      have k1 : (op == 3) = true := h1
      refine OW_run' hE.ok 11 rfl ?_
      refine OW_split' 28 rfl (fun h2 => ?_) (fun h2 => ?_)
      · skip
        have k4 : (a.k == b.k) = true := h2
        refine OW_run' hE.ok 5 rfl ?_
        refine OW_end rfl ?_
        exact ⟨(), trivial, LE_sh (slh_set (slh_set (slh_set (slh_set (slh_set (slh_set (slh_no _ _) rfl rfl) rfl rfl) rfl rfl) rfl rfl) rfl rfl) (congrArg (fun b => AV.d (boo b)) (by rw [k1, k4]; rfl)) rfl) (hlh_set (hlh_no _ _) rfl rfl)⟩
      · skip
        have k4 : (a.k == b.k) = false := h2
        refine OW_run' hE.ok 5 rfl ?_
        refine OW_end rfl ?_
        exact ⟨(), trivial, LE_sh (slh_set (slh_set (slh_set (slh_set (slh_set (slh_set (slh_no _ _) rfl rfl) rfl rfl) rfl rfl) rfl rfl) rfl rfl) (congrArg (fun b => AV.d (boo b)) (by rw [k1, k4]; rfl)) rfl) (hlh_set (hlh_no _ _) rfl rfl)⟩
    · skip
      have k1 : (op == 3) = false := h1
      refine OW_run' hE.ok 4 rfl ?_
      refine OW_split' 21 rfl (fun h3 => ?_) (fun h3 => ?_)
      · skip
        have k2 : (op == 4) = true := h3
        refine OW_run' hE.ok 7 rfl ?_
        refine OW_split' 28 rfl (fun h4 => ?_) (fun h4 => ?_)
        · skip
          have k4 : (a.k == b.k) = true := h4
          refine OW_run' hE.ok 5 rfl ?_
          refine OW_end rfl ?_
          exact ⟨(), trivial, LE_sh (slh_set (slh_set (slh_set (slh_set (slh_set (slh_set (slh_no _ _) rfl rfl) rfl rfl) rfl rfl) rfl rfl) rfl rfl) (congrArg (fun b => AV.d (boo b)) (by rw [k1, k2, k4]; rfl)) rfl) (hlh_set (hlh_no _ _) rfl rfl)⟩
        · skip
          have k4 : (a.k == b.k) = false := h4
          refine OW_run' hE.ok 5 rfl ?_
          refine OW_end rfl ?_
          exact ⟨(), trivial, LE_sh (slh_set (slh_set (slh_set (slh_set (slh_set (slh_set (slh_no _ _) rfl rfl) rfl rfl) rfl rfl) rfl rfl) rfl rfl) (congrArg (fun b => AV.d (boo b)) (by rw [k1, k2, k4]; rfl)) rfl) (hlh_set (hlh_no _ _) rfl rfl)⟩
      · skip
        have k2 : (op == 4) = false := h3
        refine OW_run' hE.ok 4 rfl ?_
        refine OW_split' 25 rfl (fun h5 => ?_) (fun h5 => ?_)
        · skip
          have k3 : (op == 5) = true := h5
          refine OW_run' hE.ok 3 rfl ?_
          refine OW_split' 28 rfl (fun h6 => ?_) (fun h6 => ?_)
          · skip
            have k4 : (a.k == b.k) = true := h6
            refine OW_run' hE.ok 5 rfl ?_
            refine OW_end rfl ?_
            exact ⟨(), trivial, LE_sh (slh_set (slh_set (slh_set (slh_set (slh_set (slh_set (slh_no _ _) rfl rfl) rfl rfl) rfl rfl) rfl rfl) rfl rfl) (congrArg (fun b => AV.d (boo b)) (by rw [k1, k2, k3, k4]; rfl)) rfl) (hlh_set (hlh_no _ _) rfl rfl)⟩
          · skip
            have k4 : (a.k == b.k) = false := h6
            refine OW_run' hE.ok 5 rfl ?_
            refine OW_end rfl ?_
            exact ⟨(), trivial, LE_sh (slh_set (slh_set (slh_set (slh_set (slh_set (slh_set (slh_no _ _) rfl rfl) rfl rfl) rfl rfl) rfl rfl) rfl rfl) (congrArg (fun b => AV.d (boo b)) (by rw [k1, k2, k3, k4]; rfl)) rfl) (hlh_set (hlh_no _ _) rfl rfl)⟩
        · skip
          have k3 : (op == 5) = false := h5
          refine OW_run' hE.ok 8 rfl ?_
          refine OW_end rfl ?_
          exact ⟨(), trivial, LE_sh (slh_set (slh_set (slh_set (slh_set (slh_set (slh_set (slh_no _ _) rfl rfl) rfl rfl) rfl rfl) rfl rfl) rfl rfl) (congrArg (fun b => AV.d (boo b)) (by rw [k1, k2, k3]; rfl)) rfl) (hlh_set (hlh_no _ _) rfl rfl)⟩
  · skip
    rintro _ _
    refine CW_cond _ rfl (fun h7 => ?_) (fun h7 => ?_)
    · skip
      have g14 : ((op == 3 || op == 4 || op == 5) && (a.k == b.k && a.k == 1)) = true := h7
      refine CW_seq ?_
      refine CW_region ?_
      refine OW_run' hE.ok 5 rfl ?_
      refine OW_call' hE (countsOk _ _ _) rfl rfl rfl rfl rfl rfl rfl ?_
      refine OW_run' hE.ok 2 rfl ?_
      refine OW_store' hE rfl rfl rfl rfl rfl rfl rfl rfl rfl rfl rfl rfl ?_
      refine OW_run' hE.ok 1 rfl ?_
      refine OW_end rfl ?_
      refine CW_ret ?_
      refine ⟨.inr rfl, rfl, ⟨_, rfl, rfl, ?_⟩, rfl⟩
      rw [show pairX op a b = countsX op a.n b.n by unfold pairX; rw [g14]; rfl]
      exact AVle.refl _
    · skip
      have g14 : ((op == 3 || op == 4 || op == 5) && (a.k == b.k && a.k == 1)) = false := h7
      refine CW_cutE (fun _ : Unit => ⟨J, (sset (sset (sset (sset (sset (sset noSlots 0 (.d (int op))) 4 (.d (.iptr (encV a)))) 5 (.d (.iptr (encV b)))) 6 (.ptr 1 0)) 8 (.d (boo (a.k == b.k)))) 41 (.d (boo (op == 6 && a.k == b.k)))), (hset noHeap 1 (some (.box 61 [.d (int 0), .d (int 0), .d (str nul)])))⟩) (fun _ => True) ?_ ?_
      · skip
        refine CW_region ?_
        refine OW_run' hE.ok 3 rfl ?_
        refine OW_split' 44 rfl (fun h8 => ?_) (fun h8 => ?_)
        · skip
          have k5 : (op == 6) = true := h8
          refine OW_run' hE.ok 3 rfl ?_
          refine OW_end rfl ?_
          exact ⟨(), trivial, LE_sh (slh_set (slh_set (slh_set (slh_set (slh_set (slh_set (slh_no _ _) rfl rfl) rfl rfl) rfl rfl) rfl rfl) rfl rfl) (congrArg (fun b => AV.d (boo b)) (by rw [k5]; rfl)) rfl) (hlh_set (hlh_no _ _) rfl rfl)⟩
        · skip
          have k5 : (op == 6) = false := h8
          refine OW_run' hE.ok 3 rfl ?_
          refine OW_end rfl ?_
          exact ⟨(), trivial, LE_sh (slh_set (slh_set (slh_set (slh_set (slh_set (slh_set (slh_no _ _) rfl rfl) rfl rfl) rfl rfl) rfl rfl) rfl rfl) (congrArg (fun b => AV.d (boo b)) (by rw [k5]; rfl)) rfl) (hlh_set (hlh_no _ _) rfl rfl)⟩
      · skip
        rintro _ _
        refine CW_cond _ rfl (fun h9 => ?_) (fun h9 => ?_)
        · skip
          have g41 : (op == 6 && a.k == b.k) = true := h9
          refine CW_seq ?_
          refine CW_region ?_
          refine OW_run' hE.ok 2 rfl ?_
          refine OW_loc' hE (loc_eql rfl rfl rfl (r := sameV a b) (eqLaw_flat T_ok (t := 61) rfl (by decide +kernel) rfl (X := encV a) (Y := encV b) rfl rfl rfl)) rfl rfl rfl ?_
          refine OW_call' hE (truthOk _) rfl rfl rfl rfl rfl rfl rfl ?_
          refine OW_store' hE rfl rfl rfl rfl rfl rfl rfl rfl rfl rfl rfl rfl ?_
          refine OW_run' hE.ok 1 rfl ?_
          refine OW_end rfl ?_
          refine CW_ret ?_
          refine ⟨.inr rfl, rfl, ⟨_, rfl, rfl, ?_⟩, rfl⟩
          rw [show pairX op a b = (truthV (sameV a b), 0) by unfold pairX; rw [g14, g41]; rfl]
          exact AVle.refl _
        · skip
          have g41 : (op == 6 && a.k == b.k) = false := h9
          refine CW_cutE (fun _ : Unit => ⟨J, (sset (sset (sset (sset (sset (sset noSlots 0 (.d (int op))) 4 (.d (.iptr (encV a)))) 5 (.d (.iptr (encV b)))) 6 (.ptr 1 0)) 8 (.d (boo (a.k == b.k)))) 51 (.d (boo (op == 7 && a.k == b.k)))), (hset noHeap 1 (some (.box 61 [.d (int 0), .d (int 0), .d (str nul)])))⟩) (fun _ => True) ?_ ?_
          · skip
            refine CW_region ?_
            refine OW_run' hE.ok 3 rfl ?_
            refine OW_split' 54 rfl (fun h10 => ?_) (fun h10 => ?_)
            · skip
              have k6 : (op == 7) = true := h10
              refine OW_run' hE.ok 3 rfl ?_
              refine OW_end rfl ?_
              exact ⟨(), trivial, LE_sh (slh_set (slh_set (slh_set (slh_set (slh_set (slh_set (slh_no _ _) rfl rfl) rfl rfl) rfl rfl) rfl rfl) rfl rfl) (congrArg (fun b => AV.d (boo b)) (by rw [k6]; rfl)) rfl) (hlh_set (hlh_no _ _) rfl rfl)⟩
            · skip
              have k6 : (op == 7) = false := h10
              refine OW_run' hE.ok 3 rfl ?_
              refine OW_end rfl ?_
              exact ⟨(), trivial, LE_sh (slh_set (slh_set (slh_set (slh_set (slh_set (slh_set (slh_no _ _) rfl rfl) rfl rfl) rfl rfl) rfl rfl) rfl rfl) (congrArg (fun b => AV.d (boo b)) (by rw [k6]; rfl)) rfl) (hlh_set (hlh_no _ _) rfl rfl)⟩
          · skip
            rintro _ _
            refine CW_cond _ rfl (fun h11 => ?_) (fun h11 => ?_)
            · skip
              have g51 : (op == 7 && a.k == b.k) = true := h11
              refine CW_seq ?_
              refine CW_region ?_
              refine OW_run' hE.ok 2 rfl ?_
              refine OW_loc' hE (loc_neq rfl rfl rfl (r := sameV a b) (eqLaw_flat T_ok (t := 61) rfl (by decide +kernel) rfl (X := encV a) (Y := encV b) rfl rfl rfl)) rfl rfl rfl ?_
              refine OW_call' hE (truthOk _) rfl rfl rfl rfl rfl rfl rfl ?_
              refine OW_store' hE rfl rfl rfl rfl rfl rfl rfl rfl rfl rfl rfl rfl ?_
              refine OW_run' hE.ok 1 rfl ?_
              refine OW_end rfl ?_
              refine CW_ret ?_
              refine ⟨.inr rfl, rfl, ⟨_, rfl, rfl, ?_⟩, rfl⟩
              rw [show pairX op a b = (truthV (!sameV a b), 0) by unfold pairX; rw [g14, g41, g51]; rfl]
              exact AVle.refl _
            · skip
              have g51 : (op == 7 && a.k == b.k) = false := h11
              refine CW_cutE (fun _ : Unit => ⟨J, (sset (sset (sset (sset (sset (sset noSlots 0 (.d (int op))) 4 (.d (.iptr (encV a)))) 5 (.d (.iptr (encV b)))) 6 (.ptr 1 0)) 8 (.d (boo (a.k == b.k)))) 61 (.d (boo (op == 8 && (a.k == b.k && a.k != 3))))), (hset noHeap 1 (some (.box 61 [.d (int 0), .d (int 0), .d (str nul)])))⟩) (fun _ => True) ?_ ?_
              · skip
                refine CW_region ?_
                refine OW_run' hE.ok 3 rfl ?_
                refine OW_split' 64 rfl (fun h12 => ?_) (fun h12 => ?_)
                · skip
                  have k7 : (op == 8) = true := h12
                  refine OW_run' hE.ok 3 rfl ?_
                  refine OW_split' 67 rfl (fun h13 => ?_) (fun h13 => ?_)
                  · skip
                    have k8 : (a.k == b.k) = true := h13
                    refine OW_run' hE.ok 5 rfl ?_
                    refine OW_end rfl ?_
                    exact ⟨(), trivial, LE_sh (slh_set (slh_set (slh_set (slh_set (slh_set (slh_set (slh_no _ _) rfl rfl) rfl rfl) rfl rfl) rfl rfl) rfl rfl) (congrArg (fun b => AV.d (boo b)) (by rw [k7, k8]; rfl)) rfl) (hlh_set (hlh_no _ _) rfl rfl)⟩
                  · skip
                    have k8 : (a.k == b.k) = false := h13
                    refine OW_run' hE.ok 5 rfl ?_
                    refine OW_end rfl ?_
                    exact ⟨(), trivial, LE_sh (slh_set (slh_set (slh_set (slh_set (slh_set (slh_set (slh_no _ _) rfl rfl) rfl rfl) rfl rfl) rfl rfl) rfl rfl) (congrArg (fun b => AV.d (boo b)) (by rw [k7, k8]; rfl)) rfl) (hlh_set (hlh_no _ _) rfl rfl)⟩
                · skip
                  have k7 : (op == 8) = false := h12
                  refine OW_run' hE.ok 8 rfl ?_
                  refine OW_end rfl ?_
                  exact ⟨(), trivial, LE_sh (slh_set (slh_set (slh_set (slh_set (slh_set (slh_set (slh_no _ _) rfl rfl) rfl rfl) rfl rfl) rfl rfl) rfl rfl) (congrArg (fun b => AV.d (boo b)) (by rw [k7]; rfl)) rfl) (hlh_set (hlh_no _ _) rfl rfl)⟩
              · skip
                rintro _ _
                refine CW_cond _ rfl (fun h14 => ?_) (fun h14 => ?_)
                · skip
                  have g61 : (op == 8 && (a.k == b.k && a.k != 3)) = true := h14
                  refine CW_seq ?_
                  refine CW_region ?_
                  refine OW_run' hE.ok 2 rfl ?_
                  refine OW_call' hE (lessOk _ _) rfl rfl rfl rfl rfl rfl rfl ?_
                  refine OW_call' hE (truthOk _) rfl rfl rfl rfl rfl rfl rfl ?_
                  refine OW_store' hE rfl rfl rfl rfl rfl rfl rfl rfl rfl rfl rfl rfl ?_
                  refine OW_run' hE.ok 1 rfl ?_
                  refine OW_end rfl ?_
                  refine CW_ret ?_
                  refine ⟨.inr rfl, rfl, ⟨_, rfl, rfl, ?_⟩, rfl⟩
                  rw [show pairX op a b = (truthV (lessV a b), 0) by unfold pairX; rw [g14, g41, g51, g61]; rfl]
                  exact AVle.refl _
                · skip
                  have g61 : (op == 8 && (a.k == b.k && a.k != 3)) = false := h14
                  refine CW_cutE (fun _ : Unit => ⟨J, (sset (sset (sset (sset (sset (sset noSlots 0 (.d (int op))) 4 (.d (.iptr (encV a)))) 5 (.d (.iptr (encV b)))) 6 (.ptr 1 0)) 8 (.d (boo (a.k == b.k)))) 76 (.d (boo (op == 9 && (a.k == b.k && a.k != 3))))), (hset noHeap 1 (some (.box 61 [.d (int 0), .d (int 0), .d (str nul)])))⟩) (fun _ => True) ?_ ?_
                  · skip
                    refine CW_region ?_
                    refine OW_run' hE.ok 3 rfl ?_
                    refine OW_split' 79 rfl (fun h15 => ?_) (fun h15 => ?_)
                    · skip
                      have k9 : (op == 9) = true := h15
                      refine OW_run' hE.ok 3 rfl ?_
                      refine OW_split' 82 rfl (fun h16 => ?_) (fun h16 => ?_)
                      · skip
                        have k10 : (a.k == b.k) = true := h16
                        refine OW_run' hE.ok 5 rfl ?_
                        refine OW_end rfl ?_
                        exact ⟨(), trivial, LE_sh (slh_set (slh_set (slh_set (slh_set (slh_set (slh_set (slh_no _ _) rfl rfl) rfl rfl) rfl rfl) rfl rfl) rfl rfl) (congrArg (fun b => AV.d (boo b)) (by rw [k9, k10]; rfl)) rfl) (hlh_set (hlh_no _ _) rfl rfl)⟩
                      · skip
                        have k10 : (a.k == b.k) = false := h16
                        refine OW_run' hE.ok 5 rfl ?_
                        refine OW_end rfl ?_
                        exact ⟨(), trivial, LE_sh (slh_set (slh_set (slh_set (slh_set (slh_set (slh_set (slh_no _ _) rfl rfl) rfl rfl) rfl rfl) rfl rfl) rfl rfl) (congrArg (fun b => AV.d (boo b)) (by rw [k9, k10]; rfl)) rfl) (hlh_set (hlh_no _ _) rfl rfl)⟩
                    · skip
                      have k9 : (op == 9) = false := h15
                      refine OW_run' hE.ok 8 rfl ?_
                      refine OW_end rfl ?_
                      exact ⟨(), trivial, LE_sh (slh_set (slh_set (slh_set (slh_set (slh_set (slh_set (slh_no _ _) rfl rfl) rfl rfl) rfl rfl) rfl rfl) rfl rfl) (congrArg (fun b => AV.d (boo b)) (by rw [k9]; rfl)) rfl) (hlh_set (hlh_no _ _) rfl rfl)⟩
                  · skip
                    rintro _ _
                    refine CW_cond _ rfl (fun h17 => ?_) (fun h17 => ?_)
                    · skip
                      have g76 : (op == 9 && (a.k == b.k && a.k != 3)) = true := h17
                      refine CW_seq ?_
                      refine CW_region ?_
                      refine OW_run' hE.ok 2 rfl ?_
                      refine OW_call' hE (lessOk _ _) rfl rfl rfl rfl rfl rfl rfl ?_
                      refine OW_run' hE.ok 1 rfl ?_
                      refine OW_call' hE (truthOk _) rfl rfl rfl rfl rfl rfl rfl ?_
                      refine OW_store' hE rfl rfl rfl rfl rfl rfl rfl rfl rfl rfl rfl rfl ?_
                      refine OW_run' hE.ok 1 rfl ?_
                      refine OW_end rfl ?_
                      refine CW_ret ?_
                      refine ⟨.inr rfl, rfl, ⟨_, rfl, rfl, ?_⟩, rfl⟩
                      rw [show pairX op a b = (truthV (!lessV b a), 0) by unfold pairX; rw [g14, g41, g51, g61, g76]; rfl]
                      exact AVle.refl _
                    · skip
                      have g76 : (op == 9 && (a.k == b.k && a.k != 3)) = false := h17
                      refine CW_skip ?_
                      refine CW_seq ?_
                      refine CW_region ?_
                      refine OW_build' hE rfl rfl rfl rfl rfl ?_
                      refine OW_run' hE.ok 1 rfl ?_
                      refine OW_store' hE rfl rfl rfl rfl rfl rfl rfl rfl rfl rfl rfl rfl ?_
                      refine OW_run' hE.ok 1 rfl ?_
                      refine OW_end rfl ?_
                      refine CW_ret ?_
                      refine ⟨.inr rfl, rfl, ⟨_, rfl, rfl, ?_⟩, rfl⟩
                      rw [show pairX op a b = (nulV, 14) by unfold pairX; rw [g14, g41, g51, g61, g76]; rfl]
                      exact AVle.refl _
end Go.Proofs.Ytojnicnbmgiplaa
namespace Go.Proofs.Ytojnicnbmgiplaa
open Go Go.AL
set_option linter.unusedVariables false
set_option linter.unusedSimpArgs false
set_option maxHeartbeats 4000000
theorem back1 (xs : List Bi) : Iter Try.prog 192 [] [.d (.iptr [.sl 4 64 (xs.map encBi)])] (ysB xs) := by
  refine Iter_of T_ok mixed (N := 19) Try.func192 rfl rfl rfl (by rfl) fun F n Z hE hF l C X hC hX hy => ?_
  refine CW_seq ?_
  refine CW_region ?_
  refine OW_run' hE.ok 4 rfl ?_
  refine OW_know (know_sl (d := 4) rfl) fun hlen => ?_
  rw [List.length_map] at hlen
  refine OW_end rfl ?_
  refine CW_block ?_
  refine CW_loop (σ := {i : Nat // i ≤ xs.length}) (fun i => ⟨C i.1, (sset (sset (sset noSlots 0 (.d (.fn (.yield l) [] []))) 1 (.d (.iptr [.sl 4 64 (xs.map encBi)]))) 3 (.d (int (((xs.length : Nat) : Int) - 1 - ((i.1 : Nat) : Int))))), noHeap⟩) (fun i => xs.length - i.1) ⟨0, Nat.zero_le _⟩ (LE_sh (slh_set (slh_set (slh_set (slh_no _ _) rfl rfl) rfl rfl) (by show AV.d (.lit (.int .i64 (IntKind.i64.wrap (((xs.map encBi).length : Int) - 1)))) = _; rw [List.length_map, wrap_id _ _ (by have : IntKind.i64.min = -9223372036854775808 := rfl; omega) (by have : IntKind.i64.max = 9223372036854775807 := rfl; omega)]; exact congrArg (fun z => AV.d (int z)) (by show ((xs.length : Nat) : Int) - 1 = ((xs.length : Nat) : Int) - 1 - ((0 : Nat) : Int); omega)) rfl) (hlh_no _ _)) fun ⟨i, hi⟩ => ?_
  refine CW_seq ?_
  refine CW_seq ?_
  refine CW_region ?_
  refine OW_run' hE.ok 2 rfl ?_
  refine OW_end rfl ?_
  refine CW_cond _ rfl (fun h1 => ?_) (fun h1 => ?_)
  · skip
    have hlt : i < xs.length := by have := h1; simp at this; omega
    obtain ⟨a, ha⟩ : ∃ a, xs[xs.length - 1 - i]? = some a := ⟨_, List.getElem?_eq_getElem (by omega)⟩
    obtain ⟨bal, bty, bts, bvals, rfl⟩ := Bi.shape a
    refine CW_skip ?_
    refine CW_seq ?_
    refine CW_block ?_
    refine CW_seq ?_
    refine CW_as' 3 (.d (int ((xs.length - 1 - i : Nat) : Int))) (congrArg (fun z => AV.d (int z)) (by show ((xs.length : Nat) : Int) - 1 - ((i : Nat) : Int) = ((xs.length - 1 - i : Nat) : Int); omega)) ?_
    refine CW_region ?_
    refine OW_run' hE.ok 4 rfl ?_
    refine OW_loc' hE (loc_indexAddr hE rfl rfl rfl rfl rfl (by omega) (x := encBi ⟨bal, ⟨bty, bts, bvals⟩⟩) (by simp [ha])) rfl rfl rfl ?_
    refine OW_run' hE.ok 1 rfl ?_
    refine OW_yield' hE hy hC hX (Wrap.id _) (i) rfl rfl rfl rfl rfl rfl (ysB_get hlt ha) rfl rfl rfl ?_ ?_
    · skip
      refine OW_run' hE.ok 1 rfl ?_
      refine OW_end rfl ?_
      refine CW_false rfl ?_
      refine CW_skip ?_
      refine CW_region ?_
      refine OW_run' hE.ok 3 rfl ?_
      refine OW_end rfl ?_
      exact ⟨⟨i + 1, by omega⟩, LE_sh (slh_set (slh_set (slh_set (slh_no _ _) rfl rfl) rfl rfl) (by show AV.d (.lit (.int .i64 (IntKind.i64.wrap (((xs.length - 1 - i : Nat) : Int) - 1)))) = AV.d (int (((xs.length : Nat) : Int) - 1 - ((i + 1 : Nat) : Int))); rw [wrap_id _ _ (by have : IntKind.i64.min = -9223372036854775808 := rfl; omega) (by have : IntKind.i64.max = 9223372036854775807 := rfl; omega)]; exact congrArg (fun z => AV.d (int z)) (by omega)) rfl) (hlh_no _ _), by show xs.length - (i + 1) < xs.length - i; omega⟩
    · skip
      refine OW_run' hE.ok 1 rfl ?_
      refine OW_end rfl ?_
      refine CW_true rfl ?_
      exact CW_ret ⟨.inr rfl, .inr rfl, _, rfl⟩
  · skip
    have hge : ¬ i < xs.length := by have := h1; simp at this; omega
    refine CW_exit ?_
    have hN : i = (ysB xs).length := by rw [ysB_length]; omega
    show RetI _ _ _ _ .normal _
    exact ⟨.inl rfl, .inl (by show C i = _; rw [← hN]), _, rfl⟩

theorem backOk (xs : List Bi) : Does Try.prog 186 [.d (.sl 4 64 (xs.map encBi))] noHeap (.d (.fn (.func 192) [] [.iptr [.sl 4 64 (xs.map encBi)]])) := by
  refine Does_of T_ok mixed (N := 4) Try.func186 rfl rfl rfl (by rfl) fun F n Z hE hF J => ?_
  refine CW_seq ?_
  refine CW_region ?_
  refine OW_run' hE.ok 2 rfl ?_
  refine OW_end rfl ?_
  refine CW_seq ?_
  refine CW_region ?_
  refine OW_run' hE.ok 2 rfl ?_
  refine OW_end rfl ?_
  refine CW_ret ?_
  refine ⟨.inr rfl, rfl, ⟨_, rfl, rfl, ?_⟩, rfl⟩
  exact AVle.refl _

theorem fieldVOk (s : List Ty) (op : Int) (v : Vl) (al fi : ByteArray) (ks : List Exp) (l : List Bi) : Does Try.prog 176 [argS s, argX (.mk op v al fi ks), .d (.sl 4 64 (l.map encBi))] noHeap (.tup [argV (fieldV s l al fi).1, .d (errC 122 (fieldV s l al fi).2)]) := by
  refine Does_of T_ok mixed (N := 34) Try.func176 rfl rfl rfl (by rfl) fun F n Z hE hF J => ?_
  refine CW_seq ?_
  refine CW_region ?_
  refine OW_run' hE.ok 2 rfl ?_
  refine OW_alloc' hE 1 rfl rfl rfl rfl rfl rfl rfl ?_
  refine OW_alloc' hE 2 rfl rfl rfl rfl rfl rfl rfl ?_
  refine OW_end rfl ?_
  refine CW_seq ?_
  refine CW_seq ?_
  refine CW_region ?_
  refine OW_run' hE.ok 1 rfl ?_
  refine OW_call' hE (backOk l) rfl rfl rfl rfl rfl rfl rfl ?_
  refine OW_end rfl ?_
  refine CW_block ?_
  have hE0 := hE
  refine CW_rangeH hE hF (back1 l) rfl rfl rfl (ysB_kf l) rfl 9 (fun _ => (hset (hset noHeap 1 (some (.box 61 [.d (int 0), .d (int 0), .d (str nul)]))) 2 (some (.box 72 [.d (.lit .nilIface)]))))
    (fun i => ∀ j c, j < i → l.reverse[j]? = some c → same c.al al = false) rfl (fun _ => rfl) (fun j c hj => by omega) (fun F' n' Z' Br Bb hE hB vs i args hargs hp => ?_) (fun hp vs => ?_)
  · skip
    obtain ⟨b, hb, rfl⟩ := ysB_of hargs
    obtain ⟨bal, bty, bts, bvals, rfl⟩ := Bi.shape b
    refine CW_region ?_
    refine OW_alloc' hE 3 rfl rfl rfl rfl rfl rfl rfl ?_
    refine OW_store' hE rfl rfl rfl rfl rfl rfl rfl rfl rfl rfl rfl rfl ?_
    refine OW_end rfl ?_
    refine ⟨rfl, rfl, ?_⟩
    refine CW_block ?_
    refine CW_seq ?_
    refine CW_seq ?_
    refine CW_region ?_
    refine OW_run' hE.ok 5 rfl ?_
    refine OW_end rfl ?_
    refine CW_cond _ rfl (fun h1 => ?_) (fun h1 => ?_)
    · skip
      have g1 : same bal al = false := by have := h1; simpa [same] using this
      refine CW_exit ?_
      refine ⟨⟨Bb J, noSlots, (hset (hset (hset noHeap 1 (some (.box 61 [.d (int 0), .d (int 0), .d (str nul)]))) 2 (some (.box 72 [.d (.lit .nilIface)]))) 9 (some (.ghost _ vs)))⟩, LE_sh (slh_no _ _) (hlh_set (hlh_set (hlh_set (hlh_no _ _) rfl rfl) rfl rfl) rfl rfl), J, rfl, rfl, rfl, fun j c hj hc => ?_⟩
      by_cases hji : j = i
      · subst hji; rw [hb] at hc; cases hc; exact g1
      · exact hp j c (by omega) hc
    · skip
      have g1 : same bal al = true := by have := h1; simpa [same] using this
      refine CW_skip ?_
      refine CW_seq ?_
      refine CW_seq ?_
      refine CW_region ?_
      refine OW_run' hE.ok 5 rfl ?_
      refine OW_call' hE (getOk s ⟨bty, bts, bvals⟩ fi) rfl rfl rfl rfl rfl rfl rfl ?_
      refine OW_run' hE.ok 3 rfl ?_
      refine OW_alloc' hE 4 rfl rfl rfl rfl rfl rfl rfl ?_
      refine OW_store' hE rfl rfl rfl rfl rfl rfl rfl rfl rfl rfl rfl rfl ?_
      refine OW_run' hE.ok 1 rfl ?_
      refine OW_end rfl ?_
      refine CW_seq ?_
      refine CW_region ?_
      refine OW_run' hE.ok 1 rfl ?_
      refine OW_end rfl ?_
      refine CW_cond _ rfl (fun h2 => ?_) (fun h2 => ?_)
      · skip
        have g2 : (getV s ⟨bty, bts, bvals⟩ fi).2 = true := h2
        refine CW_seq ?_
        refine CW_region ?_
        refine OW_run' hE.ok 1 rfl ?_
        refine OW_store' hE rfl rfl rfl rfl rfl rfl rfl rfl rfl rfl rfl rfl ?_
        refine OW_store' hE rfl rfl rfl rfl rfl rfl rfl rfl rfl rfl rfl rfl ?_
        refine OW_end rfl ?_
        refine CW_ret ⟨_, LE.refl _ _, J, _, fun h => h, rfl, rfl, ?_⟩
        refine ⟨.inr rfl, rfl, ⟨_, rfl, rfl, ?_⟩, rfl⟩
        rw [fieldV_ok (lastB_some hb hp g1) g2]
        exact AVle.refl _
      · skip
        have g2 : (getV s ⟨bty, bts, bvals⟩ fi).2 = false := h2
        refine CW_skip ?_
        refine CW_exit ⟨_, LE.refl _ _, J, _, fun h => h, rfl, rfl, ?_⟩
        show CW _ _ _ _
        have hE := hE0
        refine CW_seq ?_
        refine CW_region ?_
        refine OW_build' hE rfl rfl rfl rfl rfl ?_
        refine OW_run' hE.ok 1 rfl ?_
        refine OW_store' hE rfl rfl rfl rfl rfl rfl rfl rfl rfl rfl rfl rfl ?_
        refine OW_store' hE rfl rfl rfl rfl rfl rfl rfl rfl rfl rfl rfl rfl ?_
        refine OW_end rfl ?_
        refine CW_ret ?_
        refine ⟨.inr rfl, rfl, ⟨_, rfl, rfl, ?_⟩, rfl⟩
        rw [fieldV_no (lastB_some hb hp g1) g2]
        exact AVle.refl _
  · skip
    rw [ysB_length] at hp
    refine CW_seq ?_
    refine CW_region ?_
    refine OW_build' hE rfl rfl rfl rfl rfl ?_
    refine OW_run' hE.ok 1 rfl ?_
    refine OW_store' hE rfl rfl rfl rfl rfl rfl rfl rfl rfl rfl rfl rfl ?_
    refine OW_store' hE rfl rfl rfl rfl rfl rfl rfl rfl rfl rfl rfl rfl ?_
    refine OW_end rfl ?_
    refine CW_ret ?_
    refine ⟨.inr rfl, rfl, ⟨_, rfl, rfl, ?_⟩, rfl⟩
    rw [fieldV_none (lastB_none hp)]
    exact AVle.refl _
end Go.Proofs.Ytojnicnbmgiplaa
namespace Go.Proofs.Ytojnicnbmgiplaa
open Go Go.AL
set_option linter.unusedVariables false
set_option linter.unusedSimpArgs false
set_option maxHeartbeats 4000000
theorem choiceStep (s : List Ty) (l : List Bi) (op : Int) (v : Vl) (al fi : ByteArray) (ks : List Exp) (ih : ∀ k ∈ ks, Does Try.prog 166 [argS s, argX k, .d (.sl 4 64 (l.map encBi))] noHeap (.tup [argV (evX s l k).1, .d (errC 122 (evX s l k).2)])) : Does Try.prog 177 [argS s, argX (.mk op v al fi ks), .d (.sl 4 64 (l.map encBi))] noHeap (.tup [argV (chX s l op ks nulV).1, .d (errC 122 (chX s l op ks nulV).2)]) := by
  refine Does_of T_ok mixed (N := 46) Try.func177 rfl rfl rfl (by rfl) fun F n Z hE hF J => ?_
  refine CW_seq ?_
  refine CW_region ?_
  refine OW_run' hE.ok 2 rfl ?_
  refine OW_alloc' hE 1 rfl rfl rfl rfl rfl rfl rfl ?_
  refine OW_run' hE.ok 1 rfl ?_
  refine OW_end rfl ?_
  refine CW_seq ?_
  refine CW_region ?_
  refine OW_alloc' hE 2 rfl rfl rfl rfl rfl rfl rfl ?_
  refine OW_end rfl ?_
  refine CW_seq ?_
  refine CW_seq ?_
  refine CW_region ?_
  refine OW_run' hE.ok 4 rfl ?_
  refine OW_end rfl ?_
  refine CW_block ?_
  refine CW_know (know_sl (d := 14) rfl) fun hlen => ?_
  rw [encXs_length] at hlen
  refine CW_loop (σ := {p : Nat × Vl // p.1 ≤ ks.length ∧ chX s l op ks nulV = chX s l op (ks.drop p.1) p.2}) (fun i => ⟨J, (sset (sset (sset (sset (sset (sset (sset (sset noSlots 2 (.d (.sl 4 64 (l.map encBi)))) 3 (.d (.iptr [encS s]))) 4 (.d (.iptr (encX (.mk op v al fi ks))))) 6 (.ptr 1 0)) 8 (.ptr 2 0)) 14 (.d (.sl 7 96 (encXs ks)))) 15 (.d (int ((ks.length : Nat) : Int)))) 16 (.d (int ((i.1.1 : Nat) : Int)))), (hset (hset noHeap 1 (some (.box 61 [.d (int 0), .d (int 0), .d (str nul)]))) 2 (some (.box 61 [.d (int i.1.2.k), .d (int i.1.2.n), .d (str i.1.2.s)])))⟩) (fun i => ks.length - i.1.1) ⟨(0, nulV), Nat.zero_le _, rfl⟩ (LE_sh (slh_set (slh_set (slh_set (slh_set (slh_set (slh_set (slh_set (slh_set (slh_no _ _) rfl rfl) rfl rfl) rfl rfl) rfl rfl) rfl rfl) rfl rfl) (by show AV.d (.lit (.int .i64 ((encXs ks).length : Int))) = _; rw [encXs_length]; rfl) rfl) rfl rfl) (hlh_set (hlh_set (hlh_no _ _) rfl rfl) rfl rfl)) fun ⟨⟨i, last⟩, hi, hp⟩ => ?_
  simp only at hi hp
  refine CW_seq ?_
  refine CW_region ?_
  refine OW_run' hE.ok 1 rfl ?_
  refine OW_end rfl ?_
  refine CW_seq ?_
  refine CW_cond _ rfl (fun h1 => ?_) (fun h1 => ?_)
  · skip
    have hlt : i < ks.length := by have := h1; simp at this; omega
    obtain ⟨k, hk⟩ : ∃ k, ks[i]? = some k := ⟨_, List.getElem?_eq_getElem hlt⟩
    have hcall := ih k (List.mem_of_getElem? hk)
    obtain ⟨r, hr⟩ : ∃ r, evX s l k = r := ⟨_, rfl⟩
    rw [hr] at hcall
    have hd := drop_get hk
    obtain ⟨o1, v1, c1, f1, k1, hkk⟩ := Exp.shape k
    rw [hkk] at hcall
    refine CW_skip ?_
    refine CW_seq ?_
    refine CW_block ?_
    refine CW_seq ?_
    refine CW_region ?_
    refine OW_loc' hE (loc_indexAddr hE rfl rfl rfl rfl rfl (by omega) (x := encX (.mk o1 v1 c1 f1 k1)) (encXs_get (by rw [← hkk]; simpa using hk))) rfl rfl rfl ?_
    refine OW_run' hE.ok 1 rfl ?_
    refine OW_alloc' hE 3 rfl rfl rfl rfl rfl rfl rfl ?_
    refine OW_store' hE rfl rfl rfl rfl rfl rfl rfl rfl rfl rfl rfl rfl ?_
    refine OW_end rfl ?_
    refine CW_cutE (fun _ : Unit => ⟨J, (sset (sset (sset (sset (sset (sset (sset (sset (sset (sset noSlots 2 (.d (.sl 4 64 (l.map encBi)))) 3 (.d (.iptr [encS s]))) 4 (.d (.iptr (encX (.mk op v al fi ks))))) 6 (.ptr 1 0)) 8 (.ptr 2 0)) 14 (.d (.sl 7 96 (encXs ks)))) 15 (.d (int ((ks.length : Nat) : Int)))) 16 (.d (int ((i : Nat) : Int)))) 11 (.ptr 4 0)) 12 (.d (errC 122 r.2))), (hset (hset (hset noHeap 1 (some (.box 61 [.d (int 0), .d (int 0), .d (str nul)]))) 2 (some (.box 61 [.d (int last.k), .d (int last.n), .d (str last.s)]))) 4 (some (.box 61 [.d (int r.1.k), .d (int r.1.n), .d (str r.1.s)])))⟩) (fun _ => True) ?_ ?_
    · skip
      refine CW_region ?_
      refine OW_run' hE.ok 3 rfl ?_
      refine OW_call' hE (hcall) rfl rfl rfl rfl rfl rfl rfl ?_
      refine OW_run' hE.ok 3 rfl ?_
      refine OW_alloc' hE 4 rfl rfl rfl rfl rfl rfl rfl ?_
      refine OW_store' hE rfl rfl rfl rfl rfl rfl rfl rfl rfl rfl rfl rfl ?_
      refine OW_run' hE.ok 1 rfl ?_
      refine OW_end rfl ?_
      exact ⟨(), trivial, LE_sh (slh_set (slh_set (slh_set (slh_set (slh_set (slh_set (slh_set (slh_set (slh_set (slh_set (slh_no _ _) rfl rfl) rfl rfl) rfl rfl) rfl rfl) rfl rfl) rfl rfl) rfl rfl) rfl rfl) rfl rfl) rfl rfl) (hlh_set (hlh_set (hlh_set (hlh_no _ _) rfl rfl) rfl rfl) rfl rfl)⟩
    · skip
      rintro _ _
      cases hz : (r.2 == 0)
      · skip
        rw [show errC 122 r.2 = errN 122 r.2 by unfold errC; rw [hz]; rfl]
        refine CW_seq ?_
        refine CW_seq ?_
        refine CW_region ?_
        refine OW_run' hE.ok 2 rfl ?_
        refine OW_end rfl ?_
        refine CW_true rfl ?_
        refine CW_seq ?_
        refine CW_region ?_
        refine OW_build' hE rfl rfl rfl rfl rfl ?_
        refine OW_run' hE.ok 1 rfl ?_
        refine OW_store' hE rfl rfl rfl rfl rfl rfl rfl rfl rfl rfl rfl rfl ?_
        refine OW_run' hE.ok 1 rfl ?_
        refine OW_end rfl ?_
        refine CW_ret ?_
        refine ⟨.inr rfl, rfl, ⟨_, rfl, rfl, ?_⟩, rfl⟩
        rw [hp, hd, chX_err (by rw [hr]; exact hz), hr]
        unfold errC; rw [hz]
        exact AVle.refl _
      · skip
        rw [show errC 122 r.2 = nilE by unfold errC; rw [hz]; rfl]
        refine CW_seq ?_
        refine CW_seq ?_
        refine CW_region ?_
        refine OW_run' hE.ok 2 rfl ?_
        refine OW_end rfl ?_
        refine CW_false rfl ?_
        refine CW_skip ?_
        refine CW_seq ?_
        refine CW_seq ?_
        refine CW_region ?_
        refine OW_run' hE.ok 3 rfl ?_
        refine OW_end rfl ?_
        refine CW_cond _ rfl (fun h2 => ?_) (fun h2 => ?_)
        · skip
          have g1 : (r.1.k != 3) = true := h2
          refine CW_seq ?_
          refine CW_region ?_
          refine OW_build' hE rfl rfl rfl rfl rfl ?_
          refine OW_run' hE.ok 1 rfl ?_
          refine OW_store' hE rfl rfl rfl rfl rfl rfl rfl rfl rfl rfl rfl rfl ?_
          refine OW_run' hE.ok 1 rfl ?_
          refine OW_end rfl ?_
          refine CW_ret ?_
          refine ⟨.inr rfl, rfl, ⟨_, rfl, rfl, ?_⟩, rfl⟩
          rw [hp, hd, chX_kind (by rw [hr]; exact hz) (by rw [hr]; exact g1)]
          exact AVle.refl _
        · skip
          have g1 : (r.1.k != 3) = false := h2
          refine CW_skip ?_
          refine CW_seq ?_
          refine CW_region ?_
          refine OW_run' hE.ok 1 rfl ?_
          refine OW_store' hE rfl rfl rfl rfl rfl rfl rfl rfl rfl rfl rfl rfl ?_
          refine OW_end rfl ?_
          refine CW_seq ?_
          refine CW_region ?_
          refine OW_run' hE.ok 7 rfl ?_
          refine OW_end rfl ?_
          refine CW_cond _ rfl (fun h3 => ?_) (fun h3 => ?_)
          · skip
            have g2 : ((r.1.n == 1) == (op == 11)) = true := h3
            refine CW_exit ?_
            show CW _ _ _ _
            refine CW_seq ?_
            refine CW_region ?_
            refine OW_run' hE.ok 1 rfl ?_
            refine OW_store' hE rfl rfl rfl rfl rfl rfl rfl rfl rfl rfl rfl rfl ?_
            refine OW_run' hE.ok 1 rfl ?_
            refine OW_end rfl ?_
            refine CW_ret ?_
            refine ⟨.inr rfl, rfl, ⟨_, rfl, rfl, ?_⟩, rfl⟩
            rw [hp, hd, chX_stop (by rw [hr]; exact hz) (by rw [hr]; exact g1) (by rw [hr]; exact g2), hr]
            exact AVle.refl _
          · skip
            have g2 : ((r.1.n == 1) == (op == 11)) = false := h3
            refine CW_skip ?_
            refine CW_region ?_
            refine OW_run' hE.ok 2 rfl ?_
            refine OW_end rfl ?_
            exact ⟨⟨(i + 1, r.1), by show i + 1 ≤ ks.length; omega, by show _ = chX s l op (ks.drop (i + 1)) r.1; rw [hp, hd, chX_next (by rw [hr]; exact hz) (by rw [hr]; exact g1) (by rw [hr]; exact g2), hr]⟩, LE_sh (slh_set (slh_set (slh_set (slh_set (slh_set (slh_set (slh_set (slh_set (slh_no _ _) rfl rfl) rfl rfl) rfl rfl) rfl rfl) rfl rfl) rfl rfl) rfl rfl) (by show AV.d (.lit (.int .i64 (IntKind.i64.wrap ((i : Int) + 1)))) = _; rw [wrap_succ (by omega)]; rfl) rfl) (hlh_set (hlh_set (hlh_no _ _) rfl rfl) rfl rfl), by show ks.length - (i + 1) < ks.length - i; omega⟩
  · skip
    have hge : ks.length ≤ i := by have := h1; simp at this; omega
    refine CW_exit ?_
    show CW _ _ _ _
    refine CW_seq ?_
    refine CW_region ?_
    refine OW_run' hE.ok 1 rfl ?_
    refine OW_store' hE rfl rfl rfl rfl rfl rfl rfl rfl rfl rfl rfl rfl ?_
    refine OW_run' hE.ok 1 rfl ?_
    refine OW_end rfl ?_
    refine CW_ret ?_
    refine ⟨.inr rfl, rfl, ⟨[.agg [.d (int last.k), .d (int last.n), .d (str last.s)], .d nilE], rfl, rfl, ?_⟩, rfl⟩
    have hfin : chX s l op ks nulV = (last, 0) := by rw [hp, List.drop_of_length_le hge]; unfold chX; rfl
    rw [hfin]
    exact AVle.refl _

theorem evalStep (s : List Ty) (l : List Bi) (op : Int) (v : Vl) (al fi : ByteArray) (ks : List Exp) (hwf : wfX (.mk op v al fi ks) = true) (ih : ∀ k ∈ ks, Does Try.prog 166 [argS s, argX k, .d (.sl 4 64 (l.map encBi))] noHeap (.tup [argV (evX s l k).1, .d (errC 122 (evX s l k).2)])) : Does Try.prog 166 [argS s, argX (.mk op v al fi ks), .d (.sl 4 64 (l.map encBi))] noHeap (.tup [argV (evX s l (.mk op v al fi ks)).1, .d (errC 122 (evX s l (.mk op v al fi ks)).2)]) := by
  refine Does_of T_ok mixed (N := 86) Try.func166 rfl rfl rfl (by rfl) fun F n Z hE hF J => ?_
  refine CW_seq ?_
  refine CW_region ?_
  refine OW_run' hE.ok 2 rfl ?_
  refine OW_alloc' hE 1 rfl rfl rfl rfl rfl rfl rfl ?_
  refine OW_run' hE.ok 1 rfl ?_
  refine OW_end rfl ?_
  refine CW_seq ?_
  refine CW_seq ?_
  refine CW_region ?_
  refine OW_run' hE.ok 2 rfl ?_
  refine OW_end rfl ?_
  refine CW_block ?_
  refine CW_seq ?_
  refine CW_region ?_
  refine OW_run' hE.ok 2 rfl ?_
  refine OW_end rfl ?_
  refine CW_cond _ rfl (fun h1 => ?_) (fun h1 => ?_)
  · skip
    have g1 : (op == 1) = true := h1
    refine CW_seq ?_
    refine CW_region ?_
    refine OW_run' hE.ok 2 rfl ?_
    refine OW_store' hE rfl rfl rfl rfl rfl rfl rfl rfl rfl rfl rfl rfl ?_
    refine OW_run' hE.ok 1 rfl ?_
    refine OW_end rfl ?_
    refine CW_ret ?_
    refine ⟨.inr rfl, rfl, ⟨_, rfl, rfl, ?_⟩, rfl⟩
    rw [evX_lit g1]
    exact AVle.refl _
  · skip
    have g1 : (op == 1) = false := h1
    refine CW_seq ?_
    refine CW_region ?_
    refine OW_run' hE.ok 2 rfl ?_
    refine OW_end rfl ?_
    refine CW_cond _ rfl (fun h2 => ?_) (fun h2 => ?_)
    · skip
      have g2 : (op == 2) = true := h2
      refine CW_seq ?_
      refine CW_region ?_
      refine OW_run' hE.ok 3 rfl ?_
      refine OW_call' hE (fieldVOk s op v al fi ks l) rfl rfl rfl rfl rfl rfl rfl ?_
      refine OW_run' hE.ok 2 rfl ?_
      refine OW_store' hE rfl rfl rfl rfl rfl rfl rfl rfl rfl rfl rfl rfl ?_
      refine OW_run' hE.ok 1 rfl ?_
      refine OW_end rfl ?_
      refine CW_ret ?_
      refine ⟨.inr rfl, rfl, ⟨_, rfl, rfl, ?_⟩, rfl⟩
      rw [evX_field g1 g2]
      exact AVle.refl _
    · skip
      have g2 : (op == 2) = false := h2
      refine CW_seq ?_
      refine CW_seq ?_
      refine CW_region ?_
      refine OW_run' hE.ok 2 rfl ?_
      refine OW_end rfl ?_
      refine CW_cond _ rfl (fun h3 => ?_) (fun h3 => ?_)
      · skip
        have g3 := h3
        refine CW_as' 27 (.d (boo true)) (congrArg (fun b => AV.d (boo b)) h3) ?_
        refine CW_skip ?_
        refine CW_true rfl ?_
        refine CW_seq ?_
        refine CW_region ?_
        refine OW_run' hE.ok 3 rfl ?_
        refine OW_call' hE (choiceStep s l op v al fi ks ih) rfl rfl rfl rfl rfl rfl rfl ?_
        refine OW_run' hE.ok 2 rfl ?_
        refine OW_store' hE rfl rfl rfl rfl rfl rfl rfl rfl rfl rfl rfl rfl ?_
        refine OW_run' hE.ok 1 rfl ?_
        refine OW_end rfl ?_
        refine CW_ret ?_
        refine ⟨.inr rfl, rfl, ⟨_, rfl, rfl, ?_⟩, rfl⟩
        rw [evX_choice g1 g2 (by rw [show (op == 10) = true from g3]; rfl)]
        exact AVle.refl _
      · skip
        first | have g4 : (op == 10) = false := h3 | have g6 : (op == 11) = false := h3
        refine CW_region ?_
        refine OW_run' hE.ok 2 rfl ?_
        refine OW_end rfl ?_
        refine CW_cond _ rfl (fun h4 => ?_) (fun h4 => ?_)
        · skip
          have g3 := h4
          refine CW_as' 27 (.d (boo true)) (congrArg (fun b => AV.d (boo b)) h4) ?_
          refine CW_seq ?_
          refine CW_region ?_
          refine OW_run' hE.ok 3 rfl ?_
          refine OW_call' hE (choiceStep s l op v al fi ks ih) rfl rfl rfl rfl rfl rfl rfl ?_
          refine OW_run' hE.ok 2 rfl ?_
          refine OW_store' hE rfl rfl rfl rfl rfl rfl rfl rfl rfl rfl rfl rfl ?_
          refine OW_run' hE.ok 1 rfl ?_
          refine OW_end rfl ?_
          refine CW_ret ?_
          refine ⟨.inr rfl, rfl, ⟨_, rfl, rfl, ?_⟩, rfl⟩
          rw [evX_choice g1 g2 (by rw [show (op == 11) = true from g3]; simp)]
          exact AVle.refl _
        · skip
          first | have g4 : (op == 10) = false := h4 | have g6 : (op == 11) = false := h4
          refine CW_skip ?_
          refine CW_seq ?_
          have g5 : (op == 10 || op == 11) = false := by rw [g4, g6]; rfl
          obtain ⟨w1, w2, w3, w4⟩ := wf_kids hwf
          have hops : op ≠ 12 → 3 ≤ op ∧ op ≤ 9 := by simp at g1 g2 g4 g6; omega
          refine CW_region ?_
          refine OW_run' hE.ok 1 rfl ?_
          refine OW.le (LE_nilSlot 8 50 61 3 rfl rfl) ?_
          refine OW_end rfl ?_
          refine CW_seq ?_
          refine CW_seq ?_
          refine CW_region ?_
          refine OW_run' hE.ok 4 rfl ?_
          refine OW_end rfl ?_
          refine CW_block ?_
          refine CW_know (know_sl (d := 37) rfl) fun hlen => ?_
          rw [encXs_length] at hlen
          refine CW_loop (σ := {i : Nat // i ≤ ks.length ∧ (evXs s l (ks.take i)).2 = 0}) (fun i => ⟨J, (sset (sset (sset (sset (sset (sset (sset (sset noSlots 2 (.d (.sl 4 64 (l.map encBi)))) 3 (.d (.iptr [encS s]))) 4 (.d (.iptr (encX (.mk op v al fi ks))))) 6 (.ptr 1 0)) 8 (.row 50)) 37 (.d (.sl 7 96 (encXs ks)))) 38 (.d (int ((ks.length : Nat) : Int)))) 39 (.d (int ((i.1 : Nat) : Int)))), (hset (hset noHeap 1 (some (.box 61 [.d (int 0), .d (int 0), .d (str nul)]))) 50 (some (.row 61 3 ((evXs s l (ks.take i.1)).1.map encV))))⟩) (fun i => ks.length - i.1) ⟨0, Nat.zero_le _, by simp [evXs]⟩ (LE_sh (slh_set (slh_set (slh_set (slh_set (slh_set (slh_set (slh_set (slh_set (slh_no _ _) rfl rfl) rfl rfl) rfl rfl) rfl rfl) rfl rfl) rfl rfl) (by show AV.d (.lit (.int .i64 ((encXs ks).length : Int))) = _; rw [encXs_length]; rfl) rfl) rfl rfl) (hlh_set (hlh_set (hlh_no _ _) rfl rfl) (congrArg (fun z => some (Ent.row 61 3 z)) (by simp [evXs])) rfl)) fun ⟨i, hi, hp⟩ => ?_
          refine CW_seq ?_
          refine CW_region ?_
          refine OW_run' hE.ok 1 rfl ?_
          refine OW_end rfl ?_
          refine CW_seq ?_
          refine CW_cond _ rfl (fun h5 => ?_) (fun h5 => ?_)
          · skip
            have hlt : i < ks.length := by have := h5; simp at this; omega
            obtain ⟨k, hk⟩ : ∃ k, ks[i]? = some k := ⟨_, List.getElem?_eq_getElem hlt⟩
            have hcall := ih k (List.mem_of_getElem? hk)
            obtain ⟨r, hr⟩ : ∃ r, evX s l k = r := ⟨_, rfl⟩
            rw [hr] at hcall
            have hd := drop_get hk
            obtain ⟨o1, v1, c1, f1, k1, hkk⟩ := Exp.shape k
            rw [hkk] at hcall
            have hvl : (evXs s l (ks.take i)).1.length = i := by rw [evXs_len hp, List.length_take]; omega
            refine CW_skip ?_
            refine CW_seq ?_
            refine CW_block ?_
            refine CW_seq ?_
            refine CW_region ?_
            refine OW_loc' hE (loc_indexAddr hE rfl rfl rfl rfl rfl (by omega) (x := encX (.mk o1 v1 c1 f1 k1)) (encXs_get (by rw [← hkk]; simpa using hk))) rfl rfl rfl ?_
            refine OW_run' hE.ok 1 rfl ?_
            refine OW_alloc' hE 2 rfl rfl rfl rfl rfl rfl rfl ?_
            refine OW_store' hE rfl rfl rfl rfl rfl rfl rfl rfl rfl rfl rfl rfl ?_
            refine OW_end rfl ?_
            refine CW_cutE (fun _ : Unit => ⟨J, (sset (sset (sset (sset (sset (sset (sset (sset (sset (sset noSlots 2 (.d (.sl 4 64 (l.map encBi)))) 3 (.d (.iptr [encS s]))) 4 (.d (.iptr (encX (.mk op v al fi ks))))) 6 (.ptr 1 0)) 8 (.row 50)) 37 (.d (.sl 7 96 (encXs ks)))) 38 (.d (int ((ks.length : Nat) : Int)))) 39 (.d (int ((i : Nat) : Int)))) 11 (.ptr 3 0)) 12 (.d (errC 122 r.2))), (hset (hset (hset noHeap 1 (some (.box 61 [.d (int 0), .d (int 0), .d (str nul)]))) 50 (some (.row 61 3 ((evXs s l (ks.take i)).1.map encV)))) 3 (some (.box 61 [.d (int r.1.k), .d (int r.1.n), .d (str r.1.s)])))⟩) (fun _ => True) ?_ ?_
            · skip
              refine CW_region ?_
              refine OW_run' hE.ok 3 rfl ?_
              refine OW_call' hE (hcall) rfl rfl rfl rfl rfl rfl rfl ?_
              refine OW_run' hE.ok 3 rfl ?_
              refine OW_alloc' hE 3 rfl rfl rfl rfl rfl rfl rfl ?_
              refine OW_store' hE rfl rfl rfl rfl rfl rfl rfl rfl rfl rfl rfl rfl ?_
              refine OW_run' hE.ok 1 rfl ?_
              refine OW_end rfl ?_
              exact ⟨(), trivial, LE_sh (slh_set (slh_set (slh_set (slh_set (slh_set (slh_set (slh_set (slh_set (slh_set (slh_set (slh_no _ _) rfl rfl) rfl rfl) rfl rfl) rfl rfl) rfl rfl) rfl rfl) rfl rfl) rfl rfl) rfl rfl) rfl rfl) (hlh_set (hlh_set (hlh_set (hlh_no _ _) rfl rfl) rfl rfl) rfl rfl)⟩
            · skip
              rintro _ _
              cases hz : (r.2 == 0)
              · skip
                rw [show errC 122 r.2 = errN 122 r.2 by unfold errC; rw [hz]; rfl]
                refine CW_seq ?_
                refine CW_seq ?_
                refine CW_region ?_
                refine OW_run' hE.ok 2 rfl ?_
                refine OW_end rfl ?_
                refine CW_true rfl ?_
                refine CW_seq ?_
                refine CW_region ?_
                refine OW_build' hE rfl rfl rfl rfl rfl ?_
                refine OW_run' hE.ok 1 rfl ?_
                refine OW_store' hE rfl rfl rfl rfl rfl rfl rfl rfl rfl rfl rfl rfl ?_
                refine OW_run' hE.ok 1 rfl ?_
                refine OW_end rfl ?_
                refine CW_ret ?_
                refine ⟨.inr rfl, rfl, ⟨_, rfl, rfl, ?_⟩, rfl⟩
                rw [evX_err g1 g2 g5 (by rw [evXs_err hk hp (by rw [hr]; exact hz), hr]; exact hz), evXs_err hk hp (by rw [hr]; exact hz), hr]
                unfold errC; rw [hz]
                exact AVle.refl _
              · skip
                rw [show errC 122 r.2 = nilE by unfold errC; rw [hz]; rfl]
                refine CW_seq ?_
                refine CW_seq ?_
                refine CW_region ?_
                refine OW_run' hE.ok 2 rfl ?_
                refine OW_end rfl ?_
                refine CW_false rfl ?_
                refine CW_skip ?_
                refine CW_region ?_
                refine OW_run' hE.ok 2 rfl ?_
                refine OW_lits' hE rfl rfl rfl rfl rfl rfl rfl rfl rfl rfl rfl rfl ?_
                refine OW_append' hE (key := 50) rfl rfl rfl rfl rfl rfl rfl rfl (.inl rfl) (by simp [hvl]; omega) (by simp [hvl]; omega) rfl ?_
                refine OW_run' hE.ok 1 rfl ?_
                refine OW_end rfl ?_
                refine CW_region ?_
                refine OW_run' hE.ok 2 rfl ?_
                refine OW_end rfl ?_
                have hsn := evXs_snoc (s := s) (l := l) hk hp (by rw [hr]; exact hz)
                rw [hr] at hsn
                exact ⟨⟨i + 1, by omega, by rw [hsn]⟩, LE_sh (slh_set (slh_set (slh_set (slh_set (slh_set (slh_set (slh_set (slh_set (slh_no _ _) rfl rfl) rfl rfl) rfl rfl) rfl rfl) rfl rfl) rfl rfl) rfl rfl) (by show AV.d (.lit (.int .i64 (IntKind.i64.wrap ((i : Int) + 1)))) = _; rw [wrap_succ (by omega)]; rfl) rfl) (hlh_set (hlh_set (hlh_no _ _) rfl rfl) (congrArg (fun z => some (Ent.row 61 3 z)) (by rw [hsn, List.map_append]; rfl)) rfl), by show ks.length - (i + 1) < ks.length - i; omega⟩
          · skip
            have hge : ks.length ≤ i := by have := h5; simp at this; omega
            have hall : (evXs s l ks).2 = 0 := by rw [List.take_of_length_le hge] at hp; exact hp
            have hvl : (evXs s l (ks.take i)).1.length = ks.length := by rw [evXs_len hp, List.length_take]; omega
            refine CW_exit ?_
            show CW _ _ _ _
            refine CW_seq ?_
            refine CW_seq ?_
            refine CW.le (LE_freeze 50 32 rfl (by simp [hvl]; omega)) ?_
            refine CW.le (show LE _ _ ⟨J, (sset (sset (sset noSlots 4 (.d (.iptr (encX (.mk op v al fi ks))))) 6 (.ptr 1 0)) 8 (.d (.sl 3 32 ((evXs s l ks).1.map encV)))), (hset noHeap 1 (some (.box 61 [.d (int 0), .d (int 0), .d (str nul)])))⟩ from LE_sh (slh_set (slh_set (slh_set (slh_no _ _) rfl rfl) rfl rfl) (congrArg (fun z : List Exp => AV.d (.sl 3 32 ((evXs s l z).1.map encV))) (List.take_of_length_le hge)) rfl) (hlh_set (hlh_no _ _) rfl rfl)) ?_
            obtain ⟨vs0, hvs⟩ : ∃ vs0, (evXs s l ks).1 = vs0 := ⟨_, rfl⟩
            have hv0 : vs0.length = ks.length := by rw [← hvs]; exact evXs_len hall
            rw [hvs]
            refine CW_region ?_
            refine OW_run' hE.ok 3 rfl ?_
            refine OW_end rfl ?_
            refine CW_cond _ rfl (fun h6 => ?_) (fun h6 => ?_)
            · skip
              have g7 : (op == 12) = true := h6
              obtain ⟨a, rfl⟩ : ∃ a, vs0 = [a] := by (have : op = 12 := by simpa using g7); rw [this] at w3; exact List.length_eq_one_iff.1 (by have h1 : kidsN 12 = 1 := rfl; omega)
              refine CW_seq ?_
              refine CW_seq ?_
              refine CW_region ?_
              refine OW_run' hE.ok 1 rfl ?_
              refine OW_loc' hE (loc_indexAddr hE rfl rfl rfl rfl rfl (by omega) (x := encV a) rfl) rfl rfl rfl ?_
              refine OW_run' hE.ok 3 rfl ?_
              refine OW_end rfl ?_
              refine CW_cond _ rfl (fun h7 => ?_) (fun h7 => ?_)
              · skip
                have g8 : (a.k == 3) = false := by have := h7; simpa using this
                refine CW_seq ?_
                refine CW_region ?_
                refine OW_build' hE rfl rfl rfl rfl rfl ?_
                refine OW_run' hE.ok 1 rfl ?_
                refine OW_store' hE rfl rfl rfl rfl rfl rfl rfl rfl rfl rfl rfl rfl ?_
                refine OW_run' hE.ok 1 rfl ?_
                refine OW_end rfl ?_
                refine CW_ret ?_
                refine ⟨.inr rfl, rfl, ⟨_, rfl, rfl, ?_⟩, rfl⟩
                rw [evX_fin g1 g2 g5 hall, hvs, show finX op [a] = (nulV, 14) by unfold finX; rw [g7]; show (bif a.k == 3 then _ else _) = _; rw [g8]; rfl]
                exact AVle.refl _
              · skip
                have g8 : (a.k == 3) = true := by have := h7; simpa using this
                refine CW_skip ?_
                refine CW_seq ?_
                refine CW_region ?_
                refine OW_run' hE.ok 1 rfl ?_
                refine OW_loc' hE (loc_indexAddr hE rfl rfl rfl rfl rfl (by omega) (x := encV a) rfl) rfl rfl rfl ?_
                refine OW_run' hE.ok 3 rfl ?_
                refine OW_call' hE (truthOk (a.n == 0)) rfl rfl rfl rfl rfl rfl rfl ?_
                refine OW_store' hE rfl rfl rfl rfl rfl rfl rfl rfl rfl rfl rfl rfl ?_
                refine OW_run' hE.ok 1 rfl ?_
                refine OW_end rfl ?_
                refine CW_ret ?_
                refine ⟨.inr rfl, rfl, ⟨_, rfl, rfl, ?_⟩, rfl⟩
                rw [evX_fin g1 g2 g5 hall, hvs, show finX op [a] = (truthV (a.n == 0), 0) by unfold finX; rw [g7]; show (bif a.k == 3 then _ else _) = _; rw [g8]; rfl]
                exact AVle.refl _
            · skip
              have g7 : (op == 12) = false := h6
              obtain ⟨a, b, rfl⟩ : ∃ a b, vs0 = [a, b] := len_two (by have h2 := kidsN_two (hops (by simpa using g7)); omega)
              refine CW_skip ?_
              refine CW_seq ?_
              refine CW_drawn' hE 11 (by decide +kernel) ?_
              refine HW_run hE 3 rfl rfl ?_
              refine HW_loc hE (loc_indexAddr hE rfl rfl rfl rfl rfl (by omega) (x := encV a) rfl) rfl rfl rfl rfl ?_
              refine HW_run hE 2 rfl rfl ?_
              refine HW_loc hE (loc_indexAddr hE rfl rfl rfl rfl rfl (by omega) (x := encV b) rfl) rfl rfl rfl rfl ?_
              refine HW_run hE 1 rfl rfl ?_
              refine HW_call hE (pairOk op a b) rfl rfl rfl rfl rfl rfl rfl rfl ?_
              refine HW_run hE 2 rfl rfl ?_
              refine HW_end ?_
              refine OW_store' hE rfl rfl rfl rfl rfl rfl rfl rfl rfl rfl rfl rfl ?_
              refine OW_run' hE.ok 1 rfl ?_
              refine OW_end rfl ?_
              refine CW_ret ?_
              refine ⟨.inr rfl, rfl, ⟨_, rfl, rfl, ?_⟩, rfl⟩
              rw [evX_fin g1 g2 g5 hall, hvs, show finX op [a, b] = pairX op a b by unfold finX; rw [g7]; rfl]
              exact AVle.refl _

theorem evalAll (s : List Ty) (l : List Bi) : ∀ (n : Nat) (x : Exp), SizeOf.sizeOf x < n → wfX x = true → Does Try.prog 166 [argS s, argX x, .d (.sl 4 64 (l.map encBi))] noHeap (.tup [argV (evX s l x).1, .d (errC 122 (evX s l x).2)])
  | 0, x, h => by omega
  | n + 1, .mk op v al fi ks, h => fun hw => evalStep s l op v al fi ks hw fun k hk => evalAll s l n k (by have := List.sizeOf_lt_of_mem hk; simp at h; omega) ((wf_kids hw).2.2.2 k hk)
theorem evOk (s : List Ty) (l : List Bi) (x : Exp) (hw : wfX x = true) : Does Try.prog 166 [argS s, argX x, .d (.sl 4 64 (l.map encBi))] noHeap (.tup [argV (evX s l x).1, .d (errC 122 (evX s l x).2)]) := evalAll s l _ x (Nat.lt_succ_self _) hw

theorem evalOk (s : List Ty) (x : Exp) (l : List Bi) : Does Try.prog 149 [argS s, argX x, .d (.sl 4 64 (l.map encBi))] noHeap (.tup [argV (evalX s l x).1, .d (errC 122 (evalX s l x).2)]) := by
  refine Does_of T_ok mixed (N := 19) Try.func149 rfl rfl rfl (by rfl) fun F n Z hE hF J => ?_
  have hix := isXOk x
  obtain ⟨o1, v1, c1, f1, k1, rfl⟩ := Exp.shape x
  have hev := evOk s l (.mk o1 v1 c1 f1 k1)
  refine CW_seq ?_
  refine CW_region ?_
  refine OW_run' hE.ok 2 rfl ?_
  refine OW_alloc' hE 1 rfl rfl rfl rfl rfl rfl rfl ?_
  refine OW_run' hE.ok 1 rfl ?_
  refine OW_end rfl ?_
  refine CW_seq ?_
  refine CW_seq ?_
  refine CW_region ?_
  refine OW_run' hE.ok 1 rfl ?_
  refine OW_call' hE (hix) rfl rfl rfl rfl rfl rfl rfl ?_
  refine OW_run' hE.ok 1 rfl ?_
  refine OW_end rfl ?_
  refine CW_cond _ rfl (fun h1 => ?_) (fun h1 => ?_)
  · skip
    have g : isX (.mk o1 v1 c1 f1 k1) = false := by have := h1; simpa using this
    refine CW_seq ?_
    refine CW_region ?_
    refine OW_build' hE rfl rfl rfl rfl rfl ?_
    refine OW_run' hE.ok 1 rfl ?_
    refine OW_store' hE rfl rfl rfl rfl rfl rfl rfl rfl rfl rfl rfl rfl ?_
    refine OW_run' hE.ok 1 rfl ?_
    refine OW_end rfl ?_
    refine CW_ret ?_
    refine ⟨.inr rfl, rfl, ⟨_, rfl, rfl, ?_⟩, rfl⟩
    rw [show evalX s l (.mk o1 v1 c1 f1 k1) = (nulV, 10) by unfold evalX; rw [g]; rfl]
    exact AVle.refl _
  · skip
    have g : isX (.mk o1 v1 c1 f1 k1) = true := by have := h1; simpa using this
    refine CW_skip ?_
    refine CW_seq ?_
    refine CW_region ?_
    refine OW_run' hE.ok 3 rfl ?_
    refine OW_call' hE (hev (wf_isX g)) rfl rfl rfl rfl rfl rfl rfl ?_
    refine OW_run' hE.ok 2 rfl ?_
    refine OW_store' hE rfl rfl rfl rfl rfl rfl rfl rfl rfl rfl rfl rfl ?_
    refine OW_run' hE.ok 1 rfl ?_
    refine OW_end rfl ?_
    refine CW_ret ?_
    refine ⟨.inr rfl, rfl, ⟨_, rfl, rfl, ?_⟩, rfl⟩
    rw [show evalX s l (.mk o1 v1 c1 f1 k1) = evX s l (.mk o1 v1 c1 f1 k1) by unfold evalX; rw [g]; rfl]
    exact AVle.refl _
end Go.Proofs.Ytojnicnbmgiplaa
namespace Go.Proofs.Ytojnicnbmgiplaa
open Go Go.AL
set_option linter.unusedVariables false
set_option linter.unusedSimpArgs false
set_option maxHeartbeats 4000000
theorem holdsOk (s : List Ty) (x : Exp) (l : List Bi) : Does Try.prog 119 [argS s, argX x, .d (.sl 4 64 (l.map encBi))] noHeap (.d (boo (holdsX s l x))) := by
  refine Does_of T_ok mixed (N := 26) Try.func119 rfl rfl rfl (by rfl) fun F n Z hE hF J => ?_
  have hs := sameXOk x zeroX
  have he := evalOk s x l
  obtain ⟨r, hr⟩ : ∃ r, evalX s l x = r := ⟨_, rfl⟩
  rw [hr] at he
  have hh : holdsX s l x = (sameX x zeroX || (r.2 == 0 && sameV r.1 (truthV true))) := by unfold holdsX; rw [hr]
  rw [hh]
  clear hh hr
  obtain ⟨o1, v1, c1, f1, k1, rfl⟩ := Exp.shape x
  obtain ⟨sm, hsm⟩ : ∃ sm, sameX (.mk o1 v1 c1 f1 k1) zeroX = sm := ⟨_, rfl⟩
  rw [hsm] at hs
  rw [hsm]
  refine CW_seq ?_
  refine CW_region ?_
  refine OW_run' hE.ok 3 rfl ?_
  refine OW_end rfl ?_
  refine CW_seq ?_
  refine CW_seq ?_
  refine CW_region ?_
  refine OW_run' hE.ok 1 rfl ?_
  refine OW_build' hE rfl rfl rfl rfl rfl ?_
  refine OW.le (LE_slot 10 (argX zeroX) nilX_le) ?_
  refine OW_call' hE (hs) rfl rfl rfl rfl rfl rfl rfl ?_
  refine OW_end rfl ?_
  refine CW_cond _ rfl (fun h1 => ?_) (fun h1 => ?_)
  · skip
    have g1 : sm = true := h1
    refine CW_seq ?_
    refine CW_region ?_
    refine OW_run' hE.ok 1 rfl ?_
    refine OW_end rfl ?_
    refine CW_ret ?_
    refine ⟨.inr rfl, rfl, ⟨[.d (boo true)], rfl, rfl, ?_⟩, rfl⟩
    exact AVle.of (congrArg (fun b => AV.d (boo b)) (by rw [g1]; rfl))
  · skip
    have g1 : sm = false := h1
    refine CW_skip ?_
    refine CW_cutE (fun _ : Unit => ⟨J, (sset (sset noSlots 7 (.ptr 1 0)) 8 (.d (errC 122 r.2))), (hset noHeap 1 (some (.box 61 ((encV r.1).map .d))))⟩) (fun _ => True) ?_ ?_
    · skip
      refine CW_region ?_
      refine OW_run' hE.ok 3 rfl ?_
      refine OW_call' hE (he) rfl rfl rfl rfl rfl rfl rfl ?_
      refine OW_run' hE.ok 3 rfl ?_
      refine OW_alloc' hE 1 rfl rfl rfl rfl rfl rfl rfl ?_
      refine OW_store' hE rfl rfl rfl rfl rfl rfl rfl rfl rfl rfl rfl rfl ?_
      refine OW_run' hE.ok 1 rfl ?_
      refine OW_end rfl ?_
      exact ⟨(), trivial, LE_sh (slh_set (v := .d (errC 122 r.2)) (slh_set (v := .ptr 1 0) (slh_no _ _) (by rfl) rfl) (by rfl) rfl) (hlh_set (hlh_no _ _) rfl rfl)⟩
    · skip
      rintro _ _
      cases hz : (r.2 == 0)
      · skip
        rw [show errC 122 r.2 = errN 122 r.2 by unfold errC; rw [hz]; rfl]
        refine CW_seq ?_
        refine CW_drawn' hE 5 (by decide +kernel) ?_
        refine HW_run hE 5 rfl rfl ?_
        refine HW_end ?_
        refine OW_run' hE.ok 3 rfl ?_
        refine OW_end rfl ?_
        refine CW_ret ?_
        refine ⟨.inr rfl, rfl, ⟨[.d (boo false)], rfl, rfl, ?_⟩, rfl⟩
        exact AVle.of (congrArg (fun b => AV.d (boo b)) (by rw [g1]; rfl))
      · skip
        rw [show errC 122 r.2 = nilE by unfold errC; rw [hz]; rfl]
        refine CW_seq ?_
        refine CW_drawn' hE 5 (by decide +kernel) ?_
        refine HW_run hE 4 rfl rfl ?_
        refine HW_call hE (truthOk true) rfl rfl rfl rfl rfl rfl rfl rfl ?_
        refine HW_end ?_
        refine OW_loc' hE (loc_eql rfl rfl rfl (r := sameV r.1 (truthV true)) (eqLaw_flat T_ok (t := 61) rfl (by decide +kernel) rfl (X := encV r.1) (Y := encV (truthV true)) rfl rfl rfl)) rfl rfl rfl ?_
        refine OW_run' hE.ok 2 rfl ?_
        refine OW_end rfl ?_
        refine CW_ret ?_
        refine ⟨.inr rfl, rfl, ⟨[.d (boo (sameV r.1 (truthV true)))], rfl, rfl, ?_⟩, rfl⟩
        exact AVle.of (congrArg (fun b => AV.d (boo b)) (by rw [g1]; simp))
end Go.Proofs.Ytojnicnbmgiplaa
