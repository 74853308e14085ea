/- Parts of an abstract logic over the kit's walks, and walks in it: N4d. -/
import Derived.Test.YthffbfjnahipcaaN4a
import Derived.Test.YthffbfjnahipcaaMean5
namespace Go.Proofs.Ythffbfjnahipcaa
open Go Go.AL
set_option linter.unusedVariables false
set_option linter.unusedSimpArgs false
set_option maxHeartbeats 4000000
theorem refOverOk (op a b : Int) : Does Try.prog 101 [.d (int op), .d (int a), .d (int b)] noHeap (.tup [.d (int (refOver op a b).1), .d (boo (refOver op a b).2)]) := by
  refine Does_of T_ok mixed (N := 68) Try.func101 rfl rfl rfl (by rfl) fun F n Z hE hF J => ?_
  refine CW_seq ?_
  refine CW_region ?_
  refine OW_run' hE.ok 2 rfl ?_
  refine OW_end rfl ?_
  refine CW_seq ?_
  refine CW_seq ?_
  refine CW_region ?_
  refine OW_run' hE.ok 1 rfl ?_
  refine OW_end rfl ?_
  refine CW_block ?_
  refine CW_seq ?_
  refine CW_region ?_
  refine OW_run' hE.ok 2 rfl ?_
  refine OW_end rfl ?_
  refine CW_cond _ rfl (fun h1 => ?_) (fun h1 => ?_)
  · skip
    have k1 : (op == 3) = true := h1
    refine CW_seq ?_
    refine CW_region ?_
    refine OW_run' hE.ok 4 rfl ?_
    refine OW_end rfl ?_
    refine CW_seq ?_
    refine CW_region ?_
    refine OW_run' hE.ok 9 rfl ?_
    refine OW_end rfl ?_
    refine CW_ret ?_
    refine ⟨.inr rfl, rfl, ⟨[.d (int (IntKind.i64.wrap (a + b))), .d (boo (decide (b ≥ 0) == decide (IntKind.i64.wrap (a + b) ≥ a)))], rfl, rfl, ?_⟩, rfl⟩
    rw [show refOver op a b = (IntKind.i64.wrap (a + b), decide (b ≥ 0) == decide (IntKind.i64.wrap (a + b) ≥ a)) by unfold refOver wr minI; rw [k1]; rfl]
    exact AVle.refl _
  · skip
    have k1 : (op == 3) = false := h1
    refine CW_seq ?_
    refine CW_region ?_
    refine OW_run' hE.ok 2 rfl ?_
    refine OW_end rfl ?_
    refine CW_cond _ rfl (fun h2 => ?_) (fun h2 => ?_)
    · skip
      have k2 : (op == 4) = true := h2
      refine CW_seq ?_
      refine CW_region ?_
      refine OW_run' hE.ok 4 rfl ?_
      refine OW_end rfl ?_
      refine CW_seq ?_
      refine CW_region ?_
      refine OW_run' hE.ok 9 rfl ?_
      refine OW_end rfl ?_
      refine CW_ret ?_
      refine ⟨.inr rfl, rfl, ⟨[.d (int (IntKind.i64.wrap (a - b))), .d (boo (decide (b ≥ 0) == decide (IntKind.i64.wrap (a - b) ≤ a)))], rfl, rfl, ?_⟩, rfl⟩
      rw [show refOver op a b = (IntKind.i64.wrap (a - b), decide (b ≥ 0) == decide (IntKind.i64.wrap (a - b) ≤ a)) by unfold refOver wr minI; rw [k1, k2]; rfl]
      exact AVle.refl _
    · skip
      have k2 : (op == 4) = false := h2
      refine CW_skip ?_
      refine CW_seq ?_
      refine CW_seq ?_
      refine CW_region ?_
      refine OW_run' hE.ok 3 rfl ?_
      refine OW_split' 39 rfl (fun h3 => ?_) (fun h3 => ?_)
      · skip
        have g1 : (a == 0) = true := h3
        refine OW_run' hE.ok 3 rfl ?_
        refine OW_end rfl ?_
        refine CW_true rfl ?_
        refine CW_seq ?_
        refine CW_region ?_
        refine OW_run' hE.ok 2 rfl ?_
        refine OW_end rfl ?_
        refine CW_ret ?_
        refine ⟨.inr rfl, rfl, ⟨[.d (int (0)), .d (boo (true))], rfl, rfl, ?_⟩, rfl⟩
        rw [show refOver op a b = (0, true) by unfold refOver wr minI; rw [k1, k2, g1]; rfl]
        exact AVle.refl _
      · skip
        have g1 : (a == 0) = false := h3
        refine OW_run' hE.ok 3 rfl ?_
        refine OW_end rfl ?_
        refine CW_cond _ rfl (fun h4 => ?_) (fun h4 => ?_)
        · skip
          have g2 : (b == 0) = true := h4
          refine CW_seq ?_
          refine CW_region ?_
          refine OW_run' hE.ok 2 rfl ?_
          refine OW_end rfl ?_
          refine CW_ret ?_
          refine ⟨.inr rfl, rfl, ⟨[.d (int (0)), .d (boo (true))], rfl, rfl, ?_⟩, rfl⟩
          rw [show refOver op a b = (0, true) by unfold refOver wr minI; rw [k1, k2, g1, g2]; rfl]
          exact AVle.refl _
        · skip
          have g2 : (b == 0) = false := h4
          refine CW_skip ?_
          refine CW_seq ?_
          refine CW_region ?_
          refine OW_run' hE.ok 1 rfl ?_
          refine OW_end rfl ?_
          refine CW_seq ?_
          refine CW_seq ?_
          refine CW_region ?_
          refine OW_run' hE.ok 3 rfl ?_
          refine OW_split' 45 rfl (fun h5 => ?_) (fun h5 => ?_)
          · skip
            have g3 : (a == -1) = true := h5
            refine OW_run' hE.ok 5 rfl ?_
            refine OW_split' 50 rfl (fun h6 => ?_) (fun h6 => ?_)
            · skip
              have g4 : (b == -9223372036854775808) = true := h6
              refine OW_run' hE.ok 8 rfl ?_
              refine OW_end rfl ?_
              refine CW_true rfl ?_
              refine CW_seq ?_
              refine CW_region ?_
              refine OW_run' hE.ok 2 rfl ?_
              refine OW_end rfl ?_
              refine CW_ret ?_
              refine ⟨.inr rfl, rfl, ⟨[.d (int (0)), .d (boo (false))], rfl, rfl, ?_⟩, rfl⟩
              rw [show refOver op a b = (0, false) by unfold refOver wr minI; rw [k1, k2, g1, g2, g3, g4]; rfl]
              exact AVle.refl _
            · skip
              have g4 : (b == -9223372036854775808) = false := h6
              refine OW_run' hE.ok 3 rfl ?_
              refine OW_split' 53 rfl (fun h7 => ?_) (fun h7 => ?_)
              · skip
                have g5 : (b == -1) = true := h7
                refine OW_run' hE.ok 5 rfl ?_
                refine OW_end rfl ?_
                refine CW_cond _ rfl (fun h8 => ?_) (fun h8 => ?_)
                · skip
                  have g6 : (a == -9223372036854775808) = true := h8
                  refine CW_seq ?_
                  refine CW_region ?_
                  refine OW_run' hE.ok 2 rfl ?_
                  refine OW_end rfl ?_
                  refine CW_ret ?_
                  refine ⟨.inr rfl, rfl, ⟨[.d (int (0)), .d (boo (false))], rfl, rfl, ?_⟩, rfl⟩
                  rw [show refOver op a b = (0, false) by unfold refOver wr minI; rw [k1, k2, g1, g2, g3, g4, g5, g6]; rfl]
                  exact AVle.refl _
                · skip
                  have g6 : (a == -9223372036854775808) = false := h8
                  refine CW_skip ?_
                  refine CW_seq ?_
                  refine CW_region ?_
                  refine OW_run' hE.ok 4 rfl ?_
                  refine OW_end rfl ?_
                  refine CW_seq ?_
                  refine CW_drawn' hE 7 (by decide +kernel) ?_
                  refine HW_run hE 3 rfl rfl ?_
                  refine HW_loc hE (loc_quo hE rfl rfl rfl (by simpa using g2)) rfl rfl rfl rfl ?_
                  refine HW_run hE 3 rfl rfl ?_
                  refine HW_end ?_
                  refine OW_run' hE.ok 1 rfl ?_
                  refine OW_end rfl ?_
                  refine CW_ret ?_
                  refine ⟨.inr rfl, rfl, ⟨[.d (int (IntKind.i64.wrap (a * b))), .d (boo (IntKind.i64.wrap ((IntKind.i64.wrap (a * b)).tdiv b) == a))], rfl, rfl, ?_⟩, rfl⟩
                  rw [show refOver op a b = (IntKind.i64.wrap (a * b), IntKind.i64.wrap ((IntKind.i64.wrap (a * b)).tdiv b) == a) by unfold refOver wr minI; rw [k1, k2, g1, g2, g3, g4, g5, g6]; rfl]
                  exact AVle.refl _
              · skip
                have g5 : (b == -1) = false := h7
                refine OW_run' hE.ok 5 rfl ?_
                refine OW_end rfl ?_
                refine CW_false rfl ?_
                refine CW_skip ?_
                refine CW_seq ?_
                refine CW_region ?_
                refine OW_run' hE.ok 4 rfl ?_
                refine OW_end rfl ?_
                refine CW_seq ?_
                refine CW_drawn' hE 7 (by decide +kernel) ?_
                refine HW_run hE 3 rfl rfl ?_
                refine HW_loc hE (loc_quo hE rfl rfl rfl (by simpa using g2)) rfl rfl rfl rfl ?_
                refine HW_run hE 3 rfl rfl ?_
                refine HW_end ?_
                refine OW_run' hE.ok 1 rfl ?_
                refine OW_end rfl ?_
                refine CW_ret ?_
                refine ⟨.inr rfl, rfl, ⟨[.d (int (IntKind.i64.wrap (a * b))), .d (boo (IntKind.i64.wrap ((IntKind.i64.wrap (a * b)).tdiv b) == a))], rfl, rfl, ?_⟩, rfl⟩
                rw [show refOver op a b = (IntKind.i64.wrap (a * b), IntKind.i64.wrap ((IntKind.i64.wrap (a * b)).tdiv b) == a) by unfold refOver wr minI; rw [k1, k2, g1, g2, g3, g4, g5]; rfl]
                exact AVle.refl _
          · skip
            have g3 : (a == -1) = false := h5
            refine OW_run' hE.ok 8 rfl ?_
            refine OW_split' 53 rfl (fun h9 => ?_) (fun h9 => ?_)
            · skip
              have g5 : (b == -1) = true := h9
              refine OW_run' hE.ok 5 rfl ?_
              refine OW_end rfl ?_
              refine CW_cond _ rfl (fun h10 => ?_) (fun h10 => ?_)
              · skip
                have g6 : (a == -9223372036854775808) = true := h10
                refine CW_seq ?_
                refine CW_region ?_
                refine OW_run' hE.ok 2 rfl ?_
                refine OW_end rfl ?_
                refine CW_ret ?_
                refine ⟨.inr rfl, rfl, ⟨[.d (int (0)), .d (boo (false))], rfl, rfl, ?_⟩, rfl⟩
                rw [show refOver op a b = (0, false) by unfold refOver wr minI; rw [k1, k2, g1, g2, g3, g5, g6]; rfl]
                exact AVle.refl _
              · skip
                have g6 : (a == -9223372036854775808) = false := h10
                refine CW_skip ?_
                refine CW_seq ?_
                refine CW_region ?_
                refine OW_run' hE.ok 4 rfl ?_
                refine OW_end rfl ?_
                refine CW_seq ?_
                refine CW_drawn' hE 7 (by decide +kernel) ?_
                refine HW_run hE 3 rfl rfl ?_
                refine HW_loc hE (loc_quo hE rfl rfl rfl (by simpa using g2)) rfl rfl rfl rfl ?_
                refine HW_run hE 3 rfl rfl ?_
                refine HW_end ?_
                refine OW_run' hE.ok 1 rfl ?_
                refine OW_end rfl ?_
                refine CW_ret ?_
                refine ⟨.inr rfl, rfl, ⟨[.d (int (IntKind.i64.wrap (a * b))), .d (boo (IntKind.i64.wrap ((IntKind.i64.wrap (a * b)).tdiv b) == a))], rfl, rfl, ?_⟩, rfl⟩
                rw [show refOver op a b = (IntKind.i64.wrap (a * b), IntKind.i64.wrap ((IntKind.i64.wrap (a * b)).tdiv b) == a) by unfold refOver wr minI; rw [k1, k2, g1, g2, g3, g5, g6]; rfl]
                exact AVle.refl _
            · skip
              have g5 : (b == -1) = false := h9
              refine OW_run' hE.ok 5 rfl ?_
              refine OW_end rfl ?_
              refine CW_false rfl ?_
              refine CW_skip ?_
              refine CW_seq ?_
              refine CW_region ?_
              refine OW_run' hE.ok 4 rfl ?_
              refine OW_end rfl ?_
              refine CW_seq ?_
              refine CW_drawn' hE 7 (by decide +kernel) ?_
              refine HW_run hE 3 rfl rfl ?_
              refine HW_loc hE (loc_quo hE rfl rfl rfl (by simpa using g2)) rfl rfl rfl rfl ?_
              refine HW_run hE 3 rfl rfl ?_
              refine HW_end ?_
              refine OW_run' hE.ok 1 rfl ?_
              refine OW_end rfl ?_
              refine CW_ret ?_
              refine ⟨.inr rfl, rfl, ⟨[.d (int (IntKind.i64.wrap (a * b))), .d (boo (IntKind.i64.wrap ((IntKind.i64.wrap (a * b)).tdiv b) == a))], rfl, rfl, ?_⟩, rfl⟩
              rw [show refOver op a b = (IntKind.i64.wrap (a * b), IntKind.i64.wrap ((IntKind.i64.wrap (a * b)).tdiv b) == a) by unfold refOver wr minI; rw [k1, k2, g1, g2, g3, g5]; rfl]
              exact AVle.refl _

theorem refTwoOk (op : Int) (a b : Vl) : Does Try.prog 95 [.d (int op), argV a, argV b] noHeap (.tup [argV (refTwo op a b).1, .d (int (refTwo op a b).2)]) := by
  refine Does_of T_ok mixed (N := 101) Try.func95 rfl rfl rfl (by rfl) fun F n Z hE hF J => ?_
  refine CW_seq ?_
  refine CW_region ?_
  refine OW_run' hE.ok 2 rfl ?_
  refine OW_alloc' hE 1 rfl rfl rfl rfl rfl rfl rfl ?_
  refine OW_run' hE.ok 1 rfl ?_
  refine OW_end rfl ?_
  refine CW_seq ?_
  refine CW_block ?_
  refine CW_seq ?_
  refine CW_region ?_
  refine OW_run' hE.ok 6 rfl ?_
  refine OW_end rfl ?_
  refine CW_cond _ rfl (fun h1 => ?_) (fun h1 => ?_)
  · skip
    have c10 : (a.k != b.k) = true := h1
    refine CW_seq ?_
    refine CW_region ?_
    refine OW_build' hE rfl rfl rfl rfl rfl ?_
    refine OW_store' hE rfl rfl rfl rfl rfl rfl rfl rfl rfl rfl rfl rfl ?_
    refine OW_run' hE.ok 1 rfl ?_
    refine OW_end rfl ?_
    refine CW_ret ?_
    refine ⟨.inr rfl, rfl, ⟨_, rfl, rfl, ?_⟩, rfl⟩
    rw [show refTwo op a b = (nulV, 14) by unfold refTwo; rw [c10]; rfl]
    exact AVle.refl _
  · skip
    have c10 : (a.k != b.k) = false := h1
    refine CW_cutE (fun _ : Unit => ⟨J, (sset (sset (sset (sset (sset noSlots 0 (.d (int op))) 4 (.d (.iptr (encV a)))) 5 (.d (.iptr (encV b)))) 6 (.ptr 1 0)) 17 (.d (boo (decide (op ≤ 5) && a.k == 1)))), (hset noHeap 1 (some (.box 24 [.d (int 0), .d (int 0), .d (str nul)])))⟩) (fun _ => True) ?_ ?_
    · skip
      refine CW_region ?_
      refine OW_run' hE.ok 3 rfl ?_
      refine OW_split' 20 rfl (fun h2 => ?_) (fun h2 => ?_)
      · skip
        have k1 : decide (op ≤ 5) = true := h2
        refine OW_run' hE.ok 5 rfl ?_
        refine OW_end rfl ?_
        exact ⟨(), trivial, LE_sh (slh_set (v := .d (boo (decide (op ≤ 5) && a.k == 1))) (slh_set (v := .ptr 1 0) (slh_set (v := .d (.iptr (encV b))) (slh_set (v := .d (.iptr (encV a))) (slh_set (v := .d (int op)) (slh_no _ _) (by rfl) rfl) (by rfl) rfl) (by rfl) rfl) (by rfl) rfl) (by exact (congrArg (fun b => AV.d (boo b)) (by rw [k1]; rfl))) rfl) (hlh_set (hlh_no _ _) rfl rfl)⟩
      · skip
        have k1 : decide (op ≤ 5) = false := h2
        refine OW_run' hE.ok 5 rfl ?_
        refine OW_end rfl ?_
        exact ⟨(), trivial, LE_sh (slh_set (v := .d (boo (decide (op ≤ 5) && a.k == 1))) (slh_set (v := .ptr 1 0) (slh_set (v := .d (.iptr (encV b))) (slh_set (v := .d (.iptr (encV a))) (slh_set (v := .d (int op)) (slh_no _ _) (by rfl) rfl) (by rfl) rfl) (by rfl) rfl) (by rfl) rfl) (by exact (congrArg (fun b => AV.d (boo b)) (by rw [k1]; rfl))) rfl) (hlh_set (hlh_no _ _) rfl rfl)⟩
    · skip
      rintro _ _
      refine CW_cond _ rfl (fun h3 => ?_) (fun h3 => ?_)
      · skip
        have c17 : (decide (op ≤ 5) && a.k == 1) = true := h3
        refine CW_seq ?_
        refine CW_region ?_
        refine OW_run' hE.ok 5 rfl ?_
        refine OW_call' hE (refOverOk op a.n b.n) rfl rfl rfl rfl rfl rfl rfl ?_
        refine OW_run' hE.ok 5 rfl ?_
        refine OW_end rfl ?_
        refine CW_seq ?_
        refine CW_seq ?_
        refine CW_region ?_
        refine OW_run' hE.ok 2 rfl ?_
        refine OW_end rfl ?_
        refine CW_cond _ rfl (fun h4 => ?_) (fun h4 => ?_)
        · skip
          have c35 : (!(refOver op a.n b.n).2) = true := h4
          refine CW_seq ?_
          refine CW_region ?_
          refine OW_build' hE rfl rfl rfl rfl rfl ?_
          refine OW_store' hE rfl rfl rfl rfl rfl rfl rfl rfl rfl rfl rfl rfl ?_
          refine OW_run' hE.ok 1 rfl ?_
          refine OW_end rfl ?_
          refine CW_ret ?_
          refine ⟨.inr rfl, rfl, ⟨_, rfl, rfl, ?_⟩, rfl⟩
          rw [show refTwo op a b = (nulV, 16) by unfold refTwo; rw [c10, c17, c35]; rfl]
          exact AVle.refl _
        · skip
          have c35 : (!(refOver op a.n b.n).2) = false := h4
          refine CW_skip ?_
          refine CW_seq ?_
          refine CW_region ?_
          refine OW_run' hE.ok 1 rfl ?_
          refine OW_build' hE rfl rfl rfl rfl rfl ?_
          refine OW_store' hE rfl rfl rfl rfl rfl rfl rfl rfl rfl rfl rfl rfl ?_
          refine OW_run' hE.ok 1 rfl ?_
          refine OW_end rfl ?_
          refine CW_ret ?_
          refine ⟨.inr rfl, rfl, ⟨_, rfl, rfl, ?_⟩, rfl⟩
          rw [show refTwo op a b = (⟨1, (refOver op a.n b.n).1, nul⟩, 0) by unfold refTwo; rw [c10, c17, c35]; rfl]
          exact AVle.refl _
      · skip
        have c17 : (decide (op ≤ 5) && a.k == 1) = false := h3
        refine CW_seq ?_
        refine CW_region ?_
        refine OW_run' hE.ok 3 rfl ?_
        refine OW_end rfl ?_
        refine CW_cond _ rfl (fun h5 => ?_) (fun h5 => ?_)
        · skip
          have c39 : (op == 6) = true := h5
          refine CW_seq ?_
          refine CW_region ?_
          refine OW_run' hE.ok 2 rfl ?_
          refine OW_loc' hE (loc_eql rfl rfl rfl (r := sameV a b) (eqLaw_flat T_ok (t := 24) rfl (by decide +kernel) rfl (X := encV a) (Y := encV b) rfl rfl rfl)) rfl rfl rfl ?_
          refine OW_call' hE (refTruthOk (sameV a b)) rfl rfl rfl rfl rfl rfl rfl ?_
          refine OW_store' hE rfl rfl rfl rfl rfl rfl rfl rfl rfl rfl rfl rfl ?_
          refine OW_run' hE.ok 1 rfl ?_
          refine OW_end rfl ?_
          refine CW_ret ?_
          refine ⟨.inr rfl, rfl, ⟨_, rfl, rfl, ?_⟩, rfl⟩
          rw [show refTwo op a b = (truthV (sameV a b), 0) by unfold refTwo; rw [c10, c17, c39]; rfl]
          exact AVle.refl _
        · skip
          have c39 : (op == 6) = false := h5
          refine CW_seq ?_
          refine CW_region ?_
          refine OW_run' hE.ok 3 rfl ?_
          refine OW_end rfl ?_
          refine CW_cond _ rfl (fun h6 => ?_) (fun h6 => ?_)
          · skip
            have c46 : (op == 7) = true := h6
            refine CW_seq ?_
            refine CW_region ?_
            refine OW_run' hE.ok 2 rfl ?_
            refine OW_loc' hE (loc_neq rfl rfl rfl (r := sameV a b) (eqLaw_flat T_ok (t := 24) rfl (by decide +kernel) rfl (X := encV a) (Y := encV b) rfl rfl rfl)) rfl rfl rfl ?_
            refine OW_call' hE (refTruthOk (!sameV a b)) rfl rfl rfl rfl rfl rfl rfl ?_
            refine OW_store' hE rfl rfl rfl rfl rfl rfl rfl rfl rfl rfl rfl rfl ?_
            refine OW_run' hE.ok 1 rfl ?_
            refine OW_end rfl ?_
            refine CW_ret ?_
            refine ⟨.inr rfl, rfl, ⟨_, rfl, rfl, ?_⟩, rfl⟩
            rw [show refTwo op a b = (truthV (!sameV a b), 0) by unfold refTwo; rw [c10, c17, c39, c46]; rfl]
            exact AVle.refl _
          · skip
            have c46 : (op == 7) = false := h6
            refine CW_cutE (fun _ : Unit => ⟨J, (sset (sset (sset (sset (sset noSlots 0 (.d (int op))) 4 (.d (.iptr (encV a)))) 5 (.d (.iptr (encV b)))) 6 (.ptr 1 0)) 53 (.d (boo (op == 8 && a.k != 3)))), (hset noHeap 1 (some (.box 24 [.d (int 0), .d (int 0), .d (str nul)])))⟩) (fun _ => True) ?_ ?_
            · skip
              refine CW_region ?_
              refine OW_run' hE.ok 3 rfl ?_
              refine OW_split' 56 rfl (fun h7 => ?_) (fun h7 => ?_)
              · skip
                have k2 : (op == 8) = true := h7
                refine OW_run' hE.ok 5 rfl ?_
                refine OW_end rfl ?_
                exact ⟨(), trivial, LE_sh (slh_set (v := .d (boo (op == 8 && a.k != 3))) (slh_set (v := .ptr 1 0) (slh_set (v := .d (.iptr (encV b))) (slh_set (v := .d (.iptr (encV a))) (slh_set (v := .d (int op)) (slh_no _ _) (by rfl) rfl) (by rfl) rfl) (by rfl) rfl) (by rfl) rfl) (by exact (congrArg (fun b => AV.d (boo b)) (by rw [k2]; rfl))) rfl) (hlh_set (hlh_no _ _) rfl rfl)⟩
              · skip
                have k2 : (op == 8) = false := h7
                refine OW_run' hE.ok 5 rfl ?_
                refine OW_end rfl ?_
                exact ⟨(), trivial, LE_sh (slh_set (v := .d (boo (op == 8 && a.k != 3))) (slh_set (v := .ptr 1 0) (slh_set (v := .d (.iptr (encV b))) (slh_set (v := .d (.iptr (encV a))) (slh_set (v := .d (int op)) (slh_no _ _) (by rfl) rfl) (by rfl) rfl) (by rfl) rfl) (by rfl) rfl) (by exact (congrArg (fun b => AV.d (boo b)) (by rw [k2]; rfl))) rfl) (hlh_set (hlh_no _ _) rfl rfl)⟩
            · skip
              rintro _ _
              refine CW_cond _ rfl (fun h8 => ?_) (fun h8 => ?_)
              · skip
                have c53 : (op == 8 && a.k != 3) = true := h8
                refine CW_seq ?_
                refine CW_region ?_
                refine OW_run' hE.ok 6 rfl ?_
                refine OW_split' 66 rfl (fun h9 => ?_) (fun h9 => ?_)
                · skip
                  have l1 : decide (a.n < b.n) = true := h9
                  refine OW_run' hE.ok 6 rfl ?_
                  refine OW_call' hE (refTruthOk _) rfl rfl rfl rfl rfl rfl rfl ?_
                  refine OW_store' hE rfl rfl rfl rfl rfl rfl rfl rfl rfl rfl rfl rfl ?_
                  refine OW_run' hE.ok 1 rfl ?_
                  refine OW_end rfl ?_
                  refine CW_ret ?_
                  refine ⟨.inr rfl, rfl, ⟨_, rfl, rfl, ?_⟩, rfl⟩
                  rw [show refTwo op a b = (truthV true, 0) by unfold refTwo; rw [c10, c17, c39, c46, c53, l1]; rfl]
                  exact AVle.refl _
                · skip
                  have l1 : decide (a.n < b.n) = false := h9
                  refine OW_run' hE.ok 6 rfl ?_
                  refine OW_call' hE (refTruthOk _) rfl rfl rfl rfl rfl rfl rfl ?_
                  refine OW_store' hE rfl rfl rfl rfl rfl rfl rfl rfl rfl rfl rfl rfl ?_
                  refine OW_run' hE.ok 1 rfl ?_
                  refine OW_end rfl ?_
                  refine CW_ret ?_
                  refine ⟨.inr rfl, rfl, ⟨_, rfl, rfl, ?_⟩, rfl⟩
                  rw [show refTwo op a b = (truthV (less a.s b.s), 0) by unfold refTwo; rw [c10, c17, c39, c46, c53, l1]; rfl]
                  exact AVle.refl _
              · skip
                have c53 : (op == 8 && a.k != 3) = false := h8
                refine CW_cutE (fun _ : Unit => ⟨J, (sset (sset (sset (sset (sset noSlots 0 (.d (int op))) 4 (.d (.iptr (encV a)))) 5 (.d (.iptr (encV b)))) 6 (.ptr 1 0)) 74 (.d (boo (op == 9 && a.k != 3)))), (hset noHeap 1 (some (.box 24 [.d (int 0), .d (int 0), .d (str nul)])))⟩) (fun _ => True) ?_ ?_
                · skip
                  refine CW_region ?_
                  refine OW_run' hE.ok 3 rfl ?_
                  refine OW_split' 77 rfl (fun h10 => ?_) (fun h10 => ?_)
                  · skip
                    have k3 : (op == 9) = true := h10
                    refine OW_run' hE.ok 5 rfl ?_
                    refine OW_end rfl ?_
                    exact ⟨(), trivial, LE_sh (slh_set (v := .d (boo (op == 9 && a.k != 3))) (slh_set (v := .ptr 1 0) (slh_set (v := .d (.iptr (encV b))) (slh_set (v := .d (.iptr (encV a))) (slh_set (v := .d (int op)) (slh_no _ _) (by rfl) rfl) (by rfl) rfl) (by rfl) rfl) (by rfl) rfl) (by exact (congrArg (fun b => AV.d (boo b)) (by rw [k3]; rfl))) rfl) (hlh_set (hlh_no _ _) rfl rfl)⟩
                  · skip
                    have k3 : (op == 9) = false := h10
                    refine OW_run' hE.ok 5 rfl ?_
                    refine OW_end rfl ?_
                    exact ⟨(), trivial, LE_sh (slh_set (v := .d (boo (op == 9 && a.k != 3))) (slh_set (v := .ptr 1 0) (slh_set (v := .d (.iptr (encV b))) (slh_set (v := .d (.iptr (encV a))) (slh_set (v := .d (int op)) (slh_no _ _) (by rfl) rfl) (by rfl) rfl) (by rfl) rfl) (by rfl) rfl) (by exact (congrArg (fun b => AV.d (boo b)) (by rw [k3]; rfl))) rfl) (hlh_set (hlh_no _ _) rfl rfl)⟩
                · skip
                  rintro _ _
                  refine CW_cond _ rfl (fun h11 => ?_) (fun h11 => ?_)
                  · skip
                    have c74 : (op == 9 && a.k != 3) = true := h11
                    refine CW_seq ?_
                    refine CW_region ?_
                    refine OW_run' hE.ok 6 rfl ?_
                    refine OW_split' 87 rfl (fun h12 => ?_) (fun h12 => ?_)
                    · skip
                      have l1 : decide (a.n < b.n) = true := h12
                      refine OW_run' hE.ok 11 rfl ?_
                      refine OW_call' hE (refTruthOk _) rfl rfl rfl rfl rfl rfl rfl ?_
                      refine OW_store' hE rfl rfl rfl rfl rfl rfl rfl rfl rfl rfl rfl rfl ?_
                      refine OW_run' hE.ok 1 rfl ?_
                      refine OW_end rfl ?_
                      refine CW_ret ?_
                      refine ⟨.inr rfl, rfl, ⟨_, rfl, rfl, ?_⟩, rfl⟩
                      rw [show refTwo op a b = (truthV true, 0) by unfold refTwo; rw [c10, c17, c39, c46, c53, c74, l1]; rfl]
                      exact AVle.refl _
                    · skip
                      have l1 : decide (a.n < b.n) = false := h12
                      refine OW_run' hE.ok 7 rfl ?_
                      refine OW_split' 94 rfl (fun h13 => ?_) (fun h13 => ?_)
                      · skip
                        have l2 : less a.s b.s = true := h13
                        refine OW_run' hE.ok 4 rfl ?_
                        refine OW_call' hE (refTruthOk _) rfl rfl rfl rfl rfl rfl rfl ?_
                        refine OW_store' hE rfl rfl rfl rfl rfl rfl rfl rfl rfl rfl rfl rfl ?_
                        refine OW_run' hE.ok 1 rfl ?_
                        refine OW_end rfl ?_
                        refine CW_ret ?_
                        refine ⟨.inr rfl, rfl, ⟨_, rfl, rfl, ?_⟩, rfl⟩
                        rw [show refTwo op a b = (truthV true, 0) by unfold refTwo; rw [c10, c17, c39, c46, c53, c74, l1, l2]; rfl]
                        exact AVle.refl _
                      · skip
                        have l2 : less a.s b.s = false := h13
                        refine OW_run' hE.ok 2 rfl ?_
                        refine OW_loc' hE (loc_eql rfl rfl rfl (r := sameV a b) (eqLaw_flat T_ok (t := 24) rfl (by decide +kernel) rfl (X := encV a) (Y := encV b) rfl rfl rfl)) rfl rfl rfl ?_
                        refine OW_run' hE.ok 1 rfl ?_
                        refine OW_call' hE (refTruthOk _) rfl rfl rfl rfl rfl rfl rfl ?_
                        refine OW_store' hE rfl rfl rfl rfl rfl rfl rfl rfl rfl rfl rfl rfl ?_
                        refine OW_run' hE.ok 1 rfl ?_
                        refine OW_end rfl ?_
                        refine CW_ret ?_
                        refine ⟨.inr rfl, rfl, ⟨_, rfl, rfl, ?_⟩, rfl⟩
                        rw [show refTwo op a b = (truthV (sameV a b), 0) by unfold refTwo; rw [c10, c17, c39, c46, c53, c74, l1, l2]; rfl]
                        exact AVle.refl _
                  · skip
                    have c74 : (op == 9 && a.k != 3) = false := h11
                    refine CW_skip ?_
                    refine CW_seq ?_
                    refine CW_region ?_
                    refine OW_build' hE rfl rfl rfl rfl rfl ?_
                    refine OW_store' hE rfl rfl rfl rfl rfl rfl rfl rfl rfl rfl rfl rfl ?_
                    refine OW_run' hE.ok 1 rfl ?_
                    refine OW_end rfl ?_
                    refine CW_ret ?_
                    refine ⟨.inr rfl, rfl, ⟨_, rfl, rfl, ?_⟩, rfl⟩
                    rw [show refTwo op a b = (nulV, 14) by unfold refTwo; rw [c10, c17, c39, c46, c53, c74]; rfl]
                    exact AVle.refl _
end Go.Proofs.Ythffbfjnahipcaa
