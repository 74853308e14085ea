/- Parts of an abstract logic over the kit's walks, and walks in it: D8h2. -/
import Derived.Test.YtjiknbjkbakegaaDoorD8t
import Derived.Test.YtjiknbjkbakegaaDoorDif2
import Derived.Test.YtjiknbjkbakegaaDoorAe
namespace Go.Proofs.YtjiknbjkbakegaaDoor
open Go Go.AL
set_option linter.unusedVariables false
set_option linter.unusedSimpArgs false
set_option maxHeartbeats 4000000
theorem wholeOk (p q : Pat) : Does Tryd.prog 23 [argP p, argP q] (oneRow 26 2 ((difH p q).map encDl)) (.row 0) := by
  refine Does_ofRow T_ok mixed (N := 34) Tryd.func23 rfl rfl rfl (by rfl) fun F n Z hE hF J => ?_
  have l1 := whenD_few (!(p.within == q.within)) ⟨1, 0⟩
  have l2 := whenD_few (!same p.byf q.byf) ⟨2, 0⟩
  refine CW_seq ?_
  refine CW_region ?_
  refine OW_run' hE.ok 3 rfl ?_
  refine OW_end rfl ?_
  refine CW_seq ?_
  refine CW_region ?_
  refine OW_run' hE.ok 1 rfl ?_
  refine OW.le (LE_nilSlot 5 50 26 2 rfl rfl) ?_
  refine OW_end rfl ?_
  refine CW_cutE (fun _ : Unit => ⟨J, (sset (sset (sset noSlots 2 (.d (.iptr (encP p)))) 3 (.d (.iptr (encP q)))) 5 (.row 50)), (hset noHeap 50 (some (.row 26 2 (((([] : List Dl) ++ whenD (!(p.within == q.within)) ⟨1, 0⟩)).map encDl))))⟩) (fun _ => True) ?_ ?_
  · skip
    refine CW_seq ?_
    refine CW_region ?_
    refine OW_run' hE.ok 5 rfl ?_
    refine OW_end rfl ?_
    refine CW_cond _ rfl (fun h1 => ?_) (fun h1 => ?_)
    · skip
      have g1 : (!(p.within == q.within)) = true := h1
      refine CW_region ?_
      refine OW_run' hE.ok 1 rfl ?_
      refine OW_build' hE rfl rfl rfl rfl rfl ?_
      refine OW_lits' hE rfl rfl rfl rfl rfl rfl rfl rfl rfl rfl rfl rfl ?_
      refine OW_append' hE (key := 50) rfl rfl rfl rfl rfl rfl rfl rfl (.inl rfl) (by simp <;> omega) (by simp <;> omega) rfl ?_
      refine OW_run' hE.ok 1 rfl ?_
      refine OW_end rfl ?_
      exact ⟨(), trivial, LE_sh (slh_set (slh_set (slh_set (slh_no _ _) rfl rfl) rfl rfl) rfl rfl) (hlh_set (hlh_no _ _) (congrArg (fun z => some (Ent.row 26 2 z)) (apD_t (l := ([] : List Dl)) (d := ⟨1, 0⟩) g1)) rfl)⟩
    · skip
      have g1 : (!(p.within == q.within)) = false := h1
      refine CW_skip ?_
      exact ⟨(), trivial, LE_sh (slh_set (slh_set (slh_set (slh_no _ _) rfl rfl) rfl rfl) rfl rfl) (hlh_set (hlh_no _ _) (congrArg (fun z => some (Ent.row 26 2 z)) (apD_f (l := ([] : List Dl)) (d := ⟨1, 0⟩) g1)) rfl)⟩
  · skip
    rintro _ _
    refine CW_cutE (fun _ : Unit => ⟨J, (sset (sset (sset noSlots 2 (.d (.iptr (encP p)))) 3 (.d (.iptr (encP q)))) 5 (.row 50)), (hset noHeap 50 (some (.row 26 2 ((((([] : List Dl) ++ whenD (!(p.within == q.within)) ⟨1, 0⟩) ++ whenD (!same p.byf q.byf) ⟨2, 0⟩)).map encDl))))⟩) (fun _ => True) ?_ ?_
    · skip
      refine CW_seq ?_
      refine CW_region ?_
      refine OW_run' hE.ok 5 rfl ?_
      refine OW_end rfl ?_
      refine CW_cond _ rfl (fun h2 => ?_) (fun h2 => ?_)
      · skip
        have g2 : (!same p.byf q.byf) = true := h2
        refine CW_region ?_
        refine OW_run' hE.ok 1 rfl ?_
        refine OW_build' hE rfl rfl rfl rfl rfl ?_
        refine OW_lits' hE rfl rfl rfl rfl rfl rfl rfl rfl rfl rfl rfl rfl ?_
        refine OW_append' hE (key := 50) rfl rfl rfl rfl rfl rfl rfl rfl (.inl rfl) (by simp <;> omega) (by simp <;> omega) rfl ?_
        refine OW_run' hE.ok 1 rfl ?_
        refine OW_end rfl ?_
        exact ⟨(), trivial, LE_sh (slh_set (slh_set (slh_set (slh_no _ _) rfl rfl) rfl rfl) rfl rfl) (hlh_set (hlh_no _ _) (congrArg (fun z => some (Ent.row 26 2 z)) (apD_t (l := (([] : List Dl) ++ whenD (!(p.within == q.within)) ⟨1, 0⟩)) (d := ⟨2, 0⟩) g2)) rfl)⟩
      · skip
        have g2 : (!same p.byf q.byf) = false := h2
        refine CW_skip ?_
        exact ⟨(), trivial, LE_sh (slh_set (slh_set (slh_set (slh_no _ _) rfl rfl) rfl rfl) rfl rfl) (hlh_set (hlh_no _ _) (congrArg (fun z => some (Ent.row 26 2 z)) (apD_f (l := (([] : List Dl) ++ whenD (!(p.within == q.within)) ⟨1, 0⟩)) (d := ⟨2, 0⟩) g2)) rfl)⟩
    · skip
      rintro _ _
      refine CW_cutE (fun _ : Unit => ⟨J, (sset (sset (sset noSlots 2 (.d (.iptr (encP p)))) 3 (.d (.iptr (encP q)))) 5 (.row 50)), (hset noHeap 50 (some (.row 26 2 (((((([] : List Dl) ++ whenD (!(p.within == q.within)) ⟨1, 0⟩) ++ whenD (!same p.byf q.byf) ⟨2, 0⟩) ++ whenD (!(p.any == q.any)) ⟨3, 0⟩)).map encDl))))⟩) (fun _ => True) ?_ ?_
      · skip
        refine CW_seq ?_
        refine CW_region ?_
        refine OW_run' hE.ok 5 rfl ?_
        refine OW_end rfl ?_
        refine CW_cond _ rfl (fun h3 => ?_) (fun h3 => ?_)
        · skip
          have g3 : (!(p.any == q.any)) = true := h3
          refine CW_region ?_
          refine OW_run' hE.ok 1 rfl ?_
          refine OW_build' hE rfl rfl rfl rfl rfl ?_
          refine OW_lits' hE rfl rfl rfl rfl rfl rfl rfl rfl rfl rfl rfl rfl ?_
          refine OW_append' hE (key := 50) rfl rfl rfl rfl rfl rfl rfl rfl (.inl rfl) (by simp <;> omega) (by simp <;> omega) rfl ?_
          refine OW_run' hE.ok 1 rfl ?_
          refine OW_end rfl ?_
          exact ⟨(), trivial, LE_sh (slh_set (slh_set (slh_set (slh_no _ _) rfl rfl) rfl rfl) rfl rfl) (hlh_set (hlh_no _ _) (congrArg (fun z => some (Ent.row 26 2 z)) (apD_t (l := ((([] : List Dl) ++ whenD (!(p.within == q.within)) ⟨1, 0⟩) ++ whenD (!same p.byf q.byf) ⟨2, 0⟩)) (d := ⟨3, 0⟩) g3)) rfl)⟩
        · skip
          have g3 : (!(p.any == q.any)) = false := h3
          refine CW_skip ?_
          exact ⟨(), trivial, LE_sh (slh_set (slh_set (slh_set (slh_no _ _) rfl rfl) rfl rfl) rfl rfl) (hlh_set (hlh_no _ _) (congrArg (fun z => some (Ent.row 26 2 z)) (apD_f (l := ((([] : List Dl) ++ whenD (!(p.within == q.within)) ⟨1, 0⟩) ++ whenD (!same p.byf q.byf) ⟨2, 0⟩)) (d := ⟨3, 0⟩) g3)) rfl)⟩
      · skip
        rintro _ _
        refine CW_seq ?_
        refine CW_region ?_
        refine OW_run' hE.ok 2 rfl ?_
        refine OW_end rfl ?_
        have hh : (((([] : List Dl) ++ whenD (!(p.within == q.within)) ⟨1, 0⟩) ++ whenD (!same p.byf q.byf) ⟨2, 0⟩) ++ whenD (!(p.any == q.any)) ⟨3, 0⟩) = difH p q := by unfold difH; simp [List.append_assoc]
        rw [← hh]
        exact CW_ret ⟨.inr rfl, rfl, 50, rfl, rfl⟩
end Go.Proofs.YtjiknbjkbakegaaDoor
