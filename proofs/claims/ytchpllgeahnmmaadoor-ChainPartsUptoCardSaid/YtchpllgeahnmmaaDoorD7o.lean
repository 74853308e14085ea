/- Parts of an abstract logic over the kit's walks, and walks in it: D7o. -/
import Derived.Test.YtchpllgeahnmmaaDoorD7a
import Derived.Test.YtchpllgeahnmmaaDoorCp
namespace Go.Proofs.YtchpllgeahnmmaaDoor
open Go Go.AL
set_option linter.unusedVariables false
set_option linter.unusedSimpArgs false
set_option maxHeartbeats 4000000
theorem ownOk (c : Chg) : Does Tryd.prog 52 [argC c] noHeap (argC (ownC c)) := by
  refine Does_of T_ok mixed (N := 34) Tryd.func52 rfl rfl rfl (by rfl) fun F n Z hE hF J => ?_
  refine CW_seq ?_
  refine CW_region ?_
  refine OW_run' hE.ok 1 rfl ?_
  refine OW_alloc' hE 1 rfl rfl rfl rfl rfl rfl rfl ?_
  refine OW_end rfl ?_
  refine CW_seq ?_
  refine CW_region ?_
  refine OW_run' hE.ok 4 rfl ?_
  refine OW_build' hE rfl rfl rfl rfl rfl ?_
  refine OW_alloc' hE 2 rfl rfl rfl rfl rfl rfl rfl ?_
  refine OW_store' hE rfl rfl rfl rfl rfl rfl rfl rfl rfl rfl rfl rfl ?_
  refine OW_end rfl ?_
  refine CW_cutE (fun _ : Unit => ⟨J, (sset (sset noSlots 2 (.ptr 1 0)) 3 (.ptr 2 0)), (hset (hset noHeap 1 (some (.box 43 [.d (int 0), .d (str nul), .d (str nul), .d (str nul), .d (int 0), .d (int 0), .d (str nul)]))) 2 (some (.box 43 ((encC (ownC c)).map .d))))⟩) (fun _ => True) ?_ ?_
  · skip
    refine CW_seq ?_
    refine CW_region ?_
    refine OW_run' hE.ok 2 rfl ?_
    refine OW_end rfl ?_
    refine CW_block ?_
    refine CW_seq ?_
    refine CW_region ?_
    refine OW_run' hE.ok 2 rfl ?_
    refine OW_end rfl ?_
    refine CW_cond _ rfl (fun h1 => ?_) (fun h1 => ?_)
    · skip
      have a1 : (c.kind == 1) = true := h1
      refine CW.le (show LE _ _ ⟨J, (sset (sset (sset noSlots 1 (.d (.iptr (encC c)))) 2 (.ptr 1 0)) 3 (.ptr 2 0)), (hset (hset noHeap 1 (some (.box 43 [.d (int 0), .d (str nul), .d (str nul), .d (str nul), .d (int 0), .d (int 0), .d (str nul)]))) 2 (some (.box 43 [.d (int c.kind), .d (str c.ty), .d (str nul), .d (str nul), .d (int 0), .d (int 0), .d (str nul)])))⟩ from LE_sh (slh_set (v := .ptr 2 0) (slh_set (v := .ptr 1 0) (slh_set (v := .d (.iptr (encC c))) (slh_no _ _) (by rfl) rfl) (by rfl) rfl) (by rfl) rfl) (hlh_set (hlh_set (hlh_no _ _) rfl rfl) rfl rfl)) ?_
      refine CW_drawnR hE 6 5 1000 (h1 := hset (hset (hset noHeap 1 (some (.box 43 [.d (int 0), .d (str nul), .d (str nul), .d (str nul), .d (int 0), .d (int 0), .d (str nul)]))) 2 (some (.box 43 [.d (int c.kind), .d (str c.ty), .d (str nul), .d (str nul), .d (int 0), .d (int 0), .d (str nul)]))) 2 (some (.box 43 [.d (int c.kind), .d (str c.ty), .d (str c.fld), .d (str nul), .d (int 0), .d (int 0), .d (str nul)]))) (by decide +kernel) rfl (by repeat (first | exact nokeyS_no _ | refine nokeyS_set ?_ rfl)) ?_
      refine HR_run hE 5 (h0 := noHeap) noHeap_no noHeap_no rfl rfl rfl ?_
      refine HR_store hE rfl rfl rfl rfl rfl rfl rfl rfl rfl rfl rfl rfl rfl rfl rfl ?_
      refine HR_end ?_
      refine OW_run' hE.ok 1 rfl ?_
      refine OW_store' hE rfl rfl rfl rfl rfl rfl rfl rfl rfl rfl rfl rfl ?_
      refine OW_end rfl ?_
      exact ⟨(), trivial, LE_sh (slh_set (v := .ptr 2 0) (slh_set (v := .ptr 1 0) (slh_no _ _) (by rfl) rfl) (by rfl) rfl) (hlh_set (hlh_set (hlh_no _ _) rfl rfl) (by exact congrArg (fun z : List D => some (Ent.box 43 (z.map AV.d))) (own_1 a1)) rfl)⟩
    · skip
      have a1 : (c.kind == 1) = false := h1
      refine CW_seq ?_
      refine CW_seq ?_
      refine CW_region ?_
      refine OW_run' hE.ok 2 rfl ?_
      refine OW_end rfl ?_
      refine CW_cond _ rfl (fun h2 => ?_) (fun h2 => ?_)
      · skip
        first | have a2 : (c.kind == 2) = true := h2 | have a4 : (c.kind == 4) = true := h2
        refine CW_as' 19 (.d (boo true)) (congrArg (fun b => AV.d (boo b)) h2) ?_
        refine CW_skip ?_
        refine CW_true rfl ?_
        refine CW_region ?_
        refine OW_run' hE.ok 3 rfl ?_
        refine OW_store' hE rfl rfl rfl rfl rfl rfl rfl rfl rfl rfl rfl rfl ?_
        refine OW_end rfl ?_
        exact ⟨(), trivial, LE_sh (slh_set (v := .ptr 2 0) (slh_set (v := .ptr 1 0) (slh_no _ _) (by rfl) rfl) (by rfl) rfl) (hlh_set (hlh_set (hlh_no _ _) rfl rfl) (by exact congrArg (fun z : List D => some (Ent.box 43 (z.map AV.d))) (own_2 a1 a2)) rfl)⟩
      · skip
        first | have a2 : (c.kind == 2) = false := h2 | have a4 : (c.kind == 4) = false := h2
        refine CW_region ?_
        refine OW_run' hE.ok 2 rfl ?_
        refine OW_end rfl ?_
        refine CW_cond _ rfl (fun h3 => ?_) (fun h3 => ?_)
        · skip
          first | have a2 : (c.kind == 2) = true := h3 | have a4 : (c.kind == 4) = true := h3
          refine CW_as' 19 (.d (boo true)) (congrArg (fun b => AV.d (boo b)) h3) ?_
          refine CW_region ?_
          refine OW_run' hE.ok 3 rfl ?_
          refine OW_store' hE rfl rfl rfl rfl rfl rfl rfl rfl rfl rfl rfl rfl ?_
          refine OW_end rfl ?_
          exact ⟨(), trivial, LE_sh (slh_set (v := .ptr 2 0) (slh_set (v := .ptr 1 0) (slh_no _ _) (by rfl) rfl) (by rfl) rfl) (hlh_set (hlh_set (hlh_no _ _) rfl rfl) (by exact congrArg (fun z : List D => some (Ent.box 43 (z.map AV.d))) (own_4 a1 a2 a4)) rfl)⟩
        · skip
          first | have a2 : (c.kind == 2) = false := h3 | have a4 : (c.kind == 4) = false := h3
          refine CW_seq ?_
          refine CW_region ?_
          refine OW_run' hE.ok 2 rfl ?_
          refine OW_end rfl ?_
          refine CW_cond _ rfl (fun h4 => ?_) (fun h4 => ?_)
          · skip
            have a3 : (c.kind == 3) = true := h4
            refine CW.le (show LE _ _ ⟨J, (sset (sset (sset noSlots 1 (.d (.iptr (encC c)))) 2 (.ptr 1 0)) 3 (.ptr 2 0)), (hset (hset noHeap 1 (some (.box 43 [.d (int 0), .d (str nul), .d (str nul), .d (str nul), .d (int 0), .d (int 0), .d (str nul)]))) 2 (some (.box 43 [.d (int c.kind), .d (str c.ty), .d (str nul), .d (str nul), .d (int 0), .d (int 0), .d (str nul)])))⟩ from LE_sh (slh_set (v := .ptr 2 0) (slh_set (v := .ptr 1 0) (slh_set (v := .d (.iptr (encC c))) (slh_no _ _) (by rfl) rfl) (by rfl) rfl) (by rfl) rfl) (hlh_set (hlh_set (hlh_no _ _) rfl rfl) rfl rfl)) ?_
            refine CW_drawnR hE 6 5 1000 (h1 := hset (hset (hset noHeap 1 (some (.box 43 [.d (int 0), .d (str nul), .d (str nul), .d (str nul), .d (int 0), .d (int 0), .d (str nul)]))) 2 (some (.box 43 [.d (int c.kind), .d (str c.ty), .d (str nul), .d (str nul), .d (int 0), .d (int 0), .d (str nul)]))) 2 (some (.box 43 [.d (int c.kind), .d (str c.ty), .d (str c.fld), .d (str nul), .d (int 0), .d (int 0), .d (str nul)]))) (by decide +kernel) rfl (by repeat (first | exact nokeyS_no _ | refine nokeyS_set ?_ rfl)) ?_
            refine HR_run hE 5 (h0 := noHeap) noHeap_no noHeap_no rfl rfl rfl ?_
            refine HR_store hE rfl rfl rfl rfl rfl rfl rfl rfl rfl rfl rfl rfl rfl rfl rfl ?_
            refine HR_end ?_
            refine OW_run' hE.ok 1 rfl ?_
            refine OW_store' hE rfl rfl rfl rfl rfl rfl rfl rfl rfl rfl rfl rfl ?_
            refine OW_end rfl ?_
            exact ⟨(), trivial, LE_sh (slh_set (v := .ptr 2 0) (slh_set (v := .ptr 1 0) (slh_no _ _) (by rfl) rfl) (by rfl) rfl) (hlh_set (hlh_set (hlh_no _ _) rfl rfl) (by exact congrArg (fun z : List D => some (Ent.box 43 (z.map AV.d))) (own_3 a1 a2 a4 a3)) rfl)⟩
          · skip
            have a3 : (c.kind == 3) = false := h4
            refine CW_skip ?_
            exact ⟨(), trivial, LE_sh (slh_set (v := .ptr 2 0) (slh_set (v := .ptr 1 0) (slh_no _ _) (by rfl) rfl) (by rfl) rfl) (hlh_set (hlh_set (hlh_no _ _) rfl rfl) (by exact congrArg (fun z : List D => some (Ent.box 43 (z.map AV.d))) (own_0 a1 a2 a4 a3)) rfl)⟩
  · skip
    rintro _ _
    refine CW_seq ?_
    refine CW_region ?_
    refine OW_run' hE.ok 1 rfl ?_
    refine OW_store' hE rfl rfl rfl rfl rfl rfl rfl rfl rfl rfl rfl rfl ?_
    refine OW_end rfl ?_
    refine CW_ret ?_
    refine ⟨.inr rfl, rfl, ⟨_, rfl, rfl, ?_⟩, rfl⟩
    exact AVle.refl _
end Go.Proofs.YtchpllgeahnmmaaDoor
