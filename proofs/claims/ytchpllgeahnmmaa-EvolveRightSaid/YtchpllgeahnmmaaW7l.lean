/- Parts of an abstract logic over the kit's walks, and walks in it: W7l. -/
import Derived.Test.YtchpllgeahnmmaaWe
import Derived.Test.YtchpllgeahnmmaaWb
import Derived.Test.YtchpllgeahnmmaaWa
import Derived.Test.YtchpllgeahnmmaaEz
namespace Go.Proofs.Ytchpllgeahnmmaa
open Go Go.AL
set_option linter.unusedVariables false
set_option linter.unusedSimpArgs false
set_option maxHeartbeats 4000000
theorem rightLaw (s : List Ty) (c : Chg) (e : Ev) : Does Try.prog 4 [argS s, argC c, argE e] noHeap (.d (boo true)) := by
  refine Does_of T_ok mixed (N := 52) Try.func4 rfl rfl rfl (by rfl) fun F n Z hE hF J => ?_
  refine CW_seq ?_
  refine CW_region ?_
  refine OW_run' hE.ok 4 rfl ?_
  refine OW_end rfl ?_
  refine CW_seq ?_
  refine CW_seq ?_
  refine CW_region ?_
  refine OW_call' hE (known4) rfl rfl rfl rfl rfl rfl rfl ?_
  refine OW_run' hE.ok 1 rfl ?_
  refine OW_end rfl ?_
  refine CW_false rfl ?_
  refine CW_skip ?_
  refine CW_seq ?_
  refine CW_seq ?_
  refine CW_region ?_
  refine OW_run' hE.ok 1 rfl ?_
  refine OW_call' hE (refIsSOk s) rfl rfl rfl rfl rfl rfl rfl ?_
  refine OW_run' hE.ok 2 rfl ?_
  refine OW_split' 14 rfl (fun h1 => ?_) (fun h1 => ?_)
  · skip
    have w1 : (!isSchema s) = true := h1
    refine OW_run' hE.ok 5 rfl ?_
    refine OW_end rfl ?_
    refine CW_true rfl ?_
    refine CW_seq ?_
    refine CW_region ?_
    refine OW_run' hE.ok 1 rfl ?_
    refine OW_end rfl ?_
    refine CW_ret ?_
    refine ⟨.inr rfl, rfl, ⟨_, rfl, rfl, ?_⟩, rfl⟩
    exact AVle.refl _
  · skip
    have w1 : (!isSchema s) = false := h1
    refine OW_run' hE.ok 5 rfl ?_
    refine OW_end rfl ?_
    refine CW_cond _ rfl (fun h2 => ?_) (fun h2 => ?_)
    · skip
      skip
      refine CW_seq ?_
      refine CW_region ?_
      refine OW_run' hE.ok 1 rfl ?_
      refine OW_end rfl ?_
      refine CW_ret ?_
      refine ⟨.inr rfl, rfl, ⟨_, rfl, rfl, ?_⟩, rfl⟩
      exact AVle.refl _
    · skip
      have hv : e.vals.length ≤ 20 := by have := h2; rw [List.length_map] at this; simp at this; omega
      refine CW_skip ?_
      refine CW_seq ?_
      have hs : isSchema s = true := by simpa using w1
      refine CW_region ?_
      refine OW_run' hE.ok 2 rfl ?_
      refine OW_call' hE (applyOk s c hs) rfl rfl rfl rfl rfl rfl rfl ?_
      refine OW_run' hE.ok 3 rfl ?_
      refine OW_alloc' hE 1 rfl rfl rfl rfl rfl rfl rfl ?_
      refine OW_store' hE rfl rfl rfl rfl rfl rfl rfl rfl rfl rfl rfl rfl ?_
      refine OW_run' hE.ok 1 rfl ?_
      refine OW_end rfl ?_
      refine CW_seq ?_
      refine CW_seq ?_
      refine CW_region ?_
      refine OW_run' hE.ok 1 rfl ?_
      refine OW_loc' hE (loc_errNe hE rfl rfl rfl) rfl rfl rfl ?_
      refine OW_end rfl ?_
      refine CW_cond _ rfl (fun h3 => ?_) (fun h3 => ?_)
      · skip
        have he : ((applyX s c).2 != 0) = true := h3
        have hb := apply_err (s := s) (c := c) (by simpa using he)
        refine CW_seq ?_
        refine CW_region ?_
        refine OW_run' hE.ok 2 rfl ?_
        refine OW_call' hE ((by have hq := refSameSOk (applyX s c).1 s; rw [show sameS (applyX s c).1 s = true by rw [hb]; exact sS_refl s] at hq; exact hq)) rfl rfl rfl rfl rfl rfl rfl ?_
        refine OW_run' hE.ok 1 rfl ?_
        refine OW_end rfl ?_
        refine CW_ret ?_
        refine ⟨.inr rfl, rfl, ⟨_, rfl, rfl, ?_⟩, rfl⟩
        exact AVle.refl _
      · skip
        have he : ((applyX s c).2 != 0) = false := h3
        have h0 : (applyX s c).2 = 0 := by simpa using he
        have hA := apply_ok_iff s c h0
        have hr := apply_right hs hA
        refine CW_skip ?_
        refine CW_seq ?_
        refine CW_seq ?_
        refine CW_region ?_
        refine OW_run' hE.ok 1 rfl ?_
        refine OW_call' hE ((by have hq := refIsSOk (applyX s c).1; rw [hr.1] at hq; exact hq)) rfl rfl rfl rfl rfl rfl rfl ?_
        refine OW_run' hE.ok 4 rfl ?_
        refine OW_call' hE ((by have hq := refSameSOk (applyX s c).1 s; rw [hr.2] at hq; exact hq)) rfl rfl rfl rfl rfl rfl rfl ?_
        refine OW_run' hE.ok 1 rfl ?_
        refine OW_end rfl ?_
        refine CW_false rfl ?_
        refine CW_skip ?_
        refine CW_seq ?_
        refine CW_drawn' hE 10 (by decide +kernel) ?_
        refine HW_run hE 2 rfl rfl ?_
        refine HW_call hE (refIsEOk s e) rfl rfl rfl rfl rfl rfl rfl rfl ?_
        refine HW_run hE 2 rfl rfl ?_
        refine HW_split 43 rfl (fun h4 => ?_) (fun h4 => ?_)
        · skip
          have w3 : (evtR s e != 0) = true := h4
          refine HW_run hE 5 rfl rfl ?_
          refine HW_end ?_
          refine OW_run' hE.ok 4 rfl ?_
          refine OW_end rfl ?_
          refine CW_ret ?_
          refine ⟨.inr rfl, rfl, ⟨_, rfl, rfl, ?_⟩, rfl⟩
          exact AVle.refl _
        · skip
          have w3 : (evtR s e != 0) = false := h4
          refine HW_run hE 4 rfl rfl ?_
          refine HW_call hE (moveOk s c e hs (by omega)) rfl rfl rfl rfl rfl rfl rfl rfl ?_
          refine HW_end ?_
          have he0 : evtR s e = 0 := by simpa using w3
          have hm := move_right hA he0
          refine OW_call' hE ((by have hq := refIsEOk (applyX s c).1 (moveX s c e); rw [hm] at hq; exact hq)) rfl rfl rfl rfl rfl rfl rfl ?_
          refine OW_run' hE.ok 3 rfl ?_
          refine OW_end rfl ?_
          refine CW_ret ?_
          refine ⟨.inr rfl, rfl, ⟨_, rfl, rfl, ?_⟩, rfl⟩
          exact AVle.refl _

end Go.Proofs.Ytchpllgeahnmmaa
