/- Parts of an abstract logic over the kit's walks, and walks in it: N2t. -/
import Derived.Test.YthffbfjnahipcaaN2m
namespace Go.Proofs.Ythffbfjnahipcaa
open Go Go.AL
set_option linter.unusedVariables false
set_option linter.unusedSimpArgs false
set_option maxHeartbeats 4000000
theorem normTellsOk (x : Exp) (p q : Pat) (hx : (nodesX x 1).length ≤ 1048576) (hp : ∀ e ∈ p.els, (nodesX e.cond 1).length ≤ 1048576) (hq : ∀ e ∈ q.els, (nodesX e.cond 1).length ≤ 1048576) : Does Try.prog 7 [argX x, argP p, argP q] noHeap (.d (boo true)) := by
  refine Does_of T_ok mixed (N := 52) Try.func7 rfl rfl rfl (by rfl) fun F n Z hE hF J => ?_
  have c1 := refNodesOk x hx
  have c2 := normEOk x
  have c3 := refNormEOk x
  have c4 := refSameXOk (normE x) (normE x)
  rw [sameX_self] at c4
  have c5 := refSamePOk (normP p) (normP p)
  rw [sameP_self] at c5
  obtain ⟨o3, v3, a3, f3, k3, hN⟩ := Exp.shape (normE x)
  rw [hN] at c2 c3 c4
  clear hN
  obtain ⟨o1, v1, a1, f1, k1, rfl⟩ := Exp.shape x
  refine CW_seq ?_
  refine CW_region ?_
  refine OW_run' hE.ok 4 rfl ?_
  refine OW_end rfl ?_
  refine CW_seq ?_
  refine CW_seq ?_
  refine CW_region ?_
  refine OW_call' hE (known12) rfl rfl rfl rfl rfl rfl rfl ?_
  refine OW_run' hE.ok 1 rfl ?_
  refine OW_end rfl ?_
  refine CW_false rfl ?_
  refine CW_skip ?_
  refine CW_seq ?_
  refine CW_seq ?_
  refine CW_region ?_
  refine OW_run' hE.ok 1 rfl ?_
  refine OW_call' hE (c1) rfl rfl rfl rfl rfl rfl rfl ?_
  refine OW_run' hE.ok 3 rfl ?_
  refine OW_split' 13 rfl (fun h1 => ?_) (fun h1 => ?_)
  · skip
    refine OW_run' hE.ok 7 rfl ?_
    refine OW_end rfl ?_
    refine CW_true rfl ?_
    refine CW_seq ?_
    refine CW_region ?_
    refine OW_run' hE.ok 1 rfl ?_
    refine OW_end rfl ?_
    refine CW_ret ?_
    refine ⟨.inr rfl, rfl, ⟨[.d (boo true)], rfl, rfl, ?_⟩, rfl⟩
    exact AVle.refl _
  · skip
    refine OW_run' hE.ok 1 rfl ?_
    refine OW_call' hE (wideOk p hp) rfl rfl rfl rfl rfl rfl rfl ?_
    refine OW_run' hE.ok 2 rfl ?_
    refine OW_split' 17 rfl (fun h2 => ?_) (fun h2 => ?_)
    · skip
      refine OW_run' hE.ok 3 rfl ?_
      refine OW_end rfl ?_
      refine CW_true rfl ?_
      refine CW_seq ?_
      refine CW_region ?_
      refine OW_run' hE.ok 1 rfl ?_
      refine OW_end rfl ?_
      refine CW_ret ?_
      refine ⟨.inr rfl, rfl, ⟨[.d (boo true)], rfl, rfl, ?_⟩, rfl⟩
      exact AVle.refl _
    · skip
      have wp : wideP p = false := h2
      have hpl : p.els.length ≤ 1000 := by have := wide_len wp; omega
      refine OW_run' hE.ok 1 rfl ?_
      refine OW_call' hE (wideOk q hq) rfl rfl rfl rfl rfl rfl rfl ?_
      refine OW_run' hE.ok 1 rfl ?_
      refine OW_end rfl ?_
      refine CW_cond _ rfl (fun h3 => ?_) (fun h3 => ?_)
      · skip
        refine CW_seq ?_
        refine CW_region ?_
        refine OW_run' hE.ok 1 rfl ?_
        refine OW_end rfl ?_
        refine CW_ret ?_
        refine ⟨.inr rfl, rfl, ⟨[.d (boo true)], rfl, rfl, ?_⟩, rfl⟩
        exact AVle.refl _
      · skip
        refine CW_skip ?_
        refine CW_seq ?_
        refine CW_seq ?_
        refine CW_drawn' hE 10 (by decide +kernel) ?_
        refine HW_run hE 1 rfl rfl ?_
        refine HW_call hE (c2) rfl rfl rfl rfl rfl rfl rfl rfl ?_
        refine HW_run hE 1 rfl rfl ?_
        refine HW_call hE (c3) rfl rfl rfl rfl rfl rfl rfl rfl ?_
        refine HW_call hE (c4) rfl rfl rfl rfl rfl rfl rfl rfl ?_
        refine HW_run hE 3 rfl rfl ?_
        refine HW_call hE (normPOk p) rfl rfl rfl rfl rfl rfl rfl rfl ?_
        refine HW_run hE 1 rfl rfl ?_
        refine HW_end ?_
        refine OW_call' hE (refNormPOk p hpl) rfl rfl rfl rfl rfl rfl rfl ?_
        refine OW_call' hE (c5) rfl rfl rfl rfl rfl rfl rfl ?_
        refine OW_run' hE.ok 2 rfl ?_
        refine OW_end rfl ?_
        refine CW_false rfl ?_
        refine CW_skip ?_
        refine CW_seq ?_
        refine CW_drawn' hE 14 (by decide +kernel) ?_
        refine HW_run hE 1 rfl rfl ?_
        refine HW_call hE (refIsPatOk p) rfl rfl rfl rfl rfl rfl rfl rfl ?_
        refine HW_run hE 2 rfl rfl ?_
        refine HW_split 38 rfl (fun h4 => ?_) (fun h4 => ?_)
        · skip
          refine HW_run hE 10 rfl rfl ?_
          refine HW_end ?_
          refine OW_run' hE.ok 4 rfl ?_
          refine OW_end rfl ?_
          refine CW_ret ?_
          refine ⟨.inr rfl, rfl, ⟨[.d (boo true)], rfl, rfl, ?_⟩, rfl⟩
          exact AVle.refl _
        · skip
          refine HW_run hE 1 rfl rfl ?_
          refine HW_call hE (refIsPatOk q) rfl rfl rfl rfl rfl rfl rfl rfl ?_
          refine HW_run hE 3 rfl rfl ?_
          refine HW_split 43 rfl (fun h5 => ?_) (fun h5 => ?_)
          · skip
            refine HW_run hE 5 rfl rfl ?_
            refine HW_end ?_
            refine OW_run' hE.ok 4 rfl ?_
            refine OW_end rfl ?_
            refine CW_ret ?_
            refine ⟨.inr rfl, rfl, ⟨[.d (boo true)], rfl, rfl, ?_⟩, rfl⟩
            exact AVle.refl _
          · skip
            refine HW_run hE 2 rfl rfl ?_
            refine HW_call hE (equalOk p q hpl) rfl rfl rfl rfl rfl rfl rfl rfl ?_
            refine HW_run hE 2 rfl rfl ?_
            refine HW_end ?_
            refine OW_call' hE (refEqualOk p q hpl) rfl rfl rfl rfl rfl rfl rfl ?_
            refine OW_run' hE.ok 1 rfl ?_
            refine OW_as' 50 (.d (boo true)) (by refine congrArg (fun b => AV.d (boo b)) ?_; simp) ?_
            refine OW_run' hE.ok 2 rfl ?_
            refine OW_end rfl ?_
            refine CW_ret ?_
            refine ⟨.inr rfl, rfl, ⟨[.d (boo true)], rfl, rfl, ?_⟩, rfl⟩
            exact AVle.refl _
end Go.Proofs.Ythffbfjnahipcaa
