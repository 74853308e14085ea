/- Parts of an abstract logic over the kit's walks, and walks in it: N2o. -/
import Derived.Test.YthffbfjnahipcaaN2m
import Derived.Test.YthffbfjnahipcaaNrm2
namespace Go.Proofs.Ythffbfjnahipcaa
open Go Go.AL
set_option linter.unusedVariables false
set_option linter.unusedSimpArgs false
set_option maxHeartbeats 4000000
theorem normOnceOk (x : Exp) (p : Pat) (hx : (nodesX x 1).length ≤ 1048576) (hp : ∀ e ∈ p.els, (nodesX e.cond 1).length ≤ 1048576) : Does Try.prog 9 [argX x, argP p] noHeap (.d (boo true)) := by
  refine Does_of T_ok mixed (N := 56) Try.func9 rfl rfl rfl (by rfl) fun F n Z hE hF J => ?_
  have k1 := normEOk x
  have k2 := normEOk (normE x)
  rw [normE_once] at k2
  have k3 := refSameXOk (normE x) (normE x)
  rw [sameX_self] at k3
  obtain ⟨l1, l2⟩ := normE_less x
  have k4 := refNodesOk (normE x) (by omega)
  have k5 := refNodesOk x hx
  have k6 := refDepthOk (normE x)
  have k7 := refDepthOk x
  have k8 := normPOk (normP p)
  rw [normP_once] at k8
  have k9 := refSamePOk (normP p) (normP p)
  rw [sameP_self] at k9
  obtain ⟨o3, v3, a3, f3, k3', hN⟩ := Exp.shape (normE x)
  rw [hN] at k1 k2 k3 k4 k6 l1 l2
  clear hN
  obtain ⟨o1, v1, a1, f1, k1', rfl⟩ := Exp.shape x
  refine CW_seq ?_
  refine CW_region ?_
  refine OW_run' hE.ok 3 rfl ?_
  refine OW_end rfl ?_
  refine CW_seq ?_
  refine CW_seq ?_
  refine CW_region ?_
  refine OW_call' hE (known12) rfl rfl rfl rfl rfl rfl rfl ?_
  refine OW_run' hE.ok 1 rfl ?_
  refine OW_end rfl ?_
  refine CW_false rfl ?_
  refine CW_skip ?_
  refine CW_seq ?_
  refine CW_seq ?_
  refine CW_region ?_
  refine OW_run' hE.ok 1 rfl ?_
  refine OW_call' hE (k5) rfl rfl rfl rfl rfl rfl rfl ?_
  refine OW_run' hE.ok 3 rfl ?_
  refine OW_split' 13 rfl (fun h1 => ?_) (fun h1 => ?_)
  · skip
    refine OW_run' hE.ok 3 rfl ?_
    refine OW_end rfl ?_
    refine CW_true rfl ?_
    refine CW_seq ?_
    refine CW_region ?_
    refine OW_run' hE.ok 1 rfl ?_
    refine OW_end rfl ?_
    refine CW_ret ?_
    refine ⟨.inr rfl, rfl, ⟨[.d (boo true)], rfl, rfl, ?_⟩, rfl⟩
    exact AVle.refl _
  · skip
    refine OW_run' hE.ok 1 rfl ?_
    refine OW_call' hE (wideOk p hp) rfl rfl rfl rfl rfl rfl rfl ?_
    refine OW_run' hE.ok 1 rfl ?_
    refine OW_end rfl ?_
    refine CW_cond _ rfl (fun h2 => ?_) (fun h2 => ?_)
    · skip
      refine CW_seq ?_
      refine CW_region ?_
      refine OW_run' hE.ok 1 rfl ?_
      refine OW_end rfl ?_
      refine CW_ret ?_
      refine ⟨.inr rfl, rfl, ⟨[.d (boo true)], rfl, rfl, ?_⟩, rfl⟩
      exact AVle.refl _
    · skip
      refine CW_skip ?_
      refine CW_seq ?_
      refine CW_region ?_
      refine OW_run' hE.ok 1 rfl ?_
      refine OW_call' hE (k1) rfl rfl rfl rfl rfl rfl rfl ?_
      refine OW_alloc' hE 1 rfl rfl rfl rfl rfl rfl rfl ?_
      refine OW_store' hE rfl rfl rfl rfl rfl rfl rfl rfl rfl rfl rfl rfl ?_
      refine OW_end rfl ?_
      refine CW_seq ?_
      refine CW_region ?_
      refine OW_run' hE.ok 1 rfl ?_
      refine OW_call' hE (normPOk p) rfl rfl rfl rfl rfl rfl rfl ?_
      refine OW_alloc' hE 2 rfl rfl rfl rfl rfl rfl rfl ?_
      refine OW_store' hE rfl rfl rfl rfl rfl rfl rfl rfl rfl rfl rfl rfl ?_
      refine OW_end rfl ?_
      refine CW_seq ?_
      refine CW_drawn' hE 33 (by decide +kernel) ?_
      refine HW_run hE 1 rfl rfl ?_
      refine HW_call hE (k2) rfl rfl rfl rfl rfl rfl rfl rfl ?_
      refine HW_run hE 1 rfl rfl ?_
      refine HW_call hE (k3) rfl rfl rfl rfl rfl rfl rfl rfl ?_
      refine HW_run hE 2 rfl rfl ?_
      refine HW_call hE (k4) rfl rfl rfl rfl rfl rfl rfl rfl ?_
      refine HW_run hE 2 rfl rfl ?_
      refine HW_call hE (k5) rfl rfl rfl rfl rfl rfl rfl rfl ?_
      refine HW_run hE 1 rfl rfl ?_
      refine HW_run hE 1 rfl rfl ?_
      refine HW_as 32 (.d (boo true)) (by refine congrArg (fun b => AV.d (boo b)) ?_; simp only [encXs_length]; simp; omega) ?_
      refine HW_run hE 3 rfl rfl ?_
      refine HW_call hE (k6) rfl rfl rfl rfl rfl rfl rfl rfl ?_
      refine HW_run hE 1 rfl rfl ?_
      refine HW_call hE (k7) rfl rfl rfl rfl rfl rfl rfl rfl ?_
      refine HW_run hE 1 rfl rfl ?_
      refine HW_as 39 (.d (boo true)) (by refine congrArg (fun b => AV.d (boo b)) ?_; simp; omega) ?_
      refine HW_run hE 3 rfl rfl ?_
      refine HW_call hE (k8) rfl rfl rfl rfl rfl rfl rfl rfl ?_
      refine HW_run hE 1 rfl rfl ?_
      refine HW_call hE (k9) rfl rfl rfl rfl rfl rfl rfl rfl ?_
      refine HW_run hE 8 rfl rfl ?_
      refine HW_end ?_
      refine OW_run' hE.ok 1 rfl ?_
      refine OW_as' 54 (.d (boo true)) (by refine congrArg (fun b => AV.d (boo b)) ?_; simp [normP]) ?_
      refine OW_run' hE.ok 2 rfl ?_
      refine OW_end rfl ?_
      refine CW_ret ?_
      refine ⟨.inr rfl, rfl, ⟨[.d (boo true)], rfl, rfl, ?_⟩, rfl⟩
      exact AVle.refl _
end Go.Proofs.Ythffbfjnahipcaa
