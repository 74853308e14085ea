/- Parts of an abstract logic over the kit's walks, and walks in it: D8sa. -/
import Derived.Test.YtjiknbjkbakegaaDoorD8y
import Derived.Test.YtjiknbjkbakegaaDoorD8w
import Derived.Test.YtjiknbjkbakegaaDoorD8e
namespace Go.Proofs.YtjiknbjkbakegaaDoor
open Go Go.AL
set_option linter.unusedVariables false
set_option linter.unusedSimpArgs false
set_option maxHeartbeats 4000000
theorem diffSameOk (p q : Pat) (hp : ∀ e ∈ p.els, (nodesX e.cond 1).length ≤ 1048576) (hq : ∀ e ∈ q.els, (nodesX e.cond 1).length ≤ 1048576) : Does Tryd.prog 4 [argP p, argP q] noHeap (.d (boo true)) := by
  refine Does_of T_ok mixed (N := 43) Tryd.func4 rfl rfl rfl (by rfl) fun F n Z hE hF J => ?_
  have c5 := refSamePOk (normP p) (normP q)
  refine CW_seq ?_
  refine CW_region ?_
  refine OW_run' hE.ok 3 rfl ?_
  refine OW_end rfl ?_
  refine CW_seq ?_
  refine CW_seq ?_
  refine CW_region ?_
  refine OW_call' hE (known19) rfl rfl rfl rfl rfl rfl rfl ?_
  refine OW_run' hE.ok 1 rfl ?_
  refine OW_end rfl ?_
  refine CW_false rfl ?_
  refine CW_skip ?_
  refine CW_seq ?_
  refine CW_seq ?_
  refine CW_region ?_
  refine OW_run' hE.ok 1 rfl ?_
  refine OW_call' hE (wideOk p hp) rfl rfl rfl rfl rfl rfl rfl ?_
  refine OW_run' hE.ok 1 rfl ?_
  refine OW_split' 11 rfl (fun h1 => ?_) (fun h1 => ?_)
  · skip
    refine OW_run' hE.ok 3 rfl ?_
    refine OW_end rfl ?_
    refine CW_true rfl ?_
    refine CW_seq ?_
    refine CW_region ?_
    refine OW_run' hE.ok 1 rfl ?_
    refine OW_end rfl ?_
    refine CW_ret ?_
    refine ⟨.inr rfl, rfl, ⟨[.d (boo true)], rfl, rfl, ?_⟩, rfl⟩
    exact AVle.refl _
  · skip
    have wp : wideP p = false := h1
    have hpl : p.els.length ≤ 1000 := by have := wide_len wp; omega
    refine OW_run' hE.ok 1 rfl ?_
    refine OW_call' hE (wideOk q hq) rfl rfl rfl rfl rfl rfl rfl ?_
    refine OW_run' hE.ok 1 rfl ?_
    refine OW_end rfl ?_
    refine CW_cond _ rfl (fun h2 => ?_) (fun h2 => ?_)
    · skip
      refine CW_seq ?_
      refine CW_region ?_
      refine OW_run' hE.ok 1 rfl ?_
      refine OW_end rfl ?_
      refine CW_ret ?_
      refine ⟨.inr rfl, rfl, ⟨[.d (boo true)], rfl, rfl, ?_⟩, rfl⟩
      exact AVle.refl _
    · skip
      have wq : wideP q = false := h2
      have hql : q.els.length ≤ 1000 := by have := wide_len wq; omega
      have d1 := diffOk p q hpl
      have d2 := diffOk q p hql
      rw [difX_comm] at d2
      have d3 := diffOk p (normP p) hpl
      rw [normP_once, difX_self] at d3
      have n0 := difX_nil (normP p) (normP q)
      obtain ⟨X, hX⟩ : ∃ z, difX (normP p) (normP q) = z := ⟨_, rfl⟩
      rw [hX] at d1 d2 n0
      have d4 := sameDsOk X X
      rw [sameD_self] at d4
      refine CW_skip ?_
      refine CW_seq ?_
      refine CW_drawn' hE 5 (by decide +kernel) ?_
      refine HW_run hE 2 rfl rfl ?_
      refine HW_call hE (d1) rfl rfl rfl rfl rfl rfl rfl rfl ?_
      refine HW_run hE 2 rfl rfl ?_
      refine HW_end ?_
      refine OW_call' hE (d2) rfl rfl rfl rfl rfl rfl rfl ?_
      refine OW_run' hE.ok 2 rfl ?_
      refine OW_end rfl ?_
      refine CW_seq ?_
      refine CW_drawn' hE 18 (by decide +kernel) ?_
      refine HW_run hE 4 rfl rfl ?_
      refine HW_call hE (refNormPOk p hpl) rfl rfl rfl rfl rfl rfl rfl rfl ?_
      refine HW_run hE 1 rfl rfl ?_
      refine HW_call hE (refNormPOk q hql) rfl rfl rfl rfl rfl rfl rfl rfl ?_
      refine HW_call hE (c5) rfl rfl rfl rfl rfl rfl rfl rfl ?_
      refine HW_run hE 1 rfl rfl ?_
      refine HW_as 29 (.d (boo true)) (by refine congrArg (fun b => AV.d (boo b)) ?_; show ((((X.map encDl).length : Int) == 0) == sameP (normP p) (normP q)) = true; rw [List.length_map, eq0N', n0]; exact beq_self_eq_true _) ?_
      refine HW_run hE 3 rfl rfl ?_
      refine HW_call hE (d4) rfl rfl rfl rfl rfl rfl rfl rfl ?_
      refine HW_run hE 4 rfl rfl ?_
      refine HW_call hE (refNormPOk p hpl) rfl rfl rfl rfl rfl rfl rfl rfl ?_
      refine HW_end ?_
      refine OW_call' hE (d3) rfl rfl rfl rfl rfl rfl rfl ?_
      refine OW_run' hE.ok 4 rfl ?_
      refine OW_end rfl ?_
      refine CW_ret ?_
      refine ⟨.inr rfl, rfl, ⟨[.d (boo true)], rfl, rfl, ?_⟩, rfl⟩
      exact AVle.refl _
end Go.Proofs.YtjiknbjkbakegaaDoor
