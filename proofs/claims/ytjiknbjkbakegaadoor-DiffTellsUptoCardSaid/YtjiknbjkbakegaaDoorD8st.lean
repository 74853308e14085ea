/- Parts of an abstract logic over the kit's walks, and walks in it: D8st. -/
import Derived.Test.YtjiknbjkbakegaaDoorD8tw
import Derived.Test.YtjiknbjkbakegaaDoorD8y
import Derived.Test.YtjiknbjkbakegaaDoorD8w
import Derived.Test.YtjiknbjkbakegaaDoorD8rd
import Derived.Test.YtjiknbjkbakegaaDoorD8q
import Derived.Test.YtjiknbjkbakegaaDoorD8d3
namespace Go.Proofs.YtjiknbjkbakegaaDoor
open Go Go.AL
set_option linter.unusedVariables false
set_option linter.unusedSimpArgs false
set_option maxHeartbeats 4000000
theorem diffTellsOk (p q : Pat) (d : Dl) (hn : -9223372036854775808 ≤ d.pl ∧ d.pl ≤ 9223372036854775807) (hp : ∀ e ∈ p.els, (nodesX e.cond 1).length ≤ 1048576) (hq : ∀ e ∈ q.els, (nodesX e.cond 1).length ≤ 1048576) : DoesW Tryd.prog Tab 3 [argP p, argP q, .agg ((encDl d).map .d)] (.d (boo true)) := by
  refine DoesW_of tab_grew T_ok mixed (N := 38) Tryd.func3 rfl rfl rfl (by rfl) fun F n Z hE hF J hJ => ?_
  refine CW_seq ?_
  refine CW_region ?_
  refine OW_run' hE.ok 4 rfl ?_
  refine OW_end rfl ?_
  refine CW_seq ?_
  refine CW_seq ?_
  refine CW_region ?_
  refine OW_call' hE (known19) rfl rfl rfl rfl rfl rfl rfl ?_
  refine OW_run' hE.ok 1 rfl ?_
  refine OW_end rfl ?_
  refine CW_false rfl ?_
  refine CW_skip ?_
  refine CW_seq ?_
  refine CW_seq ?_
  refine CW_region ?_
  refine OW_run' hE.ok 1 rfl ?_
  refine OW_call' hE (wideOk p hp) rfl rfl rfl rfl rfl rfl rfl ?_
  refine OW_run' hE.ok 1 rfl ?_
  refine OW_split' 11 rfl (fun h1 => ?_) (fun h1 => ?_)
  · skip
    refine OW_run' hE.ok 3 rfl ?_
    refine OW_end rfl ?_
    refine CW_true rfl ?_
    refine CW_seq ?_
    refine CW_region ?_
    refine OW_run' hE.ok 1 rfl ?_
    refine OW_end rfl ?_
    refine CW_ret ?_
    refine ⟨.inr rfl, rfl, ⟨[.d (boo true)], rfl, rfl, ?_⟩, rfl⟩
    exact AVle.refl _
  · skip
    have wp : wideP p = false := h1
    have hpl : p.els.length ≤ 1000 := by have := wide_len wp; omega
    refine OW_run' hE.ok 1 rfl ?_
    refine OW_call' hE (wideOk q hq) rfl rfl rfl rfl rfl rfl rfl ?_
    refine OW_run' hE.ok 1 rfl ?_
    refine OW_end rfl ?_
    refine CW_cond _ rfl (fun h2 => ?_) (fun h2 => ?_)
    · skip
      refine CW_seq ?_
      refine CW_region ?_
      refine OW_run' hE.ok 1 rfl ?_
      refine OW_end rfl ?_
      refine CW_ret ?_
      refine ⟨.inr rfl, rfl, ⟨[.d (boo true)], rfl, rfl, ?_⟩, rfl⟩
      exact AVle.refl _
    · skip
      have wq : wideP q = false := h2
      have hql : q.els.length ≤ 1000 := by have := wide_len wq; omega
      have d1 := diffOk p q hpl
      have d2 := refDiffOk p q hpl hql
      have e := shr_same p q
      obtain ⟨X, hX⟩ : ∃ z, difX (normP p) (normP q) = z := ⟨_, rfl⟩
      rw [hX] at d1 d2 e
      have d3 := sameDsOk X X
      rw [sameD_self] at d3
      have s1 := shrOk p q hpl
      have s2 := refShrOk p q X d2
      rw [e] at s2
      refine CW_skip ?_
      refine CW_seq ?_
      refine CW_drawn' hE 20 (by decide +kernel) ?_
      refine HW_run hE 2 rfl rfl ?_
      refine HW_call hE (d1) rfl rfl rfl rfl rfl rfl rfl rfl ?_
      refine HW_run hE 2 rfl rfl ?_
      refine HW_call hE (d2) rfl rfl rfl rfl rfl rfl rfl rfl ?_
      refine HW_call hE (d3) rfl rfl rfl rfl rfl rfl rfl rfl ?_
      refine HW_run hE 3 rfl rfl ?_
      refine HW_call hE (s1) rfl rfl rfl rfl rfl rfl rfl rfl ?_
      refine HW_run hE 2 rfl rfl ?_
      refine HW_call hE (s2) rfl rfl rfl rfl rfl rfl rfl rfl ?_
      refine HW_run hE 1 rfl rfl ?_
      refine HW_as 29 (.d (boo true)) (by refine congrArg (fun b => AV.d (boo b)) ?_; exact beq_self_eq_true _) ?_
      refine HW_run hE 3 rfl rfl ?_
      refine HW_callW hE (textW d hn) hJ rfl rfl rfl rfl rfl rfl rfl rfl ?_
      refine HW_run hE 1 rfl rfl ?_
      refine HW_end ?_
      refine OW_call' hE (dTextOk d hn) rfl rfl rfl rfl rfl rfl rfl ?_
      refine OW_run' hE.ok 1 rfl ?_
      refine OW_as' 36 (.d (boo true)) (by refine congrArg (fun b => AV.d (boo b)) ?_; exact same_refl _) ?_
      refine OW_run' hE.ok 2 rfl ?_
      refine OW_end rfl ?_
      refine CW_ret ?_
      refine ⟨.inr rfl, rfl, ⟨[.d (boo true)], rfl, rfl, ?_⟩, rfl⟩
      exact AVle.refl _
end Go.Proofs.YtjiknbjkbakegaaDoor
