/- Parts of an abstract logic over the kit's walks, and walks in it: P4mo. -/
import Derived.Test.YtojnicnbmgiplaaPxc
import Derived.Test.YtojnicnbmgiplaaMa
import Derived.Test.YtojnicnbmgiplaaAf
import Derived.Test.YtojnicnbmgiplaaKp
namespace Go.Proofs.Ytojnicnbmgiplaa
open Go Go.AL
set_option linter.unusedVariables false
set_option linter.unusedSimpArgs false
set_option maxHeartbeats 4000000
theorem orOk (ks : List Int) (hk : ks.length ≤ 100) : Does Try.prog 47 [.d (.sl 1 8 (intRow ks))] noHeap (.d (int (orL ks))) := by
  refine Does_of T_ok mixed (N := 18) Try.func47 rfl rfl rfl (by rfl) fun F n Z hE hF J => ?_
  refine CW_seq ?_
  refine CW_region ?_
  refine OW_run' hE.ok 1 rfl ?_
  refine OW_end rfl ?_
  refine CW_seq ?_
  refine CW_region ?_
  refine OW_run' hE.ok 1 rfl ?_
  refine OW_end rfl ?_
  refine CW_seq ?_
  refine CW_seq ?_
  refine CW_region ?_
  refine OW_run' hE.ok 3 rfl ?_
  refine OW_end rfl ?_
  refine CW_block ?_
  refine CW_loop (σ := {i : Nat // i ≤ ks.length ∧ orL ks = orL (ks.drop i)}) (fun i => ⟨J, (sset (sset (sset (sset noSlots 3 (.d (int 0))) 6 (.d (.sl 1 8 (intRow ks)))) 7 (.d (int ((ks.length : Nat) : Int)))) 8 (.d (int ((i.1 : Nat) : Int)))), noHeap⟩) (fun i => ks.length - i.1) ⟨0, Nat.zero_le _, rfl⟩ (LE_sh (slh_set (slh_set (slh_set (slh_set (slh_no _ _) rfl rfl) rfl rfl) (by show AV.d (.lit (.int .i64 ((intRow ks).length : Int))) = _; rw [intRow_len]; rfl) rfl) rfl rfl) (hlh_no _ _)) fun ⟨i, hi, hp⟩ => ?_
  refine CW_seq ?_
  refine CW_region ?_
  refine OW_run' hE.ok 1 rfl ?_
  refine OW_end rfl ?_
  refine CW_seq ?_
  refine CW_cond _ rfl (fun h1 => ?_) (fun h1 => ?_)
  · skip
    have hlt : i < ks.length := by have := h1; simp at this; omega
    obtain ⟨x, hx⟩ : ∃ x, ks[i]? = some x := ⟨_, List.getElem?_eq_getElem hlt⟩
    refine CW_skip ?_
    refine CW_seq ?_
    refine CW_block ?_
    refine CW_seq ?_
    refine CW_region ?_
    refine OW_loc' hE (loc_indexAddr hE rfl rfl rfl rfl rfl (by omega) (x := [.lit (.int .i64 x)]) (intRow_get hx)) rfl rfl rfl ?_
    refine OW_run' hE.ok 2 rfl ?_
    refine OW_end rfl ?_
    refine CW_seq ?_
    refine CW_region ?_
    refine OW_run' hE.ok 3 rfl ?_
    refine OW_end rfl ?_
    refine CW_cond _ rfl (fun h2 => ?_) (fun h2 => ?_)
    · skip
      have g1 : (x != 0) = true := h2
      refine CW_seq ?_
      refine CW_region ?_
      refine OW_run' hE.ok 2 rfl ?_
      refine OW_end rfl ?_
      refine CW_ret ?_
      refine ⟨.inr rfl, rfl, ⟨[.d (int x)], rfl, rfl, ?_⟩, rfl⟩
      rw [hp, orL_at hx, g1]
      exact AVle.refl _
    · skip
      have g1 : (x != 0) = false := h2
      refine CW_skip ?_
      refine CW_region ?_
      refine OW_run' hE.ok 2 rfl ?_
      refine OW_end rfl ?_
      refine ⟨⟨i + 1, by omega, hp.trans ((orL_at hx).trans (by rw [g1]; rfl))⟩, LE_sh (slh_set (v := .d (int ((i + 1 : Nat) : Int))) (slh_set (v := .d (int ((ks.length : Nat) : Int))) (slh_set (v := .d (.sl 1 8 (intRow ks))) (slh_set (v := .d (int 0)) (slh_no _ _) (by rfl) rfl) (by rfl) rfl) (by rfl) rfl) (by show AV.d (.lit (.int .i64 (IntKind.i64.wrap ((i : Int) + 1)))) = _; rw [wrap_succ (by omega)]; rfl) rfl) (hlh_no _ _), by show ks.length - (i + 1) < ks.length - i; omega⟩
  · skip
    have hge : ks.length ≤ i := by have := h1; simp at this; omega
    refine CW_exit ?_
    show CW _ _ _ _
    refine CW_seq ?_
    refine CW_region ?_
    refine OW_run' hE.ok 2 rfl ?_
    refine OW_end rfl ?_
    refine CW_ret ?_
    refine ⟨.inr rfl, rfl, ⟨[.d (int 0)], rfl, rfl, ?_⟩, rfl⟩
    rw [hp, orL_end hge]
    exact AVle.refl _

end Go.Proofs.Ytojnicnbmgiplaa
