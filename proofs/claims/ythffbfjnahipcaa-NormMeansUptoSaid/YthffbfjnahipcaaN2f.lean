/- Parts of an abstract logic over the kit's walks, and walks in it: N2f. -/
import Derived.Test.YthffbfjnahipcaaN2b
namespace Go.Proofs.Ythffbfjnahipcaa
open Go Go.AL
set_option linter.unusedVariables false
set_option linter.unusedSimpArgs false
set_option maxHeartbeats 4000000
theorem refDepthStep (op : Int) (v : Vl) (al fi : ByteArray) (ks : List Exp) (lf : Nat) (hl : lf ≤ 20) (ih : ∀ k ∈ ks, ∀ l : Nat, l ≤ 20 → Does Try.prog 79 [argX k, .d (int ((l : Nat) : Int))] noHeap (.d (int (depthX k (21 - l))))) : Does Try.prog 79 [argX (.mk op v al fi ks), .d (int ((lf : Nat) : Int))] noHeap (.d (int (depthX (.mk op v al fi ks) (21 - lf)))) := by
  refine Does_of T_ok mixed (N := 33) Try.func79 rfl rfl rfl (by rfl) fun F n Z hE hF J => ?_
  refine CW_seq ?_
  refine CW_region ?_
  refine OW_run' hE.ok 2 rfl ?_
  refine OW_end rfl ?_
  refine CW_seq ?_
  refine CW_seq ?_
  refine CW_region ?_
  refine OW_run' hE.ok 4 rfl ?_
  refine OW_split' 10 rfl (fun h1 => ?_) (fun h1 => ?_)
  · skip
    have h0 : (op == 0 || decide (((21 - lf : Nat) : Int) > 20)) = true := by have := h1; simp_all
    refine OW_run' hE.ok 3 rfl ?_
    refine OW_end rfl ?_
    refine CW_true rfl ?_
    refine CW_seq ?_
    refine CW_region ?_
    refine OW_run' hE.ok 1 rfl ?_
    refine OW_end rfl ?_
    refine CW_ret ?_
    refine ⟨.inr rfl, rfl, ⟨_, rfl, rfl, ?_⟩, rfl⟩
    unfold depthX; rw [h0]
    exact AVle.refl _
  · skip
    refine OW_run' hE.ok 3 rfl ?_
    refine OW_end rfl ?_
    refine CW_cond _ rfl (fun h2 => ?_) (fun h2 => ?_)
    · skip
      have h0 : (op == 0 || decide (((21 - lf : Nat) : Int) > 20)) = true := by have := h2; simp at this ⊢; omega
      refine CW_seq ?_
      refine CW_region ?_
      refine OW_run' hE.ok 1 rfl ?_
      refine OW_end rfl ?_
      refine CW_ret ?_
      refine ⟨.inr rfl, rfl, ⟨_, rfl, rfl, ?_⟩, rfl⟩
      unfold depthX; rw [h0]
      exact AVle.refl _
    · skip
      have h0 : (op == 0 || decide (((21 - lf : Nat) : Int) > 20)) = false := by have := h2; simp at this; simp_all; omega
      have hlf : 1 ≤ lf := by simp at h0; omega
      refine CW_skip ?_
      refine CW_seq ?_
      refine CW_region ?_
      refine OW_run' hE.ok 1 rfl ?_
      refine OW_end rfl ?_
      refine CW_seq ?_
      refine CW_seq ?_
      refine CW_region ?_
      refine OW_run' hE.ok 1 rfl ?_
      refine OW_end rfl ?_
      refine CW_block ?_
      refine CW_loop (σ := {i : Nat // i ≤ ks.length}) (fun i => ⟨J, (sset (sset (sset (sset noSlots 1 (.d (int ((lf : Nat) : Int)))) 2 (.d (.iptr (encX (.mk op v al fi ks))))) 5 (.d (int (depthXs (ks.take i.1) (21 - lf + 1) 0)))) 6 (.d (int ((i.1 : Nat) : Int)))), noHeap⟩) (fun i => ks.length - i.1) ⟨0, Nat.zero_le _⟩ (LE_sh (slh_set (slh_set (slh_set (slh_set (slh_no _ _) rfl rfl) rfl rfl) rfl rfl) rfl rfl) (hlh_no _ _)) fun ⟨i, hi⟩ => ?_
      refine CW_seq ?_
      refine CW_seq ?_
      refine CW_region ?_
      refine OW_run' hE.ok 5 rfl ?_
      refine OW_end rfl ?_
      refine CW_cond _ rfl (fun h3 => ?_) (fun h3 => ?_)
      · skip
        refine CW_know (know_sl (d := 16) rfl) fun hlen => ?_
        rw [encXs_length] at hlen
        have hlt : i < ks.length := by have := h3; simp [encXs_length] at this; omega
        obtain ⟨k, hk⟩ : ∃ k, ks[i]? = some k := ⟨_, List.getElem?_eq_getElem hlt⟩
        have hI := ih k (List.mem_of_getElem? hk) (lf - 1) (by omega)
        rw [show 21 - (lf - 1) = 21 - lf + 1 by omega] at hI
        obtain ⟨o1, v1, c1, f1, k1, rfl⟩ := Exp.shape k
        refine CW_skip ?_
        refine CW_seq ?_
        refine CW_block ?_
        refine CW_region ?_
        refine OW_run' hE.ok 4 rfl ?_
        refine OW_loc' hE (loc_indexAddr hE rfl rfl rfl rfl rfl (by omega) (x := encX (.mk o1 v1 c1 f1 k1)) (encXs_get hk)) rfl rfl rfl ?_
        refine OW_run' hE.ok 3 rfl ?_
        refine OW_as' 28 (.d (int ((lf - 1 : Nat) : Int))) (by show AV.d (.lit (.int .i64 (IntKind.i64.wrap ((lf : Int) - 1)))) = _; rw [show ((lf : Int) - 1) = ((lf - 1 : Nat) : Int) by omega, wrapN (by omega)]; rfl) ?_
        refine OW_call' hE (hI) rfl rfl rfl rfl rfl rfl rfl ?_
        refine OW_loc' hE (loc_max hE rfl rfl rfl rfl) rfl rfl rfl ?_
        refine OW_run' hE.ok 1 rfl ?_
        refine OW_end rfl ?_
        refine CW_region ?_
        refine OW_run' hE.ok 3 rfl ?_
        refine OW_end rfl ?_
        exact ⟨⟨i + 1, by omega⟩, LE_sh (slh_set (v := .d (int ((i + 1 : Nat) : Int))) (slh_set (v := .d (int (depthXs (ks.take (i + 1)) (21 - lf + 1) 0))) (slh_set (v := .d (.iptr (encX (.mk op v al fi ks)))) (slh_set (v := .d (int ((lf : Nat) : Int))) (slh_no _ _) (by rfl) rfl) (by rfl) rfl) (by show AV.d (.lit (.int .i64 (max (depthXs (ks.take i) (21 - lf + 1) 0) (depthX (.mk o1 v1 c1 f1 k1) (21 - lf + 1))))) = _; rw [← depthXs_snoc _ _ hk]; rfl) rfl) (by show AV.d (.lit (.int .i64 (IntKind.i64.wrap ((i : Int) + 1)))) = _; rw [wrap_succ (by omega)]; rfl) rfl) (hlh_no _ _), by show ks.length - (i + 1) < ks.length - i; omega⟩
      · skip
        have hge : ks.length ≤ i := by have := h3; simp [encXs_length] at this; omega
        refine CW_exit ?_
        show CW _ _ _ _
        refine CW_seq ?_
        refine CW_region ?_
        refine OW_run' hE.ok 3 rfl ?_
        refine OW_end rfl ?_
        refine CW_ret ?_
        refine ⟨.inr rfl, rfl, ⟨_, rfl, rfl, ?_⟩, rfl⟩
        unfold depthX; rw [h0]
        have hb := depthXs_le ks (21 - lf + 1) 0 (Int.le_refl 0) (by omega)
        exact AVle.of (congrArg (fun z => AV.d (int z)) (by show IntKind.i64.wrap (depthXs (ks.take i) (21 - lf + 1) 0 + 1) = depthXs ks (21 - lf + 1) 0 + 1; rw [List.take_of_length_le hge, wrap_id _ _ (by have : IntKind.i64.min = -9223372036854775808 := rfl; omega) (by have : IntKind.i64.max = 9223372036854775807 := rfl; omega)]))

theorem refDepthAll : ∀ (n : Nat) (x : Exp), SizeOf.sizeOf x < n → ∀ l : Nat, l ≤ 20 → Does Try.prog 79 [argX x, .d (int ((l : Nat) : Int))] noHeap (.d (int (depthX x (21 - l))))
  | 0, x, h => by omega
  | n + 1, .mk op v al fi ks, h => fun l hl => refDepthStep op v al fi ks l hl fun k hk => refDepthAll n k (by have := List.sizeOf_lt_of_mem hk; simp at h; omega)

theorem refDepthOk (x : Exp) : Does Try.prog 38 [argX x] noHeap (.d (int (depthX x 1))) := by
  refine Does_of T_ok mixed (N := 5) Try.func38 rfl rfl rfl (by rfl) fun F n Z hE hF J => ?_
  have q := refDepthAll _ x (Nat.lt_succ_self _) 20 (Nat.le_refl _)
  obtain ⟨o1, v1, c1, f1, k1, rfl⟩ := Exp.shape x
  refine CW_seq ?_
  refine CW_region ?_
  refine OW_run' hE.ok 2 rfl ?_
  refine OW_end rfl ?_
  refine CW_seq ?_
  refine CW_region ?_
  refine OW_run' hE.ok 1 rfl ?_
  refine OW_call' hE (q) rfl rfl rfl rfl rfl rfl rfl ?_
  refine OW_run' hE.ok 1 rfl ?_
  refine OW_end rfl ?_
  refine CW_ret ?_
  refine ⟨.inr rfl, rfl, ⟨_, rfl, rfl, ?_⟩, rfl⟩
  exact AVle.refl _
end Go.Proofs.Ythffbfjnahipcaa
