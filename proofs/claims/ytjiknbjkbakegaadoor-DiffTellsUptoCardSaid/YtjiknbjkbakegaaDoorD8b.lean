/- Parts of an abstract logic over the kit's walks, and walks in it: D8b. -/
import Derived.Test.YtjiknbjkbakegaaDoorD8a
namespace Go.Proofs.YtjiknbjkbakegaaDoor
open Go Go.AL
set_option linter.unusedVariables false
set_option linter.unusedSimpArgs false
set_option maxHeartbeats 4000000
theorem refNodesStep (op : Int) (v : Vl) (al fi : ByteArray) (ks : List Exp) (lf : Nat) (hl : lf ≤ 20) (hb : (nodesX (.mk op v al fi ks) (21 - lf)).length ≤ 1048576) (ih : ∀ k ∈ ks, ∀ l : Nat, l ≤ 20 → (nodesX k (21 - l)).length ≤ 1048576 → Does Tryd.prog 34 [argX k, .d (int ((l : Nat) : Int))] noHeap (.d (.sl 7 96 (encXs (nodesX k (21 - l)))))) : Does Tryd.prog 34 [argX (.mk op v al fi ks), .d (int ((lf : Nat) : Int))] noHeap (.d (.sl 7 96 (encXs (nodesX (.mk op v al fi ks) (21 - lf))))) := by
  refine Does_of T_ok mixed (N := 34) Tryd.func34 rfl rfl rfl (by rfl) fun F n Z hE hF J => ?_
  refine CW_seq ?_
  refine CW_region ?_
  refine OW_run' hE.ok 2 rfl ?_
  refine OW_end rfl ?_
  refine CW_seq ?_
  refine CW_seq ?_
  refine CW_region ?_
  refine OW_run' hE.ok 4 rfl ?_
  refine OW_split' 10 rfl (fun h1 => ?_) (fun h1 => ?_)
  · skip
    have h0 : (op == 0 || decide (((21 - lf : Nat) : Int) > 20)) = true := by have := h1; simp_all
    refine OW_run' hE.ok 3 rfl ?_
    refine OW_end rfl ?_
    refine CW_true rfl ?_
    refine CW_seq ?_
    refine CW_region ?_
    refine OW_run' hE.ok 1 rfl ?_
    refine OW_end rfl ?_
    refine CW_ret ?_
    refine ⟨.inr rfl, rfl, ⟨_, rfl, rfl, ?_⟩, rfl⟩
    rw [nodesX_no h0]
    exact AVle.nilSl 7 96
  · skip
    refine OW_run' hE.ok 3 rfl ?_
    refine OW_end rfl ?_
    refine CW_cond _ rfl (fun h2 => ?_) (fun h2 => ?_)
    · skip
      have h0 : (op == 0 || decide (((21 - lf : Nat) : Int) > 20)) = true := by have := h2; simp at this ⊢; omega
      refine CW_seq ?_
      refine CW_region ?_
      refine OW_run' hE.ok 1 rfl ?_
      refine OW_end rfl ?_
      refine CW_ret ?_
      refine ⟨.inr rfl, rfl, ⟨_, rfl, rfl, ?_⟩, rfl⟩
      rw [nodesX_no h0]
      exact AVle.nilSl 7 96
    · skip
      have h0 : (op == 0 || decide (((21 - lf : Nat) : Int) > 20)) = false := by have := h2; simp at this; simp_all; omega
      have hlf : 1 ≤ lf := by simp at h0; omega
      refine CW_skip ?_
      refine CW_seq ?_
      refine CW_region ?_
      refine OW_run' hE.ok 1 rfl ?_
      refine OW_litsOwn' hE 50 rfl rfl rfl rfl rfl rfl rfl rfl rfl rfl rfl rfl ?_
      refine OW_run' hE.ok 1 rfl ?_
      refine OW_end rfl ?_
      refine CW_seq ?_
      refine CW_seq ?_
      refine CW_region ?_
      refine OW_run' hE.ok 1 rfl ?_
      refine OW_end rfl ?_
      refine CW_block ?_
      refine CW_loop (σ := {i : Nat // i ≤ ks.length}) (fun i => ⟨J, (sset (sset (sset (sset noSlots 1 (.d (int ((lf : Nat) : Int)))) 2 (.d (.iptr (encX (.mk op v al fi ks))))) 5 (.row 50)) 6 (.d (int ((i.1 : Nat) : Int)))), (hset noHeap 50 (some (.row 41 7 (encXs ((.mk op v al fi ks) :: nodesXs (ks.take i.1) (21 - lf + 1))))))⟩) (fun i => ks.length - i.1) ⟨0, Nat.zero_le _⟩ (LE_sh (slh_set (slh_set (slh_set (slh_set (slh_no _ _) rfl rfl) rfl rfl) rfl rfl) rfl rfl) (hlh_set (hlh_no _ _) rfl rfl)) fun ⟨i, hi⟩ => ?_
      refine CW_seq ?_
      refine CW_seq ?_
      refine CW_region ?_
      refine OW_run' hE.ok 5 rfl ?_
      refine OW_end rfl ?_
      refine CW_cond _ rfl (fun h3 => ?_) (fun h3 => ?_)
      · skip
        refine CW_know (know_sl (d := 18) rfl) fun hlen => ?_
        rw [encXs_length] at hlen
        have hlt : i < ks.length := by have := h3; simp [encXs_length] at this; omega
        obtain ⟨k, hk⟩ : ∃ k, ks[i]? = some k := ⟨_, List.getElem?_eq_getElem hlt⟩
        have hpt := nodes_part (v := v) (al := al) (fi := fi) h0 hk
        have hI := ih k (List.mem_of_getElem? hk) (lf - 1) (by omega) (by rw [show 21 - (lf - 1) = 21 - lf + 1 by omega]; omega)
        rw [show 21 - (lf - 1) = 21 - lf + 1 by omega] at hI
        obtain ⟨o1, v1, c1, f1, k1, rfl⟩ := Exp.shape k
        refine CW_skip ?_
        refine CW_seq ?_
        refine CW_block ?_
        refine CW_region ?_
        refine OW_run' hE.ok 4 rfl ?_
        refine OW_loc' hE (loc_indexAddr hE rfl rfl rfl rfl rfl (by omega) (x := encX (.mk o1 v1 c1 f1 k1)) (encXs_get hk)) rfl rfl rfl ?_
        refine OW_run' hE.ok 3 rfl ?_
        refine OW_as' 30 (.d (int ((lf - 1 : Nat) : Int))) (by show AV.d (.lit (.int .i64 (IntKind.i64.wrap ((lf : Int) - 1)))) = _; rw [show ((lf : Int) - 1) = ((lf - 1 : Nat) : Int) by omega, wrapN (by omega)]; rfl) ?_
        refine OW_call' hE (hI) rfl rfl rfl rfl rfl rfl rfl ?_
        refine OW_append' hE (key := 50) rfl rfl rfl rfl rfl rfl rfl rfl (.inl rfl) (by simp [encXs_length]; omega) (by simp [encXs_length]; omega) rfl ?_
        refine OW_run' hE.ok 1 rfl ?_
        refine OW_end rfl ?_
        refine CW_region ?_
        refine OW_run' hE.ok 3 rfl ?_
        refine OW_end rfl ?_
        exact ⟨⟨i + 1, by omega⟩, LE_sh (slh_set (v := .d (int ((i + 1 : Nat) : Int))) (slh_set (v := .row 50) (slh_set (v := .d (.iptr (encX (.mk op v al fi ks)))) (slh_set (v := .d (int ((lf : Nat) : Int))) (slh_no _ _) (by rfl) rfl) (by rfl) rfl) (by rfl) rfl) (by show AV.d (.lit (.int .i64 (IntKind.i64.wrap ((i : Int) + 1)))) = _; rw [wrap_succ (by omega)]; rfl) rfl) (hlh_set (hlh_no _ _) (congrArg (fun z => some (Ent.row 41 7 z)) (by rw [nodesXs_snoc _ hk, encXs_eq, encXs_eq, encXs_eq, List.map_cons, List.map_cons, List.map_append]; rfl)) rfl), by show ks.length - (i + 1) < ks.length - i; omega⟩
      · skip
        have hge : ks.length ≤ i := by have := h3; simp [encXs_length] at this; omega
        have hpt := nodes_some (v := v) (al := al) (fi := fi) (ks := ks) (i := i) h0
        rw [List.take_of_length_le hge] at hpt
        refine CW_exit ?_
        show CW _ _ _ _
        refine CW_seq ?_
        refine CW.le (LE_freeze 50 96 rfl (by rw [List.take_of_length_le hge]; simp [encXs_length]; omega)) ?_
        refine CW_region ?_
        refine OW_run' hE.ok 2 rfl ?_
        refine OW_end rfl ?_
        refine CW_ret ?_
        refine ⟨.inr rfl, rfl, ⟨_, rfl, rfl, ?_⟩, rfl⟩
        exact AVle.of (congrArg (fun z => AV.d (.sl 7 96 (encXs z))) (by rw [nodesX_go h0, List.take_of_length_le hge]))

theorem refNodesAll : ∀ (n : Nat) (x : Exp), SizeOf.sizeOf x < n → ∀ l : Nat, l ≤ 20 → (nodesX x (21 - l)).length ≤ 1048576 → Does Tryd.prog 34 [argX x, .d (int ((l : Nat) : Int))] noHeap (.d (.sl 7 96 (encXs (nodesX x (21 - l)))))
  | 0, x, h => by omega
  | n + 1, .mk op v al fi ks, h => fun l hl hb => refNodesStep op v al fi ks l hl hb fun k hk => refNodesAll n k (by have := List.sizeOf_lt_of_mem hk; simp at h; omega)

theorem refNodesOk (x : Exp) (hb : (nodesX x 1).length ≤ 1048576) : Does Tryd.prog 21 [argX x] noHeap (.d (.sl 7 96 (encXs (nodesX x 1)))) := by
  refine Does_of T_ok mixed (N := 5) Tryd.func21 rfl rfl rfl (by rfl) fun F n Z hE hF J => ?_
  have q := refNodesAll _ x (Nat.lt_succ_self _) 20 (Nat.le_refl _) hb
  obtain ⟨o1, v1, c1, f1, k1, rfl⟩ := Exp.shape x
  refine CW_seq ?_
  refine CW_region ?_
  refine OW_run' hE.ok 2 rfl ?_
  refine OW_end rfl ?_
  refine CW_seq ?_
  refine CW_region ?_
  refine OW_run' hE.ok 1 rfl ?_
  refine OW_call' hE (q) rfl rfl rfl rfl rfl rfl rfl ?_
  refine OW_run' hE.ok 1 rfl ?_
  refine OW_end rfl ?_
  refine CW_ret ?_
  refine ⟨.inr rfl, rfl, ⟨_, rfl, rfl, ?_⟩, rfl⟩
  exact AVle.refl _
end Go.Proofs.YtjiknbjkbakegaaDoor
