/- Parts of an abstract logic over the kit's walks, and walks in it: D8xb. -/
import Derived.Test.YtjiknbjkbakegaaDoorD8xa
namespace Go.Proofs.YtjiknbjkbakegaaDoor
open Go Go.AL
set_option linter.unusedVariables false
set_option linter.unusedSimpArgs false
set_option maxHeartbeats 4000000
theorem kidsOk (op : Int) : Does Tryd.prog 63 [.d (int op)] noHeap (.d (int (kidsN op))) := by
  refine Does_of T_ok mixed (N := 13) Tryd.func63 rfl rfl rfl (by rfl) fun F n Z hE hF J => ?_
  refine CW_seq ?_
  refine CW_region ?_
  refine OW_run' hE.ok 1 rfl ?_
  refine OW_end rfl ?_
  refine CW_seq ?_
  refine CW_block ?_
  refine CW_seq ?_
  refine CW_region ?_
  refine OW_run' hE.ok 3 rfl ?_
  refine OW_end rfl ?_
  refine CW_cond _ rfl (fun h1 => ?_) (fun h1 => ?_)
  · skip
    refine CW_seq ?_
    refine CW_region ?_
    refine OW_run' hE.ok 1 rfl ?_
    refine OW_end rfl ?_
    refine CW_ret ?_
    refine ⟨.inr rfl, rfl, ⟨_, rfl, rfl, ?_⟩, rfl⟩
    rw [show kidsN op = 1 by unfold kidsN; rw [h1]; rfl]
    exact AVle.refl _
  · skip
    refine CW_seq ?_
    refine CW_region ?_
    refine OW_run' hE.ok 3 rfl ?_
    refine OW_split' 9 rfl (fun h2 => ?_) (fun h2 => ?_)
    · skip
      refine OW_run' hE.ok 4 rfl ?_
      refine OW_end rfl ?_
      refine CW_cond _ rfl (fun h3 => ?_) (fun h3 => ?_)
      · skip
        refine CW_seq ?_
        refine CW_region ?_
        refine OW_run' hE.ok 1 rfl ?_
        refine OW_end rfl ?_
        refine CW_ret ?_
        refine ⟨.inr rfl, rfl, ⟨_, rfl, rfl, ?_⟩, rfl⟩
        rw [show kidsN op = 2 by unfold kidsN; rw [h1, h2, h3]; rfl]
        exact AVle.refl _
      · skip
        refine CW_skip ?_
        refine CW_seq ?_
        refine CW_region ?_
        refine OW_run' hE.ok 1 rfl ?_
        refine OW_end rfl ?_
        refine CW_ret ?_
        refine ⟨.inr rfl, rfl, ⟨_, rfl, rfl, ?_⟩, rfl⟩
        rw [show kidsN op = 0 by unfold kidsN; rw [h1, h2, h3]; rfl]
        exact AVle.refl _
    · skip
      refine OW_run' hE.ok 4 rfl ?_
      refine OW_end rfl ?_
      refine CW_false rfl ?_
      refine CW_skip ?_
      refine CW_seq ?_
      refine CW_region ?_
      refine OW_run' hE.ok 1 rfl ?_
      refine OW_end rfl ?_
      refine CW_ret ?_
      refine ⟨.inr rfl, rfl, ⟨_, rfl, rfl, ?_⟩, rfl⟩
      rw [show kidsN op = 0 by unfold kidsN; rw [h1, h2]; rfl]
      exact AVle.refl _

theorem isN1 (k : Exp) : Does Tryd.prog 65 [argX k] noHeap (.d (boo (k.op == 0))) := by
  refine Does_of T_ok mixed (N := 6) Tryd.func65 rfl rfl rfl (by rfl) fun F n Z hE hF J => ?_
  obtain ⟨o1, v1, a1, f1, k1⟩ := k
  refine CW_seq ?_
  refine CW_region ?_
  refine OW_run' hE.ok 2 rfl ?_
  refine OW_end rfl ?_
  refine CW_seq ?_
  refine CW_region ?_
  refine OW_run' hE.ok 4 rfl ?_
  refine OW_end rfl ?_
  refine CW_ret ?_
  refine ⟨.inr rfl, rfl, ⟨_, rfl, rfl, ?_⟩, rfl⟩
  exact AVle.refl _

theorem indexX (l : List Exp) (k : Nat) (first cap : List D) (p : Exp → Bool) (hc : ∀ a ∈ l, Does Tryd.prog k (first.map .d ++ [.agg ((encX a).map .d)] ++ cap.map .d) noHeap (.d (boo (p a)))) : Does Tryd.prog 73 [.d (.sl 7 96 (l.map encX)), .d (.fn (.func k) first cap)] noHeap (.d (int (idx p l))) := by
  refine Does_of T_ok mixed (N := 19) Tryd.func73 rfl rfl rfl (by rfl) fun F n Z hE hF J => ?_
  refine CW_know (know_sl (d := 0) rfl) fun hlen => ?_
  rw [List.length_map] at hlen
  refine CW_seq ?_
  refine CW_region ?_
  refine OW_run' hE.ok 1 rfl ?_
  refine OW_end rfl ?_
  refine CW_seq ?_
  refine CW_seq ?_
  refine CW_region ?_
  refine OW_run' hE.ok 3 rfl ?_
  refine OW_end rfl ?_
  refine CW_block ?_
  refine CW_loop (σ := {i : Nat // i ≤ l.length ∧ ∀ j a, j < i → l[j]? = some a → p a = false})
    (fun i => ⟨J, (sset (sset (sset (sset noSlots 0 (.d (.sl 7 96 (l.map encX)))) 1 (.d (.fn (.func k) first cap))) 7 (.d (.lit (.int .i64 l.length)))) 8 (.d (.lit (.int .i64 i.1)))), noHeap⟩) (fun i => l.length - i.1) ⟨0, Nat.zero_le _, by omega⟩ (LE_s (sle_set (sle_set (sle_set (sle_set (sle_no _) rfl) rfl) (by show AV.d (.lit (.int .i64 ((l.map encX).length : Int))) = _; rw [List.length_map])) rfl)) fun ⟨i, hi, hp⟩ => ?_
  refine CW_seq ?_
  refine CW_region ?_
  refine OW_run' hE.ok 1 rfl ?_
  refine OW_end rfl ?_
  refine CW_seq ?_
  refine CW_cond _ rfl (fun h1 => ?_) (fun h1 => ?_)
  · skip
    have hlt : i < l.length := by have := h1; simp at this; omega
    obtain ⟨a, ha⟩ : ∃ a, l[i]? = some a := ⟨_, List.getElem?_eq_getElem hlt⟩
    have hcall := hc a (List.mem_of_getElem? ha)
    obtain ⟨o1, v1, c1, f1, k1, rfl⟩ := Exp.shape a
    refine CW_skip ?_
    refine CW_seq ?_
    refine CW_block ?_
    refine CW_seq ?_
    refine CW_region ?_
    refine OW_run' hE.ok 2 rfl ?_
    refine OW_end rfl ?_
    refine CW_seq ?_
    refine CW_region ?_
    refine OW_run' hE.ok 3 rfl ?_
    refine OW_loc' hE (loc_indexAddr hE rfl rfl rfl rfl rfl (by omega) (x := encX (.mk o1 v1 c1 f1 k1)) (by simp [ha])) rfl rfl rfl ?_
    refine OW_run' hE.ok 1 rfl ?_
    refine OW_call' hE (hcall) rfl rfl rfl rfl (kfs_fn rfl) rfl rfl ?_
    refine OW_end rfl ?_
    refine CW_cond _ rfl (fun h2 => ?_) (fun h2 => ?_)
    · skip
      refine CW_seq ?_
      refine CW_region ?_
      refine OW_run' hE.ok 2 rfl ?_
      refine OW_end rfl ?_
      refine CW_ret ?_
      refine ⟨.inr rfl, rfl, ⟨_, rfl, rfl, ?_⟩, rfl⟩
      rw [idx_some ha h2 hp]
      exact AVle.refl _
    · skip
      refine CW_skip ?_
      refine CW_region ?_
      refine OW_run' hE.ok 2 rfl ?_
      refine OW_end rfl ?_
      refine ⟨⟨i + 1, hlt, fun j b hj hb => ?_⟩, LE_s (sle_set (sle_set (sle_set (sle_set (sle_no _) rfl) rfl) rfl) (by show AV.d (.lit (.int .i64 (IntKind.i64.wrap (↑i + 1)))) = _; rw [wrap_succ (by omega)])), by show l.length - (i + 1) < l.length - i; omega⟩
      by_cases hji : j = i
      · subst hji; rw [ha] at hb; cases hb; exact h2
      · exact hp j b (by omega) hb
  · skip
    have hge : ¬ i < l.length := by have := h1; simp at this; omega
    refine CW_exit ?_
    show CW _ _ _ _
    refine CW_seq ?_
    refine CW_region ?_
    refine OW_run' hE.ok 1 rfl ?_
    refine OW_end rfl ?_
    refine CW_ret ?_
    refine ⟨.inr rfl, rfl, ⟨_, rfl, rfl, ?_⟩, rfl⟩
    rw [idx_none (fun j b hj => hp j b (by omega))]
    exact AVle.refl _

theorem containsX (l : List Exp) (k : Nat) (first cap : List D) (p : Exp → Bool) (hc : ∀ a ∈ l, Does Tryd.prog k (first.map .d ++ [.agg ((encX a).map .d)] ++ cap.map .d) noHeap (.d (boo (p a)))) : Does Tryd.prog 64 [.d (.sl 7 96 (l.map encX)), .d (.fn (.func k) first cap)] noHeap (.d (boo (l.any p))) := by
  refine Does_of T_ok mixed (N := 9) Tryd.func64 rfl rfl rfl (by rfl) fun F n Z hE hF J => ?_
  refine CW_seq ?_
  refine CW_region ?_
  refine OW_run' hE.ok 1 rfl ?_
  refine OW_end rfl ?_
  refine CW_seq ?_
  refine CW_region ?_
  refine OW_run' hE.ok 2 rfl ?_
  refine OW_call' hE (indexX l k first cap p hc) rfl rfl rfl rfl rfl rfl rfl ?_
  refine OW_run' hE.ok 2 rfl ?_
  refine OW_end rfl ?_
  refine CW_ret ?_
  refine ⟨.inr rfl, rfl, ⟨_, rfl, rfl, ?_⟩, rfl⟩
  exact AVle.of (congrArg (fun b => AV.d (boo b)) (by exact any_idxX))

theorem depthStep (op : Int) (v : Vl) (al fi : ByteArray) (ks : List Exp) (a1 : Nat) (ha : a1 ≤ 21) (ih : ∀ k ∈ ks, ∀ a, a ≤ 21 → Does Tryd.prog 61 [argX k, .d (int ((a : Nat) : Int))] noHeap (.d (int (depthX k a)))) : Does Tryd.prog 61 [argX (.mk op v al fi ks), .d (int ((a1 : Nat) : Int))] noHeap (.d (int (depthX (.mk op v al fi ks) a1))) := by
  refine Does_of T_ok mixed (N := 31) Tryd.func61 rfl rfl rfl (by rfl) fun F n Z hE hF J => ?_
  refine CW_seq ?_
  refine CW_region ?_
  refine OW_run' hE.ok 2 rfl ?_
  refine OW_end rfl ?_
  refine CW_seq ?_
  refine CW_seq ?_
  refine CW_region ?_
  refine OW_run' hE.ok 4 rfl ?_
  refine OW_split' 11 rfl (fun h1 => ?_) (fun h1 => ?_)
  · skip
    have h0 : (op == 0 || decide ((a1 : Int) > 20)) = true := by have := h1; simp_all
    refine OW_run' hE.ok 3 rfl ?_
    refine OW_end rfl ?_
    refine CW_true rfl ?_
    refine CW_seq ?_
    refine CW_region ?_
    refine OW_run' hE.ok 1 rfl ?_
    refine OW_end rfl ?_
    refine CW_ret ?_
    refine ⟨.inr rfl, rfl, ⟨_, rfl, rfl, ?_⟩, rfl⟩
    unfold depthX; rw [h0]
    exact AVle.refl _
  · skip
    refine OW_run' hE.ok 3 rfl ?_
    refine OW_end rfl ?_
    refine CW_cond _ rfl (fun h2 => ?_) (fun h2 => ?_)
    · skip
      have h0 : (op == 0 || decide ((a1 : Int) > 20)) = true := by have := h2; simp_all
      refine CW_seq ?_
      refine CW_region ?_
      refine OW_run' hE.ok 1 rfl ?_
      refine OW_end rfl ?_
      refine CW_ret ?_
      refine ⟨.inr rfl, rfl, ⟨_, rfl, rfl, ?_⟩, rfl⟩
      unfold depthX; rw [h0]
      exact AVle.refl _
    · skip
      have h0 : (op == 0 || decide ((a1 : Int) > 20)) = false := by have := h2; simp_all
      have ha20 : a1 ≤ 20 := by simp at h0; omega
      refine CW_skip ?_
      refine CW_seq ?_
      refine CW_region ?_
      refine OW_run' hE.ok 1 rfl ?_
      refine OW_end rfl ?_
      refine CW_seq ?_
      refine CW_seq ?_
      refine CW_region ?_
      refine OW_run' hE.ok 4 rfl ?_
      refine OW_end rfl ?_
      refine CW_block ?_
      refine CW_know (know_sl (d := 16) rfl) fun hlen => ?_
      rw [encXs_length] at hlen
      refine CW_loop (σ := {i : Nat // i ≤ ks.length}) (fun i => ⟨J, (sset (sset (sset (sset (sset noSlots 1 (.d (int ((a1 : Nat) : Int)))) 16 (.d (.sl 7 96 (encXs ks)))) 17 (.d (int ((ks.length : Nat) : Int)))) 5 (.d (int (depthXs (ks.take i.1) (a1 + 1) 0)))) 18 (.d (int ((i.1 : Nat) : Int)))), noHeap⟩) (fun i => ks.length - i.1) ⟨0, Nat.zero_le _⟩ (LE_sh (slh_set (slh_set (slh_set (slh_set (slh_set (slh_no _ _) rfl rfl) rfl rfl) (by show AV.d (.lit (.int .i64 ((encXs ks).length : Int))) = _; rw [encXs_length]; rfl) rfl) rfl rfl) rfl rfl) (hlh_no _ _)) fun ⟨i, hi⟩ => ?_
      refine CW_seq ?_
      refine CW_region ?_
      refine OW_run' hE.ok 1 rfl ?_
      refine OW_end rfl ?_
      refine CW_seq ?_
      refine CW_cond _ rfl (fun h3 => ?_) (fun h3 => ?_)
      · skip
        have hlt : i < ks.length := by have := h3; simp at this; omega
        obtain ⟨k, hk⟩ : ∃ k, ks[i]? = some k := ⟨_, List.getElem?_eq_getElem hlt⟩
        have hmem := List.mem_of_getElem? hk
        have hcall := ih k hmem (a1 + 1) (by omega)
        obtain ⟨o1, v1, c1, f1, k1, rfl⟩ := Exp.shape k
        refine CW_skip ?_
        refine CW_seq ?_
        refine CW_block ?_
        refine CW_seq ?_
        refine CW_region ?_
        refine OW_loc' hE (loc_indexAddr hE rfl rfl rfl rfl rfl (by omega) (x := encX (.mk o1 v1 c1 f1 k1)) (encXs_get (by simpa using hk))) rfl rfl rfl ?_
        refine OW_run' hE.ok 1 rfl ?_
        refine OW_alloc' hE 1 rfl rfl rfl rfl rfl rfl rfl ?_
        refine OW_store' hE rfl rfl rfl rfl rfl rfl rfl rfl rfl rfl rfl rfl ?_
        refine OW_end rfl ?_
        refine CW_region ?_
        refine OW_run' hE.ok 4 rfl ?_
        refine OW_as' 25 (.d (int ((a1 + 1 : Nat) : Int))) (by show AV.d (.lit (.int .i64 (IntKind.i64.wrap ((a1 : Int) + 1)))) = _; rw [wrap_succ (by omega)]; rfl) ?_
        refine OW_call' hE (hcall) rfl rfl rfl rfl rfl rfl rfl ?_
        refine OW_loc' hE (loc_max hE rfl rfl rfl rfl) rfl rfl rfl ?_
        refine OW_run' hE.ok 1 rfl ?_
        refine OW_end rfl ?_
        refine CW_region ?_
        refine OW_run' hE.ok 2 rfl ?_
        refine OW_end rfl ?_
        exact ⟨⟨i + 1, by omega⟩, LE_sh (slh_set (slh_set (slh_set (slh_set (slh_set (slh_no _ _) rfl rfl) rfl rfl) rfl rfl) (by show AV.d (.lit (.int .i64 (max (depthXs (ks.take i) (a1 + 1) 0) (depthX (.mk o1 v1 c1 f1 k1) (a1 + 1))))) = _; rw [← depthXs_snoc _ _ hk]; rfl) rfl) (by show AV.d (.lit (.int .i64 (IntKind.i64.wrap (↑i + 1)))) = _; rw [wrap_succ (by omega)]; rfl) rfl) (hlh_no _ _), by show ks.length - (i + 1) < ks.length - i; omega⟩
      · skip
        have hge : ks.length ≤ i := by have := h3; simp at this; omega
        refine CW_exit ?_
        show CW _ _ _ _
        refine CW_seq ?_
        refine CW_region ?_
        refine OW_run' hE.ok 3 rfl ?_
        refine OW_end rfl ?_
        refine CW_ret ?_
        refine ⟨.inr rfl, rfl, ⟨_, rfl, rfl, ?_⟩, rfl⟩
        unfold depthX; rw [h0]
        have hb := depthXs_le ks (a1 + 1) 0 (Int.le_refl 0) (by omega)
        exact AVle.of (congrArg (fun z => AV.d (int z)) (by show IntKind.i64.wrap (depthXs (ks.take i) (a1 + 1) 0 + 1) = depthXs ks (a1 + 1) 0 + 1; rw [List.take_of_length_le hge, wrap_id _ _ (by have : IntKind.i64.min = -9223372036854775808 := rfl; omega) (by have : IntKind.i64.max = 9223372036854775807 := rfl; omega)]))

theorem depthAll : ∀ (n : Nat) (x : Exp), SizeOf.sizeOf x < n → ∀ a : Nat, a ≤ 21 → Does Tryd.prog 61 [argX x, .d (int ((a : Nat) : Int))] noHeap (.d (int (depthX x a)))
  | 0, x, h => by omega
  | n + 1, .mk op v al fi ks, h => fun a ha => depthStep op v al fi ks a ha fun k hk => depthAll n k (by have := List.sizeOf_lt_of_mem hk; simp at h; omega)
theorem depthOk (x : Exp) (a : Nat) (ha : a ≤ 21) : Does Tryd.prog 61 [argX x, .d (int ((a : Nat) : Int))] noHeap (.d (int (depthX x a))) := depthAll _ x (Nat.lt_succ_self _) a ha

theorem depthXOk (x : Exp) : Does Tryd.prog 51 [argX x] noHeap (.d (int (depthX x 1))) := by
  refine Does_of T_ok mixed (N := 5) Tryd.func51 rfl rfl rfl (by rfl) fun F n Z hE hF J => ?_
  obtain ⟨o1, v1, a1, f1, k1⟩ := x
  have hd := depthOk (.mk o1 v1 a1 f1 k1) 1 (by omega)
  refine CW_seq ?_
  refine CW_region ?_
  refine OW_run' hE.ok 2 rfl ?_
  refine OW_end rfl ?_
  refine CW_seq ?_
  refine CW_region ?_
  refine OW_run' hE.ok 1 rfl ?_
  refine OW_call' hE (hd) rfl rfl rfl rfl rfl rfl rfl ?_
  refine OW_run' hE.ok 1 rfl ?_
  refine OW_end rfl ?_
  refine CW_ret ?_
  refine ⟨.inr rfl, rfl, ⟨_, rfl, rfl, ?_⟩, rfl⟩
  exact AVle.refl _
end Go.Proofs.YtjiknbjkbakegaaDoor
