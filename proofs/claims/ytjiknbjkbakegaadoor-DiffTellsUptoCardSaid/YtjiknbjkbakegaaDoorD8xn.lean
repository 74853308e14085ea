/- Parts of an abstract logic over the kit's walks, and walks in it: D8xn. -/
import Derived.Test.YtjiknbjkbakegaaDoorD8xb
namespace Go.Proofs.YtjiknbjkbakegaaDoor
open Go Go.AL
set_option linter.unusedVariables false
set_option linter.unusedSimpArgs false
set_option maxHeartbeats 4000000
theorem nodesFn (x : Exp) (a : Int) : Does Tryd.prog 52 [argX x, .d (int a)] noHeap (.d (.fn (.func 62) [] [.iptr (encX x), .iptr [int a]])) := by
  refine Does_of T_ok mixed (N := 6) Tryd.func52 rfl rfl rfl (by rfl) fun F n Z hE hF J => ?_
  obtain ⟨o1, v1, c1, f1, k1⟩ := x
  refine CW_seq ?_
  refine CW_region ?_
  refine OW_run' hE.ok 3 rfl ?_
  refine OW_end rfl ?_
  refine CW_seq ?_
  refine CW_region ?_
  refine OW_run' hE.ok 2 rfl ?_
  refine OW_end rfl ?_
  refine CW_ret ?_
  refine ⟨.inr rfl, rfl, ⟨_, rfl, rfl, ?_⟩, rfl⟩
  exact AVle.refl _

theorem nodesStep (op : Int) (v : Vl) (al fi : ByteArray) (ks : List Exp) (a1 : Nat) (ha : a1 ≤ 21) (ih : ∀ k ∈ ks, ∀ a : Nat, a ≤ 21 → Iter Tryd.prog 62 [] [.d (.iptr (encX k)), .d (.iptr [int ((a : Nat) : Int)])] (ysX (nodesX k a))) : Iter Tryd.prog 62 [] [.d (.iptr (encX (.mk op v al fi ks))), .d (.iptr [int ((a1 : Nat) : Int)])] (ysX (nodesX (.mk op v al fi ks) a1)) := by
  refine Iter_of T_ok mixed (N := 37) Tryd.func62 rfl rfl rfl (by rfl) fun F n Z hE hF l C X hC hX hy => ?_
  refine CW_seq ?_
  refine CW_region ?_
  refine OW_run' hE.ok 1 rfl ?_
  refine OW_end rfl ?_
  refine CW_seq ?_
  refine CW_seq ?_
  refine CW_region ?_
  refine OW_run' hE.ok 4 rfl ?_
  refine OW_split' 10 rfl (fun h1 => ?_) (fun h1 => ?_)
  · skip
    have h0 : (op == 0 || decide ((a1 : Int) > 20)) = true := by have := h1; simp_all
    refine OW_run' hE.ok 9 rfl ?_
    refine OW_end rfl ?_
    refine CW_true rfl ?_
    exact CW_ret ⟨.inr rfl, .inl (by show C 0 = C _; rw [nodesX_no h0]; rfl), _, rfl⟩
  · skip
    refine OW_run' hE.ok 4 rfl ?_
    refine OW_split' 14 rfl (fun h2 => ?_) (fun h2 => ?_)
    · skip
      have h0 : (op == 0 || decide ((a1 : Int) > 20)) = true := by have := h2; simp_all
      refine OW_run' hE.ok 5 rfl ?_
      refine OW_end rfl ?_
      refine CW_true rfl ?_
      exact CW_ret ⟨.inr rfl, .inl (by show C 0 = C _; rw [nodesX_no h0]; rfl), _, rfl⟩
    · skip
      have h0 : (op == 0 || decide ((a1 : Int) > 20)) = false := by have := h2; simp_all
      have ha20 : a1 ≤ 20 := by simp at h0; omega
      refine OW_run' hE.ok 2 rfl ?_
      refine OW_yield' hE hy hC hX (Wrap.id _) (0) rfl rfl rfl rfl rfl rfl (ysX_get (node0 h0)) rfl rfl rfl ?_ ?_
      · skip
        refine OW_run' hE.ok 2 rfl ?_
        refine OW_end rfl ?_
        refine CW_false rfl ?_
        refine CW_skip ?_
        refine CW_seq ?_
        refine CW_region ?_
        refine OW_run' hE.ok 4 rfl ?_
        refine OW_end rfl ?_
        refine CW_block ?_
        refine CW_know (know_sl (d := 21) rfl) fun hlen => ?_
        rw [encXs_length] at hlen
        refine CW_loop (σ := {i : Nat // i ≤ ks.length}) (fun i => ⟨C (1 + (nodesXs (ks.take i.1) (a1 + 1)).length), (sset (sset (sset (sset (sset noSlots 2 (.d (.iptr [int ((a1 : Nat) : Int)]))) 3 (.d (.iptr [.fn (.yield l) [] []]))) 21 (.d (.sl 7 96 (encXs ks)))) 22 (.d (int ((ks.length : Nat) : Int)))) 23 (.d (int ((i.1 : Nat) : Int)))), noHeap⟩) (fun i => ks.length - i.1) ⟨0, Nat.zero_le _⟩ (LE_sh (slh_set (slh_set (slh_set (slh_set (slh_set (slh_no _ _) rfl rfl) rfl rfl) rfl rfl) (by show AV.d (.lit (.int .i64 ((encXs ks).length : Int))) = _; rw [encXs_length]; rfl) rfl) rfl rfl) (hlh_no _ _)) fun ⟨i, hi⟩ => ?_
        refine CW_seq ?_
        refine CW_region ?_
        refine OW_run' hE.ok 1 rfl ?_
        refine OW_end rfl ?_
        refine CW_seq ?_
        refine CW_cond _ rfl (fun h3 => ?_) (fun h3 => ?_)
        · skip
          have hlt : i < ks.length := by have := h3; simp at this; omega
          obtain ⟨k, hk⟩ : ∃ k, ks[i]? = some k := ⟨_, List.getElem?_eq_getElem hlt⟩
          have hI := ih k (List.mem_of_getElem? hk) (a1 + 1) (by omega)
          obtain ⟨o1, v1, c1, f1, k1, rfl⟩ := Exp.shape k
          refine CW_skip ?_
          refine CW_seq ?_
          refine CW_block ?_
          refine CW_seq ?_
          refine CW_region ?_
          refine OW_loc' hE (loc_indexAddr hE rfl rfl rfl rfl rfl (by omega) (x := encX (.mk o1 v1 c1 f1 k1)) (encXs_get (by simpa using hk))) rfl rfl rfl ?_
          refine OW_run' hE.ok 1 rfl ?_
          refine OW_alloc' hE 1 rfl rfl rfl rfl rfl rfl rfl ?_
          refine OW_store' hE rfl rfl rfl rfl rfl rfl rfl rfl rfl rfl rfl rfl ?_
          refine OW_end rfl ?_
          refine CW_seq ?_
          refine CW_region ?_
          refine OW_run' hE.ok 3 rfl ?_
          refine OW_as' 29 (.d (int ((a1 + 1 : Nat) : Int))) (by show AV.d (.lit (.int .i64 (IntKind.i64.wrap ((a1 : Int) + 1)))) = _; rw [wrap_succ (by omega)]; rfl) ?_
          refine OW_call' hE (nodesFn (.mk o1 v1 c1 f1 k1) ((a1 + 1 : Nat) : Int)) rfl rfl rfl rfl rfl rfl rfl ?_
          obtain ⟨S0, hS0⟩ : ∃ S0 : Slots, S0 = (sset (sset (sset (sset (sset (sset noSlots 2 (.d (.iptr [int ((a1 : Nat) : Int)]))) 3 (.d (.iptr [.fn (.yield l) [] []]))) 21 (.d (.sl 7 96 (encXs ks)))) 22 (.d (int ((ks.length : Nat) : Int)))) 23 (.d (int ((i : Nat) : Int)))) 30 (.d (.fn (.func 62) [] [.iptr (encX (.mk o1 v1 c1 f1 k1)), .iptr [int ((a1 + 1 : Nat) : Int)]]))) := ⟨_, rfl⟩
          refine OW.le (show LE _ _ ⟨C (1 + (nodesXs (ks.take i) (a1 + 1)).length), (sset (sset (sset (sset (sset (sset noSlots 2 (.d (.iptr [int ((a1 : Nat) : Int)]))) 3 (.d (.iptr [.fn (.yield l) [] []]))) 21 (.d (.sl 7 96 (encXs ks)))) 22 (.d (int ((ks.length : Nat) : Int)))) 23 (.d (int ((i : Nat) : Int)))) 30 (.d (.fn (.func 62) [] [.iptr (encX (.mk o1 v1 c1 f1 k1)), .iptr [int ((a1 + 1 : Nat) : Int)]]))), noHeap⟩ from LE_sh (slh_set (slh_set (slh_set (slh_set (slh_set (slh_set (slh_no _ _) rfl rfl) rfl rfl) rfl rfl) rfl rfl) rfl rfl) rfl rfl) (hlh_no _ _)) ?_
          refine OW_end rfl ?_
          refine CW_block ?_
          refine CW_rangeFunc (st := ⟨C (1 + (nodesXs (ks.take i) (a1 + 1)).length), (sset (sset (sset (sset (sset (sset noSlots 2 (.d (.iptr [int ((a1 : Nat) : Int)]))) 3 (.d (.iptr [.fn (.yield l) [] []]))) 21 (.d (.sl 7 96 (encXs ks)))) 22 (.d (int ((ks.length : Nat) : Int)))) 23 (.d (int ((i : Nat) : Int)))) 30 (.d (.fn (.func 62) [] [.iptr (encX (.mk o1 v1 c1 f1 k1)), .iptr [int ((a1 + 1 : Nat) : Int)]]))), noHeap⟩) hE hF hI rfl rfl rfl (ysX_kf _) rfl 9 rfl (fun vs q J' h' => J' = C ((1 + (nodesXs (ks.take i) (a1 + 1)).length) + q) ∧ h' = hset noHeap 9 (some (.ghost (slotsL 37 (sset (sset (sset (sset (sset (sset noSlots 2 (.d (.iptr [int ((a1 : Nat) : Int)]))) 3 (.d (.iptr [.fn (.yield l) [] []]))) 21 (.d (.sl 7 96 (encXs ks)))) 22 (.d (int ((ks.length : Nat) : Int)))) 23 (.d (int ((i : Nat) : Int)))) 30 (.d (.fn (.func 62) [] [.iptr (encX (.mk o1 v1 c1 f1 k1)), .iptr [int ((a1 + 1 : Nat) : Int)]])))) vs))) (by rintro vs q J' h' ⟨rfl, rfl⟩; exact ⟨fun _ => hC _, hset_same _ _ _⟩) (fun vs => ⟨rfl, rfl⟩) (fun F' n' Z' Br Bb hE hB vs q J' h' args hargs hInv => ?_) ?_
          · skip
            obtain ⟨rfl, rfl⟩ := hInv
            obtain ⟨y, hy2, rfl⟩ := ysX_of hargs
            obtain ⟨o2, v2, c2, f2, k2, rfl⟩ := Exp.shape y
            refine CW_region ?_
            refine OW_alloc' hE 2 rfl rfl rfl rfl rfl rfl rfl ?_
            refine OW_store' hE rfl rfl rfl rfl rfl rfl rfl rfl rfl rfl rfl rfl ?_
            refine OW_end rfl ?_
            refine ⟨rfl, rfl, ?_⟩
            refine CW_block ?_
            refine CW_seq ?_
            refine CW_region ?_
            refine OW_run' hE.ok 2 rfl ?_
            refine OW_yield' hE hy hC hX (hB _ (Wrap.id _)) ((1 + (nodesXs (ks.take i) (a1 + 1)).length) + q) rfl rfl rfl rfl rfl rfl (ysX_get (node_at h0 hk hy2)) rfl rfl rfl ?_ ?_
            · skip
              refine OW_run' hE.ok 1 rfl ?_
              refine OW_end rfl ?_
              refine CW_false rfl ?_
              refine CW_skip ?_
              exact ⟨⟨Bb (C ((1 + (nodesXs (ks.take i) (a1 + 1)).length) + (q + 1))), noSlots, hset noHeap 9 (some (.ghost _ vs))⟩, LE_sh (slh_no _ _) (hlh_set (hlh_no _ _) rfl rfl), C ((1 + (nodesXs (ks.take i) (a1 + 1)).length) + (q + 1)), rfl, rfl, rfl⟩
            · skip
              refine OW_run' hE.ok 1 rfl ?_
              refine OW_end rfl ?_
              refine CW_true rfl ?_
              refine CW_ret ⟨_, LE.refl _ _, X, _, fun _ => hX, rfl, rfl, ?_⟩
              exact ⟨.inr rfl, .inr rfl, _, rfl⟩
          · skip
            rintro vs J' h' ⟨rfl, rfl⟩
            have hJ : (1 + (nodesXs (ks.take i) (a1 + 1)).length) + (ysX (nodesX (.mk o1 v1 c1 f1 k1) (a1 + 1))).length = 1 + (nodesXs (ks.take (i + 1)) (a1 + 1)).length := by rw [nodesXs_snoc _ hk, List.length_append, ysX_length]; omega
            rw [hJ]
            refine CW_region ?_
            refine OW_run' hE.ok 2 rfl ?_
            refine OW_end rfl ?_
            exact ⟨⟨i + 1, by omega⟩, LE_sh (slh_set (slh_set (slh_set (slh_set (slh_set (slh_no _ _) rfl rfl) rfl rfl) rfl rfl) rfl rfl) (by show AV.d (.lit (.int .i64 (IntKind.i64.wrap (↑i + 1)))) = _; rw [wrap_succ (by omega)]; rfl) rfl) (hlh_no _ _), by show ks.length - (i + 1) < ks.length - i; omega⟩
        · skip
          have hge : ks.length ≤ i := by have := h3; simp at this; omega
          refine CW_exit ?_
          show RetI _ _ _ _ .normal _
          exact ⟨.inl rfl, .inl (by show C _ = C _; rw [ysX_length, nodesX_len h0, List.take_of_length_le hge]), _, rfl⟩
      · skip
        refine OW_run' hE.ok 2 rfl ?_
        refine OW_end rfl ?_
        refine CW_true rfl ?_
        exact CW_ret ⟨.inr rfl, .inr rfl, _, rfl⟩

theorem nodesAll : ∀ (n : Nat) (x : Exp), SizeOf.sizeOf x < n → ∀ a : Nat, a ≤ 21 → Iter Tryd.prog 62 [] [.d (.iptr (encX x)), .d (.iptr [int ((a : Nat) : Int)])] (ysX (nodesX x a))
  | 0, x, h => by omega
  | n + 1, .mk op v al fi ks, h => fun a ha => nodesStep op v al fi ks a ha fun k hk => nodesAll n k (by have := List.sizeOf_lt_of_mem hk; simp at h; omega)
theorem nodesIt (x : Exp) : Iter Tryd.prog 62 [] [.d (.iptr (encX x)), .d (.iptr [int ((1 : Nat) : Int)])] (ysX (nodesX x 1)) := nodesAll _ x (Nat.lt_succ_self _) 1 (by omega)
end Go.Proofs.YtjiknbjkbakegaaDoor
