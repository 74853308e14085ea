/- Parts of an abstract logic over the kit's walks, and walks in it: P4na. -/
import Derived.Test.YtojnicnbmgiplaaP4nt
import Derived.Test.YtojnicnbmgiplaaPxa
import Derived.Test.YtojnicnbmgiplaaNeed
namespace Go.Proofs.Ytojnicnbmgiplaa
open Go Go.AL
set_option linter.unusedVariables false
set_option linter.unusedSimpArgs false
set_option maxHeartbeats 4000000
theorem all1 (p : Pat) (hc : ∀ e ∈ p.els, (nodesX e.cond 1).length ≤ 1000) (hp3 : ∀ e ∈ p.els, e.tys.length ≤ 3) : Iter Try.prog 80 [] [.d (.iptr (encP p))] (ysU (usesAll p)) := by
  refine Iter_of T_ok mixed (N := 64) Try.func80 rfl rfl rfl (by rfl) fun F n Z hE hF l C X hC hX hy => ?_
  refine CW_seq ?_
  refine CW_region ?_
  refine OW_run' hE.ok 4 rfl ?_
  refine OW_end rfl ?_
  refine CW_block ?_
  refine CW_know (know_sl (d := 12) rfl) fun hlen => ?_
  rw [List.length_map] at hlen
  refine CW_loop (σ := {i : Nat // i ≤ p.els.length}) (fun i => ⟨C (nE p i.1), (sset (sset (sset (sset (sset noSlots 0 (.d (.fn (.yield l) [] []))) 1 (.d (.iptr (encP p)))) 12 (.d (.sl 11 144 (p.els.map encL)))) 13 (.d (int ((p.els.length : Nat) : Int)))) 14 (.d (int ((i.1 : Nat) : Int)))), noHeap⟩) (fun i => p.els.length - i.1) ⟨0, Nat.zero_le _⟩ (LE_sh (slh_set (slh_set (slh_set (slh_set (slh_set (slh_no _ _) rfl rfl) rfl rfl) rfl rfl) (by show AV.d (.lit (.int .i64 ((p.els.map encL).length : Int))) = _; rw [List.length_map]; rfl) rfl) rfl rfl) (hlh_no _ _)) fun ⟨i, hi⟩ => ?_
  refine CW_seq ?_
  refine CW_region ?_
  refine OW_run' hE.ok 1 rfl ?_
  refine OW_end rfl ?_
  refine CW_seq ?_
  refine CW_cond _ rfl (fun h1 => ?_) (fun h1 => ?_)
  · skip
    have hlt : i < p.els.length := by have := h1; simp at this; omega
    obtain ⟨⟨al1, ty1, pl1, ng1, cd1⟩, he⟩ : ∃ e, p.els[i]? = some e := ⟨_, List.getElem?_eq_getElem hlt⟩
    obtain ⟨o2, v2, a2, f2, k2, rfl⟩ := Exp.shape cd1
    have hcn := hc _ (List.mem_of_getElem? he)
    have hty := hp3 _ (List.mem_of_getElem? he)
    simp only at hty
    refine CW_skip ?_
    refine CW_seq ?_
    refine CW_block ?_
    refine CW_seq ?_
    refine CW_region ?_
    refine OW_loc' hE (loc_indexAddr hE rfl rfl rfl rfl rfl (by omega) (x := encL ⟨al1, ty1, pl1, ng1, .mk o2 v2 a2 f2 k2⟩) (by simp [he])) rfl rfl rfl ?_
    refine OW_run' hE.ok 1 rfl ?_
    refine OW_alloc' hE 1 rfl rfl rfl rfl rfl rfl rfl ?_
    refine OW_store' hE rfl rfl rfl rfl rfl rfl rfl rfl rfl rfl rfl rfl ?_
    refine OW.le (LE_freezeBox 1 (ds := encL ⟨al1, ty1, pl1, ng1, .mk o2 v2 a2 f2 k2⟩) rfl rfl) ?_
    refine OW_end rfl ?_
    refine CW_seq ?_
    refine CW_seq ?_
    refine CW_region ?_
    refine OW_run' hE.ok 4 rfl ?_
    refine OW_end rfl ?_
    refine CW_block ?_
    refine CW_loop (σ := {j : Nat // j ≤ ty1.length}) (fun j => ⟨C (nE p i + bif same p.byf nul then 0 else j.1), (sset (sset (sset (sset (sset (sset (sset (sset (sset noSlots 0 (.d (.fn (.yield l) [] []))) 1 (.d (.iptr (encP p)))) 12 (.d (.sl 11 144 (p.els.map encL)))) 13 (.d (int ((p.els.length : Nat) : Int)))) 14 (.d (int ((i : Nat) : Int)))) 4 (.d (.iptr (encL ⟨al1, ty1, pl1, ng1, .mk o2 v2 a2 f2 k2⟩)))) 19 (.d (.sl 1 16 (ty1.map encB)))) 20 (.d (int ((ty1.length : Nat) : Int)))) 21 (.d (int ((j.1 : Nat) : Int)))), noHeap⟩) (fun j => ty1.length - j.1) ⟨0, Nat.zero_le _⟩ ?_ fun ⟨j, hj⟩ => ?_
    · show LE _ _ ⟨C (nE p i + bif same p.byf nul then 0 else 0), _, _⟩
      rw [show (nE p i + bif same p.byf nul then 0 else 0) = nE p i by cases same p.byf nul <;> rfl]
      exact LE_sh (slh_set (slh_set (slh_set (slh_set (slh_set (slh_set (slh_set (slh_set (slh_set (slh_no _ _) rfl rfl) rfl rfl) rfl rfl) rfl rfl) rfl rfl) rfl rfl) rfl rfl) (by show AV.d (.lit (.int .i64 ((ty1.map encB).length : Int))) = _; rw [List.length_map]; rfl) rfl) rfl rfl) (hlh_no _ _)
    refine CW_seq ?_
    refine CW_region ?_
    refine OW_run' hE.ok 1 rfl ?_
    refine OW_end rfl ?_
    refine CW_seq ?_
    refine CW_cond _ rfl (fun h2 => ?_) (fun h2 => ?_)
    · skip
      have hjl : j < ty1.length := by have := h2; simp at this; omega
      obtain ⟨t, ht⟩ : ∃ t, ty1[j]? = some t := ⟨_, List.getElem?_eq_getElem hjl⟩
      refine CW_skip ?_
      refine CW_seq ?_
      refine CW_block ?_
      refine CW_seq ?_
      refine CW_region ?_
      refine OW_loc' hE (loc_indexAddr hE rfl rfl rfl rfl rfl (by omega) (x := encB t) (by simp [ht])) rfl rfl rfl ?_
      refine OW_run' hE.ok 2 rfl ?_
      refine OW_end rfl ?_
      refine CW_seq ?_
      refine CW_region ?_
      refine OW_run' hE.ok 4 rfl ?_
      refine OW_split' 28 rfl (fun h3 => ?_) (fun h3 => ?_)
      · skip
        have gb : (!same p.byf nul) = true := h3
        have gb' : same p.byf nul = false := by simpa using gb
        refine OW_run' hE.ok 1 rfl ?_
        refine OW_run' hE.ok 3 rfl ?_
        refine OW_build' hE rfl rfl rfl rfl rfl ?_
        refine OW_yield' hE hy hC hX (Wrap.id _) ((nE p i + bif same p.byf nul then 0 else j)) rfl rfl rfl rfl rfl rfl (by rw [gb']; exact ysU_get (at_by he ht gb')) rfl rfl rfl ?_ ?_
        · skip
          refine OW_run' hE.ok 2 rfl ?_
          refine OW_end rfl ?_
          refine CW_false rfl ?_
          refine CW_skip ?_
          refine CW_region ?_
          refine OW_run' hE.ok 2 rfl ?_
          refine OW_end rfl ?_
          refine ⟨⟨j + 1, by omega⟩, ?_, by show ty1.length - (j + 1) < ty1.length - j; omega⟩
          show LE _ _ ⟨C (nE p i + bif same p.byf nul then 0 else (j + 1)), _, _⟩
          rw [show (nE p i + bif same p.byf nul then 0 else (j + 1)) = (nE p i + bif same p.byf nul then 0 else j) + 1 by rw [gb']; rfl]
          exact LE_sh (slh_set (v := .d (int ((j + 1 : Nat) : Int))) (slh_set (v := .d (int ((ty1.length : Nat) : Int))) (slh_set (v := .d (.sl 1 16 (ty1.map encB))) (slh_set (v := .d (.iptr (encL ⟨al1, ty1, pl1, ng1, .mk o2 v2 a2 f2 k2⟩))) (slh_set (v := .d (int ((i : Nat) : Int))) (slh_set (v := .d (int ((p.els.length : Nat) : Int))) (slh_set (v := .d (.sl 11 144 (p.els.map encL))) (slh_set (v := .d (.iptr (encP p))) (slh_set (v := .d (.fn (.yield l) [] [])) (slh_no _ _) (by rfl) rfl) (by rfl) rfl) (by rfl) rfl) (by rfl) rfl) (by rfl) rfl) (by rfl) rfl) (by rfl) rfl) (by rfl) rfl) (by show AV.d (.lit (.int .i64 (IntKind.i64.wrap ((j : Int) + 1)))) = _; rw [wrap_succ (by omega)]; rfl) rfl) (hlh_no _ _)
        · skip
          refine OW_run' hE.ok 2 rfl ?_
          refine OW_end rfl ?_
          refine CW_true rfl ?_
          exact CW_ret ⟨.inr rfl, .inr rfl, _, rfl⟩
      · skip
        have gb : (!same p.byf nul) = false := h3
        have gb' : same p.byf nul = true := by simpa using gb
        refine OW_run' hE.ok 8 rfl ?_
        refine OW_end rfl ?_
        refine CW_false rfl ?_
        refine CW_skip ?_
        refine CW_region ?_
        refine OW_run' hE.ok 2 rfl ?_
        refine OW_end rfl ?_
        refine ⟨⟨j + 1, by omega⟩, ?_, by show ty1.length - (j + 1) < ty1.length - j; omega⟩
        show LE _ _ ⟨C (nE p i + bif same p.byf nul then 0 else (j + 1)), _, _⟩
        rw [show (nE p i + bif same p.byf nul then 0 else (j + 1)) = (nE p i + bif same p.byf nul then 0 else j) by rw [gb']; rfl]
        exact LE_sh (slh_set (v := .d (int ((j + 1 : Nat) : Int))) (slh_set (v := .d (int ((ty1.length : Nat) : Int))) (slh_set (v := .d (.sl 1 16 (ty1.map encB))) (slh_set (v := .d (.iptr (encL ⟨al1, ty1, pl1, ng1, .mk o2 v2 a2 f2 k2⟩))) (slh_set (v := .d (int ((i : Nat) : Int))) (slh_set (v := .d (int ((p.els.length : Nat) : Int))) (slh_set (v := .d (.sl 11 144 (p.els.map encL))) (slh_set (v := .d (.iptr (encP p))) (slh_set (v := .d (.fn (.yield l) [] [])) (slh_no _ _) (by rfl) rfl) (by rfl) rfl) (by rfl) rfl) (by rfl) rfl) (by rfl) rfl) (by rfl) rfl) (by rfl) rfl) (by rfl) rfl) (by show AV.d (.lit (.int .i64 (IntKind.i64.wrap ((j : Int) + 1)))) = _; rw [wrap_succ (by omega)]; rfl) rfl) (hlh_no _ _)
    · skip
      have hjg : j = ty1.length := by have := h2; simp at this; omega
      have hcb : (nE p i + bif same p.byf nul then 0 else j) = nE p i + (usesB p (⟨al1, ty1, pl1, ng1, .mk o2 v2 a2 f2 k2⟩ : El)).length := by cases hb : same p.byf nul with | true => rw [usesB_t _ hb]; rfl | false => rw [usesB_f _ hb, hjg]; rfl
      refine CW_exit ?_
      show CW _ _ _ _
      refine CW_seq ?_
      rw [hcb]
      refine CW.le (show LE _ _ ⟨C (nE p i + (usesB p (⟨al1, ty1, pl1, ng1, .mk o2 v2 a2 f2 k2⟩ : El)).length), (sset (sset (sset (sset (sset (sset noSlots 0 (.d (.fn (.yield l) [] []))) 1 (.d (.iptr (encP p)))) 12 (.d (.sl 11 144 (p.els.map encL)))) 13 (.d (int ((p.els.length : Nat) : Int)))) 14 (.d (int ((i : Nat) : Int)))) 4 (.d (.iptr (encL ⟨al1, ty1, pl1, ng1, .mk o2 v2 a2 f2 k2⟩)))), noHeap⟩ from LE_sh (slh_set (v := .d (.iptr (encL ⟨al1, ty1, pl1, ng1, .mk o2 v2 a2 f2 k2⟩))) (slh_set (v := .d (int ((i : Nat) : Int))) (slh_set (v := .d (int ((p.els.length : Nat) : Int))) (slh_set (v := .d (.sl 11 144 (p.els.map encL))) (slh_set (v := .d (.iptr (encP p))) (slh_set (v := .d (.fn (.yield l) [] [])) (slh_no _ _) (by rfl) rfl) (by rfl) rfl) (by rfl) rfl) (by rfl) rfl) (by rfl) rfl) (by rfl) rfl) (hlh_no _ _)) ?_
      refine CW_region ?_
      refine OW_run' hE.ok 2 rfl ?_
      refine OW_call' hE (nodesOk (⟨al1, ty1, pl1, ng1, .mk o2 v2 a2 f2 k2⟩ : El).cond hcn) rfl rfl rfl rfl rfl rfl rfl ?_
      refine OW_run' hE.ok 2 rfl ?_
      refine OW_end rfl ?_
      refine CW_block ?_
      refine CW_loop (σ := {k : Nat // k ≤ (nodesX (⟨al1, ty1, pl1, ng1, .mk o2 v2 a2 f2 k2⟩ : El).cond 1).length}) (fun k => ⟨C (nE p i + (usesB p (⟨al1, ty1, pl1, ng1, .mk o2 v2 a2 f2 k2⟩ : El)).length + nN p (⟨al1, ty1, pl1, ng1, .mk o2 v2 a2 f2 k2⟩ : El) k.1), (sset (sset (sset (sset (sset (sset (sset (sset (sset noSlots 0 (.d (.fn (.yield l) [] []))) 1 (.d (.iptr (encP p)))) 12 (.d (.sl 11 144 (p.els.map encL)))) 13 (.d (int ((p.els.length : Nat) : Int)))) 14 (.d (int ((i : Nat) : Int)))) 4 (.d (.iptr (encL ⟨al1, ty1, pl1, ng1, .mk o2 v2 a2 f2 k2⟩)))) 40 (.d (.sl 7 96 (encXs (nodesX (⟨al1, ty1, pl1, ng1, .mk o2 v2 a2 f2 k2⟩ : El).cond 1))))) 41 (.d (int (((nodesX (⟨al1, ty1, pl1, ng1, .mk o2 v2 a2 f2 k2⟩ : El).cond 1).length : Nat) : Int)))) 42 (.d (int ((k.1 : Nat) : Int)))), noHeap⟩) (fun k => (nodesX (⟨al1, ty1, pl1, ng1, .mk o2 v2 a2 f2 k2⟩ : El).cond 1).length - k.1) ⟨0, Nat.zero_le _⟩ (LE_sh (slh_set (slh_set (slh_set (slh_set (slh_set (slh_set (slh_set (slh_set (slh_set (slh_no _ _) rfl rfl) rfl rfl) rfl rfl) rfl rfl) rfl rfl) rfl rfl) rfl rfl) (by show AV.d (.lit (.int .i64 ((encXs (nodesX (⟨al1, ty1, pl1, ng1, .mk o2 v2 a2 f2 k2⟩ : El).cond 1)).length : Int))) = _; rw [encXs_length]; rfl) rfl) rfl rfl) (hlh_no _ _)) fun ⟨k, hk⟩ => ?_
      refine CW_seq ?_
      refine CW_region ?_
      refine OW_run' hE.ok 1 rfl ?_
      refine OW_end rfl ?_
      refine CW_seq ?_
      refine CW_cond _ rfl (fun h4 => ?_) (fun h4 => ?_)
      · skip
        have hkl : k < (nodesX (⟨al1, ty1, pl1, ng1, .mk o2 v2 a2 f2 k2⟩ : El).cond 1).length := by have h9 : ((k : Nat) : Int) < (((nodesX (⟨al1, ty1, pl1, ng1, .mk o2 v2 a2 f2 k2⟩ : El).cond 1).length : Nat) : Int) := of_decide_eq_true h4; omega
        obtain ⟨x, hx⟩ : ∃ x, (nodesX (⟨al1, ty1, pl1, ng1, .mk o2 v2 a2 f2 k2⟩ : El).cond 1)[k]? = some x := ⟨_, List.getElem?_eq_getElem hkl⟩
        obtain ⟨o3, v3, a3, f3, k3, rfl⟩ := Exp.shape x
        refine CW_skip ?_
        refine CW_seq ?_
        refine CW_block ?_
        refine CW_seq ?_
        refine CW_region ?_
        refine OW_loc' hE (loc_indexAddr hE rfl rfl rfl rfl rfl (by omega) (x := encX (.mk o3 v3 a3 f3 k3)) (encXs_get (by rw [Int.toNat_natCast]; exact hx))) rfl rfl rfl ?_
        refine OW_run' hE.ok 1 rfl ?_
        refine OW_alloc' hE 2 rfl rfl rfl rfl rfl rfl rfl ?_
        refine OW_store' hE rfl rfl rfl rfl rfl rfl rfl rfl rfl rfl rfl rfl ?_
        refine OW.le (LE_freezeBox 2 (ds := encX (.mk o3 v3 a3 f3 k3)) rfl rfl) ?_
        have htl := types_len (x := (.mk o3 v3 a3 f3 k3)) hp3
        refine OW_end rfl ?_
        refine CW_seq ?_
        refine CW_region ?_
        refine OW_run' hE.ok 2 rfl ?_
        refine OW_call' hE (typesOk p (.mk o3 v3 a3 f3 k3)) rfl rfl rfl rfl rfl rfl rfl ?_
        refine OW_run' hE.ok 2 rfl ?_
        refine OW_end rfl ?_
        refine CW_block ?_
        refine CW_loop (σ := {q : Nat // q ≤ (typesX p (.mk o3 v3 a3 f3 k3)).length}) (fun q => ⟨C ((nE p i + (usesB p (⟨al1, ty1, pl1, ng1, .mk o2 v2 a2 f2 k2⟩ : El)).length + nN p (⟨al1, ty1, pl1, ng1, .mk o2 v2 a2 f2 k2⟩ : El) k) + q.1), (sset (sset (sset (sset (sset (sset (sset (sset (sset (sset (sset (sset (sset noSlots 0 (.d (.fn (.yield l) [] []))) 1 (.d (.iptr (encP p)))) 12 (.d (.sl 11 144 (p.els.map encL)))) 13 (.d (int ((p.els.length : Nat) : Int)))) 14 (.d (int ((i : Nat) : Int)))) 4 (.d (.iptr (encL ⟨al1, ty1, pl1, ng1, .mk o2 v2 a2 f2 k2⟩)))) 40 (.d (.sl 7 96 (encXs (nodesX (⟨al1, ty1, pl1, ng1, .mk o2 v2 a2 f2 k2⟩ : El).cond 1))))) 41 (.d (int (((nodesX (⟨al1, ty1, pl1, ng1, .mk o2 v2 a2 f2 k2⟩ : El).cond 1).length : Nat) : Int)))) 42 (.d (int ((k : Nat) : Int)))) 8 (.d (.iptr (encX (.mk o3 v3 a3 f3 k3))))) 48 (.d (.sl 1 16 ((typesX p (.mk o3 v3 a3 f3 k3)).map encB)))) 49 (.d (int (((typesX p (.mk o3 v3 a3 f3 k3)).length : Nat) : Int)))) 50 (.d (int ((q.1 : Nat) : Int)))), noHeap⟩) (fun q => (typesX p (.mk o3 v3 a3 f3 k3)).length - q.1) ⟨0, Nat.zero_le _⟩ (LE_sh (slh_set (slh_set (slh_set (slh_set (slh_set (slh_set (slh_set (slh_set (slh_set (slh_set (slh_set (slh_set (slh_set (slh_no _ _) rfl rfl) rfl rfl) rfl rfl) rfl rfl) rfl rfl) rfl rfl) rfl rfl) rfl rfl) rfl rfl) rfl rfl) rfl rfl) (by show AV.d (.lit (.int .i64 (((typesX p (.mk o3 v3 a3 f3 k3)).map encB).length : Int))) = _; rw [List.length_map]; rfl) rfl) rfl rfl) (hlh_no _ _)) fun ⟨q, hq⟩ => ?_
        refine CW_seq ?_
        refine CW_region ?_
        refine OW_run' hE.ok 1 rfl ?_
        refine OW_end rfl ?_
        refine CW_seq ?_
        refine CW_cond _ rfl (fun h5 => ?_) (fun h5 => ?_)
        · skip
          have hql : q < (typesX p (.mk o3 v3 a3 f3 k3)).length := by have := h5; simp at this; omega
          obtain ⟨t, ht⟩ : ∃ t, (typesX p (.mk o3 v3 a3 f3 k3))[q]? = some t := ⟨_, List.getElem?_eq_getElem hql⟩
          refine CW_skip ?_
          refine CW_seq ?_
          refine CW_block ?_
          refine CW_seq ?_
          refine CW_region ?_
          refine OW_loc' hE (loc_indexAddr hE rfl rfl rfl rfl rfl (by omega) (x := encB t) (by simp [ht])) rfl rfl rfl ?_
          refine OW_run' hE.ok 2 rfl ?_
          refine OW_end rfl ?_
          refine CW_seq ?_
          refine CW_region ?_
          refine OW_run' hE.ok 4 rfl ?_
          refine OW_build' hE rfl rfl rfl rfl rfl ?_
          refine OW_yield' hE hy hC hX (Wrap.id _) (((nE p i + (usesB p (⟨al1, ty1, pl1, ng1, .mk o2 v2 a2 f2 k2⟩ : El)).length + nN p (⟨al1, ty1, pl1, ng1, .mk o2 v2 a2 f2 k2⟩ : El) k) + q)) rfl rfl rfl rfl rfl rfl (ysU_get (at_node he hx ht)) rfl rfl rfl ?_ ?_
          · skip
            refine OW_run' hE.ok 1 rfl ?_
            refine OW_end rfl ?_
            refine CW_false rfl ?_
            refine CW_skip ?_
            refine CW_region ?_
            refine OW_run' hE.ok 2 rfl ?_
            refine OW_end rfl ?_
            refine ⟨⟨q + 1, by omega⟩, ?_, by show (typesX p (.mk o3 v3 a3 f3 k3)).length - (q + 1) < (typesX p (.mk o3 v3 a3 f3 k3)).length - q; omega⟩
            show LE _ _ ⟨C ((nE p i + (usesB p (⟨al1, ty1, pl1, ng1, .mk o2 v2 a2 f2 k2⟩ : El)).length + nN p (⟨al1, ty1, pl1, ng1, .mk o2 v2 a2 f2 k2⟩ : El) k) + (q + 1)), _, _⟩
            exact LE_sh (slh_set (v := .d (int ((q + 1 : Nat) : Int))) (slh_set (v := .d (int (((typesX p (.mk o3 v3 a3 f3 k3)).length : Nat) : Int))) (slh_set (v := .d (.sl 1 16 ((typesX p (.mk o3 v3 a3 f3 k3)).map encB))) (slh_set (v := .d (.iptr (encX (.mk o3 v3 a3 f3 k3)))) (slh_set (v := .d (int ((k : Nat) : Int))) (slh_set (v := .d (int (((nodesX (⟨al1, ty1, pl1, ng1, .mk o2 v2 a2 f2 k2⟩ : El).cond 1).length : Nat) : Int))) (slh_set (v := .d (.sl 7 96 (encXs (nodesX (⟨al1, ty1, pl1, ng1, .mk o2 v2 a2 f2 k2⟩ : El).cond 1)))) (slh_set (v := .d (.iptr (encL ⟨al1, ty1, pl1, ng1, .mk o2 v2 a2 f2 k2⟩))) (slh_set (v := .d (int ((i : Nat) : Int))) (slh_set (v := .d (int ((p.els.length : Nat) : Int))) (slh_set (v := .d (.sl 11 144 (p.els.map encL))) (slh_set (v := .d (.iptr (encP p))) (slh_set (v := .d (.fn (.yield l) [] [])) (slh_no _ _) (by rfl) rfl) (by rfl) rfl) (by rfl) rfl) (by rfl) rfl) (by rfl) rfl) (by rfl) rfl) (by rfl) rfl) (by rfl) rfl) (by rfl) rfl) (by rfl) rfl) (by rfl) rfl) (by rfl) rfl) (by show AV.d (.lit (.int .i64 (IntKind.i64.wrap ((q : Int) + 1)))) = _; rw [wrap_succ (by omega)]; rfl) rfl) (hlh_no _ _)
          · skip
            refine OW_run' hE.ok 1 rfl ?_
            refine OW_end rfl ?_
            refine CW_true rfl ?_
            exact CW_ret ⟨.inr rfl, .inr rfl, _, rfl⟩
        · skip
          have hqge : q = (typesX p (.mk o3 v3 a3 f3 k3)).length := by have := h5; simp at this; omega
          refine CW_exit ?_
          show CW _ _ _ _
          refine CW_region ?_
          refine OW_run' hE.ok 2 rfl ?_
          refine OW_end rfl ?_
          refine ⟨⟨k + 1, by omega⟩, ?_, by show (nodesX (⟨al1, ty1, pl1, ng1, .mk o2 v2 a2 f2 k2⟩ : El).cond 1).length - (k + 1) < (nodesX (⟨al1, ty1, pl1, ng1, .mk o2 v2 a2 f2 k2⟩ : El).cond 1).length - k; omega⟩
          show LE _ _ ⟨C (nE p i + (usesB p (⟨al1, ty1, pl1, ng1, .mk o2 v2 a2 f2 k2⟩ : El)).length + nN p (⟨al1, ty1, pl1, ng1, .mk o2 v2 a2 f2 k2⟩ : El) (k + 1)), _, _⟩
          rw [show (nE p i + (usesB p (⟨al1, ty1, pl1, ng1, .mk o2 v2 a2 f2 k2⟩ : El)).length + nN p (⟨al1, ty1, pl1, ng1, .mk o2 v2 a2 f2 k2⟩ : El) (k + 1)) = ((nE p i + (usesB p (⟨al1, ty1, pl1, ng1, .mk o2 v2 a2 f2 k2⟩ : El)).length + nN p (⟨al1, ty1, pl1, ng1, .mk o2 v2 a2 f2 k2⟩ : El) k) + q) by rw [nN_succ hx]; omega]
          exact LE_sh (slh_set (v := .d (int ((k + 1 : Nat) : Int))) (slh_set (v := .d (int (((nodesX (⟨al1, ty1, pl1, ng1, .mk o2 v2 a2 f2 k2⟩ : El).cond 1).length : Nat) : Int))) (slh_set (v := .d (.sl 7 96 (encXs (nodesX (⟨al1, ty1, pl1, ng1, .mk o2 v2 a2 f2 k2⟩ : El).cond 1)))) (slh_set (v := .d (.iptr (encL ⟨al1, ty1, pl1, ng1, .mk o2 v2 a2 f2 k2⟩))) (slh_set (v := .d (int ((i : Nat) : Int))) (slh_set (v := .d (int ((p.els.length : Nat) : Int))) (slh_set (v := .d (.sl 11 144 (p.els.map encL))) (slh_set (v := .d (.iptr (encP p))) (slh_set (v := .d (.fn (.yield l) [] [])) (slh_no _ _) (by rfl) rfl) (by rfl) rfl) (by rfl) rfl) (by rfl) rfl) (by rfl) rfl) (by rfl) rfl) (by rfl) rfl) (by rfl) rfl) (by show AV.d (.lit (.int .i64 (IntKind.i64.wrap ((k : Int) + 1)))) = _; rw [wrap_succ (by omega)]; rfl) rfl) (hlh_no _ _)
      · skip
        have hkge : k = (nodesX (⟨al1, ty1, pl1, ng1, .mk o2 v2 a2 f2 k2⟩ : El).cond 1).length := by have h9 : ¬ ((k : Nat) : Int) < (((nodesX (⟨al1, ty1, pl1, ng1, .mk o2 v2 a2 f2 k2⟩ : El).cond 1).length : Nat) : Int) := of_decide_eq_false h4; omega
        refine CW_exit ?_
        show CW _ _ _ _
        refine CW_region ?_
        refine OW_run' hE.ok 2 rfl ?_
        refine OW_end rfl ?_
        refine ⟨⟨i + 1, by omega⟩, ?_, by show p.els.length - (i + 1) < p.els.length - i; omega⟩
        show LE _ _ ⟨C (nE p (i + 1)), _, _⟩
        rw [show nE p (i + 1) = (nE p i + (usesB p (⟨al1, ty1, pl1, ng1, .mk o2 v2 a2 f2 k2⟩ : El)).length + nN p (⟨al1, ty1, pl1, ng1, .mk o2 v2 a2 f2 k2⟩ : El) k) by rw [nE_succ he, hkge]]
        exact LE_sh (slh_set (v := .d (int ((i + 1 : Nat) : Int))) (slh_set (v := .d (int ((p.els.length : Nat) : Int))) (slh_set (v := .d (.sl 11 144 (p.els.map encL))) (slh_set (v := .d (.iptr (encP p))) (slh_set (v := .d (.fn (.yield l) [] [])) (slh_no _ _) (by rfl) rfl) (by rfl) rfl) (by rfl) rfl) (by rfl) rfl) (by show AV.d (.lit (.int .i64 (IntKind.i64.wrap ((i : Int) + 1)))) = _; rw [wrap_succ (by omega)]; rfl) rfl) (hlh_no _ _)
  · skip
    have hge : p.els.length ≤ i := by have := h1; simp at this; omega
    refine CW_exit ?_
    show RetI _ _ _ _ .normal _
    exact ⟨.inl rfl, .inl (by show C _ = _; rw [ysU_len, nE_end hge]), _, rfl⟩

theorem allOk (p : Pat) : Does Try.prog 44 [argP p] noHeap (.d (.fn (.func 80) [] [.iptr (encP p)])) := by
  refine Does_of T_ok mixed (N := 4) Try.func44 rfl rfl rfl (by rfl) fun F n Z hE hF J => ?_
  refine CW_seq ?_
  refine CW_region ?_
  refine OW_run' hE.ok 2 rfl ?_
  refine OW_end rfl ?_
  refine CW_seq ?_
  refine CW_region ?_
  refine OW_run' hE.ok 2 rfl ?_
  refine OW_end rfl ?_
  refine CW_ret ?_
  refine ⟨.inr rfl, rfl, ⟨_, rfl, rfl, ?_⟩, rfl⟩
  exact AVle.refl _
end Go.Proofs.Ytojnicnbmgiplaa
