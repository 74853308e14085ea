/- Parts of an abstract logic over the kit's walks, and walks in it: P4ng. -/
import Derived.Test.YtojnicnbmgiplaaP4ne
import Derived.Test.YtojnicnbmgiplaaPxf
import Derived.Test.YtojnicnbmgiplaaNeed6
import Derived.Test.YtojnicnbmgiplaaAg
import Derived.Test.YtojnicnbmgiplaaAe
namespace Go.Proofs.Ytojnicnbmgiplaa
open Go Go.AL
set_option linter.unusedVariables false
set_option linter.unusedSimpArgs false
set_option maxHeartbeats 4000000
theorem refUsesOk (s : List Ty) (p : Pat) (hck : chkR s p = 0) : Does Try.prog 14 [argS s, argP p] noHeap (.d (.sl 2 32 ((refU p).map encU))) := by
  refine Does_of T_ok mixed (N := 96) Try.func14 rfl rfl rfl (by rfl) fun F n Z hE hF J => ?_
  have hpt := chk_isPat hck
  obtain ⟨hp5, hpf⟩ := pat_few hpt
  refine CW_seq ?_
  refine CW_region ?_
  refine OW_run' hE.ok 3 rfl ?_
  refine OW_end rfl ?_
  refine CW_seq ?_
  refine CW_region ?_
  refine OW_run' hE.ok 1 rfl ?_
  refine OW.le (LE_slotLe 5 (y := .d (.sl 2 32 ((accI p 0).map encU))) rfl (AVle.nilSl 2 32)) ?_
  refine OW_end rfl ?_
  refine CW_seq ?_
  refine CW_seq ?_
  refine CW_region ?_
  refine OW_run' hE.ok 1 rfl ?_
  refine OW_end rfl ?_
  refine CW_block ?_
  refine CW_loop (σ := {i : Nat // i ≤ p.els.length}) (fun i => ⟨J, (sset (sset (sset noSlots 3 (.d (.iptr (encP p)))) 5 (.d (.sl 2 32 ((accI p i.1).map encU)))) 6 (.d (int ((i.1 : Nat) : Int)))), noHeap⟩) (fun i => p.els.length - i.1) ⟨0, Nat.zero_le _⟩ (LE_sh (slh_set (slh_set (slh_set (slh_no _ _) rfl rfl) rfl rfl) rfl rfl) (hlh_no _ _)) fun ⟨i, hi⟩ => ?_
  refine CW_seq ?_
  refine CW_seq ?_
  refine CW_region ?_
  refine OW_run' hE.ok 5 rfl ?_
  refine OW_end rfl ?_
  refine CW_cond _ rfl (fun h1 => ?_) (fun h1 => ?_)
  · skip
    have hlt : i < p.els.length := by have h9 : ((i : Nat) : Int) < (((p.els.map encL).length : Nat) : Int) := of_decide_eq_true h1; rw [List.length_map] at h9; omega
    obtain ⟨⟨al1, ty1, pl1, ng1, cd1⟩, he⟩ : ∃ e, p.els[i]? = some e := ⟨_, List.getElem?_eq_getElem hlt⟩
    obtain ⟨o2, v2, a2, f2, k2, rfl⟩ := Exp.shape cd1
    have hem := List.mem_of_getElem? he
    obtain ⟨hnf, htf⟩ := hpf _ hem
    have htf : ty1.length ≤ 3 := htf
    refine CW_skip ?_
    refine CW_seq ?_
    refine CW_block ?_
    refine CW_seq ?_
    refine CW_region ?_
    refine OW_run' hE.ok 3 rfl ?_
    refine OW_loc' hE (loc_indexAddr hE rfl rfl rfl rfl rfl (by omega) (x := encL ⟨al1, ty1, pl1, ng1, .mk o2 v2 a2 f2 k2⟩) (by simp [he])) rfl rfl rfl ?_
    refine OW_run' hE.ok 1 rfl ?_
    refine OW_alloc' hE 1 rfl rfl rfl rfl rfl rfl rfl ?_
    refine OW_store' hE rfl rfl rfl rfl rfl rfl rfl rfl rfl rfl rfl rfl ?_
    refine OW.le (LE_freezeBox 1 (ds := encL ⟨al1, ty1, pl1, ng1, .mk o2 v2 a2 f2 k2⟩) rfl rfl) ?_
    refine OW_end rfl ?_
    refine CW_seq ?_
    refine CW_region ?_
    refine OW_run' hE.ok 2 rfl ?_
    refine OW_call' hE (refNodesOk (⟨al1, ty1, pl1, ng1, .mk o2 v2 a2 f2 k2⟩ : El).cond (Nat.le_trans hnf (by decide))) rfl rfl rfl rfl rfl rfl rfl ?_
    refine OW_run' hE.ok 1 rfl ?_
    refine OW_end rfl ?_
    refine CW_seq ?_
    refine CW_seq ?_
    refine CW_region ?_
    refine OW_run' hE.ok 1 rfl ?_
    refine OW_end rfl ?_
    refine CW_block ?_
    refine CW_loop (σ := {k : Nat // k ≤ (nodesX (⟨al1, ty1, pl1, ng1, .mk o2 v2 a2 f2 k2⟩ : El).cond 1).length}) (fun k => ⟨J, (sset (sset (sset (sset (sset (sset noSlots 3 (.d (.iptr (encP p)))) 5 (.d (.sl 2 32 ((accN p i (⟨al1, ty1, pl1, ng1, .mk o2 v2 a2 f2 k2⟩ : El) k.1).map encU)))) 6 (.d (int ((i : Nat) : Int)))) 7 (.d (.iptr (encL ⟨al1, ty1, pl1, ng1, .mk o2 v2 a2 f2 k2⟩)))) 8 (.d (.sl 7 96 (encXs (nodesX (⟨al1, ty1, pl1, ng1, .mk o2 v2 a2 f2 k2⟩ : El).cond 1))))) 9 (.d (int ((k.1 : Nat) : Int)))), noHeap⟩) (fun k => (nodesX (⟨al1, ty1, pl1, ng1, .mk o2 v2 a2 f2 k2⟩ : El).cond 1).length - k.1) ⟨0, Nat.zero_le _⟩ (LE_sh (slh_set (slh_set (slh_set (slh_set (slh_set (slh_set (slh_no _ _) rfl rfl) rfl rfl) rfl rfl) rfl rfl) rfl rfl) rfl rfl) (hlh_no _ _)) fun ⟨k, hk⟩ => ?_
    refine CW_seq ?_
    refine CW_seq ?_
    refine CW_region ?_
    refine OW_run' hE.ok 4 rfl ?_
    refine OW_end rfl ?_
    refine CW_cond _ rfl (fun h2 => ?_) (fun h2 => ?_)
    · skip
      have hkl : k < (nodesX (⟨al1, ty1, pl1, ng1, .mk o2 v2 a2 f2 k2⟩ : El).cond 1).length := by have h9 : ((k : Nat) : Int) < (((encXs (nodesX (⟨al1, ty1, pl1, ng1, .mk o2 v2 a2 f2 k2⟩ : El).cond 1)).length : Nat) : Int) := of_decide_eq_true h2; rw [encXs_length] at h9; omega
      obtain ⟨x, hx⟩ : ∃ x, (nodesX (⟨al1, ty1, pl1, ng1, .mk o2 v2 a2 f2 k2⟩ : El).cond 1)[k]? = some x := ⟨_, List.getElem?_eq_getElem hkl⟩
      obtain ⟨o3, v3, a3, f3, k3, rfl⟩ := Exp.shape x
      refine CW_skip ?_
      refine CW_seq ?_
      refine CW_block ?_
      refine CW_seq ?_
      refine CW_seq ?_
      refine CW_region ?_
      refine OW_run' hE.ok 2 rfl ?_
      refine OW_loc' hE (loc_indexAddr hE rfl rfl rfl rfl rfl (by omega) (x := encX (.mk o3 v3 a3 f3 k3 : Exp)) (encXs_get (by rw [Int.toNat_natCast]; exact hx))) rfl rfl rfl ?_
      refine OW_run' hE.ok 3 rfl ?_
      refine OW_end rfl ?_
      refine CW_cond _ rfl (fun h3 => ?_) (fun h3 => ?_)
      · skip
        have gop : (o3 != 2) = true := h3
        refine CW_exit ?_
        show CW _ _ _ _
        refine CW_region ?_
        refine OW_run' hE.ok 3 rfl ?_
        refine OW_end rfl ?_
        refine ⟨⟨k + 1, by omega⟩, LE_sh (slh_set (v := .d (int ((k + 1 : Nat) : Int))) (slh_set (v := .d (.sl 7 96 (encXs (nodesX (⟨al1, ty1, pl1, ng1, .mk o2 v2 a2 f2 k2⟩ : El).cond 1)))) (slh_set (v := .d (.iptr (encL ⟨al1, ty1, pl1, ng1, .mk o2 v2 a2 f2 k2⟩))) (slh_set (v := .d (int ((i : Nat) : Int))) (slh_set (v := .d (.sl 2 32 ((accN p i (⟨al1, ty1, pl1, ng1, .mk o2 v2 a2 f2 k2⟩ : El) (k + 1)).map encU))) (slh_set (v := .d (.iptr (encP p))) (slh_no _ _) (by rfl) rfl) (by exact (congrArg (fun z : List Us => AV.d (.sl 2 32 (z.map encU))) ((accN_skip hx gop).symm))) rfl) (by rfl) rfl) (by rfl) rfl) (by rfl) rfl) (by show AV.d (.lit (.int .i64 (IntKind.i64.wrap ((k : Int) + 1)))) = _; rw [wrap_succ (by omega)]; rfl) rfl) (hlh_no _ _), by show (nodesX (⟨al1, ty1, pl1, ng1, .mk o2 v2 a2 f2 k2⟩ : El).cond 1).length - (k + 1) < (nodesX (⟨al1, ty1, pl1, ng1, .mk o2 v2 a2 f2 k2⟩ : El).cond 1).length - k; omega⟩
      · skip
        have gop : (o3 == 2) = true := beq_iff_eq.2 (bne_eq_false_iff_eq.1 h3)
        obtain ⟨j0, ⟨al4, ty4, pl4, ng4, cd4⟩, hj0, hd, htx⟩ := chk_at hck hem (List.mem_of_getElem? hx) gop
        obtain ⟨o5, v5, a5, f5, k5, rfl⟩ := Exp.shape cd4
        have htx : typesX p (.mk o3 v3 a3 f3 k3 : Exp) = ty4 := htx
        have ht4 : ty4.length ≤ 3 := (hpf _ (List.mem_of_getElem? hd)).2
        have hj0' : idx (fun e : El => same e.al a3) p.els = (j0 : Int) := hj0
        refine CW_skip ?_
        refine CW_seq ?_
        refine CW_drawn6 hE 14 13 2 (by decide +kernel) rfl rfl rfl rfl rfl rfl rfl rfl rfl rfl ?_
        refine H2_run hE 6 rfl rfl rfl rfl rfl ?_
        refine H2_loc hE (fun b => loc_indexAddr hE rfl rfl rfl rfl rfl (by omega) (x := encX (.mk o3 v3 a3 f3 k3 : Exp)) (encXs_get (by rw [Int.toNat_natCast]; exact hx))) rfl rfl rfl rfl rfl ?_
        refine H2_run hE 2 rfl rfl rfl rfl rfl ?_
        refine H2_call hE (refAliasOk p.els a3) rfl rfl rfl rfl rfl rfl rfl rfl rfl ?_
        refine H2_as 49 (.d (int ((j0 : Nat) : Int))) (congrArg (fun z => AV.d (int z)) hj0') ?_
        refine H2_loc hE (fun b => loc_max hE rfl rfl rfl rfl) rfl rfl rfl rfl rfl ?_
        refine H2_as 50 (.d (int ((j0 : Nat) : Int))) (congrArg (fun z => AV.d (int z)) (show max (0 : Int) ((j0 : Nat) : Int) = ((j0 : Nat) : Int) by omega)) ?_
        refine H2_loc hE (fun b => loc_indexAddr hE rfl rfl rfl rfl rfl (by omega) (x := encL ⟨al4, ty4, pl4, ng4, .mk o5 v5 a5 f5 k5⟩) (by rw [Int.toNat_natCast, List.getElem?_map, hd]; rfl)) rfl rfl rfl rfl rfl ?_
        refine H2_run hE 1 rfl rfl rfl rfl rfl ?_
        refine H2_alloc rfl rfl rfl ?_
        refine H2_end ?_
        refine OW_store' hE rfl rfl rfl rfl rfl rfl rfl rfl rfl rfl rfl rfl ?_
        refine OW.le (LE_freezeBox 2 (ds := encL ⟨al4, ty4, pl4, ng4, .mk o5 v5 a5 f5 k5⟩) rfl rfl) ?_
        refine OW_end rfl ?_
        refine CW_seq ?_
        refine CW_region ?_
        refine OW_run' hE.ok 1 rfl ?_
        refine OW_end rfl ?_
        refine CW_block ?_
        refine CW_loop (σ := {j : Nat // j ≤ ty4.length}) (fun j => ⟨J, (sset (sset (sset (sset (sset (sset (sset (sset noSlots 3 (.d (.iptr (encP p)))) 5 (.d (.sl 2 32 ((accT p (accN p i (⟨al1, ty1, pl1, ng1, .mk o2 v2 a2 f2 k2⟩ : El) k) (.mk o3 v3 a3 f3 k3 : Exp) j.1).map encU)))) 6 (.d (int ((i : Nat) : Int)))) 7 (.d (.iptr (encL ⟨al1, ty1, pl1, ng1, .mk o2 v2 a2 f2 k2⟩)))) 8 (.d (.sl 7 96 (encXs (nodesX (⟨al1, ty1, pl1, ng1, .mk o2 v2 a2 f2 k2⟩ : El).cond 1))))) 9 (.d (int ((k : Nat) : Int)))) 10 (.d (.iptr (encL ⟨al4, ty4, pl4, ng4, .mk o5 v5 a5 f5 k5⟩)))) 11 (.d (int ((j.1 : Nat) : Int)))), noHeap⟩) (fun j => ty4.length - j.1) ⟨0, Nat.zero_le _⟩ (LE_sh (slh_set (slh_set (slh_set (slh_set (slh_set (slh_set (slh_set (slh_set (slh_no _ _) rfl rfl) rfl rfl) rfl rfl) rfl rfl) rfl rfl) rfl rfl) rfl rfl) rfl rfl) (hlh_no _ _)) fun ⟨j, hj⟩ => ?_
        refine CW_seq ?_
        refine CW_seq ?_
        refine CW_region ?_
        refine OW_run' hE.ok 5 rfl ?_
        refine OW_end rfl ?_
        refine CW_cond _ rfl (fun h4 => ?_) (fun h4 => ?_)
        · skip
          have hjl : j < ty4.length := by have h9 : ((j : Nat) : Int) < (((ty4.map encB).length : Nat) : Int) := of_decide_eq_true h4; rw [List.length_map] at h9; omega
          obtain ⟨t, ht⟩ : ∃ t, ty4[j]? = some t := ⟨_, List.getElem?_eq_getElem hjl⟩
          have ht' : (typesX p (.mk o3 v3 a3 f3 k3 : Exp))[j]? = some t := by rw [htx]; exact ht
          have hal := accT_len (accN p i (⟨al1, ty1, pl1, ng1, .mk o2 v2 a2 f2 k2⟩ : El) k) hpt (.mk o3 v3 a3 f3 k3 : Exp) j
          have hal2 := accN_len (k := k) hpt hem i
          refine CW_skip ?_
          refine CW_seq ?_
          refine CW_block ?_
          refine CW_drawn' hE 12 (by decide +kernel) ?_
          refine HW_run hE 4 rfl rfl ?_
          refine HW_loc hE (loc_indexAddr hE rfl rfl rfl rfl rfl (by omega) (x := encB t) (by simp [ht])) rfl rfl rfl rfl ?_
          refine HW_run hE 3 rfl rfl ?_
          refine HW_loc hE (loc_indexAddr hE rfl rfl rfl rfl rfl (by omega) (x := encX (.mk o3 v3 a3 f3 k3 : Exp)) (encXs_get (by rw [Int.toNat_natCast]; exact hx))) rfl rfl rfl rfl ?_
          refine HW_run hE 2 rfl rfl ?_
          refine HW_loc hE (loc_build hE rfl rfl) rfl rfl rfl rfl ?_
          refine HW_end ?_
          refine OW_call' hE (withUOk (accT p (accN p i (⟨al1, ty1, pl1, ng1, .mk o2 v2 a2 f2 k2⟩ : El) k) (.mk o3 v3 a3 f3 k3 : Exp) j) ⟨t, f3⟩ (by omega)) rfl rfl rfl rfl rfl rfl rfl ?_
          refine OW_run' hE.ok 1 rfl ?_
          refine OW_end rfl ?_
          refine CW_region ?_
          refine OW_run' hE.ok 3 rfl ?_
          refine OW_end rfl ?_
          refine ⟨⟨j + 1, by omega⟩, LE_sh (slh_set (v := .d (int ((j + 1 : Nat) : Int))) (slh_set (v := .d (.iptr (encL ⟨al4, ty4, pl4, ng4, .mk o5 v5 a5 f5 k5⟩))) (slh_set (v := .d (int ((k : Nat) : Int))) (slh_set (v := .d (.sl 7 96 (encXs (nodesX (⟨al1, ty1, pl1, ng1, .mk o2 v2 a2 f2 k2⟩ : El).cond 1)))) (slh_set (v := .d (.iptr (encL ⟨al1, ty1, pl1, ng1, .mk o2 v2 a2 f2 k2⟩))) (slh_set (v := .d (int ((i : Nat) : Int))) (slh_set (v := .d (.sl 2 32 ((accT p (accN p i (⟨al1, ty1, pl1, ng1, .mk o2 v2 a2 f2 k2⟩ : El) k) (.mk o3 v3 a3 f3 k3 : Exp) (j + 1)).map encU))) (slh_set (v := .d (.iptr (encP p))) (slh_no _ _) (by rfl) rfl) (by exact (congrArg (fun z : List Us => AV.d (.sl 2 32 (z.map encU))) ((accT_succ ht').symm))) rfl) (by rfl) rfl) (by rfl) rfl) (by rfl) rfl) (by rfl) rfl) (by rfl) rfl) (by show AV.d (.lit (.int .i64 (IntKind.i64.wrap ((j : Int) + 1)))) = _; rw [wrap_succ (by omega)]; rfl) rfl) (hlh_no _ _), by show ty4.length - (j + 1) < ty4.length - j; omega⟩
        · skip
          have hjg : ty4.length ≤ j := by have h9 : ¬ ((j : Nat) : Int) < (((ty4.map encB).length : Nat) : Int) := of_decide_eq_false h4; rw [List.length_map] at h9; omega
          refine CW_exit ?_
          show CW _ _ _ _
          refine CW_region ?_
          refine OW_run' hE.ok 3 rfl ?_
          refine OW_end rfl ?_
          refine ⟨⟨k + 1, by omega⟩, LE_sh (slh_set (v := .d (int ((k + 1 : Nat) : Int))) (slh_set (v := .d (.sl 7 96 (encXs (nodesX (⟨al1, ty1, pl1, ng1, .mk o2 v2 a2 f2 k2⟩ : El).cond 1)))) (slh_set (v := .d (.iptr (encL ⟨al1, ty1, pl1, ng1, .mk o2 v2 a2 f2 k2⟩))) (slh_set (v := .d (int ((i : Nat) : Int))) (slh_set (v := .d (.sl 2 32 ((accN p i (⟨al1, ty1, pl1, ng1, .mk o2 v2 a2 f2 k2⟩ : El) (k + 1)).map encU))) (slh_set (v := .d (.iptr (encP p))) (slh_no _ _) (by rfl) rfl) (by exact (congrArg (fun z : List Us => AV.d (.sl 2 32 (z.map encU))) (by rw [accN_succ hx, htx]; exact congrArg (accT p (accN p i (⟨al1, ty1, pl1, ng1, .mk o2 v2 a2 f2 k2⟩ : El) k) (.mk o3 v3 a3 f3 k3 : Exp)) (show j = ty4.length by omega)))) rfl) (by rfl) rfl) (by rfl) rfl) (by rfl) rfl) (by show AV.d (.lit (.int .i64 (IntKind.i64.wrap ((k : Int) + 1)))) = _; rw [wrap_succ (by omega)]; rfl) rfl) (hlh_no _ _), by show (nodesX (⟨al1, ty1, pl1, ng1, .mk o2 v2 a2 f2 k2⟩ : El).cond 1).length - (k + 1) < (nodesX (⟨al1, ty1, pl1, ng1, .mk o2 v2 a2 f2 k2⟩ : El).cond 1).length - k; omega⟩
    · skip
      have hkge : k = (nodesX (⟨al1, ty1, pl1, ng1, .mk o2 v2 a2 f2 k2⟩ : El).cond 1).length := by have h9 : ¬ ((k : Nat) : Int) < (((encXs (nodesX (⟨al1, ty1, pl1, ng1, .mk o2 v2 a2 f2 k2⟩ : El).cond 1)).length : Nat) : Int) := of_decide_eq_false h2; rw [encXs_length] at h9; omega
      refine CW_exit ?_
      show CW _ _ _ _
      refine CW_seq ?_
      refine CW.le (show LE _ _ ⟨J, (sset (sset (sset (sset noSlots 3 (.d (.iptr (encP p)))) 5 (.d (.sl 2 32 ((accB p (accN p i (⟨al1, ty1, pl1, ng1, .mk o2 v2 a2 f2 k2⟩ : El) (nodesX (⟨al1, ty1, pl1, ng1, .mk o2 v2 a2 f2 k2⟩ : El).cond 1).length) (⟨al1, ty1, pl1, ng1, .mk o2 v2 a2 f2 k2⟩ : El) 0).map encU)))) 6 (.d (int ((i : Nat) : Int)))) 7 (.d (.iptr (encL ⟨al1, ty1, pl1, ng1, .mk o2 v2 a2 f2 k2⟩)))), noHeap⟩ from LE_sh (slh_set (v := .d (.iptr (encL ⟨al1, ty1, pl1, ng1, .mk o2 v2 a2 f2 k2⟩))) (slh_set (v := .d (int ((i : Nat) : Int))) (slh_set (v := .d (.sl 2 32 ((accB p (accN p i (⟨al1, ty1, pl1, ng1, .mk o2 v2 a2 f2 k2⟩ : El) (nodesX (⟨al1, ty1, pl1, ng1, .mk o2 v2 a2 f2 k2⟩ : El).cond 1).length) (⟨al1, ty1, pl1, ng1, .mk o2 v2 a2 f2 k2⟩ : El) 0).map encU))) (slh_set (v := .d (.iptr (encP p))) (slh_no _ _) (by rfl) rfl) (by exact (congrArg (fun z : List Us => AV.d (.sl 2 32 (z.map encU))) (by rw [accB_zero]; exact congrArg (accN p i (⟨al1, ty1, pl1, ng1, .mk o2 v2 a2 f2 k2⟩ : El)) hkge))) rfl) (by rfl) rfl) (by rfl) rfl) (hlh_no _ _)) ?_
      refine CW_region ?_
      refine OW_run' hE.ok 1 rfl ?_
      refine OW_end rfl ?_
      refine CW_block ?_
      refine CW_loop (σ := {j : Nat // j ≤ ty1.length}) (fun j => ⟨J, (sset (sset (sset (sset (sset noSlots 3 (.d (.iptr (encP p)))) 5 (.d (.sl 2 32 ((accB p (accN p i (⟨al1, ty1, pl1, ng1, .mk o2 v2 a2 f2 k2⟩ : El) (nodesX (⟨al1, ty1, pl1, ng1, .mk o2 v2 a2 f2 k2⟩ : El).cond 1).length) (⟨al1, ty1, pl1, ng1, .mk o2 v2 a2 f2 k2⟩ : El) j.1).map encU)))) 6 (.d (int ((i : Nat) : Int)))) 7 (.d (.iptr (encL ⟨al1, ty1, pl1, ng1, .mk o2 v2 a2 f2 k2⟩)))) 12 (.d (int ((j.1 : Nat) : Int)))), noHeap⟩) (fun j => ty1.length - j.1) ⟨0, Nat.zero_le _⟩ (LE_sh (slh_set (slh_set (slh_set (slh_set (slh_set (slh_no _ _) rfl rfl) rfl rfl) rfl rfl) rfl rfl) rfl rfl) (hlh_no _ _)) fun ⟨j, hj⟩ => ?_
      refine CW_seq ?_
      refine CW_seq ?_
      refine CW_region ?_
      refine OW_run' hE.ok 6 rfl ?_
      refine OW_split' 78 rfl (fun h5 => ?_) (fun h5 => ?_)
      · skip
        have hjl : j < ty1.length := by have h9 : ((j : Nat) : Int) < (((ty1.map encB).length : Nat) : Int) := of_decide_eq_true h5; rw [List.length_map] at h9; omega
        obtain ⟨t, ht⟩ : ∃ t, ty1[j]? = some t := ⟨_, List.getElem?_eq_getElem hjl⟩
        have hal := accB_len (p := p) (e := (⟨al1, ty1, pl1, ng1, .mk o2 v2 a2 f2 k2⟩ : El)) (accN p i (⟨al1, ty1, pl1, ng1, .mk o2 v2 a2 f2 k2⟩ : El) (nodesX (⟨al1, ty1, pl1, ng1, .mk o2 v2 a2 f2 k2⟩ : El).cond 1).length) htf j
        have hal2 := accN_len (k := (nodesX (⟨al1, ty1, pl1, ng1, .mk o2 v2 a2 f2 k2⟩ : El).cond 1).length) hpt hem i
        refine OW_run' hE.ok 4 rfl ?_
        refine OW_end rfl ?_
        refine CW_cond _ rfl (fun h6 => ?_) (fun h6 => ?_)
        · skip
          have gb' : same p.byf nul = false := by have h9 : (!same p.byf nul) = true := h6; simpa using h9
          refine CW_skip ?_
          refine CW_seq ?_
          refine CW_block ?_
          refine CW_drawn' hE 9 (by decide +kernel) ?_
          refine HW_run hE 4 rfl rfl ?_
          refine HW_loc hE (loc_indexAddr hE rfl rfl rfl rfl rfl (by omega) (x := encB t) (by simp [ht])) rfl rfl rfl rfl ?_
          refine HW_run hE 3 rfl rfl ?_
          refine HW_loc hE (loc_build hE rfl rfl) rfl rfl rfl rfl ?_
          refine HW_end ?_
          refine OW_call' hE (withUOk (accB p (accN p i (⟨al1, ty1, pl1, ng1, .mk o2 v2 a2 f2 k2⟩ : El) (nodesX (⟨al1, ty1, pl1, ng1, .mk o2 v2 a2 f2 k2⟩ : El).cond 1).length) (⟨al1, ty1, pl1, ng1, .mk o2 v2 a2 f2 k2⟩ : El) j) ⟨t, p.byf⟩ (by omega)) rfl rfl rfl rfl rfl rfl rfl ?_
          refine OW_run' hE.ok 1 rfl ?_
          refine OW_end rfl ?_
          refine CW_region ?_
          refine OW_run' hE.ok 3 rfl ?_
          refine OW_end rfl ?_
          refine ⟨⟨j + 1, by omega⟩, LE_sh (slh_set (v := .d (int ((j + 1 : Nat) : Int))) (slh_set (v := .d (.iptr (encL ⟨al1, ty1, pl1, ng1, .mk o2 v2 a2 f2 k2⟩))) (slh_set (v := .d (int ((i : Nat) : Int))) (slh_set (v := .d (.sl 2 32 ((accB p (accN p i (⟨al1, ty1, pl1, ng1, .mk o2 v2 a2 f2 k2⟩ : El) (nodesX (⟨al1, ty1, pl1, ng1, .mk o2 v2 a2 f2 k2⟩ : El).cond 1).length) (⟨al1, ty1, pl1, ng1, .mk o2 v2 a2 f2 k2⟩ : El) (j + 1)).map encU))) (slh_set (v := .d (.iptr (encP p))) (slh_no _ _) (by rfl) rfl) (by exact (congrArg (fun z : List Us => AV.d (.sl 2 32 (z.map encU))) ((accB_succ gb' ht).symm))) rfl) (by rfl) rfl) (by rfl) rfl) (by show AV.d (.lit (.int .i64 (IntKind.i64.wrap ((j : Int) + 1)))) = _; rw [wrap_succ (by omega)]; rfl) rfl) (hlh_no _ _), by show ty1.length - (j + 1) < ty1.length - j; omega⟩
        · skip
          have gb' : same p.byf nul = true := by have h9 : (!same p.byf nul) = false := h6; simpa using h9
          refine CW_exit ?_
          show CW _ _ _ _
          refine CW_region ?_
          refine OW_run' hE.ok 3 rfl ?_
          refine OW_end rfl ?_
          refine ⟨⟨i + 1, by omega⟩, LE_sh (slh_set (v := .d (int ((i + 1 : Nat) : Int))) (slh_set (v := .d (.sl 2 32 ((accI p (i + 1)).map encU))) (slh_set (v := .d (.iptr (encP p))) (slh_no _ _) (by rfl) rfl) (by exact (congrArg (fun z : List Us => AV.d (.sl 2 32 (z.map encU))) (by rw [accI_succ he, accB_no gb', accB_no gb']))) rfl) (by show AV.d (.lit (.int .i64 (IntKind.i64.wrap ((i : Int) + 1)))) = _; rw [wrap_succ (by omega)]; rfl) rfl) (hlh_no _ _), by show p.els.length - (i + 1) < p.els.length - i; omega⟩
      · skip
        have hjg : ty1.length ≤ j := by have h9 : ¬ ((j : Nat) : Int) < (((ty1.map encB).length : Nat) : Int) := of_decide_eq_false h5; rw [List.length_map] at h9; omega
        refine OW_run' hE.ok 4 rfl ?_
        refine OW_end rfl ?_
        refine CW_false rfl ?_
        refine CW_exit ?_
        show CW _ _ _ _
        refine CW_region ?_
        refine OW_run' hE.ok 3 rfl ?_
        refine OW_end rfl ?_
        refine ⟨⟨i + 1, by omega⟩, LE_sh (slh_set (v := .d (int ((i + 1 : Nat) : Int))) (slh_set (v := .d (.sl 2 32 ((accI p (i + 1)).map encU))) (slh_set (v := .d (.iptr (encP p))) (slh_no _ _) (by rfl) rfl) (by exact (congrArg (fun z : List Us => AV.d (.sl 2 32 (z.map encU))) (by rw [accI_succ he]; exact congrArg (accB p (accN p i (⟨al1, ty1, pl1, ng1, .mk o2 v2 a2 f2 k2⟩ : El) (nodesX (⟨al1, ty1, pl1, ng1, .mk o2 v2 a2 f2 k2⟩ : El).cond 1).length) (⟨al1, ty1, pl1, ng1, .mk o2 v2 a2 f2 k2⟩ : El)) (show j = ty1.length by omega)))) rfl) (by show AV.d (.lit (.int .i64 (IntKind.i64.wrap ((i : Int) + 1)))) = _; rw [wrap_succ (by omega)]; rfl) rfl) (hlh_no _ _), by show p.els.length - (i + 1) < p.els.length - i; omega⟩
  · skip
    have hge : p.els.length ≤ i := by have h9 : ¬ ((i : Nat) : Int) < (((p.els.map encL).length : Nat) : Int) := of_decide_eq_false h1; rw [List.length_map] at h9; omega
    refine CW_exit ?_
    show CW _ _ _ _
    refine CW_seq ?_
    refine CW_region ?_
    refine OW_run' hE.ok 2 rfl ?_
    refine OW_end rfl ?_
    refine CW_ret ?_
    refine ⟨.inr rfl, rfl, ⟨_, rfl, rfl, ?_⟩, rfl⟩
    rw [← accI_end hge]
    exact AVle.refl _
end Go.Proofs.Ytojnicnbmgiplaa
