/- Parts of an abstract logic over the kit's walks, and walks in it: D8xc. -/
import Derived.Test.YtjiknbjkbakegaaDoorD8xs
namespace Go.Proofs.YtjiknbjkbakegaaDoor
open Go Go.AL
set_option linter.unusedVariables false
set_option linter.unusedSimpArgs false
set_option maxHeartbeats 4000000
theorem isXOk (x : Exp) : Does Tryd.prog 45 [argX x] noHeap (.d (boo (isX x))) := by
  refine Does_of T_ok mixed (N := 22) Tryd.func45 rfl rfl rfl (by rfl) fun F n Z hE hF J => ?_
  have hI := nodesIt x
  have hd := depthXOk x
  obtain ⟨nx, hnx⟩ : ∃ nx, nodesX x 1 = nx := ⟨_, rfl⟩
  rw [hnx] at hI
  obtain ⟨dx, hdx⟩ : ∃ dx, depthX x 1 = dx := ⟨_, rfl⟩
  rw [hdx] at hd
  have hisx : isX x = (decide (dx ≤ 5) && (decide (nx.length ≤ 24) && (nx.all isNodeX && decide (0 < nx.length)))) := by unfold isX; rw [hnx, hdx]
  rw [hisx]
  clear hisx hnx hdx
  obtain ⟨op, v, al, fi, ks, rfl⟩ := Exp.shape x
  refine CW_seq ?_
  refine CW_region ?_
  refine OW_run' hE.ok 1 rfl ?_
  refine OW_alloc' hE 1 rfl rfl rfl rfl rfl rfl rfl ?_
  refine OW_end rfl ?_
  refine CW_seq ?_
  refine CW_seq ?_
  refine CW_region ?_
  refine OW_run' hE.ok 1 rfl ?_
  refine OW_call' hE (hd) rfl rfl rfl rfl rfl rfl rfl ?_
  refine OW_run' hE.ok 1 rfl ?_
  refine OW_end rfl ?_
  refine CW_cond _ rfl (fun h1 => ?_) (fun h1 => ?_)
  · skip
    have hdeep : decide (dx ≤ 5) = false := by have := h1; simp at this ⊢; omega
    refine CW_seq ?_
    refine CW_region ?_
    refine OW_store' hE rfl rfl rfl rfl rfl rfl rfl rfl rfl rfl rfl rfl ?_
    refine OW_end rfl ?_
    refine CW_ret ?_
    refine ⟨.inr rfl, rfl, ⟨_, rfl, rfl, ?_⟩, rfl⟩
    exact AVle.of (congrArg (fun b => AV.d (boo b)) (by rw [hdeep]; rfl))
  · skip
    have hdeep : decide (dx ≤ 5) = true := by have := h1; simp at this ⊢; omega
    refine CW_skip ?_
    refine CW_seq ?_
    refine CW_region ?_
    refine OW_alloc' hE 2 rfl rfl rfl rfl rfl rfl rfl ?_
    refine OW_store' hE rfl rfl rfl rfl rfl rfl rfl rfl rfl rfl rfl rfl ?_
    refine OW_end rfl ?_
    refine CW_seq ?_
    refine CW_seq ?_
    rw [hset_hset]
    refine CW_region ?_
    refine OW_run' hE.ok 1 rfl ?_
    refine OW_call' hE (nodesFn (.mk op v al fi ks) 1) rfl rfl rfl rfl rfl rfl rfl ?_
    refine OW_end rfl ?_
    refine CW_block ?_
    refine CW_rangeH hE hF hI rfl rfl rfl (ysX_kf nx) rfl 9 (fun i => (hset (hset noHeap 1 (some (.box 4 [.d (boo false)]))) 2 (some (.box 3 [.d (int ((i : Nat) : Int))]))))
      (fun i => i ≤ 24 ∧ ∀ j y, j < i → nx[j]? = some y → isNodeX y = true) rfl (fun _ => rfl) ⟨by omega, fun j y hj => by omega⟩ (fun F' n' Z' Br Bb hE hB vs i args hargs hp => ?_) (fun hp vs => ?_)
    · skip
      obtain ⟨y, hy2, rfl⟩ := ysX_of hargs
      have hil : i < nx.length := (List.getElem?_eq_some_iff.1 hy2).1
      have hnode := isNodeOk y
      obtain ⟨nd, hnd⟩ : ∃ nd, isNodeX y = nd := ⟨_, rfl⟩
      rw [hnd] at hnode
      obtain ⟨o2, v2, c2, f2, k2, rfl⟩ := Exp.shape y
      refine CW_region ?_
      refine OW_alloc' hE 3 rfl rfl rfl rfl rfl rfl rfl ?_
      refine OW_store' hE rfl rfl rfl rfl rfl rfl rfl rfl rfl rfl rfl rfl ?_
      refine OW_end rfl ?_
      refine ⟨rfl, rfl, ?_⟩
      refine CW_block ?_
      refine CW_seq ?_
      refine CW_region ?_
      refine OW_run' hE.ok 1 rfl ?_
      refine OW_run' hE.ok 1 rfl ?_
      refine OW_store' hE rfl rfl rfl rfl rfl rfl rfl rfl rfl rfl rfl rfl ?_
      refine OW_end rfl ?_
      refine CW_seq ?_
      refine CW_region ?_
      refine OW_run' hE.ok 3 rfl ?_
      refine OW_split' 15 rfl (fun h2 => ?_) (fun h2 => ?_)
      · skip
        have hbad : (decide (nx.length ≤ 24) && (nx.all isNodeX && decide (0 < nx.length))) = false := by have h24 := h2; have : decide (nx.length ≤ 24) = false := big24 hil h24; rw [this]; rfl
        refine OW_run' hE.ok 4 rfl ?_
        refine OW_end rfl ?_
        refine CW_true rfl ?_
        refine CW_seq ?_
        refine CW_region ?_
        refine OW_store' hE rfl rfl rfl rfl rfl rfl rfl rfl rfl rfl rfl rfl ?_
        refine OW_end rfl ?_
        refine CW_ret ⟨_, LE.refl _ _, J, _, fun h => h, rfl, rfl, ?_⟩
        refine ⟨.inr rfl, rfl, ⟨_, rfl, rfl, ?_⟩, rfl⟩
        exact AVle.of (congrArg (fun b => AV.d (boo b)) (by rw [hbad]; simp))
      · skip
        have h24 := lt24 (show i ≤ 24 from hp.1) h2
        refine OW_run' hE.ok 1 rfl ?_
        refine OW_call' hE (hnode) rfl rfl rfl rfl rfl rfl rfl ?_
        refine OW_run' hE.ok 2 rfl ?_
        refine OW_end rfl ?_
        refine CW_cond _ rfl (fun h3 => ?_) (fun h3 => ?_)
        · skip
          have hbad : (decide (nx.length ≤ 24) && (nx.all isNodeX && decide (0 < nx.length))) = false := by have : nx.all isNodeX = false := (by rw [List.all_eq_false]; exact ⟨_, List.mem_of_getElem? hy2, by rw [hnd]; have := h3; simpa using this⟩); rw [this]; simp
          refine CW_seq ?_
          refine CW_region ?_
          refine OW_store' hE rfl rfl rfl rfl rfl rfl rfl rfl rfl rfl rfl rfl ?_
          refine OW_end rfl ?_
          refine CW_ret ⟨_, LE.refl _ _, J, _, fun h => h, rfl, rfl, ?_⟩
          refine ⟨.inr rfl, rfl, ⟨_, rfl, rfl, ?_⟩, rfl⟩
          exact AVle.of (congrArg (fun b => AV.d (boo b)) (by rw [hbad]; simp))
        · skip
          have hgood : nd = true := by have := h3; simpa using this
          refine CW_skip ?_
          refine ⟨⟨Bb J, noSlots, (hset (hset (hset noHeap 1 (some (.box 4 [.d (boo false)]))) 2 (some (.box 3 [.d (int (((i + 1) : Nat) : Int))]))) 9 (some (.ghost _ vs)))⟩, LE_sh (slh_no _ _) (hlh_set (hlh_set (hlh_set (hlh_no _ _) rfl rfl) (congrArg (fun z : Int => some (Ent.box 3 [.d (int z)])) (by show IntKind.i64.wrap ((i : Int) + 1) = _; rw [wrap_succ (by omega)])) rfl) rfl rfl), J, rfl, rfl, rfl, by omega, fun j z hj hz => ?_⟩
          by_cases hji : j = i
          · subst hji; rw [hy2] at hz; cases hz; rw [hnd]; exact hgood
          · exact hp.2 j z (by omega) hz
    · skip
      rw [ysX_length] at hp
      have hall : nx.all isNodeX = true := all_of fun j y hj hy => hp.2 j y hj hy
      refine CW_seq ?_
      refine CW_region ?_
      refine OW_run' hE.ok 2 rfl ?_
      refine OW_store' hE rfl rfl rfl rfl rfl rfl rfl rfl rfl rfl rfl rfl ?_
      refine OW_end rfl ?_
      refine CW_ret ?_
      refine ⟨.inr rfl, rfl, ⟨_, rfl, rfl, ?_⟩, rfl⟩
      exact AVle.of (congrArg (fun b => AV.d (boo b)) (by rw [hdeep, hall, decide_eq_true hp.1, ysX_length]; simp))
end Go.Proofs.YtjiknbjkbakegaaDoor
