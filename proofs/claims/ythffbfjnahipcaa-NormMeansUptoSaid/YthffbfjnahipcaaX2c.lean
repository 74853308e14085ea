/- Parts of an abstract logic over the kit's walks, and walks in it: X2c. -/
import Derived.Test.YthffbfjnahipcaaX2s
namespace Go.Proofs.Ythffbfjnahipcaa
open Go Go.AL
set_option linter.unusedVariables false
set_option linter.unusedSimpArgs false
set_option maxHeartbeats 4000000
theorem appendSeqOk (l : List Exp) (hlen : l.length ≤ 1000) (g : Nat) (cap : List D) (hI : Iter Try.prog g [] (cap.map .d) (ysX l)) : Does Try.prog 87 [.d (.lit (.slice none 0 0)), .d (.fn (.func g) [] cap)] noHeap (.d (.sl 7 96 (encXs l))) := by
  refine Does_of T_ok mixed (N := 15) Try.func87 rfl rfl rfl (by rfl) fun F n Z hE hF J => ?_
  refine CW_seq ?_
  refine CW_region ?_
  refine OW_box' hE 1 rfl rfl rfl rfl rfl rfl ?_
  refine OW_run' hE.ok 1 rfl ?_
  refine OW_end rfl ?_
  refine CW_seq ?_
  refine CW_seq ?_
  refine CW.le (LE_nilRow 1 50 27 7 rfl rfl) ?_
  rw [hset_comm _ (by omega : (50 : Nat) ≠ 1), hset_hset, hset_comm _ (by omega : (1 : Nat) ≠ 50)]
  refine CW_region ?_
  refine OW_run' hE.ok 1 rfl ?_
  refine OW_end rfl ?_
  refine CW_block ?_
  rw [hset_comm _ (by omega : (50 : Nat) ≠ 1)]
  refine CW_rangeH hE hF hI rfl rfl (kfs_d cap) (ysX_kf l) rfl 9 (fun i => (hset (hset noHeap 1 (some (.box 25 [.row 50]))) 50 (some (.row 27 7 (encXs (l.take i))))))
    (fun i => True) rfl (fun _ => rfl) trivial (fun F' n' Z' Br Bb hE hB vs i args hargs hp => ?_) (fun hp vs => ?_)
  · skip
    obtain ⟨y, hy2, rfl⟩ := ysX_of hargs
    have hil : i < l.length := (List.getElem?_eq_some_iff.1 hy2).1
    obtain ⟨o2, v2, c2, f2, k2, rfl⟩ := Exp.shape y
    refine CW_region ?_
    refine OW_alloc' hE 2 rfl rfl rfl rfl rfl rfl rfl ?_
    refine OW_store' hE rfl rfl rfl rfl rfl rfl rfl rfl rfl rfl rfl rfl ?_
    refine OW_end rfl ?_
    refine ⟨rfl, rfl, ?_⟩
    refine CW_block ?_
    refine CW_fork hE 4 (by decide +kernel) ?_
    refine HW_run hE 3 rfl rfl ?_
    refine HW_loc hE (loc_litAgg hE rfl rfl rfl rfl rfl rfl rfl rfl) rfl rfl rfl rfl ?_
    refine HW_end ?_
    have hxs : (encXs (l.take i) ++ [[int 0, int 0, int 0, str nul, str nul, str nul, .lit (.slice none 0 0)]]).set i (([int 0, int 0, int 0, str nul, str nul, str nul, .lit (.slice none 0 0)] : List D).take 0 ++ encX (.mk o2 v2 c2 f2 k2) ++ ([int 0, int 0, int 0, str nul, str nul, str nul, .lit (.slice none 0 0)] : List D).drop (0 + 7)) = encXs (l.take (i + 1)) := by
      rw [List.set_append_right _ _ (by rw [encXs_length, List.length_take]; omega), encXs_length, List.length_take, Nat.min_eq_left (by omega), Nat.sub_self, encXs_eq, encXs_eq, List.take_add_one, hy2]; simp
    refine AW_one (i := 4) (by decide +kernel) rfl rfl ?_
    refine OW_append' hE (key := 50) rfl rfl rfl rfl rfl rfl rfl rfl (.inl rfl) (by simp [encXs_length]; omega) (by simp [encXs_length]; omega) rfl ?_
    refine OW_end rfl ⟨rfl, ?_⟩
    refine AW_two (i := 5) (j := 7) (by decide +kernel) rfl rfl rfl rfl ?_ ?_
    · skip
      refine OW_as' 10 (.d (int ((i : Nat) : Int))) (by show AV.d (.lit (.int .i64 ((encXs (l.take i)).length : Int))) = _; rw [encXs_length, List.length_take, Nat.min_eq_left (by omega)]; rfl) ?_
      refine OW_loc' hE (loc_idxRow hE rfl rfl rfl rfl rfl (j := i) rfl (by simp [encXs_length]; omega)) rfl rfl rfl ?_
      refine OW_end rfl ⟨rfl, ?_⟩
      refine AW_two (i := 6) (j := 7) (by decide +kernel) rfl rfl rfl rfl ?_ ?_
      · skip
        refine OW_storeRow' hE rfl rfl rfl rfl rfl rfl (j := i) (off := 0) rfl rfl (x := [int 0, int 0, int 0, str nul, str nul, str nul, .lit (.slice none 0 0)]) (by rw [List.getElem?_append_right (by rw [encXs_length, List.length_take]; omega), encXs_length, List.length_take, Nat.min_eq_left (by omega), Nat.sub_self]; rfl) (y := encX (.mk o2 v2 c2 f2 k2)) rfl rfl rfl (Nat.le_refl 7) (xs' := encXs (l.take (i + 1))) hxs ?_
        refine OW_end rfl ⟨rfl, ?_⟩
        refine AW_one (i := 7) (by decide +kernel) rfl rfl ?_
        refine OW_store' hE rfl rfl rfl rfl rfl rfl rfl rfl rfl rfl rfl rfl ?_
        refine OW_end rfl ⟨rfl, ?_⟩
        refine AW_end (by decide +kernel) ?_
        exact ⟨⟨Bb J, noSlots, (hset (hset (hset noHeap 1 (some (.box 25 [.row 50]))) 50 (some (.row 27 7 (encXs (l.take (i + 1)))))) 9 (some (.ghost _ vs)))⟩, LE_sh (slh_no _ _) (hlh_set (hlh_set (hlh_set (hlh_no _ _) rfl rfl) rfl rfl) rfl rfl), J, rfl, rfl, rfl, trivial⟩
      · skip
        refine OW_store' hE rfl rfl rfl rfl rfl rfl rfl rfl rfl rfl rfl rfl ?_
        refine OW_end rfl ⟨rfl, ?_⟩
        refine AW_one (i := 6) (by decide +kernel) rfl rfl ?_
        refine OW_storeRow' hE rfl rfl rfl rfl rfl rfl (j := i) (off := 0) rfl rfl (x := [int 0, int 0, int 0, str nul, str nul, str nul, .lit (.slice none 0 0)]) (by rw [List.getElem?_append_right (by rw [encXs_length, List.length_take]; omega), encXs_length, List.length_take, Nat.min_eq_left (by omega), Nat.sub_self]; rfl) (y := encX (.mk o2 v2 c2 f2 k2)) rfl rfl rfl (Nat.le_refl 7) (xs' := encXs (l.take (i + 1))) hxs ?_
        refine OW_end rfl ⟨rfl, ?_⟩
        refine AW_end (by decide +kernel) ?_
        exact ⟨⟨Bb J, noSlots, (hset (hset (hset noHeap 1 (some (.box 25 [.row 50]))) 50 (some (.row 27 7 (encXs (l.take (i + 1)))))) 9 (some (.ghost _ vs)))⟩, LE_sh (slh_no _ _) (hlh_set (hlh_set (hlh_set (hlh_no _ _) rfl rfl) rfl rfl) rfl rfl), J, rfl, rfl, rfl, trivial⟩
    · skip
      refine OW_store' hE rfl rfl rfl rfl rfl rfl rfl rfl rfl rfl rfl rfl ?_
      refine OW_end rfl ⟨rfl, ?_⟩
      refine AW_one (i := 5) (by decide +kernel) rfl rfl ?_
      refine OW_as' 10 (.d (int ((i : Nat) : Int))) (by show AV.d (.lit (.int .i64 ((encXs (l.take i)).length : Int))) = _; rw [encXs_length, List.length_take, Nat.min_eq_left (by omega)]; rfl) ?_
      refine OW_loc' hE (loc_idxRow hE rfl rfl rfl rfl rfl (j := i) rfl (by simp [encXs_length]; omega)) rfl rfl rfl ?_
      refine OW_end rfl ⟨rfl, ?_⟩
      refine AW_one (i := 6) (by decide +kernel) rfl rfl ?_
      refine OW_storeRow' hE rfl rfl rfl rfl rfl rfl (j := i) (off := 0) rfl rfl (x := [int 0, int 0, int 0, str nul, str nul, str nul, .lit (.slice none 0 0)]) (by rw [List.getElem?_append_right (by rw [encXs_length, List.length_take]; omega), encXs_length, List.length_take, Nat.min_eq_left (by omega), Nat.sub_self]; rfl) (y := encX (.mk o2 v2 c2 f2 k2)) rfl rfl rfl (Nat.le_refl 7) (xs' := encXs (l.take (i + 1))) hxs ?_
      refine OW_end rfl ⟨rfl, ?_⟩
      refine AW_end (by decide +kernel) ?_
      exact ⟨⟨Bb J, noSlots, (hset (hset (hset noHeap 1 (some (.box 25 [.row 50]))) 50 (some (.row 27 7 (encXs (l.take (i + 1)))))) 9 (some (.ghost _ vs)))⟩, LE_sh (slh_no _ _) (hlh_set (hlh_set (hlh_set (hlh_no _ _) rfl rfl) rfl rfl) rfl rfl), J, rfl, rfl, rfl, trivial⟩
  · skip
    refine CW_seq ?_
    refine CW_region ?_
    refine OW_run' hE.ok 2 rfl ?_
    refine OW.le (LE_freeze 50 96 rfl (by simp [encXs_length]; omega)) ?_
    refine OW_end rfl ?_
    refine CW_ret ?_
    refine ⟨.inr rfl, rfl, ⟨_, rfl, rfl, ?_⟩, rfl⟩
    rw [show encXs l = encXs (l.take (ysX l).length) by rw [ysX_length, List.take_length]]
    exact AVle.refl _

theorem collectOk (l : List Exp) (hlen : l.length ≤ 1000) (g : Nat) (cap : List D) (hI : Iter Try.prog g [] (cap.map .d) (ysX l)) : Does Try.prog 47 [.d (.fn (.func g) [] cap)] noHeap (.d (.sl 7 96 (encXs l))) := by
  refine Does_of T_ok mixed (N := 5) Try.func47 rfl rfl rfl (by rfl) fun F n Z hE hF J => ?_
  refine CW_seq ?_
  refine CW_region ?_
  refine OW_run' hE.ok 1 rfl ?_
  refine OW_end rfl ?_
  refine CW_seq ?_
  refine CW_region ?_
  refine OW_run' hE.ok 1 rfl ?_
  refine OW_call' hE (appendSeqOk l hlen g cap hI) rfl rfl rfl rfl rfl rfl rfl ?_
  refine OW_run' hE.ok 1 rfl ?_
  refine OW_end rfl ?_
  refine CW_ret ?_
  refine ⟨.inr rfl, rfl, ⟨_, rfl, rfl, ?_⟩, rfl⟩
  exact AVle.refl _

theorem nodesOk (x : Exp) (hlen : (nodesX x 1).length ≤ 1000) : Does Try.prog 16 [argX x] noHeap (.d (.sl 7 96 (encXs (nodesX x 1)))) := by
  refine Does_of T_ok mixed (N := 6) Try.func16 rfl rfl rfl (by rfl) fun F n Z hE hF J => ?_
  have hI := nodesIt x
  obtain ⟨op, v, al, fi, ks, rfl⟩ := Exp.shape x
  refine CW_seq ?_
  refine CW_region ?_
  refine OW_run' hE.ok 2 rfl ?_
  refine OW_end rfl ?_
  refine CW_seq ?_
  refine CW_region ?_
  refine OW_run' hE.ok 1 rfl ?_
  refine OW_call' hE (nodesFn (.mk op v al fi ks) 1) rfl rfl rfl rfl rfl rfl rfl ?_
  refine OW_call' hE (collectOk (nodesX (.mk op v al fi ks) 1) hlen 83 [.iptr (encX (.mk op v al fi ks)), .iptr [int 1]] hI) rfl rfl rfl rfl rfl rfl rfl ?_
  refine OW_run' hE.ok 1 rfl ?_
  refine OW_end rfl ?_
  refine CW_ret ?_
  refine ⟨.inr rfl, rfl, ⟨_, rfl, rfl, ?_⟩, rfl⟩
  exact AVle.refl _

theorem isXOk (x : Exp) : Does Try.prog 14 [argX x] noHeap (.d (boo (isX x))) := by
  refine Does_of T_ok mixed (N := 22) Try.func14 rfl rfl rfl (by rfl) fun F n Z hE hF J => ?_
  have hI := nodesIt x
  have hd := depthXOk x
  obtain ⟨nx, hnx⟩ : ∃ nx, nodesX x 1 = nx := ⟨_, rfl⟩
  rw [hnx] at hI
  obtain ⟨dx, hdx⟩ : ∃ dx, depthX x 1 = dx := ⟨_, rfl⟩
  rw [hdx] at hd
  have hisx : isX x = (decide (dx ≤ 5) && (decide (nx.length ≤ 24) && (nx.all isNodeX && decide (0 < nx.length)))) := by unfold isX; rw [hnx, hdx]
  rw [hisx]
  clear hisx hnx hdx
  obtain ⟨op, v, al, fi, ks, rfl⟩ := Exp.shape x
  refine CW_seq ?_
  refine CW_region ?_
  refine OW_run' hE.ok 1 rfl ?_
  refine OW_alloc' hE 1 rfl rfl rfl rfl rfl rfl rfl ?_
  refine OW_end rfl ?_
  refine CW_seq ?_
  refine CW_seq ?_
  refine CW_region ?_
  refine OW_run' hE.ok 1 rfl ?_
  refine OW_call' hE (hd) rfl rfl rfl rfl rfl rfl rfl ?_
  refine OW_run' hE.ok 1 rfl ?_
  refine OW_end rfl ?_
  refine CW_cond _ rfl (fun h1 => ?_) (fun h1 => ?_)
  · skip
    have hdeep : decide (dx ≤ 5) = false := by have := h1; simp at this ⊢; omega
    refine CW_seq ?_
    refine CW_region ?_
    refine OW_store' hE rfl rfl rfl rfl rfl rfl rfl rfl rfl rfl rfl rfl ?_
    refine OW_end rfl ?_
    refine CW_ret ?_
    refine ⟨.inr rfl, rfl, ⟨_, rfl, rfl, ?_⟩, rfl⟩
    exact AVle.of (congrArg (fun b => AV.d (boo b)) (by rw [hdeep]; rfl))
  · skip
    have hdeep : decide (dx ≤ 5) = true := by have := h1; simp at this ⊢; omega
    refine CW_skip ?_
    refine CW_seq ?_
    refine CW_region ?_
    refine OW_alloc' hE 2 rfl rfl rfl rfl rfl rfl rfl ?_
    refine OW_store' hE rfl rfl rfl rfl rfl rfl rfl rfl rfl rfl rfl rfl ?_
    refine OW_end rfl ?_
    refine CW_seq ?_
    refine CW_seq ?_
    rw [hset_hset]
    refine CW_region ?_
    refine OW_run' hE.ok 1 rfl ?_
    refine OW_call' hE (nodesFn (.mk op v al fi ks) 1) rfl rfl rfl rfl rfl rfl rfl ?_
    refine OW_end rfl ?_
    refine CW_block ?_
    refine CW_rangeH hE hF hI rfl rfl rfl (ysX_kf nx) rfl 9 (fun i => (hset (hset noHeap 1 (some (.box 4 [.d (boo false)]))) 2 (some (.box 3 [.d (int ((i : Nat) : Int))]))))
      (fun i => i ≤ 24 ∧ ∀ j y, j < i → nx[j]? = some y → isNodeX y = true) rfl (fun _ => rfl) ⟨by omega, fun j y hj => by omega⟩ (fun F' n' Z' Br Bb hE hB vs i args hargs hp => ?_) (fun hp vs => ?_)
    · skip
      obtain ⟨y, hy2, rfl⟩ := ysX_of hargs
      have hil : i < nx.length := (List.getElem?_eq_some_iff.1 hy2).1
      have hnode := isNodeOk y
      obtain ⟨nd, hnd⟩ : ∃ nd, isNodeX y = nd := ⟨_, rfl⟩
      rw [hnd] at hnode
      obtain ⟨o2, v2, c2, f2, k2, rfl⟩ := Exp.shape y
      refine CW_region ?_
      refine OW_alloc' hE 3 rfl rfl rfl rfl rfl rfl rfl ?_
      refine OW_store' hE rfl rfl rfl rfl rfl rfl rfl rfl rfl rfl rfl rfl ?_
      refine OW_end rfl ?_
      refine ⟨rfl, rfl, ?_⟩
      refine CW_block ?_
      refine CW_seq ?_
      refine CW_region ?_
      refine OW_run' hE.ok 1 rfl ?_
      refine OW_run' hE.ok 1 rfl ?_
      refine OW_store' hE rfl rfl rfl rfl rfl rfl rfl rfl rfl rfl rfl rfl ?_
      refine OW_end rfl ?_
      refine CW_seq ?_
      refine CW_region ?_
      refine OW_run' hE.ok 3 rfl ?_
      refine OW_split' 15 rfl (fun h2 => ?_) (fun h2 => ?_)
      · skip
        have hbad : (decide (nx.length ≤ 24) && (nx.all isNodeX && decide (0 < nx.length))) = false := by have h24 := h2; have : decide (nx.length ≤ 24) = false := big24 hil h24; rw [this]; rfl
        refine OW_run' hE.ok 4 rfl ?_
        refine OW_end rfl ?_
        refine CW_true rfl ?_
        refine CW_seq ?_
        refine CW_region ?_
        refine OW_store' hE rfl rfl rfl rfl rfl rfl rfl rfl rfl rfl rfl rfl ?_
        refine OW_end rfl ?_
        refine CW_ret ⟨_, LE.refl _ _, J, _, fun h => h, rfl, rfl, ?_⟩
        refine ⟨.inr rfl, rfl, ⟨_, rfl, rfl, ?_⟩, rfl⟩
        exact AVle.of (congrArg (fun b => AV.d (boo b)) (by rw [hbad]; simp))
      · skip
        have h24 := lt24 (show i ≤ 24 from hp.1) h2
        refine OW_run' hE.ok 1 rfl ?_
        refine OW_call' hE (hnode) rfl rfl rfl rfl rfl rfl rfl ?_
        refine OW_run' hE.ok 2 rfl ?_
        refine OW_end rfl ?_
        refine CW_cond _ rfl (fun h3 => ?_) (fun h3 => ?_)
        · skip
          have hbad : (decide (nx.length ≤ 24) && (nx.all isNodeX && decide (0 < nx.length))) = false := by have : nx.all isNodeX = false := (by rw [List.all_eq_false]; exact ⟨_, List.mem_of_getElem? hy2, by rw [hnd]; have := h3; simpa using this⟩); rw [this]; simp
          refine CW_seq ?_
          refine CW_region ?_
          refine OW_store' hE rfl rfl rfl rfl rfl rfl rfl rfl rfl rfl rfl rfl ?_
          refine OW_end rfl ?_
          refine CW_ret ⟨_, LE.refl _ _, J, _, fun h => h, rfl, rfl, ?_⟩
          refine ⟨.inr rfl, rfl, ⟨_, rfl, rfl, ?_⟩, rfl⟩
          exact AVle.of (congrArg (fun b => AV.d (boo b)) (by rw [hbad]; simp))
        · skip
          have hgood : nd = true := by have := h3; simpa using this
          refine CW_skip ?_
          refine ⟨⟨Bb J, noSlots, (hset (hset (hset noHeap 1 (some (.box 4 [.d (boo false)]))) 2 (some (.box 3 [.d (int (((i + 1) : Nat) : Int))]))) 9 (some (.ghost _ vs)))⟩, LE_sh (slh_no _ _) (hlh_set (hlh_set (hlh_set (hlh_no _ _) rfl rfl) (congrArg (fun z : Int => some (Ent.box 3 [.d (int z)])) (by show IntKind.i64.wrap ((i : Int) + 1) = _; rw [wrap_succ (by omega)])) rfl) rfl rfl), J, rfl, rfl, rfl, by omega, fun j z hj hz => ?_⟩
          by_cases hji : j = i
          · subst hji; rw [hy2] at hz; cases hz; rw [hnd]; exact hgood
          · exact hp.2 j z (by omega) hz
    · skip
      rw [ysX_length] at hp
      have hall : nx.all isNodeX = true := all_of fun j y hj hy => hp.2 j y hj hy
      refine CW_seq ?_
      refine CW_region ?_
      refine OW_run' hE.ok 2 rfl ?_
      refine OW_store' hE rfl rfl rfl rfl rfl rfl rfl rfl rfl rfl rfl rfl ?_
      refine OW_end rfl ?_
      refine CW_ret ?_
      refine ⟨.inr rfl, rfl, ⟨_, rfl, rfl, ?_⟩, rfl⟩
      exact AVle.of (congrArg (fun b => AV.d (boo b)) (by rw [hdeep, hall, decide_eq_true hp.1, ysX_length]; simp))
end Go.Proofs.Ythffbfjnahipcaa
