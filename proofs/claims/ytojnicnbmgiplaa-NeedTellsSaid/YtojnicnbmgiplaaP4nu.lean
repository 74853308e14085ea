/- Parts of an abstract logic over the kit's walks, and walks in it: P4nu. -/
import Derived.Test.YtojnicnbmgiplaaP4na
import Derived.Test.YtojnicnbmgiplaaP4nc
import Derived.Test.YtojnicnbmgiplaaP4su
import Derived.Test.YtojnicnbmgiplaaAe
namespace Go.Proofs.Ytojnicnbmgiplaa
open Go Go.AL
set_option linter.unusedVariables false
set_option linter.unusedSimpArgs false
set_option maxHeartbeats 4000000
theorem onlyU (us : List Us) (hlen : us.length ≤ 140737488355328) : DoesM Try.prog 45 [(7, .row 32 2 (us.map encU))] [.row 7, .d (.fn (.func 46) [] [])] (.row 7) [(7, .row 32 2 ((cG (sortX cmpU us)).map encU))] [] := by
  refine DoesM_of T_ok mixed (N := 10) Try.func45 rfl rfl rfl (by rfl) rfl rfl rfl rfl rfl rfl fun F n Z hE hF J V => ?_
  refine CW_seq ?_
  refine CW_region ?_
  refine OW_run' hE.ok 1 rfl ?_
  refine OW_end rfl ?_
  refine CW_seq ?_
  refine CW_region ?_
  refine OW_run' hE.ok 2 rfl ?_
  refine OW_callTurn' hE (sortU us) rfl rfl rfl rfl rfl rfl rfl rfl ?_
  refine OW_end rfl ?_
  refine CW_seq ?_
  refine CW_region ?_
  refine OW_run' hE.ok 1 rfl ?_
  refine OW_callM' hE (tr []) (compactU (sortX cmpU us) (by rw [sortX_len]; exact hlen)) rfl rfl rfl rfl rfl ⟨rfl, trivial⟩ rfl rfl ?_
  refine OW_run' hE.ok 1 rfl ?_
  refine OW_end rfl ?_
  refine CW_ret ⟨.inr rfl, rfl, ⟨_, rfl, AVle.refl _⟩, ⟨rfl, trivial⟩, rfl⟩

theorem usesOk (s : List Ty) (p : Pat) (hc : ∀ e ∈ p.els, (nodesX e.cond 1).length ≤ 1000) (hp3 : ∀ e ∈ p.els, e.tys.length ≤ 3) (hlen : (usesAll p).length ≤ 1000000) : Does Try.prog 13 [argS s, argP p] (oneRow 32 2 ((usesX p).map encU)) (.row 0) := by
  refine Does_ofRow T_ok mixed (N := 16) Try.func13 rfl rfl rfl (by rfl) fun F n Z hE hF J => ?_
  refine CW_seq ?_
  refine CW_region ?_
  refine OW_run' hE.ok 3 rfl ?_
  refine OW_end rfl ?_
  refine CW_seq ?_
  refine CW_region ?_
  refine OW_alloc' hE 1 rfl rfl rfl rfl rfl rfl rfl ?_
  refine OW_end rfl ?_
  refine CW_seq ?_
  refine CW_seq ?_
  refine CW.le (LE_nilRow 1 50 32 2 rfl rfl) ?_
  rw [hset_comm _ (by omega : (50 : Nat) ≠ 1), hset_hset]
  refine CW_region ?_
  refine OW_run' hE.ok 1 rfl ?_
  refine OW_call' hE (allOk p) rfl rfl rfl rfl rfl rfl rfl ?_
  refine OW_end rfl ?_
  refine CW_block ?_
  refine CW_rangeH hE hF (all1 p hc hp3) rfl rfl rfl (ysU_kf (usesAll p)) rfl 9 (fun i => (hset (hset noHeap 1 (some (.box 37 [.row 50]))) 50 (some (.row 32 2 (((usesAll p).take i).map encU)))))
    (fun i => True) rfl (fun _ => rfl) trivial (fun F' n' Z' Br Bb hE hB vs i args hargs hp => ?_) (fun hp vs => ?_)
  · skip
    obtain ⟨u, hu, rfl⟩ := ysU_of hargs
    have hil : i < (usesAll p).length := (List.getElem?_eq_some_iff.1 hu).1
    refine CW_region ?_
    refine OW_alloc' hE 2 rfl rfl rfl rfl rfl rfl rfl ?_
    refine OW_store' hE rfl rfl rfl rfl rfl rfl rfl rfl rfl rfl rfl rfl ?_
    refine OW_end rfl ?_
    refine ⟨rfl, rfl, ?_⟩
    refine CW_block ?_
    refine CW_region ?_
    refine OW_run' hE.ok 2 rfl ?_
    refine OW_loc' hE (loc_lits hE (t := 37) (len := 1) (parts := #[(0, .tmp 11)]) rfl rfl rfl rfl rfl rfl rfl rfl (xs := [encU u]) rfl) rfl rfl rfl ?_
    refine OW_append' hE (key := 50) rfl rfl rfl rfl rfl rfl rfl rfl (.inl rfl) (by simp; omega) (by simp; omega) rfl ?_
    refine OW_store' hE rfl rfl rfl rfl rfl rfl rfl rfl rfl rfl rfl rfl ?_
    refine OW_end rfl ?_
    refine ⟨⟨Bb J, noSlots, (hset (hset (hset noHeap 1 (some (.box 37 [.row 50]))) 50 (some (.row 32 2 (((usesAll p).take (i + 1)).map encU)))) 9 (some (.ghost _ vs)))⟩, LE_sh (slh_no _ _) (hlh_set (hlh_set (hlh_set (hlh_no _ _) rfl rfl) (congrArg (fun z => some (Ent.row 32 2 z)) (by rw [take_snoc hu])) rfl) rfl rfl), J, rfl, rfl, rfl, trivial⟩
  · skip
    refine CW_seq ?_
    refine CW.le (show LE _ _ ⟨J, (sset noSlots 5 (.ptr 1 0)), (hset (hset noHeap 1 (some (.box 37 [.row 50]))) 50 (some (.row 32 2 ((usesAll p).map encU))))⟩ from LE_sh (slh_set (v := .ptr 1 0) (slh_no _ _) (by rfl) rfl) (hlh_set (hlh_set (hlh_no _ _) rfl rfl) (congrArg (fun z : List Us => some (Ent.row 32 2 (z.map encU))) (by rw [ysU_len, List.take_length])) rfl)) ?_
    refine CW_region ?_
    refine OW_run' hE.ok 1 rfl ?_
    refine OW_callM' hE (tr [(7, 50)]) (onlyU (usesAll p) (by omega)) rfl rfl rfl rfl rfl ⟨rfl, trivial⟩ rfl rfl ?_
    refine OW_run' hE.ok 1 rfl ?_
    refine OW_end rfl ?_
    refine CW_ret ⟨.inr rfl, rfl, 50, rfl, rfl⟩

theorem usesD (s : List Ty) (p : Pat) (hc : ∀ e ∈ p.els, (nodesX e.cond 1).length ≤ 1000) (hp3 : ∀ e ∈ p.els, e.tys.length ≤ 3) (hlen : (usesAll p).length ≤ 1000000) : Does Try.prog 13 [argS s, argP p] noHeap (.d (.sl 2 32 ((usesX p).map encU))) := by
  refine Does_of T_ok mixed (N := 16) Try.func13 rfl rfl rfl (by rfl) fun F n Z hE hF J => ?_
  refine CW_seq ?_
  refine CW_region ?_
  refine OW_run' hE.ok 3 rfl ?_
  refine OW_end rfl ?_
  refine CW_seq ?_
  refine CW_region ?_
  refine OW_alloc' hE 1 rfl rfl rfl rfl rfl rfl rfl ?_
  refine OW_end rfl ?_
  refine CW_seq ?_
  refine CW_seq ?_
  refine CW.le (LE_nilRow 1 50 32 2 rfl rfl) ?_
  rw [hset_comm _ (by omega : (50 : Nat) ≠ 1), hset_hset]
  refine CW_region ?_
  refine OW_run' hE.ok 1 rfl ?_
  refine OW_call' hE (allOk p) rfl rfl rfl rfl rfl rfl rfl ?_
  refine OW_end rfl ?_
  refine CW_block ?_
  refine CW_rangeH hE hF (all1 p hc hp3) rfl rfl rfl (ysU_kf (usesAll p)) rfl 9 (fun i => (hset (hset noHeap 1 (some (.box 37 [.row 50]))) 50 (some (.row 32 2 (((usesAll p).take i).map encU)))))
    (fun i => True) rfl (fun _ => rfl) trivial (fun F' n' Z' Br Bb hE hB vs i args hargs hp => ?_) (fun hp vs => ?_)
  · skip
    obtain ⟨u, hu, rfl⟩ := ysU_of hargs
    have hil : i < (usesAll p).length := (List.getElem?_eq_some_iff.1 hu).1
    refine CW_region ?_
    refine OW_alloc' hE 2 rfl rfl rfl rfl rfl rfl rfl ?_
    refine OW_store' hE rfl rfl rfl rfl rfl rfl rfl rfl rfl rfl rfl rfl ?_
    refine OW_end rfl ?_
    refine ⟨rfl, rfl, ?_⟩
    refine CW_block ?_
    refine CW_region ?_
    refine OW_run' hE.ok 2 rfl ?_
    refine OW_loc' hE (loc_lits hE (t := 37) (len := 1) (parts := #[(0, .tmp 11)]) rfl rfl rfl rfl rfl rfl rfl rfl (xs := [encU u]) rfl) rfl rfl rfl ?_
    refine OW_append' hE (key := 50) rfl rfl rfl rfl rfl rfl rfl rfl (.inl rfl) (by simp; omega) (by simp; omega) rfl ?_
    refine OW_store' hE rfl rfl rfl rfl rfl rfl rfl rfl rfl rfl rfl rfl ?_
    refine OW_end rfl ?_
    refine ⟨⟨Bb J, noSlots, (hset (hset (hset noHeap 1 (some (.box 37 [.row 50]))) 50 (some (.row 32 2 (((usesAll p).take (i + 1)).map encU)))) 9 (some (.ghost _ vs)))⟩, LE_sh (slh_no _ _) (hlh_set (hlh_set (hlh_set (hlh_no _ _) rfl rfl) (congrArg (fun z => some (Ent.row 32 2 z)) (by rw [take_snoc hu])) rfl) rfl rfl), J, rfl, rfl, rfl, trivial⟩
  · skip
    refine CW_seq ?_
    refine CW.le (show LE _ _ ⟨J, (sset noSlots 5 (.ptr 1 0)), (hset (hset noHeap 1 (some (.box 37 [.row 50]))) 50 (some (.row 32 2 ((usesAll p).map encU))))⟩ from LE_sh (slh_set (v := .ptr 1 0) (slh_no _ _) (by rfl) rfl) (hlh_set (hlh_set (hlh_no _ _) rfl rfl) (congrArg (fun z : List Us => some (Ent.row 32 2 (z.map encU))) (by rw [ysU_len, List.take_length])) rfl)) ?_
    refine CW_region ?_
    refine OW_run' hE.ok 1 rfl ?_
    refine OW_callM' hE (tr [(7, 50)]) (onlyU (usesAll p) (by omega)) rfl rfl rfl rfl rfl ⟨rfl, trivial⟩ rfl rfl ?_
    refine OW_run' hE.ok 1 rfl ?_
    refine OW.le (LE_freeze 50 32 rfl (by rw [List.length_map]; have h9 := cG_len (sortX cmpU (usesAll p)); rw [sortX_len] at h9; omega)) ?_
    refine OW_end rfl ?_
    refine CW_ret ?_
    refine ⟨.inr rfl, rfl, ⟨_, rfl, rfl, ?_⟩, rfl⟩
    exact AVle.refl _
end Go.Proofs.Ytojnicnbmgiplaa
