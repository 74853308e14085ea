/- Parts of an abstract logic over the kit's walks, and walks in it: D7cg. -/
import Derived.Test.YtchpllgeahnmmaaDoorD7cd
import Derived.Test.YtchpllgeahnmmaaDoorD7cb
import Derived.Test.YtchpllgeahnmmaaDoorD7b0
namespace Go.Proofs.YtchpllgeahnmmaaDoor
open Go Go.AL
set_option linter.unusedVariables false
set_option linter.unusedSimpArgs false
set_option maxHeartbeats 4000000
theorem allC1 (xs : List Chg) : Iter Tryd.prog 90 [] [.d (.iptr [.sl 7 88 (xs.map encC)])] (ysI encC xs) := by
  refine Iter_of T_ok mixed (N := 18) Tryd.func90 rfl rfl rfl (by rfl) fun F n Z hE hF l C X hC hX hy => ?_
  refine CW_seq ?_
  refine CW_region ?_
  refine OW_run' hE.ok 3 rfl ?_
  refine OW_end rfl ?_
  refine CW_block ?_
  refine CW_know (know_sl (d := 5) rfl) fun hlen => ?_
  rw [List.length_map] at hlen
  refine CW_loop (σ := {i : Nat // i ≤ xs.length}) (fun i => ⟨C i.1, (sset (sset (sset (sset (sset noSlots 0 (.d (.fn (.yield l) [] []))) 1 (.d (.iptr [.sl 7 88 (xs.map encC)]))) 5 (.d (.sl 7 88 (xs.map encC)))) 6 (.d (.lit (.int .i64 xs.length)))) 7 (.d (.lit (.int .i64 i.1)))), noHeap⟩) (fun i => xs.length - i.1) ⟨0, Nat.zero_le _⟩ (LE_sh (slh_set (slh_set (slh_set (slh_set (slh_set (slh_no _ _) rfl rfl) rfl rfl) rfl rfl) (by show AV.d (.lit (.int .i64 ((xs.map encC).length : Int))) = _; rw [List.length_map]) rfl) rfl rfl) (hlh_no _ _)) fun ⟨i, hi⟩ => ?_
  refine CW_seq ?_
  refine CW_region ?_
  refine OW_run' hE.ok 1 rfl ?_
  refine OW_end rfl ?_
  refine CW_seq ?_
  refine CW_cond _ rfl (fun h1 => ?_) (fun h1 => ?_)
  · skip
    have hlt : i < xs.length := by have := h1; simp at this; omega
    obtain ⟨a, ha⟩ : ∃ a, xs[i]? = some a := ⟨_, List.getElem?_eq_getElem hlt⟩
    refine CW_skip ?_
    refine CW_seq ?_
    refine CW_block ?_
    refine CW_seq ?_
    refine CW_region ?_
    refine OW_run' hE.ok 1 rfl ?_
    refine OW_loc' hE (loc_indexAddr hE rfl rfl rfl rfl rfl (by omega) (x := encC a) (by simp [ha])) rfl rfl rfl ?_
    refine OW_run' hE.ok 1 rfl ?_
    refine OW_alloc' hE 1 rfl rfl rfl rfl rfl rfl rfl ?_
    refine OW_run' hE.ok 1 rfl ?_
    refine OW_store' hE rfl rfl rfl rfl rfl rfl rfl rfl rfl rfl rfl rfl ?_
    refine OW_end rfl ?_
    refine CW_seq ?_
    refine CW_region ?_
    refine OW_run' hE.ok 3 rfl ?_
    refine OW_yield' hE hy hC hX (Wrap.id _) (i) rfl rfl rfl rfl rfl rfl (ysI_get ha) rfl rfl rfl ?_ ?_
    · skip
      refine OW_run' hE.ok 1 rfl ?_
      refine OW_end rfl ?_
      refine CW_false rfl ?_
      refine CW_skip ?_
      refine CW_region ?_
      refine OW_run' hE.ok 2 rfl ?_
      refine OW_end rfl ?_
      exact ⟨⟨i + 1, hlt⟩, LE_sh (slh_set (slh_set (slh_set (slh_set (slh_set (slh_no _ _) rfl rfl) rfl rfl) rfl rfl) rfl rfl) (by show AV.d (.lit (.int .i64 (IntKind.i64.wrap (↑i + 1)))) = _; rw [wrap_succ (by omega)]) rfl) (hlh_no _ _), by show xs.length - (i + 1) < xs.length - i; omega⟩
    · skip
      refine OW_run' hE.ok 1 rfl ?_
      refine OW_end rfl ?_
      refine CW_true rfl ?_
      exact CW_ret ⟨.inr rfl, .inr rfl, _, rfl⟩
  · skip
    have hge : ¬ i < xs.length := by have := h1; simp at this; omega
    refine CW_exit ?_
    have hN : i = (ysI encC xs).length := by rw [ysI_length]; omega
    show RetI _ _ _ _ .normal _
    exact ⟨.inl rfl, .inl (by show C i = _; rw [← hN]), _, rfl⟩

theorem allC (xs : List Chg) : Does Tryd.prog 65 [.d (.sl 7 88 (xs.map encC))] noHeap (.d (.fn (.func 90) [] [.iptr [.sl 7 88 (xs.map encC)]])) := by
  refine Does_of T_ok mixed (N := 4) Tryd.func65 rfl rfl rfl (by rfl) fun F n Z hE hF J => ?_
  refine CW_seq ?_
  refine CW_region ?_
  refine OW_run' hE.ok 2 rfl ?_
  refine OW_end rfl ?_
  refine CW_seq ?_
  refine CW_region ?_
  refine OW_run' hE.ok 2 rfl ?_
  refine OW_end rfl ?_
  refine CW_ret ?_
  refine ⟨.inr rfl, rfl, ⟨_, rfl, rfl, ?_⟩, rfl⟩
  exact AVle.refl _

theorem newOk (s : List Ty) (l : List Chg) (hs : isSchema s = true) (hall : ∀ k c, l[k]? = some c → addE (chF s l k).1 (chF s l k).2 c = 0) : DoesM Tryd.prog 27 [] [argS s, .d (.sl 7 88 (l.map encC))] (.tup [.ptr 40 0, .d (errC 74 0)]) [(40, .box 102 [.row 50, .row 51]), (50, .row 24 1 ((chF s l l.length).1.map encS1)), (51, .row 43 7 ((chF s l l.length).2.map encC))] [] := by
  refine DoesM_of T_ok mixed (N := 30) Tryd.func27 rfl rfl rfl (by rfl) rfl rfl rfl rfl rfl rfl fun F n Z hE hF J V => ?_
  refine CW_seq ?_
  refine CW_region ?_
  refine OW_run' hE.ok 1 rfl ?_
  refine OW_alloc' hE 1 rfl rfl rfl rfl rfl rfl rfl ?_
  refine OW_alloc' hE 2 rfl rfl rfl rfl rfl rfl rfl ?_
  refine OW_end rfl ?_
  refine CW_seq ?_
  refine CW_seq ?_
  refine CW_region ?_
  refine OW_run' hE.ok 1 rfl ?_
  refine OW_call' hE ((by have hq := isOk s; rw [hs] at hq; exact hq)) rfl rfl rfl rfl rfl rfl rfl ?_
  refine OW_run' hE.ok 1 rfl ?_
  refine OW_end rfl ?_
  refine CW_false rfl ?_
  refine CW_skip ?_
  refine CW_seq ?_
  refine CW_region ?_
  refine OW_run' hE.ok 1 rfl ?_
  refine OW_call' hE (ccopyOk s) rfl rfl rfl rfl rfl rfl rfl ?_
  refine OW_litsOwn' hE 50 rfl rfl rfl rfl rfl rfl rfl rfl rfl rfl rfl rfl ?_
  refine OW_build' hE rfl rfl rfl rfl rfl ?_
  refine OW_box' hE 40 rfl rfl rfl rfl rfl rfl ?_
  refine OW_alloc' hE 3 rfl rfl rfl rfl rfl rfl rfl ?_
  refine OW_store' hE rfl rfl rfl rfl rfl rfl rfl rfl rfl rfl rfl rfl ?_
  refine OW_end rfl ?_
  refine CW_seq ?_
  refine CW_seq ?_
  refine CW.le (LE_nilBox 40 51 43 7 (i := 1) rfl rfl rfl) ?_
  refine CW_region ?_
  refine OW_run' hE.ok 1 rfl ?_
  refine OW_call' hE (allC l) rfl rfl rfl rfl rfl rfl rfl ?_
  refine OW_end rfl ?_
  refine CW_block ?_
  refine CW.le (show LE _ _ ⟨J, (sset (sset (sset (sset noSlots 4 (.ptr 1 0)) 5 (.ptr 2 0)) 6 (.ptr 3 0)) 20 (.d (.fn (.func 90) [] [.iptr [.sl 7 88 (l.map encC)]]))), (hset (hset (hset (hset (hset (hset (hset noHeap 1 (some (.box 54 [.d (.lit (.pointer none))]))) 2 (some (.box 36 [.d (.lit .nilIface)]))) 40 (some (.box 102 [.row 50, .row 51]))) 50 (some (.row 24 1 ((chF s l (0)).1.map encS1)))) 51 (some (.row 43 7 ((chF s l (0)).2.map encC)))) 3 (some (.box 54 [.ptr 40 0]))) 99 (some (.ghost [] V)))⟩ from LE_sh (slh_set (v := .d (.fn (.func 90) [] [.iptr [.sl 7 88 (l.map encC)]])) (slh_set (v := .ptr 3 0) (slh_set (v := .ptr 2 0) (slh_set (v := .ptr 1 0) (slh_no _ _) (by rfl) rfl) (by rfl) rfl) (by rfl) rfl) (by rfl) rfl) (hlh_set (hlh_set (hlh_set (hlh_set (hlh_set (hlh_set (hlh_set (hlh_no _ _) rfl rfl) rfl rfl) rfl rfl) rfl rfl) rfl rfl) rfl rfl) rfl rfl)) ?_
  refine CW_rangeH hE hF (allC1 l) rfl rfl rfl (ysI_kf encC l) rfl 9 (fun i => (hset (hset (hset (hset (hset (hset (hset noHeap 1 (some (.box 54 [.d (.lit (.pointer none))]))) 2 (some (.box 36 [.d (.lit .nilIface)]))) 40 (some (.box 102 [.row 50, .row 51]))) 50 (some (.row 24 1 ((chF s l (i)).1.map encS1)))) 51 (some (.row 43 7 ((chF s l (i)).2.map encC)))) 3 (some (.box 54 [.ptr 40 0]))) 99 (some (.ghost [] V)))) (fun _ => True) rfl (fun _ => rfl) trivial (fun F' n' Z' Br Bb hE hB vs i args hargs hp => ?_) (fun hp vs => ?_)
  · skip
    obtain ⟨c, hc, rfl⟩ := ysI_of hargs
    have ha0 := hall i c hc
    refine CW_region ?_
    refine OW_alloc' hE 4 rfl rfl rfl rfl rfl rfl rfl ?_
    refine OW_store' hE rfl rfl rfl rfl rfl rfl rfl rfl rfl rfl rfl rfl ?_
    refine OW_end rfl ?_
    refine ⟨rfl, rfl, ?_⟩
    refine CW_block ?_
    refine CW_seq ?_
    refine CW_region ?_
    refine OW_run' hE.ok 2 rfl ?_
    refine OW_callM' hE (tr []) (addOk (chF s l i).1 (chF s l i).2 c (chF_ok hs i)) rfl rfl rfl rfl rfl ⟨rfl, rfl, rfl, trivial⟩ rfl rfl ?_
    refine OW_run' hE.ok 1 rfl ?_
    refine OW_end rfl ?_
    refine CW_seq ?_
    refine CW_region ?_
    refine OW_run' hE.ok 1 rfl ?_
    refine OW_loc' hE (loc_errNe hE rfl rfl rfl) rfl rfl rfl ?_
    refine OW_as' 27 (.d (boo false)) (by rw [ha0]; rfl) ?_
    refine OW_end rfl ?_
    refine CW_false rfl ?_
    refine CW_skip ?_
    exact ⟨⟨Bb J, noSlots, (hset (hset (hset (hset (hset (hset (hset (hset noHeap 1 (some (.box 54 [.d (.lit (.pointer none))]))) 2 (some (.box 36 [.d (.lit .nilIface)]))) 40 (some (.box 102 [.row 50, .row 51]))) 50 (some (.row 24 1 ((chF s l (i + 1)).1.map encS1)))) 51 (some (.row 43 7 ((chF s l (i + 1)).2.map encC)))) 3 (some (.box 54 [.ptr 40 0]))) 99 (some (.ghost [] V))) 9 (some (.ghost _ vs)))⟩, LE_sh (slh_no _ _) (hlh_set (hlh_set (hlh_set (hlh_set (hlh_set (hlh_set (hlh_set (hlh_set (hlh_no _ _) rfl rfl) rfl rfl) rfl rfl) (by exact congrArg (fun z : List (List Ty) × List Chg => some (Ent.row 24 1 (z.1.map encS1))) (chF_succ hc).symm) rfl) (by exact congrArg (fun z : List (List Ty) × List Chg => some (Ent.row 43 7 (z.2.map encC))) (chF_succ hc).symm) rfl) rfl rfl) rfl rfl) rfl rfl), J, rfl, rfl, rfl, trivial⟩
  · skip
    refine CW_seq ?_
    refine CW_region ?_
    refine OW_run' hE.ok 1 rfl ?_
    refine OW_store' hE rfl rfl rfl rfl rfl rfl rfl rfl rfl rfl rfl rfl ?_
    refine OW_store' hE rfl rfl rfl rfl rfl rfl rfl rfl rfl rfl rfl rfl ?_
    refine OW_end rfl ?_
    exact CW_ret ⟨.inr rfl, rfl, ⟨_, rfl, AVle.refl _⟩, ⟨rfl, by exact congrArg (fun z => some (Ent.row 24 1 ((chF s l z).1.map encS1))) (ysI_length encC l), by exact congrArg (fun z => some (Ent.row 43 7 ((chF s l z).2.map encC))) (ysI_length encC l), trivial⟩, rfl⟩

theorem newNil (s : List Ty) (hs : isSchema s = true) : DoesM Tryd.prog 27 [] [argS s, .d (.lit (.slice none 0 0))] (.tup [.ptr 40 0, .d (errC 74 0)]) [(40, .box 102 [.row 50, .row 51]), (50, .row 24 1 ((chF s [] 0).1.map encS1)), (51, .row 43 7 ((chF s [] 0).2.map encC))] [] :=
  (newOk s [] hs (fun k c h => by simp at h)).args rfl (AVles.cons (.refl _) (.cons (.nilSl 7 88) .nil))
end Go.Proofs.YtchpllgeahnmmaaDoor
