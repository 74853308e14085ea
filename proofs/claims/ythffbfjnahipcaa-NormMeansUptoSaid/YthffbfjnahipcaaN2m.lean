/- Parts of an abstract logic over the kit's walks, and walks in it: N2m. -/
import Derived.Test.YthffbfjnahipcaaN2k
import Derived.Test.YthffbfjnahipcaaN2l
import Derived.Test.YthffbfjnahipcaaN2f
namespace Go.Proofs.Ythffbfjnahipcaa
open Go Go.AL
set_option linter.unusedVariables false
set_option linter.unusedSimpArgs false
set_option maxHeartbeats 4000000
theorem lit12 (c : Int) : Does Try.prog 54 [.d (int c)] noHeap (argX (litX c)) := by
  refine Does_of T_ok mixed (N := 6) Try.func54 rfl rfl rfl (by rfl) fun F n Z hE hF J => ?_
  refine CW_seq ?_
  refine CW_region ?_
  refine OW_alloc' hE 1 rfl rfl rfl rfl rfl rfl rfl ?_
  refine OW_end rfl ?_
  refine CW_seq ?_
  refine CW_region ?_
  refine OW_run' hE.ok 1 rfl ?_
  refine OW_build' hE rfl rfl rfl rfl rfl ?_
  refine OW_build' hE rfl rfl rfl rfl rfl ?_
  refine OW_store' hE rfl rfl rfl rfl rfl rfl rfl rfl rfl rfl rfl rfl ?_
  refine OW_end rfl ?_
  refine CW_ret ?_
  refine ⟨.inr rfl, rfl, ⟨_, rfl, rfl, ?_⟩, rfl⟩
  exact AVle.agg (.cons (.refl _) (.cons (.refl _) (.cons (.refl _) (.cons (.refl _) (.cons (.refl _) (.cons (.refl _) (.cons (.nilSl 7 96) .nil)))))))

theorem field12 (a f : ByteArray) : Does Try.prog 53 [.d (str a), .d (str f)] noHeap (argX (fldX a f)) := by
  refine Does_of T_ok mixed (N := 8) Try.func53 rfl rfl rfl (by rfl) fun F n Z hE hF J => ?_
  refine CW_seq ?_
  refine CW_region ?_
  refine OW_alloc' hE 1 rfl rfl rfl rfl rfl rfl rfl ?_
  refine OW_end rfl ?_
  refine CW_seq ?_
  refine CW_region ?_
  refine OW_run' hE.ok 2 rfl ?_
  refine OW_build' hE rfl rfl rfl rfl rfl ?_
  refine OW_store' hE rfl rfl rfl rfl rfl rfl rfl rfl rfl rfl rfl rfl ?_
  refine OW_end rfl ?_
  refine CW_ret ?_
  refine ⟨.inr rfl, rfl, ⟨_, rfl, rfl, ?_⟩, rfl⟩
  exact AVle.agg (.cons (.refl _) (.cons (.refl _) (.cons (.refl _) (.cons (.refl _) (.cons (.refl _) (.cons (.refl _) (.cons (.nilSl 7 96) .nil)))))))

theorem two12 (op : Int) (x y : Exp) : Does Try.prog 52 [.d (int op), argX x, argX y] noHeap (argX (twoX op x y)) := by
  refine Does_of T_ok mixed (N := 12) Try.func52 rfl rfl rfl (by rfl) fun F n Z hE hF J => ?_
  obtain ⟨o1, v1, a1, f1, k1⟩ := x
  obtain ⟨o2, v2, a2, f2, k2⟩ := y
  refine CW_seq ?_
  refine CW_region ?_
  refine OW_run' hE.ok 2 rfl ?_
  refine OW_alloc' hE 1 rfl rfl rfl rfl rfl rfl rfl ?_
  refine OW_end rfl ?_
  refine CW_seq ?_
  refine CW_region ?_
  refine OW_run' hE.ok 3 rfl ?_
  refine OW_lits' hE rfl rfl rfl rfl rfl rfl rfl rfl rfl rfl rfl rfl ?_
  refine OW_build' hE rfl rfl rfl rfl rfl ?_
  refine OW_store' hE rfl rfl rfl rfl rfl rfl rfl rfl rfl rfl rfl rfl ?_
  refine OW_end rfl ?_
  refine CW_ret ?_
  refine ⟨.inr rfl, rfl, ⟨_, rfl, rfl, ?_⟩, rfl⟩
  exact AVle.refl _

theorem not12 (x : Exp) : Does Try.prog 55 [argX x] noHeap (argX (notX x)) := by
  refine Does_of T_ok mixed (N := 6) Try.func55 rfl rfl rfl (by rfl) fun F n Z hE hF J => ?_
  obtain ⟨o1, v1, a1, f1, k1⟩ := x
  refine CW_seq ?_
  refine CW_region ?_
  refine OW_run' hE.ok 1 rfl ?_
  refine OW_alloc' hE 1 rfl rfl rfl rfl rfl rfl rfl ?_
  refine OW_end rfl ?_
  refine CW_seq ?_
  refine CW_region ?_
  refine OW_run' hE.ok 1 rfl ?_
  refine OW_lits' hE rfl rfl rfl rfl rfl rfl rfl rfl rfl rfl rfl rfl ?_
  refine OW_build' hE rfl rfl rfl rfl rfl ?_
  refine OW_store' hE rfl rfl rfl rfl rfl rfl rfl rfl rfl rfl rfl rfl ?_
  refine OW_end rfl ?_
  refine CW_ret ?_
  refine ⟨.inr rfl, rfl, ⟨_, rfl, rfl, ?_⟩, rfl⟩
  exact AVle.refl _

theorem base12  : Does Try.prog 56 [] noHeap (argS bS) := by
  refine Does_of T_ok mixed (N := 11) Try.func56 rfl rfl rfl (by rfl) fun F n Z hE hF J => ?_
  refine CW_seq ?_
  refine CW_region ?_
  refine OW_alloc' hE 1 rfl rfl rfl rfl rfl rfl rfl ?_
  refine OW_end rfl ?_
  refine CW_seq ?_
  refine CW_region ?_
  refine OW_build' hE rfl rfl rfl rfl rfl ?_
  refine OW_build' hE rfl rfl rfl rfl rfl ?_
  refine OW_build' hE rfl rfl rfl rfl rfl ?_
  refine OW_lits' hE rfl rfl rfl rfl rfl rfl rfl rfl rfl rfl rfl rfl ?_
  refine OW_build' hE rfl rfl rfl rfl rfl ?_
  refine OW_build' hE rfl rfl rfl rfl rfl ?_
  refine OW_lits' hE rfl rfl rfl rfl rfl rfl rfl rfl rfl rfl rfl rfl ?_
  refine OW_build' hE rfl rfl rfl rfl rfl ?_
  refine OW_lits' hE rfl rfl rfl rfl rfl rfl rfl rfl rfl rfl rfl rfl ?_
  refine OW_build' hE rfl rfl rfl rfl rfl ?_
  refine OW_store' hE rfl rfl rfl rfl rfl rfl rfl rfl rfl rfl rfl rfl ?_
  refine OW_end rfl ?_
  refine CW_ret ?_
  refine ⟨.inr rfl, rfl, ⟨_, rfl, rfl, ?_⟩, rfl⟩
  exact AVle.refl _

theorem wideOk (p : Pat) (hb : ∀ e ∈ p.els, (nodesX e.cond 1).length ≤ 1048576) : Does Try.prog 21 [argP p] noHeap (.d (boo (wideP p))) := by
  refine Does_of T_ok mixed (N := 34) Try.func21 rfl rfl rfl (by rfl) fun F n Z hE hF J => ?_
  refine CW_seq ?_
  refine CW_region ?_
  refine OW_run' hE.ok 2 rfl ?_
  refine OW_end rfl ?_
  refine CW_seq ?_
  refine CW_seq ?_
  refine CW_region ?_
  refine OW_run' hE.ok 1 rfl ?_
  refine OW_end rfl ?_
  refine CW_block ?_
  refine CW_loop (σ := {i : Nat // i ≤ p.els.length ∧ ∀ j e, j < i → p.els[j]? = some e → wideE e = false}) (fun i => ⟨J, (sset (sset noSlots 1 (.d (.iptr (encP p)))) 3 (.d (int ((i.1 : Nat) : Int)))), noHeap⟩) (fun i => p.els.length - i.1) ⟨0, Nat.zero_le _, fun j e hj => by omega⟩ (LE_sh (slh_set (slh_set (slh_no _ _) rfl rfl) rfl rfl) (hlh_no _ _)) fun ⟨i, hi, hw⟩ => ?_
  refine CW_seq ?_
  refine CW_seq ?_
  refine CW_region ?_
  refine OW_run' hE.ok 5 rfl ?_
  refine OW_end rfl ?_
  refine CW_cond _ rfl (fun h1 => ?_) (fun h1 => ?_)
  · skip
    refine CW_know (know_sl (d := 6) rfl) fun hlen => ?_
    rw [List.length_map] at hlen
    have hlt : i < p.els.length := by have := h1; simp at this; omega
    obtain ⟨e, he⟩ : ∃ e, p.els[i]? = some e := ⟨_, List.getElem?_eq_getElem hlt⟩
    have hI := refNodesOk e.cond (hb e (List.mem_of_getElem? he))
    obtain ⟨y1, y2, y3, y4, y5, y6, y7, y8, y9, rfl⟩ := El.shape e
    refine CW_skip ?_
    refine CW_seq ?_
    refine CW_block ?_
    refine CW_seq ?_
    refine CW_region ?_
    refine OW_run' hE.ok 3 rfl ?_
    refine OW_loc' hE (loc_indexAddr hE rfl rfl rfl rfl rfl (by omega) (x := encL ⟨y1, y2, y3, y4, .mk y5 y6 y7 y8 y9⟩) (by simp [he])) rfl rfl rfl ?_
    refine OW_run' hE.ok 5 rfl ?_
    refine OW_split' 19 rfl (fun h2 => ?_) (fun h2 => ?_)
    · skip
      have g1 : decide ((y2.length : Int) > 10) = true := by have := h2; simp only [List.length_map] at this; exact this
      refine OW_run' hE.ok 10 rfl ?_
      refine OW_end rfl ?_
      refine CW_true rfl ?_
      refine CW_seq ?_
      refine CW_region ?_
      refine OW_run' hE.ok 1 rfl ?_
      refine OW_end rfl ?_
      refine CW_ret ?_
      refine ⟨.inr rfl, rfl, ⟨_, rfl, rfl, ?_⟩, rfl⟩
      exact AVle.of (congrArg (fun b => AV.d (boo b)) (by rw [wideP_bad he (by unfold wideE; dsimp only; rw [g1]; rfl)]))
    · skip
      have g1 : decide ((y2.length : Int) > 10) = false := by have := h2; simp only [List.length_map] at this; exact this
      refine OW_run' hE.ok 3 rfl ?_
      refine OW_loc' hE (loc_indexAddr hE rfl rfl rfl rfl rfl (by omega) (x := encL ⟨y1, y2, y3, y4, .mk y5 y6 y7 y8 y9⟩) (by simp [he])) rfl rfl rfl ?_
      refine OW_run' hE.ok 2 rfl ?_
      refine OW_call' hE (hI) rfl rfl rfl rfl rfl rfl rfl ?_
      refine OW_run' hE.ok 3 rfl ?_
      refine OW_end rfl ?_
      refine CW_cond _ rfl (fun h3 => ?_) (fun h3 => ?_)
      · skip
        have g2 : decide (((nodesX (.mk y5 y6 y7 y8 y9) 1).length : Int) > 100) = true := by have := h3; simp only [encXs_length] at this; exact this
        refine CW_seq ?_
        refine CW_region ?_
        refine OW_run' hE.ok 1 rfl ?_
        refine OW_end rfl ?_
        refine CW_ret ?_
        refine ⟨.inr rfl, rfl, ⟨_, rfl, rfl, ?_⟩, rfl⟩
        exact AVle.of (congrArg (fun b => AV.d (boo b)) (by rw [wideP_bad he (by unfold wideE; dsimp only; rw [g2, Bool.or_true])]))
      · skip
        have g2 : decide (((nodesX (.mk y5 y6 y7 y8 y9) 1).length : Int) > 100) = false := by have := h3; simp only [encXs_length] at this; exact this
        refine CW_skip ?_
        refine CW_region ?_
        refine OW_run' hE.ok 3 rfl ?_
        refine OW_end rfl ?_
        refine ⟨⟨i + 1, by omega, fun j x hj hx => ?_⟩, LE_sh (slh_set (v := .d (int ((i + 1 : Nat) : Int))) (slh_set (v := .d (.iptr (encP p))) (slh_no _ _) (by rfl) rfl) (by show AV.d (.lit (.int .i64 (IntKind.i64.wrap ((i : Int) + 1)))) = _; rw [wrap_succ (by omega)]; rfl) rfl) (hlh_no _ _), by show p.els.length - (i + 1) < p.els.length - i; omega⟩
        by_cases hji : j = i
        · subst hji; rw [he] at hx; cases hx; unfold wideE; dsimp only; rw [g1, g2]; rfl
        · exact hw j x (by omega) hx
  · skip
    have hge : p.els.length ≤ i := by have := h1; simp at this; omega
    refine CW_exit ?_
    show CW _ _ _ _
    refine CW_seq ?_
    refine CW_region ?_
    refine OW_run' hE.ok 5 rfl ?_
    refine OW_end rfl ?_
    refine CW_ret ?_
    refine ⟨.inr rfl, rfl, ⟨_, rfl, rfl, ?_⟩, rfl⟩
    exact AVle.of (congrArg (fun b => AV.d (boo b)) (by rw [wideP_end hge hw]; show decide (((p.els.map encL).length : Int) > 10) = _; rw [List.length_map]))

theorem known12  : Does Try.prog 19 [] noHeap (.d (boo true)) := by
  refine Does_of T_ok mixed (N := 71) Try.func19 rfl rfl rfl (by rfl) fun F n Z hE hF J => ?_
  have q0 := normEOk (notX (notX kX12)); rw [k12a] at q0
  have q1 := refSameXOk kX12 kX12; rw [sameX_self] at q1
  have q2 := normEOk (notX kX12); rw [k12b] at q2
  have q3 := refSameXOk kY12 kY12; rw [sameX_self] at q3
  have q4 := equalOk kP12 kQ12 (by decide); rw [k12c] at q4
  have q5 := Does_le (AVles.cons (AVle.refl _) (AVles.cons nilP_le AVles.nil)) (equalOk kP12 zeroP (by decide)); rw [k12d] at q5
  have q6 := normPOk kP12; rw [k12e] at q6
  refine CW_seq ?_
  refine CW_region ?_
  refine OW_run' hE.ok 1 rfl ?_
  refine OW_end rfl ?_
  refine CW_seq ?_
  refine CW_region ?_
  refine OW_call' hE (field12 (ch 97) (ch 110)) rfl rfl rfl rfl rfl rfl rfl ?_
  refine OW_call' hE (lit12 3) rfl rfl rfl rfl rfl rfl rfl ?_
  refine OW_call' hE (two12 8 (fldX (ch 97) (ch 110)) (litX 3)) rfl rfl rfl rfl rfl rfl rfl ?_
  refine OW_alloc' hE 1 rfl rfl rfl rfl rfl rfl rfl ?_
  refine OW_store' hE rfl rfl rfl rfl rfl rfl rfl rfl rfl rfl rfl rfl ?_
  refine OW_end rfl ?_
  refine CW_seq ?_
  refine CW_region ?_
  refine OW_lits' hE rfl rfl rfl rfl rfl rfl rfl rfl rfl rfl rfl rfl ?_
  refine OW_run' hE.ok 1 rfl ?_
  refine OW_call' hE (not12 kX12) rfl rfl rfl rfl rfl rfl rfl ?_
  refine OW_build' hE rfl rfl rfl rfl rfl ?_
  refine OW_lits' hE rfl rfl rfl rfl rfl rfl rfl rfl rfl rfl rfl rfl ?_
  refine OW_build' hE rfl rfl rfl rfl rfl ?_
  refine OW_alloc' hE 2 rfl rfl rfl rfl rfl rfl rfl ?_
  refine OW_store' hE rfl rfl rfl rfl rfl rfl rfl rfl rfl rfl rfl rfl ?_
  refine OW_end rfl ?_
  refine CW_seq ?_
  refine CW_region ?_
  refine OW_lits' hE rfl rfl rfl rfl rfl rfl rfl rfl rfl rfl rfl rfl ?_
  refine OW_call' hE (lit12 3) rfl rfl rfl rfl rfl rfl rfl ?_
  refine OW_call' hE (field12 (ch 122) (ch 110)) rfl rfl rfl rfl rfl rfl rfl ?_
  refine OW_call' hE (two12 9 (litX 3) (fldX (ch 122) (ch 110))) rfl rfl rfl rfl rfl rfl rfl ?_
  refine OW_build' hE rfl rfl rfl rfl rfl ?_
  refine OW_lits' hE rfl rfl rfl rfl rfl rfl rfl rfl rfl rfl rfl rfl ?_
  refine OW_build' hE rfl rfl rfl rfl rfl ?_
  refine OW_alloc' hE 3 rfl rfl rfl rfl rfl rfl rfl ?_
  refine OW_store' hE rfl rfl rfl rfl rfl rfl rfl rfl rfl rfl rfl rfl ?_
  refine OW_end rfl ?_
  refine CW_seq ?_
  refine CW_drawn' hE 23 (by decide +kernel) ?_
  refine HW_run hE 1 rfl rfl ?_
  refine HW_call hE (not12 kX12) rfl rfl rfl rfl rfl rfl rfl rfl ?_
  refine HW_call hE (not12 (notX kX12)) rfl rfl rfl rfl rfl rfl rfl rfl ?_
  refine HW_call hE (q0) rfl rfl rfl rfl rfl rfl rfl rfl ?_
  refine HW_run hE 1 rfl rfl ?_
  refine HW_call hE (q1) rfl rfl rfl rfl rfl rfl rfl rfl ?_
  refine HW_run hE 2 rfl rfl ?_
  refine HW_call hE (not12 kX12) rfl rfl rfl rfl rfl rfl rfl rfl ?_
  refine HW_call hE (q2) rfl rfl rfl rfl rfl rfl rfl rfl ?_
  refine HW_call hE (lit12 3) rfl rfl rfl rfl rfl rfl rfl rfl ?_
  refine HW_call hE (field12 (ch 97) (ch 110)) rfl rfl rfl rfl rfl rfl rfl rfl ?_
  refine HW_call hE (two12 9 (litX 3) (fldX (ch 97) (ch 110))) rfl rfl rfl rfl rfl rfl rfl rfl ?_
  refine HW_call hE (q3) rfl rfl rfl rfl rfl rfl rfl rfl ?_
  refine HW_run hE 4 rfl rfl ?_
  refine HW_call hE (q4) rfl rfl rfl rfl rfl rfl rfl rfl ?_
  refine HW_run hE 3 rfl rfl ?_
  refine HW_loc hE (loc_build hE rfl rfl) rfl rfl rfl rfl ?_
  refine HW_end ?_
  refine OW_call' hE (q5) rfl rfl rfl rfl rfl rfl rfl ?_
  refine OW_run' hE.ok 4 rfl ?_
  refine OW_call' hE (q6) rfl rfl rfl rfl rfl rfl rfl ?_
  refine OW_run' hE.ok 6 rfl ?_
  refine OW_call' hE (q6) rfl rfl rfl rfl rfl rfl rfl ?_
  refine OW_run' hE.ok 1 rfl ?_
  refine OW_loc' hE (loc_indexAddr hE rfl rfl rfl rfl rfl (by omega) (x := encL ⟨ch 97, [ch 116], false, false, kY12⟩) rfl) rfl rfl rfl ?_
  refine OW_run' hE.ok 6 rfl ?_
  refine OW_call' hE (base12) rfl rfl rfl rfl rfl rfl rfl ?_
  refine OW_run' hE.ok 1 rfl ?_
  refine OW_loc' hE (loc_indexAddr hE rfl rfl rfl rfl rfl (by omega) (x := encT ⟨ch 116, [⟨ch 98, 3⟩, ⟨ch 110, 1⟩, ⟨ch 115, 2⟩]⟩) rfl) rfl rfl rfl ?_
  refine OW_run' hE.ok 2 rfl ?_
  refine OW_run' hE.ok 1 rfl ?_
  refine OW_as' 69 (.d (boo true)) (by refine congrArg (fun b => AV.d (boo b)) ?_; exact same_refl (ch 116)) ?_
  refine OW_run' hE.ok 2 rfl ?_
  refine OW_end rfl ?_
  refine CW_ret ?_
  refine ⟨.inr rfl, rfl, ⟨[.d (boo true)], rfl, rfl, ?_⟩, rfl⟩
  exact AVle.refl _
end Go.Proofs.Ythffbfjnahipcaa
