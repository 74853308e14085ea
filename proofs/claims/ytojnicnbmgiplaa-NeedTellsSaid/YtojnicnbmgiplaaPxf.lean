/- Parts of an abstract logic over the kit's walks, and walks in it: P4q1, P4q2, P4q3, P4q4. -/
import Derived.Test.YtojnicnbmgiplaaPxa
import Derived.Test.YtojnicnbmgiplaaNrm
namespace Go.Proofs.Ytojnicnbmgiplaa
open Go Go.AL
set_option linter.unusedVariables false
set_option linter.unusedSimpArgs false
set_option maxHeartbeats 4000000
theorem plainOk (s : ByteArray) : Does Try.prog 79 [.d (str s)] noHeap (.d (boo (isText s))) := by
  refine Does_of T_ok mixed (N := 23) Try.func79 rfl rfl rfl (by rfl) fun F n Z hE hF J => ?_
  refine CW_know (know_str (d := 0) rfl) fun hlen => ?_
  refine CW_seq ?_
  refine CW_region ?_
  refine OW_run' hE.ok 1 rfl ?_
  refine OW_end rfl ?_
  refine CW_seq ?_
  refine CW_seq ?_
  refine CW_region ?_
  refine OW_run' hE.ok 1 rfl ?_
  refine OW_end rfl ?_
  refine CW_block ?_
  refine CW_loop (σ := {i : Nat // i ≤ s.size ∧ ∀ j c, j < i → s.data.toList[j]? = some c → shownC c = true})
    (fun i => ⟨J, (sset (sset noSlots 0 (.d (str s))) 3 (.d (.lit (.int .i64 i.1)))), noHeap⟩) (fun i => s.size - i.1) ⟨0, Nat.zero_le _, by omega⟩ (LE_s (sle_set (sle_set (sle_no _) rfl) rfl)) fun ⟨i, hi, hp⟩ => ?_
  refine CW_seq ?_
  refine CW_seq ?_
  refine CW_region ?_
  refine OW_run' hE.ok 4 rfl ?_
  refine OW_end rfl ?_
  refine CW_cond _ rfl (fun h1 => ?_) (fun h1 => ?_)
  · skip
    have hlt : i < s.size := by have := h1; simp at this; omega
    obtain ⟨c, ha⟩ : ∃ c, s.data.toList[i]? = some c := ⟨_, List.getElem?_eq_getElem (by simpa using hlt)⟩
    refine CW_skip ?_
    refine CW_seq ?_
    refine CW_block ?_
    refine CW_seq ?_
    refine CW_region ?_
    refine OW_run' hE.ok 2 rfl ?_
    refine OW_loc' hE (loc_index hE rfl rfl rfl rfl (by omega) (by simpa using ha)) rfl rfl rfl ?_
    refine OW_run' hE.ok 2 rfl ?_
    refine OW_split' 14 rfl (fun h2 => ?_) (fun h2 => ?_)
    · skip
      have hbad : shownC c = false := shown_lo h2
      refine OW_run' hE.ok 5 rfl ?_
      refine OW_end rfl ?_
      refine CW_true rfl ?_
      refine CW_seq ?_
      refine CW_region ?_
      refine OW_run' hE.ok 1 rfl ?_
      refine OW_end rfl ?_
      refine CW_ret ?_
      refine ⟨.inr rfl, rfl, ⟨_, rfl, rfl, ?_⟩, rfl⟩
      exact AVle.of (congrArg (fun b => AV.d (boo b)) (by rw [isText_bad ha hbad]))
    · skip
      refine OW_run' hE.ok 2 rfl ?_
      refine OW_loc' hE (loc_index hE rfl rfl rfl rfl (by omega) (by simpa using ha)) rfl rfl rfl ?_
      refine OW_run' hE.ok 2 rfl ?_
      refine OW_end rfl ?_
      refine CW_cond _ rfl (fun h3 => ?_) (fun h3 => ?_)
      · skip
        have hbad : shownC c = false := shown_hi h3
        refine CW_seq ?_
        refine CW_region ?_
        refine OW_run' hE.ok 1 rfl ?_
        refine OW_end rfl ?_
        refine CW_ret ?_
        refine ⟨.inr rfl, rfl, ⟨_, rfl, rfl, ?_⟩, rfl⟩
        exact AVle.of (congrArg (fun b => AV.d (boo b)) (by rw [isText_bad ha hbad]))
      · skip
        have hgood : shownC c = true := shown_ok h2 h3
        refine CW_skip ?_
        refine CW_region ?_
        refine OW_run' hE.ok 3 rfl ?_
        refine OW_end rfl ?_
        refine ⟨⟨i + 1, hlt, fun j x hj hx => ?_⟩, LE_s (sle_set (sle_set (sle_no _) rfl) (by show AV.d (.lit (.int .i64 (IntKind.i64.wrap (↑i + 1)))) = _; rw [wrap_succ (by omega)])), by show s.size - (i + 1) < s.size - i; omega⟩
        by_cases hji : j = i
        · subst hji; rw [ha] at hx; cases hx; exact hgood
        · exact hp j x (by omega) hx
  · skip
    have hge : ¬ i < s.size := by have := h1; simp at this; omega
    have hall := allShown hi hge hp
    refine CW_exit ?_
    show CW _ _ _ _
    refine CW_seq ?_
    refine CW_region ?_
    refine OW_run' hE.ok 4 rfl ?_
    refine OW_end rfl ?_
    refine CW_ret ?_
    refine ⟨.inr rfl, rfl, ⟨_, rfl, rfl, ?_⟩, rfl⟩
    exact AVle.of (congrArg (fun b => AV.d (boo b)) (by rw [text_end hall]))

theorem refNameOk (s : ByteArray) : Does Try.prog 37 [.d (str s)] noHeap (.d (boo (isName s))) := by
  refine Does_of T_ok mixed (N := 28) Try.func37 rfl rfl rfl (by rfl) fun F n Z hE hF J => ?_
  refine CW_know (know_str (d := 0) rfl) fun hlen => ?_
  refine CW_seq ?_
  refine CW_region ?_
  refine OW_run' hE.ok 1 rfl ?_
  refine OW_end rfl ?_
  refine CW_seq ?_
  refine CW_seq ?_
  refine CW_region ?_
  refine OW_run' hE.ok 1 rfl ?_
  refine OW_end rfl ?_
  refine CW_block ?_
  refine CW_loop (σ := {i : Nat // i ≤ s.size ∧ ∀ j c, j < i → s.data.toList[j]? = some c → small c = true})
    (fun i => ⟨J, (sset (sset noSlots 0 (.d (str s))) 3 (.d (.lit (.int .i64 i.1)))), noHeap⟩) (fun i => s.size - i.1) ⟨0, Nat.zero_le _, by omega⟩ (LE_s (sle_set (sle_set (sle_no _) rfl) rfl)) fun ⟨i, hi, hp⟩ => ?_
  refine CW_seq ?_
  refine CW_seq ?_
  refine CW_region ?_
  refine OW_run' hE.ok 4 rfl ?_
  refine OW_end rfl ?_
  refine CW_cond _ rfl (fun h1 => ?_) (fun h1 => ?_)
  · skip
    have hlt : i < s.size := by have := h1; simp at this; omega
    obtain ⟨c, ha⟩ : ∃ c, s.data.toList[i]? = some c := ⟨_, List.getElem?_eq_getElem (by simpa using hlt)⟩
    refine CW_skip ?_
    refine CW_seq ?_
    refine CW_block ?_
    refine CW_seq ?_
    refine CW_region ?_
    refine OW_run' hE.ok 2 rfl ?_
    refine OW_loc' hE (loc_index hE rfl rfl rfl rfl (by omega) (by simpa using ha)) rfl rfl rfl ?_
    refine OW_run' hE.ok 2 rfl ?_
    refine OW_split' 14 rfl (fun h2 => ?_) (fun h2 => ?_)
    · skip
      have hbad : small c = false := small_lo h2
      refine OW_run' hE.ok 5 rfl ?_
      refine OW_end rfl ?_
      refine CW_true rfl ?_
      refine CW_seq ?_
      refine CW_region ?_
      refine OW_run' hE.ok 1 rfl ?_
      refine OW_end rfl ?_
      refine CW_ret ?_
      refine ⟨.inr rfl, rfl, ⟨_, rfl, rfl, ?_⟩, rfl⟩
      exact AVle.of (congrArg (fun b => AV.d (boo b)) (by rw [isName_bad ha hbad]))
    · skip
      refine OW_run' hE.ok 2 rfl ?_
      refine OW_loc' hE (loc_index hE rfl rfl rfl rfl (by omega) (by simpa using ha)) rfl rfl rfl ?_
      refine OW_run' hE.ok 2 rfl ?_
      refine OW_end rfl ?_
      refine CW_cond _ rfl (fun h3 => ?_) (fun h3 => ?_)
      · skip
        have hbad : small c = false := small_hi h3
        refine CW_seq ?_
        refine CW_region ?_
        refine OW_run' hE.ok 1 rfl ?_
        refine OW_end rfl ?_
        refine CW_ret ?_
        refine ⟨.inr rfl, rfl, ⟨_, rfl, rfl, ?_⟩, rfl⟩
        exact AVle.of (congrArg (fun b => AV.d (boo b)) (by rw [isName_bad ha hbad]))
      · skip
        have hgood : small c = true := small_ok h2 h3
        refine CW_skip ?_
        refine CW_region ?_
        refine OW_run' hE.ok 3 rfl ?_
        refine OW_end rfl ?_
        refine ⟨⟨i + 1, hlt, fun j x hj hx => ?_⟩, LE_s (sle_set (sle_set (sle_no _) rfl) (by show AV.d (.lit (.int .i64 (IntKind.i64.wrap (↑i + 1)))) = _; rw [wrap_succ (by omega)])), by show s.size - (i + 1) < s.size - i; omega⟩
        by_cases hji : j = i
        · subst hji; rw [ha] at hx; cases hx; exact hgood
        · exact hp j x (by omega) hx
  · skip
    have hge : ¬ i < s.size := by have := h1; simp at this; omega
    have hall := all_small hi hge hp
    refine CW_exit ?_
    show CW _ _ _ _
    refine CW_seq ?_
    refine CW_region ?_
    refine OW_run' hE.ok 4 rfl ?_
    refine OW_split' 23 rfl (fun h4 => ?_) (fun h4 => ?_)
    · skip
      refine OW_run' hE.ok 5 rfl ?_
      refine OW_end rfl ?_
      refine CW_ret ?_
      refine ⟨.inr rfl, rfl, ⟨_, rfl, rfl, ?_⟩, rfl⟩
      exact AVle.of (congrArg (fun b => AV.d (boo b)) (by rw [name_end2 hall, h4]; rfl))
    · skip
      refine OW_run' hE.ok 5 rfl ?_
      refine OW_end rfl ?_
      refine CW_ret ?_
      refine ⟨.inr rfl, rfl, ⟨_, rfl, rfl, ?_⟩, rfl⟩
      exact AVle.of (congrArg (fun b => AV.d (boo b)) (by rw [name_end2 hall, h4]; rfl))

theorem refIsValOk (v : Vl) : Does Try.prog 43 [argV v] noHeap (.d (boo (isVal v))) := by
  refine Does_of T_ok mixed (N := 35) Try.func43 rfl rfl rfl (by rfl) fun F n Z hE hF J => ?_
  refine CW_seq ?_
  refine CW_region ?_
  refine OW_run' hE.ok 2 rfl ?_
  refine OW_end rfl ?_
  refine CW_seq ?_
  refine CW_seq ?_
  refine CW_region ?_
  refine OW_run' hE.ok 2 rfl ?_
  refine OW_end rfl ?_
  refine CW_block ?_
  refine CW_seq ?_
  refine CW_region ?_
  refine OW_run' hE.ok 2 rfl ?_
  refine OW_end rfl ?_
  refine CW_cond _ rfl (fun h1 => ?_) (fun h1 => ?_)
  · skip
    refine CW_seq ?_
    refine CW_region ?_
    refine OW_run' hE.ok 4 rfl ?_
    refine OW_end rfl ?_
    refine CW_ret ?_
    refine ⟨.inr rfl, rfl, ⟨_, rfl, rfl, ?_⟩, rfl⟩
    exact AVle.of (congrArg (fun b => AV.d (boo b)) (by simp_all [isVal, same, nul]))
  · skip
    refine CW_seq ?_
    refine CW_region ?_
    refine OW_run' hE.ok 2 rfl ?_
    refine OW_end rfl ?_
    refine CW_cond _ rfl (fun h2 => ?_) (fun h2 => ?_)
    · skip
      refine CW_seq ?_
      refine CW_region ?_
      refine OW_run' hE.ok 4 rfl ?_
      refine OW_split' 15 rfl (fun h3 => ?_) (fun h3 => ?_)
      · skip
        refine OW_run' hE.ok 2 rfl ?_
        refine OW_call' hE (plainOk _) rfl rfl rfl rfl rfl rfl rfl ?_
        refine OW_run' hE.ok 2 rfl ?_
        refine OW_end rfl ?_
        refine CW_ret ?_
        refine ⟨.inr rfl, rfl, ⟨_, rfl, rfl, ?_⟩, rfl⟩
        exact AVle.of (congrArg (fun b => AV.d (boo b)) (by simp_all [isVal, same, nul]))
      · skip
        refine OW_run' hE.ok 5 rfl ?_
        refine OW_end rfl ?_
        refine CW_ret ?_
        refine ⟨.inr rfl, rfl, ⟨_, rfl, rfl, ?_⟩, rfl⟩
        exact AVle.of (congrArg (fun b => AV.d (boo b)) (by simp_all [isVal, same, nul]))
    · skip
      refine CW_seq ?_
      refine CW_region ?_
      refine OW_run' hE.ok 2 rfl ?_
      refine OW_end rfl ?_
      refine CW_cond _ rfl (fun h4 => ?_) (fun h4 => ?_)
      · skip
        refine CW_seq ?_
        refine CW_region ?_
        refine OW_run' hE.ok 4 rfl ?_
        refine OW_split' 25 rfl (fun h5 => ?_) (fun h5 => ?_)
        · skip
          refine OW_run' hE.ok 10 rfl ?_
          refine OW_end rfl ?_
          refine CW_ret ?_
          refine ⟨.inr rfl, rfl, ⟨_, rfl, rfl, ?_⟩, rfl⟩
          exact AVle.of (congrArg (fun b => AV.d (boo b)) (by simp_all [isVal, same, nul]))
        · skip
          refine OW_run' hE.ok 5 rfl ?_
          refine OW_split' 30 rfl (fun h6 => ?_) (fun h6 => ?_)
          · skip
            refine OW_run' hE.ok 5 rfl ?_
            refine OW_end rfl ?_
            refine CW_ret ?_
            refine ⟨.inr rfl, rfl, ⟨_, rfl, rfl, ?_⟩, rfl⟩
            exact AVle.of (congrArg (fun b => AV.d (boo b)) (by simp_all [isVal, same, nul]))
          · skip
            refine OW_run' hE.ok 5 rfl ?_
            refine OW_end rfl ?_
            refine CW_ret ?_
            refine ⟨.inr rfl, rfl, ⟨_, rfl, rfl, ?_⟩, rfl⟩
            exact AVle.of (congrArg (fun b => AV.d (boo b)) (by simp_all [isVal, same, nul]))
      · skip
        refine CW_skip ?_
        refine CW_seq ?_
        refine CW_region ?_
        refine OW_run' hE.ok 1 rfl ?_
        refine OW_end rfl ?_
        refine CW_ret ?_
        refine ⟨.inr rfl, rfl, ⟨_, rfl, rfl, ?_⟩, rfl⟩
        exact AVle.of (congrArg (fun b => AV.d (boo b)) (by simp_all [isVal, same, nul]))

theorem refRiseOk (l : List ByteArray) : Does Try.prog 75 [.d (.sl 1 16 (l.map encB))] noHeap (.d (boo (rise l))) := by
  refine Does_of T_ok mixed (N := 20) Try.func75 rfl rfl rfl (by rfl) fun F n Z hE hF J => ?_
  refine CW_know (know_sl (d := 0) rfl) fun hlen => ?_
  rw [List.length_map] at hlen
  refine CW_seq ?_
  refine CW_region ?_
  refine OW_run' hE.ok 1 rfl ?_
  refine OW_end rfl ?_
  refine CW_seq ?_
  refine CW_seq ?_
  refine CW_region ?_
  refine OW_run' hE.ok 1 rfl ?_
  refine OW_end rfl ?_
  refine CW_block ?_
  refine CW_loop (σ := {i : Nat // i ≤ l.length ∧ ∀ j a b, j < i → l[j]? = some a → l[j + 1]? = some b → Op.bytesLess a.toList b.toList = true}) (fun i => ⟨J, (sset (sset noSlots 0 (.d (.sl 1 16 (l.map encB)))) 3 (.d (int ((i.1 + 1 : Nat) : Int)))), noHeap⟩) (fun i => l.length - i.1) ⟨0, Nat.zero_le _, fun j a b hj => by omega⟩ (LE_s (sle_set (sle_set (sle_no _) rfl) rfl)) fun ⟨i, hi, hp⟩ => ?_
  refine CW_seq ?_
  refine CW_seq ?_
  refine CW_region ?_
  refine OW_run' hE.ok 4 rfl ?_
  refine OW_end rfl ?_
  refine CW_cond _ rfl (fun h1 => ?_) (fun h1 => ?_)
  · skip
    have hlt : i + 1 < l.length := by have := h1; simp at this; omega
    obtain ⟨a, ha⟩ : ∃ a, l[i]? = some a := ⟨_, List.getElem?_eq_getElem (by omega)⟩
    obtain ⟨b, hb⟩ : ∃ b, l[i + 1]? = some b := ⟨_, List.getElem?_eq_getElem hlt⟩
    refine CW_skip ?_
    refine CW_seq ?_
    refine CW_block ?_
    refine CW_seq ?_
    refine CW_drawn' hE 9 (by decide +kernel) ?_
    refine HW_run hE 3 rfl rfl ?_
    refine HW_as 12 (.d (int (i : Nat))) (by show AV.d (int (IntKind.i64.wrap (((i + 1 : Nat) : Int) - 1))) = _; rw [wrap_pred (by omega)]) ?_
    refine HW_loc hE (loc_indexAddr hE rfl rfl rfl rfl rfl (by omega) (x := encB a) (by simp [ha])) rfl rfl rfl rfl ?_
    refine HW_run hE 3 rfl rfl ?_
    refine HW_loc hE (loc_indexAddr hE rfl rfl rfl rfl rfl (by omega) (x := encB b) (by simp [hb])) rfl rfl rfl rfl ?_
    refine HW_run hE 1 rfl rfl ?_
    refine HW_end ?_
    refine OW_run' hE.ok 1 rfl ?_
    refine OW_end rfl ?_
    refine CW_cond _ rfl (fun h2 => ?_) (fun h2 => ?_)
    · skip
      have hbad : Op.bytesLess a.toList b.toList = false := by simpa using h2
      refine CW_seq ?_
      refine CW_region ?_
      refine OW_run' hE.ok 1 rfl ?_
      refine OW_end rfl ?_
      refine CW_ret ?_
      refine ⟨.inr rfl, rfl, ⟨_, rfl, rfl, ?_⟩, rfl⟩
      exact AVle.of (congrArg (fun b => AV.d (boo b)) (by rw [rise_bad ha hb hbad]))
    · skip
      have hgood : Op.bytesLess a.toList b.toList = true := by simpa using h2
      refine CW_skip ?_
      refine CW_region ?_
      refine OW_run' hE.ok 3 rfl ?_
      refine OW_end rfl ?_
      refine ⟨⟨i + 1, by omega, fun j x y hj hx hy => ?_⟩, LE_s (sle_set (sle_set (sle_no _) rfl) (by show AV.d (.lit (.int .i64 (IntKind.i64.wrap (((i + 1 : Nat) : Int) + 1)))) = _; rw [wrap_succ (by omega)]; rfl)), by show l.length - (i + 1) < l.length - i; omega⟩
      by_cases hji : j = i
      · subst hji; rw [ha] at hx; rw [hb] at hy; cases hx; cases hy; exact hgood
      · exact hp j x y (by omega) hx hy
  · skip
    have hge : ¬ i + 1 < l.length := by have := h1; simp at this; omega
    refine CW_exit ?_
    show CW _ _ _ _
    refine CW_seq ?_
    refine CW_region ?_
    refine OW_run' hE.ok 1 rfl ?_
    refine OW_end rfl ?_
    refine CW_ret ?_
    refine ⟨.inr rfl, rfl, ⟨_, rfl, rfl, ?_⟩, rfl⟩
    exact AVle.of (congrArg (fun b => AV.d (boo b)) (by rw [rise_all (fun j a b hj => hp j a b (by omega))]))

theorem refKidsOk (op : Int) : Does Try.prog 133 [.d (int op)] noHeap (.d (int (kidsN op))) := by
  refine Does_of T_ok mixed (N := 13) Try.func133 rfl rfl rfl (by rfl) fun F n Z hE hF J => ?_
  refine CW_seq ?_
  refine CW_region ?_
  refine OW_run' hE.ok 1 rfl ?_
  refine OW_end rfl ?_
  refine CW_seq ?_
  refine CW_block ?_
  refine CW_seq ?_
  refine CW_region ?_
  refine OW_run' hE.ok 3 rfl ?_
  refine OW_end rfl ?_
  refine CW_cond _ rfl (fun h1 => ?_) (fun h1 => ?_)
  · skip
    have g1 : (op == 12) = true := h1
    refine CW_seq ?_
    refine CW_region ?_
    refine OW_run' hE.ok 1 rfl ?_
    refine OW_end rfl ?_
    refine CW_ret ?_
    refine ⟨.inr rfl, rfl, ⟨_, rfl, rfl, ?_⟩, rfl⟩
    exact AVle.of (congrArg (fun b => AV.d (int b)) (by unfold kidsN; rw [g1]; rfl))
  · skip
    have g1 : (op == 12) = false := h1
    refine CW_seq ?_
    refine CW_region ?_
    refine OW_run' hE.ok 3 rfl ?_
    refine OW_split' 9 rfl (fun h2 => ?_) (fun h2 => ?_)
    · skip
      have g2 : decide (op ≥ 3) = true := h2
      refine OW_run' hE.ok 4 rfl ?_
      refine OW_end rfl ?_
      refine CW_cond _ rfl (fun h3 => ?_) (fun h3 => ?_)
      · skip
        have g3 : decide (op ≤ 11) = true := h3
        refine CW_seq ?_
        refine CW_region ?_
        refine OW_run' hE.ok 1 rfl ?_
        refine OW_end rfl ?_
        refine CW_ret ?_
        refine ⟨.inr rfl, rfl, ⟨_, rfl, rfl, ?_⟩, rfl⟩
        exact AVle.of (congrArg (fun b => AV.d (int b)) (by unfold kidsN; rw [g1, g2, g3]; rfl))
      · skip
        have g3 : decide (op ≤ 11) = false := h3
        refine CW_skip ?_
        refine CW_seq ?_
        refine CW_region ?_
        refine OW_run' hE.ok 1 rfl ?_
        refine OW_end rfl ?_
        refine CW_ret ?_
        refine ⟨.inr rfl, rfl, ⟨_, rfl, rfl, ?_⟩, rfl⟩
        exact AVle.of (congrArg (fun b => AV.d (int b)) (by unfold kidsN; rw [g1, g2, g3]; rfl))
    · skip
      have g2 : decide (op ≥ 3) = false := h2
      refine OW_run' hE.ok 4 rfl ?_
      refine OW_end rfl ?_
      refine CW_false rfl ?_
      refine CW_skip ?_
      refine CW_seq ?_
      refine CW_region ?_
      refine OW_run' hE.ok 1 rfl ?_
      refine OW_end rfl ?_
      refine CW_ret ?_
      refine ⟨.inr rfl, rfl, ⟨_, rfl, rfl, ?_⟩, rfl⟩
      exact AVle.of (congrArg (fun b => AV.d (int b)) (by unfold kidsN; rw [g1, g2]; rfl))

theorem refAliasOk (l : List El) (s : ByteArray) : Does Try.prog 50 [.d (.sl 11 144 (l.map encL)), .d (str s)] noHeap (.d (int (idx (fun e => same e.al s) l))) := by
  refine Does_of T_ok mixed (N := 20) Try.func50 rfl rfl rfl (by rfl) fun F n Z hE hF J => ?_
  refine CW_know (know_sl (d := 0) rfl) fun hlen => ?_
  rw [List.length_map] at hlen
  refine CW_seq ?_
  refine CW_region ?_
  refine OW_run' hE.ok 1 rfl ?_
  refine OW_end rfl ?_
  refine CW_seq ?_
  refine CW_seq ?_
  refine CW_region ?_
  refine OW_run' hE.ok 1 rfl ?_
  refine OW_end rfl ?_
  refine CW_block ?_
  refine CW_loop (σ := {i : Nat // i ≤ l.length ∧ ∀ j a, j < i → l[j]? = some a → same a.al s = false}) (fun i => ⟨J, (sset (sset (sset noSlots 0 (.d (.sl 11 144 (l.map encL)))) 1 (.d (str s))) 5 (.d (int ((i.1 : Nat) : Int)))), noHeap⟩) (fun i => l.length - i.1) ⟨0, Nat.zero_le _, fun j a hj => by omega⟩ (LE_sh (slh_set (slh_set (slh_set (slh_no _ _) rfl rfl) rfl rfl) rfl rfl) (hlh_no _ _)) fun ⟨i, hi, hp⟩ => ?_
  refine CW_seq ?_
  refine CW_seq ?_
  refine CW_region ?_
  refine OW_run' hE.ok 4 rfl ?_
  refine OW_end rfl ?_
  refine CW_cond _ rfl (fun h1 => ?_) (fun h1 => ?_)
  · skip
    have hlt : i < l.length := by have := h1; simp at this; omega
    obtain ⟨a, ha⟩ : ∃ a, l[i]? = some a := ⟨_, List.getElem?_eq_getElem hlt⟩
    refine CW_skip ?_
    refine CW_seq ?_
    refine CW_block ?_
    refine CW_seq ?_
    refine CW_region ?_
    refine OW_run' hE.ok 2 rfl ?_
    refine OW_loc' hE (loc_indexAddr hE rfl rfl rfl rfl rfl (by omega) (x := encL a) (by simp [ha])) rfl rfl rfl ?_
    refine OW_run' hE.ok 4 rfl ?_
    refine OW_end rfl ?_
    refine CW_cond _ rfl (fun h2 => ?_) (fun h2 => ?_)
    · skip
      have heq : same a.al s = true := h2
      refine CW_seq ?_
      refine CW_region ?_
      refine OW_run' hE.ok 2 rfl ?_
      refine OW_end rfl ?_
      refine CW_ret ?_
      refine ⟨.inr rfl, rfl, ⟨_, rfl, rfl, ?_⟩, rfl⟩
      exact AVle.of (congrArg (fun b => AV.d (int b)) (by rw [idx_some ha heq (fun j b hj hb => hp j b hj hb)]))
    · skip
      have hne : same a.al s = false := h2
      refine CW_skip ?_
      refine CW_region ?_
      refine OW_run' hE.ok 3 rfl ?_
      refine OW_end rfl ?_
      refine ⟨⟨i + 1, by omega, fun j x hj hx => ?_⟩, LE_sh (slh_set (v := .d (int ((i + 1 : Nat) : Int))) (slh_set (v := .d (str s)) (slh_set (v := .d (.sl 11 144 (l.map encL))) (slh_no _ _) (by rfl) rfl) (by rfl) rfl) (by show AV.d (.lit (.int .i64 (IntKind.i64.wrap ((i : Int) + 1)))) = _; rw [wrap_succ (by omega)]; rfl) rfl) (hlh_no _ _), by show l.length - (i + 1) < l.length - i; omega⟩
      by_cases hji : j = i
      · subst hji; rw [ha] at hx; cases hx; exact hne
      · exact hp j x (by omega) hx
  · skip
    have hge : l.length ≤ i := by have := h1; simp at this; omega
    refine CW_exit ?_
    show CW _ _ _ _
    refine CW_seq ?_
    refine CW_region ?_
    refine OW_run' hE.ok 1 rfl ?_
    refine OW_end rfl ?_
    refine CW_ret ?_
    refine ⟨.inr rfl, rfl, ⟨_, rfl, rfl, ?_⟩, rfl⟩
    exact AVle.of (congrArg (fun b => AV.d (int b)) (by rw [idx_none (fun j b hj hb => hp j b (by omega) hb)]))
end Go.Proofs.Ytojnicnbmgiplaa
namespace Go.Proofs.Ytojnicnbmgiplaa
open Go Go.AL
set_option linter.unusedVariables false
set_option linter.unusedSimpArgs false
set_option maxHeartbeats 4000000
theorem refNodesStep (op : Int) (v : Vl) (al fi : ByteArray) (ks : List Exp) (lf : Nat) (hl : lf ≤ 20) (hb : (nodesX (.mk op v al fi ks) (21 - lf)).length ≤ 1048576) (ih : ∀ k ∈ ks, ∀ l : Nat, l ≤ 20 → (nodesX k (21 - l)).length ≤ 1048576 → Does Try.prog 86 [argX k, .d (int ((l : Nat) : Int))] noHeap (.d (.sl 7 96 (encXs (nodesX k (21 - l)))))) : Does Try.prog 86 [argX (.mk op v al fi ks), .d (int ((lf : Nat) : Int))] noHeap (.d (.sl 7 96 (encXs (nodesX (.mk op v al fi ks) (21 - lf))))) := by
  refine Does_of T_ok mixed (N := 34) Try.func86 rfl rfl rfl (by rfl) fun F n Z hE hF J => ?_
  refine CW_seq ?_
  refine CW_region ?_
  refine OW_run' hE.ok 2 rfl ?_
  refine OW_end rfl ?_
  refine CW_seq ?_
  refine CW_seq ?_
  refine CW_region ?_
  refine OW_run' hE.ok 4 rfl ?_
  refine OW_split' 10 rfl (fun h1 => ?_) (fun h1 => ?_)
  · skip
    have h0 : (op == 0 || decide (((21 - lf : Nat) : Int) > 20)) = true := by have := h1; simp_all
    refine OW_run' hE.ok 3 rfl ?_
    refine OW_end rfl ?_
    refine CW_true rfl ?_
    refine CW_seq ?_
    refine CW_region ?_
    refine OW_run' hE.ok 1 rfl ?_
    refine OW_end rfl ?_
    refine CW_ret ?_
    refine ⟨.inr rfl, rfl, ⟨_, rfl, rfl, ?_⟩, rfl⟩
    rw [nodesX_no h0]
    exact AVle.nilSl 7 96
  · skip
    refine OW_run' hE.ok 3 rfl ?_
    refine OW_end rfl ?_
    refine CW_cond _ rfl (fun h2 => ?_) (fun h2 => ?_)
    · skip
      have h0 : (op == 0 || decide (((21 - lf : Nat) : Int) > 20)) = true := by have := h2; simp at this ⊢; omega
      refine CW_seq ?_
      refine CW_region ?_
      refine OW_run' hE.ok 1 rfl ?_
      refine OW_end rfl ?_
      refine CW_ret ?_
      refine ⟨.inr rfl, rfl, ⟨_, rfl, rfl, ?_⟩, rfl⟩
      rw [nodesX_no h0]
      exact AVle.nilSl 7 96
    · skip
      have h0 : (op == 0 || decide (((21 - lf : Nat) : Int) > 20)) = false := by have := h2; simp at this; simp_all; omega
      have hlf : 1 ≤ lf := by simp at h0; omega
      refine CW_skip ?_
      refine CW_seq ?_
      refine CW_region ?_
      refine OW_run' hE.ok 1 rfl ?_
      refine OW_litsOwn' hE 50 rfl rfl rfl rfl rfl rfl rfl rfl rfl rfl rfl rfl ?_
      refine OW_run' hE.ok 1 rfl ?_
      refine OW_end rfl ?_
      refine CW_seq ?_
      refine CW_seq ?_
      refine CW_region ?_
      refine OW_run' hE.ok 1 rfl ?_
      refine OW_end rfl ?_
      refine CW_block ?_
      refine CW_loop (σ := {i : Nat // i ≤ ks.length}) (fun i => ⟨J, (sset (sset (sset (sset noSlots 1 (.d (int ((lf : Nat) : Int)))) 2 (.d (.iptr (encX (.mk op v al fi ks))))) 5 (.row 50)) 6 (.d (int ((i.1 : Nat) : Int)))), (hset noHeap 50 (some (.row 64 7 (encXs ((.mk op v al fi ks) :: nodesXs (ks.take i.1) (21 - lf + 1))))))⟩) (fun i => ks.length - i.1) ⟨0, Nat.zero_le _⟩ (LE_sh (slh_set (slh_set (slh_set (slh_set (slh_no _ _) rfl rfl) rfl rfl) rfl rfl) rfl rfl) (hlh_set (hlh_no _ _) rfl rfl)) fun ⟨i, hi⟩ => ?_
      refine CW_seq ?_
      refine CW_seq ?_
      refine CW_region ?_
      refine OW_run' hE.ok 5 rfl ?_
      refine OW_end rfl ?_
      refine CW_cond _ rfl (fun h3 => ?_) (fun h3 => ?_)
      · skip
        refine CW_know (know_sl (d := 18) rfl) fun hlen => ?_
        rw [encXs_length] at hlen
        have hlt : i < ks.length := by have := h3; simp [encXs_length] at this; omega
        obtain ⟨k, hk⟩ : ∃ k, ks[i]? = some k := ⟨_, List.getElem?_eq_getElem hlt⟩
        have hpt := nodes_part (v := v) (al := al) (fi := fi) h0 hk
        have hI := ih k (List.mem_of_getElem? hk) (lf - 1) (by omega) (by rw [show 21 - (lf - 1) = 21 - lf + 1 by omega]; omega)
        rw [show 21 - (lf - 1) = 21 - lf + 1 by omega] at hI
        obtain ⟨o1, v1, c1, f1, k1, rfl⟩ := Exp.shape k
        refine CW_skip ?_
        refine CW_seq ?_
        refine CW_block ?_
        refine CW_region ?_
        refine OW_run' hE.ok 4 rfl ?_
        refine OW_loc' hE (loc_indexAddr hE rfl rfl rfl rfl rfl (by omega) (x := encX (.mk o1 v1 c1 f1 k1)) (encXs_get hk)) rfl rfl rfl ?_
        refine OW_run' hE.ok 3 rfl ?_
        refine OW_as' 30 (.d (int ((lf - 1 : Nat) : Int))) (by show AV.d (.lit (.int .i64 (IntKind.i64.wrap ((lf : Int) - 1)))) = _; rw [show ((lf : Int) - 1) = ((lf - 1 : Nat) : Int) by omega, wrapN (by omega)]; rfl) ?_
        refine OW_call' hE (hI) rfl rfl rfl rfl rfl rfl rfl ?_
        refine OW_append' hE (key := 50) rfl rfl rfl rfl rfl rfl rfl rfl (.inl rfl) (by simp [encXs_length]; omega) (by simp [encXs_length]; omega) rfl ?_
        refine OW_run' hE.ok 1 rfl ?_
        refine OW_end rfl ?_
        refine CW_region ?_
        refine OW_run' hE.ok 3 rfl ?_
        refine OW_end rfl ?_
        exact ⟨⟨i + 1, by omega⟩, LE_sh (slh_set (v := .d (int ((i + 1 : Nat) : Int))) (slh_set (v := .row 50) (slh_set (v := .d (.iptr (encX (.mk op v al fi ks)))) (slh_set (v := .d (int ((lf : Nat) : Int))) (slh_no _ _) (by rfl) rfl) (by rfl) rfl) (by rfl) rfl) (by show AV.d (.lit (.int .i64 (IntKind.i64.wrap ((i : Int) + 1)))) = _; rw [wrap_succ (by omega)]; rfl) rfl) (hlh_set (hlh_no _ _) (congrArg (fun z => some (Ent.row 64 7 z)) (by rw [nodesXs_snoc _ hk, encXs_eq, encXs_eq, encXs_eq, List.map_cons, List.map_cons, List.map_append]; rfl)) rfl), by show ks.length - (i + 1) < ks.length - i; omega⟩
      · skip
        have hge : ks.length ≤ i := by have := h3; simp [encXs_length] at this; omega
        have hpt := nodes_some (v := v) (al := al) (fi := fi) (ks := ks) (i := i) h0
        rw [List.take_of_length_le hge] at hpt
        refine CW_exit ?_
        show CW _ _ _ _
        refine CW_seq ?_
        refine CW.le (LE_freeze 50 96 rfl (by rw [List.take_of_length_le hge]; simp [encXs_length]; omega)) ?_
        refine CW_region ?_
        refine OW_run' hE.ok 2 rfl ?_
        refine OW_end rfl ?_
        refine CW_ret ?_
        refine ⟨.inr rfl, rfl, ⟨_, rfl, rfl, ?_⟩, rfl⟩
        exact AVle.of (congrArg (fun z => AV.d (.sl 7 96 (encXs z))) (by rw [nodesX_go h0, List.take_of_length_le hge]))

theorem refNodesAll : ∀ (n : Nat) (x : Exp), SizeOf.sizeOf x < n → ∀ l : Nat, l ≤ 20 → (nodesX x (21 - l)).length ≤ 1048576 → Does Try.prog 86 [argX x, .d (int ((l : Nat) : Int))] noHeap (.d (.sl 7 96 (encXs (nodesX x (21 - l)))))
  | 0, x, h => by omega
  | n + 1, .mk op v al fi ks, h => fun l hl hb => refNodesStep op v al fi ks l hl hb fun k hk => refNodesAll n k (by have := List.sizeOf_lt_of_mem hk; simp at h; omega)

theorem refNodesOk (x : Exp) (hb : (nodesX x 1).length ≤ 1048576) : Does Try.prog 49 [argX x] noHeap (.d (.sl 7 96 (encXs (nodesX x 1)))) := by
  refine Does_of T_ok mixed (N := 5) Try.func49 rfl rfl rfl (by rfl) fun F n Z hE hF J => ?_
  have q := refNodesAll _ x (Nat.lt_succ_self _) 20 (Nat.le_refl _) hb
  obtain ⟨o1, v1, c1, f1, k1, rfl⟩ := Exp.shape x
  refine CW_seq ?_
  refine CW_region ?_
  refine OW_run' hE.ok 2 rfl ?_
  refine OW_end rfl ?_
  refine CW_seq ?_
  refine CW_region ?_
  refine OW_run' hE.ok 1 rfl ?_
  refine OW_call' hE (q) rfl rfl rfl rfl rfl rfl rfl ?_
  refine OW_run' hE.ok 1 rfl ?_
  refine OW_end rfl ?_
  refine CW_ret ?_
  refine ⟨.inr rfl, rfl, ⟨_, rfl, rfl, ?_⟩, rfl⟩
  exact AVle.refl _
end Go.Proofs.Ytojnicnbmgiplaa
namespace Go.Proofs.Ytojnicnbmgiplaa
open Go Go.AL
set_option linter.unusedVariables false
set_option linter.unusedSimpArgs false
set_option maxHeartbeats 4000000
theorem refSameStep (op : Int) (v : Vl) (al fi : ByteArray) (ks : List Exp) (o2 : Int) (v2 : Vl) (al2 fi2 : ByteArray) (ks2 : List Exp) (ih : ∀ a ∈ ks, ∀ b, Does Try.prog 76 [argX a, argX b] noHeap (.d (boo (sameX a b)))) : Does Try.prog 76 [argX (.mk op v al fi ks), argX (.mk o2 v2 al2 fi2 ks2)] noHeap (.d (boo (sameX (.mk op v al fi ks) (.mk o2 v2 al2 fi2 ks2)))) := by
  refine Does_of T_ok mixed (N := 60) Try.func76 rfl rfl rfl (by rfl) fun F n Z hE hF J => ?_
  refine CW_seq ?_
  refine CW_region ?_
  refine OW_run' hE.ok 3 rfl ?_
  refine OW_end rfl ?_
  refine CW_seq ?_
  refine CW_seq ?_
  refine CW_region ?_
  refine OW_run' hE.ok 6 rfl ?_
  refine OW_split' 11 rfl (fun h1 => ?_) (fun h1 => ?_)
  · skip
    have g1 : (op == o2) = false := by have := h1; revert this; show (!(op == o2)) = true → _; cases (op == o2) <;> simp
    refine OW_run' hE.ok 29 rfl ?_
    refine OW_end rfl ?_
    refine CW_true rfl ?_
    refine CW_seq ?_
    refine CW_region ?_
    refine OW_run' hE.ok 1 rfl ?_
    refine OW_end rfl ?_
    refine CW_ret ?_
    refine ⟨.inr rfl, rfl, ⟨_, rfl, rfl, ?_⟩, rfl⟩
    exact AVle.of (congrArg (fun b => AV.d (boo b)) (by unfold sameX; rw [g1]; rfl))
  · skip
    have g1 : (op == o2) = true := by have := h1; revert this; show (!(op == o2)) = false → _; cases (op == o2) <;> simp
    refine OW_run' hE.ok 4 rfl ?_
    refine OW_loc' hE (loc_neq rfl rfl rfl (r := sameV v v2) (eqLaw_flat T_ok (t := 61) rfl (by decide +kernel) rfl (X := encV v) (Y := encV v2) rfl rfl rfl)) rfl rfl rfl ?_
    refine OW_run' hE.ok 2 rfl ?_
    refine OW_split' 18 rfl (fun h2 => ?_) (fun h2 => ?_)
    · skip
      have g2 : sameV v v2 = false := by simpa using h2
      refine OW_run' hE.ok 22 rfl ?_
      refine OW_end rfl ?_
      refine CW_true rfl ?_
      refine CW_seq ?_
      refine CW_region ?_
      refine OW_run' hE.ok 1 rfl ?_
      refine OW_end rfl ?_
      refine CW_ret ?_
      refine ⟨.inr rfl, rfl, ⟨_, rfl, rfl, ?_⟩, rfl⟩
      exact AVle.of (congrArg (fun b => AV.d (boo b)) (by unfold sameX; rw [g1, g2]; rfl))
    · skip
      have g2 : sameV v v2 = true := by simpa using h2
      refine OW_run' hE.ok 7 rfl ?_
      refine OW_split' 25 rfl (fun h3 => ?_) (fun h3 => ?_)
      · skip
        have g3 : same al al2 = false := by simpa [same] using h3
        refine OW_run' hE.ok 15 rfl ?_
        refine OW_end rfl ?_
        refine CW_true rfl ?_
        refine CW_seq ?_
        refine CW_region ?_
        refine OW_run' hE.ok 1 rfl ?_
        refine OW_end rfl ?_
        refine CW_ret ?_
        refine ⟨.inr rfl, rfl, ⟨_, rfl, rfl, ?_⟩, rfl⟩
        exact AVle.of (congrArg (fun b => AV.d (boo b)) (by unfold sameX; rw [g1, g2, g3]; rfl))
      · skip
        have g3 : same al al2 = true := by simpa [same] using h3
        refine OW_run' hE.ok 7 rfl ?_
        refine OW_split' 32 rfl (fun h4 => ?_) (fun h4 => ?_)
        · skip
          have g4 : same fi fi2 = false := by simpa [same] using h4
          refine OW_run' hE.ok 8 rfl ?_
          refine OW_end rfl ?_
          refine CW_true rfl ?_
          refine CW_seq ?_
          refine CW_region ?_
          refine OW_run' hE.ok 1 rfl ?_
          refine OW_end rfl ?_
          refine CW_ret ?_
          refine ⟨.inr rfl, rfl, ⟨_, rfl, rfl, ?_⟩, rfl⟩
          exact AVle.of (congrArg (fun b => AV.d (boo b)) (by unfold sameX; rw [g1, g2, g3, g4]; rfl))
        · skip
          have g4 : same fi fi2 = true := by simpa [same] using h4
          refine OW_run' hE.ok 8 rfl ?_
          refine OW_end rfl ?_
          refine CW_cond _ rfl (fun h5 => ?_) (fun h5 => ?_)
          · skip
            have hne : ks.length ≠ ks2.length := by have := h5; simp [encXs_length] at this; omega
            refine CW_seq ?_
            refine CW_region ?_
            refine OW_run' hE.ok 1 rfl ?_
            refine OW_end rfl ?_
            refine CW_ret ?_
            refine ⟨.inr rfl, rfl, ⟨_, rfl, rfl, ?_⟩, rfl⟩
            exact AVle.of (congrArg (fun b => AV.d (boo b)) (by unfold sameX; rw [g1, g2, g3, g4, sameXs_eq, allSame_len hne]; rfl))
          · skip
            have hll : ks.length = ks2.length := by have := h5; simp [encXs_length] at this; omega
            refine CW_skip ?_
            refine CW_seq ?_
            refine CW_seq ?_
            refine CW_region ?_
            refine OW_run' hE.ok 1 rfl ?_
            refine OW_end rfl ?_
            refine CW_block ?_
            refine CW_loop (σ := {i : Nat // i ≤ ks.length ∧ ∀ j a b, j < i → ks[j]? = some a → ks2[j]? = some b → sameX a b = true}) (fun i => ⟨J, (sset (sset (sset noSlots 2 (.d (.iptr (encX (.mk op v al fi ks))))) 3 (.d (.iptr (encX (.mk o2 v2 al2 fi2 ks2))))) 5 (.d (int ((i.1 : Nat) : Int)))), noHeap⟩) (fun i => ks.length - i.1) ⟨0, Nat.zero_le _, fun j a b hj => by omega⟩ (LE_sh (slh_set (slh_set (slh_set (slh_no _ _) rfl rfl) rfl rfl) rfl rfl) (hlh_no _ _)) fun ⟨i, hi, hp⟩ => ?_
            refine CW_seq ?_
            refine CW_seq ?_
            refine CW_region ?_
            refine OW_run' hE.ok 5 rfl ?_
            refine OW_end rfl ?_
            refine CW_cond _ rfl (fun h6 => ?_) (fun h6 => ?_)
            · skip
              refine CW_know (know_sl (d := 43) rfl) fun hlen => ?_
              rw [encXs_length] at hlen
              have hlt : i < ks.length := by have := h6; simp [encXs_length] at this; omega
              obtain ⟨a, ha⟩ : ∃ a, ks[i]? = some a := ⟨_, List.getElem?_eq_getElem hlt⟩
              obtain ⟨b, hb⟩ : ∃ b, ks2[i]? = some b := ⟨_, List.getElem?_eq_getElem (by omega)⟩
              have hI := ih a (List.mem_of_getElem? ha) b
              obtain ⟨o3, v3, c3, f3, k3, rfl⟩ := Exp.shape a
              obtain ⟨o4, v4, c4, f4, k4, rfl⟩ := Exp.shape b
              refine CW_skip ?_
              refine CW_seq ?_
              refine CW_block ?_
              refine CW_seq ?_
              refine CW_drawn' hE 10 (by decide +kernel) ?_
              refine HW_run hE 3 rfl rfl ?_
              refine HW_loc hE (loc_indexAddr hE rfl rfl rfl rfl rfl (by omega) (x := encX (.mk o3 v3 c3 f3 k3)) (encXs_get ha)) rfl rfl rfl rfl ?_
              refine HW_run hE 4 rfl rfl ?_
              refine HW_loc hE (loc_indexAddr hE rfl rfl rfl rfl rfl (by omega) (x := encX (.mk o4 v4 c4 f4 k4)) (encXs_get hb)) rfl rfl rfl rfl ?_
              refine HW_run hE 1 rfl rfl ?_
              refine HW_end ?_
              refine OW_call' hE (hI) rfl rfl rfl rfl rfl rfl rfl ?_
              refine OW_run' hE.ok 1 rfl ?_
              refine OW_end rfl ?_
              refine CW_cond _ rfl (fun h7 => ?_) (fun h7 => ?_)
              · skip
                have hbad : sameX (.mk o3 v3 c3 f3 k3) (.mk o4 v4 c4 f4 k4) = false := by simpa using h7
                refine CW_seq ?_
                refine CW_region ?_
                refine OW_run' hE.ok 1 rfl ?_
                refine OW_end rfl ?_
                refine CW_ret ?_
                refine ⟨.inr rfl, rfl, ⟨_, rfl, rfl, ?_⟩, rfl⟩
                exact AVle.of (congrArg (fun b => AV.d (boo b)) (by unfold sameX; rw [g1, g2, g3, g4, sameXs_eq, allSame_ne ha hb hbad]; rfl))
              · skip
                have hgood : sameX (.mk o3 v3 c3 f3 k3) (.mk o4 v4 c4 f4 k4) = true := by simpa using h7
                refine CW_skip ?_
                refine CW_region ?_
                refine OW_run' hE.ok 3 rfl ?_
                refine OW_end rfl ?_
                refine ⟨⟨i + 1, by omega, fun j x y hj hx hy => ?_⟩, LE_sh (slh_set (v := .d (int ((i + 1 : Nat) : Int))) (slh_set (v := .d (.iptr (encX (.mk o2 v2 al2 fi2 ks2)))) (slh_set (v := .d (.iptr (encX (.mk op v al fi ks)))) (slh_no _ _) (by rfl) rfl) (by rfl) rfl) (by show AV.d (.lit (.int .i64 (IntKind.i64.wrap ((i : Int) + 1)))) = _; rw [wrap_succ (by omega)]; rfl) rfl) (hlh_no _ _), by show ks.length - (i + 1) < ks.length - i; omega⟩
                by_cases hji : j = i
                · subst hji; rw [ha] at hx; rw [hb] at hy; cases hx; cases hy; exact hgood
                · exact hp j x y (by omega) hx hy
            · skip
              have hge : ks.length ≤ i := by have := h6; simp [encXs_length] at this; omega
              refine CW_exit ?_
              show CW _ _ _ _
              refine CW_seq ?_
              refine CW_region ?_
              refine OW_run' hE.ok 1 rfl ?_
              refine OW_end rfl ?_
              refine CW_ret ?_
              refine ⟨.inr rfl, rfl, ⟨_, rfl, rfl, ?_⟩, rfl⟩
              exact AVle.of (congrArg (fun b => AV.d (boo b)) (by unfold sameX; rw [g1, g2, g3, g4, sameXs_eq, allSame_all hll (fun j a b hj => hp j a b (by omega))]; rfl))

theorem refSameAll : ∀ (n : Nat) (x : Exp), SizeOf.sizeOf x < n → ∀ y : Exp, Does Try.prog 76 [argX x, argX y] noHeap (.d (boo (sameX x y)))
  | 0, x, h => by omega
  | n + 1, .mk op v al fi ks, h => fun | .mk o2 v2 al2 fi2 ks2 => refSameStep op v al fi ks o2 v2 al2 fi2 ks2 fun k hk => refSameAll n k (by have := List.sizeOf_lt_of_mem hk; simp at h; omega)
theorem refSameXOk (x y : Exp) : Does Try.prog 76 [argX x, argX y] noHeap (.d (boo (sameX x y))) := refSameAll _ x (Nat.lt_succ_self _) y
end Go.Proofs.Ytojnicnbmgiplaa
namespace Go.Proofs.Ytojnicnbmgiplaa
open Go Go.AL
set_option linter.unusedVariables false
set_option linter.unusedSimpArgs false
set_option maxHeartbeats 4000000
theorem shapedStep (op : Int) (v : Vl) (al fi : ByteArray) (ks : List Exp) (dp : Nat) (ih : ∀ k ∈ ks, ∀ d : Nat, d ≤ 6 → Does Try.prog 107 [argX k, .d (int ((d : Nat) : Int))] noHeap (.d (boo (shapedX k d)))) (hd : dp ≤ 6) : Does Try.prog 107 [argX (.mk op v al fi ks), .d (int ((dp : Nat) : Int))] noHeap (.d (boo (shapedX (.mk op v al fi ks) dp))) := by
  refine Does_of T_ok mixed (N := 84) Try.func107 rfl rfl rfl (by rfl) fun F n Z hE hF J => ?_
  refine CW_seq ?_
  refine CW_region ?_
  refine OW_run' hE.ok 2 rfl ?_
  refine OW_end rfl ?_
  refine CW_seq ?_
  refine CW_seq ?_
  refine CW_drawn' hE 15 (by decide +kernel) ?_
  refine HW_run hE 4 rfl rfl ?_
  refine HW_split 11 rfl (fun h1 => ?_) (fun h1 => ?_)
  · skip
    have g1 : decide (op < 1) = true := h1
    refine HW_run hE 11 rfl rfl ?_
    refine HW_end ?_
    refine OW_run' hE.ok 6 rfl ?_
    refine OW_end rfl ?_
    refine CW_true rfl ?_
    refine CW_seq ?_
    refine CW_region ?_
    refine OW_run' hE.ok 1 rfl ?_
    refine OW_end rfl ?_
    refine CW_ret ?_
    refine ⟨.inr rfl, rfl, ⟨_, rfl, rfl, ?_⟩, rfl⟩
    exact AVle.of (congrArg (fun b => AV.d (boo b)) (by unfold shapedX; rw [g1]; rfl))
  · skip
    have g1 : decide (op < 1) = false := h1
    refine HW_run hE 5 rfl rfl ?_
    refine HW_split 16 rfl (fun h2 => ?_) (fun h2 => ?_)
    · skip
      have g2 : decide (op > 12) = true := h2
      refine HW_run hE 6 rfl rfl ?_
      refine HW_end ?_
      refine OW_run' hE.ok 6 rfl ?_
      refine OW_end rfl ?_
      refine CW_true rfl ?_
      refine CW_seq ?_
      refine CW_region ?_
      refine OW_run' hE.ok 1 rfl ?_
      refine OW_end rfl ?_
      refine CW_ret ?_
      refine ⟨.inr rfl, rfl, ⟨_, rfl, rfl, ?_⟩, rfl⟩
      exact AVle.of (congrArg (fun b => AV.d (boo b)) (by unfold shapedX; rw [g1, g2]; rfl))
    · skip
      have g2 : decide (op > 12) = false := h2
      refine HW_run hE 5 rfl rfl ?_
      refine HW_call hE (refKidsOk _) rfl rfl rfl rfl rfl rfl rfl rfl ?_
      refine HW_end ?_
      refine OW_run' hE.ok 3 rfl ?_
      refine OW_split' 25 rfl (fun h3 => ?_) (fun h3 => ?_)
      · skip
        have g3 : ((ks.length : Int) != kidsN op) = true := by have := h3; rw [show ((encXs ks).length : Int) = ks.length by rw [encXs_length]] at this; exact this
        refine OW_run' hE.ok 3 rfl ?_
        refine OW_end rfl ?_
        refine CW_true rfl ?_
        refine CW_seq ?_
        refine CW_region ?_
        refine OW_run' hE.ok 1 rfl ?_
        refine OW_end rfl ?_
        refine CW_ret ?_
        refine ⟨.inr rfl, rfl, ⟨_, rfl, rfl, ?_⟩, rfl⟩
        exact AVle.of (congrArg (fun b => AV.d (boo b)) (by unfold shapedX; rw [g1, g2, g3]; rfl))
      · skip
        have g3 : ((ks.length : Int) != kidsN op) = false := by have := h3; rw [show ((encXs ks).length : Int) = ks.length by rw [encXs_length]] at this; exact this
        refine OW_run' hE.ok 3 rfl ?_
        refine OW_end rfl ?_
        refine CW_cond _ rfl (fun h4 => ?_) (fun h4 => ?_)
        · skip
          have g4 : decide ((dp : Int) > 5) = true := h4
          refine CW_seq ?_
          refine CW_region ?_
          refine OW_run' hE.ok 1 rfl ?_
          refine OW_end rfl ?_
          refine CW_ret ?_
          refine ⟨.inr rfl, rfl, ⟨_, rfl, rfl, ?_⟩, rfl⟩
          exact AVle.of (congrArg (fun b => AV.d (boo b)) (by unfold shapedX; rw [g1, g2, g3, g4]; rfl))
        · skip
          have g4 : decide ((dp : Int) > 5) = false := h4
          refine CW_skip ?_
          refine CW_cutE (fun _ : Unit => ⟨J, (sset (sset (sset (sset noSlots 1 (.d (int ((dp : Nat) : Int)))) 2 (.d (.iptr (encX (.mk op v al fi ks))))) 5 (.d (boo (sameV v ⟨0, 0, nul⟩)))) 6 (.d (boo (noNames al fi)))), noHeap⟩) (fun _ => True) ?_ ?_
          · skip
            refine CW_drawn' hE 13 (by decide +kernel) ?_
            refine HW_run hE 2 rfl rfl ?_
            refine HW_loc hE (loc_build hE rfl rfl) rfl rfl rfl rfl ?_
            refine HW_loc hE (loc_eql rfl rfl rfl (r := sameV v ⟨0, 0, nul⟩) (eqLaw_flat T_ok (t := 61) rfl (by decide +kernel) rfl (X := encV v) (Y := encV ⟨0, 0, nul⟩) rfl rfl rfl)) rfl rfl rfl rfl ?_
            refine HW_run hE 4 rfl rfl ?_
            refine HW_split 36 rfl (fun h5 => ?_) (fun h5 => ?_)
            · skip
              have g5 : same al nul = true := h5
              refine HW_run hE 5 rfl rfl ?_
              refine HW_end ?_
              refine OW_run' hE.ok 1 rfl ?_
              refine OW_end rfl ?_
              exact ⟨(), trivial, LE_sh (slh_set (v := .d (boo (noNames al fi))) (slh_set (v := .d (boo (sameV v ⟨0, 0, nul⟩))) (slh_set (v := .d (.iptr (encX (.mk op v al fi ks)))) (slh_set (v := .d (int ((dp : Nat) : Int))) (slh_no _ _) (by rfl) rfl) (by rfl) rfl) (by rfl) rfl) (by exact (congrArg (fun b => AV.d (boo b)) (by unfold noNames; rw [g5]; rfl))) rfl) (hlh_no _ _)⟩
            · skip
              have g5 : same al nul = false := h5
              refine HW_run hE 5 rfl rfl ?_
              refine HW_end ?_
              refine OW_run' hE.ok 1 rfl ?_
              refine OW_end rfl ?_
              exact ⟨(), trivial, LE_sh (slh_set (v := .d (boo (noNames al fi))) (slh_set (v := .d (boo (sameV v ⟨0, 0, nul⟩))) (slh_set (v := .d (.iptr (encX (.mk op v al fi ks)))) (slh_set (v := .d (int ((dp : Nat) : Int))) (slh_no _ _) (by rfl) rfl) (by rfl) rfl) (by rfl) rfl) (by exact (congrArg (fun b => AV.d (boo b)) (by unfold noNames; rw [g5]; rfl))) rfl) (hlh_no _ _)⟩
          · skip
            rintro _ _
            refine CW_seq ?_
            refine CW_seq ?_
            refine CW_region ?_
            refine OW_run' hE.ok 2 rfl ?_
            refine OW_end rfl ?_
            refine CW_block ?_
            refine CW_seq ?_
            refine CW_region ?_
            refine OW_run' hE.ok 2 rfl ?_
            refine OW_end rfl ?_
            refine CW_cond _ rfl (fun h6 => ?_) (fun h6 => ?_)
            · skip
              have g6 : (op == 1) = true := h6
              refine CW_seq ?_
              refine CW_region ?_
              refine OW_run' hE.ok 2 rfl ?_
              refine OW_call' hE (refIsValOk _) rfl rfl rfl rfl rfl rfl rfl ?_
              refine OW_run' hE.ok 1 rfl ?_
              refine OW_split' 48 rfl (fun h7 => ?_) (fun h7 => ?_)
              · skip
                have g7 : isVal v = true := h7
                refine OW_run' hE.ok 3 rfl ?_
                refine OW_end rfl ?_
                refine CW_ret ?_
                refine ⟨.inr rfl, rfl, ⟨_, rfl, rfl, ?_⟩, rfl⟩
                exact AVle.of (congrArg (fun b => AV.d (boo b)) (by unfold shapedX; rw [g1, g2, g3, g4, g6, g7]; rfl))
              · skip
                have g7 : isVal v = false := h7
                refine OW_run' hE.ok 3 rfl ?_
                refine OW_end rfl ?_
                refine CW_ret ?_
                refine ⟨.inr rfl, rfl, ⟨_, rfl, rfl, ?_⟩, rfl⟩
                exact AVle.of (congrArg (fun b => AV.d (boo b)) (by unfold shapedX; rw [g1, g2, g3, g4, g6, g7]; rfl))
            · skip
              have g6 : (op == 1) = false := h6
              refine CW_seq ?_
              refine CW_region ?_
              refine OW_run' hE.ok 2 rfl ?_
              refine OW_end rfl ?_
              refine CW_cond _ rfl (fun h8 => ?_) (fun h8 => ?_)
              · skip
                have g8 : (op == 2) = true := h8
                refine CW_seq ?_
                refine CW_region ?_
                refine OW_run' hE.ok 2 rfl ?_
                refine OW_split' 54 rfl (fun h9 => ?_) (fun h9 => ?_)
                · skip
                  have g9 : sameV v ⟨0, 0, nul⟩ = true := h9
                  refine OW_run' hE.ok 2 rfl ?_
                  refine OW_call' hE (refNameOk _) rfl rfl rfl rfl rfl rfl rfl ?_
                  refine OW_run' hE.ok 2 rfl ?_
                  refine OW_split' 59 rfl (fun h10 => ?_) (fun h10 => ?_)
                  · skip
                    have g10 : isName al = true := h10
                    refine OW_run' hE.ok 2 rfl ?_
                    refine OW_call' hE (refNameOk _) rfl rfl rfl rfl rfl rfl rfl ?_
                    refine OW_run' hE.ok 2 rfl ?_
                    refine OW_end rfl ?_
                    refine CW_ret ?_
                    refine ⟨.inr rfl, rfl, ⟨_, rfl, rfl, ?_⟩, rfl⟩
                    exact AVle.of (congrArg (fun b => AV.d (boo b)) (by unfold shapedX; rw [g1, g2, g3, g4, g6, g8, g9, g10]; rfl))
                  · skip
                    have g10 : isName al = false := h10
                    refine OW_run' hE.ok 5 rfl ?_
                    refine OW_end rfl ?_
                    refine CW_ret ?_
                    refine ⟨.inr rfl, rfl, ⟨_, rfl, rfl, ?_⟩, rfl⟩
                    exact AVle.of (congrArg (fun b => AV.d (boo b)) (by unfold shapedX; rw [g1, g2, g3, g4, g6, g8, g9, g10]; rfl))
                · skip
                  have g9 : sameV v ⟨0, 0, nul⟩ = false := h9
                  refine OW_run' hE.ok 10 rfl ?_
                  refine OW_end rfl ?_
                  refine CW_ret ?_
                  refine ⟨.inr rfl, rfl, ⟨_, rfl, rfl, ?_⟩, rfl⟩
                  exact AVle.of (congrArg (fun b => AV.d (boo b)) (by unfold shapedX; rw [g1, g2, g3, g4, g6, g8, g9]; rfl))
              · skip
                have g8 : (op == 2) = false := h8
                refine CW_skip ?_
                refine CW_seq ?_
                refine CW_seq ?_
                refine CW_region ?_
                refine OW_run' hE.ok 1 rfl ?_
                refine OW_end rfl ?_
                refine CW_block ?_
                refine CW_loop (σ := {i : Nat // i ≤ ks.length ∧ ∀ j a, j < i → ks[j]? = some a → shapedX a (dp + 1) = true}) (fun i => ⟨J, (sset (sset (sset (sset (sset noSlots 1 (.d (int ((dp : Nat) : Int)))) 2 (.d (.iptr (encX (.mk op v al fi ks))))) 5 (.d (boo (sameV v ⟨0, 0, nul⟩)))) 6 (.d (boo (noNames al fi)))) 7 (.d (int ((i.1 : Nat) : Int)))), noHeap⟩) (fun i => ks.length - i.1) ⟨0, Nat.zero_le _, fun j a hj => by omega⟩ (LE_sh (slh_set (slh_set (slh_set (slh_set (slh_set (slh_no _ _) rfl rfl) rfl rfl) rfl rfl) rfl rfl) rfl rfl) (hlh_no _ _)) fun ⟨i, hi, hp⟩ => ?_
                have hd5 : dp ≤ 5 := by simp at g4; omega
                refine CW_seq ?_
                refine CW_seq ?_
                refine CW_region ?_
                refine OW_run' hE.ok 5 rfl ?_
                refine OW_end rfl ?_
                refine CW_cond _ rfl (fun h11 => ?_) (fun h11 => ?_)
                · skip
                  refine CW_know (know_sl (d := 66) rfl) fun hlen => ?_
                  rw [encXs_length] at hlen
                  have hlt : i < ks.length := by have := h11; simp [encXs_length] at this; omega
                  obtain ⟨a, ha⟩ : ∃ a, ks[i]? = some a := ⟨_, List.getElem?_eq_getElem hlt⟩
                  have hI := ih a (List.mem_of_getElem? ha) (dp + 1) (by omega)
                  obtain ⟨o3, v3, c3, f3, k3, rfl⟩ := Exp.shape a
                  refine CW_skip ?_
                  refine CW_seq ?_
                  refine CW_block ?_
                  refine CW_seq ?_
                  refine CW_region ?_
                  refine OW_run' hE.ok 3 rfl ?_
                  refine OW_loc' hE (loc_indexAddr hE rfl rfl rfl rfl rfl (by omega) (x := encX (.mk o3 v3 c3 f3 k3)) (encXs_get ha)) rfl rfl rfl ?_
                  refine OW_run' hE.ok 3 rfl ?_
                  refine OW_as' 77 (.d (int ((dp + 1 : Nat) : Int))) (by show AV.d (.lit (.int .i64 (IntKind.i64.wrap ((dp : Int) + 1)))) = _; rw [wrap_succ (by omega)]; rfl) ?_
                  refine OW_call' hE (hI) rfl rfl rfl rfl rfl rfl rfl ?_
                  refine OW_run' hE.ok 1 rfl ?_
                  refine OW_end rfl ?_
                  refine CW_cond _ rfl (fun h12 => ?_) (fun h12 => ?_)
                  · skip
                    have hbad : shapedX (.mk o3 v3 c3 f3 k3) (dp + 1) = false := by simpa using h12
                    refine CW_seq ?_
                    refine CW_region ?_
                    refine OW_run' hE.ok 1 rfl ?_
                    refine OW_end rfl ?_
                    refine CW_ret ?_
                    refine ⟨.inr rfl, rfl, ⟨_, rfl, rfl, ?_⟩, rfl⟩
                    exact AVle.of (congrArg (fun b => AV.d (boo b)) (by unfold shapedX; rw [g1, g2, g3, g4, g6, g8, shapedXs_bad ha hbad]; rfl))
                  · skip
                    have hgood : shapedX (.mk o3 v3 c3 f3 k3) (dp + 1) = true := by simpa using h12
                    refine CW_skip ?_
                    refine CW_region ?_
                    refine OW_run' hE.ok 3 rfl ?_
                    refine OW_end rfl ?_
                    refine ⟨⟨i + 1, by omega, fun j x hj hx => ?_⟩, LE_sh (slh_set (v := .d (int ((i + 1 : Nat) : Int))) (slh_set (v := .d (boo (noNames al fi))) (slh_set (v := .d (boo (sameV v ⟨0, 0, nul⟩))) (slh_set (v := .d (.iptr (encX (.mk op v al fi ks)))) (slh_set (v := .d (int ((dp : Nat) : Int))) (slh_no _ _) (by rfl) rfl) (by rfl) rfl) (by rfl) rfl) (by rfl) rfl) (by show AV.d (.lit (.int .i64 (IntKind.i64.wrap ((i : Int) + 1)))) = _; rw [wrap_succ (by omega)]; rfl) rfl) (hlh_no _ _), by show ks.length - (i + 1) < ks.length - i; omega⟩
                    by_cases hji : j = i
                    · subst hji; rw [ha] at hx; cases hx; exact hgood
                    · exact hp j x (by omega) hx
                · skip
                  have hge : ks.length ≤ i := by have := h11; simp [encXs_length] at this; omega
                  have hall := shapedXs_ok hge hp
                  refine CW_exit ?_
                  show CW _ _ _ _
                  refine CW_seq ?_
                  refine CW_region ?_
                  refine OW_run' hE.ok 2 rfl ?_
                  refine OW_split' 81 rfl (fun h13 => ?_) (fun h13 => ?_)
                  · skip
                    have g9 : sameV v ⟨0, 0, nul⟩ = true := h13
                    refine OW_run' hE.ok 3 rfl ?_
                    refine OW_end rfl ?_
                    refine CW_ret ?_
                    refine ⟨.inr rfl, rfl, ⟨_, rfl, rfl, ?_⟩, rfl⟩
                    exact AVle.of (congrArg (fun b => AV.d (boo b)) (by unfold shapedX; rw [g1, g2, g3, g4, g6, g8, hall, g9]; rfl))
                  · skip
                    have g9 : sameV v ⟨0, 0, nul⟩ = false := h13
                    refine OW_run' hE.ok 3 rfl ?_
                    refine OW_end rfl ?_
                    refine CW_ret ?_
                    refine ⟨.inr rfl, rfl, ⟨_, rfl, rfl, ?_⟩, rfl⟩
                    exact AVle.of (congrArg (fun b => AV.d (boo b)) (by unfold shapedX; rw [g1, g2, g3, g4, g6, g8, hall, g9]; rfl))

theorem shapedAll : ∀ (n : Nat) (x : Exp), SizeOf.sizeOf x < n → ∀ d : Nat, d ≤ 6 → Does Try.prog 107 [argX x, .d (int ((d : Nat) : Int))] noHeap (.d (boo (shapedX x d)))
  | 0, x, h => by omega
  | n + 1, .mk op v al fi ks, h => fun d hd => shapedStep op v al fi ks d (fun k hk => shapedAll n k (by have := List.sizeOf_lt_of_mem hk; simp at h; omega)) hd

theorem refIsXOk0 (x : Exp) : Does Try.prog 77 [argX x] noHeap (.d (boo (isExpr x))) := by
  refine Does_of T_ok mixed (N := 11) Try.func77 rfl rfl rfl (by rfl) fun F n Z hE hF J => ?_
  have q := shapedAll _ x (Nat.lt_succ_self _) 1 (by omega)
  have q2 := fun h => refNodesOk x (shaped_1000 h)
  obtain ⟨o1, v1, c1, f1, k1, rfl⟩ := Exp.shape x
  refine CW_seq ?_
  refine CW_region ?_
  refine OW_run' hE.ok 2 rfl ?_
  refine OW_end rfl ?_
  refine CW_seq ?_
  refine CW_region ?_
  refine OW_run' hE.ok 1 rfl ?_
  refine OW_call' hE (q) rfl rfl rfl rfl rfl rfl rfl ?_
  refine OW_run' hE.ok 1 rfl ?_
  refine OW_split' 5 rfl (fun h1 => ?_) (fun h1 => ?_)
  · skip
    have g1 : shapedX (.mk o1 v1 c1 f1 k1) 1 = true := h1
    refine OW_run' hE.ok 1 rfl ?_
    refine OW_call' hE (q2 g1) rfl rfl rfl rfl rfl rfl rfl ?_
    refine OW_run' hE.ok 4 rfl ?_
    refine OW_end rfl ?_
    refine CW_ret ?_
    refine ⟨.inr rfl, rfl, ⟨_, rfl, rfl, ?_⟩, rfl⟩
    exact AVle.of (congrArg (fun b => AV.d (boo b)) (by unfold isExpr; rw [g1, Bool.true_and]; exact congrArg (fun z => decide ((z : Int) ≤ 24)) (congrArg Int.ofNat (encXs_length _)) |>.trans (by simp; try omega)))
  · skip
    have g1 : shapedX (.mk o1 v1 c1 f1 k1) 1 = false := h1
    refine OW_run' hE.ok 6 rfl ?_
    refine OW_end rfl ?_
    refine CW_ret ?_
    refine ⟨.inr rfl, rfl, ⟨_, rfl, rfl, ?_⟩, rfl⟩
    exact AVle.of (congrArg (fun b => AV.d (boo b)) (by unfold isExpr; rw [g1]; rfl))

theorem refIsXOk (x : Exp) : Does Try.prog 77 [argX x] noHeap (.d (boo (isX x))) := by have := refIsXOk0 x; rwa [isExpr_eq] at this
end Go.Proofs.Ytojnicnbmgiplaa
