/- Parts of an abstract logic over the kit's walks, and walks in it: R9h0, R9qr, R9hs, R9kn. -/
import Derived.Test.YtaghhofbaoaajaaRxa
import Derived.Test.YtaghhofbaoaajaaDe
import Derived.Test.YtaghhofbaoaajaaAf
import Derived.Test.YtaghhofbaoaajaaNrm
import Derived.Test.YtaghhofbaoaajaaMe
import Derived.Test.YtaghhofbaoaajaaRxd
import Derived.Test.YtaghhofbaoaajaaAg
namespace Go.Proofs.Ytaghhofbaoaajaa
open Go Go.AL
set_option linter.unusedVariables false
set_option linter.unusedSimpArgs false
set_option maxHeartbeats 4000000
theorem baseOk  : Does Try.prog 11 [] noHeap (argS bS) := by
  refine Does_of T_ok mixed (N := 11) Try.func11 rfl rfl rfl (by rfl) fun F n Z hE hF J => ?_
  refine CW_seq ?_
  refine CW_region ?_
  refine OW_alloc' hE 1 rfl rfl rfl rfl rfl rfl rfl ?_
  refine OW_end rfl ?_
  refine CW_seq ?_
  refine CW_region ?_
  refine OW_build' hE rfl rfl rfl rfl rfl ?_
  refine OW_build' hE rfl rfl rfl rfl rfl ?_
  refine OW_build' hE rfl rfl rfl rfl rfl ?_
  refine OW_lits' hE rfl rfl rfl rfl rfl rfl rfl rfl rfl rfl rfl rfl ?_
  refine OW_build' hE rfl rfl rfl rfl rfl ?_
  refine OW_build' hE rfl rfl rfl rfl rfl ?_
  refine OW_lits' hE rfl rfl rfl rfl rfl rfl rfl rfl rfl rfl rfl rfl ?_
  refine OW_build' hE rfl rfl rfl rfl rfl ?_
  refine OW_lits' hE rfl rfl rfl rfl rfl rfl rfl rfl rfl rfl rfl rfl ?_
  refine OW_build' hE rfl rfl rfl rfl rfl ?_
  refine OW_store' hE rfl rfl rfl rfl rfl rfl rfl rfl rfl rfl rfl rfl ?_
  refine OW_end rfl ?_
  refine CW_ret ?_
  refine ⟨.inr rfl, rfl, ⟨_, rfl, rfl, ?_⟩, rfl⟩
  exact AVle.refl _

theorem elOf (a t : ByteArray) : Does Try.prog 8 [.d (str a), .d (str t)] noHeap (argL ⟨a, [t], false, false, zeroX⟩) := by
  refine Does_of T_ok mixed (N := 9) Try.func8 rfl rfl rfl (by rfl) fun F n Z hE hF J => ?_
  refine CW_seq ?_
  refine CW_region ?_
  refine OW_alloc' hE 1 rfl rfl rfl rfl rfl rfl rfl ?_
  refine OW_end rfl ?_
  refine CW_seq ?_
  refine CW_region ?_
  refine OW_run' hE.ok 2 rfl ?_
  refine OW_lits' hE rfl rfl rfl rfl rfl rfl rfl rfl rfl rfl rfl rfl ?_
  refine OW_build' hE rfl rfl rfl rfl rfl ?_
  refine OW_store' hE rfl rfl rfl rfl rfl rfl rfl rfl rfl rfl rfl rfl ?_
  refine OW_end rfl ?_
  refine CW_ret ?_
  refine ⟨.inr rfl, rfl, ⟨_, rfl, rfl, ?_⟩, rfl⟩
  exact AVle.agg (.cons (.refl _) (.cons (.refl _) (.cons (.refl _) (.cons (.refl _) (.cons (.refl _) (.cons (.refl _) (.cons (.refl _) (.cons (.refl _) (.cons (.refl _) (.cons (.refl _) (.cons (.nilSl 7 96) .nil)))))))))))

theorem evOf (ts n : Int) : Does Try.prog 6 [.d (str (ch 116)), .d (int ts), .d (int n)] noHeap (argE (evT ts n)) := by
  refine Does_of T_ok mixed (N := 21) Try.func6 rfl rfl rfl (by rfl) fun F n Z hE hF J => ?_
  refine CW_seq ?_
  refine CW_region ?_
  refine OW_alloc' hE 1 rfl rfl rfl rfl rfl rfl rfl ?_
  refine OW_end rfl ?_
  refine CW_seq ?_
  refine CW_seq ?_
  refine CW_region ?_
  refine OW_run' hE.ok 2 rfl ?_
  refine OW_as' 8 (.d (boo false)) (by show AV.d (.lit (.bool ((ch 116).toList == (⟨#[117]⟩ : ByteArray).toList))) = _; rw [show ((ch 116).toList == (⟨#[117]⟩ : ByteArray).toList) = false by decide +kernel]; rfl) ?_
  refine OW_end rfl ?_
  refine CW_false rfl ?_
  refine CW_skip ?_
  refine CW_seq ?_
  refine CW_region ?_
  refine OW_run' hE.ok 1 rfl ?_
  refine OW_build' hE rfl rfl rfl rfl rfl ?_
  refine OW_run' hE.ok 1 rfl ?_
  refine OW_build' hE rfl rfl rfl rfl rfl ?_
  refine OW_build' hE rfl rfl rfl rfl rfl ?_
  refine OW_lits' hE rfl rfl rfl rfl rfl rfl rfl rfl rfl rfl rfl rfl ?_
  refine OW_build' hE rfl rfl rfl rfl rfl ?_
  refine OW_store' hE rfl rfl rfl rfl rfl rfl rfl rfl rfl rfl rfl rfl ?_
  refine OW_end rfl ?_
  refine CW_ret ?_
  refine ⟨.inr rfl, rfl, ⟨_, rfl, rfl, ?_⟩, rfl⟩
  exact AVle.refl _
end Go.Proofs.Ytaghhofbaoaajaa
namespace Go.Proofs.Ytaghhofbaoaajaa
open Go Go.AL
set_option linter.unusedVariables false
set_option linter.unusedSimpArgs false
set_option maxHeartbeats 4000000
theorem plainOk (s : ByteArray) : Does Try.prog 46 [.d (str s)] noHeap (.d (boo (isText s))) := by
  refine Does_of T_ok mixed (N := 23) Try.func46 rfl rfl rfl (by rfl) fun F n Z hE hF J => ?_
  refine CW_know (know_str (d := 0) rfl) fun hlen => ?_
  refine CW_seq ?_
  refine CW_region ?_
  refine OW_run' hE.ok 1 rfl ?_
  refine OW_end rfl ?_
  refine CW_seq ?_
  refine CW_seq ?_
  refine CW_region ?_
  refine OW_run' hE.ok 1 rfl ?_
  refine OW_end rfl ?_
  refine CW_block ?_
  refine CW_loop (σ := {i : Nat // i ≤ s.size ∧ ∀ j c, j < i → s.data.toList[j]? = some c → shownC c = true})
    (fun i => ⟨J, (sset (sset noSlots 0 (.d (str s))) 3 (.d (.lit (.int .i64 i.1)))), noHeap⟩) (fun i => s.size - i.1) ⟨0, Nat.zero_le _, by omega⟩ (LE_s (sle_set (sle_set (sle_no _) rfl) rfl)) fun ⟨i, hi, hp⟩ => ?_
  refine CW_seq ?_
  refine CW_seq ?_
  refine CW_region ?_
  refine OW_run' hE.ok 4 rfl ?_
  refine OW_end rfl ?_
  refine CW_cond _ rfl (fun h1 => ?_) (fun h1 => ?_)
  · skip
    have hlt : i < s.size := by have := h1; simp at this; omega
    obtain ⟨c, ha⟩ : ∃ c, s.data.toList[i]? = some c := ⟨_, List.getElem?_eq_getElem (by simpa using hlt)⟩
    refine CW_skip ?_
    refine CW_seq ?_
    refine CW_block ?_
    refine CW_seq ?_
    refine CW_region ?_
    refine OW_run' hE.ok 2 rfl ?_
    refine OW_loc' hE (loc_index hE rfl rfl rfl rfl (by omega) (by simpa using ha)) rfl rfl rfl ?_
    refine OW_run' hE.ok 2 rfl ?_
    refine OW_split' 14 rfl (fun h2 => ?_) (fun h2 => ?_)
    · skip
      have hbad : shownC c = false := shown_lo h2
      refine OW_run' hE.ok 5 rfl ?_
      refine OW_end rfl ?_
      refine CW_true rfl ?_
      refine CW_seq ?_
      refine CW_region ?_
      refine OW_run' hE.ok 1 rfl ?_
      refine OW_end rfl ?_
      refine CW_ret ?_
      refine ⟨.inr rfl, rfl, ⟨_, rfl, rfl, ?_⟩, rfl⟩
      exact AVle.of (congrArg (fun b => AV.d (boo b)) (by rw [isText_bad ha hbad]))
    · skip
      refine OW_run' hE.ok 2 rfl ?_
      refine OW_loc' hE (loc_index hE rfl rfl rfl rfl (by omega) (by simpa using ha)) rfl rfl rfl ?_
      refine OW_run' hE.ok 2 rfl ?_
      refine OW_end rfl ?_
      refine CW_cond _ rfl (fun h3 => ?_) (fun h3 => ?_)
      · skip
        have hbad : shownC c = false := shown_hi h3
        refine CW_seq ?_
        refine CW_region ?_
        refine OW_run' hE.ok 1 rfl ?_
        refine OW_end rfl ?_
        refine CW_ret ?_
        refine ⟨.inr rfl, rfl, ⟨_, rfl, rfl, ?_⟩, rfl⟩
        exact AVle.of (congrArg (fun b => AV.d (boo b)) (by rw [isText_bad ha hbad]))
      · skip
        have hgood : shownC c = true := shown_ok h2 h3
        refine CW_skip ?_
        refine CW_region ?_
        refine OW_run' hE.ok 3 rfl ?_
        refine OW_end rfl ?_
        refine ⟨⟨i + 1, hlt, fun j x hj hx => ?_⟩, LE_s (sle_set (sle_set (sle_no _) rfl) (by show AV.d (.lit (.int .i64 (IntKind.i64.wrap (↑i + 1)))) = _; rw [wrap_succ (by omega)])), by show s.size - (i + 1) < s.size - i; omega⟩
        by_cases hji : j = i
        · subst hji; rw [ha] at hx; cases hx; exact hgood
        · exact hp j x (by omega) hx
  · skip
    have hge : ¬ i < s.size := by have := h1; simp at this; omega
    have hall := allShown hi hge hp
    refine CW_exit ?_
    show CW _ _ _ _
    refine CW_seq ?_
    refine CW_region ?_
    refine OW_run' hE.ok 4 rfl ?_
    refine OW_end rfl ?_
    refine CW_ret ?_
    refine ⟨.inr rfl, rfl, ⟨_, rfl, rfl, ?_⟩, rfl⟩
    exact AVle.of (congrArg (fun b => AV.d (boo b)) (by rw [text_end hall]))

theorem refIsValOk (v : Vl) : Does Try.prog 33 [argV v] noHeap (.d (boo (isVal v))) := by
  refine Does_of T_ok mixed (N := 35) Try.func33 rfl rfl rfl (by rfl) fun F n Z hE hF J => ?_
  refine CW_seq ?_
  refine CW_region ?_
  refine OW_run' hE.ok 2 rfl ?_
  refine OW_end rfl ?_
  refine CW_seq ?_
  refine CW_seq ?_
  refine CW_region ?_
  refine OW_run' hE.ok 2 rfl ?_
  refine OW_end rfl ?_
  refine CW_block ?_
  refine CW_seq ?_
  refine CW_region ?_
  refine OW_run' hE.ok 2 rfl ?_
  refine OW_end rfl ?_
  refine CW_cond _ rfl (fun h1 => ?_) (fun h1 => ?_)
  · skip
    refine CW_seq ?_
    refine CW_region ?_
    refine OW_run' hE.ok 4 rfl ?_
    refine OW_end rfl ?_
    refine CW_ret ?_
    refine ⟨.inr rfl, rfl, ⟨_, rfl, rfl, ?_⟩, rfl⟩
    exact AVle.of (congrArg (fun b => AV.d (boo b)) (by simp_all [isVal, same, nul]))
  · skip
    refine CW_seq ?_
    refine CW_region ?_
    refine OW_run' hE.ok 2 rfl ?_
    refine OW_end rfl ?_
    refine CW_cond _ rfl (fun h2 => ?_) (fun h2 => ?_)
    · skip
      refine CW_seq ?_
      refine CW_region ?_
      refine OW_run' hE.ok 4 rfl ?_
      refine OW_split' 15 rfl (fun h3 => ?_) (fun h3 => ?_)
      · skip
        refine OW_run' hE.ok 2 rfl ?_
        refine OW_call' hE (plainOk _) rfl rfl rfl rfl rfl rfl rfl ?_
        refine OW_run' hE.ok 2 rfl ?_
        refine OW_end rfl ?_
        refine CW_ret ?_
        refine ⟨.inr rfl, rfl, ⟨_, rfl, rfl, ?_⟩, rfl⟩
        exact AVle.of (congrArg (fun b => AV.d (boo b)) (by simp_all [isVal, same, nul]))
      · skip
        refine OW_run' hE.ok 5 rfl ?_
        refine OW_end rfl ?_
        refine CW_ret ?_
        refine ⟨.inr rfl, rfl, ⟨_, rfl, rfl, ?_⟩, rfl⟩
        exact AVle.of (congrArg (fun b => AV.d (boo b)) (by simp_all [isVal, same, nul]))
    · skip
      refine CW_seq ?_
      refine CW_region ?_
      refine OW_run' hE.ok 2 rfl ?_
      refine OW_end rfl ?_
      refine CW_cond _ rfl (fun h4 => ?_) (fun h4 => ?_)
      · skip
        refine CW_seq ?_
        refine CW_region ?_
        refine OW_run' hE.ok 4 rfl ?_
        refine OW_split' 25 rfl (fun h5 => ?_) (fun h5 => ?_)
        · skip
          refine OW_run' hE.ok 10 rfl ?_
          refine OW_end rfl ?_
          refine CW_ret ?_
          refine ⟨.inr rfl, rfl, ⟨_, rfl, rfl, ?_⟩, rfl⟩
          exact AVle.of (congrArg (fun b => AV.d (boo b)) (by simp_all [isVal, same, nul]))
        · skip
          refine OW_run' hE.ok 5 rfl ?_
          refine OW_split' 30 rfl (fun h6 => ?_) (fun h6 => ?_)
          · skip
            refine OW_run' hE.ok 5 rfl ?_
            refine OW_end rfl ?_
            refine CW_ret ?_
            refine ⟨.inr rfl, rfl, ⟨_, rfl, rfl, ?_⟩, rfl⟩
            exact AVle.of (congrArg (fun b => AV.d (boo b)) (by simp_all [isVal, same, nul]))
          · skip
            refine OW_run' hE.ok 5 rfl ?_
            refine OW_end rfl ?_
            refine CW_ret ?_
            refine ⟨.inr rfl, rfl, ⟨_, rfl, rfl, ?_⟩, rfl⟩
            exact AVle.of (congrArg (fun b => AV.d (boo b)) (by simp_all [isVal, same, nul]))
      · skip
        refine CW_skip ?_
        refine CW_seq ?_
        refine CW_region ?_
        refine OW_run' hE.ok 1 rfl ?_
        refine OW_end rfl ?_
        refine CW_ret ?_
        refine ⟨.inr rfl, rfl, ⟨_, rfl, rfl, ?_⟩, rfl⟩
        exact AVle.of (congrArg (fun b => AV.d (boo b)) (by simp_all [isVal, same, nul]))

theorem refFindOk (s : List Ty) (nm : ByteArray) : Does Try.prog 32 [argS s, .d (str nm)] noHeap (.tup [argT (findT s nm).1, .d (boo (findT s nm).2)]) := by
  refine Does_of T_ok mixed (N := 28) Try.func32 rfl rfl rfl (by rfl) fun F n Z hE hF J => ?_
  refine CW_seq ?_
  refine CW_region ?_
  refine OW_run' hE.ok 1 rfl ?_
  refine OW_alloc' hE 1 rfl rfl rfl rfl rfl rfl rfl ?_
  refine OW_run' hE.ok 1 rfl ?_
  refine OW_end rfl ?_
  refine CW_seq ?_
  refine CW_seq ?_
  refine CW_region ?_
  refine OW_run' hE.ok 1 rfl ?_
  refine OW_end rfl ?_
  refine CW_block ?_
  refine CW_loop (σ := {i : Nat // i ≤ s.length ∧ ∀ (j : Nat) (a : Ty), j < i → s[j]? = some a → same a.name nm = false}) (fun i => ⟨J, (sset (sset (sset (sset noSlots 1 (.d (str nm))) 2 (.d (.iptr [encS s]))) 4 (.ptr 1 0)) 6 (.d (int ((i.1 : Nat) : Int)))), (hset noHeap 1 (some (.box 82 [.d (str nul), .d (.lit (.slice none 0 0))])))⟩) (fun i => s.length - i.1) ⟨0, Nat.zero_le _, fun j a hj => by omega⟩ (LE_sh (slh_set (slh_set (slh_set (slh_set (slh_no _ _) rfl rfl) rfl rfl) rfl rfl) rfl rfl) (hlh_set (hlh_no _ _) rfl rfl)) fun ⟨i, hi, hp⟩ => ?_
  refine CW_seq ?_
  refine CW_seq ?_
  refine CW_region ?_
  refine OW_run' hE.ok 5 rfl ?_
  refine OW_end rfl ?_
  refine CW_cond _ rfl (fun h1 => ?_) (fun h1 => ?_)
  · skip
    refine CW_know (know_sl (d := 9) rfl) fun hlen => ?_
    rw [List.length_map] at hlen
    have hlt : i < s.length := by have := h1; simp at this; omega
    obtain ⟨a, ha⟩ : ∃ a, s[i]? = some a := ⟨_, List.getElem?_eq_getElem hlt⟩
    refine CW_skip ?_
    refine CW_seq ?_
    refine CW_block ?_
    refine CW_seq ?_
    refine CW_region ?_
    refine OW_run' hE.ok 3 rfl ?_
    refine OW_loc' hE (loc_indexAddr hE rfl rfl rfl rfl rfl (by omega) (x := encT a) (by simp [ha])) rfl rfl rfl ?_
    refine OW_run' hE.ok 4 rfl ?_
    refine OW_end rfl ?_
    refine CW_cond _ rfl (fun h2 => ?_) (fun h2 => ?_)
    · skip
      have hyes : same a.name nm = true := h2
      refine CW_seq ?_
      refine CW_region ?_
      refine OW_run' hE.ok 3 rfl ?_
      refine OW_loc' hE (loc_indexAddr hE rfl rfl rfl rfl rfl (by omega) (x := encT a) (by simp [ha])) rfl rfl rfl ?_
      refine OW_run' hE.ok 1 rfl ?_
      refine OW_store' hE rfl rfl rfl rfl rfl rfl rfl rfl rfl rfl rfl rfl ?_
      refine OW_run' hE.ok 1 rfl ?_
      refine OW_end rfl ?_
      refine CW_ret ?_
      refine ⟨.inr rfl, rfl, ⟨_, rfl, rfl, ?_⟩, rfl⟩
      rw [findT_at ha hyes hp]
      exact AVle.refl _
    · skip
      have hno : same a.name nm = false := h2
      refine CW_skip ?_
      refine CW_region ?_
      refine OW_run' hE.ok 3 rfl ?_
      refine OW_end rfl ?_
      refine ⟨⟨i + 1, by omega, fun j x hj hx => ?_⟩, LE_sh (slh_set (v := .d (int ((i + 1 : Nat) : Int))) (slh_set (v := .ptr 1 0) (slh_set (v := .d (.iptr [encS s])) (slh_set (v := .d (str nm)) (slh_no _ _) (by rfl) rfl) (by rfl) rfl) (by rfl) rfl) (by show AV.d (.lit (.int .i64 (IntKind.i64.wrap ((i : Int) + 1)))) = _; rw [wrap_succ (by omega)]; rfl) rfl) (hlh_set (hlh_no _ _) rfl rfl), by show s.length - (i + 1) < s.length - i; omega⟩
      by_cases hji : j = i
      · subst hji; rw [ha] at hx; cases hx; exact hno
      · exact hp j x (by omega) hx
  · skip
    have hge : s.length ≤ i := by have := h1; simp at this; omega
    refine CW_exit ?_
    show CW _ _ _ _
    refine CW_seq ?_
    refine CW_region ?_
    refine OW_build' hE rfl rfl rfl rfl rfl ?_
    refine OW_store' hE rfl rfl rfl rfl rfl rfl rfl rfl rfl rfl rfl rfl ?_
    refine OW_run' hE.ok 1 rfl ?_
    refine OW_end rfl ?_
    refine CW_ret ?_
    refine ⟨.inr rfl, rfl, ⟨_, rfl, rfl, ?_⟩, rfl⟩
    rw [findT_no (fun j b hj hb => hp j b (by omega) hb)]
    exact AVle.tup (.cons (.agg (.cons (.refl _) (.cons (.nilSl 2 24) .nil))) (.cons (.refl _) .nil))

theorem refIsEOk (s : List Ty) (e : Ev) : Does Try.prog 17 [argS s, argE e] noHeap (.d (int (evtR s e))) := by
  refine Does_of T_ok mixed (N := 69) Try.func17 rfl rfl rfl (by rfl) fun F n Z hE hF J => ?_
  refine CW_seq ?_
  refine CW_region ?_
  refine OW_run' hE.ok 3 rfl ?_
  refine OW_end rfl ?_
  refine CW_seq ?_
  refine CW_region ?_
  refine OW_run' hE.ok 3 rfl ?_
  refine OW_call' hE (refFindOk _ _) rfl rfl rfl rfl rfl rfl rfl ?_
  refine OW_run' hE.ok 3 rfl ?_
  refine OW_alloc' hE 1 rfl rfl rfl rfl rfl rfl rfl ?_
  refine OW_store' hE rfl rfl rfl rfl rfl rfl rfl rfl rfl rfl rfl rfl ?_
  refine OW_run' hE.ok 1 rfl ?_
  refine OW_end rfl ?_
  refine CW_seq ?_
  refine CW_seq ?_
  refine CW_region ?_
  refine OW_run' hE.ok 2 rfl ?_
  refine OW_end rfl ?_
  refine CW_cond _ rfl (fun h1 => ?_) (fun h1 => ?_)
  · skip
    have g0 : (findT s e.ty).2 = false := by have := h1; simpa using this
    refine CW_seq ?_
    refine CW_region ?_
    refine OW_run' hE.ok 1 rfl ?_
    refine OW_end rfl ?_
    refine CW_ret ?_
    refine ⟨.inr rfl, rfl, ⟨_, rfl, rfl, ?_⟩, rfl⟩
    exact AVle.of (congrArg (fun b => AV.d (int b)) (by rw [evt_none g0]))
  · skip
    have g0 : (findT s e.ty).2 = true := by have := h1; simpa using this
    refine CW_skip ?_
    refine CW_seq ?_
    refine CW_seq ?_
    refine CW_region ?_
    refine OW_run' hE.ok 4 rfl ?_
    refine OW_split' 21 rfl (fun h2 => ?_) (fun h2 => ?_)
    · skip
      have g1 : decide (e.ts < 0) = true := h2
      refine OW_run' hE.ok 13 rfl ?_
      refine OW_end rfl ?_
      refine CW_true rfl ?_
      refine CW_seq ?_
      refine CW_region ?_
      refine OW_run' hE.ok 1 rfl ?_
      refine OW_end rfl ?_
      refine CW_ret ?_
      refine ⟨.inr rfl, rfl, ⟨_, rfl, rfl, ?_⟩, rfl⟩
      exact AVle.of (congrArg (fun b => AV.d (int b)) (by rw [evt_form g0 (by rw [g1]; rfl)]))
    · skip
      have g1 : decide (e.ts < 0) = false := h2
      refine OW_run' hE.ok 5 rfl ?_
      refine OW_split' 26 rfl (fun h3 => ?_) (fun h3 => ?_)
      · skip
        have g2 : decide (e.ts > 1073741824) = true := h3
        refine OW_run' hE.ok 8 rfl ?_
        refine OW_end rfl ?_
        refine CW_true rfl ?_
        refine CW_seq ?_
        refine CW_region ?_
        refine OW_run' hE.ok 1 rfl ?_
        refine OW_end rfl ?_
        refine CW_ret ?_
        refine ⟨.inr rfl, rfl, ⟨_, rfl, rfl, ?_⟩, rfl⟩
        exact AVle.of (congrArg (fun b => AV.d (int b)) (by rw [evt_form g0 (by rw [g1, g2]; rfl)]))
      · skip
        have g2 : decide (e.ts > 1073741824) = false := h3
        refine OW_run' hE.ok 8 rfl ?_
        refine OW_end rfl ?_
        refine CW_cond _ rfl (fun h4 => ?_) (fun h4 => ?_)
        · skip
          have hf : (decide (e.ts < 0) || (decide (e.ts > 1073741824) || ((e.vals.length : Int) != ((findT s e.ty).1.fields.length : Int)))) = true := by rw [g1, g2, show ((e.vals.length : Int) != ((findT s e.ty).1.fields.length : Int)) = true by have := h4; rw [List.length_map, List.length_map] at this; exact this]; rfl
          refine CW_seq ?_
          refine CW_region ?_
          refine OW_run' hE.ok 1 rfl ?_
          refine OW_end rfl ?_
          refine CW_ret ?_
          refine ⟨.inr rfl, rfl, ⟨_, rfl, rfl, ?_⟩, rfl⟩
          exact AVle.of (congrArg (fun b => AV.d (int b)) (by rw [evt_form g0 hf]))
        · skip
          have g3 : ((e.vals.length : Int) != ((findT s e.ty).1.fields.length : Int)) = false := by have := h4; rw [List.length_map, List.length_map] at this; exact this
          have hf : (decide (e.ts < 0) || (decide (e.ts > 1073741824) || ((e.vals.length : Int) != ((findT s e.ty).1.fields.length : Int)))) = false := by rw [g1, g2, g3]; rfl
          have hvl : e.vals.length = (findT s e.ty).1.fields.length := by have := g3; simp at this; omega
          refine CW_skip ?_
          refine CW_seq ?_
          refine CW_seq ?_
          refine CW_region ?_
          refine OW_run' hE.ok 1 rfl ?_
          refine OW_end rfl ?_
          refine CW_block ?_
          refine CW_loop (σ := {i : Nat // i ≤ e.vals.length ∧ ∀ (j : Nat) (a : Vl), j < i → e.vals[j]? = some a → isVal a = true}) (fun i => ⟨J, (sset (sset (sset noSlots 3 (.d (.iptr (encE e)))) 5 (.ptr 1 0)) 7 (.d (int ((i.1 : Nat) : Int)))), (hset noHeap 1 (some (.box 82 ((encT (findT s e.ty).1).map .d))))⟩) (fun i => e.vals.length - i.1) ⟨0, Nat.zero_le _, fun j a hj => by omega⟩ (LE_sh (slh_set (slh_set (slh_set (slh_no _ _) rfl rfl) rfl rfl) rfl rfl) (hlh_set (hlh_no _ _) rfl rfl)) fun ⟨i, hi, hp⟩ => ?_
          refine CW_seq ?_
          refine CW_seq ?_
          refine CW_region ?_
          refine OW_run' hE.ok 5 rfl ?_
          refine OW_end rfl ?_
          refine CW_cond _ rfl (fun h5 => ?_) (fun h5 => ?_)
          · skip
            refine CW_know (know_sl (d := 37) rfl) fun hlen => ?_
            simp only [List.length_map] at hlen
            have hlt : i < e.vals.length := by have := h5; simp at this; omega
            obtain ⟨v, hv⟩ : ∃ v, e.vals[i]? = some v := ⟨_, List.getElem?_eq_getElem hlt⟩
            refine CW_skip ?_
            refine CW_seq ?_
            refine CW_block ?_
            refine CW_seq ?_
            refine CW_region ?_
            refine OW_run' hE.ok 3 rfl ?_
            refine OW_loc' hE (loc_indexAddr hE rfl rfl rfl rfl rfl (by omega) (x := encV v) (by simp [hv])) rfl rfl rfl ?_
            refine OW_run' hE.ok 1 rfl ?_
            refine OW_call' hE (refIsValOk v) rfl rfl rfl rfl rfl rfl rfl ?_
            refine OW_run' hE.ok 1 rfl ?_
            refine OW_end rfl ?_
            refine CW_cond _ rfl (fun h6 => ?_) (fun h6 => ?_)
            · skip
              have gv : isVal v = false := by have := h6; simpa using this
              refine CW_seq ?_
              refine CW_region ?_
              refine OW_run' hE.ok 1 rfl ?_
              refine OW_end rfl ?_
              refine CW_ret ?_
              refine ⟨.inr rfl, rfl, ⟨_, rfl, rfl, ?_⟩, rfl⟩
              exact AVle.of (congrArg (fun b => AV.d (int b)) (by rw [evt_val g0 hf hv gv]))
            · skip
              have gv : isVal v = true := by have := h6; simpa using this
              refine CW_skip ?_
              refine CW_region ?_
              refine OW_run' hE.ok 3 rfl ?_
              refine OW_end rfl ?_
              refine ⟨⟨i + 1, by omega, fun j x hj hx => ?_⟩, LE_sh (slh_set (v := .d (int ((i + 1 : Nat) : Int))) (slh_set (v := .ptr 1 0) (slh_set (v := .d (.iptr (encE e))) (slh_no _ _) (by rfl) rfl) (by rfl) rfl) (by show AV.d (.lit (.int .i64 (IntKind.i64.wrap ((i : Int) + 1)))) = _; rw [wrap_succ (by omega)]; rfl) rfl) (hlh_set (hlh_no _ _) rfl rfl), by show e.vals.length - (i + 1) < e.vals.length - i; omega⟩
              by_cases hji : j = i
              · subst hji; rw [hv] at hx; cases hx; exact gv
              · exact hp j x (by omega) hx
          · skip
            have hge : e.vals.length ≤ i := by have := h5; simp at this; omega
            have hall : e.vals.all isVal = true := all_of fun j a hj ha => hp j a (by omega) ha
            refine CW_exit ?_
            show CW _ _ _ _
            refine CW_seq ?_
            refine CW_seq ?_
            refine CW_region ?_
            refine OW_run' hE.ok 1 rfl ?_
            refine OW_end rfl ?_
            refine CW_block ?_
            refine CW_loop (σ := {i : Nat // i ≤ e.vals.length ∧ ∀ (j : Nat) (a : Vl) (f : Fld), j < i → e.vals[j]? = some a → (findT s e.ty).1.fields[j]? = some f → (a.k != f.kind) = false}) (fun i => ⟨J, (sset (sset (sset noSlots 3 (.d (.iptr (encE e)))) 5 (.ptr 1 0)) 8 (.d (int ((i.1 : Nat) : Int)))), (hset noHeap 1 (some (.box 82 ((encT (findT s e.ty).1).map .d))))⟩) (fun i => e.vals.length - i.1) ⟨0, Nat.zero_le _, fun j a f hj => by omega⟩ (LE_sh (slh_set (slh_set (slh_set (slh_no _ _) rfl rfl) rfl rfl) rfl rfl) (hlh_set (hlh_no _ _) rfl rfl)) fun ⟨i, hi, hp⟩ => ?_
            refine CW_seq ?_
            refine CW_seq ?_
            refine CW_region ?_
            refine OW_run' hE.ok 5 rfl ?_
            refine OW_end rfl ?_
            refine CW_cond _ rfl (fun h7 => ?_) (fun h7 => ?_)
            · skip
              refine CW_know (know_sl (d := 51) rfl) fun hlen => ?_
              simp only [List.length_map] at hlen
              have hlt : i < e.vals.length := by have := h7; simp at this; omega
              obtain ⟨v, hv⟩ : ∃ v, e.vals[i]? = some v := ⟨_, List.getElem?_eq_getElem hlt⟩
              obtain ⟨f, hfl⟩ : ∃ f, (findT s e.ty).1.fields[i]? = some f := ⟨_, List.getElem?_eq_getElem (by omega)⟩
              refine CW_skip ?_
              refine CW_seq ?_
              refine CW_block ?_
              refine CW_seq ?_
              refine CW_drawn' hE 12 (by decide +kernel) ?_
              refine HW_run hE 3 rfl rfl ?_
              refine HW_loc hE (loc_indexAddr hE rfl rfl rfl rfl rfl (by omega) (x := encV v) (by simp [hv])) rfl rfl rfl rfl ?_
              refine HW_run hE 5 rfl rfl ?_
              refine HW_loc hE (loc_indexAddr hE rfl rfl rfl rfl rfl (by omega) (x := encF f) (by simp [hfl])) rfl rfl rfl rfl ?_
              refine HW_run hE 2 rfl rfl ?_
              refine HW_end ?_
              refine OW_run' hE.ok 1 rfl ?_
              refine OW_end rfl ?_
              refine CW_cond _ rfl (fun h8 => ?_) (fun h8 => ?_)
              · skip
                have gk : (v.k != f.kind) = true := h8
                refine CW_seq ?_
                refine CW_region ?_
                refine OW_run' hE.ok 1 rfl ?_
                refine OW_end rfl ?_
                refine CW_ret ?_
                refine ⟨.inr rfl, rfl, ⟨_, rfl, rfl, ?_⟩, rfl⟩
                exact AVle.of (congrArg (fun b => AV.d (int b)) (by rw [evt_kind g0 hf hall (kindsAs_no hv hfl gk)]))
              · skip
                have gk : (v.k != f.kind) = false := h8
                refine CW_skip ?_
                refine CW_region ?_
                refine OW_run' hE.ok 3 rfl ?_
                refine OW_end rfl ?_
                refine ⟨⟨i + 1, by omega, fun j x f hj hx hf => ?_⟩, LE_sh (slh_set (v := .d (int ((i + 1 : Nat) : Int))) (slh_set (v := .ptr 1 0) (slh_set (v := .d (.iptr (encE e))) (slh_no _ _) (by rfl) rfl) (by rfl) rfl) (by show AV.d (.lit (.int .i64 (IntKind.i64.wrap ((i : Int) + 1)))) = _; rw [wrap_succ (by omega)]; rfl) rfl) (hlh_set (hlh_no _ _) rfl rfl), by show e.vals.length - (i + 1) < e.vals.length - i; omega⟩
                by_cases hji : j = i
                · subst hji; rw [hv] at hx; cases hx; rw [hfl] at hf; cases hf; exact gk
                · exact hp j x f (by omega) hx hf
            · skip
              have hge : e.vals.length ≤ i := by have := h7; simp at this; omega
              have hks : kindsAs e.vals (findT s e.ty).1.fields = true := kindsAs_yes hvl fun j v f hv hf => hp j v f (by have := (List.getElem?_eq_some_iff.1 hv).1; omega) hv hf
              refine CW_exit ?_
              show CW _ _ _ _
              refine CW_seq ?_
              refine CW_region ?_
              refine OW_run' hE.ok 1 rfl ?_
              refine OW_end rfl ?_
              refine CW_ret ?_
              refine ⟨.inr rfl, rfl, ⟨_, rfl, rfl, ?_⟩, rfl⟩
              exact AVle.of (congrArg (fun b => AV.d (int b)) (by rw [evt_yes g0 hf hall hks]))
end Go.Proofs.Ytaghhofbaoaajaa
namespace Go.Proofs.Ytaghhofbaoaajaa
open Go Go.AL
set_option linter.unusedVariables false
set_option linter.unusedSimpArgs false
set_option maxHeartbeats 4000000
theorem streamOk (l : List Ev) (a0 : Nat) (hl : l.length ≤ 100000) (hn : a0 ≤ 100) : Does Try.prog 7 [.d (.sl 3 48 (l.map encE)), .d (int ((a0 : Nat) : Int))] (oneRow 64 4 ((streamX l a0).1.map encK)) (.tup [.row 0, .d (boo (streamX l a0).2)]) := by
  refine Does_ofOwn T_ok mixed (N := 51) Try.func7 rfl rfl rfl (by rfl) fun F n Z hE hF J => ?_
  refine CW_seq ?_
  refine CW_region ?_
  refine OW_run' hE.ok 2 rfl ?_
  refine OW_end rfl ?_
  refine CW_seq ?_
  refine CW_region ?_
  refine OW_run' hE.ok 1 rfl ?_
  refine OW.le (LE_nilSlot 6 50 64 4 rfl rfl) ?_
  refine OW_end rfl ?_
  refine CW_seq ?_
  refine CW_seq ?_
  refine CW_region ?_
  refine OW_run' hE.ok 1 rfl ?_
  refine OW_end rfl ?_
  refine CW_block ?_
  refine CW_loop (σ := {i : Nat // i ≤ l.length ∧ ∀ j, j < i → okAt l j = true}) (fun i => ⟨J, (sset (sset (sset (sset noSlots 0 (.d (.sl 3 48 (l.map encE)))) 1 (.d (int ((a0 : Nat) : Int)))) 6 (.row 50)) 7 (.d (int ((i.1 : Nat) : Int)))), (hset noHeap 50 (some (.row 64 4 ((keptX (l.take i.1) a0).map encK))))⟩) (fun i => l.length - i.1) ⟨0, Nat.zero_le _, by omega⟩ (LE_sh (slh_set (slh_set (slh_set (slh_set (slh_no _ _) rfl rfl) rfl rfl) rfl rfl) rfl rfl) (hlh_set (hlh_no _ _) (congrArg (fun z => some (Ent.row 64 4 z)) (rfl)) rfl)) fun ⟨i, hi, hq⟩ => ?_
  refine CW_seq ?_
  refine CW_seq ?_
  refine CW_region ?_
  refine OW_run' hE.ok 4 rfl ?_
  refine OW_end rfl ?_
  refine CW_cond _ rfl (fun h1 => ?_) (fun h1 => ?_)
  · skip
    have hlt : i < l.length := by have := h1; rw [List.length_map] at this; simp at this; omega
    obtain ⟨x, hx⟩ : ∃ x, l[i]? = some x := ⟨_, List.getElem?_eq_getElem hlt⟩
    have hfew := kept_len (l.take i) a0
    rw [List.length_take] at hfew
    refine CW_skip ?_
    refine CW_seq ?_
    refine CW_block ?_
    refine CW_cutE (fun _ : Unit => ⟨J, (sset (sset (sset (sset noSlots 0 (.d (.sl 3 48 (l.map encE)))) 1 (.d (int ((a0 : Nat) : Int)))) 6 (.row 50)) 7 (.d (int ((i : Nat) : Int)))), (hset noHeap 50 (some (.row 64 4 ((keptX (l.take i) a0).map encK))))⟩) (fun _ => okAt l i = true) ?_ ?_
    · skip
      refine CW_seq ?_
      refine CW_drawn' hE 24 (by decide +kernel) ?_
      refine HW_call hE (baseOk) rfl rfl rfl rfl rfl rfl rfl rfl ?_
      refine HW_run hE 2 rfl rfl ?_
      refine HW_loc hE (loc_indexAddr hE rfl rfl rfl rfl rfl (by omega) (x := encE x) (by simp [hx])) rfl rfl rfl rfl ?_
      refine HW_run hE 1 rfl rfl ?_
      refine HW_call hE (refIsEOk bS x) rfl rfl rfl rfl rfl rfl rfl rfl ?_
      refine HW_run hE 2 rfl rfl ?_
      refine HW_split 21 rfl (fun h2 => ?_) (fun h2 => ?_)
      · skip
        have g1 : (evtR bS x != 0) = true := h2
        refine HW_run hE 16 rfl rfl ?_
        refine HW_end ?_
        refine OW_run' hE.ok 1 rfl ?_
        refine OW_end rfl ?_
        refine CW_true rfl ?_
        refine CW_seq ?_
        refine CW_region ?_
        refine OW_run' hE.ok 2 rfl ?_
        refine OW.le (LE_nilSlot 4 51 64 4 rfl rfl) ?_
        refine OW_end rfl ?_
        have hbad : okAt l i = false := by unfold okAt; rw [getD_at hx, g1]; rfl
        rw [stream_no hlt hbad]
        exact CW_ret ⟨.inr rfl, rfl, 51, _, rfl, rfl, AVle.refl _⟩
      · skip
        have g1 : (evtR bS x != 0) = false := h2
        refine HW_run hE 3 rfl rfl ?_
        refine HW_split 24 rfl (fun h3 => ?_) (fun h3 => ?_)
        · skip
          have g2 : decide (((i : Nat) : Int) > 0) = true := h3
          have hi0 : 0 < i := by have := g2; simp at this; omega
          obtain ⟨y, hy⟩ : ∃ y, l[i - 1]? = some y := ⟨_, List.getElem?_eq_getElem (by omega)⟩
          refine HW_run hE 3 rfl rfl ?_
          refine HW_as 27 (.d (int ((i - 1 : Nat) : Int))) (by show AV.d (.lit (.int .i64 (IntKind.i64.wrap (((i : Nat) : Int) - 1)))) = _; rw [show (((i : Nat) : Int) - 1) = ((i - 1 : Nat) : Int) by omega, wrapN (by omega)]; rfl) ?_
          refine HW_loc hE (loc_indexAddr hE rfl rfl rfl rfl rfl (by omega) (x := encE y) (by simp [hy])) rfl rfl rfl rfl ?_
          refine HW_run hE 4 rfl rfl ?_
          refine HW_loc hE (loc_indexAddr hE rfl rfl rfl rfl rfl (by omega) (x := encE x) (by simp [hx])) rfl rfl rfl rfl ?_
          refine HW_run hE 4 rfl rfl ?_
          refine HW_end ?_
          refine OW_run' hE.ok 1 rfl ?_
          refine OW_end rfl ?_
          refine CW_cond _ rfl (fun h4 => ?_) (fun h4 => ?_)
          · skip
            have g3 : decide (y.ts > x.ts) = true := h4
            refine CW_seq ?_
            refine CW_region ?_
            refine OW_run' hE.ok 2 rfl ?_
            refine OW.le (LE_nilSlot 4 51 64 4 rfl rfl) ?_
            refine OW_end rfl ?_
            have hbad : okAt l i = false := by unfold okAt; rw [getD_at hx, getD_at hy, g1, show decide (i > 0) = decide (((i : Nat) : Int) > 0) from decide_eq_decide.2 (by omega), g2, g3]; rfl
            rw [stream_no hlt hbad]
            exact CW_ret ⟨.inr rfl, rfl, 51, _, rfl, rfl, AVle.refl _⟩
          · skip
            have g3 : decide (y.ts > x.ts) = false := h4
            refine CW_skip ?_
            exact ⟨(), by unfold okAt; rw [getD_at hx, getD_at hy, g1, show decide (i > 0) = decide (((i : Nat) : Int) > 0) from decide_eq_decide.2 (by omega), g2, g3]; rfl, LE_sh (slh_set (v := .d (int ((i : Nat) : Int))) (slh_set (v := .row 50) (slh_set (v := .d (int ((a0 : Nat) : Int))) (slh_set (v := .d (.sl 3 48 (l.map encE))) (slh_no _ _) (by rfl) rfl) (by rfl) rfl) (by rfl) rfl) (by rfl) rfl) (hlh_set (hlh_no _ _) (congrArg (fun z => some (Ent.row 64 4 z)) (rfl)) rfl)⟩
        · skip
          have g2 : decide (((i : Nat) : Int) > 0) = false := h3
          refine HW_run hE 13 rfl rfl ?_
          refine HW_end ?_
          refine OW_run' hE.ok 1 rfl ?_
          refine OW_end rfl ?_
          refine CW_false rfl ?_
          refine CW_skip ?_
          exact ⟨(), by unfold okAt; rw [getD_at hx, g1, show decide (i > 0) = decide (((i : Nat) : Int) > 0) from decide_eq_decide.2 (by omega), g2]; rfl, LE_sh (slh_set (v := .d (int ((i : Nat) : Int))) (slh_set (v := .row 50) (slh_set (v := .d (int ((a0 : Nat) : Int))) (slh_set (v := .d (.sl 3 48 (l.map encE))) (slh_no _ _) (by rfl) rfl) (by rfl) rfl) (by rfl) rfl) (by rfl) rfl) (hlh_set (hlh_no _ _) (congrArg (fun z => some (Ent.row 64 4 z)) (rfl)) rfl)⟩
    · skip
      rintro _ hok
      refine CW_region ?_
      refine OW_run' hE.ok 4 rfl ?_
      refine OW_as' 42 (.d (int ((a0 + i : Nat) : Int))) (by show AV.d (.lit (.int .i64 (IntKind.i64.wrap (((a0 : Nat) : Int) + ((i : Nat) : Int))))) = _; rw [show (((a0 : Nat) : Int) + ((i : Nat) : Int)) = ((a0 + i : Nat) : Int) by omega, wrapN (by omega)]; rfl) ?_
      refine OW_run' hE.ok 1 rfl ?_
      refine OW_run' hE.ok 1 rfl ?_
      refine OW_loc' hE (loc_indexAddr hE rfl rfl rfl rfl rfl (by omega) (x := encE x) (by simp [hx])) rfl rfl rfl ?_
      refine OW_run' hE.ok 1 rfl ?_
      refine OW_build' hE rfl rfl rfl rfl rfl ?_
      refine OW_loc' hE (loc_lits hE (t := 29) (len := 1) (parts := #[(0, .tmp 47)]) rfl rfl rfl rfl rfl rfl rfl rfl (xs := [encK ⟨((a0 + i : Nat) : Int), x⟩]) rfl) rfl rfl rfl ?_
      refine OW_append' hE (key := 50) rfl rfl rfl rfl rfl rfl rfl rfl (.inl rfl) (by simp; omega) (by simp; omega) rfl ?_
      refine OW_run' hE.ok 1 rfl ?_
      refine OW_end rfl ?_
      refine CW_region ?_
      refine OW_run' hE.ok 3 rfl ?_
      refine OW_end rfl ?_
      refine ⟨⟨i + 1, by omega, fun j hj => ?_⟩, LE_sh (slh_set (v := .d (int ((i + 1 : Nat) : Int))) (slh_set (v := .row 50) (slh_set (v := .d (int ((a0 : Nat) : Int))) (slh_set (v := .d (.sl 3 48 (l.map encE))) (slh_no _ _) (by rfl) rfl) (by rfl) rfl) (by rfl) rfl) (by show AV.d (.lit (.int .i64 (IntKind.i64.wrap ((i : Int) + 1)))) = _; rw [wrap_succ (by omega)]; rfl) rfl) (hlh_set (hlh_no _ _) (congrArg (fun z => some (Ent.row 64 4 z)) (by rw [kept_snoc hx, List.map_append]; rfl)) rfl), by show l.length - (i + 1) < l.length - i; omega⟩
      by_cases hji : j = i
      · subst hji; exact hok
      · exact hq j (by omega)
  · skip
    have hge : l.length ≤ i := by have := h1; rw [List.length_map] at this; simp at this; omega
    refine CW_exit ?_
    show CW _ _ _ _
    refine CW_seq ?_
    refine CW_region ?_
    refine OW_run' hE.ok 3 rfl ?_
    refine OW_end rfl ?_
    have hh : l.take i = l := List.take_of_length_le hge
    rw [stream_yes fun j hj => hq j (by omega)]
    exact CW_ret ⟨.inr rfl, rfl, 50, _, rfl, by show some (Ent.row _ _ _) = _; rw [hh], AVle.refl _⟩
end Go.Proofs.Ytaghhofbaoaajaa
namespace Go.Proofs.Ytaghhofbaoaajaa
open Go Go.AL
set_option linter.unusedVariables false
set_option linter.unusedSimpArgs false
set_option maxHeartbeats 4000000
theorem known15Ok  : Does Try.prog 5 [] noHeap (.d (boo true)) := by
  refine Does_of T_ok mixed (N := 105) Try.func5 rfl rfl rfl (by rfl) fun F n Z hE hF J => ?_
  have hk : Rises kN := kept_rises lN 0
  have qS := streamOk lN 0 (by decide) (by decide); rw [known_stream] at qS
  have qA := startOk bS pN (kN.take 1) (kept_rises [evT 1 1] 0) (by decide) (by decide); rw [known_start] at qA
  have qT := takeOk bS pN kN [⟨0, 0⟩] hk (by decide) (by decide) (by decide) (fun _ => ⟨0, rfl, by omega⟩); rw [known_take] at qT
  have qN := Does_le (AVles.cons (AVle.refl _) (AVles.cons (AVle.refl _) (AVles.cons (AVle.nilSl 4 64) AVles.nil))) (startOk bS pN [] (kept_rises [] 0) (by decide) (by decide)); rw [known_none] at qN
  have qD := doneOk pN [⟨0, 0⟩, ⟨1, 1⟩] (by decide) (by decide); rw [known_done1] at qD
  have qE := doneOk pN [⟨0, 0⟩, ⟨0, 1⟩] (by decide) (by decide); rw [known_done0] at qE
  have qL := lateOk pN kN [⟨0, 0⟩] (by decide); rw [known_late] at qL
  refine CW_seq ?_
  refine CW_region ?_
  refine OW_run' hE.ok 1 rfl ?_
  refine OW_end rfl ?_
  refine CW_seq ?_
  refine CW_region ?_
  refine OW_call' hE (evOf 1 1) rfl rfl rfl rfl rfl rfl rfl ?_
  refine OW_call' hE (evOf 2 1) rfl rfl rfl rfl rfl rfl rfl ?_
  refine OW_loc' hE (loc_lits hE (t := 24) (len := 2) (parts := #[(0, .tmp 12), (1, .tmp 13)]) rfl rfl rfl rfl rfl rfl rfl rfl (xs := [encE (evT 1 1), encE (evT 2 1)]) rfl) rfl rfl rfl ?_
  refine OW_callOwn' hE 77 qS rfl rfl rfl rfl rfl rfl rfl ?_
  refine OW_run' hE.ok 5 rfl ?_
  refine OW.le (LE_freeze 77 64 rfl (by decide)) ?_
  refine OW_end rfl ?_
  refine CW_seq ?_
  refine CW_region ?_
  refine OW_call' hE (elOf (ch 97) (ch 116)) rfl rfl rfl rfl rfl rfl rfl ?_
  refine OW_alloc' hE 1 rfl rfl rfl rfl rfl rfl rfl ?_
  refine OW_store' hE rfl rfl rfl rfl rfl rfl rfl rfl rfl rfl rfl rfl ?_
  refine OW_end rfl ?_
  refine CW_seq ?_
  refine CW_region ?_
  refine OW_run' hE.ok 1 rfl ?_
  refine OW_store' hE rfl rfl rfl rfl rfl rfl rfl rfl rfl rfl rfl rfl ?_
  refine OW_end rfl ?_
  refine CW_seq ?_
  refine CW.le (LE_freezeBox 1 (ds := encL ⟨ch 97, [ch 116], true, false, zeroX⟩) rfl rfl) ?_
  refine CW_drawn6 hE 5 4 2 (by decide +kernel) rfl rfl rfl rfl rfl rfl rfl rfl rfl rfl ?_
  refine H2_run hE 1 rfl rfl rfl rfl rfl ?_
  refine H2_call hE (elOf (ch 98) (ch 116)) rfl rfl rfl rfl rfl rfl rfl rfl rfl ?_
  refine H2_loc hE (fun b => loc_lits hE (t := 41) (len := 2) (parts := #[(0, .tmp 20), (1, .tmp 21)]) rfl rfl rfl rfl rfl rfl rfl rfl (xs := [encL ⟨ch 97, [ch 116], true, false, zeroX⟩, encL ⟨ch 98, [ch 116], false, false, zeroX⟩]) rfl) rfl rfl rfl rfl rfl ?_
  refine H2_loc hE (fun b => loc_build hE rfl rfl) rfl rfl rfl rfl rfl ?_
  refine H2_alloc rfl rfl rfl ?_
  refine H2_end ?_
  refine OW_store' hE rfl rfl rfl rfl rfl rfl rfl rfl rfl rfl rfl rfl ?_
  refine OW_end rfl ?_
  refine CW_seq ?_
  refine CW_region ?_
  refine OW_call' hE (baseOk) rfl rfl rfl rfl rfl rfl rfl ?_
  refine OW_alloc' hE 3 rfl rfl rfl rfl rfl rfl rfl ?_
  refine OW_store' hE rfl rfl rfl rfl rfl rfl rfl rfl rfl rfl rfl rfl ?_
  refine OW_end rfl ?_
  refine CW_seq ?_
  refine CW.le (LE_freezeBox 2 (ds := encP pN) rfl rfl) ?_
  refine CW.le (LE_freezeBox 3 (ds := [encS bS]) rfl rfl) ?_
  refine CW.le (show LE _ _ ⟨J, (sset (sset (sset (sset noSlots 1 (.d (SK kN))) 2 (.d (boo true))) 4 (.d (.iptr (encP pN)))) 5 (.d (.iptr [encS bS]))), noHeap⟩ from LE_sh (slh_set (v := .d (.iptr [encS bS])) (slh_set (v := .d (.iptr (encP pN))) (slh_set (v := .d (boo true)) (slh_set (v := .d (SK kN)) (slh_no _ _) (by rfl) rfl) (by rfl) rfl) (by rfl) rfl) (by rfl) rfl) (hlh_no _ _)) ?_
  refine CW_drawn2 hE 10 8 9 4 (by decide +kernel) (V := [.d (SBd [⟨0, 0⟩])]) rfl rfl rfl rfl rfl rfl rfl rfl rfl (by decide +kernel) rfl rfl rfl rfl rfl ?_
  refine H2_run hE 3 rfl rfl rfl rfl rfl ?_
  refine H2_loc hE (fun b => loc_slice hE (lo := none) (hi := some (.const (.int .i64 1))) rfl rfl rfl rfl (l := 0) (u := 1) rfl ⟨.i64, rfl⟩ (by omega) (by decide)) rfl rfl rfl rfl rfl ?_
  refine H2_call hE (qA) rfl rfl rfl rfl rfl rfl rfl rfl rfl ?_
  refine H2_run hE 3 rfl rfl rfl rfl rfl ?_
  refine H2_alloc rfl rfl rfl ?_
  refine H2_store rfl rfl rfl rfl rfl rfl rfl rfl ?_
  refine H2_end ?_
  refine OW_run' hE.ok 1 rfl ?_
  refine OW_end rfl ?_
  refine CW_seq ?_
  refine CW.le (LE_freezeBox 4 (ds := [SBd [⟨0, 0⟩]]) rfl rfl) ?_
  refine CW_region ?_
  refine OW_run' hE.ok 4 rfl ?_
  refine OW_callRow' hE 78 qT rfl rfl rfl rfl rfl rfl rfl ?_
  refine OW_run' hE.ok 1 rfl ?_
  refine OW.le (LE_freeze 78 24 rfl (by decide)) ?_
  refine OW_end rfl ?_
  refine CW_seq ?_
  refine CW_region ?_
  refine OW_run' hE.ok 2 rfl ?_
  refine OW_call' hE (qN) rfl rfl rfl rfl rfl rfl rfl ?_
  refine OW_run' hE.ok 3 rfl ?_
  refine OW_alloc' hE 5 rfl rfl rfl rfl rfl rfl rfl ?_
  refine OW_store' hE rfl rfl rfl rfl rfl rfl rfl rfl rfl rfl rfl rfl ?_
  refine OW_run' hE.ok 1 rfl ?_
  refine OW_end rfl ?_
  refine CW_seq ?_
  refine CW.le (show LE _ _ ⟨J, (sset (sset (sset (sset (sset (sset (sset (sset noSlots 1 (.d (SK kN))) 2 (.d (boo true))) 4 (.d (.iptr (encP pN)))) 5 (.d (.iptr [encS bS]))) 6 (.d (.iptr [SBd [⟨0, 0⟩]]))) 7 (.d (boo true))) 8 (.d (.sl 1 24 [encR [⟨0, 0⟩, ⟨0, 1⟩], encR [⟨0, 0⟩, ⟨1, 1⟩]]))) 10 (.d (boo false))), noHeap⟩ from LE_sh (slh_set (v := .d (boo false)) (slh_set (v := .d (.sl 1 24 [encR [⟨0, 0⟩, ⟨0, 1⟩], encR [⟨0, 0⟩, ⟨1, 1⟩]])) (slh_set (v := .d (boo true)) (slh_set (v := .d (.iptr [SBd [⟨0, 0⟩]])) (slh_set (v := .d (.iptr [encS bS])) (slh_set (v := .d (.iptr (encP pN))) (slh_set (v := .d (boo true)) (slh_set (v := .d (SK kN)) (slh_no _ _) (by rfl) rfl) (by rfl) rfl) (by rfl) rfl) (by rfl) rfl) (by rfl) rfl) (by rfl) rfl) (by rfl) rfl) (by rfl) rfl) (hlh_no _ _)) ?_
  refine CW_drawn' hE 61 (by decide +kernel) ?_
  refine HW_run hE 9 rfl rfl ?_
  refine HW_as 52 (.d (boo true)) (by rfl) ?_
  refine HW_run hE 1 rfl rfl ?_
  refine HW_run hE 1 rfl rfl ?_
  refine HW_fgt (s' := (sset (sset (sset (sset (sset (sset (sset (sset (sset noSlots 1 (.d (SK kN))) 2 (.d (boo true))) 4 (.d (.iptr (encP pN)))) 5 (.d (.iptr [encS bS]))) 6 (.d (.iptr [SBd [⟨0, 0⟩]]))) 7 (.d (boo true))) 8 (.d (.sl 1 24 [encR [⟨0, 0⟩, ⟨0, 1⟩], encR [⟨0, 0⟩, ⟨1, 1⟩]]))) 10 (.d (boo false))) 54 (.d (boo true)))) (fgt_set (fgt_set (fgt_set (fgt_set (fgt_set (fgt_set (fgt_set (fgt_set (fgt_set (fgt_no _) (by rfl)) (by rfl)) (by rfl)) (by rfl)) (by rfl)) (by rfl)) (by rfl)) (by rfl)) (by rfl)) ?_
  refine HW_run hE 1 rfl rfl ?_
  refine HW_run hE 2 rfl rfl ?_
  refine HW_as 57 (.d (boo true)) (by rfl) ?_
  refine HW_run hE 1 rfl rfl ?_
  refine HW_run hE 1 rfl rfl ?_
  refine HW_fgt (s' := (sset (sset (sset (sset (sset (sset (sset (sset (sset noSlots 1 (.d (SK kN))) 2 (.d (boo true))) 4 (.d (.iptr (encP pN)))) 5 (.d (.iptr [encS bS]))) 6 (.d (.iptr [SBd [⟨0, 0⟩]]))) 7 (.d (boo true))) 8 (.d (.sl 1 24 [encR [⟨0, 0⟩, ⟨0, 1⟩], encR [⟨0, 0⟩, ⟨1, 1⟩]]))) 10 (.d (boo false))) 59 (.d (boo true)))) (fgt_set (fgt_set (fgt_set (fgt_set (fgt_set (fgt_set (fgt_set (fgt_set (fgt_set (fgt_no _) (by rfl)) (by rfl)) (by rfl)) (by rfl)) (by rfl)) (by rfl)) (by rfl)) (by rfl)) (by rfl)) ?_
  refine HW_run hE 1 rfl rfl ?_
  refine HW_loc hE (loc_indexAddr hE rfl rfl rfl rfl rfl (by omega) (x := encR [⟨0, 0⟩, ⟨0, 1⟩]) rfl) rfl rfl rfl rfl ?_
  refine HW_run hE 2 rfl rfl ?_
  refine HW_loc hE (loc_indexAddr hE rfl rfl rfl rfl rfl (by omega) (x := encBd ⟨0, 1⟩) rfl) rfl rfl rfl rfl ?_
  refine HW_run hE 3 rfl rfl ?_
  refine HW_as 67 (.d (boo true)) (by rfl) ?_
  refine HW_run hE 1 rfl rfl ?_
  refine HW_run hE 1 rfl rfl ?_
  refine HW_fgt (s' := (sset (sset (sset (sset (sset (sset (sset (sset (sset noSlots 1 (.d (SK kN))) 2 (.d (boo true))) 4 (.d (.iptr (encP pN)))) 5 (.d (.iptr [encS bS]))) 6 (.d (.iptr [SBd [⟨0, 0⟩]]))) 7 (.d (boo true))) 8 (.d (.sl 1 24 [encR [⟨0, 0⟩, ⟨0, 1⟩], encR [⟨0, 0⟩, ⟨1, 1⟩]]))) 10 (.d (boo false))) 69 (.d (boo true)))) (fgt_set (fgt_set (fgt_set (fgt_set (fgt_set (fgt_set (fgt_set (fgt_set (fgt_set (fgt_no _) (by rfl)) (by rfl)) (by rfl)) (by rfl)) (by rfl)) (by rfl)) (by rfl)) (by rfl)) (by rfl)) ?_
  refine HW_run hE 1 rfl rfl ?_
  refine HW_loc hE (loc_indexAddr hE rfl rfl rfl rfl rfl (by omega) (x := encR [⟨0, 0⟩, ⟨1, 1⟩]) rfl) rfl rfl rfl rfl ?_
  refine HW_run hE 2 rfl rfl ?_
  refine HW_loc hE (loc_indexAddr hE rfl rfl rfl rfl rfl (by omega) (x := encBd ⟨1, 1⟩) rfl) rfl rfl rfl rfl ?_
  refine HW_run hE 3 rfl rfl ?_
  refine HW_as 77 (.d (boo true)) (by rfl) ?_
  refine HW_run hE 1 rfl rfl ?_
  refine HW_run hE 1 rfl rfl ?_
  refine HW_fgt (s' := (sset (sset (sset (sset (sset (sset (sset (sset (sset noSlots 1 (.d (SK kN))) 2 (.d (boo true))) 4 (.d (.iptr (encP pN)))) 5 (.d (.iptr [encS bS]))) 6 (.d (.iptr [SBd [⟨0, 0⟩]]))) 7 (.d (boo true))) 8 (.d (.sl 1 24 [encR [⟨0, 0⟩, ⟨0, 1⟩], encR [⟨0, 0⟩, ⟨1, 1⟩]]))) 10 (.d (boo false))) 79 (.d (boo true)))) (fgt_set (fgt_set (fgt_set (fgt_set (fgt_set (fgt_set (fgt_set (fgt_set (fgt_set (fgt_no _) (by rfl)) (by rfl)) (by rfl)) (by rfl)) (by rfl)) (by rfl)) (by rfl)) (by rfl)) (by rfl)) ?_
  refine HW_run hE 1 rfl rfl ?_
  refine HW_run hE 1 rfl rfl ?_
  refine HW_loc hE (loc_indexAddr hE rfl rfl rfl rfl rfl (by omega) (x := encR [⟨0, 0⟩, ⟨1, 1⟩]) rfl) rfl rfl rfl rfl ?_
  refine HW_run hE 1 rfl rfl ?_
  refine HW_call hE (qD) rfl rfl rfl rfl rfl rfl rfl rfl ?_
  refine HW_run hE 2 rfl rfl ?_
  refine HW_fgt (s' := (sset (sset (sset (sset (sset (sset (sset (sset (sset noSlots 1 (.d (SK kN))) 2 (.d (boo true))) 4 (.d (.iptr (encP pN)))) 5 (.d (.iptr [encS bS]))) 6 (.d (.iptr [SBd [⟨0, 0⟩]]))) 7 (.d (boo true))) 8 (.d (.sl 1 24 [encR [⟨0, 0⟩, ⟨0, 1⟩], encR [⟨0, 0⟩, ⟨1, 1⟩]]))) 10 (.d (boo false))) 86 (.d (boo true)))) (fgt_set (fgt_set (fgt_set (fgt_set (fgt_set (fgt_set (fgt_set (fgt_set (fgt_set (fgt_no _) (by rfl)) (by rfl)) (by rfl)) (by rfl)) (by rfl)) (by rfl)) (by rfl)) (by rfl)) (by rfl)) ?_
  refine HW_run hE 1 rfl rfl ?_
  refine HW_run hE 1 rfl rfl ?_
  refine HW_loc hE (loc_indexAddr hE rfl rfl rfl rfl rfl (by omega) (x := encR [⟨0, 0⟩, ⟨0, 1⟩]) rfl) rfl rfl rfl rfl ?_
  refine HW_run hE 1 rfl rfl ?_
  refine HW_call hE (qE) rfl rfl rfl rfl rfl rfl rfl rfl ?_
  refine HW_run hE 3 rfl rfl ?_
  refine HW_fgt (s' := (sset (sset (sset (sset (sset (sset (sset (sset (sset noSlots 1 (.d (SK kN))) 2 (.d (boo true))) 4 (.d (.iptr (encP pN)))) 5 (.d (.iptr [encS bS]))) 6 (.d (.iptr [SBd [⟨0, 0⟩]]))) 7 (.d (boo true))) 8 (.d (.sl 1 24 [encR [⟨0, 0⟩, ⟨0, 1⟩], encR [⟨0, 0⟩, ⟨1, 1⟩]]))) 10 (.d (boo false))) 94 (.d (boo true)))) (fgt_set (fgt_set (fgt_set (fgt_set (fgt_set (fgt_set (fgt_set (fgt_set (fgt_set (fgt_no _) (by rfl)) (by rfl)) (by rfl)) (by rfl)) (by rfl)) (by rfl)) (by rfl)) (by rfl)) (by rfl)) ?_
  refine HW_run hE 1 rfl rfl ?_
  refine HW_run hE 2 rfl rfl ?_
  refine HW_call hE (qL) rfl rfl rfl rfl rfl rfl rfl rfl ?_
  refine HW_run hE 3 rfl rfl ?_
  refine HW_fgt (s' := (sset (sset (sset (sset (sset (sset (sset (sset (sset noSlots 1 (.d (SK kN))) 2 (.d (boo true))) 4 (.d (.iptr (encP pN)))) 5 (.d (.iptr [encS bS]))) 6 (.d (.iptr [SBd [⟨0, 0⟩]]))) 7 (.d (boo true))) 8 (.d (.sl 1 24 [encR [⟨0, 0⟩, ⟨0, 1⟩], encR [⟨0, 0⟩, ⟨1, 1⟩]]))) 10 (.d (boo false))) 101 (.d (boo true)))) (fgt_set (fgt_set (fgt_set (fgt_set (fgt_set (fgt_set (fgt_set (fgt_set (fgt_set (fgt_no _) (by rfl)) (by rfl)) (by rfl)) (by rfl)) (by rfl)) (by rfl)) (by rfl)) (by rfl)) (by rfl)) ?_
  refine HW_run hE 1 rfl rfl ?_
  refine HW_run hE 2 rfl rfl ?_
  refine HW_end ?_
  refine OW_run' hE.ok 1 rfl ?_
  refine OW_end rfl ?_
  refine CW_ret ?_
  refine ⟨.inr rfl, rfl, ⟨_, rfl, rfl, ?_⟩, rfl⟩
  exact AVle.refl _
end Go.Proofs.Ytaghhofbaoaajaa
