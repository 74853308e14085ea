/- Parts of an abstract logic over the kit's walks, and walks in it: P4l0, P4ls, P4ck, P4l1. -/
import Derived.Test.YtojnicnbmgiplaaPxa
import Derived.Test.YtojnicnbmgiplaaMa
import Derived.Test.YtojnicnbmgiplaaAf
import Derived.Test.YtojnicnbmgiplaaBa
import Derived.Test.YtojnicnbmgiplaaPxg
import Derived.Test.YtojnicnbmgiplaaDe
import Derived.Test.YtojnicnbmgiplaaP4q5
import Derived.Test.YtojnicnbmgiplaaAg
namespace Go.Proofs.Ytojnicnbmgiplaa
open Go Go.AL
set_option linter.unusedVariables false
set_option linter.unusedSimpArgs false
set_option maxHeartbeats 4000000
theorem lit11 (c : Int) : Does Try.prog 63 [.d (int c)] noHeap (argX (litX c)) := by
  refine Does_of T_ok mixed (N := 6) Try.func63 rfl rfl rfl (by rfl) fun F n Z hE hF J => ?_
  refine CW_seq ?_
  refine CW_region ?_
  refine OW_alloc' hE 1 rfl rfl rfl rfl rfl rfl rfl ?_
  refine OW_end rfl ?_
  refine CW_seq ?_
  refine CW_region ?_
  refine OW_run' hE.ok 1 rfl ?_
  refine OW_build' hE rfl rfl rfl rfl rfl ?_
  refine OW_build' hE rfl rfl rfl rfl rfl ?_
  refine OW_store' hE rfl rfl rfl rfl rfl rfl rfl rfl rfl rfl rfl rfl ?_
  refine OW_end rfl ?_
  refine CW_ret ?_
  refine ⟨.inr rfl, rfl, ⟨_, rfl, rfl, ?_⟩, rfl⟩
  exact AVle.agg (.cons (.refl _) (.cons (.refl _) (.cons (.refl _) (.cons (.refl _) (.cons (.refl _) (.cons (.refl _) (.cons (.nilSl 7 96) .nil)))))))

theorem field11 (a f : ByteArray) : Does Try.prog 61 [.d (str a), .d (str f)] noHeap (argX (fldX a f)) := by
  refine Does_of T_ok mixed (N := 8) Try.func61 rfl rfl rfl (by rfl) fun F n Z hE hF J => ?_
  refine CW_seq ?_
  refine CW_region ?_
  refine OW_alloc' hE 1 rfl rfl rfl rfl rfl rfl rfl ?_
  refine OW_end rfl ?_
  refine CW_seq ?_
  refine CW_region ?_
  refine OW_run' hE.ok 2 rfl ?_
  refine OW_build' hE rfl rfl rfl rfl rfl ?_
  refine OW_store' hE rfl rfl rfl rfl rfl rfl rfl rfl rfl rfl rfl rfl ?_
  refine OW_end rfl ?_
  refine CW_ret ?_
  refine ⟨.inr rfl, rfl, ⟨_, rfl, rfl, ?_⟩, rfl⟩
  exact AVle.agg (.cons (.refl _) (.cons (.refl _) (.cons (.refl _) (.cons (.refl _) (.cons (.refl _) (.cons (.refl _) (.cons (.nilSl 7 96) .nil)))))))

theorem two11 (op : Int) (x y : Exp) : Does Try.prog 62 [.d (int op), argX x, argX y] noHeap (argX (twoX op x y)) := by
  refine Does_of T_ok mixed (N := 12) Try.func62 rfl rfl rfl (by rfl) fun F n Z hE hF J => ?_
  obtain ⟨o1, v1, a1, f1, k1⟩ := x
  obtain ⟨o2, v2, a2, f2, k2⟩ := y
  refine CW_seq ?_
  refine CW_region ?_
  refine OW_run' hE.ok 2 rfl ?_
  refine OW_alloc' hE 1 rfl rfl rfl rfl rfl rfl rfl ?_
  refine OW_end rfl ?_
  refine CW_seq ?_
  refine CW_region ?_
  refine OW_run' hE.ok 3 rfl ?_
  refine OW_lits' hE rfl rfl rfl rfl rfl rfl rfl rfl rfl rfl rfl rfl ?_
  refine OW_build' hE rfl rfl rfl rfl rfl ?_
  refine OW_store' hE rfl rfl rfl rfl rfl rfl rfl rfl rfl rfl rfl rfl ?_
  refine OW_end rfl ?_
  refine CW_ret ?_
  refine ⟨.inr rfl, rfl, ⟨_, rfl, rfl, ?_⟩, rfl⟩
  exact AVle.refl _

theorem base11  : Does Try.prog 29 [] noHeap (argS bS) := by
  refine Does_of T_ok mixed (N := 11) Try.func29 rfl rfl rfl (by rfl) fun F n Z hE hF J => ?_
  refine CW_seq ?_
  refine CW_region ?_
  refine OW_alloc' hE 1 rfl rfl rfl rfl rfl rfl rfl ?_
  refine OW_end rfl ?_
  refine CW_seq ?_
  refine CW_region ?_
  refine OW_build' hE rfl rfl rfl rfl rfl ?_
  refine OW_build' hE rfl rfl rfl rfl rfl ?_
  refine OW_build' hE rfl rfl rfl rfl rfl ?_
  refine OW_lits' hE rfl rfl rfl rfl rfl rfl rfl rfl rfl rfl rfl rfl ?_
  refine OW_build' hE rfl rfl rfl rfl rfl ?_
  refine OW_build' hE rfl rfl rfl rfl rfl ?_
  refine OW_lits' hE rfl rfl rfl rfl rfl rfl rfl rfl rfl rfl rfl rfl ?_
  refine OW_build' hE rfl rfl rfl rfl rfl ?_
  refine OW_lits' hE rfl rfl rfl rfl rfl rfl rfl rfl rfl rfl rfl rfl ?_
  refine OW_build' hE rfl rfl rfl rfl rfl ?_
  refine OW_store' hE rfl rfl rfl rfl rfl rfl rfl rfl rfl rfl rfl rfl ?_
  refine OW_end rfl ?_
  refine CW_ret ?_
  refine ⟨.inr rfl, rfl, ⟨_, rfl, rfl, ?_⟩, rfl⟩
  exact AVle.refl _

theorem elOf (a t : ByteArray) : Does Try.prog 27 [.d (str a), .d (str t)] noHeap (argL ⟨a, [t], false, false, zeroX⟩) := by
  refine Does_of T_ok mixed (N := 9) Try.func27 rfl rfl rfl (by rfl) fun F n Z hE hF J => ?_
  refine CW_seq ?_
  refine CW_region ?_
  refine OW_alloc' hE 1 rfl rfl rfl rfl rfl rfl rfl ?_
  refine OW_end rfl ?_
  refine CW_seq ?_
  refine CW_region ?_
  refine OW_run' hE.ok 2 rfl ?_
  refine OW_lits' hE rfl rfl rfl rfl rfl rfl rfl rfl rfl rfl rfl rfl ?_
  refine OW_build' hE rfl rfl rfl rfl rfl ?_
  refine OW_store' hE rfl rfl rfl rfl rfl rfl rfl rfl rfl rfl rfl rfl ?_
  refine OW_end rfl ?_
  refine CW_ret ?_
  refine ⟨.inr rfl, rfl, ⟨_, rfl, rfl, ?_⟩, rfl⟩
  exact AVle.agg (.cons (.refl _) (.cons (.refl _) (.cons (.refl _) (.cons (.refl _) (.cons (.refl _) (.cons (.refl _) (.cons (.refl _) (.cons (.refl _) (.cons (.refl _) (.cons (.refl _) (.cons (.nilSl 7 96) .nil)))))))))))

theorem evOf (ts n : Int) : Does Try.prog 25 [.d (str (ch 116)), .d (int ts), .d (int n)] noHeap (argE (evT ts n)) := by
  refine Does_of T_ok mixed (N := 21) Try.func25 rfl rfl rfl (by rfl) fun F n Z hE hF J => ?_
  refine CW_seq ?_
  refine CW_region ?_
  refine OW_alloc' hE 1 rfl rfl rfl rfl rfl rfl rfl ?_
  refine OW_end rfl ?_
  refine CW_seq ?_
  refine CW_seq ?_
  refine CW_region ?_
  refine OW_run' hE.ok 2 rfl ?_
  refine OW_as' 8 (.d (boo false)) (by show AV.d (.lit (.bool ((ch 116).toList == (⟨#[117]⟩ : ByteArray).toList))) = _; rw [show ((ch 116).toList == (⟨#[117]⟩ : ByteArray).toList) = false by decide +kernel]; rfl) ?_
  refine OW_end rfl ?_
  refine CW_false rfl ?_
  refine CW_skip ?_
  refine CW_seq ?_
  refine CW_region ?_
  refine OW_run' hE.ok 1 rfl ?_
  refine OW_build' hE rfl rfl rfl rfl rfl ?_
  refine OW_run' hE.ok 1 rfl ?_
  refine OW_build' hE rfl rfl rfl rfl rfl ?_
  refine OW_build' hE rfl rfl rfl rfl rfl ?_
  refine OW_lits' hE rfl rfl rfl rfl rfl rfl rfl rfl rfl rfl rfl rfl ?_
  refine OW_build' hE rfl rfl rfl rfl rfl ?_
  refine OW_store' hE rfl rfl rfl rfl rfl rfl rfl rfl rfl rfl rfl rfl ?_
  refine OW_end rfl ?_
  refine CW_ret ?_
  refine ⟨.inr rfl, rfl, ⟨_, rfl, rfl, ?_⟩, rfl⟩
  exact AVle.refl _

theorem evOfU (ts n : Int) : Does Try.prog 25 [.d (str (ch 117)), .d (int ts), .d (int n)] noHeap (argE (evU ts n)) := by
  refine Does_of T_ok mixed (N := 21) Try.func25 rfl rfl rfl (by rfl) fun F n Z hE hF J => ?_
  refine CW_seq ?_
  refine CW_region ?_
  refine OW_alloc' hE 1 rfl rfl rfl rfl rfl rfl rfl ?_
  refine OW_end rfl ?_
  refine CW_seq ?_
  refine CW_seq ?_
  refine CW_region ?_
  refine OW_run' hE.ok 2 rfl ?_
  refine OW_as' 8 (.d (boo true)) (by show AV.d (.lit (.bool ((ch 117).toList == (⟨#[117]⟩ : ByteArray).toList))) = _; rw [show ((ch 117).toList == (⟨#[117]⟩ : ByteArray).toList) = true by decide +kernel]; rfl) ?_
  refine OW_end rfl ?_
  refine CW_true rfl ?_
  refine CW_seq ?_
  refine CW_region ?_
  refine OW_run' hE.ok 2 rfl ?_
  refine OW_build' hE rfl rfl rfl rfl rfl ?_
  refine OW_lits' hE rfl rfl rfl rfl rfl rfl rfl rfl rfl rfl rfl rfl ?_
  refine OW_build' hE rfl rfl rfl rfl rfl ?_
  refine OW_store' hE rfl rfl rfl rfl rfl rfl rfl rfl rfl rfl rfl rfl ?_
  refine OW_end rfl ?_
  refine CW_ret ?_
  refine ⟨.inr rfl, rfl, ⟨_, rfl, rfl, ?_⟩, rfl⟩
  exact AVle.refl _
end Go.Proofs.Ytojnicnbmgiplaa
namespace Go.Proofs.Ytojnicnbmgiplaa
open Go Go.AL
set_option linter.unusedVariables false
set_option linter.unusedSimpArgs false
set_option maxHeartbeats 4000000
theorem streamOk (l : List Ev) (a0 : Nat) (hl : l.length ≤ 2000000) (hn : a0 ≤ 100) : Does Try.prog 26 [.d (.sl 3 48 (l.map encE)), .d (int ((a0 : Nat) : Int))] (oneRow 48 4 ((streamX l a0).1.map encK)) (.tup [.row 0, .d (boo (streamX l a0).2)]) := by
  refine Does_ofOwn T_ok mixed (N := 51) Try.func26 rfl rfl rfl (by rfl) fun F n Z hE hF J => ?_
  refine CW_seq ?_
  refine CW_region ?_
  refine OW_run' hE.ok 2 rfl ?_
  refine OW_end rfl ?_
  refine CW_seq ?_
  refine CW_region ?_
  refine OW_run' hE.ok 1 rfl ?_
  refine OW.le (LE_nilSlot 6 50 48 4 rfl rfl) ?_
  refine OW_end rfl ?_
  refine CW_seq ?_
  refine CW_seq ?_
  refine CW_region ?_
  refine OW_run' hE.ok 1 rfl ?_
  refine OW_end rfl ?_
  refine CW_block ?_
  refine CW_loop (σ := {i : Nat // i ≤ l.length ∧ ∀ j, j < i → okAt l j = true}) (fun i => ⟨J, (sset (sset (sset (sset noSlots 0 (.d (.sl 3 48 (l.map encE)))) 1 (.d (int ((a0 : Nat) : Int)))) 6 (.row 50)) 7 (.d (int ((i.1 : Nat) : Int)))), (hset noHeap 50 (some (.row 48 4 ((keptX (l.take i.1) a0).map encK))))⟩) (fun i => l.length - i.1) ⟨0, Nat.zero_le _, by omega⟩ (LE_sh (slh_set (slh_set (slh_set (slh_set (slh_no _ _) rfl rfl) rfl rfl) rfl rfl) rfl rfl) (hlh_set (hlh_no _ _) (congrArg (fun z => some (Ent.row 48 4 z)) (rfl)) rfl)) fun ⟨i, hi, hq⟩ => ?_
  refine CW_seq ?_
  refine CW_seq ?_
  refine CW_region ?_
  refine OW_run' hE.ok 4 rfl ?_
  refine OW_end rfl ?_
  refine CW_cond _ rfl (fun h1 => ?_) (fun h1 => ?_)
  · skip
    have hlt : i < l.length := by have := h1; rw [List.length_map] at this; simp at this; omega
    obtain ⟨x, hx⟩ : ∃ x, l[i]? = some x := ⟨_, List.getElem?_eq_getElem hlt⟩
    have hfew := kept_len (l.take i) a0
    rw [List.length_take] at hfew
    refine CW_skip ?_
    refine CW_seq ?_
    refine CW_block ?_
    refine CW_cutE (fun _ : Unit => ⟨J, (sset (sset (sset (sset noSlots 0 (.d (.sl 3 48 (l.map encE)))) 1 (.d (int ((a0 : Nat) : Int)))) 6 (.row 50)) 7 (.d (int ((i : Nat) : Int)))), (hset noHeap 50 (some (.row 48 4 ((keptX (l.take i) a0).map encK))))⟩) (fun _ => okAt l i = true) ?_ ?_
    · skip
      refine CW_seq ?_
      refine CW_drawn' hE 24 (by decide +kernel) ?_
      refine HW_call hE (base11) rfl rfl rfl rfl rfl rfl rfl rfl ?_
      refine HW_run hE 2 rfl rfl ?_
      refine HW_loc hE (loc_indexAddr hE rfl rfl rfl rfl rfl (by omega) (x := encE x) (by simp [hx])) rfl rfl rfl rfl ?_
      refine HW_run hE 1 rfl rfl ?_
      refine HW_call hE (refIsEOk bS x) rfl rfl rfl rfl rfl rfl rfl rfl ?_
      refine HW_run hE 2 rfl rfl ?_
      refine HW_split 21 rfl (fun h2 => ?_) (fun h2 => ?_)
      · skip
        have g1 : (evtR bS x != 0) = true := h2
        refine HW_run hE 16 rfl rfl ?_
        refine HW_end ?_
        refine OW_run' hE.ok 1 rfl ?_
        refine OW_end rfl ?_
        refine CW_true rfl ?_
        refine CW_seq ?_
        refine CW_region ?_
        refine OW_run' hE.ok 2 rfl ?_
        refine OW.le (LE_nilSlot 4 51 48 4 rfl rfl) ?_
        refine OW_end rfl ?_
        have hbad : okAt l i = false := by unfold okAt; rw [getD_at hx, g1]; rfl
        rw [stream_no hlt hbad]
        exact CW_ret ⟨.inr rfl, rfl, 51, _, rfl, rfl, AVle.refl _⟩
      · skip
        have g1 : (evtR bS x != 0) = false := h2
        refine HW_run hE 3 rfl rfl ?_
        refine HW_split 24 rfl (fun h3 => ?_) (fun h3 => ?_)
        · skip
          have g2 : decide (((i : Nat) : Int) > 0) = true := h3
          have hi0 : 0 < i := by have := g2; simp at this; omega
          obtain ⟨y, hy⟩ : ∃ y, l[i - 1]? = some y := ⟨_, List.getElem?_eq_getElem (by omega)⟩
          refine HW_run hE 3 rfl rfl ?_
          refine HW_as 27 (.d (int ((i - 1 : Nat) : Int))) (by show AV.d (.lit (.int .i64 (IntKind.i64.wrap (((i : Nat) : Int) - 1)))) = _; rw [show (((i : Nat) : Int) - 1) = ((i - 1 : Nat) : Int) by omega, wrapN (by omega)]; rfl) ?_
          refine HW_loc hE (loc_indexAddr hE rfl rfl rfl rfl rfl (by omega) (x := encE y) (by simp [hy])) rfl rfl rfl rfl ?_
          refine HW_run hE 4 rfl rfl ?_
          refine HW_loc hE (loc_indexAddr hE rfl rfl rfl rfl rfl (by omega) (x := encE x) (by simp [hx])) rfl rfl rfl rfl ?_
          refine HW_run hE 4 rfl rfl ?_
          refine HW_end ?_
          refine OW_run' hE.ok 1 rfl ?_
          refine OW_end rfl ?_
          refine CW_cond _ rfl (fun h4 => ?_) (fun h4 => ?_)
          · skip
            have g3 : decide (y.ts > x.ts) = true := h4
            refine CW_seq ?_
            refine CW_region ?_
            refine OW_run' hE.ok 2 rfl ?_
            refine OW.le (LE_nilSlot 4 51 48 4 rfl rfl) ?_
            refine OW_end rfl ?_
            have hbad : okAt l i = false := by unfold okAt; rw [getD_at hx, getD_at hy, g1, show decide (i > 0) = decide (((i : Nat) : Int) > 0) from decide_eq_decide.2 (by omega), g2, g3]; rfl
            rw [stream_no hlt hbad]
            exact CW_ret ⟨.inr rfl, rfl, 51, _, rfl, rfl, AVle.refl _⟩
          · skip
            have g3 : decide (y.ts > x.ts) = false := h4
            refine CW_skip ?_
            exact ⟨(), by unfold okAt; rw [getD_at hx, getD_at hy, g1, show decide (i > 0) = decide (((i : Nat) : Int) > 0) from decide_eq_decide.2 (by omega), g2, g3]; rfl, LE_sh (slh_set (v := .d (int ((i : Nat) : Int))) (slh_set (v := .row 50) (slh_set (v := .d (int ((a0 : Nat) : Int))) (slh_set (v := .d (.sl 3 48 (l.map encE))) (slh_no _ _) (by rfl) rfl) (by rfl) rfl) (by rfl) rfl) (by rfl) rfl) (hlh_set (hlh_no _ _) (congrArg (fun z => some (Ent.row 48 4 z)) (rfl)) rfl)⟩
        · skip
          have g2 : decide (((i : Nat) : Int) > 0) = false := h3
          refine HW_run hE 13 rfl rfl ?_
          refine HW_end ?_
          refine OW_run' hE.ok 1 rfl ?_
          refine OW_end rfl ?_
          refine CW_false rfl ?_
          refine CW_skip ?_
          exact ⟨(), by unfold okAt; rw [getD_at hx, g1, show decide (i > 0) = decide (((i : Nat) : Int) > 0) from decide_eq_decide.2 (by omega), g2]; rfl, LE_sh (slh_set (v := .d (int ((i : Nat) : Int))) (slh_set (v := .row 50) (slh_set (v := .d (int ((a0 : Nat) : Int))) (slh_set (v := .d (.sl 3 48 (l.map encE))) (slh_no _ _) (by rfl) rfl) (by rfl) rfl) (by rfl) rfl) (by rfl) rfl) (hlh_set (hlh_no _ _) (congrArg (fun z => some (Ent.row 48 4 z)) (rfl)) rfl)⟩
    · skip
      rintro _ hok
      refine CW_region ?_
      refine OW_run' hE.ok 4 rfl ?_
      refine OW_as' 42 (.d (int ((a0 + i : Nat) : Int))) (by show AV.d (.lit (.int .i64 (IntKind.i64.wrap (((a0 : Nat) : Int) + ((i : Nat) : Int))))) = _; rw [show (((a0 : Nat) : Int) + ((i : Nat) : Int)) = ((a0 + i : Nat) : Int) by omega, wrapN (by omega)]; rfl) ?_
      refine OW_run' hE.ok 1 rfl ?_
      refine OW_run' hE.ok 1 rfl ?_
      refine OW_loc' hE (loc_indexAddr hE rfl rfl rfl rfl rfl (by omega) (x := encE x) (by simp [hx])) rfl rfl rfl ?_
      refine OW_run' hE.ok 1 rfl ?_
      refine OW_build' hE rfl rfl rfl rfl rfl ?_
      refine OW_loc' hE (loc_lits hE (t := 46) (len := 1) (parts := #[(0, .tmp 47)]) rfl rfl rfl rfl rfl rfl rfl rfl (xs := [encK ⟨((a0 + i : Nat) : Int), x⟩]) rfl) rfl rfl rfl ?_
      refine OW_append' hE (key := 50) rfl rfl rfl rfl rfl rfl rfl rfl (.inl rfl) (by simp; omega) (by simp; omega) rfl ?_
      refine OW_run' hE.ok 1 rfl ?_
      refine OW_end rfl ?_
      refine CW_region ?_
      refine OW_run' hE.ok 3 rfl ?_
      refine OW_end rfl ?_
      refine ⟨⟨i + 1, by omega, fun j hj => ?_⟩, LE_sh (slh_set (v := .d (int ((i + 1 : Nat) : Int))) (slh_set (v := .row 50) (slh_set (v := .d (int ((a0 : Nat) : Int))) (slh_set (v := .d (.sl 3 48 (l.map encE))) (slh_no _ _) (by rfl) rfl) (by rfl) rfl) (by rfl) rfl) (by show AV.d (.lit (.int .i64 (IntKind.i64.wrap ((i : Int) + 1)))) = _; rw [wrap_succ (by omega)]; rfl) rfl) (hlh_set (hlh_no _ _) (congrArg (fun z => some (Ent.row 48 4 z)) (by rw [kept_snoc hx, List.map_append]; rfl)) rfl), by show l.length - (i + 1) < l.length - i; omega⟩
      by_cases hji : j = i
      · subst hji; exact hok
      · exact hq j (by omega)
  · skip
    have hge : l.length ≤ i := by have := h1; rw [List.length_map] at this; simp at this; omega
    refine CW_exit ?_
    show CW _ _ _ _
    refine CW_seq ?_
    refine CW_region ?_
    refine OW_run' hE.ok 3 rfl ?_
    refine OW_end rfl ?_
    have hh : l.take i = l := List.take_of_length_le hge
    rw [stream_yes fun j hj => hq j (by omega)]
    exact CW_ret ⟨.inr rfl, rfl, 50, _, rfl, by show some (Ent.row _ _ _) = _; rw [hh], AVle.refl _⟩
end Go.Proofs.Ytojnicnbmgiplaa
namespace Go.Proofs.Ytojnicnbmgiplaa
open Go Go.AL
set_option linter.unusedVariables false
set_option linter.unusedSimpArgs false
set_option maxHeartbeats 4000000
end Go.Proofs.Ytojnicnbmgiplaa
namespace Go.Proofs.Ytojnicnbmgiplaa
open Go Go.AL
set_option linter.unusedVariables false
set_option linter.unusedSimpArgs false
set_option maxHeartbeats 4000000
end Go.Proofs.Ytojnicnbmgiplaa
