/- Parts of an abstract logic over the kit's walks, and walks in it: P4nk. -/
import Derived.Test.YtojnicnbmgiplaaP4ns
import Derived.Test.YtojnicnbmgiplaaP4nm
import Derived.Test.YtojnicnbmgiplaaP4nu
import Derived.Test.YtojnicnbmgiplaaNeed3
namespace Go.Proofs.Ytojnicnbmgiplaa
open Go Go.AL
set_option linter.unusedVariables false
set_option linter.unusedSimpArgs false
set_option maxHeartbeats 4000000
theorem lit13 (c : Int) : Does Try.prog 36 [.d (int c)] noHeap (argX (litX c)) := by
  refine Does_of T_ok mixed (N := 6) Try.func36 rfl rfl rfl (by rfl) fun F n Z hE hF J => ?_
  refine CW_seq ?_
  refine CW_region ?_
  refine OW_alloc' hE 1 rfl rfl rfl rfl rfl rfl rfl ?_
  refine OW_end rfl ?_
  refine CW_seq ?_
  refine CW_region ?_
  refine OW_run' hE.ok 1 rfl ?_
  refine OW_build' hE rfl rfl rfl rfl rfl ?_
  refine OW_build' hE rfl rfl rfl rfl rfl ?_
  refine OW_store' hE rfl rfl rfl rfl rfl rfl rfl rfl rfl rfl rfl rfl ?_
  refine OW_end rfl ?_
  refine CW_ret ?_
  refine ⟨.inr rfl, rfl, ⟨_, rfl, rfl, ?_⟩, rfl⟩
  exact AVle.agg (.cons (.refl _) (.cons (.refl _) (.cons (.refl _) (.cons (.refl _) (.cons (.refl _) (.cons (.refl _) (.cons (.nilSl 7 96) .nil)))))))

theorem field13 (a f : ByteArray) : Does Try.prog 35 [.d (str a), .d (str f)] noHeap (argX (fldX a f)) := by
  refine Does_of T_ok mixed (N := 8) Try.func35 rfl rfl rfl (by rfl) fun F n Z hE hF J => ?_
  refine CW_seq ?_
  refine CW_region ?_
  refine OW_alloc' hE 1 rfl rfl rfl rfl rfl rfl rfl ?_
  refine OW_end rfl ?_
  refine CW_seq ?_
  refine CW_region ?_
  refine OW_run' hE.ok 2 rfl ?_
  refine OW_build' hE rfl rfl rfl rfl rfl ?_
  refine OW_store' hE rfl rfl rfl rfl rfl rfl rfl rfl rfl rfl rfl rfl ?_
  refine OW_end rfl ?_
  refine CW_ret ?_
  refine ⟨.inr rfl, rfl, ⟨_, rfl, rfl, ?_⟩, rfl⟩
  exact AVle.agg (.cons (.refl _) (.cons (.refl _) (.cons (.refl _) (.cons (.refl _) (.cons (.refl _) (.cons (.refl _) (.cons (.nilSl 7 96) .nil)))))))

theorem two13 (op : Int) (x y : Exp) : Does Try.prog 34 [.d (int op), argX x, argX y] noHeap (argX (twoX op x y)) := by
  refine Does_of T_ok mixed (N := 12) Try.func34 rfl rfl rfl (by rfl) fun F n Z hE hF J => ?_
  obtain ⟨o1, v1, a1, f1, k1⟩ := x
  obtain ⟨o2, v2, a2, f2, k2⟩ := y
  refine CW_seq ?_
  refine CW_region ?_
  refine OW_run' hE.ok 2 rfl ?_
  refine OW_alloc' hE 1 rfl rfl rfl rfl rfl rfl rfl ?_
  refine OW_end rfl ?_
  refine CW_seq ?_
  refine CW_region ?_
  refine OW_run' hE.ok 3 rfl ?_
  refine OW_lits' hE rfl rfl rfl rfl rfl rfl rfl rfl rfl rfl rfl rfl ?_
  refine OW_build' hE rfl rfl rfl rfl rfl ?_
  refine OW_store' hE rfl rfl rfl rfl rfl rfl rfl rfl rfl rfl rfl rfl ?_
  refine OW_end rfl ?_
  refine CW_ret ?_
  refine ⟨.inr rfl, rfl, ⟨_, rfl, rfl, ?_⟩, rfl⟩
  exact AVle.refl _

theorem base13  : Does Try.prog 21 [] noHeap (argS bS) := by
  refine Does_of T_ok mixed (N := 11) Try.func21 rfl rfl rfl (by rfl) fun F n Z hE hF J => ?_
  refine CW_seq ?_
  refine CW_region ?_
  refine OW_alloc' hE 1 rfl rfl rfl rfl rfl rfl rfl ?_
  refine OW_end rfl ?_
  refine CW_seq ?_
  refine CW_region ?_
  refine OW_build' hE rfl rfl rfl rfl rfl ?_
  refine OW_build' hE rfl rfl rfl rfl rfl ?_
  refine OW_build' hE rfl rfl rfl rfl rfl ?_
  refine OW_lits' hE rfl rfl rfl rfl rfl rfl rfl rfl rfl rfl rfl rfl ?_
  refine OW_build' hE rfl rfl rfl rfl rfl ?_
  refine OW_build' hE rfl rfl rfl rfl rfl ?_
  refine OW_lits' hE rfl rfl rfl rfl rfl rfl rfl rfl rfl rfl rfl rfl ?_
  refine OW_build' hE rfl rfl rfl rfl rfl ?_
  refine OW_lits' hE rfl rfl rfl rfl rfl rfl rfl rfl rfl rfl rfl rfl ?_
  refine OW_build' hE rfl rfl rfl rfl rfl ?_
  refine OW_store' hE rfl rfl rfl rfl rfl rfl rfl rfl rfl rfl rfl rfl ?_
  refine OW_end rfl ?_
  refine CW_ret ?_
  refine ⟨.inr rfl, rfl, ⟨_, rfl, rfl, ?_⟩, rfl⟩
  exact AVle.refl _

theorem known13Ok  : Does Try.prog 9 [] noHeap (.d (boo true)) := by
  refine Does_of T_ok mixed (N := 47) Try.func9 rfl rfl rfl (by rfl) fun F n Z hE hF J => ?_
  have qU := usesOk bS pK13 k13_few k13_tys (by rw [k13_all]; exact (by decide : (4 : Nat) ≤ 1000000))
  obtain ⟨ux, hux⟩ : ∃ ux, usesX pK13 = ux := ⟨_, rfl⟩
  rw [hux] at qU
  have hu2 : ux = [uTN, uUN] := hux.symm.trans k13_uses
  have hul : ux.length = 2 := by rw [hu2]; rfl
  have qT := trimOk bS ux eK13
  obtain ⟨tE, htE⟩ : ∃ tE, trimX bS ux eK13 = tE := ⟨_, rfl⟩
  rw [htE] at qT
  have hte : sameEv tE fK13 = true := by rw [← htE, hu2]; exact k13_trim
  have qS := sameUsOk ux [uTN, uUN]
  rw [show sameUs ux [uTN, uUN] = true by rw [hu2]; exact k13_same] at qS
  have qH := hasUOk ux uUN
  rw [show hasU ux uUN = true by rw [hu2]; exact k13_has] at qH
  have qN := hasUOk ux ⟨ch 116, ch 98⟩
  rw [show hasU ux ⟨ch 116, ch 98⟩ = false by rw [hu2]; exact k13_not] at qN
  have qE := refSameEOk tE fK13
  rw [hte] at qE
  clear hu2 hux htE hte
  refine CW_seq ?_
  refine CW_region ?_
  refine OW_run' hE.ok 1 rfl ?_
  refine OW_end rfl ?_
  refine CW_seq ?_
  refine CW_region ?_
  refine OW_lits' hE rfl rfl rfl rfl rfl rfl rfl rfl rfl rfl rfl rfl ?_
  refine OW_call' hE (field13 (ch 97) (ch 110)) rfl rfl rfl rfl rfl rfl rfl ?_
  refine OW_call' hE (lit13 3) rfl rfl rfl rfl rfl rfl rfl ?_
  refine OW_call' hE (two13 8 (fldX (ch 97) (ch 110)) (litX 3)) rfl rfl rfl rfl rfl rfl rfl ?_
  refine OW_build' hE rfl rfl rfl rfl rfl ?_
  refine OW_lits' hE rfl rfl rfl rfl rfl rfl rfl rfl rfl rfl rfl rfl ?_
  refine OW_build' hE rfl rfl rfl rfl rfl ?_
  refine OW_alloc' hE 1 rfl rfl rfl rfl rfl rfl rfl ?_
  refine OW_store' hE rfl rfl rfl rfl rfl rfl rfl rfl rfl rfl rfl rfl ?_
  refine OW.le (LE_freezeBox 1 (ds := encP pK13) rfl rfl) ?_
  refine OW_end rfl ?_
  refine CW_seq ?_
  refine CW_drawn' hE 2 (by decide +kernel) ?_
  refine HW_call hE (base13) rfl rfl rfl rfl rfl rfl rfl rfl ?_
  refine HW_run hE 1 rfl rfl ?_
  refine HW_end ?_
  refine OW_callRow' hE 60 qU rfl rfl rfl rfl rfl rfl rfl ?_
  refine OW_run' hE.ok 1 rfl ?_
  refine OW.le (LE_freeze 60 32 rfl (by rw [List.length_map, hul]; decide)) ?_
  refine OW_end rfl ?_
  refine CW_seq ?_
  refine CW.le (show LE _ _ ⟨J, (sset noSlots 2 (.d (.sl 2 32 (ux.map encU)))), noHeap⟩ from LE_sh (slh_set (v := .d (.sl 2 32 (ux.map encU))) (slh_no _ _) (by rfl) rfl) (hlh_no _ _)) ?_
  refine CW_region ?_
  refine OW_call' hE (base13) rfl rfl rfl rfl rfl rfl rfl ?_
  refine OW_run' hE.ok 1 rfl ?_
  refine OW_build' hE rfl rfl rfl rfl rfl ?_
  refine OW_build' hE rfl rfl rfl rfl rfl ?_
  refine OW_build' hE rfl rfl rfl rfl rfl ?_
  refine OW_lits' hE rfl rfl rfl rfl rfl rfl rfl rfl rfl rfl rfl rfl ?_
  refine OW_build' hE rfl rfl rfl rfl rfl ?_
  refine OW_call' hE (qT) rfl rfl rfl rfl rfl rfl rfl ?_
  refine OW_alloc' hE 2 rfl rfl rfl rfl rfl rfl rfl ?_
  refine OW_store' hE rfl rfl rfl rfl rfl rfl rfl rfl rfl rfl rfl rfl ?_
  refine OW.le (LE_freezeBox 2 (ds := encE tE) rfl rfl) ?_
  refine OW_end rfl ?_
  refine CW_seq ?_
  refine CW.le (show LE _ _ ⟨J, (sset (sset noSlots 2 (.d (.sl 2 32 (ux.map encU)))) 3 (.d (.iptr (encE tE)))), noHeap⟩ from LE_sh (slh_set (v := .d (.iptr (encE tE))) (slh_set (v := .d (.sl 2 32 (ux.map encU))) (slh_no _ _) (by rfl) rfl) (by rfl) rfl) (hlh_no _ _)) ?_
  refine CW_region ?_
  refine OW_run' hE.ok 1 rfl ?_
  refine OW_build' hE rfl rfl rfl rfl rfl ?_
  refine OW_build' hE rfl rfl rfl rfl rfl ?_
  refine OW_loc' hE (loc_lits hE (t := 37) (len := 2) (parts := #[(0, .tmp 23), (1, .tmp 24)]) rfl rfl rfl rfl rfl rfl rfl rfl (xs := [uTN, uUN].map encU) rfl) rfl rfl rfl ?_
  refine OW_call' hE (qS) rfl rfl rfl rfl rfl rfl rfl ?_
  refine OW_run' hE.ok 2 rfl ?_
  refine OW_build' hE rfl rfl rfl rfl rfl ?_
  refine OW_call' hE (qH) rfl rfl rfl rfl rfl rfl rfl ?_
  refine OW_run' hE.ok 3 rfl ?_
  refine OW_build' hE rfl rfl rfl rfl rfl ?_
  refine OW_call' hE (qN) rfl rfl rfl rfl rfl rfl rfl ?_
  refine OW_run' hE.ok 4 rfl ?_
  refine OW_build' hE rfl rfl rfl rfl rfl ?_
  refine OW_build' hE rfl rfl rfl rfl rfl ?_
  refine OW_build' hE rfl rfl rfl rfl rfl ?_
  refine OW_lits' hE rfl rfl rfl rfl rfl rfl rfl rfl rfl rfl rfl rfl ?_
  refine OW_build' hE rfl rfl rfl rfl rfl ?_
  refine OW_call' hE (qE) rfl rfl rfl rfl rfl rfl rfl ?_
  refine OW_run' hE.ok 2 rfl ?_
  refine OW_end rfl ?_
  refine CW_ret ?_
  refine ⟨.inr rfl, rfl, ⟨[.d (boo true)], rfl, rfl, ?_⟩, rfl⟩
  exact AVle.refl _
end Go.Proofs.Ytojnicnbmgiplaa
