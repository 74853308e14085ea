/- Parts of an abstract logic over the kit's walks, and walks in it: L1s, L1k. -/
import Derived.Test.YtencfmpapdnnaaaYg
import Derived.Test.YtencfmpapdnnaaaBa
namespace Go.Proofs.Ytencfmpapdnnaaa
open Go Go.AL
set_option linter.unusedVariables false
set_option linter.unusedSimpArgs false
set_option maxHeartbeats 4000000
theorem lit11 (c : Int) : Does Try.prog 22 [.d (int c)] noHeap (argX (litX c)) := by
  refine Does_of T_ok mixed (N := 6) Try.func22 rfl rfl rfl (by rfl) fun F n Z hE hF J => ?_
  refine CW_seq ?_
  refine CW_region ?_
  refine OW_alloc' hE 1 rfl rfl rfl rfl rfl rfl rfl ?_
  refine OW_end rfl ?_
  refine CW_seq ?_
  refine CW_region ?_
  refine OW_run' hE.ok 1 rfl ?_
  refine OW_build' hE rfl rfl rfl rfl rfl ?_
  refine OW_build' hE rfl rfl rfl rfl rfl ?_
  refine OW_store' hE rfl rfl rfl rfl rfl rfl rfl rfl rfl rfl rfl rfl ?_
  refine OW_end rfl ?_
  refine CW_ret ?_
  refine ⟨.inr rfl, rfl, ⟨_, rfl, rfl, ?_⟩, rfl⟩
  exact AVle.agg (.cons (.refl _) (.cons (.refl _) (.cons (.refl _) (.cons (.refl _) (.cons (.refl _) (.cons (.refl _) (.cons (.nilSl 7 96) .nil)))))))

theorem field11 (a f : ByteArray) : Does Try.prog 27 [.d (str a), .d (str f)] noHeap (argX (fldX a f)) := by
  refine Does_of T_ok mixed (N := 8) Try.func27 rfl rfl rfl (by rfl) fun F n Z hE hF J => ?_
  refine CW_seq ?_
  refine CW_region ?_
  refine OW_alloc' hE 1 rfl rfl rfl rfl rfl rfl rfl ?_
  refine OW_end rfl ?_
  refine CW_seq ?_
  refine CW_region ?_
  refine OW_run' hE.ok 2 rfl ?_
  refine OW_build' hE rfl rfl rfl rfl rfl ?_
  refine OW_store' hE rfl rfl rfl rfl rfl rfl rfl rfl rfl rfl rfl rfl ?_
  refine OW_end rfl ?_
  refine CW_ret ?_
  refine ⟨.inr rfl, rfl, ⟨_, rfl, rfl, ?_⟩, rfl⟩
  exact AVle.agg (.cons (.refl _) (.cons (.refl _) (.cons (.refl _) (.cons (.refl _) (.cons (.refl _) (.cons (.refl _) (.cons (.nilSl 7 96) .nil)))))))

theorem two11 (op : Int) (x y : Exp) : Does Try.prog 21 [.d (int op), argX x, argX y] noHeap (argX (twoX op x y)) := by
  refine Does_of T_ok mixed (N := 12) Try.func21 rfl rfl rfl (by rfl) fun F n Z hE hF J => ?_
  obtain ⟨o1, v1, a1, f1, k1⟩ := x
  obtain ⟨o2, v2, a2, f2, k2⟩ := y
  refine CW_seq ?_
  refine CW_region ?_
  refine OW_run' hE.ok 2 rfl ?_
  refine OW_alloc' hE 1 rfl rfl rfl rfl rfl rfl rfl ?_
  refine OW_end rfl ?_
  refine CW_seq ?_
  refine CW_region ?_
  refine OW_run' hE.ok 3 rfl ?_
  refine OW_lits' hE rfl rfl rfl rfl rfl rfl rfl rfl rfl rfl rfl rfl ?_
  refine OW_build' hE rfl rfl rfl rfl rfl ?_
  refine OW_store' hE rfl rfl rfl rfl rfl rfl rfl rfl rfl rfl rfl rfl ?_
  refine OW_end rfl ?_
  refine CW_ret ?_
  refine ⟨.inr rfl, rfl, ⟨_, rfl, rfl, ?_⟩, rfl⟩
  exact AVle.refl _

theorem base11  : Does Try.prog 20 [] noHeap (argS bS) := by
  refine Does_of T_ok mixed (N := 11) Try.func20 rfl rfl rfl (by rfl) fun F n Z hE hF J => ?_
  refine CW_seq ?_
  refine CW_region ?_
  refine OW_alloc' hE 1 rfl rfl rfl rfl rfl rfl rfl ?_
  refine OW_end rfl ?_
  refine CW_seq ?_
  refine CW_region ?_
  refine OW_build' hE rfl rfl rfl rfl rfl ?_
  refine OW_build' hE rfl rfl rfl rfl rfl ?_
  refine OW_build' hE rfl rfl rfl rfl rfl ?_
  refine OW_lits' hE rfl rfl rfl rfl rfl rfl rfl rfl rfl rfl rfl rfl ?_
  refine OW_build' hE rfl rfl rfl rfl rfl ?_
  refine OW_build' hE rfl rfl rfl rfl rfl ?_
  refine OW_lits' hE rfl rfl rfl rfl rfl rfl rfl rfl rfl rfl rfl rfl ?_
  refine OW_build' hE rfl rfl rfl rfl rfl ?_
  refine OW_lits' hE rfl rfl rfl rfl rfl rfl rfl rfl rfl rfl rfl rfl ?_
  refine OW_build' hE rfl rfl rfl rfl rfl ?_
  refine OW_store' hE rfl rfl rfl rfl rfl rfl rfl rfl rfl rfl rfl rfl ?_
  refine OW_end rfl ?_
  refine CW_ret ?_
  refine ⟨.inr rfl, rfl, ⟨_, rfl, rfl, ?_⟩, rfl⟩
  exact AVle.refl _

theorem holdsOk (s : List Ty) (x : Exp) (l : List Bi) : Does Try.prog 23 [argS s, argX x, .d (.sl 4 64 (l.map encBi))] noHeap (.d (boo (holdsX s l x))) := by
  refine Does_of T_ok mixed (N := 26) Try.func23 rfl rfl rfl (by rfl) fun F n Z hE hF J => ?_
  have hs := sameXOk x zeroX
  have he := evalOk s x l
  obtain ⟨r, hr⟩ : ∃ r, evalX s l x = r := ⟨_, rfl⟩
  rw [hr] at he
  have hh : holdsX s l x = (sameX x zeroX || (r.2 == 0 && sameV r.1 (truthV true))) := by unfold holdsX; rw [hr]
  rw [hh]
  clear hh hr
  obtain ⟨o1, v1, c1, f1, k1, rfl⟩ := Exp.shape x
  obtain ⟨sm, hsm⟩ : ∃ sm, sameX (.mk o1 v1 c1 f1 k1) zeroX = sm := ⟨_, rfl⟩
  rw [hsm] at hs
  rw [hsm]
  refine CW_seq ?_
  refine CW_region ?_
  refine OW_run' hE.ok 3 rfl ?_
  refine OW_end rfl ?_
  refine CW_seq ?_
  refine CW_seq ?_
  refine CW_region ?_
  refine OW_run' hE.ok 1 rfl ?_
  refine OW_build' hE rfl rfl rfl rfl rfl ?_
  refine OW.le (LE_slot 10 (argX zeroX) nilX_le) ?_
  refine OW_call' hE (hs) rfl rfl rfl rfl rfl rfl rfl ?_
  refine OW_end rfl ?_
  refine CW_cond _ rfl (fun h1 => ?_) (fun h1 => ?_)
  · skip
    have g1 : sm = true := h1
    refine CW_seq ?_
    refine CW_region ?_
    refine OW_run' hE.ok 1 rfl ?_
    refine OW_end rfl ?_
    refine CW_ret ?_
    refine ⟨.inr rfl, rfl, ⟨[.d (boo true)], rfl, rfl, ?_⟩, rfl⟩
    exact AVle.of (congrArg (fun b => AV.d (boo b)) (by rw [g1]; rfl))
  · skip
    have g1 : sm = false := h1
    refine CW_skip ?_
    refine CW_cutE (fun _ : Unit => ⟨J, (sset (sset noSlots 7 (.ptr 1 0)) 8 (.d (errC 45 r.2))), (hset noHeap 1 (some (.box 25 ((encV r.1).map .d))))⟩) (fun _ => True) ?_ ?_
    · skip
      refine CW_region ?_
      refine OW_run' hE.ok 3 rfl ?_
      refine OW_call' hE (he) rfl rfl rfl rfl rfl rfl rfl ?_
      refine OW_run' hE.ok 3 rfl ?_
      refine OW_alloc' hE 1 rfl rfl rfl rfl rfl rfl rfl ?_
      refine OW_store' hE rfl rfl rfl rfl rfl rfl rfl rfl rfl rfl rfl rfl ?_
      refine OW_run' hE.ok 1 rfl ?_
      refine OW_end rfl ?_
      exact ⟨(), trivial, LE_sh (slh_set (v := .d (errC 45 r.2)) (slh_set (v := .ptr 1 0) (slh_no _ _) (by rfl) rfl) (by rfl) rfl) (hlh_set (hlh_no _ _) rfl rfl)⟩
    · skip
      rintro _ _
      cases hz : (r.2 == 0)
      · skip
        rw [show errC 45 r.2 = errN 45 r.2 by unfold errC; rw [hz]; rfl]
        refine CW_seq ?_
        refine CW_drawn' hE 5 (by decide +kernel) ?_
        refine HW_run hE 5 rfl rfl ?_
        refine HW_end ?_
        refine OW_run' hE.ok 3 rfl ?_
        refine OW_end rfl ?_
        refine CW_ret ?_
        refine ⟨.inr rfl, rfl, ⟨[.d (boo false)], rfl, rfl, ?_⟩, rfl⟩
        exact AVle.of (congrArg (fun b => AV.d (boo b)) (by rw [g1]; rfl))
      · skip
        rw [show errC 45 r.2 = nilE by unfold errC; rw [hz]; rfl]
        refine CW_seq ?_
        refine CW_drawn' hE 5 (by decide +kernel) ?_
        refine HW_run hE 4 rfl rfl ?_
        refine HW_call hE (truthOk true) rfl rfl rfl rfl rfl rfl rfl rfl ?_
        refine HW_end ?_
        refine OW_loc' hE (loc_eql rfl rfl rfl (r := sameV r.1 (truthV true)) (eqLaw_flat T_ok (t := 25) rfl (by decide +kernel) rfl (X := encV r.1) (Y := encV (truthV true)) rfl rfl rfl)) rfl rfl rfl ?_
        refine OW_run' hE.ok 2 rfl ?_
        refine OW_end rfl ?_
        refine CW_ret ?_
        refine ⟨.inr rfl, rfl, ⟨[.d (boo (sameV r.1 (truthV true)))], rfl, rfl, ?_⟩, rfl⟩
        exact AVle.of (congrArg (fun b => AV.d (boo b)) (by rw [g1]; simp))
end Go.Proofs.Ytencfmpapdnnaaa
namespace Go.Proofs.Ytencfmpapdnnaaa
open Go Go.AL
set_option linter.unusedVariables false
set_option linter.unusedSimpArgs false
set_option maxHeartbeats 4000000
theorem known11  : Does Try.prog 18 [] noHeap (.d (boo true)) := by
  refine Does_of T_ok mixed (N := 73) Try.func18 rfl rfl rfl (by rfl) fun F n Z hE hF J => ?_
  have q0 := evalOk bS (twoX 5 (fldX (ch 97) (ch 110)) (litX 4)) lB; rw [ek1] at q0
  have q1 := Does_le (AVles.cons (AVle.refl _) (AVles.cons (AVle.refl _) (AVles.cons nilB_le AVles.nil))) (evalOk bS (twoX 3 (litX 9223372036854775807) (litX 1)) []); rw [ek2] at q1
  have q2 := evalOk bS (fldX (ch 122) (ch 110)) lB; rw [ek3] at q2
  have q3 := Does_le (AVles.cons (AVle.refl _) (AVles.cons nilX_le (AVles.cons nilB_le AVles.nil))) (holdsOk bS zeroX []); rw [ek4] at q3
  have q4 := holdsOk bS (twoX 8 (fldX (ch 97) (ch 110)) (litX 4)) lB; rw [ek5] at q4
  have q5 := Does_le (AVles.cons (AVle.refl _) (AVles.cons (AVle.refl _) (AVles.cons nilB_le AVles.nil))) (holdsOk bS (litX 1) []); rw [ek6] at q5
  refine CW_seq ?_
  refine CW_region ?_
  refine OW_run' hE.ok 1 rfl ?_
  refine OW_end rfl ?_
  refine CW_seq ?_
  refine CW_region ?_
  refine OW_build' hE rfl rfl rfl rfl rfl ?_
  refine OW_lits' hE rfl rfl rfl rfl rfl rfl rfl rfl rfl rfl rfl rfl ?_
  refine OW_build' hE rfl rfl rfl rfl rfl ?_
  refine OW_build' hE rfl rfl rfl rfl rfl ?_
  refine OW_lits' hE rfl rfl rfl rfl rfl rfl rfl rfl rfl rfl rfl rfl ?_
  refine OW_run' hE.ok 1 rfl ?_
  refine OW_end rfl ?_
  refine CW_seq ?_
  refine CW_region ?_
  refine OW_call' hE (base11) rfl rfl rfl rfl rfl rfl rfl ?_
  refine OW_call' hE (field11 (ch 97) (ch 110)) rfl rfl rfl rfl rfl rfl rfl ?_
  refine OW_call' hE (lit11 4) rfl rfl rfl rfl rfl rfl rfl ?_
  refine OW_call' hE (two11 5 (fldX (ch 97) (ch 110)) (litX 4)) rfl rfl rfl rfl rfl rfl rfl ?_
  refine OW_run' hE.ok 1 rfl ?_
  refine OW_call' hE (q0) rfl rfl rfl rfl rfl rfl rfl ?_
  refine OW_run' hE.ok 3 rfl ?_
  refine OW_alloc' hE 1 rfl rfl rfl rfl rfl rfl rfl ?_
  refine OW_store' hE rfl rfl rfl rfl rfl rfl rfl rfl rfl rfl rfl rfl ?_
  refine OW_run' hE.ok 1 rfl ?_
  refine OW_end rfl ?_
  refine CW_seq ?_
  refine CW_region ?_
  refine OW_call' hE (base11) rfl rfl rfl rfl rfl rfl rfl ?_
  refine OW_call' hE (lit11 9223372036854775807) rfl rfl rfl rfl rfl rfl rfl ?_
  refine OW_call' hE (lit11 1) rfl rfl rfl rfl rfl rfl rfl ?_
  refine OW_call' hE (two11 3 (litX 9223372036854775807) (litX 1)) rfl rfl rfl rfl rfl rfl rfl ?_
  refine OW_call' hE (q1) rfl rfl rfl rfl rfl rfl rfl ?_
  refine OW_run' hE.ok 3 rfl ?_
  refine OW_alloc' hE 2 rfl rfl rfl rfl rfl rfl rfl ?_
  refine OW_store' hE rfl rfl rfl rfl rfl rfl rfl rfl rfl rfl rfl rfl ?_
  refine OW_run' hE.ok 1 rfl ?_
  refine OW_end rfl ?_
  refine CW_seq ?_
  refine CW_region ?_
  refine OW_call' hE (base11) rfl rfl rfl rfl rfl rfl rfl ?_
  refine OW_call' hE (field11 (ch 122) (ch 110)) rfl rfl rfl rfl rfl rfl rfl ?_
  refine OW_run' hE.ok 1 rfl ?_
  refine OW_call' hE (q2) rfl rfl rfl rfl rfl rfl rfl ?_
  refine OW_run' hE.ok 3 rfl ?_
  refine OW_alloc' hE 3 rfl rfl rfl rfl rfl rfl rfl ?_
  refine OW_store' hE rfl rfl rfl rfl rfl rfl rfl rfl rfl rfl rfl rfl ?_
  refine OW_run' hE.ok 1 rfl ?_
  refine OW_end rfl ?_
  refine CW_seq ?_
  refine CW_region ?_
  refine OW_run' hE.ok 4 rfl ?_
  refine OW_build' hE rfl rfl rfl rfl rfl ?_
  refine OW_loc' hE (loc_eql rfl rfl rfl (r := sameV ⟨1, 12, nul⟩ ⟨1, 12, nul⟩) (eqLaw_flat T_ok (t := 25) rfl (by decide +kernel) rfl (X := encV ⟨1, 12, nul⟩) (Y := encV ⟨1, 12, nul⟩) rfl rfl rfl)) rfl rfl rfl ?_
  refine OW_as' 42 (.d (boo true)) (by exact congrArg (fun b => AV.d (boo b)) (sameV_rfl _)) ?_
  refine OW_run' hE.ok 4 rfl ?_
  refine OW_call' hE (errIs 16 16) rfl rfl rfl rfl rfl rfl rfl ?_
  refine OW_run' hE.ok 4 rfl ?_
  refine OW_call' hE (errIs 13 13) rfl rfl rfl rfl rfl rfl rfl ?_
  refine OW_run' hE.ok 2 rfl ?_
  refine OW_call' hE (base11) rfl rfl rfl rfl rfl rfl rfl ?_
  refine OW_build' hE rfl rfl rfl rfl rfl ?_
  refine OW_call' hE (q3) rfl rfl rfl rfl rfl rfl rfl ?_
  refine OW_run' hE.ok 2 rfl ?_
  refine OW_call' hE (base11) rfl rfl rfl rfl rfl rfl rfl ?_
  refine OW_call' hE (field11 (ch 97) (ch 110)) rfl rfl rfl rfl rfl rfl rfl ?_
  refine OW_call' hE (lit11 4) rfl rfl rfl rfl rfl rfl rfl ?_
  refine OW_call' hE (two11 8 (fldX (ch 97) (ch 110)) (litX 4)) rfl rfl rfl rfl rfl rfl rfl ?_
  refine OW_run' hE.ok 1 rfl ?_
  refine OW_call' hE (q4) rfl rfl rfl rfl rfl rfl rfl ?_
  refine OW_run' hE.ok 2 rfl ?_
  refine OW_call' hE (base11) rfl rfl rfl rfl rfl rfl rfl ?_
  refine OW_call' hE (lit11 1) rfl rfl rfl rfl rfl rfl rfl ?_
  refine OW_call' hE (q5) rfl rfl rfl rfl rfl rfl rfl ?_
  refine OW_run' hE.ok 3 rfl ?_
  refine OW_end rfl ?_
  refine CW_ret ?_
  refine ⟨.inr rfl, rfl, ⟨[.d (boo true)], rfl, rfl, ?_⟩, rfl⟩
  exact AVle.refl _
end Go.Proofs.Ytencfmpapdnnaaa
