/- Parts of an abstract logic over the kit's walks, and walks in it: P4do, P4mo, P4mf, P4dp. -/
import Derived.Test.YtojnicnbmgiplaaPxc
import Derived.Test.YtojnicnbmgiplaaMa
import Derived.Test.YtojnicnbmgiplaaAf
import Derived.Test.YtojnicnbmgiplaaKp
import Derived.Test.YtojnicnbmgiplaaAg
namespace Go.Proofs.Ytojnicnbmgiplaa
open Go Go.AL
set_option linter.unusedVariables false
set_option linter.unusedSimpArgs false
set_option maxHeartbeats 4000000
theorem goesOk (s : List Ty) (p : Pat) (l : List Kp) (b : List Bd) (x : Bd) (hr : Rises l) (hf : Fits p b) (hb : b.length ≤ 999) (hl : p.els.length ≤ 1000) : Does Try.prog 65 [argS s, argP p, .d (SK l), .d (SBd b), argBd x] noHeap (.d (boo (goesX s p l b x))) := by
  refine Does_of T_ok mixed (N := 135) Try.func65 rfl rfl rfl (by rfl) fun F n Z hE hF J => ?_
  obtain ⟨xe, xa⟩ := x
  have hat := atOk l xa hr
  obtain ⟨A, hA⟩ : ∃ A, atK l xa = A := ⟨_, rfl⟩
  rw [hA] at hat
  refine CW_seq ?_
  refine CW_region ?_
  refine OW_run' hE.ok 4 rfl ?_
  refine OW_end rfl ?_
  refine CW_seq ?_
  refine CW_region ?_
  refine OW_run' hE.ok 3 rfl ?_
  refine OW_call' hE (hat) rfl rfl rfl rfl rfl rfl rfl ?_
  refine OW_run' hE.ok 3 rfl ?_
  refine OW_alloc' hE 1 rfl rfl rfl rfl rfl rfl rfl ?_
  refine OW_store' hE rfl rfl rfl rfl rfl rfl rfl rfl rfl rfl rfl rfl ?_
  refine OW_run' hE.ok 1 rfl ?_
  refine OW.le (LE_freezeBox 1 (ds := encE A.1) rfl rfl) ?_
  refine OW_end rfl ?_
  refine CW_seq ?_
  refine CW_seq ?_
  refine CW.le (show LE _ _ ⟨J, (sset (sset (sset (sset (sset (sset (sset noSlots 2 (.d (SK l))) 3 (.d (SBd b))) 5 (.d (.iptr [encS s]))) 6 (.d (.iptr (encP p)))) 11 (.d (.iptr (encE A.1)))) 9 (.d (.iptr (encBd ⟨xe, xa⟩)))) 12 (.d (boo A.2))), noHeap⟩ from LE_sh (slh_set (v := .d (boo A.2)) (slh_set (v := .d (.iptr (encBd ⟨xe, xa⟩))) (slh_set (v := .d (.iptr (encE A.1))) (slh_set (v := .d (.iptr (encP p))) (slh_set (v := .d (.iptr [encS s])) (slh_set (v := .d (SBd b)) (slh_set (v := .d (SK l)) (slh_no _ _) (by rfl) rfl) (by rfl) rfl) (by rfl) rfl) (by rfl) rfl) (by rfl) rfl) (by rfl) rfl) (by rfl) rfl) (hlh_no _ _)) ?_
  refine CW_region ?_
  refine OW_run' hE.ok 3 rfl ?_
  refine OW_split' 26 rfl (fun h1 => ?_) (fun h1 => ?_)
  · skip
    have g1 : (!A.2) = true := h1
    refine OW_run' hE.ok 12 rfl ?_
    refine OW_end rfl ?_
    refine CW_true rfl ?_
    refine CW_seq ?_
    refine CW_region ?_
    refine OW_run' hE.ok 1 rfl ?_
    refine OW_end rfl ?_
    refine CW_ret ?_
    refine ⟨.inr rfl, rfl, ⟨_, rfl, rfl, ?_⟩, rfl⟩
    rw [goes_no (by rw [hA]; rw [g1]; rfl)]
    exact AVle.refl _
  · skip
    have g1 : (!A.2) = false := h1
    refine OW_run' hE.ok 5 rfl ?_
    refine OW_split' 31 rfl (fun h2 => ?_) (fun h2 => ?_)
    · skip
      have g2 : decide (xe < 0) = true := h2
      refine OW_run' hE.ok 7 rfl ?_
      refine OW_end rfl ?_
      refine CW_true rfl ?_
      refine CW_seq ?_
      refine CW_region ?_
      refine OW_run' hE.ok 1 rfl ?_
      refine OW_end rfl ?_
      refine CW_ret ?_
      refine ⟨.inr rfl, rfl, ⟨_, rfl, rfl, ?_⟩, rfl⟩
      rw [goes_no (by rw [hA]; rw [g1, g2]; rfl)]
      exact AVle.refl _
    · skip
      have g2 : decide (xe < 0) = false := h2
      refine OW_run' hE.ok 7 rfl ?_
      refine OW_end rfl ?_
      refine CW_cond _ rfl (fun h3 => ?_) (fun h3 => ?_)
      · skip
        have g3 : decide (xe ≥ (p.els.length : Int)) = true := by have := h3; rw [List.length_map] at this; exact this
        refine CW_seq ?_
        refine CW_region ?_
        refine OW_run' hE.ok 1 rfl ?_
        refine OW_end rfl ?_
        refine CW_ret ?_
        refine ⟨.inr rfl, rfl, ⟨_, rfl, rfl, ?_⟩, rfl⟩
        rw [goes_no (by rw [hA]; rw [g1, g2, g3]; rfl)]
        exact AVle.refl _
      · skip
        have g3 : decide (xe ≥ (p.els.length : Int)) = false := by have := h3; rw [List.length_map] at this; exact this
        have c0 : (!(atK l xa).2 || (decide (xe < 0) || decide (xe ≥ (p.els.length : Int)))) = false := by rw [hA, g1, g2, g3]; rfl
        have k0 : 0 ≤ xe ∧ xe < (p.els.length : Int) := by have h1 := g2; have h2 := g3; simp at h1 h2; omega
        refine CW_skip ?_
        refine CW_seq ?_
        refine CW_seq ?_
        refine CW_region ?_
        refine OW_run' hE.ok 3 rfl ?_
        refine OW_end rfl ?_
        refine CW_cond _ rfl (fun h4 => ?_) (fun h4 => ?_)
        · skip
          have hbn : b = [] := by have := h4; rw [List.length_map] at this; simpa using this
          subst hbn
          refine CW_seq ?_
          refine CW_region ?_
          refine OW_run' hE.ok 4 rfl ?_
          refine OW_split' 45 rfl (fun h5 => ?_) (fun h5 => ?_)
          · skip
            have g5 : (xe == 0) = true := h5
            refine OW_run' hE.ok 4 rfl ?_
            refine OW_call' hE ((Does_le (AVles.cons (AVle.refl _) (AVles.cons (AVle.refl _) (AVles.cons (AVle.refl _) (AVles.cons (AVle.nilSl 2 16) (AVles.cons (AVle.refl _) (AVles.cons (AVle.refl _) AVles.nil)))))) (takesOk s p l [] 0 A.1 hr (fun _ h => by cases h) (by simp) (by omega)))) rfl rfl rfl rfl rfl rfl rfl ?_
            refine OW_run' hE.ok 2 rfl ?_
            refine OW_end rfl ?_
            refine CW_ret ?_
            refine ⟨.inr rfl, rfl, ⟨_, rfl, rfl, ?_⟩, rfl⟩
            rw [goes_nil c0, hA, show ((⟨xe, xa⟩ : Bd).el == 0) = true from g5]
            exact AVle.refl _
          · skip
            have g5 : (xe == 0) = false := h5
            refine OW_run' hE.ok 7 rfl ?_
            refine OW_end rfl ?_
            refine CW_ret ?_
            refine ⟨.inr rfl, rfl, ⟨_, rfl, rfl, ?_⟩, rfl⟩
            rw [goes_nil c0, hA, show ((⟨xe, xa⟩ : Bd).el == 0) = false from g5]
            exact AVle.refl _
        · skip
          have hb1 : 0 < b.length := by have := h4; rw [List.length_map] at this; simp at this; cases b with | nil => exact absurd rfl this | cons _ _ => exact Nat.succ_pos _
          obtain ⟨lst, hlst⟩ : ∃ q, b[b.length - 1]? = some q := ⟨_, List.getElem?_eq_getElem (by omega)⟩
          obtain ⟨b0, hb0⟩ : ∃ q, b[0]? = some q := ⟨_, List.getElem?_eq_getElem hb1⟩
          have hla := lastBd_at hlst
          have hat0 := atOk l b0.at_ hr
          obtain ⟨A0, hA0⟩ : ∃ A, atK l b0.at_ = A := ⟨_, rfl⟩
          rw [hA0] at hat0
          have hfe : firstE l b = A0.1 := by rw [firstE_at hb0, hA0]
          have hbe : (b.map encBd)[(0 : Int).toNat]? = some (encBd b0) := by rw [List.getElem?_map]; show (b[0]?).map encBd = _; rw [hb0]; rfl
          obtain ⟨m, el, hm, hel, hex⟩ := hf.at hlst
          obtain ⟨le, la⟩ := lst
          have hm : le = (m : Int) := hm
          subst hm
          obtain ⟨k, rfl⟩ : ∃ k : Nat, xe = (k : Int) := ⟨xe.toNat, by omega⟩
          obtain ⟨sm, hsm⟩ : ∃ sm, (((k : Nat) : Int) == ((m : Nat) : Int) && el.plus) = sm := ⟨_, rfl⟩
          have hgo := goes_on (s := s) (x := ⟨((k : Nat) : Int), xa⟩) (sm := sm) c0 (by cases b with | nil => cases hb1 | cons _ _ => rfl) hla hfe (by show (((k : Nat) : Int) == ((m : Nat) : Int) && (elX p ((m : Nat) : Int)).plus) = _; rw [show elX p ((m : Nat) : Int) = el from hex]; exact hsm)
          simp only [hA] at hgo
          refine CW_skip ?_
          refine CW_seq ?_
          refine CW_region ?_
          refine OW_run' hE.ok 4 rfl ?_
          refine OW_as' 55 (.d (int ((b.length - 1 : Nat) : Int))) (by show AV.d (.lit (.int .i64 (IntKind.i64.wrap (((b.map encBd).length : Int) - 1)))) = _; rw [List.length_map, show ((b.length : Int) - 1) = ((b.length - 1 : Nat) : Int) by omega, wrapN (by omega)]; rfl) ?_
          refine OW_loc' hE (loc_indexAddr hE rfl rfl rfl rfl rfl (by omega) (x := encBd ⟨((m : Nat) : Int), la⟩) (by rw [Int.toNat_natCast, List.getElem?_map, hlst]; rfl)) rfl rfl rfl ?_
          refine OW_run' hE.ok 1 rfl ?_
          refine OW_alloc' hE 2 rfl rfl rfl rfl rfl rfl rfl ?_
          refine OW_store' hE rfl rfl rfl rfl rfl rfl rfl rfl rfl rfl rfl rfl ?_
          refine OW.le (LE_freezeBox 2 (ds := encBd ⟨((m : Nat) : Int), la⟩) rfl rfl) ?_
          refine OW_end rfl ?_
          refine CW_seq ?_
          refine CW_region ?_
          refine OW_run' hE.ok 2 rfl ?_
          refine OW_loc' hE (loc_indexAddr hE rfl rfl rfl rfl rfl (by omega) (x := encBd b0) hbe) rfl rfl rfl ?_
          refine OW_run' hE.ok 2 rfl ?_
          refine OW_call' hE (hat0) rfl rfl rfl rfl rfl rfl rfl ?_
          refine OW_run' hE.ok 3 rfl ?_
          refine OW_alloc' hE 3 rfl rfl rfl rfl rfl rfl rfl ?_
          refine OW_store' hE rfl rfl rfl rfl rfl rfl rfl rfl rfl rfl rfl rfl ?_
          refine OW_run' hE.ok 1 rfl ?_
          refine OW.le (LE_freezeBox 3 (ds := encE A0.1) rfl rfl) ?_
          refine OW_end rfl ?_
          refine CW_cutE (fun _ : Unit => ⟨J, (sset (sset (sset (sset (sset (sset (sset (sset (sset noSlots 2 (.d (SK l))) 3 (.d (SBd b))) 5 (.d (.iptr [encS s]))) 6 (.d (.iptr (encP p)))) 11 (.d (.iptr (encE A.1)))) 9 (.d (.iptr (encBd ⟨((k : Nat) : Int), xa⟩)))) 13 (.d (.iptr (encBd ⟨((m : Nat) : Int), la⟩)))) 14 (.d (.iptr (encE A0.1)))) 16 (.d (boo sm))), noHeap⟩) (fun _ => True) ?_ ?_
          · skip
            refine CW_region ?_
            refine OW_run' hE.ok 6 rfl ?_
            refine OW_split' 72 rfl (fun h6 => ?_) (fun h6 => ?_)
            · skip
              have s1 : (((k : Nat) : Int) == ((m : Nat) : Int)) = true := h6
              refine OW_run' hE.ok 4 rfl ?_
              refine OW_loc' hE (loc_indexAddr hE rfl rfl rfl rfl rfl (by omega) (x := encL el) (by simp [hel])) rfl rfl rfl ?_
              refine OW_run' hE.ok 4 rfl ?_
              refine OW_end rfl ?_
              exact ⟨(), trivial, LE_sh (slh_set (v := .d (boo sm)) (slh_set (v := .d (.iptr (encE A0.1))) (slh_set (v := .d (.iptr (encBd ⟨((m : Nat) : Int), la⟩))) (slh_set (v := .d (.iptr (encBd ⟨((k : Nat) : Int), xa⟩))) (slh_set (v := .d (.iptr (encE A.1))) (slh_set (v := .d (.iptr (encP p))) (slh_set (v := .d (.iptr [encS s])) (slh_set (v := .d (SBd b)) (slh_set (v := .d (SK l)) (slh_no _ _) (by rfl) rfl) (by rfl) rfl) (by rfl) rfl) (by rfl) rfl) (by rfl) rfl) (by rfl) rfl) (by rfl) rfl) (by rfl) rfl) (by exact (congrArg (fun z => AV.d (boo z)) (show el.plus = sm by rw [← hsm, s1]; rfl))) rfl) (hlh_no _ _)⟩
            · skip
              have s1 : (((k : Nat) : Int) == ((m : Nat) : Int)) = false := h6
              refine OW_run' hE.ok 9 rfl ?_
              refine OW_end rfl ?_
              exact ⟨(), trivial, LE_sh (slh_set (v := .d (boo sm)) (slh_set (v := .d (.iptr (encE A0.1))) (slh_set (v := .d (.iptr (encBd ⟨((m : Nat) : Int), la⟩))) (slh_set (v := .d (.iptr (encBd ⟨((k : Nat) : Int), xa⟩))) (slh_set (v := .d (.iptr (encE A.1))) (slh_set (v := .d (.iptr (encP p))) (slh_set (v := .d (.iptr [encS s])) (slh_set (v := .d (SBd b)) (slh_set (v := .d (SK l)) (slh_no _ _) (by rfl) rfl) (by rfl) rfl) (by rfl) rfl) (by rfl) rfl) (by rfl) rfl) (by rfl) rfl) (by rfl) rfl) (by rfl) rfl) (by exact (congrArg (fun z => AV.d (boo z)) (show false = sm by rw [← hsm, s1]; rfl))) rfl) (hlh_no _ _)⟩
          · skip
            rintro _ _
            refine CW_cutE (fun _ : Unit => ⟨J, (sset (sset (sset (sset (sset (sset (sset (sset (sset noSlots 2 (.d (SK l))) 3 (.d (SBd b))) 5 (.d (.iptr [encS s]))) 6 (.d (.iptr (encP p)))) 11 (.d (.iptr (encE A.1)))) 9 (.d (.iptr (encBd ⟨((k : Nat) : Int), xa⟩)))) 13 (.d (.iptr (encBd ⟨((m : Nat) : Int), la⟩)))) 14 (.d (.iptr (encE A0.1)))) 16 (.d (boo sm))), noHeap⟩) (fun _ => (decide (xa ≤ la) || ((!sm && (((k : Nat) : Int) != nextX p ((m : Nat) : Int))) || decide (wr (A.1.ts - A0.1.ts) > p.within))) = false) ?_ ?_
            · skip
              refine CW_seq ?_
              refine CW_drawn' hE 27 (by decide +kernel) ?_
              refine HW_run hE 6 rfl rfl ?_
              refine HW_split 86 rfl (fun h7 => ?_) (fun h7 => ?_)
              · skip
                have q1 : decide (xa ≤ la) = true := h7
                refine HW_run hE 21 rfl rfl ?_
                refine HW_end ?_
                refine OW_run' hE.ok 1 rfl ?_
                refine OW_end rfl ?_
                refine CW_true rfl ?_
                refine CW_seq ?_
                refine CW_region ?_
                refine OW_run' hE.ok 1 rfl ?_
                refine OW_end rfl ?_
                refine CW_ret ?_
                refine ⟨.inr rfl, rfl, ⟨_, rfl, rfl, ?_⟩, rfl⟩
                refine AVle.of (Eq.symm ((congrArg (fun z => AV.d (boo z)) hgo).trans ?_))
                rw [q1]; rfl
              · skip
                have q1 : decide (xa ≤ la) = false := h7
                refine HW_run hE 3 rfl rfl ?_
                refine HW_split 89 rfl (fun h8 => ?_) (fun h8 => ?_)
                · skip
                  have q2 : (!sm) = true := h8
                  refine HW_run hE 5 rfl rfl ?_
                  refine HW_call hE (nextOk p m (List.getElem?_eq_some_iff.1 hel).1 hl) rfl rfl rfl rfl rfl rfl rfl rfl ?_
                  refine HW_run hE 4 rfl rfl ?_
                  refine HW_split 99 rfl (fun h9 => ?_) (fun h9 => ?_)
                  · skip
                    have q3 : (((k : Nat) : Int) != nextX p ((m : Nat) : Int)) = true := h9
                    refine HW_run hE 8 rfl rfl ?_
                    refine HW_end ?_
                    refine OW_run' hE.ok 1 rfl ?_
                    refine OW_end rfl ?_
                    refine CW_true rfl ?_
                    refine CW_seq ?_
                    refine CW_region ?_
                    refine OW_run' hE.ok 1 rfl ?_
                    refine OW_end rfl ?_
                    refine CW_ret ?_
                    refine ⟨.inr rfl, rfl, ⟨_, rfl, rfl, ?_⟩, rfl⟩
                    refine AVle.of (Eq.symm ((congrArg (fun z => AV.d (boo z)) hgo).trans ?_))
                    rw [q1, q2, q3]; rfl
                  · skip
                    have q3 : (((k : Nat) : Int) != nextX p ((m : Nat) : Int)) = false := h9
                    refine HW_run hE 8 rfl rfl ?_
                    refine HW_end ?_
                    refine OW_run' hE.ok 1 rfl ?_
                    refine OW_end rfl ?_
                    refine CW_cond _ rfl (fun h10 => ?_) (fun h10 => ?_)
                    · skip
                      have q4 : decide (wr (A.1.ts - A0.1.ts) > p.within) = true := h10
                      refine CW_seq ?_
                      refine CW_region ?_
                      refine OW_run' hE.ok 1 rfl ?_
                      refine OW_end rfl ?_
                      refine CW_ret ?_
                      refine ⟨.inr rfl, rfl, ⟨_, rfl, rfl, ?_⟩, rfl⟩
                      refine AVle.of (Eq.symm ((congrArg (fun z => AV.d (boo z)) hgo).trans ?_))
                      rw [q1, q2, q3, q4]; rfl
                    · skip
                      have q4 : decide (wr (A.1.ts - A0.1.ts) > p.within) = false := h10
                      refine CW_skip ?_
                      exact ⟨(), by rw [q1, q2, q3, q4]; rfl, LE_sh (slh_set (v := .d (boo sm)) (slh_set (v := .d (.iptr (encE A0.1))) (slh_set (v := .d (.iptr (encBd ⟨((m : Nat) : Int), la⟩))) (slh_set (v := .d (.iptr (encBd ⟨((k : Nat) : Int), xa⟩))) (slh_set (v := .d (.iptr (encE A.1))) (slh_set (v := .d (.iptr (encP p))) (slh_set (v := .d (.iptr [encS s])) (slh_set (v := .d (SBd b)) (slh_set (v := .d (SK l)) (slh_no _ _) (by rfl) rfl) (by rfl) rfl) (by rfl) rfl) (by rfl) rfl) (by rfl) rfl) (by rfl) rfl) (by rfl) rfl) (by rfl) rfl) (by rfl) rfl) (hlh_no _ _)⟩
                · skip
                  have q2 : (!sm) = false := h8
                  refine HW_run hE 18 rfl rfl ?_
                  refine HW_end ?_
                  refine OW_run' hE.ok 1 rfl ?_
                  refine OW_end rfl ?_
                  refine CW_cond _ rfl (fun h11 => ?_) (fun h11 => ?_)
                  · skip
                    have q4 : decide (wr (A.1.ts - A0.1.ts) > p.within) = true := h11
                    refine CW_seq ?_
                    refine CW_region ?_
                    refine OW_run' hE.ok 1 rfl ?_
                    refine OW_end rfl ?_
                    refine CW_ret ?_
                    refine ⟨.inr rfl, rfl, ⟨_, rfl, rfl, ?_⟩, rfl⟩
                    refine AVle.of (Eq.symm ((congrArg (fun z => AV.d (boo z)) hgo).trans ?_))
                    rw [q1, q2, q4]; rfl
                  · skip
                    have q4 : decide (wr (A.1.ts - A0.1.ts) > p.within) = false := h11
                    refine CW_skip ?_
                    exact ⟨(), by rw [q1, q2, q4]; rfl, LE_sh (slh_set (v := .d (boo sm)) (slh_set (v := .d (.iptr (encE A0.1))) (slh_set (v := .d (.iptr (encBd ⟨((m : Nat) : Int), la⟩))) (slh_set (v := .d (.iptr (encBd ⟨((k : Nat) : Int), xa⟩))) (slh_set (v := .d (.iptr (encE A.1))) (slh_set (v := .d (.iptr (encP p))) (slh_set (v := .d (.iptr [encS s])) (slh_set (v := .d (SBd b)) (slh_set (v := .d (SK l)) (slh_no _ _) (by rfl) rfl) (by rfl) rfl) (by rfl) rfl) (by rfl) rfl) (by rfl) rfl) (by rfl) rfl) (by rfl) rfl) (by rfl) rfl) (by rfl) rfl) (hlh_no _ _)⟩
            · skip
              rintro _ hc2
              refine CW_seq ?_
              refine CW_region ?_
              refine OW_run' hE.ok 4 rfl ?_
              refine OW_call' hE (alikeOk s p A0.1 A.1) rfl rfl rfl rfl rfl rfl rfl ?_
              refine OW_run' hE.ok 1 rfl ?_
              refine OW_split' 114 rfl (fun h12 => ?_) (fun h12 => ?_)
              · skip
                have r1 : alikeX s p A0.1 A.1 = true := h12
                refine OW_run' hE.ok 7 rfl ?_
                refine OW_call' hE (takesOk s p l b k A.1 hr hf hb (by omega)) rfl rfl rfl rfl rfl rfl rfl ?_
                refine OW_run' hE.ok 2 rfl ?_
                refine OW_split' 124 rfl (fun h13 => ?_) (fun h13 => ?_)
                · skip
                  have r2 : takesX s p l b ((k : Nat) : Int) A.1 = true := h13
                  refine OW_run' hE.ok 2 rfl ?_
                  refine OW_split' 126 rfl (fun h14 => ?_) (fun h14 => ?_)
                  · skip
                    have r3 : sm = true := h14
                    refine OW_run' hE.ok 9 rfl ?_
                    refine OW_end rfl ?_
                    refine CW_ret ?_
                    refine ⟨.inr rfl, rfl, ⟨_, rfl, rfl, ?_⟩, rfl⟩
                    refine AVle.of (Eq.symm ((congrArg (fun z => AV.d (boo z)) hgo).trans ?_))
                    rw [hc2, r1, r2, r3]; rfl
                  · skip
                    have r3 : sm = false := h14
                    refine OW_run' hE.ok 5 rfl ?_
                    refine OW_call' hE (guardedOk s p l b ⟨((k : Nat) : Int), xa⟩ hr hf hb hb1 (Int.le_of_lt k0.2) hl) rfl rfl rfl rfl rfl rfl rfl ?_
                    refine OW_run' hE.ok 3 rfl ?_
                    refine OW_end rfl ?_
                    refine CW_ret ?_
                    refine ⟨.inr rfl, rfl, ⟨_, rfl, rfl, ?_⟩, rfl⟩
                    refine AVle.of (Eq.symm ((congrArg (fun z => AV.d (boo z)) hgo).trans ?_))
                    rw [hc2, r1, r2, r3]; rfl
                · skip
                  have r2 : takesX s p l b ((k : Nat) : Int) A.1 = false := h13
                  refine OW_run' hE.ok 11 rfl ?_
                  refine OW_end rfl ?_
                  refine CW_ret ?_
                  refine ⟨.inr rfl, rfl, ⟨_, rfl, rfl, ?_⟩, rfl⟩
                  refine AVle.of (Eq.symm ((congrArg (fun z => AV.d (boo z)) hgo).trans ?_))
                  rw [hc2, r1, r2]; rfl
              · skip
                have r1 : alikeX s p A0.1 A.1 = false := h12
                refine OW_run' hE.ok 21 rfl ?_
                refine OW_end rfl ?_
                refine CW_ret ?_
                refine ⟨.inr rfl, rfl, ⟨_, rfl, rfl, ?_⟩, rfl⟩
                refine AVle.of (Eq.symm ((congrArg (fun z => AV.d (boo z)) hgo).trans ?_))
                rw [hc2, r1]; rfl
end Go.Proofs.Ytojnicnbmgiplaa
namespace Go.Proofs.Ytojnicnbmgiplaa
open Go Go.AL
set_option linter.unusedVariables false
set_option linter.unusedSimpArgs false
set_option maxHeartbeats 4000000
theorem orOk (ks : List Int) (hk : ks.length ≤ 100) : Does Try.prog 47 [.d (.sl 1 8 (intRow ks))] noHeap (.d (int (orL ks))) := by
  refine Does_of T_ok mixed (N := 18) Try.func47 rfl rfl rfl (by rfl) fun F n Z hE hF J => ?_
  refine CW_seq ?_
  refine CW_region ?_
  refine OW_run' hE.ok 1 rfl ?_
  refine OW_end rfl ?_
  refine CW_seq ?_
  refine CW_region ?_
  refine OW_run' hE.ok 1 rfl ?_
  refine OW_end rfl ?_
  refine CW_seq ?_
  refine CW_seq ?_
  refine CW_region ?_
  refine OW_run' hE.ok 3 rfl ?_
  refine OW_end rfl ?_
  refine CW_block ?_
  refine CW_loop (σ := {i : Nat // i ≤ ks.length ∧ orL ks = orL (ks.drop i)}) (fun i => ⟨J, (sset (sset (sset (sset noSlots 3 (.d (int 0))) 6 (.d (.sl 1 8 (intRow ks)))) 7 (.d (int ((ks.length : Nat) : Int)))) 8 (.d (int ((i.1 : Nat) : Int)))), noHeap⟩) (fun i => ks.length - i.1) ⟨0, Nat.zero_le _, rfl⟩ (LE_sh (slh_set (slh_set (slh_set (slh_set (slh_no _ _) rfl rfl) rfl rfl) (by show AV.d (.lit (.int .i64 ((intRow ks).length : Int))) = _; rw [intRow_len]; rfl) rfl) rfl rfl) (hlh_no _ _)) fun ⟨i, hi, hp⟩ => ?_
  refine CW_seq ?_
  refine CW_region ?_
  refine OW_run' hE.ok 1 rfl ?_
  refine OW_end rfl ?_
  refine CW_seq ?_
  refine CW_cond _ rfl (fun h1 => ?_) (fun h1 => ?_)
  · skip
    have hlt : i < ks.length := by have := h1; simp at this; omega
    obtain ⟨x, hx⟩ : ∃ x, ks[i]? = some x := ⟨_, List.getElem?_eq_getElem hlt⟩
    refine CW_skip ?_
    refine CW_seq ?_
    refine CW_block ?_
    refine CW_seq ?_
    refine CW_region ?_
    refine OW_loc' hE (loc_indexAddr hE rfl rfl rfl rfl rfl (by omega) (x := [.lit (.int .i64 x)]) (intRow_get hx)) rfl rfl rfl ?_
    refine OW_run' hE.ok 2 rfl ?_
    refine OW_end rfl ?_
    refine CW_seq ?_
    refine CW_region ?_
    refine OW_run' hE.ok 3 rfl ?_
    refine OW_end rfl ?_
    refine CW_cond _ rfl (fun h2 => ?_) (fun h2 => ?_)
    · skip
      have g1 : (x != 0) = true := h2
      refine CW_seq ?_
      refine CW_region ?_
      refine OW_run' hE.ok 2 rfl ?_
      refine OW_end rfl ?_
      refine CW_ret ?_
      refine ⟨.inr rfl, rfl, ⟨[.d (int x)], rfl, rfl, ?_⟩, rfl⟩
      rw [hp, orL_at hx, g1]
      exact AVle.refl _
    · skip
      have g1 : (x != 0) = false := h2
      refine CW_skip ?_
      refine CW_region ?_
      refine OW_run' hE.ok 2 rfl ?_
      refine OW_end rfl ?_
      refine ⟨⟨i + 1, by omega, hp.trans ((orL_at hx).trans (by rw [g1]; rfl))⟩, LE_sh (slh_set (v := .d (int ((i + 1 : Nat) : Int))) (slh_set (v := .d (int ((ks.length : Nat) : Int))) (slh_set (v := .d (.sl 1 8 (intRow ks))) (slh_set (v := .d (int 0)) (slh_no _ _) (by rfl) rfl) (by rfl) rfl) (by rfl) rfl) (by show AV.d (.lit (.int .i64 (IntKind.i64.wrap ((i : Int) + 1)))) = _; rw [wrap_succ (by omega)]; rfl) rfl) (hlh_no _ _), by show ks.length - (i + 1) < ks.length - i; omega⟩
  · skip
    have hge : ks.length ≤ i := by have := h1; simp at this; omega
    refine CW_exit ?_
    show CW _ _ _ _
    refine CW_seq ?_
    refine CW_region ?_
    refine OW_run' hE.ok 2 rfl ?_
    refine OW_end rfl ?_
    refine CW_ret ?_
    refine ⟨.inr rfl, rfl, ⟨[.d (int 0)], rfl, rfl, ?_⟩, rfl⟩
    rw [hp, orL_end hge]
    exact AVle.refl _

theorem order1 (x y : Bd) : Does Try.prog 104 [argBd x, argBd y] noHeap (.d (int (cmpBd x y))) := by
  refine Does_of T_ok mixed (N := 17) Try.func104 rfl rfl rfl (by rfl) fun F n Z hE hF J => ?_
  refine CW_seq ?_
  refine CW_region ?_
  refine OW_run' hE.ok 3 rfl ?_
  refine OW_end rfl ?_
  refine CW_seq ?_
  refine CW_drawn' hE 12 (by decide +kernel) ?_
  refine HW_run hE 4 rfl rfl ?_
  refine HW_call hE (cmpOk x.at_ y.at_) rfl rfl rfl rfl rfl rfl rfl rfl ?_
  refine HW_run hE 4 rfl rfl ?_
  refine HW_call hE (cmpOk x.el y.el) rfl rfl rfl rfl rfl rfl rfl rfl ?_
  refine HW_loc hE (loc_lits hE (t := 130) (len := 2) (parts := #[(0, .tmp 9), (1, .tmp 14)]) rfl rfl rfl rfl rfl rfl rfl rfl (xs := intRow [cmpI x.at_ y.at_, cmpI x.el y.el]) rfl) rfl rfl rfl rfl ?_
  refine HW_call hE (orOk [cmpI x.at_ y.at_, cmpI x.el y.el] (by simp)) rfl rfl rfl rfl rfl rfl rfl rfl ?_
  refine HW_end ?_
  refine OW_run' hE.ok 1 rfl ?_
  refine OW_end rfl ?_
  refine CW_ret ?_
  refine ⟨.inr rfl, rfl, ⟨_, rfl, rfl, ?_⟩, rfl⟩
  unfold cmpBd
  rw [← orL_two]
  exact AVle.refl _

theorem compareOk (a b : List Bd) (ha : a.length ≤ 100000) (hb : b.length ≤ 100000) : Does Try.prog 103 [.d (SBd a), .d (SBd b), .d (.fn (.func 104) [] [])] noHeap (.d (int (orderX a b))) := by
  refine Does_of T_ok mixed (N := 39) Try.func103 rfl rfl rfl (by rfl) fun F n Z hE hF J => ?_
  refine CW_seq ?_
  refine CW_region ?_
  refine OW_run' hE.ok 1 rfl ?_
  refine OW_end rfl ?_
  refine CW_seq ?_
  refine CW_seq ?_
  refine CW_region ?_
  refine OW_run' hE.ok 3 rfl ?_
  refine OW_end rfl ?_
  refine CW_block ?_
  refine CW_loop (σ := {i : Nat // i ≤ a.length ∧ i ≤ b.length ∧ orderX a b = orderX (a.drop i) (b.drop i)}) (fun i => ⟨J, (sset (sset (sset (sset (sset (sset noSlots 0 (.d (SBd a))) 1 (.d (SBd b))) 2 (.d (.fn (.func 104) [] []))) 11 (.d (SBd a))) 12 (.d (int ((a.length : Nat) : Int)))) 13 (.d (int ((i.1 : Nat) : Int)))), noHeap⟩) (fun i => a.length - i.1) ⟨0, Nat.zero_le _, Nat.zero_le _, rfl⟩ (LE_sh (slh_set (slh_set (slh_set (slh_set (slh_set (slh_set (slh_no _ _) rfl rfl) rfl rfl) rfl rfl) rfl rfl) (by show AV.d (.lit (.int .i64 ((a.map encBd).length : Int))) = _; rw [List.length_map]; rfl) rfl) rfl rfl) (hlh_no _ _)) fun ⟨i, hi, hib, hp⟩ => ?_
  refine CW_seq ?_
  refine CW_region ?_
  refine OW_run' hE.ok 1 rfl ?_
  refine OW_end rfl ?_
  refine CW_seq ?_
  refine CW_cond _ rfl (fun h1 => ?_) (fun h1 => ?_)
  · skip
    have hlt : i < a.length := by have := h1; simp at this; omega
    obtain ⟨x, hx⟩ : ∃ x, a[i]? = some x := ⟨_, List.getElem?_eq_getElem hlt⟩
    refine CW_skip ?_
    refine CW_seq ?_
    refine CW_block ?_
    refine CW_seq ?_
    refine CW_region ?_
    refine OW_run' hE.ok 1 rfl ?_
    refine OW_loc' hE (loc_indexAddr hE rfl rfl rfl rfl rfl (by omega) (x := encBd x) (by simp [hx])) rfl rfl rfl ?_
    refine OW_run' hE.ok 1 rfl ?_
    refine OW_alloc' hE 1 rfl rfl rfl rfl rfl rfl rfl ?_
    refine OW_run' hE.ok 1 rfl ?_
    refine OW_store' hE rfl rfl rfl rfl rfl rfl rfl rfl rfl rfl rfl rfl ?_
    refine OW.le (LE_freezeBox 1 (ds := encBd x) rfl rfl) ?_
    refine OW_end rfl ?_
    refine CW_seq ?_
    refine CW_seq ?_
    refine CW_region ?_
    refine OW_run' hE.ok 4 rfl ?_
    refine OW_end rfl ?_
    refine CW_cond _ rfl (fun h2 => ?_) (fun h2 => ?_)
    · skip
      have hbl : b.length ≤ i := by have := h2; rw [List.length_map] at this; simp at this; omega
      refine CW_seq ?_
      refine CW_region ?_
      refine OW_run' hE.ok 1 rfl ?_
      refine OW_end rfl ?_
      refine CW_ret ?_
      refine ⟨.inr rfl, rfl, ⟨[.d (int 1)], rfl, rfl, ?_⟩, rfl⟩
      rw [hp, order_long hx hbl]
      exact AVle.refl _
    · skip
      have hbl : i < b.length := by have := h2; rw [List.length_map] at this; simp at this; omega
      obtain ⟨y, hy⟩ : ∃ y, b[i]? = some y := ⟨_, List.getElem?_eq_getElem hbl⟩
      refine CW_skip ?_
      refine CW_seq ?_
      refine CW_region ?_
      refine OW_run' hE.ok 2 rfl ?_
      refine OW_loc' hE (loc_indexAddr hE rfl rfl rfl rfl rfl (by omega) (x := encBd y) (by simp [hy])) rfl rfl rfl ?_
      refine OW_run' hE.ok 1 rfl ?_
      refine OW_alloc' hE 2 rfl rfl rfl rfl rfl rfl rfl ?_
      refine OW_store' hE rfl rfl rfl rfl rfl rfl rfl rfl rfl rfl rfl rfl ?_
      refine OW.le (LE_freezeBox 2 (ds := encBd y) rfl rfl) ?_
      refine OW_end rfl ?_
      refine CW_seq ?_
      refine CW_region ?_
      refine OW_run' hE.ok 3 rfl ?_
      refine OW_call' hE (order1 x y) rfl rfl rfl rfl rfl rfl rfl ?_
      refine OW_run' hE.ok 1 rfl ?_
      refine OW_end rfl ?_
      refine CW_seq ?_
      refine CW_region ?_
      refine OW_run' hE.ok 2 rfl ?_
      refine OW_end rfl ?_
      refine CW_cond _ rfl (fun h3 => ?_) (fun h3 => ?_)
      · skip
        have g2 : (cmpBd x y != 0) = true := h3
        refine CW_seq ?_
        refine CW_region ?_
        refine OW_run' hE.ok 2 rfl ?_
        refine OW_end rfl ?_
        refine CW_ret ?_
        refine ⟨.inr rfl, rfl, ⟨[.d (int (cmpBd x y))], rfl, rfl, ?_⟩, rfl⟩
        rw [hp, order_drop hx hy, g2]
        exact AVle.refl _
      · skip
        have g2 : (cmpBd x y != 0) = false := h3
        refine CW_skip ?_
        refine CW_region ?_
        refine OW_run' hE.ok 2 rfl ?_
        refine OW_end rfl ?_
        refine ⟨⟨i + 1, by omega, by omega, hp.trans ((order_drop hx hy).trans (by rw [g2]; rfl))⟩, LE_sh (slh_set (v := .d (int ((i + 1 : Nat) : Int))) (slh_set (v := .d (int ((a.length : Nat) : Int))) (slh_set (v := .d (SBd a)) (slh_set (v := .d (.fn (.func 104) [] [])) (slh_set (v := .d (SBd b)) (slh_set (v := .d (SBd a)) (slh_no _ _) (by rfl) rfl) (by rfl) rfl) (by rfl) rfl) (by rfl) rfl) (by rfl) rfl) (by show AV.d (.lit (.int .i64 (IntKind.i64.wrap ((i : Int) + 1)))) = _; rw [wrap_succ (by omega)]; rfl) rfl) (hlh_no _ _), by show a.length - (i + 1) < a.length - i; omega⟩
  · skip
    have hge : a.length ≤ i := by have := h1; simp at this; omega
    refine CW_exit ?_
    show CW _ _ _ _
    refine CW_seq ?_
    refine CW_seq ?_
    refine CW_region ?_
    refine OW_run' hE.ok 5 rfl ?_
    refine OW_end rfl ?_
    refine CW_cond _ rfl (fun h4 => ?_) (fun h4 => ?_)
    · skip
      have g3 : decide (i < b.length) = true := by have := h4; rw [List.length_map, List.length_map] at this; simp at this ⊢; omega
      refine CW_seq ?_
      refine CW_region ?_
      refine OW_run' hE.ok 1 rfl ?_
      refine OW_end rfl ?_
      refine CW_ret ?_
      refine ⟨.inr rfl, rfl, ⟨[.d (int (-1))], rfl, rfl, ?_⟩, rfl⟩
      rw [hp, order_end hge hib, g3]
      exact AVle.refl _
    · skip
      have g3 : decide (i < b.length) = false := by have := h4; rw [List.length_map, List.length_map] at this; simp at this ⊢; omega
      refine CW_skip ?_
      refine CW_seq ?_
      refine CW_region ?_
      refine OW_run' hE.ok 1 rfl ?_
      refine OW_end rfl ?_
      refine CW_ret ?_
      refine ⟨.inr rfl, rfl, ⟨[.d (int 0)], rfl, rfl, ?_⟩, rfl⟩
      rw [hp, order_end hge hib, g3]
      exact AVle.refl _

theorem orderOk (a b : List Bd) (ha : a.length ≤ 100000) (hb : b.length ≤ 100000) : Does Try.prog 67 [.d (SBd a), .d (SBd b)] noHeap (.d (int (orderX a b))) := by
  refine Does_of T_ok mixed (N := 8) Try.func67 rfl rfl rfl (by rfl) fun F n Z hE hF J => ?_
  refine CW_seq ?_
  refine CW_region ?_
  refine OW_run' hE.ok 1 rfl ?_
  refine OW_end rfl ?_
  refine CW_seq ?_
  refine CW_region ?_
  refine OW_run' hE.ok 2 rfl ?_
  refine OW_call' hE (compareOk a b ha hb) rfl rfl rfl rfl rfl rfl rfl ?_
  refine OW_run' hE.ok 1 rfl ?_
  refine OW_end rfl ?_
  refine CW_ret ?_
  refine ⟨.inr rfl, rfl, ⟨_, rfl, rfl, ?_⟩, rfl⟩
  exact AVle.refl _

theorem lessBdOk (a b : List Bd) (ha : a.length ≤ 100000) (hb : b.length ≤ 100000) : Does Try.prog 60 [.d (SBd a), .d (SBd b)] noHeap (.d (boo (decide (orderX a b < 0)))) := by
  refine Does_of T_ok mixed (N := 9) Try.func60 rfl rfl rfl (by rfl) fun F n Z hE hF J => ?_
  refine CW_seq ?_
  refine CW_region ?_
  refine OW_run' hE.ok 1 rfl ?_
  refine OW_end rfl ?_
  refine CW_seq ?_
  refine CW_region ?_
  refine OW_run' hE.ok 2 rfl ?_
  refine OW_call' hE (orderOk a b ha hb) rfl rfl rfl rfl rfl rfl rfl ?_
  refine OW_run' hE.ok 2 rfl ?_
  refine OW_end rfl ?_
  refine CW_ret ?_
  refine ⟨.inr rfl, rfl, ⟨_, rfl, rfl, ?_⟩, rfl⟩
  exact AVle.refl _
end Go.Proofs.Ytojnicnbmgiplaa
namespace Go.Proofs.Ytojnicnbmgiplaa
open Go Go.AL
set_option linter.unusedVariables false
set_option linter.unusedSimpArgs false
set_option maxHeartbeats 4000000
theorem cloneBd (l : List Bd) : Does Try.prog 96 [.d (SBd l)] (oneRow 110 2 (l.map encBd)) (.row 0) := by
  refine Does_ofRow T_ok mixed (N := 8) Try.func96 rfl rfl rfl (by rfl) fun F n Z hE hF J => ?_
  refine CW_know (know_sl (d := 0) rfl) fun hlen => ?_
  rw [List.length_map] at hlen
  refine CW_seq ?_
  refine CW_region ?_
  refine OW_run' hE.ok 1 rfl ?_
  refine OW_end rfl ?_
  refine CW_seq ?_
  refine CW_seq ?_
  refine CW_region ?_
  refine OW_run' hE.ok 1 rfl ?_
  refine OW_eqNil' hE rfl rfl rfl rfl rfl rfl rfl rfl (fun b hb => ?_)
  refine OW_end rfl ?_
  refine CW_cond _ rfl (fun h1 => ?_) (fun h1 => ?_)
  · skip
    refine CW_seq ?_
    refine CW_region ?_
    refine OW_run' hE.ok 1 rfl ?_
    refine OW.le (LE_nilSlot 2 7 110 2 rfl rfl) ?_
    refine OW_end rfl ?_
    refine CW_ret ⟨.inr rfl, rfl, 7, rfl, ?_⟩
    rw [hb h1]
    rfl
  · skip
    refine CW_skip ?_
    refine CW_seq ?_
    refine CW_region ?_
    refine OW_litsOwn' hE 7 rfl rfl rfl rfl rfl rfl rfl rfl rfl rfl rfl rfl ?_
    refine OW_run' hE.ok 1 rfl ?_
    refine OW_append' hE (key := 7) rfl rfl rfl rfl rfl rfl rfl rfl (.inl rfl) (by simp; omega) (by simp; omega) rfl ?_
    refine OW_run' hE.ok 1 rfl ?_
    refine OW_end rfl ?_
    exact CW_ret ⟨.inr rfl, rfl, 7, rfl, rfl⟩

theorem furtherOk (s : List Ty) (p : Pat) (l : List Kp) (b : List Bd) (k : Int) (hr : Rises l) (hf : Fits p b) (hb : b.length ≤ 998) (hb1 : 0 < b.length) (hl : p.els.length ≤ 1000) : Does Try.prog 64 [argS s, argP p, .d (SK l), .d (SBd b), .d (int k)] (oneRow 105 1 ((furX s p l b k).map encR)) (.row 0) := by
  refine Does_ofRow T_ok mixed (N := 50) Try.func64 rfl rfl rfl (by rfl) fun F n Z hE hF J => ?_
  obtain ⟨lst, hlst⟩ : ∃ q, b[b.length - 1]? = some q := ⟨_, List.getElem?_eq_getElem (by omega)⟩
  have hla := lastBd_at hlst
  obtain ⟨m, el, hm, hel, hex⟩ := hf.at hlst
  have hfe : furE p b = [lst.el, (nextX p ((m : Nat) : Int))] := by unfold furE; rw [hla, hm]
  refine CW_seq ?_
  refine CW_region ?_
  refine OW_run' hE.ok 3 rfl ?_
  refine OW_end rfl ?_
  refine CW_seq ?_
  refine CW_region ?_
  refine OW_run' hE.ok 1 rfl ?_
  refine OW.le (LE_nilSlot 11 50 105 1 rfl rfl) ?_
  refine OW_end rfl ?_
  refine CW_seq ?_
  refine CW_region ?_
  refine OW_run' hE.ok 4 rfl ?_
  refine OW_as' 19 (.d (int ((b.length - 1 : Nat) : Int))) (by show AV.d (.lit (.int .i64 (IntKind.i64.wrap (((b.map encBd).length : Int) - 1)))) = _; rw [List.length_map, show ((b.length : Int) - 1) = ((b.length - 1 : Nat) : Int) by omega, wrapN (by omega)]; rfl) ?_
  refine OW_loc' hE (loc_indexAddr hE rfl rfl rfl rfl rfl (by omega) (x := encBd lst) (by rw [Int.toNat_natCast, List.getElem?_map, hlst]; rfl)) rfl rfl rfl ?_
  refine OW_run' hE.ok 3 rfl ?_
  refine OW_end rfl ?_
  refine CW_seq ?_
  refine CW_seq ?_
  refine CW_region ?_
  refine OW_run' hE.ok 3 rfl ?_
  refine OW_as' 25 (.d (int ((m : Nat) : Int))) (by exact congrArg (fun z => AV.d (int z)) hm) ?_
  refine OW_call' hE (nextOk p m (List.getElem?_eq_some_iff.1 hel).1 hl) rfl rfl rfl rfl rfl rfl rfl ?_
  refine OW_loc' hE (loc_buildA hE rfl rfl) rfl rfl rfl ?_
  refine OW_run' hE.ok 1 rfl ?_
  refine OW_end rfl ?_
  refine CW_block ?_
  refine CW_loop (σ := {i : Nat // i ≤ 2}) (fun i => ⟨J, (sset (sset (sset (sset (sset (sset (sset (sset noSlots 2 (.d (SK l))) 3 (.d (SBd b))) 4 (.d (int k))) 5 (.d (.iptr [encS s]))) 6 (.d (.iptr (encP p)))) 11 (.row 50)) 27 (.agg [.d (int lst.el), .d (int (nextX p ((m : Nat) : Int)))])) 28 (.d (int ((i.1 : Nat) : Int)))), (hset noHeap 50 (some (.row 105 1 ((((furE p b).take i.1).filterMap (furF s p l b k)).map encR))))⟩) (fun i => 2 - i.1) ⟨0, Nat.zero_le _⟩ (LE_sh (slh_set (slh_set (slh_set (slh_set (slh_set (slh_set (slh_set (slh_set (slh_no _ _) rfl rfl) rfl rfl) rfl rfl) rfl rfl) rfl rfl) rfl rfl) rfl rfl) rfl rfl) (hlh_set (hlh_no _ _) (congrArg (fun z => some (Ent.row 105 1 z)) (rfl)) rfl)) fun ⟨i, hi⟩ => ?_
  refine CW_seq ?_
  refine CW_region ?_
  refine OW_run' hE.ok 1 rfl ?_
  refine OW_end rfl ?_
  refine CW_seq ?_
  refine CW_cond _ rfl (fun h1 => ?_) (fun h1 => ?_)
  · skip
    have hlt : i < 2 := by have := h1; simp at this; omega
    obtain ⟨e, he⟩ : ∃ e, (furE p b)[i]? = some e := ⟨_, List.getElem?_eq_getElem (show i < 2 from hlt)⟩
    have he' := he
    rw [hfe] at he'
    have hfew : (((furE p b).take i).filterMap (furF s p l b k)).length ≤ 2 := Nat.le_trans (fm_len _ _) (by rw [List.length_take]; exact Nat.min_le_right _ _)
    refine CW_skip ?_
    refine CW_seq ?_
    refine CW_block ?_
    refine CW_seq ?_
    refine CW_region ?_
    refine OW_loc' hE (loc_indexA hE rfl rfl rfl rfl rfl (by show (0 : Int) ≤ ((i : Nat) : Int); omega) (by show ((i : Nat) : Int) < 2; omega) (by exact fe_idx he')) rfl rfl rfl ?_
    refine OW_run' hE.ok 1 rfl ?_
    refine OW_end rfl ?_
    refine CW_seq ?_
    refine CW_region ?_
    refine OW_run' hE.ok 2 rfl ?_
    refine OW_build' hE rfl rfl rfl rfl rfl ?_
    refine OW_alloc' hE 1 rfl rfl rfl rfl rfl rfl rfl ?_
    refine OW_store' hE rfl rfl rfl rfl rfl rfl rfl rfl rfl rfl rfl rfl ?_
    refine OW.le (LE_freezeBox 1 (ds := encBd (⟨e, k⟩ : Bd)) rfl rfl) ?_
    refine OW_end rfl ?_
    refine CW_seq ?_
    refine CW_region ?_
    refine OW_run' hE.ok 5 rfl ?_
    refine OW_call' hE (goesOk s p l b (⟨e, k⟩ : Bd) hr hf (by omega) hl) rfl rfl rfl rfl rfl rfl rfl ?_
    refine OW_end rfl ?_
    refine CW_cond _ rfl (fun h2 => ?_) (fun h2 => ?_)
    · skip
      have g1 : goesX s p l b (⟨e, k⟩ : Bd) = true := h2
      have ob : Tga.OkB (⟨[(50, .row 105 1 ((((furE p b).take i).filterMap (furF s p l b k)).map encR))], ⟨2, 5, 60, 110, 2, b.map encBd, [encBd (⟨e, k⟩ : Bd)]⟩, 6, 61, .rowA 105 1 1 [.row 60]⟩ : Tga) := ⟨by show (60 : Nat) ≠ 61; decide, rfl⟩
      have nd : (Tga.qs (⟨[(50, .row 105 1 ((((furE p b).take i).filterMap (furF s p l b k)).map encR))], ⟨2, 5, 60, 110, 2, b.map encBd, [encBd (⟨e, k⟩ : Bd)]⟩, 6, 61, .rowA 105 1 1 [.row 60]⟩ : Tga)).Nodup := by show ([2, 5, 6] : List Nat).Nodup; decide
      have nk60 : ∀ j, nokey 60 ((sset (sset (sset (sset (sset (sset (sset (sset (sset noSlots 2 (.d (SK l))) 3 (.d (SBd b))) 4 (.d (int k))) 5 (.d (.iptr [encS s]))) 6 (.d (.iptr (encP p)))) 11 (.row 50)) 27 (.agg [.d (int lst.el), .d (int (nextX p ((m : Nat) : Int)))])) 28 (.d (int ((i : Nat) : Int)))) 15 (.d (.iptr (encBd (⟨e, k⟩ : Bd))))) j) = true := by repeat (first | exact nokeyS_no _ | refine nokeyS_set ?_ rfl)
      refine CW.le (show LE _ _ ⟨J, (sset (sset (sset (sset (sset (sset (sset (sset (sset noSlots 2 (.d (SK l))) 3 (.d (SBd b))) 4 (.d (int k))) 5 (.d (.iptr [encS s]))) 6 (.d (.iptr (encP p)))) 11 (.row 50)) 27 (.agg [.d (int lst.el), .d (int (nextX p ((m : Nat) : Int)))])) 28 (.d (int ((i : Nat) : Int)))) 15 (.d (.iptr (encBd (⟨e, k⟩ : Bd))))), (hset noHeap 50 (some (.row 105 1 ((((furE p b).take i).filterMap (furF s p l b k)).map encR))))⟩ from LE_sh (slh_set (v := .d (.iptr (encBd (⟨e, k⟩ : Bd)))) (slh_set (v := .d (int ((i : Nat) : Int))) (slh_set (v := .agg [.d (int lst.el), .d (int (nextX p ((m : Nat) : Int)))]) (slh_set (v := .row 50) (slh_set (v := .d (.iptr (encP p))) (slh_set (v := .d (.iptr [encS s])) (slh_set (v := .d (int k)) (slh_set (v := .d (SBd b)) (slh_set (v := .d (SK l)) (slh_no _ _) (by rfl) rfl) (by rfl) rfl) (by rfl) rfl) (by rfl) rfl) (by rfl) rfl) (by rfl) rfl) (by rfl) rfl) (by rfl) rfl) (by rfl) rfl) (hlh_set (hlh_no _ _) rfl rfl)) ?_
      refine CW_drawnY hE 7 ⟨[2, 5, 6], Tga.H (⟨[(50, .row 105 1 ((((furE p b).take i).filterMap (furF s p l b k)).map encR))], ⟨2, 5, 60, 110, 2, b.map encBd, [encBd (⟨e, k⟩ : Bd)]⟩, 6, 61, .rowA 105 1 1 [.row 60]⟩ : Tga), [(5, 60)], [(5, 42)]⟩ (by decide +kernel) (by kernel_rfl) rfl (fun b b' hb => Tga.dep (hb 2 (by simp)) (hb 5 (by simp)) (hb 6 (by simp))) (fun q k hm _ j _ => by simp at hm; obtain ⟨rfl, rfl⟩ := hm; exact nk60 j) (LE_eq (Tga.start (t := (⟨[(50, .row 105 1 ((((furE p b).take i).filterMap (furF s p l b k)).map encR))], ⟨2, 5, 60, 110, 2, b.map encBd, [encBd (⟨e, k⟩ : Bd)]⟩, 6, 61, .rowA 105 1 1 [.row 60]⟩ : Tga)) rfl rfl).symm) ?_
      refine HY_run hE 2 (h0 := noHeap) (fun _ => noHeap_no) rfl rfl rfl ?_
      refine HY_callRow hE 60 (cloneBd b) rfl rfl rfl rfl rfl rfl rfl rfl rfl (fun b hb => (Tga.newB ob nd hb rfl (by kernel_rfl)).1) (fun b hb => (Tga.newB ob nd hb rfl (by kernel_rfl)).2) ?_
      refine HY_run hE 1 (h0 := noHeap) (fun _ => noHeap_no) rfl rfl rfl ?_
      refine HY_loc2 hE rfl rfl rfl (fun b hb => loc_lits hE (t := 105) (len := 1) (parts := #[(0, .tmp 43)]) rfl rfl rfl rfl rfl rfl rfl rfl (xs := [encBd (⟨e, k⟩ : Bd)]) rfl) rfl rfl rfl ?_
      refine HY_append hE (key := 60) rfl rfl rfl rfl rfl rfl rfl rfl rfl rfl rfl (.inl rfl) (by simp; omega) (by simp; omega) rfl (fun b hb => (Tga.moreB ob nd hb (by kernel_rfl) rfl (by kernel_rfl)).1) (fun b hb => (Tga.moreB ob nd hb (by kernel_rfl) rfl (by kernel_rfl)).2) ?_
      refine HY_litsA hE (key := 61) rfl rfl rfl rfl rfl rfl rfl rfl rfl rfl rfl rfl rfl rfl rfl (fun b hb => (Tga.allocB nd hb).1) (fun b hb => (Tga.allocB nd hb).2) ?_
      refine HY_end ?_
      refine OW.le (show LE _ _ ⟨J, (sset (sset (sset (sset (sset (sset (sset (sset (sset (sset noSlots 2 (.d (SK l))) 3 (.d (SBd b))) 4 (.d (int k))) 5 (.d (.iptr [encS s]))) 6 (.d (.iptr (encP p)))) 11 (.row 50)) 27 (.agg [.d (int lst.el), .d (int (nextX p ((m : Nat) : Int)))])) 28 (.d (int ((i : Nat) : Int)))) 40 (.row 50)) 46 (.row 61)), (hset (hset (hset noHeap 50 (some (.row 105 1 ((((furE p b).take i).filterMap (furF s p l b k)).map encR)))) 60 (some (.row 110 2 (b.map encBd ++ [encBd (⟨e, k⟩ : Bd)])))) 61 (some (.rowA 105 1 1 [.row 60])))⟩ from LE_sh (slh_set (v := .row 61) (slh_set (v := .row 50) (slh_set (v := .d (int ((i : Nat) : Int))) (slh_set (v := .agg [.d (int lst.el), .d (int (nextX p ((m : Nat) : Int)))]) (slh_set (v := .row 50) (slh_set (v := .d (.iptr (encP p))) (slh_set (v := .d (.iptr [encS s])) (slh_set (v := .d (int k)) (slh_set (v := .d (SBd b)) (slh_set (v := .d (SK l)) (slh_no _ _) (by rfl) rfl) (by rfl) rfl) (by rfl) rfl) (by rfl) rfl) (by rfl) rfl) (by rfl) rfl) (by rfl) rfl) (by rfl) rfl) (by rfl) rfl) (by rfl) rfl) (hlh_set (hlh_set (hlh_set (hlh_no _ _) rfl rfl) rfl rfl) rfl rfl)) ?_
      refine OW.le (LE_freeze 60 16 rfl (by simp; omega)) ?_
      refine OW.le (LE_rowD 61 (xs := [[.sl 2 16 (b.map encBd ++ [encBd (⟨e, k⟩ : Bd)])]]) rfl rfl rfl (by simp)) ?_
      refine OW.le (LE_freeze 61 24 rfl (by simp)) ?_
      refine OW.le (show LE _ _ ⟨J, (sset (sset (sset (sset (sset (sset (sset (sset (sset (sset noSlots 2 (.d (SK l))) 3 (.d (SBd b))) 4 (.d (int k))) 5 (.d (.iptr [encS s]))) 6 (.d (.iptr (encP p)))) 11 (.row 50)) 27 (.agg [.d (int lst.el), .d (int (nextX p ((m : Nat) : Int)))])) 28 (.d (int ((i : Nat) : Int)))) 40 (.row 50)) 46 (.d (.sl 1 24 [encR (b ++ [(⟨e, k⟩ : Bd)])]))), (hset noHeap 50 (some (.row 105 1 ((((furE p b).take i).filterMap (furF s p l b k)).map encR))))⟩ from LE_sh (slh_set (v := .d (.sl 1 24 [encR (b ++ [(⟨e, k⟩ : Bd)])])) (slh_set (v := .row 50) (slh_set (v := .d (int ((i : Nat) : Int))) (slh_set (v := .agg [.d (int lst.el), .d (int (nextX p ((m : Nat) : Int)))]) (slh_set (v := .row 50) (slh_set (v := .d (.iptr (encP p))) (slh_set (v := .d (.iptr [encS s])) (slh_set (v := .d (int k)) (slh_set (v := .d (SBd b)) (slh_set (v := .d (SK l)) (slh_no _ _) (by rfl) rfl) (by rfl) rfl) (by rfl) rfl) (by rfl) rfl) (by rfl) rfl) (by rfl) rfl) (by rfl) rfl) (by rfl) rfl) (by rfl) rfl) (by show AV.d (.sl 1 24 [[.sl 2 16 (b.map encBd ++ [encBd (⟨e, k⟩ : Bd)])]]) = _; show _ = AV.d (.sl 1 24 [[.sl 2 16 ((b ++ [(⟨e, k⟩ : Bd)]).map encBd)]]); rw [List.map_append]; rfl) rfl) (hlh_set (hlh_no _ _) rfl rfl)) ?_
      refine OW_append' hE (key := 50) rfl rfl rfl rfl rfl rfl rfl rfl (.inl rfl) (by simp; omega) (by simp; omega) rfl ?_
      refine OW_run' hE.ok 1 rfl ?_
      refine OW_end rfl ?_
      refine CW_region ?_
      refine OW_run' hE.ok 2 rfl ?_
      refine OW_end rfl ?_
      refine ⟨⟨i + 1, by omega⟩, LE_sh (slh_set (v := .d (int ((i + 1 : Nat) : Int))) (slh_set (v := .agg [.d (int lst.el), .d (int (nextX p ((m : Nat) : Int)))]) (slh_set (v := .row 50) (slh_set (v := .d (.iptr (encP p))) (slh_set (v := .d (.iptr [encS s])) (slh_set (v := .d (int k)) (slh_set (v := .d (SBd b)) (slh_set (v := .d (SK l)) (slh_no _ _) (by rfl) rfl) (by rfl) rfl) (by rfl) rfl) (by rfl) rfl) (by rfl) rfl) (by rfl) rfl) (by rfl) rfl) (by show AV.d (.lit (.int .i64 (IntKind.i64.wrap ((i : Int) + 1)))) = _; rw [wrap_succ (by omega)]; rfl) rfl) (hlh_set (hlh_no _ _) (congrArg (fun z => some (Ent.row 105 1 z)) (by rw [fm_t he (show furF s p l b k e = some (b ++ [⟨e, k⟩]) by unfold furF; rw [g1]; rfl), List.map_append]; rfl)) rfl), by show 2 - (i + 1) < 2 - i; omega⟩
    · skip
      have g1 : goesX s p l b (⟨e, k⟩ : Bd) = false := h2
      refine CW_skip ?_
      refine CW_region ?_
      refine OW_run' hE.ok 2 rfl ?_
      refine OW_end rfl ?_
      refine ⟨⟨i + 1, by omega⟩, LE_sh (slh_set (v := .d (int ((i + 1 : Nat) : Int))) (slh_set (v := .agg [.d (int lst.el), .d (int (nextX p ((m : Nat) : Int)))]) (slh_set (v := .row 50) (slh_set (v := .d (.iptr (encP p))) (slh_set (v := .d (.iptr [encS s])) (slh_set (v := .d (int k)) (slh_set (v := .d (SBd b)) (slh_set (v := .d (SK l)) (slh_no _ _) (by rfl) rfl) (by rfl) rfl) (by rfl) rfl) (by rfl) rfl) (by rfl) rfl) (by rfl) rfl) (by rfl) rfl) (by show AV.d (.lit (.int .i64 (IntKind.i64.wrap ((i : Int) + 1)))) = _; rw [wrap_succ (by omega)]; rfl) rfl) (hlh_set (hlh_no _ _) (congrArg (fun z => some (Ent.row 105 1 z)) (by rw [fm_f he (show furF s p l b k e = none by unfold furF; rw [g1]; rfl)])) rfl), by show 2 - (i + 1) < 2 - i; omega⟩
  · skip
    have hge : 2 ≤ i := by have := h1; simp at this; omega
    refine CW_exit ?_
    show CW _ _ _ _
    refine CW_seq ?_
    refine CW_region ?_
    refine OW_run' hE.ok 2 rfl ?_
    refine OW_end rfl ?_
    have hh : (furE p b).take i = furE p b := List.take_of_length_le hge
    exact CW_ret ⟨.inr rfl, rfl, 50, rfl, by show some (Ent.row _ _ _) = _; rw [hh]; rfl⟩
end Go.Proofs.Ytojnicnbmgiplaa
namespace Go.Proofs.Ytojnicnbmgiplaa
open Go Go.AL
set_option linter.unusedVariables false
set_option linter.unusedSimpArgs false
set_option maxHeartbeats 4000000
theorem skipsOk (s : List Ty) (p : Pat) (l : List Kp) (b : List Bd) (to : Int) (hr : Rises l) (hf : Fits p b) (hb : b.length ≤ 999) (hb1 : 0 < b.length) (hl : p.els.length ≤ 1000) : Does Try.prog 94 [argS s, argP p, .d (SK l), .d (SBd b), .d (int to)] noHeap (.d (boo (skipsX s p l b to))) := by
  refine Does_of T_ok mixed (N := 49) Try.func94 rfl rfl rfl (by rfl) fun F n Z hE hF J => ?_
  obtain ⟨lst, hlst⟩ : ∃ q, b[b.length - 1]? = some q := ⟨_, List.getElem?_eq_getElem (by omega)⟩
  have hla := lastBd_at hlst
  obtain ⟨m, el, hm, hel, hex⟩ := hf.at hlst
  obtain ⟨le, la⟩ := lst
  have hm : le = (m : Int) := hm
  subst hm
  obtain ⟨lst, hls⟩ : ∃ q : Bd, q = ⟨((m : Nat) : Int), la⟩ := ⟨_, rfl⟩
  have hme : lst.el = ((m : Nat) : Int) := by rw [hls]
  rw [← hls] at hlst hla
  refine CW_seq ?_
  refine CW_region ?_
  refine OW_run' hE.ok 4 rfl ?_
  refine OW_alloc' hE 1 rfl rfl rfl rfl rfl rfl rfl ?_
  refine OW_end rfl ?_
  refine CW_seq ?_
  refine CW_region ?_
  refine OW_run' hE.ok 4 rfl ?_
  refine OW_as' 16 (.d (int ((b.length - 1 : Nat) : Int))) (by show AV.d (.lit (.int .i64 (IntKind.i64.wrap (((b.map encBd).length : Int) - 1)))) = _; rw [List.length_map, show ((b.length : Int) - 1) = ((b.length - 1 : Nat) : Int) by omega, wrapN (by omega)]; rfl) ?_
  refine OW_loc' hE (loc_indexAddr hE rfl rfl rfl rfl rfl (by omega) (x := encBd lst) (by rw [Int.toNat_natCast, List.getElem?_map, hlst]; rfl)) rfl rfl rfl ?_
  refine OW_run' hE.ok 1 rfl ?_
  refine OW_alloc' hE 2 rfl rfl rfl rfl rfl rfl rfl ?_
  refine OW_store' hE rfl rfl rfl rfl rfl rfl rfl rfl rfl rfl rfl rfl ?_
  refine OW.le (LE_freezeBox 2 (ds := encBd lst) rfl rfl) ?_
  refine OW_end rfl ?_
  refine CW_seq ?_
  refine CW_seq ?_
  refine CW_region ?_
  refine OW_run' hE.ok 4 rfl ?_
  refine OW_call' hE (betweenOk l lst.at_ to) rfl rfl rfl rfl rfl rfl rfl ?_
  refine OW_end rfl ?_
  refine CW_block ?_
  refine CW.le (show LE _ _ ⟨J, (sset (sset (sset (sset (sset (sset (sset noSlots 5 (.d (.iptr [encS s]))) 6 (.d (.iptr (encP p)))) 7 (.d (.iptr [SK l]))) 8 (.d (.iptr [SBd b]))) 10 (.ptr 1 0)) 11 (.d (.iptr (encBd lst)))) 23 (.d (.fn (.func 146) [] [.iptr [SK l], .iptr [int lst.at_], .iptr [int to]]))), (hset noHeap 1 (some (.box 4 [.d (boo false)])))⟩ from LE_sh (slh_set (v := .d (.fn (.func 146) [] [.iptr [SK l], .iptr [int lst.at_], .iptr [int to]])) (slh_set (v := .d (.iptr (encBd lst))) (slh_set (v := .ptr 1 0) (slh_set (v := .d (.iptr [SBd b])) (slh_set (v := .d (.iptr [SK l])) (slh_set (v := .d (.iptr (encP p))) (slh_set (v := .d (.iptr [encS s])) (slh_no _ _) (by rfl) rfl) (by rfl) rfl) (by rfl) rfl) (by rfl) rfl) (by rfl) rfl) (by rfl) rfl) (by rfl) rfl) (hlh_set (hlh_no _ _) rfl rfl)) ?_
  refine CW_rangeH hE hF (between1 l lst.at_ to) rfl rfl rfl (ysP_kf _) rfl 9 (fun _ => (hset noHeap 1 (some (.box 4 [.d (boo false)])))) (fun q => ∀ j k, j < q → (betweenX l lst.at_ to)[j]? = some k → (goesX s p l b ⟨lst.el, k.at_⟩ || goesX s p l b ⟨nextX p lst.el, k.at_⟩) = false) rfl (fun _ => rfl) (fun j k hj => absurd hj (Nat.not_lt_zero j)) (fun F' n' Z' Br Bb hE hB vs q args hargs hp => ?_) (fun hp vs => ?_)
  · skip
    obtain ⟨k, hk, rfl⟩ := ysP_of hargs
    refine CW_region ?_
    refine OW_alloc' hE 3 rfl rfl rfl rfl rfl rfl rfl ?_
    refine OW_store' hE rfl rfl rfl rfl rfl rfl rfl rfl rfl rfl rfl rfl ?_
    refine OW_end rfl ?_
    refine ⟨rfl, rfl, ?_⟩
    refine CW_block ?_
    refine CW_seq ?_
    refine CW_drawn' hE 23 (by decide +kernel) ?_
    refine HW_run hE 8 rfl rfl ?_
    refine HW_loc hE (loc_build hE rfl rfl) rfl rfl rfl rfl ?_
    refine HW_call hE (goesOk s p l b ⟨lst.el, k.at_⟩ hr hf hb hl) rfl rfl rfl rfl rfl rfl rfl rfl ?_
    refine HW_run hE 1 rfl rfl ?_
    refine HW_split 35 rfl (fun h1 => ?_) (fun h1 => ?_)
    · skip
      have t1 : goesX s p l b ⟨lst.el, k.at_⟩ = true := h1
      refine HW_run hE 12 rfl rfl ?_
      refine HW_end ?_
      refine OW_run' hE.ok 1 rfl ?_
      refine OW_end rfl ?_
      refine CW_true rfl ?_
      refine CW_seq ?_
      refine CW_region ?_
      refine OW_store' hE rfl rfl rfl rfl rfl rfl rfl rfl rfl rfl rfl rfl ?_
      refine OW_end rfl ?_
      refine CW_ret ⟨_, LE.refl _ _, J, _, fun h => h, rfl, rfl, ?_⟩
      refine ⟨.inr rfl, rfl, ⟨_, rfl, rfl, ?_⟩, rfl⟩
      rw [skips_yes (j := q) (k := k) (by rw [hla]; exact hk) (by rw [hla, t1]; rfl)]
      exact AVle.refl _
    · skip
      have t1 : goesX s p l b ⟨lst.el, k.at_⟩ = false := h1
      refine HW_run hE 7 rfl rfl ?_
      refine HW_as 42 (.d (int ((m : Nat) : Int))) (by exact congrArg (fun z => AV.d (int z)) hme) ?_
      refine HW_call hE (nextOk p m (List.getElem?_eq_some_iff.1 hel).1 hl) rfl rfl rfl rfl rfl rfl rfl rfl ?_
      refine HW_run hE 2 rfl rfl ?_
      refine HW_loc hE (loc_build hE rfl rfl) rfl rfl rfl rfl ?_
      refine HW_call hE ((by have h0 := goesOk s p l b ⟨nextX p lst.el, k.at_⟩ hr hf hb hl; rw [hme] at h0 ⊢; exact h0)) rfl rfl rfl rfl rfl rfl rfl rfl ?_
      refine HW_end ?_
      refine OW_run' hE.ok 1 rfl ?_
      refine OW_end rfl ?_
      refine CW_cond _ rfl (fun h2 => ?_) (fun h2 => ?_)
      · skip
        have t2 : goesX s p l b ⟨nextX p lst.el, k.at_⟩ = true := by rw [hme]; exact h2
        refine CW_seq ?_
        refine CW_region ?_
        refine OW_store' hE rfl rfl rfl rfl rfl rfl rfl rfl rfl rfl rfl rfl ?_
        refine OW_end rfl ?_
        refine CW_ret ⟨_, LE.refl _ _, J, _, fun h => h, rfl, rfl, ?_⟩
        refine ⟨.inr rfl, rfl, ⟨_, rfl, rfl, ?_⟩, rfl⟩
        rw [skips_yes (j := q) (k := k) (by rw [hla]; exact hk) (by rw [hla, t1, t2]; rfl)]
        exact AVle.refl _
      · skip
        have t2 : goesX s p l b ⟨nextX p lst.el, k.at_⟩ = false := by rw [hme]; exact h2
        refine CW_skip ?_
        have hno : (goesX s p l b ⟨lst.el, k.at_⟩ || goesX s p l b ⟨nextX p lst.el, k.at_⟩) = false := by rw [t1, t2]; rfl
        refine ⟨⟨Bb J, noSlots, (hset (hset noHeap 1 (some (.box 4 [.d (boo false)]))) 9 (some (.ghost _ vs)))⟩, LE_sh (slh_no _ _) (hlh_set (hlh_set (hlh_no _ _) rfl rfl) rfl rfl), J, rfl, rfl, rfl, fun j k' hj hk' => ?_⟩
        by_cases hji : j = q
        · subst hji; rw [hk] at hk'; cases hk'; exact hno
        · exact hp j k' (by omega) hk'
  · skip
    refine CW_seq ?_
    refine CW_region ?_
    refine OW_store' hE rfl rfl rfl rfl rfl rfl rfl rfl rfl rfl rfl rfl ?_
    refine OW_end rfl ?_
    refine CW_ret ?_
    refine ⟨.inr rfl, rfl, ⟨_, rfl, rfl, ?_⟩, rfl⟩
    rw [skips_no (by rw [hla]; exact fun j k hj hk => hp j k (by rw [ysP_length]; exact hj) hk)]
    exact AVle.refl _

theorem prefixOk (s : List Ty) (p : Pat) (l : List Kp) (b : List Bd) (hr : Rises l) (hb : b.length ≤ 999) (hl : p.els.length ≤ 1000) : Does Try.prog 59 [argS s, argP p, .d (SK l), .d (SBd b)] noHeap (.d (boo (prefixX s p l b))) := by
  refine Does_of T_ok mixed (N := 51) Try.func59 rfl rfl rfl (by rfl) fun F n Z hE hF J => ?_
  refine CW_seq ?_
  refine CW_region ?_
  refine OW_run' hE.ok 3 rfl ?_
  refine OW_end rfl ?_
  refine CW_seq ?_
  refine CW_seq ?_
  refine CW_region ?_
  refine OW_run' hE.ok 3 rfl ?_
  refine OW_end rfl ?_
  refine CW_block ?_
  refine CW_loop (σ := {i : Nat // i ≤ b.length ∧ ∀ j y, j < i → b[j]? = some y → prefAt s p l b j y = true}) (fun i => ⟨J, (sset (sset (sset (sset (sset (sset (sset noSlots 2 (.d (SK l))) 3 (.d (SBd b))) 4 (.d (.iptr [encS s]))) 5 (.d (.iptr (encP p)))) 11 (.d (SBd b))) 12 (.d (int ((b.length : Nat) : Int)))) 13 (.d (int ((i.1 : Nat) : Int)))), noHeap⟩) (fun i => b.length - i.1) ⟨0, Nat.zero_le _, by omega⟩ (LE_sh (slh_set (slh_set (slh_set (slh_set (slh_set (slh_set (slh_set (slh_no _ _) rfl rfl) rfl rfl) rfl rfl) rfl rfl) rfl rfl) (by show AV.d (.lit (.int .i64 ((b.map encBd).length : Int))) = _; rw [List.length_map]; rfl) rfl) rfl rfl) (hlh_no _ _)) fun ⟨i, hi, hp⟩ => ?_
  refine CW_seq ?_
  refine CW_region ?_
  refine OW_run' hE.ok 1 rfl ?_
  refine OW_end rfl ?_
  refine CW_seq ?_
  refine CW_cond _ rfl (fun h1 => ?_) (fun h1 => ?_)
  · skip
    have hlt : i < b.length := by have := h1; simp at this; omega
    obtain ⟨x, hx⟩ : ∃ x, b[i]? = some x := ⟨_, List.getElem?_eq_getElem hlt⟩
    have hfi := pref_fits hp
    have hbi : (b.take i).length ≤ 999 := by rw [List.length_take]; omega
    refine CW_skip ?_
    refine CW_seq ?_
    refine CW_block ?_
    refine CW_seq ?_
    refine CW_region ?_
    refine OW_run' hE.ok 1 rfl ?_
    refine OW_loc' hE (loc_indexAddr hE rfl rfl rfl rfl rfl (by omega) (x := encBd x) (by simp [hx])) rfl rfl rfl ?_
    refine OW_run' hE.ok 1 rfl ?_
    refine OW_alloc' hE 1 rfl rfl rfl rfl rfl rfl rfl ?_
    refine OW_run' hE.ok 1 rfl ?_
    refine OW_store' hE rfl rfl rfl rfl rfl rfl rfl rfl rfl rfl rfl rfl ?_
    refine OW_end rfl ?_
    refine CW_seq ?_
    refine CW_drawn' hE 28 (by decide +kernel) ?_
    refine HW_run hE 5 rfl rfl ?_
    refine HW_loc hE (loc_slice hE (lo := none) (hi := some (.tmp 22)) rfl rfl rfl rfl (l := 0) (u := i) rfl ⟨.i64, rfl⟩ (by omega) (by simp; omega)) rfl rfl rfl rfl ?_
    refine HW_as 23 (.d (SBd (b.take i))) (by unfold SBd; rw [List.map_take]; rfl) ?_
    refine HW_run hE 1 rfl rfl ?_
    refine HW_call hE (goesOk s p l (b.take i) x hr hfi hbi hl) rfl rfl rfl rfl rfl rfl rfl rfl ?_
    refine HW_run hE 2 rfl rfl ?_
    refine HW_split 27 rfl (fun h2 => ?_) (fun h2 => ?_)
    · skip
      have g1 : (!goesX s p l (b.take i) x) = true := h2
      refine HW_run hE 18 rfl rfl ?_
      refine HW_end ?_
      refine OW_run' hE.ok 1 rfl ?_
      refine OW_end rfl ?_
      refine CW_true rfl ?_
      refine CW_seq ?_
      refine CW_region ?_
      refine OW_run' hE.ok 1 rfl ?_
      refine OW_end rfl ?_
      refine CW_ret ?_
      refine ⟨.inr rfl, rfl, ⟨_, rfl, rfl, ?_⟩, rfl⟩
      rw [pref_no hx (show prefAt s p l b i x = false by unfold prefAt; rw [g1]; rfl)]
      exact AVle.refl _
    · skip
      have g1 : (!goesX s p l (b.take i) x) = false := h2
      refine HW_run hE 4 rfl rfl ?_
      refine HW_split 31 rfl (fun h3 => ?_) (fun h3 => ?_)
      · skip
        have g2 : (!p.any) = true := h3
        refine HW_run hE 4 rfl rfl ?_
        refine HW_split 35 rfl (fun h4 => ?_) (fun h4 => ?_)
        · skip
          have g3 : decide (((i : Nat) : Int) > 0) = true := h4
          refine HW_run hE 5 rfl rfl ?_
          refine HW_loc hE (loc_slice hE (lo := none) (hi := some (.tmp 40)) rfl rfl rfl rfl (l := 0) (u := i) rfl ⟨.i64, rfl⟩ (by omega) (by simp; omega)) rfl rfl rfl rfl ?_
          refine HW_as 41 (.d (SBd (b.take i))) (by unfold SBd; rw [List.map_take]; rfl) ?_
          refine HW_run hE 2 rfl rfl ?_
          refine HW_call hE (skipsOk s p l (b.take i) x.at_ hr hfi hbi (take_pos hx g3) hl) rfl rfl rfl rfl rfl rfl rfl rfl ?_
          refine HW_run hE 1 rfl rfl ?_
          refine HW_end ?_
          refine OW_run' hE.ok 1 rfl ?_
          refine OW_end rfl ?_
          refine CW_cond _ rfl (fun h5 => ?_) (fun h5 => ?_)
          · skip
            have g4 : skipsX s p l (b.take i) x.at_ = true := h5
            refine CW_seq ?_
            refine CW_region ?_
            refine OW_run' hE.ok 1 rfl ?_
            refine OW_end rfl ?_
            refine CW_ret ?_
            refine ⟨.inr rfl, rfl, ⟨_, rfl, rfl, ?_⟩, rfl⟩
            rw [pref_no hx (show prefAt s p l b i x = false by unfold prefAt; rw [g1, g2, show decide (i > 0) = decide (((i : Nat) : Int) > 0) from decide_eq_decide.2 (by omega), g3, g4]; rfl)]
            exact AVle.refl _
          · skip
            have g4 : skipsX s p l (b.take i) x.at_ = false := h5
            refine CW_skip ?_
            refine CW_region ?_
            refine OW_run' hE.ok 2 rfl ?_
            refine OW_end rfl ?_
            have hpa : prefAt s p l b i x = true := by unfold prefAt; rw [g1, g2, show decide (i > 0) = decide (((i : Nat) : Int) > 0) from decide_eq_decide.2 (by omega), g3, g4]; rfl
            refine ⟨⟨i + 1, by omega, fun j y hj hy => ?_⟩, LE_sh (slh_set (v := .d (int ((i + 1 : Nat) : Int))) (slh_set (v := .d (int ((b.length : Nat) : Int))) (slh_set (v := .d (SBd b)) (slh_set (v := .d (.iptr (encP p))) (slh_set (v := .d (.iptr [encS s])) (slh_set (v := .d (SBd b)) (slh_set (v := .d (SK l)) (slh_no _ _) (by rfl) rfl) (by rfl) rfl) (by rfl) rfl) (by rfl) rfl) (by rfl) rfl) (by rfl) rfl) (by show AV.d (.lit (.int .i64 (IntKind.i64.wrap ((i : Int) + 1)))) = _; rw [wrap_succ (by omega)]; rfl) rfl) (hlh_no _ _), by show b.length - (i + 1) < b.length - i; omega⟩
            by_cases hji : j = i
            · subst hji; rw [hx] at hy; cases hy; exact hpa
            · exact hp j y (by omega) hy
        · skip
          have g3 : decide (((i : Nat) : Int) > 0) = false := h4
          refine HW_run hE 10 rfl rfl ?_
          refine HW_end ?_
          refine OW_run' hE.ok 1 rfl ?_
          refine OW_end rfl ?_
          refine CW_false rfl ?_
          refine CW_skip ?_
          refine CW_region ?_
          refine OW_run' hE.ok 2 rfl ?_
          refine OW_end rfl ?_
          have hpa : prefAt s p l b i x = true := by unfold prefAt; rw [g1, g2, show decide (i > 0) = decide (((i : Nat) : Int) > 0) from decide_eq_decide.2 (by omega), g3]; rfl
          refine ⟨⟨i + 1, by omega, fun j y hj hy => ?_⟩, LE_sh (slh_set (v := .d (int ((i + 1 : Nat) : Int))) (slh_set (v := .d (int ((b.length : Nat) : Int))) (slh_set (v := .d (SBd b)) (slh_set (v := .d (.iptr (encP p))) (slh_set (v := .d (.iptr [encS s])) (slh_set (v := .d (SBd b)) (slh_set (v := .d (SK l)) (slh_no _ _) (by rfl) rfl) (by rfl) rfl) (by rfl) rfl) (by rfl) rfl) (by rfl) rfl) (by rfl) rfl) (by show AV.d (.lit (.int .i64 (IntKind.i64.wrap ((i : Int) + 1)))) = _; rw [wrap_succ (by omega)]; rfl) rfl) (hlh_no _ _), by show b.length - (i + 1) < b.length - i; omega⟩
          by_cases hji : j = i
          · subst hji; rw [hx] at hy; cases hy; exact hpa
          · exact hp j y (by omega) hy
      · skip
        have g2 : (!p.any) = false := h3
        refine HW_run hE 14 rfl rfl ?_
        refine HW_end ?_
        refine OW_run' hE.ok 1 rfl ?_
        refine OW_end rfl ?_
        refine CW_false rfl ?_
        refine CW_skip ?_
        refine CW_region ?_
        refine OW_run' hE.ok 2 rfl ?_
        refine OW_end rfl ?_
        have hpa : prefAt s p l b i x = true := by unfold prefAt; rw [g1, g2]; rfl
        refine ⟨⟨i + 1, by omega, fun j y hj hy => ?_⟩, LE_sh (slh_set (v := .d (int ((i + 1 : Nat) : Int))) (slh_set (v := .d (int ((b.length : Nat) : Int))) (slh_set (v := .d (SBd b)) (slh_set (v := .d (.iptr (encP p))) (slh_set (v := .d (.iptr [encS s])) (slh_set (v := .d (SBd b)) (slh_set (v := .d (SK l)) (slh_no _ _) (by rfl) rfl) (by rfl) rfl) (by rfl) rfl) (by rfl) rfl) (by rfl) rfl) (by rfl) rfl) (by show AV.d (.lit (.int .i64 (IntKind.i64.wrap ((i : Int) + 1)))) = _; rw [wrap_succ (by omega)]; rfl) rfl) (hlh_no _ _), by show b.length - (i + 1) < b.length - i; omega⟩
        by_cases hji : j = i
        · subst hji; rw [hx] at hy; cases hy; exact hpa
        · exact hp j y (by omega) hy
  · skip
    have hge : b.length ≤ i := by have := h1; simp at this; omega
    refine CW_exit ?_
    show CW _ _ _ _
    refine CW_seq ?_
    refine CW_region ?_
    refine OW_run' hE.ok 4 rfl ?_
    refine OW_end rfl ?_
    refine CW_ret ?_
    refine ⟨.inr rfl, rfl, ⟨_, rfl, rfl, ?_⟩, rfl⟩
    refine AVle.of (Eq.trans (b := .d (boo (decide (((b.map encBd).length : Int) > 0)))) rfl (congrArg (fun z => AV.d (boo z)) ?_))
    rw [List.length_map]
    exact (pref_all fun j x hj hx => hp j x (by omega) hx).symm
end Go.Proofs.Ytojnicnbmgiplaa
