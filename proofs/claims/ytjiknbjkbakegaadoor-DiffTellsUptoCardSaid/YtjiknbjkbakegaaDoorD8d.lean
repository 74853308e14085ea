/- Parts of an abstract logic over the kit's walks, and walks in it: D8d. -/
import Derived.Test.YtjiknbjkbakegaaDoorD8c
namespace Go.Proofs.YtjiknbjkbakegaaDoor
open Go Go.AL
set_option linter.unusedVariables false
set_option linter.unusedSimpArgs false
set_option maxHeartbeats 4000000
theorem shapedStep (op : Int) (v : Vl) (al fi : ByteArray) (ks : List Exp) (dp : Nat) (ih : ∀ k ∈ ks, ∀ d : Nat, d ≤ 6 → Does Tryd.prog 44 [argX k, .d (int ((d : Nat) : Int))] noHeap (.d (boo (shapedX k d)))) (hd : dp ≤ 6) : Does Tryd.prog 44 [argX (.mk op v al fi ks), .d (int ((dp : Nat) : Int))] noHeap (.d (boo (shapedX (.mk op v al fi ks) dp))) := by
  refine Does_of T_ok mixed (N := 84) Tryd.func44 rfl rfl rfl (by rfl) fun F n Z hE hF J => ?_
  refine CW_seq ?_
  refine CW_region ?_
  refine OW_run' hE.ok 2 rfl ?_
  refine OW_end rfl ?_
  refine CW_seq ?_
  refine CW_seq ?_
  refine CW_drawn' hE 15 (by decide +kernel) ?_
  refine HW_run hE 4 rfl rfl ?_
  refine HW_split 11 rfl (fun h1 => ?_) (fun h1 => ?_)
  · skip
    have g1 : decide (op < 1) = true := h1
    refine HW_run hE 11 rfl rfl ?_
    refine HW_end ?_
    refine OW_run' hE.ok 6 rfl ?_
    refine OW_end rfl ?_
    refine CW_true rfl ?_
    refine CW_seq ?_
    refine CW_region ?_
    refine OW_run' hE.ok 1 rfl ?_
    refine OW_end rfl ?_
    refine CW_ret ?_
    refine ⟨.inr rfl, rfl, ⟨_, rfl, rfl, ?_⟩, rfl⟩
    exact AVle.of (congrArg (fun b => AV.d (boo b)) (by unfold shapedX; rw [g1]; rfl))
  · skip
    have g1 : decide (op < 1) = false := h1
    refine HW_run hE 5 rfl rfl ?_
    refine HW_split 16 rfl (fun h2 => ?_) (fun h2 => ?_)
    · skip
      have g2 : decide (op > 12) = true := h2
      refine HW_run hE 6 rfl rfl ?_
      refine HW_end ?_
      refine OW_run' hE.ok 6 rfl ?_
      refine OW_end rfl ?_
      refine CW_true rfl ?_
      refine CW_seq ?_
      refine CW_region ?_
      refine OW_run' hE.ok 1 rfl ?_
      refine OW_end rfl ?_
      refine CW_ret ?_
      refine ⟨.inr rfl, rfl, ⟨_, rfl, rfl, ?_⟩, rfl⟩
      exact AVle.of (congrArg (fun b => AV.d (boo b)) (by unfold shapedX; rw [g1, g2]; rfl))
    · skip
      have g2 : decide (op > 12) = false := h2
      refine HW_run hE 5 rfl rfl ?_
      refine HW_call hE (refKidsOk _) rfl rfl rfl rfl rfl rfl rfl rfl ?_
      refine HW_end ?_
      refine OW_run' hE.ok 3 rfl ?_
      refine OW_split' 25 rfl (fun h3 => ?_) (fun h3 => ?_)
      · skip
        have g3 : ((ks.length : Int) != kidsN op) = true := by have := h3; rw [show ((encXs ks).length : Int) = ks.length by rw [encXs_length]] at this; exact this
        refine OW_run' hE.ok 3 rfl ?_
        refine OW_end rfl ?_
        refine CW_true rfl ?_
        refine CW_seq ?_
        refine CW_region ?_
        refine OW_run' hE.ok 1 rfl ?_
        refine OW_end rfl ?_
        refine CW_ret ?_
        refine ⟨.inr rfl, rfl, ⟨_, rfl, rfl, ?_⟩, rfl⟩
        exact AVle.of (congrArg (fun b => AV.d (boo b)) (by unfold shapedX; rw [g1, g2, g3]; rfl))
      · skip
        have g3 : ((ks.length : Int) != kidsN op) = false := by have := h3; rw [show ((encXs ks).length : Int) = ks.length by rw [encXs_length]] at this; exact this
        refine OW_run' hE.ok 3 rfl ?_
        refine OW_end rfl ?_
        refine CW_cond _ rfl (fun h4 => ?_) (fun h4 => ?_)
        · skip
          have g4 : decide ((dp : Int) > 5) = true := h4
          refine CW_seq ?_
          refine CW_region ?_
          refine OW_run' hE.ok 1 rfl ?_
          refine OW_end rfl ?_
          refine CW_ret ?_
          refine ⟨.inr rfl, rfl, ⟨_, rfl, rfl, ?_⟩, rfl⟩
          exact AVle.of (congrArg (fun b => AV.d (boo b)) (by unfold shapedX; rw [g1, g2, g3, g4]; rfl))
        · skip
          have g4 : decide ((dp : Int) > 5) = false := h4
          refine CW_skip ?_
          refine CW_cutE (fun _ : Unit => ⟨J, (sset (sset (sset (sset noSlots 1 (.d (int ((dp : Nat) : Int)))) 2 (.d (.iptr (encX (.mk op v al fi ks))))) 5 (.d (boo (sameV v ⟨0, 0, nul⟩)))) 6 (.d (boo (noNames al fi)))), noHeap⟩) (fun _ => True) ?_ ?_
          · skip
            refine CW_drawn' hE 13 (by decide +kernel) ?_
            refine HW_run hE 2 rfl rfl ?_
            refine HW_loc hE (loc_build hE rfl rfl) rfl rfl rfl rfl ?_
            refine HW_loc hE (loc_eql rfl rfl rfl (r := sameV v ⟨0, 0, nul⟩) (eqLaw_flat T_ok (t := 38) rfl (by decide +kernel) rfl (X := encV v) (Y := encV ⟨0, 0, nul⟩) rfl rfl rfl)) rfl rfl rfl rfl ?_
            refine HW_run hE 4 rfl rfl ?_
            refine HW_split 36 rfl (fun h5 => ?_) (fun h5 => ?_)
            · skip
              have g5 : same al nul = true := h5
              refine HW_run hE 5 rfl rfl ?_
              refine HW_end ?_
              refine OW_run' hE.ok 1 rfl ?_
              refine OW_end rfl ?_
              exact ⟨(), trivial, LE_sh (slh_set (v := .d (boo (noNames al fi))) (slh_set (v := .d (boo (sameV v ⟨0, 0, nul⟩))) (slh_set (v := .d (.iptr (encX (.mk op v al fi ks)))) (slh_set (v := .d (int ((dp : Nat) : Int))) (slh_no _ _) (by rfl) rfl) (by rfl) rfl) (by rfl) rfl) (by exact (congrArg (fun b => AV.d (boo b)) (by unfold noNames; rw [g5]; rfl))) rfl) (hlh_no _ _)⟩
            · skip
              have g5 : same al nul = false := h5
              refine HW_run hE 5 rfl rfl ?_
              refine HW_end ?_
              refine OW_run' hE.ok 1 rfl ?_
              refine OW_end rfl ?_
              exact ⟨(), trivial, LE_sh (slh_set (v := .d (boo (noNames al fi))) (slh_set (v := .d (boo (sameV v ⟨0, 0, nul⟩))) (slh_set (v := .d (.iptr (encX (.mk op v al fi ks)))) (slh_set (v := .d (int ((dp : Nat) : Int))) (slh_no _ _) (by rfl) rfl) (by rfl) rfl) (by rfl) rfl) (by exact (congrArg (fun b => AV.d (boo b)) (by unfold noNames; rw [g5]; rfl))) rfl) (hlh_no _ _)⟩
          · skip
            rintro _ _
            refine CW_seq ?_
            refine CW_seq ?_
            refine CW_region ?_
            refine OW_run' hE.ok 2 rfl ?_
            refine OW_end rfl ?_
            refine CW_block ?_
            refine CW_seq ?_
            refine CW_region ?_
            refine OW_run' hE.ok 2 rfl ?_
            refine OW_end rfl ?_
            refine CW_cond _ rfl (fun h6 => ?_) (fun h6 => ?_)
            · skip
              have g6 : (op == 1) = true := h6
              refine CW_seq ?_
              refine CW_region ?_
              refine OW_run' hE.ok 2 rfl ?_
              refine OW_call' hE (refIsValOk _) rfl rfl rfl rfl rfl rfl rfl ?_
              refine OW_run' hE.ok 1 rfl ?_
              refine OW_split' 48 rfl (fun h7 => ?_) (fun h7 => ?_)
              · skip
                have g7 : isVal v = true := h7
                refine OW_run' hE.ok 3 rfl ?_
                refine OW_end rfl ?_
                refine CW_ret ?_
                refine ⟨.inr rfl, rfl, ⟨_, rfl, rfl, ?_⟩, rfl⟩
                exact AVle.of (congrArg (fun b => AV.d (boo b)) (by unfold shapedX; rw [g1, g2, g3, g4, g6, g7]; rfl))
              · skip
                have g7 : isVal v = false := h7
                refine OW_run' hE.ok 3 rfl ?_
                refine OW_end rfl ?_
                refine CW_ret ?_
                refine ⟨.inr rfl, rfl, ⟨_, rfl, rfl, ?_⟩, rfl⟩
                exact AVle.of (congrArg (fun b => AV.d (boo b)) (by unfold shapedX; rw [g1, g2, g3, g4, g6, g7]; rfl))
            · skip
              have g6 : (op == 1) = false := h6
              refine CW_seq ?_
              refine CW_region ?_
              refine OW_run' hE.ok 2 rfl ?_
              refine OW_end rfl ?_
              refine CW_cond _ rfl (fun h8 => ?_) (fun h8 => ?_)
              · skip
                have g8 : (op == 2) = true := h8
                refine CW_seq ?_
                refine CW_region ?_
                refine OW_run' hE.ok 2 rfl ?_
                refine OW_split' 54 rfl (fun h9 => ?_) (fun h9 => ?_)
                · skip
                  have g9 : sameV v ⟨0, 0, nul⟩ = true := h9
                  refine OW_run' hE.ok 2 rfl ?_
                  refine OW_call' hE (refNameOk _) rfl rfl rfl rfl rfl rfl rfl ?_
                  refine OW_run' hE.ok 2 rfl ?_
                  refine OW_split' 59 rfl (fun h10 => ?_) (fun h10 => ?_)
                  · skip
                    have g10 : isName al = true := h10
                    refine OW_run' hE.ok 2 rfl ?_
                    refine OW_call' hE (refNameOk _) rfl rfl rfl rfl rfl rfl rfl ?_
                    refine OW_run' hE.ok 2 rfl ?_
                    refine OW_end rfl ?_
                    refine CW_ret ?_
                    refine ⟨.inr rfl, rfl, ⟨_, rfl, rfl, ?_⟩, rfl⟩
                    exact AVle.of (congrArg (fun b => AV.d (boo b)) (by unfold shapedX; rw [g1, g2, g3, g4, g6, g8, g9, g10]; rfl))
                  · skip
                    have g10 : isName al = false := h10
                    refine OW_run' hE.ok 5 rfl ?_
                    refine OW_end rfl ?_
                    refine CW_ret ?_
                    refine ⟨.inr rfl, rfl, ⟨_, rfl, rfl, ?_⟩, rfl⟩
                    exact AVle.of (congrArg (fun b => AV.d (boo b)) (by unfold shapedX; rw [g1, g2, g3, g4, g6, g8, g9, g10]; rfl))
                · skip
                  have g9 : sameV v ⟨0, 0, nul⟩ = false := h9
                  refine OW_run' hE.ok 10 rfl ?_
                  refine OW_end rfl ?_
                  refine CW_ret ?_
                  refine ⟨.inr rfl, rfl, ⟨_, rfl, rfl, ?_⟩, rfl⟩
                  exact AVle.of (congrArg (fun b => AV.d (boo b)) (by unfold shapedX; rw [g1, g2, g3, g4, g6, g8, g9]; rfl))
              · skip
                have g8 : (op == 2) = false := h8
                refine CW_skip ?_
                refine CW_seq ?_
                refine CW_seq ?_
                refine CW_region ?_
                refine OW_run' hE.ok 1 rfl ?_
                refine OW_end rfl ?_
                refine CW_block ?_
                refine CW_loop (σ := {i : Nat // i ≤ ks.length ∧ ∀ j a, j < i → ks[j]? = some a → shapedX a (dp + 1) = true}) (fun i => ⟨J, (sset (sset (sset (sset (sset noSlots 1 (.d (int ((dp : Nat) : Int)))) 2 (.d (.iptr (encX (.mk op v al fi ks))))) 5 (.d (boo (sameV v ⟨0, 0, nul⟩)))) 6 (.d (boo (noNames al fi)))) 7 (.d (int ((i.1 : Nat) : Int)))), noHeap⟩) (fun i => ks.length - i.1) ⟨0, Nat.zero_le _, fun j a hj => by omega⟩ (LE_sh (slh_set (slh_set (slh_set (slh_set (slh_set (slh_no _ _) rfl rfl) rfl rfl) rfl rfl) rfl rfl) rfl rfl) (hlh_no _ _)) fun ⟨i, hi, hp⟩ => ?_
                have hd5 : dp ≤ 5 := by simp at g4; omega
                refine CW_seq ?_
                refine CW_seq ?_
                refine CW_region ?_
                refine OW_run' hE.ok 5 rfl ?_
                refine OW_end rfl ?_
                refine CW_cond _ rfl (fun h11 => ?_) (fun h11 => ?_)
                · skip
                  refine CW_know (know_sl (d := 66) rfl) fun hlen => ?_
                  rw [encXs_length] at hlen
                  have hlt : i < ks.length := by have := h11; simp [encXs_length] at this; omega
                  obtain ⟨a, ha⟩ : ∃ a, ks[i]? = some a := ⟨_, List.getElem?_eq_getElem hlt⟩
                  have hI := ih a (List.mem_of_getElem? ha) (dp + 1) (by omega)
                  obtain ⟨o3, v3, c3, f3, k3, rfl⟩ := Exp.shape a
                  refine CW_skip ?_
                  refine CW_seq ?_
                  refine CW_block ?_
                  refine CW_seq ?_
                  refine CW_region ?_
                  refine OW_run' hE.ok 3 rfl ?_
                  refine OW_loc' hE (loc_indexAddr hE rfl rfl rfl rfl rfl (by omega) (x := encX (.mk o3 v3 c3 f3 k3)) (encXs_get ha)) rfl rfl rfl ?_
                  refine OW_run' hE.ok 3 rfl ?_
                  refine OW_as' 77 (.d (int ((dp + 1 : Nat) : Int))) (by show AV.d (.lit (.int .i64 (IntKind.i64.wrap ((dp : Int) + 1)))) = _; rw [wrap_succ (by omega)]; rfl) ?_
                  refine OW_call' hE (hI) rfl rfl rfl rfl rfl rfl rfl ?_
                  refine OW_run' hE.ok 1 rfl ?_
                  refine OW_end rfl ?_
                  refine CW_cond _ rfl (fun h12 => ?_) (fun h12 => ?_)
                  · skip
                    have hbad : shapedX (.mk o3 v3 c3 f3 k3) (dp + 1) = false := by simpa using h12
                    refine CW_seq ?_
                    refine CW_region ?_
                    refine OW_run' hE.ok 1 rfl ?_
                    refine OW_end rfl ?_
                    refine CW_ret ?_
                    refine ⟨.inr rfl, rfl, ⟨_, rfl, rfl, ?_⟩, rfl⟩
                    exact AVle.of (congrArg (fun b => AV.d (boo b)) (by unfold shapedX; rw [g1, g2, g3, g4, g6, g8, shapedXs_bad ha hbad]; rfl))
                  · skip
                    have hgood : shapedX (.mk o3 v3 c3 f3 k3) (dp + 1) = true := by simpa using h12
                    refine CW_skip ?_
                    refine CW_region ?_
                    refine OW_run' hE.ok 3 rfl ?_
                    refine OW_end rfl ?_
                    refine ⟨⟨i + 1, by omega, fun j x hj hx => ?_⟩, LE_sh (slh_set (v := .d (int ((i + 1 : Nat) : Int))) (slh_set (v := .d (boo (noNames al fi))) (slh_set (v := .d (boo (sameV v ⟨0, 0, nul⟩))) (slh_set (v := .d (.iptr (encX (.mk op v al fi ks)))) (slh_set (v := .d (int ((dp : Nat) : Int))) (slh_no _ _) (by rfl) rfl) (by rfl) rfl) (by rfl) rfl) (by rfl) rfl) (by show AV.d (.lit (.int .i64 (IntKind.i64.wrap ((i : Int) + 1)))) = _; rw [wrap_succ (by omega)]; rfl) rfl) (hlh_no _ _), by show ks.length - (i + 1) < ks.length - i; omega⟩
                    by_cases hji : j = i
                    · subst hji; rw [ha] at hx; cases hx; exact hgood
                    · exact hp j x (by omega) hx
                · skip
                  have hge : ks.length ≤ i := by have := h11; simp [encXs_length] at this; omega
                  have hall := shapedXs_ok hge hp
                  refine CW_exit ?_
                  show CW _ _ _ _
                  refine CW_seq ?_
                  refine CW_region ?_
                  refine OW_run' hE.ok 2 rfl ?_
                  refine OW_split' 81 rfl (fun h13 => ?_) (fun h13 => ?_)
                  · skip
                    have g9 : sameV v ⟨0, 0, nul⟩ = true := h13
                    refine OW_run' hE.ok 3 rfl ?_
                    refine OW_end rfl ?_
                    refine CW_ret ?_
                    refine ⟨.inr rfl, rfl, ⟨_, rfl, rfl, ?_⟩, rfl⟩
                    exact AVle.of (congrArg (fun b => AV.d (boo b)) (by unfold shapedX; rw [g1, g2, g3, g4, g6, g8, hall, g9]; rfl))
                  · skip
                    have g9 : sameV v ⟨0, 0, nul⟩ = false := h13
                    refine OW_run' hE.ok 3 rfl ?_
                    refine OW_end rfl ?_
                    refine CW_ret ?_
                    refine ⟨.inr rfl, rfl, ⟨_, rfl, rfl, ?_⟩, rfl⟩
                    exact AVle.of (congrArg (fun b => AV.d (boo b)) (by unfold shapedX; rw [g1, g2, g3, g4, g6, g8, hall, g9]; rfl))

theorem shapedAll : ∀ (n : Nat) (x : Exp), SizeOf.sizeOf x < n → ∀ d : Nat, d ≤ 6 → Does Tryd.prog 44 [argX x, .d (int ((d : Nat) : Int))] noHeap (.d (boo (shapedX x d)))
  | 0, x, h => by omega
  | n + 1, .mk op v al fi ks, h => fun d hd => shapedStep op v al fi ks d (fun k hk => shapedAll n k (by have := List.sizeOf_lt_of_mem hk; simp at h; omega)) hd

theorem refIsXOk0 (x : Exp) : Does Tryd.prog 32 [argX x] noHeap (.d (boo (isExpr x))) := by
  refine Does_of T_ok mixed (N := 11) Tryd.func32 rfl rfl rfl (by rfl) fun F n Z hE hF J => ?_
  have q := shapedAll _ x (Nat.lt_succ_self _) 1 (by omega)
  have q2 := fun h => refNodesOk x (shaped_1000 h)
  obtain ⟨o1, v1, c1, f1, k1, rfl⟩ := Exp.shape x
  refine CW_seq ?_
  refine CW_region ?_
  refine OW_run' hE.ok 2 rfl ?_
  refine OW_end rfl ?_
  refine CW_seq ?_
  refine CW_region ?_
  refine OW_run' hE.ok 1 rfl ?_
  refine OW_call' hE (q) rfl rfl rfl rfl rfl rfl rfl ?_
  refine OW_run' hE.ok 1 rfl ?_
  refine OW_split' 5 rfl (fun h1 => ?_) (fun h1 => ?_)
  · skip
    have g1 : shapedX (.mk o1 v1 c1 f1 k1) 1 = true := h1
    refine OW_run' hE.ok 1 rfl ?_
    refine OW_call' hE (q2 g1) rfl rfl rfl rfl rfl rfl rfl ?_
    refine OW_run' hE.ok 4 rfl ?_
    refine OW_end rfl ?_
    refine CW_ret ?_
    refine ⟨.inr rfl, rfl, ⟨_, rfl, rfl, ?_⟩, rfl⟩
    exact AVle.of (congrArg (fun b => AV.d (boo b)) (by unfold isExpr; rw [g1, Bool.true_and]; exact congrArg (fun z => decide ((z : Int) ≤ 24)) (congrArg Int.ofNat (encXs_length _)) |>.trans (by simp; try omega)))
  · skip
    have g1 : shapedX (.mk o1 v1 c1 f1 k1) 1 = false := h1
    refine OW_run' hE.ok 6 rfl ?_
    refine OW_end rfl ?_
    refine CW_ret ?_
    refine ⟨.inr rfl, rfl, ⟨_, rfl, rfl, ?_⟩, rfl⟩
    exact AVle.of (congrArg (fun b => AV.d (boo b)) (by unfold isExpr; rw [g1]; rfl))

theorem refIsXOk (x : Exp) : Does Tryd.prog 32 [argX x] noHeap (.d (boo (isX x))) := by have := refIsXOk0 x; rwa [isExpr_eq] at this
end Go.Proofs.YtjiknbjkbakegaaDoor
