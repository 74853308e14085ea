/- Parts of an abstract logic over the kit's walks, and walks in it: D8xs. -/
import Derived.Test.YtjiknbjkbakegaaDoorD8xn
namespace Go.Proofs.YtjiknbjkbakegaaDoor
open Go Go.AL
set_option linter.unusedVariables false
set_option linter.unusedSimpArgs false
set_option maxHeartbeats 4000000
theorem isNodeOk (x : Exp) : Does Tryd.prog 53 [argX x] noHeap (.d (boo (isNodeX x))) := by
  refine Does_of T_ok mixed (N := 72) Tryd.func53 rfl rfl rfl (by rfl) fun F n Z hE hF J => ?_
  obtain ⟨op, v, al, fi, ks, rfl⟩ := Exp.shape x
  obtain ⟨FD, hFD⟩ : ∃ FD, FD = (!(same al nul) || !(same fi nul)) := ⟨_, rfl⟩
  have hany : (encXs ks).length = ks.length := encXs_length ks
  have hcon := containsX ks 65 [] [] (fun k => k.op == 0) (fun k _ => isN1 k)
  rw [← encXs_eq] at hcon
  refine CW_seq ?_
  refine CW_region ?_
  refine OW_run' hE.ok 2 rfl ?_
  refine OW_end rfl ?_
  refine CW_cutE (fun fd : Bool => ⟨J, (sset (sset (sset noSlots 1 (.d (.iptr (encX (.mk op v al fi ks))))) 3 (.d (boo (!(sameV v ⟨0, 0, nul⟩))))) 4 (.d (boo fd))), noHeap⟩) (fun fd => fd = FD) ?_ ?_
  · skip
    refine CW_drawn' hE 13 (by decide +kernel) ?_
    refine HW_run hE 2 rfl rfl ?_
    refine HW_loc hE (loc_build hE rfl rfl) rfl rfl rfl rfl ?_
    refine HW_loc hE (loc_neq rfl rfl rfl (r := sameV v ⟨0, 0, nul⟩) (eqLaw_flat T_ok (t := 38) rfl (by decide +kernel) rfl (X := encV v) (Y := encV ⟨0, 0, nul⟩) rfl rfl rfl)) rfl rfl rfl rfl ?_
    refine HW_run hE 4 rfl rfl ?_
    refine HW_split 12 rfl (fun h1 => ?_) (fun h1 => ?_)
    · skip
      have g12 := h1
      refine HW_run hE 5 rfl rfl ?_
      refine HW_end ?_
      refine OW_run' hE.ok 1 rfl ?_
      refine OW_end rfl ?_
      exact ⟨true, by rw [hFD, show (!(same al nul)) = true from g12]; rfl, LE_sh (slh_set (slh_set (slh_set (slh_no _ _) rfl rfl) rfl rfl) rfl rfl) (hlh_no _ _)⟩
    · skip
      have g12 := h1
      refine HW_run hE 5 rfl rfl ?_
      refine HW_end ?_
      refine OW_run' hE.ok 1 rfl ?_
      refine OW_end rfl ?_
      exact ⟨(!(same fi nul)), by rw [hFD, show (!(same al nul)) = false from g12]; rfl, LE_sh (slh_set (slh_set (slh_set (slh_no _ _) rfl rfl) rfl rfl) rfl rfl) (hlh_no _ _)⟩
  · skip
    rintro fd rfl
    refine CW_seq ?_
    refine CW_block ?_
    refine CW_seq ?_
    refine CW_drawn' hE 15 (by decide +kernel) ?_
    refine HW_run hE 4 rfl rfl ?_
    refine HW_split 21 rfl (fun h2 => ?_) (fun h2 => ?_)
    · skip
      have g1 := h2
      refine HW_run hE 11 rfl rfl ?_
      refine HW_end ?_
      refine OW_run' hE.ok 3 rfl ?_
      refine OW_end rfl ?_
      refine CW_true rfl ?_
      refine CW_seq ?_
      refine CW_region ?_
      refine OW_run' hE.ok 1 rfl ?_
      refine OW_end rfl ?_
      refine CW_ret ?_
      refine ⟨.inr rfl, rfl, ⟨_, rfl, rfl, ?_⟩, rfl⟩
      exact AVle.of (congrArg (fun b => AV.d (boo b)) (by unfold isNodeX; dsimp only; rw [g1]; rfl))
    · skip
      have g1 := h2
      refine HW_run hE 5 rfl rfl ?_
      refine HW_split 26 rfl (fun h3 => ?_) (fun h3 => ?_)
      · skip
        have g2 := h3
        refine HW_run hE 6 rfl rfl ?_
        refine HW_end ?_
        refine OW_run' hE.ok 3 rfl ?_
        refine OW_end rfl ?_
        refine CW_true rfl ?_
        refine CW_seq ?_
        refine CW_region ?_
        refine OW_run' hE.ok 1 rfl ?_
        refine OW_end rfl ?_
        refine CW_ret ?_
        refine ⟨.inr rfl, rfl, ⟨_, rfl, rfl, ?_⟩, rfl⟩
        exact AVle.of (congrArg (fun b => AV.d (boo b)) (by unfold isNodeX; dsimp only; rw [g1, g2]; rfl))
      · skip
        have g2 := h3
        refine HW_run hE 5 rfl rfl ?_
        refine HW_call hE (kidsOk _) rfl rfl rfl rfl rfl rfl rfl rfl ?_
        refine HW_end ?_
        refine OW_as' 29 (.d (int ((ks.length : Nat) : Int))) (by show AV.d (.lit (.int .i64 ((encXs ks).length : Int))) = _; rw [hany]; rfl) ?_
        refine OW_run' hE.ok 1 rfl ?_
        refine OW_run' hE.ok 2 rfl ?_
        refine OW_end rfl ?_
        refine CW_cond _ rfl (fun h4 => ?_) (fun h4 => ?_)
        · skip
          have g3 := h4
          refine CW_seq ?_
          refine CW_region ?_
          refine OW_run' hE.ok 1 rfl ?_
          refine OW_end rfl ?_
          refine CW_ret ?_
          refine ⟨.inr rfl, rfl, ⟨_, rfl, rfl, ?_⟩, rfl⟩
          exact AVle.of (congrArg (fun b => AV.d (boo b)) (by unfold isNodeX; dsimp only; rw [g1, g2, g3]; rfl))
        · skip
          have g3 := h4
          refine CW_seq ?_
          refine CW_region ?_
          refine OW_run' hE.ok 2 rfl ?_
          refine OW_call' hE (hcon) rfl rfl rfl rfl rfl rfl rfl ?_
          refine OW_run' hE.ok 1 rfl ?_
          refine OW_end rfl ?_
          refine CW_cond _ rfl (fun h5 => ?_) (fun h5 => ?_)
          · skip
            have g4 := h5
            refine CW_seq ?_
            refine CW_region ?_
            refine OW_run' hE.ok 1 rfl ?_
            refine OW_end rfl ?_
            refine CW_ret ?_
            refine ⟨.inr rfl, rfl, ⟨_, rfl, rfl, ?_⟩, rfl⟩
            exact AVle.of (congrArg (fun b => AV.d (boo b)) (by unfold isNodeX; dsimp only; rw [g1, g2, g3, g4]; rfl))
          · skip
            have g4 := h5
            refine CW_seq ?_
            refine CW_region ?_
            refine OW_run' hE.ok 4 rfl ?_
            refine OW_end rfl ?_
            refine CW_cond _ rfl (fun h6 => ?_) (fun h6 => ?_)
            · skip
              have g5 := h6
              refine CW_seq ?_
              refine CW_region ?_
              refine OW_run' hE.ok 2 rfl ?_
              refine OW_call' hE (isValOk _) rfl rfl rfl rfl rfl rfl rfl ?_
              refine OW_run' hE.ok 1 rfl ?_
              refine OW_split' 46 rfl (fun h7 => ?_) (fun h7 => ?_)
              · skip
                have g6 := h7
                refine OW_run' hE.ok 4 rfl ?_
                refine OW_end rfl ?_
                refine CW_ret ?_
                refine ⟨.inr rfl, rfl, ⟨_, rfl, rfl, ?_⟩, rfl⟩
                exact AVle.of (congrArg (fun b => AV.d (boo b)) (by unfold isNodeX; dsimp only; rw [g1, g2, g3, g4, g5, g6, hFD]; rfl))
              · skip
                have g6 := h7
                refine OW_run' hE.ok 4 rfl ?_
                refine OW_end rfl ?_
                refine CW_ret ?_
                refine ⟨.inr rfl, rfl, ⟨_, rfl, rfl, ?_⟩, rfl⟩
                exact AVle.of (congrArg (fun b => AV.d (boo b)) (by unfold isNodeX; dsimp only; rw [g1, g2, g3, g4, g5, g6]; rfl))
            · skip
              have g5 := h6
              refine CW_seq ?_
              refine CW_region ?_
              refine OW_run' hE.ok 4 rfl ?_
              refine OW_end rfl ?_
              refine CW_cond _ rfl (fun h8 => ?_) (fun h8 => ?_)
              · skip
                have g7 := h8
                refine CW_seq ?_
                refine CW_region ?_
                refine OW_run' hE.ok 3 rfl ?_
                refine OW_split' 56 rfl (fun h9 => ?_) (fun h9 => ?_)
                · skip
                  have g8 := h9
                  refine OW_run' hE.ok 2 rfl ?_
                  refine OW_call' hE (nameOk _) rfl rfl rfl rfl rfl rfl rfl ?_
                  refine OW_run' hE.ok 2 rfl ?_
                  refine OW_split' 61 rfl (fun h10 => ?_) (fun h10 => ?_)
                  · skip
                    have g9 := h10
                    refine OW_run' hE.ok 2 rfl ?_
                    refine OW_call' hE (nameOk _) rfl rfl rfl rfl rfl rfl rfl ?_
                    refine OW_run' hE.ok 2 rfl ?_
                    refine OW_end rfl ?_
                    refine CW_ret ?_
                    refine ⟨.inr rfl, rfl, ⟨_, rfl, rfl, ?_⟩, rfl⟩
                    exact AVle.of (congrArg (fun b => AV.d (boo b)) (by unfold isNodeX; dsimp only; rw [g1, g2, g3, g4, g5, g7, g8, g9]; rfl))
                  · skip
                    have g9 := h10
                    refine OW_run' hE.ok 5 rfl ?_
                    refine OW_end rfl ?_
                    refine CW_ret ?_
                    refine ⟨.inr rfl, rfl, ⟨_, rfl, rfl, ?_⟩, rfl⟩
                    exact AVle.of (congrArg (fun b => AV.d (boo b)) (by unfold isNodeX; dsimp only; rw [g1, g2, g3, g4, g5, g7, g8, g9]; rfl))
                · skip
                  have g8 := h9
                  refine OW_run' hE.ok 10 rfl ?_
                  refine OW_end rfl ?_
                  refine CW_ret ?_
                  refine ⟨.inr rfl, rfl, ⟨_, rfl, rfl, ?_⟩, rfl⟩
                  exact AVle.of (congrArg (fun b => AV.d (boo b)) (by unfold isNodeX; dsimp only; rw [g1, g2, g3, g4, g5, g7, g8]; rfl))
              · skip
                have g7 := h8
                refine CW_skip ?_
                refine CW_seq ?_
                refine CW_region ?_
                refine OW_run' hE.ok 3 rfl ?_
                refine OW_split' 68 rfl (fun h11 => ?_) (fun h11 => ?_)
                · skip
                  have g10 := h11
                  refine OW_run' hE.ok 4 rfl ?_
                  refine OW_end rfl ?_
                  refine CW_ret ?_
                  refine ⟨.inr rfl, rfl, ⟨_, rfl, rfl, ?_⟩, rfl⟩
                  exact AVle.of (congrArg (fun b => AV.d (boo b)) (by unfold isNodeX; dsimp only; rw [g1, g2, g3, g4, g5, g7, g10, hFD]; rfl))
                · skip
                  have g10 := h11
                  refine OW_run' hE.ok 4 rfl ?_
                  refine OW_end rfl ?_
                  refine CW_ret ?_
                  refine ⟨.inr rfl, rfl, ⟨_, rfl, rfl, ?_⟩, rfl⟩
                  exact AVle.of (congrArg (fun b => AV.d (boo b)) (by unfold isNodeX; dsimp only; rw [g1, g2, g3, g4, g5, g7, g10]; rfl))

theorem equalX (l r : List Exp) (k : Nat) (first cap : List D) (p : Exp → Exp → Bool) (hc : ∀ a ∈ l, ∀ b, Does Tryd.prog k (first.map .d ++ [.agg ((encX a).map .d), .agg ((encX b).map .d)] ++ cap.map .d) noHeap (.d (boo (p a b)))) : Does Tryd.prog 47 [.d (.sl 7 96 (l.map encX)), .d (.sl 7 96 (r.map encX)), .d (.fn (.func k) first cap)] noHeap (.d (boo (allSame p l r))) := by
  refine Does_of T_ok mixed (N := 32) Tryd.func47 rfl rfl rfl (by rfl) fun F n Z hE hF J => ?_
  refine CW_know (know_sl (d := 0) rfl) fun hlen => ?_
  rw [List.length_map] at hlen
  refine CW_seq ?_
  refine CW_region ?_
  refine OW_run' hE.ok 1 rfl ?_
  refine OW_end rfl ?_
  refine CW_seq ?_
  refine CW_seq ?_
  refine CW_region ?_
  refine OW_run' hE.ok 5 rfl ?_
  refine OW_end rfl ?_
  refine CW_cond _ rfl (fun h1 => ?_) (fun h1 => ?_)
  · skip
    have hne : l.length ≠ r.length := by have := h1; simp at this; omega
    refine CW_seq ?_
    refine CW_region ?_
    refine OW_run' hE.ok 1 rfl ?_
    refine OW_end rfl ?_
    refine CW_ret ?_
    refine ⟨.inr rfl, rfl, ⟨_, rfl, rfl, ?_⟩, rfl⟩
    exact AVle.of (congrArg (fun b => AV.d (boo b)) (by rw [allSame_len hne]))
  · skip
    have hll : l.length = r.length := by have := h1; simp at this; omega
    refine CW_skip ?_
    refine CW_seq ?_
    refine CW_seq ?_
    refine CW_region ?_
    refine OW_run' hE.ok 3 rfl ?_
    refine OW_end rfl ?_
    refine CW_block ?_
    refine CW_loop (σ := {i : Nat // i ≤ l.length ∧ ∀ j a b, j < i → l[j]? = some a → r[j]? = some b → p a b = true})
      (fun i => ⟨J, (sset (sset (sset (sset (sset (sset noSlots 0 (.d (.sl 7 96 (l.map encX)))) 1 (.d (.sl 7 96 (r.map encX)))) 2 (.d (.fn (.func k) first cap))) 15 (.d (.sl 7 96 (l.map encX)))) 16 (.d (.lit (.int .i64 l.length)))) 17 (.d (.lit (.int .i64 i.1)))), noHeap⟩) (fun i => l.length - i.1) ⟨0, Nat.zero_le _, by omega⟩ (LE_sh (slh_set (slh_set (slh_set (slh_set (slh_set (slh_set (slh_no _ _) rfl rfl) rfl rfl) rfl rfl) rfl rfl) (by show AV.d (.lit (.int .i64 ((l.map encX).length : Int))) = _; rw [List.length_map]) rfl) rfl rfl) (hlh_no _ _)) fun ⟨i, hi, hp⟩ => ?_
    refine CW_seq ?_
    refine CW_region ?_
    refine OW_run' hE.ok 1 rfl ?_
    refine OW_end rfl ?_
    refine CW_seq ?_
    refine CW_cond _ rfl (fun h2 => ?_) (fun h2 => ?_)
    · skip
      have hlt : i < l.length := by have := h2; simp at this; omega
      obtain ⟨a, ha⟩ : ∃ a, l[i]? = some a := ⟨_, List.getElem?_eq_getElem hlt⟩
      obtain ⟨b, hb⟩ : ∃ b, r[i]? = some b := ⟨_, List.getElem?_eq_getElem (by omega)⟩
      have hcall := hc a (List.mem_of_getElem? ha) b
      obtain ⟨o1, v1, c1, f1, k1, rfl⟩ := Exp.shape a
      obtain ⟨o2, v2, c2, f2, k2, rfl⟩ := Exp.shape b
      refine CW_skip ?_
      refine CW_seq ?_
      refine CW_block ?_
      refine CW_seq ?_
      refine CW_region ?_
      refine OW_run' hE.ok 1 rfl ?_
      refine OW_loc' hE (loc_indexAddr hE rfl rfl rfl rfl rfl (by omega) (x := encX (.mk o1 v1 c1 f1 k1)) (by simp [ha])) rfl rfl rfl ?_
      refine OW_run' hE.ok 1 rfl ?_
      refine OW_alloc' hE 1 rfl rfl rfl rfl rfl rfl rfl ?_
      refine OW_run' hE.ok 1 rfl ?_
      refine OW_store' hE rfl rfl rfl rfl rfl rfl rfl rfl rfl rfl rfl rfl ?_
      refine OW_end rfl ?_
      refine CW_seq ?_
      refine CW_region ?_
      refine OW_run' hE.ok 2 rfl ?_
      refine OW_loc' hE (loc_indexAddr hE rfl rfl rfl rfl rfl (by omega) (x := encX (.mk o2 v2 c2 f2 k2)) (by simp [hb])) rfl rfl rfl ?_
      refine OW_run' hE.ok 1 rfl ?_
      refine OW_alloc' hE 2 rfl rfl rfl rfl rfl rfl rfl ?_
      refine OW_store' hE rfl rfl rfl rfl rfl rfl rfl rfl rfl rfl rfl rfl ?_
      refine OW_end rfl ?_
      refine CW_seq ?_
      refine CW_region ?_
      refine OW_run' hE.ok 3 rfl ?_
      refine OW_call' hE (hcall) rfl rfl rfl rfl (kfs_fn rfl) rfl rfl ?_
      refine OW_run' hE.ok 1 rfl ?_
      refine OW_end rfl ?_
      refine CW_cond _ rfl (fun h3 => ?_) (fun h3 => ?_)
      · skip
        have hdiff : p (.mk o1 v1 c1 f1 k1) (.mk o2 v2 c2 f2 k2) = false := by simpa using h3
        refine CW_seq ?_
        refine CW_region ?_
        refine OW_run' hE.ok 1 rfl ?_
        refine OW_end rfl ?_
        refine CW_ret ?_
        refine ⟨.inr rfl, rfl, ⟨_, rfl, rfl, ?_⟩, rfl⟩
        exact AVle.of (congrArg (fun b => AV.d (boo b)) (by rw [allSame_ne ha hb hdiff]))
      · skip
        have hsame : p (.mk o1 v1 c1 f1 k1) (.mk o2 v2 c2 f2 k2) = true := by simpa using h3
        refine CW_skip ?_
        refine CW_region ?_
        refine OW_run' hE.ok 2 rfl ?_
        refine OW_end rfl ?_
        refine ⟨⟨i + 1, hlt, fun j x y hj hx hy => ?_⟩, LE_sh (slh_set (slh_set (slh_set (slh_set (slh_set (slh_set (slh_no _ _) rfl rfl) rfl rfl) rfl rfl) rfl rfl) rfl rfl) (by show AV.d (.lit (.int .i64 (IntKind.i64.wrap (↑i + 1)))) = _; rw [wrap_succ (by omega)]) rfl) (hlh_no _ _), by show l.length - (i + 1) < l.length - i; omega⟩
        by_cases hji : j = i
        · subst hji; rw [ha] at hx; rw [hb] at hy; cases hx; cases hy; exact hsame
        · exact hp j x y (by omega) hx hy
    · skip
      have hge : ¬ i < l.length := by have := h2; simp at this; omega
      refine CW_exit ?_
      show CW _ _ _ _
      refine CW_seq ?_
      refine CW_region ?_
      refine OW_run' hE.ok 1 rfl ?_
      refine OW_end rfl ?_
      refine CW_ret ?_
      refine ⟨.inr rfl, rfl, ⟨_, rfl, rfl, ?_⟩, rfl⟩
      exact AVle.of (congrArg (fun b => AV.d (boo b)) (by rw [allSame_all hll (fun j a b hj => hp j a b (by omega))]))

theorem sameStep (op : Int) (v : Vl) (al fi : ByteArray) (ks : List Exp) (o2 : Int) (v2 : Vl) (al2 fi2 : ByteArray) (ks2 : List Exp) (ih : ∀ a ∈ ks, ∀ b, Does Tryd.prog 41 [argX a, argX b] noHeap (.d (boo (sameX a b)))) : Does Tryd.prog 41 [argX (.mk op v al fi ks), argX (.mk o2 v2 al2 fi2 ks2)] noHeap (.d (boo (sameX (.mk op v al fi ks) (.mk o2 v2 al2 fi2 ks2)))) := by
  refine Does_of T_ok mixed (N := 38) Tryd.func41 rfl rfl rfl (by rfl) fun F n Z hE hF J => ?_
  have hcall := equalX ks ks2 41 [] [] sameX (fun a ha b => ih a ha b)
  rw [← encXs_eq, ← encXs_eq] at hcall
  refine CW_seq ?_
  refine CW_region ?_
  refine OW_run' hE.ok 3 rfl ?_
  refine OW_end rfl ?_
  refine CW_seq ?_
  refine CW_region ?_
  refine OW_run' hE.ok 6 rfl ?_
  refine OW_split' 10 rfl (fun h1 => ?_) (fun h1 => ?_)
  · skip
    refine OW_run' hE.ok 4 rfl ?_
    refine OW_loc' hE (loc_eql rfl rfl rfl (r := sameV v v2) (eqLaw_flat T_ok (t := 38) rfl (by decide +kernel) rfl (X := encV v) (Y := encV v2) rfl rfl rfl)) rfl rfl rfl ?_
    refine OW_run' hE.ok 2 rfl ?_
    refine OW_split' 17 rfl (fun h2 => ?_) (fun h2 => ?_)
    · skip
      refine OW_run' hE.ok 7 rfl ?_
      refine OW_split' 24 rfl (fun h3 => ?_) (fun h3 => ?_)
      · skip
        refine OW_run' hE.ok 7 rfl ?_
        refine OW_split' 31 rfl (fun h4 => ?_) (fun h4 => ?_)
        · skip
          refine OW_run' hE.ok 4 rfl ?_
          refine OW_call' hE (hcall) rfl rfl rfl rfl rfl rfl rfl ?_
          refine OW_run' hE.ok 2 rfl ?_
          refine OW_end rfl ?_
          refine CW_ret ?_
          refine ⟨.inr rfl, rfl, ⟨_, rfl, rfl, ?_⟩, rfl⟩
          exact AVle.of (congrArg (fun b => AV.d (boo b)) (by unfold sameX; simp_all [same, sameXs_eq]))
        · skip
          refine OW_run' hE.ok 7 rfl ?_
          refine OW_end rfl ?_
          refine CW_ret ?_
          refine ⟨.inr rfl, rfl, ⟨_, rfl, rfl, ?_⟩, rfl⟩
          exact AVle.of (congrArg (fun b => AV.d (boo b)) (by unfold sameX; simp_all [same, sameXs_eq]))
      · skip
        refine OW_run' hE.ok 14 rfl ?_
        refine OW_end rfl ?_
        refine CW_ret ?_
        refine ⟨.inr rfl, rfl, ⟨_, rfl, rfl, ?_⟩, rfl⟩
        exact AVle.of (congrArg (fun b => AV.d (boo b)) (by unfold sameX; simp_all [same, sameXs_eq]))
    · skip
      refine OW_run' hE.ok 21 rfl ?_
      refine OW_end rfl ?_
      refine CW_ret ?_
      refine ⟨.inr rfl, rfl, ⟨_, rfl, rfl, ?_⟩, rfl⟩
      exact AVle.of (congrArg (fun b => AV.d (boo b)) (by unfold sameX; simp_all [same, sameXs_eq]))
  · skip
    refine OW_run' hE.ok 28 rfl ?_
    refine OW_end rfl ?_
    refine CW_ret ?_
    refine ⟨.inr rfl, rfl, ⟨_, rfl, rfl, ?_⟩, rfl⟩
    exact AVle.of (congrArg (fun b => AV.d (boo b)) (by unfold sameX; simp_all [same, sameXs_eq]))

theorem sameAll : ∀ (n : Nat) (x : Exp), SizeOf.sizeOf x < n → ∀ y : Exp, Does Tryd.prog 41 [argX x, argX y] noHeap (.d (boo (sameX x y)))
  | 0, x, h => by omega
  | n + 1, .mk op v al fi ks, h => fun | .mk o2 v2 al2 fi2 ks2 => sameStep op v al fi ks o2 v2 al2 fi2 ks2 fun k hk => sameAll n k (by have := List.sizeOf_lt_of_mem hk; simp at h; omega)
theorem sameXOk (x y : Exp) : Does Tryd.prog 41 [argX x, argX y] noHeap (.d (boo (sameX x y))) := sameAll _ x (Nat.lt_succ_self _) y
end Go.Proofs.YtjiknbjkbakegaaDoor
