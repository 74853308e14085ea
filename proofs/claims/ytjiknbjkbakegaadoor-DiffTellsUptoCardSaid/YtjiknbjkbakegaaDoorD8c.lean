/- Parts of an abstract logic over the kit's walks, and walks in it: D8c. -/
import Derived.Test.YtjiknbjkbakegaaDoorD8b
namespace Go.Proofs.YtjiknbjkbakegaaDoor
open Go Go.AL
set_option linter.unusedVariables false
set_option linter.unusedSimpArgs false
set_option maxHeartbeats 4000000
theorem refSameStep (op : Int) (v : Vl) (al fi : ByteArray) (ks : List Exp) (o2 : Int) (v2 : Vl) (al2 fi2 : ByteArray) (ks2 : List Exp) (ih : ∀ a ∈ ks, ∀ b, Does Tryd.prog 18 [argX a, argX b] noHeap (.d (boo (sameX a b)))) : Does Tryd.prog 18 [argX (.mk op v al fi ks), argX (.mk o2 v2 al2 fi2 ks2)] noHeap (.d (boo (sameX (.mk op v al fi ks) (.mk o2 v2 al2 fi2 ks2)))) := by
  refine Does_of T_ok mixed (N := 60) Tryd.func18 rfl rfl rfl (by rfl) fun F n Z hE hF J => ?_
  refine CW_seq ?_
  refine CW_region ?_
  refine OW_run' hE.ok 3 rfl ?_
  refine OW_end rfl ?_
  refine CW_seq ?_
  refine CW_seq ?_
  refine CW_region ?_
  refine OW_run' hE.ok 6 rfl ?_
  refine OW_split' 11 rfl (fun h1 => ?_) (fun h1 => ?_)
  · skip
    have g1 : (op == o2) = false := by have := h1; revert this; show (!(op == o2)) = true → _; cases (op == o2) <;> simp
    refine OW_run' hE.ok 29 rfl ?_
    refine OW_end rfl ?_
    refine CW_true rfl ?_
    refine CW_seq ?_
    refine CW_region ?_
    refine OW_run' hE.ok 1 rfl ?_
    refine OW_end rfl ?_
    refine CW_ret ?_
    refine ⟨.inr rfl, rfl, ⟨_, rfl, rfl, ?_⟩, rfl⟩
    exact AVle.of (congrArg (fun b => AV.d (boo b)) (by unfold sameX; rw [g1]; rfl))
  · skip
    have g1 : (op == o2) = true := by have := h1; revert this; show (!(op == o2)) = false → _; cases (op == o2) <;> simp
    refine OW_run' hE.ok 4 rfl ?_
    refine OW_loc' hE (loc_neq rfl rfl rfl (r := sameV v v2) (eqLaw_flat T_ok (t := 38) rfl (by decide +kernel) rfl (X := encV v) (Y := encV v2) rfl rfl rfl)) rfl rfl rfl ?_
    refine OW_run' hE.ok 2 rfl ?_
    refine OW_split' 18 rfl (fun h2 => ?_) (fun h2 => ?_)
    · skip
      have g2 : sameV v v2 = false := by simpa using h2
      refine OW_run' hE.ok 22 rfl ?_
      refine OW_end rfl ?_
      refine CW_true rfl ?_
      refine CW_seq ?_
      refine CW_region ?_
      refine OW_run' hE.ok 1 rfl ?_
      refine OW_end rfl ?_
      refine CW_ret ?_
      refine ⟨.inr rfl, rfl, ⟨_, rfl, rfl, ?_⟩, rfl⟩
      exact AVle.of (congrArg (fun b => AV.d (boo b)) (by unfold sameX; rw [g1, g2]; rfl))
    · skip
      have g2 : sameV v v2 = true := by simpa using h2
      refine OW_run' hE.ok 7 rfl ?_
      refine OW_split' 25 rfl (fun h3 => ?_) (fun h3 => ?_)
      · skip
        have g3 : same al al2 = false := by simpa [same] using h3
        refine OW_run' hE.ok 15 rfl ?_
        refine OW_end rfl ?_
        refine CW_true rfl ?_
        refine CW_seq ?_
        refine CW_region ?_
        refine OW_run' hE.ok 1 rfl ?_
        refine OW_end rfl ?_
        refine CW_ret ?_
        refine ⟨.inr rfl, rfl, ⟨_, rfl, rfl, ?_⟩, rfl⟩
        exact AVle.of (congrArg (fun b => AV.d (boo b)) (by unfold sameX; rw [g1, g2, g3]; rfl))
      · skip
        have g3 : same al al2 = true := by simpa [same] using h3
        refine OW_run' hE.ok 7 rfl ?_
        refine OW_split' 32 rfl (fun h4 => ?_) (fun h4 => ?_)
        · skip
          have g4 : same fi fi2 = false := by simpa [same] using h4
          refine OW_run' hE.ok 8 rfl ?_
          refine OW_end rfl ?_
          refine CW_true rfl ?_
          refine CW_seq ?_
          refine CW_region ?_
          refine OW_run' hE.ok 1 rfl ?_
          refine OW_end rfl ?_
          refine CW_ret ?_
          refine ⟨.inr rfl, rfl, ⟨_, rfl, rfl, ?_⟩, rfl⟩
          exact AVle.of (congrArg (fun b => AV.d (boo b)) (by unfold sameX; rw [g1, g2, g3, g4]; rfl))
        · skip
          have g4 : same fi fi2 = true := by simpa [same] using h4
          refine OW_run' hE.ok 8 rfl ?_
          refine OW_end rfl ?_
          refine CW_cond _ rfl (fun h5 => ?_) (fun h5 => ?_)
          · skip
            have hne : ks.length ≠ ks2.length := by have := h5; simp [encXs_length] at this; omega
            refine CW_seq ?_
            refine CW_region ?_
            refine OW_run' hE.ok 1 rfl ?_
            refine OW_end rfl ?_
            refine CW_ret ?_
            refine ⟨.inr rfl, rfl, ⟨_, rfl, rfl, ?_⟩, rfl⟩
            exact AVle.of (congrArg (fun b => AV.d (boo b)) (by unfold sameX; rw [g1, g2, g3, g4, sameXs_eq, allSame_len hne]; rfl))
          · skip
            have hll : ks.length = ks2.length := by have := h5; simp [encXs_length] at this; omega
            refine CW_skip ?_
            refine CW_seq ?_
            refine CW_seq ?_
            refine CW_region ?_
            refine OW_run' hE.ok 1 rfl ?_
            refine OW_end rfl ?_
            refine CW_block ?_
            refine CW_loop (σ := {i : Nat // i ≤ ks.length ∧ ∀ j a b, j < i → ks[j]? = some a → ks2[j]? = some b → sameX a b = true}) (fun i => ⟨J, (sset (sset (sset noSlots 2 (.d (.iptr (encX (.mk op v al fi ks))))) 3 (.d (.iptr (encX (.mk o2 v2 al2 fi2 ks2))))) 5 (.d (int ((i.1 : Nat) : Int)))), noHeap⟩) (fun i => ks.length - i.1) ⟨0, Nat.zero_le _, fun j a b hj => by omega⟩ (LE_sh (slh_set (slh_set (slh_set (slh_no _ _) rfl rfl) rfl rfl) rfl rfl) (hlh_no _ _)) fun ⟨i, hi, hp⟩ => ?_
            refine CW_seq ?_
            refine CW_seq ?_
            refine CW_region ?_
            refine OW_run' hE.ok 5 rfl ?_
            refine OW_end rfl ?_
            refine CW_cond _ rfl (fun h6 => ?_) (fun h6 => ?_)
            · skip
              refine CW_know (know_sl (d := 43) rfl) fun hlen => ?_
              rw [encXs_length] at hlen
              have hlt : i < ks.length := by have := h6; simp [encXs_length] at this; omega
              obtain ⟨a, ha⟩ : ∃ a, ks[i]? = some a := ⟨_, List.getElem?_eq_getElem hlt⟩
              obtain ⟨b, hb⟩ : ∃ b, ks2[i]? = some b := ⟨_, List.getElem?_eq_getElem (by omega)⟩
              have hI := ih a (List.mem_of_getElem? ha) b
              obtain ⟨o3, v3, c3, f3, k3, rfl⟩ := Exp.shape a
              obtain ⟨o4, v4, c4, f4, k4, rfl⟩ := Exp.shape b
              refine CW_skip ?_
              refine CW_seq ?_
              refine CW_block ?_
              refine CW_seq ?_
              refine CW_drawn' hE 10 (by decide +kernel) ?_
              refine HW_run hE 3 rfl rfl ?_
              refine HW_loc hE (loc_indexAddr hE rfl rfl rfl rfl rfl (by omega) (x := encX (.mk o3 v3 c3 f3 k3)) (encXs_get ha)) rfl rfl rfl rfl ?_
              refine HW_run hE 4 rfl rfl ?_
              refine HW_loc hE (loc_indexAddr hE rfl rfl rfl rfl rfl (by omega) (x := encX (.mk o4 v4 c4 f4 k4)) (encXs_get hb)) rfl rfl rfl rfl ?_
              refine HW_run hE 1 rfl rfl ?_
              refine HW_end ?_
              refine OW_call' hE (hI) rfl rfl rfl rfl rfl rfl rfl ?_
              refine OW_run' hE.ok 1 rfl ?_
              refine OW_end rfl ?_
              refine CW_cond _ rfl (fun h7 => ?_) (fun h7 => ?_)
              · skip
                have hbad : sameX (.mk o3 v3 c3 f3 k3) (.mk o4 v4 c4 f4 k4) = false := by simpa using h7
                refine CW_seq ?_
                refine CW_region ?_
                refine OW_run' hE.ok 1 rfl ?_
                refine OW_end rfl ?_
                refine CW_ret ?_
                refine ⟨.inr rfl, rfl, ⟨_, rfl, rfl, ?_⟩, rfl⟩
                exact AVle.of (congrArg (fun b => AV.d (boo b)) (by unfold sameX; rw [g1, g2, g3, g4, sameXs_eq, allSame_ne ha hb hbad]; rfl))
              · skip
                have hgood : sameX (.mk o3 v3 c3 f3 k3) (.mk o4 v4 c4 f4 k4) = true := by simpa using h7
                refine CW_skip ?_
                refine CW_region ?_
                refine OW_run' hE.ok 3 rfl ?_
                refine OW_end rfl ?_
                refine ⟨⟨i + 1, by omega, fun j x y hj hx hy => ?_⟩, LE_sh (slh_set (v := .d (int ((i + 1 : Nat) : Int))) (slh_set (v := .d (.iptr (encX (.mk o2 v2 al2 fi2 ks2)))) (slh_set (v := .d (.iptr (encX (.mk op v al fi ks)))) (slh_no _ _) (by rfl) rfl) (by rfl) rfl) (by show AV.d (.lit (.int .i64 (IntKind.i64.wrap ((i : Int) + 1)))) = _; rw [wrap_succ (by omega)]; rfl) rfl) (hlh_no _ _), by show ks.length - (i + 1) < ks.length - i; omega⟩
                by_cases hji : j = i
                · subst hji; rw [ha] at hx; rw [hb] at hy; cases hx; cases hy; exact hgood
                · exact hp j x y (by omega) hx hy
            · skip
              have hge : ks.length ≤ i := by have := h6; simp [encXs_length] at this; omega
              refine CW_exit ?_
              show CW _ _ _ _
              refine CW_seq ?_
              refine CW_region ?_
              refine OW_run' hE.ok 1 rfl ?_
              refine OW_end rfl ?_
              refine CW_ret ?_
              refine ⟨.inr rfl, rfl, ⟨_, rfl, rfl, ?_⟩, rfl⟩
              exact AVle.of (congrArg (fun b => AV.d (boo b)) (by unfold sameX; rw [g1, g2, g3, g4, sameXs_eq, allSame_all hll (fun j a b hj => hp j a b (by omega))]; rfl))

theorem refSameAll : ∀ (n : Nat) (x : Exp), SizeOf.sizeOf x < n → ∀ y : Exp, Does Tryd.prog 18 [argX x, argX y] noHeap (.d (boo (sameX x y)))
  | 0, x, h => by omega
  | n + 1, .mk op v al fi ks, h => fun | .mk o2 v2 al2 fi2 ks2 => refSameStep op v al fi ks o2 v2 al2 fi2 ks2 fun k hk => refSameAll n k (by have := List.sizeOf_lt_of_mem hk; simp at h; omega)
theorem refSameXOk (x y : Exp) : Does Tryd.prog 18 [argX x, argX y] noHeap (.d (boo (sameX x y))) := refSameAll _ x (Nat.lt_succ_self _) y
end Go.Proofs.YtjiknbjkbakegaaDoor
