/- Part of an abstract logic over the kit's walks, and walks in it: X2q. -/
import Derived.Test.YthffbfjnahipcaaX2p
namespace Go.Proofs.Ythffbfjnahipcaa
open Go Go.AL
set_option linter.unusedVariables false
set_option linter.unusedSimpArgs false
set_option maxHeartbeats 4000000
theorem isPatOk (p : Pat) : Does Try.prog 17 [argP p] noHeap (.d (boo (isPat p))) := by
  refine Does_of T_ok mixed (N := 87) Try.func17 rfl rfl rfl (by rfl) fun F n Z hE hF J => ?_
  obtain ⟨els, wi, byf, an⟩ := p
  have hname := nameOk byf
  refine CW_seq ?_
  refine CW_region ?_
  refine OW_run' hE.ok 2 rfl ?_
  refine OW_end rfl ?_
  refine CW_seq ?_
  refine CW_region ?_
  refine OW_run' hE.ok 4 rfl ?_
  refine OW_as' 3 (.d (int ((els.length : Nat) : Int))) (by show AV.d (.lit (.int .i64 ((els.map encL).length : Int))) = _; rw [List.length_map]; rfl) ?_
  refine OW_end rfl ?_
  refine CW_cutE (fun _ : Unit => ⟨J, (sset noSlots 1 (.d (.iptr (encP ⟨els, wi, byf, an⟩)))), noHeap⟩) (fun _ => headP ⟨els, wi, byf, an⟩ = true ∧ els.length ≤ 5) ?_ ?_
  · skip
    refine CW_seq ?_
    refine CW_region ?_
    refine OW_run' hE.ok 3 rfl ?_
    refine OW_split' 12 rfl (fun h1 => ?_) (fun h1 => ?_)
    · skip
      have g1 : decide ((els.length : Int) < 1) = true := h1
      have hb : isPat ⟨els, wi, byf, an⟩ = false := by unfold isPat headP; dsimp only; rw [g1]; rfl
      refine OW_run' hE.ok 40 rfl ?_
      refine OW_end rfl ?_
      refine CW_true rfl ?_
      refine CW_seq ?_
      refine CW_region ?_
      refine OW_run' hE.ok 1 rfl ?_
      refine OW_end rfl ?_
      refine CW_ret ?_
      refine ⟨.inr rfl, rfl, ⟨[.d (boo false)], rfl, rfl, ?_⟩, rfl⟩
      exact AVle.of (congrArg (fun b => AV.d (boo b)) (by rw [hb]))
    · skip
      have g1 : decide ((els.length : Int) < 1) = false := h1
      refine OW_run' hE.ok 4 rfl ?_
      refine OW_split' 16 rfl (fun h2 => ?_) (fun h2 => ?_)
      · skip
        have g2 : decide ((els.length : Int) > 5) = true := h2
        have hb : isPat ⟨els, wi, byf, an⟩ = false := by unfold isPat headP; dsimp only; rw [g1, g2]; rfl
        refine OW_run' hE.ok 36 rfl ?_
        refine OW_end rfl ?_
        refine CW_true rfl ?_
        refine CW_seq ?_
        refine CW_region ?_
        refine OW_run' hE.ok 1 rfl ?_
        refine OW_end rfl ?_
        refine CW_ret ?_
        refine ⟨.inr rfl, rfl, ⟨[.d (boo false)], rfl, rfl, ?_⟩, rfl⟩
        exact AVle.of (congrArg (fun b => AV.d (boo b)) (by rw [hb]))
      · skip
        have g2 : decide ((els.length : Int) > 5) = false := h2
        have hl1 : 1 ≤ els.length := by simp at g1; omega
        have hl5 : els.length ≤ 5 := by simp at g2; omega
        obtain ⟨e0, he0⟩ : ∃ e0, els[0]? = some e0 := ⟨_, List.getElem?_eq_getElem (by omega)⟩
        obtain ⟨y1, y2, y3, y4, y5, y6, y7, y8, y9, rfl⟩ := El.shape e0
        refine OW_run' hE.ok 2 rfl ?_
        refine OW_loc' hE (loc_indexAddr hE rfl rfl rfl rfl rfl (by omega) (x := encL ⟨y1, y2, y3, y4, .mk y5 y6 y7 y8 y9⟩) (by simp [he0])) rfl rfl rfl ?_
        refine OW_run' hE.ok 4 rfl ?_
        refine OW_split' 23 rfl (fun h3 => ?_) (fun h3 => ?_)
        · skip
          have g3 : negAt ⟨els, wi, byf, an⟩ 0 = true := (negAt_of (p := ⟨els, wi, byf, an⟩) he0).trans h3
          have hb : isPat ⟨els, wi, byf, an⟩ = false := by unfold isPat headP; dsimp only; rw [g1, g2, g3]; rfl
          refine OW_run' hE.ok 29 rfl ?_
          refine OW_end rfl ?_
          refine CW_true rfl ?_
          refine CW_seq ?_
          refine CW_region ?_
          refine OW_run' hE.ok 1 rfl ?_
          refine OW_end rfl ?_
          refine CW_ret ?_
          refine ⟨.inr rfl, rfl, ⟨[.d (boo false)], rfl, rfl, ?_⟩, rfl⟩
          exact AVle.of (congrArg (fun b => AV.d (boo b)) (by rw [hb]))
        · skip
          have g3 : negAt ⟨els, wi, byf, an⟩ 0 = false := (negAt_of (p := ⟨els, wi, byf, an⟩) he0).trans h3
          obtain ⟨en, hen⟩ : ∃ en, els[els.length - 1]? = some en := ⟨_, List.getElem?_eq_getElem (by omega)⟩
          obtain ⟨z1, z2, z3, z4, z5, z6, z7, z8, z9, rfl⟩ := El.shape en
          refine OW_run' hE.ok 4 rfl ?_
          refine OW_as' 27 (.d (int ((els.length - 1 : Nat) : Int))) (by show AV.d (.lit (.int .i64 (IntKind.i64.wrap ((els.length : Int) - 1)))) = _; rw [show ((els.length : Int) - 1) = ((els.length - 1 : Nat) : Int) by omega, wrapS (by omega)]; rfl) ?_
          refine OW_loc' hE (loc_indexAddr hE rfl rfl rfl rfl rfl (by omega) (x := encL ⟨z1, z2, z3, z4, .mk z5 z6 z7 z8 z9⟩) (by simp [hen])) rfl rfl rfl ?_
          refine OW_run' hE.ok 4 rfl ?_
          refine OW_split' 32 rfl (fun h4 => ?_) (fun h4 => ?_)
          · skip
            have g4 : negAt ⟨els, wi, byf, an⟩ (els.length - 1) = true := (negAt_of (p := ⟨els, wi, byf, an⟩) hen).trans h4
            have hb : isPat ⟨els, wi, byf, an⟩ = false := by unfold isPat headP; dsimp only; rw [g1, g2, g3, g4]; rfl
            refine OW_run' hE.ok 20 rfl ?_
            refine OW_end rfl ?_
            refine CW_true rfl ?_
            refine CW_seq ?_
            refine CW_region ?_
            refine OW_run' hE.ok 1 rfl ?_
            refine OW_end rfl ?_
            refine CW_ret ?_
            refine ⟨.inr rfl, rfl, ⟨[.d (boo false)], rfl, rfl, ?_⟩, rfl⟩
            exact AVle.of (congrArg (fun b => AV.d (boo b)) (by rw [hb]))
          · skip
            have g4 : negAt ⟨els, wi, byf, an⟩ (els.length - 1) = false := (negAt_of (p := ⟨els, wi, byf, an⟩) hen).trans h4
            refine OW_run' hE.ok 5 rfl ?_
            refine OW_split' 37 rfl (fun h5 => ?_) (fun h5 => ?_)
            · skip
              have g5 : decide (wi < 0) = true := h5
              have hb : isPat ⟨els, wi, byf, an⟩ = false := by unfold isPat headP; dsimp only; rw [g1, g2, g3, g4, g5]; rfl
              refine OW_run' hE.ok 15 rfl ?_
              refine OW_end rfl ?_
              refine CW_true rfl ?_
              refine CW_seq ?_
              refine CW_region ?_
              refine OW_run' hE.ok 1 rfl ?_
              refine OW_end rfl ?_
              refine CW_ret ?_
              refine ⟨.inr rfl, rfl, ⟨[.d (boo false)], rfl, rfl, ?_⟩, rfl⟩
              exact AVle.of (congrArg (fun b => AV.d (boo b)) (by rw [hb]))
            · skip
              have g5 : decide (wi < 0) = false := h5
              refine OW_run' hE.ok 5 rfl ?_
              refine OW_split' 42 rfl (fun h6 => ?_) (fun h6 => ?_)
              · skip
                have g6 : decide (wi > 1000) = true := h6
                have hb : isPat ⟨els, wi, byf, an⟩ = false := by unfold isPat headP; dsimp only; rw [g1, g2, g3, g4, g5, g6]; rfl
                refine OW_run' hE.ok 10 rfl ?_
                refine OW_end rfl ?_
                refine CW_true rfl ?_
                refine CW_seq ?_
                refine CW_region ?_
                refine OW_run' hE.ok 1 rfl ?_
                refine OW_end rfl ?_
                refine CW_ret ?_
                refine ⟨.inr rfl, rfl, ⟨[.d (boo false)], rfl, rfl, ?_⟩, rfl⟩
                exact AVle.of (congrArg (fun b => AV.d (boo b)) (by rw [hb]))
              · skip
                have g6 : decide (wi > 1000) = false := h6
                refine OW_run' hE.ok 4 rfl ?_
                refine OW_split' 46 rfl (fun h7 => ?_) (fun h7 => ?_)
                · skip
                  have g7 : (!(same byf nul)) = true := h7
                  refine OW_run' hE.ok 2 rfl ?_
                  refine OW_call' hE (hname) rfl rfl rfl rfl rfl rfl rfl ?_
                  refine OW_run' hE.ok 3 rfl ?_
                  refine OW_end rfl ?_
                  refine CW_cond _ rfl (fun h8 => ?_) (fun h8 => ?_)
                  · skip
                    have g8 : isName byf = false := by simpa using h8
                    have hb : isPat ⟨els, wi, byf, an⟩ = false := by unfold isPat headP; dsimp only; rw [g1, g2, g3, g4, g5, g6, g7, g8]; rfl
                    refine CW_seq ?_
                    refine CW_region ?_
                    refine OW_run' hE.ok 1 rfl ?_
                    refine OW_end rfl ?_
                    refine CW_ret ?_
                    refine ⟨.inr rfl, rfl, ⟨[.d (boo false)], rfl, rfl, ?_⟩, rfl⟩
                    exact AVle.of (congrArg (fun b => AV.d (boo b)) (by rw [hb]))
                  · skip
                    have g8 : isName byf = true := by simpa using h8
                    have hh : headP ⟨els, wi, byf, an⟩ = true := by unfold headP; dsimp only; rw [g1, g2, g3, g4, g5, g6, g7, g8]; rfl
                    refine CW_skip ?_
                    exact ⟨(), ⟨hh, hl5⟩, LE_sh (slh_set (slh_no _ _) rfl rfl) (hlh_no _ _)⟩
                · skip
                  have g7 : (!(same byf nul)) = false := h7
                  have hh : headP ⟨els, wi, byf, an⟩ = true := by unfold headP; dsimp only; rw [g1, g2, g3, g4, g5, g6, g7]; rfl
                  refine OW_run' hE.ok 6 rfl ?_
                  refine OW_end rfl ?_
                  refine CW_false rfl ?_
                  refine CW_skip ?_
                  exact ⟨(), ⟨hh, hl5⟩, LE_sh (slh_set (slh_no _ _) rfl rfl) (hlh_no _ _)⟩
  · skip
    rintro _ ⟨hh, hl5⟩
    refine CW_seq ?_
    refine CW_seq ?_
    refine CW_region ?_
    refine OW_run' hE.ok 4 rfl ?_
    refine OW_end rfl ?_
    refine CW_block ?_
    refine CW_loop (σ := {i : Nat // i ≤ els.length ∧ ∀ j x, j < i → els[j]? = some x → elOk ⟨els, wi, byf, an⟩ j x = true}) (fun i => ⟨J, (sset (sset (sset (sset noSlots 1 (.d (.iptr (encP ⟨els, wi, byf, an⟩)))) 54 (.d (.sl 11 144 (els.map encL)))) 55 (.d (int ((els.length : Nat) : Int)))) 56 (.d (int ((i.1 : Nat) : Int)))), noHeap⟩) (fun i => els.length - i.1) ⟨0, Nat.zero_le _, fun j b hj => by omega⟩ (LE_sh (slh_set (slh_set (slh_set (slh_set (slh_no _ _) rfl rfl) rfl rfl) (by show AV.d (.lit (.int .i64 ((els.map encL).length : Int))) = _; rw [List.length_map]; rfl) rfl) rfl rfl) (hlh_no _ _)) fun ⟨i, hi, hp⟩ => ?_
    refine CW_seq ?_
    refine CW_region ?_
    refine OW_run' hE.ok 1 rfl ?_
    refine OW_end rfl ?_
    refine CW_seq ?_
    refine CW_cond _ rfl (fun h9 => ?_) (fun h9 => ?_)
    · skip
      have hlt : i < els.length := by have := h9; simp at this; omega
      obtain ⟨x0, hx0⟩ : ∃ x0, els[i]? = some x0 := ⟨_, List.getElem?_eq_getElem hlt⟩
      have hel := isElemOk x0
      have hcon := containsL (els.take i) 50 [] [.iptr (encL x0)] (fun x => same x.al x0.al) (fun a _ => pat1 a x0)
      obtain ⟨y1, y2, y3, y4, y5, y6, y7, y8, y9, rfl⟩ := El.shape x0
      refine CW_skip ?_
      refine CW_seq ?_
      refine CW_block ?_
      refine CW_seq ?_
      refine CW_region ?_
      refine OW_run' hE.ok 1 rfl ?_
      refine OW_loc' hE (loc_indexAddr hE rfl rfl rfl rfl rfl (by omega) (x := encL ⟨y1, y2, y3, y4, .mk y5 y6 y7 y8 y9⟩) (by simp [hx0])) rfl rfl rfl ?_
      refine OW_run' hE.ok 1 rfl ?_
      refine OW_alloc' hE 1 rfl rfl rfl rfl rfl rfl rfl ?_
      refine OW_run' hE.ok 1 rfl ?_
      refine OW_store' hE rfl rfl rfl rfl rfl rfl rfl rfl rfl rfl rfl rfl ?_
      refine OW_end rfl ?_
      refine CW_seq ?_
      refine CW.le (LE_freezeBox 1 (ds := encL ⟨y1, y2, y3, y4, .mk y5 y6 y7 y8 y9⟩) rfl rfl) ?_
      refine CW.le (show LE _ _ ⟨J, (sset (sset (sset (sset (sset (sset noSlots 1 (.d (.iptr (encP ⟨els, wi, byf, an⟩)))) 54 (.d (.sl 11 144 (els.map encL)))) 55 (.d (int ((els.length : Nat) : Int)))) 56 (.d (int ((i : Nat) : Int)))) 4 (.d (int ((i : Nat) : Int)))) 5 (.d (.iptr (encL ⟨y1, y2, y3, y4, .mk y5 y6 y7 y8 y9⟩)))), noHeap⟩ from LE_sh (slh_set (slh_set (slh_set (slh_set (slh_set (slh_set (slh_no _ _) rfl rfl) rfl rfl) rfl rfl) rfl rfl) rfl rfl) rfl rfl) (hlh_no _ _)) ?_
      refine CW_region ?_
      refine OW_run' hE.ok 3 rfl ?_
      refine OW_loc' hE (loc_slice hE (lo := none) (hi := some (.tmp 63)) rfl rfl rfl rfl (l := 0) (u := i) rfl ⟨.i64, rfl⟩ (by omega) (by simp; omega)) rfl rfl rfl ?_
      refine OW_as' 64 (.d (.sl 11 144 ((els.take i).map encL))) (by rw [List.map_take]; rfl) ?_
      refine OW_run' hE.ok 1 rfl ?_
      refine OW_call' hE (hcon) rfl rfl rfl rfl rfl rfl rfl ?_
      refine OW_run' hE.ok 1 rfl ?_
      refine OW_end rfl ?_
      refine CW_seq ?_
      refine CW_region ?_
      refine OW_run' hE.ok 1 rfl ?_
      refine OW_call' hE (hel) rfl rfl rfl rfl rfl rfl rfl ?_
      refine OW_run' hE.ok 2 rfl ?_
      refine OW_split' 70 rfl (fun h10 => ?_) (fun h10 => ?_)
      · skip
        have k1 : isElemX ⟨y1, y2, y3, y4, .mk y5 y6 y7 y8 y9⟩ = false := by simpa using h10
        have hb : elOk ⟨els, wi, byf, an⟩ i ⟨y1, y2, y3, y4, .mk y5 y6 y7 y8 y9⟩ = false := by unfold elOk; dsimp only; rw [k1]; rfl
        refine OW_run' hE.ok 15 rfl ?_
        refine OW_end rfl ?_
        refine CW_true rfl ?_
        refine CW_seq ?_
        refine CW_region ?_
        refine OW_run' hE.ok 1 rfl ?_
        refine OW_end rfl ?_
        refine CW_ret ?_
        refine ⟨.inr rfl, rfl, ⟨[.d (boo false)], rfl, rfl, ?_⟩, rfl⟩
        exact AVle.of (congrArg (fun b => AV.d (boo b)) (by rw [isPat_bad hh hx0 hb]))
      · skip
        have k1 : isElemX ⟨y1, y2, y3, y4, .mk y5 y6 y7 y8 y9⟩ = true := by simpa using h10
        refine OW_run' hE.ok 3 rfl ?_
        refine OW_split' 73 rfl (fun h11 => ?_) (fun h11 => ?_)
        · skip
          have k2 : ((els.take i).any fun x => same x.al y1) = true := h11
          have hb : elOk ⟨els, wi, byf, an⟩ i ⟨y1, y2, y3, y4, .mk y5 y6 y7 y8 y9⟩ = false := by unfold elOk; dsimp only; rw [k1, k2]; rfl
          refine OW_run' hE.ok 12 rfl ?_
          refine OW_end rfl ?_
          refine CW_true rfl ?_
          refine CW_seq ?_
          refine CW_region ?_
          refine OW_run' hE.ok 1 rfl ?_
          refine OW_end rfl ?_
          refine CW_ret ?_
          refine ⟨.inr rfl, rfl, ⟨[.d (boo false)], rfl, rfl, ?_⟩, rfl⟩
          exact AVle.of (congrArg (fun b => AV.d (boo b)) (by rw [isPat_bad hh hx0 hb]))
        · skip
          have k2 : ((els.take i).any fun x => same x.al y1) = false := h11
          refine OW_run' hE.ok 3 rfl ?_
          refine OW_split' 76 rfl (fun h12 => ?_) (fun h12 => ?_)
          · skip
            have k3 : y4 = true := h12
            have hi0 : 0 < i := by (cases i with | zero => (have q1 := headP_first hh; rw [negAt_of (p := ⟨els, wi, byf, an⟩) hx0] at q1; rw [show y4 = false from q1] at k3; cases k3) | succ q => exact Nat.succ_pos q)
            obtain ⟨en, hen⟩ : ∃ en, els[i - 1]? = some en := ⟨_, List.getElem?_eq_getElem (by omega)⟩
            obtain ⟨z1, z2, z3, z4, z5, z6, z7, z8, z9, rfl⟩ := El.shape en
            refine OW_run' hE.ok 4 rfl ?_
            refine OW_as' 80 (.d (int ((i - 1 : Nat) : Int))) (by show AV.d (.lit (.int .i64 (IntKind.i64.wrap ((i : Int) - 1)))) = _; rw [show ((i : Int) - 1) = ((i - 1 : Nat) : Int) by omega, wrapS (by omega)]; rfl) ?_
            refine OW_loc' hE (loc_indexAddr hE rfl rfl rfl rfl rfl (by omega) (x := encL ⟨z1, z2, z3, z4, .mk z5 z6 z7 z8 z9⟩) (by simp [hen])) rfl rfl rfl ?_
            refine OW_run' hE.ok 4 rfl ?_
            refine OW_end rfl ?_
            refine CW_cond _ rfl (fun h13 => ?_) (fun h13 => ?_)
            · skip
              have k4 : negAt ⟨els, wi, byf, an⟩ (i - 1) = true := (negAt_of (p := ⟨els, wi, byf, an⟩) hen).trans h13
              have hb : elOk ⟨els, wi, byf, an⟩ i ⟨y1, y2, y3, y4, .mk y5 y6 y7 y8 y9⟩ = false := by unfold elOk; dsimp only; rw [k1, k2, k3, k4]; rfl
              refine CW_seq ?_
              refine CW_region ?_
              refine OW_run' hE.ok 1 rfl ?_
              refine OW_end rfl ?_
              refine CW_ret ?_
              refine ⟨.inr rfl, rfl, ⟨[.d (boo false)], rfl, rfl, ?_⟩, rfl⟩
              exact AVle.of (congrArg (fun b => AV.d (boo b)) (by rw [isPat_bad hh hx0 hb]))
            · skip
              have k4 : negAt ⟨els, wi, byf, an⟩ (i - 1) = false := (negAt_of (p := ⟨els, wi, byf, an⟩) hen).trans h13
              have hok : elOk ⟨els, wi, byf, an⟩ i ⟨y1, y2, y3, y4, .mk y5 y6 y7 y8 y9⟩ = true := by unfold elOk; dsimp only; rw [k1, k2, k3, k4]; rfl
              refine CW_skip ?_
              refine CW_region ?_
              refine OW_run' hE.ok 2 rfl ?_
              refine OW_end rfl ?_
              refine ⟨⟨i + 1, by omega, fun j x hj hx => ?_⟩, LE_sh (slh_set (slh_set (slh_set (slh_set (slh_no _ _) rfl rfl) rfl rfl) rfl rfl) (by show AV.d (.lit (.int .i64 (IntKind.i64.wrap (↑i + 1)))) = _; rw [wrap_succ (by omega)]; rfl) rfl) (hlh_no _ _), by show els.length - (i + 1) < els.length - i; omega⟩
              by_cases hji : j = i
              · subst hji; rw [hx0] at hx; cases hx; exact hok
              · exact hp j x (by omega) hx
          · skip
            have k3 : y4 = false := h12
            have hok : elOk ⟨els, wi, byf, an⟩ i ⟨y1, y2, y3, y4, .mk y5 y6 y7 y8 y9⟩ = true := by unfold elOk; dsimp only; rw [k1, k2, k3]; rfl
            refine OW_run' hE.ok 9 rfl ?_
            refine OW_end rfl ?_
            refine CW_false rfl ?_
            refine CW_skip ?_
            refine CW_region ?_
            refine OW_run' hE.ok 2 rfl ?_
            refine OW_end rfl ?_
            refine ⟨⟨i + 1, by omega, fun j x hj hx => ?_⟩, LE_sh (slh_set (slh_set (slh_set (slh_set (slh_no _ _) rfl rfl) rfl rfl) rfl rfl) (by show AV.d (.lit (.int .i64 (IntKind.i64.wrap (↑i + 1)))) = _; rw [wrap_succ (by omega)]; rfl) rfl) (hlh_no _ _), by show els.length - (i + 1) < els.length - i; omega⟩
            by_cases hji : j = i
            · subst hji; rw [hx0] at hx; cases hx; exact hok
            · exact hp j x (by omega) hx
    · skip
      have hge : els.length ≤ i := by have := h9; simp at this; omega
      refine CW_exit ?_
      show CW _ _ _ _
      refine CW_seq ?_
      refine CW_region ?_
      refine OW_run' hE.ok 1 rfl ?_
      refine OW_end rfl ?_
      refine CW_ret ?_
      refine ⟨.inr rfl, rfl, ⟨[.d (boo true)], rfl, rfl, ?_⟩, rfl⟩
      exact AVle.of (congrArg (fun b => AV.d (boo b)) (by unfold isPat; rw [hh, elsOk_all (fun j x hj hx => hp j x (by have h2 : j < els.length := hj; omega) hx)]; rfl))
end Go.Proofs.Ythffbfjnahipcaa
