/- Parts of an abstract logic over the kit's walks, and walks in it: P4nt. -/
import Derived.Test.YtojnicnbmgiplaaPxa
import Derived.Test.YtojnicnbmgiplaaNeed
import Derived.Test.YtojnicnbmgiplaaDe
namespace Go.Proofs.Ytojnicnbmgiplaa
open Go Go.AL
set_option linter.unusedVariables false
set_option linter.unusedSimpArgs false
set_option maxHeartbeats 4000000
theorem typesOk (p : Pat) (x : Exp) : Does Try.prog 82 [argP p, argX x] noHeap (.d (.sl 1 16 ((typesX p x).map encB))) := by
  refine Does_of T_ok mixed (N := 27) Try.func82 rfl rfl rfl (by rfl) fun F n Z hE hF J => ?_
  obtain ⟨o, v, a, f, k, rfl⟩ := Exp.shape x
  refine CW_seq ?_
  refine CW_region ?_
  refine OW_run' hE.ok 3 rfl ?_
  refine OW_end rfl ?_
  refine CW_seq ?_
  refine CW_seq ?_
  refine CW_region ?_
  refine OW_run' hE.ok 4 rfl ?_
  refine OW_end rfl ?_
  refine CW_block ?_
  refine CW_know (know_sl (d := 8) rfl) fun hlen => ?_
  rw [List.length_map] at hlen
  refine CW_loop (σ := {i : Nat // i ≤ p.els.length ∧ ∀ (j : Nat) (d : El), j < i → p.els[j]? = some d → ((o == 2) && same d.al a) = false}) (fun i => ⟨J, (sset (sset (sset (sset (sset noSlots 2 (.d (.iptr (encP p)))) 3 (.d (.iptr (encX (.mk o v a f k))))) 8 (.d (.sl 11 144 (p.els.map encL)))) 9 (.d (int ((p.els.length : Nat) : Int)))) 10 (.d (int ((i.1 : Nat) : Int)))), noHeap⟩) (fun i => p.els.length - i.1) ⟨0, Nat.zero_le _, fun j d hj => by omega⟩ (LE_sh (slh_set (slh_set (slh_set (slh_set (slh_set (slh_no _ _) rfl rfl) rfl rfl) rfl rfl) (by show AV.d (.lit (.int .i64 ((p.els.map encL).length : Int))) = _; rw [List.length_map]; rfl) rfl) rfl rfl) (hlh_no _ _)) fun ⟨i, hi, hp⟩ => ?_
  refine CW_seq ?_
  refine CW_region ?_
  refine OW_run' hE.ok 1 rfl ?_
  refine OW_end rfl ?_
  refine CW_seq ?_
  refine CW_cond _ rfl (fun h1 => ?_) (fun h1 => ?_)
  · skip
    have hlt : i < p.els.length := by have := h1; simp at this; omega
    obtain ⟨⟨al1, ty1, pl1, ng1, cd1⟩, he⟩ : ∃ e, p.els[i]? = some e := ⟨_, List.getElem?_eq_getElem hlt⟩
    obtain ⟨o2, v2, a2, f2, k2, rfl⟩ := Exp.shape cd1
    refine CW_skip ?_
    refine CW_seq ?_
    refine CW_block ?_
    refine CW_seq ?_
    refine CW_region ?_
    refine OW_loc' hE (loc_indexAddr hE rfl rfl rfl rfl rfl (by omega) (x := encL ⟨al1, ty1, pl1, ng1, .mk o2 v2 a2 f2 k2⟩) (by simp [he])) rfl rfl rfl ?_
    refine OW_run' hE.ok 1 rfl ?_
    refine OW_alloc' hE 1 rfl rfl rfl rfl rfl rfl rfl ?_
    refine OW_store' hE rfl rfl rfl rfl rfl rfl rfl rfl rfl rfl rfl rfl ?_
    refine OW.le (LE_freezeBox 1 (ds := encL ⟨al1, ty1, pl1, ng1, .mk o2 v2 a2 f2 k2⟩) rfl rfl) ?_
    refine OW_end rfl ?_
    refine CW_seq ?_
    refine CW_region ?_
    refine OW_run' hE.ok 4 rfl ?_
    refine OW_split' 17 rfl (fun h2 => ?_) (fun h2 => ?_)
    · skip
      have g1 : (o == 2) = true := h2
      refine OW_run' hE.ok 6 rfl ?_
      refine OW_end rfl ?_
      refine CW_cond _ rfl (fun h3 => ?_) (fun h3 => ?_)
      · skip
        have g2 : same al1 a = true := h3
        refine CW_seq ?_
        refine CW_region ?_
        refine OW_run' hE.ok 3 rfl ?_
        refine OW_end rfl ?_
        refine CW_ret ?_
        refine ⟨.inr rfl, rfl, ⟨_, rfl, rfl, ?_⟩, rfl⟩
        rw [types_hit (x := (.mk o v a f k)) he g1 g2 hp]
        exact AVle.refl _
      · skip
        have g2 : same al1 a = false := h3
        refine CW_skip ?_
        refine CW_region ?_
        refine OW_run' hE.ok 2 rfl ?_
        refine OW_end rfl ?_
        refine ⟨⟨i + 1, by omega, fun j d hj hd => ?_⟩, LE_sh (slh_set (v := .d (int ((i + 1 : Nat) : Int))) (slh_set (v := .d (int ((p.els.length : Nat) : Int))) (slh_set (v := .d (.sl 11 144 (p.els.map encL))) (slh_set (v := .d (.iptr (encX (.mk o v a f k)))) (slh_set (v := .d (.iptr (encP p))) (slh_no _ _) (by rfl) rfl) (by rfl) rfl) (by rfl) rfl) (by rfl) rfl) (by show AV.d (.lit (.int .i64 (IntKind.i64.wrap ((i : Int) + 1)))) = _; rw [wrap_succ (by omega)]; rfl) rfl) (hlh_no _ _), by show p.els.length - (i + 1) < p.els.length - i; omega⟩
        by_cases hji : j = i
        · subst hji; rw [he] at hd; cases hd; exact by rw [g1, g2]; rfl
        · exact hp j d (by omega) hd
    · skip
      have g1 : (o == 2) = false := h2
      refine OW_run' hE.ok 6 rfl ?_
      refine OW_end rfl ?_
      refine CW_false rfl ?_
      refine CW_skip ?_
      refine CW_region ?_
      refine OW_run' hE.ok 2 rfl ?_
      refine OW_end rfl ?_
      refine ⟨⟨i + 1, by omega, fun j d hj hd => ?_⟩, LE_sh (slh_set (v := .d (int ((i + 1 : Nat) : Int))) (slh_set (v := .d (int ((p.els.length : Nat) : Int))) (slh_set (v := .d (.sl 11 144 (p.els.map encL))) (slh_set (v := .d (.iptr (encX (.mk o v a f k)))) (slh_set (v := .d (.iptr (encP p))) (slh_no _ _) (by rfl) rfl) (by rfl) rfl) (by rfl) rfl) (by rfl) rfl) (by show AV.d (.lit (.int .i64 (IntKind.i64.wrap ((i : Int) + 1)))) = _; rw [wrap_succ (by omega)]; rfl) rfl) (hlh_no _ _), by show p.els.length - (i + 1) < p.els.length - i; omega⟩
      by_cases hji : j = i
      · subst hji; rw [he] at hd; cases hd; exact by rw [g1]; rfl
      · exact hp j d (by omega) hd
  · skip
    have hge : p.els.length ≤ i := by have := h1; simp at this; omega
    refine CW_exit ?_
    show CW _ _ _ _
    refine CW_seq ?_
    refine CW_region ?_
    refine OW_run' hE.ok 1 rfl ?_
    refine OW_end rfl ?_
    refine CW_ret ?_
    refine ⟨.inr rfl, rfl, ⟨_, rfl, rfl, ?_⟩, rfl⟩
    rw [types_miss (x := (.mk o v a f k)) fun j d hj => hp j d (by have := (List.getElem?_eq_some_iff.1 hj).1; omega) hj]
    exact AVle.nilSl 1 16
end Go.Proofs.Ytojnicnbmgiplaa
