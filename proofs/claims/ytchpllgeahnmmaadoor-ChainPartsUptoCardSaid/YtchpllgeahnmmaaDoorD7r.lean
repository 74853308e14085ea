/- Parts of an abstract logic over the kit's walks, and walks in it: D7r. -/
import Derived.Test.YtchpllgeahnmmaaDoorD7a
import Derived.Test.YtchpllgeahnmmaaDoorMe
namespace Go.Proofs.YtchpllgeahnmmaaDoor
open Go Go.AL
set_option linter.unusedVariables false
set_option linter.unusedSimpArgs false
set_option maxHeartbeats 4000000
theorem refFieldOk (t : Ty) (nm : ByteArray) : Does Tryd.prog 37 [argT t, .d (str nm)] noHeap (.d (int (fieldAt t nm))) := by
  refine Does_of T_ok mixed (N := 22) Tryd.func37 rfl rfl rfl (by rfl) fun F n Z hE hF J => ?_
  refine CW_seq ?_
  refine CW_region ?_
  refine OW_run' hE.ok 2 rfl ?_
  refine OW_end rfl ?_
  refine CW_seq ?_
  refine CW_seq ?_
  refine CW_region ?_
  refine OW_run' hE.ok 1 rfl ?_
  refine OW_end rfl ?_
  refine CW_block ?_
  refine CW_loop (σ := {i : Nat // i ≤ t.fields.length ∧ ∀ (j : Nat) (a : Fld), j < i → t.fields[j]? = some a → same a.name nm = false}) (fun i => ⟨J, (sset (sset (sset noSlots 1 (.d (str nm))) 2 (.d (.iptr (encT t)))) 5 (.d (int ((i.1 : Nat) : Int)))), noHeap⟩) (fun i => t.fields.length - i.1) ⟨0, Nat.zero_le _, fun j a hj => by omega⟩ (LE_sh (slh_set (slh_set (slh_set (slh_no _ _) rfl rfl) rfl rfl) rfl rfl) (hlh_no _ _)) fun ⟨i, hi, hp⟩ => ?_
  refine CW_seq ?_
  refine CW_seq ?_
  refine CW_region ?_
  refine OW_run' hE.ok 5 rfl ?_
  refine OW_end rfl ?_
  refine CW_cond _ rfl (fun h1 => ?_) (fun h1 => ?_)
  · skip
    refine CW_know (know_sl (d := 8) rfl) fun hlen => ?_
    rw [List.length_map] at hlen
    have hlt : i < t.fields.length := by have := h1; simp at this; omega
    obtain ⟨a, ha⟩ : ∃ a, t.fields[i]? = some a := ⟨_, List.getElem?_eq_getElem hlt⟩
    refine CW_skip ?_
    refine CW_seq ?_
    refine CW_block ?_
    refine CW_seq ?_
    refine CW_region ?_
    refine OW_run' hE.ok 3 rfl ?_
    refine OW_loc' hE (loc_indexAddr hE rfl rfl rfl rfl rfl (by omega) (x := encF a) (by simp [ha])) rfl rfl rfl ?_
    refine OW_run' hE.ok 4 rfl ?_
    refine OW_end rfl ?_
    refine CW_cond _ rfl (fun h2 => ?_) (fun h2 => ?_)
    · skip
      have hyes : same a.name nm = true := h2
      refine CW_seq ?_
      refine CW_region ?_
      refine OW_run' hE.ok 2 rfl ?_
      refine OW_end rfl ?_
      refine CW_ret ?_
      refine ⟨.inr rfl, rfl, ⟨_, rfl, rfl, ?_⟩, rfl⟩
      exact AVle.of (congrArg (fun b => AV.d (int b)) (by unfold fieldAt; rw [idx_some ha hyes hp]))
    · skip
      have hno : same a.name nm = false := h2
      refine CW_skip ?_
      refine CW_region ?_
      refine OW_run' hE.ok 3 rfl ?_
      refine OW_end rfl ?_
      refine ⟨⟨i + 1, by omega, fun j x hj hx => ?_⟩, LE_sh (slh_set (v := .d (int ((i + 1 : Nat) : Int))) (slh_set (v := .d (.iptr (encT t))) (slh_set (v := .d (str nm)) (slh_no _ _) (by rfl) rfl) (by rfl) rfl) (by show AV.d (.lit (.int .i64 (IntKind.i64.wrap ((i : Int) + 1)))) = _; rw [wrap_succ (by omega)]; rfl) rfl) (hlh_no _ _), by show t.fields.length - (i + 1) < t.fields.length - i; omega⟩
      by_cases hji : j = i
      · subst hji; rw [ha] at hx; cases hx; exact hno
      · exact hp j x (by omega) hx
  · skip
    have hge : t.fields.length ≤ i := by have := h1; simp at this; omega
    refine CW_exit ?_
    show CW _ _ _ _
    refine CW_seq ?_
    refine CW_region ?_
    refine OW_run' hE.ok 1 rfl ?_
    refine OW_end rfl ?_
    refine CW_ret ?_
    refine ⟨.inr rfl, rfl, ⟨_, rfl, rfl, ?_⟩, rfl⟩
    exact AVle.of (congrArg (fun b => AV.d (int b)) (by unfold fieldAt; rw [idx_none (fun j b hj hb => hp j b (by omega) hb)]))

theorem refFindOk (s : List Ty) (nm : ByteArray) : Does Tryd.prog 40 [argS s, .d (str nm)] noHeap (.tup [argT (findT s nm).1, .d (boo (findT s nm).2)]) := by
  refine Does_of T_ok mixed (N := 28) Tryd.func40 rfl rfl rfl (by rfl) fun F n Z hE hF J => ?_
  refine CW_seq ?_
  refine CW_region ?_
  refine OW_run' hE.ok 1 rfl ?_
  refine OW_alloc' hE 1 rfl rfl rfl rfl rfl rfl rfl ?_
  refine OW_run' hE.ok 1 rfl ?_
  refine OW_end rfl ?_
  refine CW_seq ?_
  refine CW_seq ?_
  refine CW_region ?_
  refine OW_run' hE.ok 1 rfl ?_
  refine OW_end rfl ?_
  refine CW_block ?_
  refine CW_loop (σ := {i : Nat // i ≤ s.length ∧ ∀ (j : Nat) (a : Ty), j < i → s[j]? = some a → same a.name nm = false}) (fun i => ⟨J, (sset (sset (sset (sset noSlots 1 (.d (str nm))) 2 (.d (.iptr [encS s]))) 4 (.ptr 1 0)) 6 (.d (int ((i.1 : Nat) : Int)))), (hset noHeap 1 (some (.box 72 [.d (str nul), .d (.lit (.slice none 0 0))])))⟩) (fun i => s.length - i.1) ⟨0, Nat.zero_le _, fun j a hj => by omega⟩ (LE_sh (slh_set (slh_set (slh_set (slh_set (slh_no _ _) rfl rfl) rfl rfl) rfl rfl) rfl rfl) (hlh_set (hlh_no _ _) rfl rfl)) fun ⟨i, hi, hp⟩ => ?_
  refine CW_seq ?_
  refine CW_seq ?_
  refine CW_region ?_
  refine OW_run' hE.ok 5 rfl ?_
  refine OW_end rfl ?_
  refine CW_cond _ rfl (fun h1 => ?_) (fun h1 => ?_)
  · skip
    refine CW_know (know_sl (d := 9) rfl) fun hlen => ?_
    rw [List.length_map] at hlen
    have hlt : i < s.length := by have := h1; simp at this; omega
    obtain ⟨a, ha⟩ : ∃ a, s[i]? = some a := ⟨_, List.getElem?_eq_getElem hlt⟩
    refine CW_skip ?_
    refine CW_seq ?_
    refine CW_block ?_
    refine CW_seq ?_
    refine CW_region ?_
    refine OW_run' hE.ok 3 rfl ?_
    refine OW_loc' hE (loc_indexAddr hE rfl rfl rfl rfl rfl (by omega) (x := encT a) (by simp [ha])) rfl rfl rfl ?_
    refine OW_run' hE.ok 4 rfl ?_
    refine OW_end rfl ?_
    refine CW_cond _ rfl (fun h2 => ?_) (fun h2 => ?_)
    · skip
      have hyes : same a.name nm = true := h2
      refine CW_seq ?_
      refine CW_region ?_
      refine OW_run' hE.ok 3 rfl ?_
      refine OW_loc' hE (loc_indexAddr hE rfl rfl rfl rfl rfl (by omega) (x := encT a) (by simp [ha])) rfl rfl rfl ?_
      refine OW_run' hE.ok 1 rfl ?_
      refine OW_store' hE rfl rfl rfl rfl rfl rfl rfl rfl rfl rfl rfl rfl ?_
      refine OW_run' hE.ok 1 rfl ?_
      refine OW_end rfl ?_
      refine CW_ret ?_
      refine ⟨.inr rfl, rfl, ⟨_, rfl, rfl, ?_⟩, rfl⟩
      rw [findT_at ha hyes hp]
      exact AVle.refl _
    · skip
      have hno : same a.name nm = false := h2
      refine CW_skip ?_
      refine CW_region ?_
      refine OW_run' hE.ok 3 rfl ?_
      refine OW_end rfl ?_
      refine ⟨⟨i + 1, by omega, fun j x hj hx => ?_⟩, LE_sh (slh_set (v := .d (int ((i + 1 : Nat) : Int))) (slh_set (v := .ptr 1 0) (slh_set (v := .d (.iptr [encS s])) (slh_set (v := .d (str nm)) (slh_no _ _) (by rfl) rfl) (by rfl) rfl) (by rfl) rfl) (by show AV.d (.lit (.int .i64 (IntKind.i64.wrap ((i : Int) + 1)))) = _; rw [wrap_succ (by omega)]; rfl) rfl) (hlh_set (hlh_no _ _) rfl rfl), by show s.length - (i + 1) < s.length - i; omega⟩
      by_cases hji : j = i
      · subst hji; rw [ha] at hx; cases hx; exact hno
      · exact hp j x (by omega) hx
  · skip
    have hge : s.length ≤ i := by have := h1; simp at this; omega
    refine CW_exit ?_
    show CW _ _ _ _
    refine CW_seq ?_
    refine CW_region ?_
    refine OW_build' hE rfl rfl rfl rfl rfl ?_
    refine OW_store' hE rfl rfl rfl rfl rfl rfl rfl rfl rfl rfl rfl rfl ?_
    refine OW_run' hE.ok 1 rfl ?_
    refine OW_end rfl ?_
    refine CW_ret ?_
    refine ⟨.inr rfl, rfl, ⟨_, rfl, rfl, ?_⟩, rfl⟩
    rw [findT_no (fun j b hj hb => hp j b (by omega) hb)]
    exact AVle.tup (.cons (.agg (.cons (.refl _) (.cons (.nilSl 2 24) .nil))) (.cons (.refl _) .nil))

end Go.Proofs.YtchpllgeahnmmaaDoor
