/- Parts of an abstract logic over the kit's walks, and walks in it: P4q6, P4q8, P4q7. -/
import Derived.Test.YtojnicnbmgiplaaPxf
import Derived.Test.YtojnicnbmgiplaaMe
namespace Go.Proofs.Ytojnicnbmgiplaa
open Go Go.AL
set_option linter.unusedVariables false
set_option linter.unusedSimpArgs false
set_option maxHeartbeats 4000000
theorem refFieldOk (t : Ty) (nm : ByteArray) : Does Try.prog 38 [argT t, .d (str nm)] noHeap (.d (int (fieldAt t nm))) := by
  refine Does_of T_ok mixed (N := 22) Try.func38 rfl rfl rfl (by rfl) fun F n Z hE hF J => ?_
  refine CW_seq ?_
  refine CW_region ?_
  refine OW_run' hE.ok 2 rfl ?_
  refine OW_end rfl ?_
  refine CW_seq ?_
  refine CW_seq ?_
  refine CW_region ?_
  refine OW_run' hE.ok 1 rfl ?_
  refine OW_end rfl ?_
  refine CW_block ?_
  refine CW_loop (σ := {i : Nat // i ≤ t.fields.length ∧ ∀ (j : Nat) (a : Fld), j < i → t.fields[j]? = some a → same a.name nm = false}) (fun i => ⟨J, (sset (sset (sset noSlots 1 (.d (str nm))) 2 (.d (.iptr (encT t)))) 5 (.d (int ((i.1 : Nat) : Int)))), noHeap⟩) (fun i => t.fields.length - i.1) ⟨0, Nat.zero_le _, fun j a hj => by omega⟩ (LE_sh (slh_set (slh_set (slh_set (slh_no _ _) rfl rfl) rfl rfl) rfl rfl) (hlh_no _ _)) fun ⟨i, hi, hp⟩ => ?_
  refine CW_seq ?_
  refine CW_seq ?_
  refine CW_region ?_
  refine OW_run' hE.ok 5 rfl ?_
  refine OW_end rfl ?_
  refine CW_cond _ rfl (fun h1 => ?_) (fun h1 => ?_)
  · skip
    refine CW_know (know_sl (d := 8) rfl) fun hlen => ?_
    rw [List.length_map] at hlen
    have hlt : i < t.fields.length := by have := h1; simp at this; omega
    obtain ⟨a, ha⟩ : ∃ a, t.fields[i]? = some a := ⟨_, List.getElem?_eq_getElem hlt⟩
    refine CW_skip ?_
    refine CW_seq ?_
    refine CW_block ?_
    refine CW_seq ?_
    refine CW_region ?_
    refine OW_run' hE.ok 3 rfl ?_
    refine OW_loc' hE (loc_indexAddr hE rfl rfl rfl rfl rfl (by omega) (x := encF a) (by simp [ha])) rfl rfl rfl ?_
    refine OW_run' hE.ok 4 rfl ?_
    refine OW_end rfl ?_
    refine CW_cond _ rfl (fun h2 => ?_) (fun h2 => ?_)
    · skip
      have hyes : same a.name nm = true := h2
      refine CW_seq ?_
      refine CW_region ?_
      refine OW_run' hE.ok 2 rfl ?_
      refine OW_end rfl ?_
      refine CW_ret ?_
      refine ⟨.inr rfl, rfl, ⟨_, rfl, rfl, ?_⟩, rfl⟩
      exact AVle.of (congrArg (fun b => AV.d (int b)) (by unfold fieldAt; rw [idx_some ha hyes hp]))
    · skip
      have hno : same a.name nm = false := h2
      refine CW_skip ?_
      refine CW_region ?_
      refine OW_run' hE.ok 3 rfl ?_
      refine OW_end rfl ?_
      refine ⟨⟨i + 1, by omega, fun j x hj hx => ?_⟩, LE_sh (slh_set (v := .d (int ((i + 1 : Nat) : Int))) (slh_set (v := .d (.iptr (encT t))) (slh_set (v := .d (str nm)) (slh_no _ _) (by rfl) rfl) (by rfl) rfl) (by show AV.d (.lit (.int .i64 (IntKind.i64.wrap ((i : Int) + 1)))) = _; rw [wrap_succ (by omega)]; rfl) rfl) (hlh_no _ _), by show t.fields.length - (i + 1) < t.fields.length - i; omega⟩
      by_cases hji : j = i
      · subst hji; rw [ha] at hx; cases hx; exact hno
      · exact hp j x (by omega) hx
  · skip
    have hge : t.fields.length ≤ i := by have := h1; simp at this; omega
    refine CW_exit ?_
    show CW _ _ _ _
    refine CW_seq ?_
    refine CW_region ?_
    refine OW_run' hE.ok 1 rfl ?_
    refine OW_end rfl ?_
    refine CW_ret ?_
    refine ⟨.inr rfl, rfl, ⟨_, rfl, rfl, ?_⟩, rfl⟩
    exact AVle.of (congrArg (fun b => AV.d (int b)) (by unfold fieldAt; rw [idx_none (fun j b hj hb => hp j b (by omega) hb)]))

theorem refFindOk (s : List Ty) (nm : ByteArray) : Does Try.prog 40 [argS s, .d (str nm)] noHeap (.tup [argT (findT s nm).1, .d (boo (findT s nm).2)]) := by
  refine Does_of T_ok mixed (N := 28) Try.func40 rfl rfl rfl (by rfl) fun F n Z hE hF J => ?_
  refine CW_seq ?_
  refine CW_region ?_
  refine OW_run' hE.ok 1 rfl ?_
  refine OW_alloc' hE 1 rfl rfl rfl rfl rfl rfl rfl ?_
  refine OW_run' hE.ok 1 rfl ?_
  refine OW_end rfl ?_
  refine CW_seq ?_
  refine CW_seq ?_
  refine CW_region ?_
  refine OW_run' hE.ok 1 rfl ?_
  refine OW_end rfl ?_
  refine CW_block ?_
  refine CW_loop (σ := {i : Nat // i ≤ s.length ∧ ∀ (j : Nat) (a : Ty), j < i → s[j]? = some a → same a.name nm = false}) (fun i => ⟨J, (sset (sset (sset (sset noSlots 1 (.d (str nm))) 2 (.d (.iptr [encS s]))) 4 (.ptr 1 0)) 6 (.d (int ((i.1 : Nat) : Int)))), (hset noHeap 1 (some (.box 80 [.d (str nul), .d (.lit (.slice none 0 0))])))⟩) (fun i => s.length - i.1) ⟨0, Nat.zero_le _, fun j a hj => by omega⟩ (LE_sh (slh_set (slh_set (slh_set (slh_set (slh_no _ _) rfl rfl) rfl rfl) rfl rfl) rfl rfl) (hlh_set (hlh_no _ _) rfl rfl)) fun ⟨i, hi, hp⟩ => ?_
  refine CW_seq ?_
  refine CW_seq ?_
  refine CW_region ?_
  refine OW_run' hE.ok 5 rfl ?_
  refine OW_end rfl ?_
  refine CW_cond _ rfl (fun h1 => ?_) (fun h1 => ?_)
  · skip
    refine CW_know (know_sl (d := 9) rfl) fun hlen => ?_
    rw [List.length_map] at hlen
    have hlt : i < s.length := by have := h1; simp at this; omega
    obtain ⟨a, ha⟩ : ∃ a, s[i]? = some a := ⟨_, List.getElem?_eq_getElem hlt⟩
    refine CW_skip ?_
    refine CW_seq ?_
    refine CW_block ?_
    refine CW_seq ?_
    refine CW_region ?_
    refine OW_run' hE.ok 3 rfl ?_
    refine OW_loc' hE (loc_indexAddr hE rfl rfl rfl rfl rfl (by omega) (x := encT a) (by simp [ha])) rfl rfl rfl ?_
    refine OW_run' hE.ok 4 rfl ?_
    refine OW_end rfl ?_
    refine CW_cond _ rfl (fun h2 => ?_) (fun h2 => ?_)
    · skip
      have hyes : same a.name nm = true := h2
      refine CW_seq ?_
      refine CW_region ?_
      refine OW_run' hE.ok 3 rfl ?_
      refine OW_loc' hE (loc_indexAddr hE rfl rfl rfl rfl rfl (by omega) (x := encT a) (by simp [ha])) rfl rfl rfl ?_
      refine OW_run' hE.ok 1 rfl ?_
      refine OW_store' hE rfl rfl rfl rfl rfl rfl rfl rfl rfl rfl rfl rfl ?_
      refine OW_run' hE.ok 1 rfl ?_
      refine OW_end rfl ?_
      refine CW_ret ?_
      refine ⟨.inr rfl, rfl, ⟨_, rfl, rfl, ?_⟩, rfl⟩
      rw [findT_at ha hyes hp]
      exact AVle.refl _
    · skip
      have hno : same a.name nm = false := h2
      refine CW_skip ?_
      refine CW_region ?_
      refine OW_run' hE.ok 3 rfl ?_
      refine OW_end rfl ?_
      refine ⟨⟨i + 1, by omega, fun j x hj hx => ?_⟩, LE_sh (slh_set (v := .d (int ((i + 1 : Nat) : Int))) (slh_set (v := .ptr 1 0) (slh_set (v := .d (.iptr [encS s])) (slh_set (v := .d (str nm)) (slh_no _ _) (by rfl) rfl) (by rfl) rfl) (by rfl) rfl) (by show AV.d (.lit (.int .i64 (IntKind.i64.wrap ((i : Int) + 1)))) = _; rw [wrap_succ (by omega)]; rfl) rfl) (hlh_set (hlh_no _ _) rfl rfl), by show s.length - (i + 1) < s.length - i; omega⟩
      by_cases hji : j = i
      · subst hji; rw [ha] at hx; cases hx; exact hno
      · exact hp j x (by omega) hx
  · skip
    have hge : s.length ≤ i := by have := h1; simp at this; omega
    refine CW_exit ?_
    show CW _ _ _ _
    refine CW_seq ?_
    refine CW_region ?_
    refine OW_build' hE rfl rfl rfl rfl rfl ?_
    refine OW_store' hE rfl rfl rfl rfl rfl rfl rfl rfl rfl rfl rfl rfl ?_
    refine OW_run' hE.ok 1 rfl ?_
    refine OW_end rfl ?_
    refine CW_ret ?_
    refine ⟨.inr rfl, rfl, ⟨_, rfl, rfl, ?_⟩, rfl⟩
    rw [findT_no (fun j b hj hb => hp j b (by omega) hb)]
    exact AVle.tup (.cons (.agg (.cons (.refl _) (.cons (.nilSl 2 24) .nil))) (.cons (.refl _) .nil))

end Go.Proofs.Ytojnicnbmgiplaa
namespace Go.Proofs.Ytojnicnbmgiplaa
open Go Go.AL
set_option linter.unusedVariables false
set_option linter.unusedSimpArgs false
set_option maxHeartbeats 4000000
theorem refFkOk (s : List Ty) (e : El) (nm : ByteArray) : Does Try.prog 42 [argS s, argL e, .d (str nm)] noHeap (.tup [.d (int (fkR s e.tys nm).1), .d (int (fkR s e.tys nm).2)]) := by
  refine Does_of T_ok mixed (N := 77) Try.func42 rfl rfl rfl (by rfl) fun F n Z hE hF J => ?_
  obtain ⟨y1, y2, y3, y4, y5, y6, y7, y8, y9, rfl⟩ := El.shape e
  show CW _ _ _ _
  have hsz : True := trivial
  refine CW_seq ?_
  refine CW_region ?_
  refine OW_run' hE.ok 4 rfl ?_
  refine OW_end rfl ?_
  refine CW_seq ?_
  refine CW_region ?_
  refine OW_run' hE.ok 1 rfl ?_
  refine OW_end rfl ?_
  refine CW_seq ?_
  refine CW_seq ?_
  refine CW_region ?_
  refine OW_run' hE.ok 1 rfl ?_
  refine OW_end rfl ?_
  refine CW_block ?_
  refine CW_loop (σ := {i : Nat // i ≤ y2.length ∧ ∀ (j : Nat) (a : ByteArray), j < i → y2[j]? = some a → badF s nm a = false}) (fun i => ⟨J, (sset (sset (sset (sset (sset noSlots 2 (.d (str nm))) 3 (.d (.iptr [encS s]))) 4 (.d (.iptr (encL ⟨y1, y2, y3, y4, .mk y5 y6 y7 y8 y9⟩)))) 8 (.d (int 0))) 9 (.d (int ((i.1 : Nat) : Int)))), noHeap⟩) (fun i => y2.length - i.1) ⟨0, Nat.zero_le _, fun j a hj => by omega⟩ (LE_sh (slh_set (slh_set (slh_set (slh_set (slh_set (slh_no _ _) rfl rfl) rfl rfl) rfl rfl) rfl rfl) rfl rfl) (hlh_no _ _)) fun ⟨i, hi, hp⟩ => ?_
  refine CW_seq ?_
  refine CW_seq ?_
  refine CW_region ?_
  refine OW_run' hE.ok 5 rfl ?_
  refine OW_end rfl ?_
  refine CW_cond _ rfl (fun h1 => ?_) (fun h1 => ?_)
  · skip
    refine CW_know (know_sl (d := 19) rfl) fun hlen => ?_
    simp only [List.length_map] at hlen
    have hlt : i < y2.length := by have := h1; simp at this; omega
    obtain ⟨t, ht⟩ : ∃ t, y2[i]? = some t := ⟨_, List.getElem?_eq_getElem hlt⟩
    refine CW_skip ?_
    refine CW_seq ?_
    refine CW_block ?_
    refine CW_seq ?_
    refine CW_drawn2 hE 12 10 11 1 (by decide +kernel) (V := (encT (findT s t).1).map .d) rfl rfl rfl rfl rfl rfl rfl rfl rfl (by decide +kernel) rfl rfl rfl rfl rfl ?_
    refine H2_run hE 4 rfl rfl rfl rfl rfl ?_
    refine H2_loc hE (fun b => loc_indexAddr hE rfl rfl rfl rfl rfl (by omega) (x := encB t) (by simp [ht])) rfl rfl rfl rfl rfl ?_
    refine H2_run hE 1 rfl rfl rfl rfl rfl ?_
    refine H2_call hE (refFindOk _ _) rfl rfl rfl rfl rfl rfl rfl rfl rfl ?_
    refine H2_run hE 3 rfl rfl rfl rfl rfl ?_
    refine H2_alloc rfl rfl rfl ?_
    refine H2_store rfl rfl rfl rfl rfl rfl rfl rfl ?_
    refine H2_end ?_
    refine OW_run' hE.ok 1 rfl ?_
    refine OW_end rfl ?_
    refine CW_seq ?_
    refine CW_region ?_
    refine OW_run' hE.ok 2 rfl ?_
    refine OW_call' hE (refFieldOk _ _) rfl rfl rfl rfl rfl rfl rfl ?_
    refine OW_run' hE.ok 1 rfl ?_
    refine OW_end rfl ?_
    refine CW_seq ?_
    refine CW_region ?_
    refine OW_run' hE.ok 3 rfl ?_
    refine OW_split' 39 rfl (fun h2 => ?_) (fun h2 => ?_)
    · skip
      have hb : badF s nm t = true := by unfold badF; rw [show (!(findT s t).2) = true from h2]; rfl
      refine OW_run' hE.ok 3 rfl ?_
      refine OW_end rfl ?_
      refine CW_true rfl ?_
      refine CW_seq ?_
      refine CW_region ?_
      refine OW_run' hE.ok 2 rfl ?_
      refine OW_end rfl ?_
      refine CW_ret ?_
      refine ⟨.inr rfl, rfl, ⟨_, rfl, rfl, ?_⟩, rfl⟩
      rw [show fkR s y2 nm = (0, 13) from fk_13 ht hb]
      exact AVle.refl _
    · skip
      have hb1 : (!(findT s t).2) = false := h2
      refine OW_run' hE.ok 3 rfl ?_
      refine OW_end rfl ?_
      refine CW_cond _ rfl (fun h3 => ?_) (fun h3 => ?_)
      · skip
        have hb : badF s nm t = true := by unfold badF; rw [hb1]; exact h3
        refine CW_seq ?_
        refine CW_region ?_
        refine OW_run' hE.ok 2 rfl ?_
        refine OW_end rfl ?_
        refine CW_ret ?_
        refine ⟨.inr rfl, rfl, ⟨_, rfl, rfl, ?_⟩, rfl⟩
        rw [show fkR s y2 nm = (0, 13) from fk_13 ht hb]
        exact AVle.refl _
      · skip
        have hgood : badF s nm t = false := by unfold badF; rw [hb1]; exact h3
        refine CW_skip ?_
        refine CW_region ?_
        refine OW_run' hE.ok 3 rfl ?_
        refine OW_end rfl ?_
        refine ⟨⟨i + 1, by omega, fun j x hj hx => ?_⟩, LE_sh (slh_set (v := .d (int ((i + 1 : Nat) : Int))) (slh_set (v := .d (int 0)) (slh_set (v := .d (.iptr (encL ⟨y1, y2, y3, y4, .mk y5 y6 y7 y8 y9⟩))) (slh_set (v := .d (.iptr [encS s])) (slh_set (v := .d (str nm)) (slh_no _ _) (by rfl) rfl) (by rfl) rfl) (by rfl) rfl) (by rfl) rfl) (by show AV.d (.lit (.int .i64 (IntKind.i64.wrap ((i : Int) + 1)))) = _; rw [wrap_succ (by omega)]; rfl) rfl) (hlh_no _ _), by show y2.length - (i + 1) < y2.length - i; omega⟩
        by_cases hji : j = i
        · subst hji; rw [ht] at hx; cases hx; exact hgood
        · exact hp j x (by omega) hx
  · skip
    have hge : y2.length ≤ i := by have := h1; simp at this; omega
    have hg : ∀ (j : Nat) (a : ByteArray), y2[j]? = some a → badF s nm a = false := fun j a ha => hp j a (by have := (List.getElem?_eq_some_iff.1 ha).1; omega) ha
    refine CW_exit ?_
    show CW _ _ _ _
    refine CW_seq ?_
    refine CW_seq ?_
    refine CW_region ?_
    refine OW_run' hE.ok 1 rfl ?_
    refine OW_end rfl ?_
    refine CW_block ?_
    refine CW_loop (σ := {i : Nat // i ≤ y2.length ∧ ∀ (j : Nat) (a : ByteArray), j < i → y2[j]? = some a → 0 < j → kindF s nm a = fkAt s y2 nm j}) (fun i => ⟨J, (sset (sset (sset (sset (sset noSlots 2 (.d (str nm))) 3 (.d (.iptr [encS s]))) 4 (.d (.iptr (encL ⟨y1, y2, y3, y4, .mk y5 y6 y7 y8 y9⟩)))) 8 (.d (int (fkAt s y2 nm i.1)))) 13 (.d (int ((i.1 : Nat) : Int)))), noHeap⟩) (fun i => y2.length - i.1) ⟨0, Nat.zero_le _, fun j a hj => by omega⟩ (LE_sh (slh_set (slh_set (slh_set (slh_set (slh_set (slh_no _ _) rfl rfl) rfl rfl) rfl rfl) rfl rfl) rfl rfl) (hlh_no _ _)) fun ⟨i, hi, hp⟩ => ?_
    refine CW_seq ?_
    refine CW_seq ?_
    refine CW_region ?_
    refine OW_run' hE.ok 5 rfl ?_
    refine OW_end rfl ?_
    refine CW_cond _ rfl (fun h4 => ?_) (fun h4 => ?_)
    · skip
      refine CW_know (know_sl (d := 45) rfl) fun hlen => ?_
      simp only [List.length_map] at hlen
      have hlt : i < y2.length := by have := h4; simp at this; omega
      obtain ⟨t, ht⟩ : ∃ t, y2[i]? = some t := ⟨_, List.getElem?_eq_getElem hlt⟩
      obtain ⟨hf2, q, f, hq, hfq, hkf⟩ := kind_at (hg i t ht)
      refine CW_skip ?_
      refine CW_seq ?_
      refine CW_block ?_
      refine CW_seq ?_
      refine CW_drawn2 hE 12 10 11 2 (by decide +kernel) (V := (encT (findT s t).1).map .d) rfl rfl rfl rfl rfl rfl rfl rfl rfl (by decide +kernel) rfl rfl rfl rfl rfl ?_
      refine H2_run hE 4 rfl rfl rfl rfl rfl ?_
      refine H2_loc hE (fun b => loc_indexAddr hE rfl rfl rfl rfl rfl (by omega) (x := encB t) (by simp [ht])) rfl rfl rfl rfl rfl ?_
      refine H2_run hE 1 rfl rfl rfl rfl rfl ?_
      refine H2_call hE (refFindOk _ _) rfl rfl rfl rfl rfl rfl rfl rfl rfl ?_
      refine H2_run hE 3 rfl rfl rfl rfl rfl ?_
      refine H2_alloc rfl rfl rfl ?_
      refine H2_store rfl rfl rfl rfl rfl rfl rfl rfl ?_
      refine H2_end ?_
      refine OW_run' hE.ok 1 rfl ?_
      refine OW_end rfl ?_
      refine CW_seq ?_
      refine CW_drawn' hE 5 (by decide +kernel) ?_
      refine HW_run hE 4 rfl rfl ?_
      refine HW_call hE (refFieldOk (findT s t).1 nm) rfl rfl rfl rfl rfl rfl rfl rfl ?_
      refine HW_end ?_
      refine OW_as' 64 (.d (int (q : Nat))) (congrArg (fun z => AV.d (int z)) hq) ?_
      refine OW_loc' hE (loc_indexAddr hE rfl rfl rfl rfl rfl (by omega) (x := encF f) (by simp [hfq])) rfl rfl rfl ?_
      refine OW_run' hE.ok 3 rfl ?_
      refine OW_end rfl ?_
      refine CW_seq ?_
      refine CW_seq ?_
      refine CW_region ?_
      refine OW_run' hE.ok 3 rfl ?_
      refine OW_split' 70 rfl (fun h5 => ?_) (fun h5 => ?_)
      · skip
        have g1 : decide (((i : Nat) : Int) > 0) = true := h5
        refine OW_run' hE.ok 4 rfl ?_
        refine OW_end rfl ?_
        refine CW_cond _ rfl (fun h6 => ?_) (fun h6 => ?_)
        · skip
          have g2 : (f.kind != fkAt s y2 nm i) = true := h6
          refine CW_seq ?_
          refine CW_region ?_
          refine OW_run' hE.ok 2 rfl ?_
          refine OW_end rfl ?_
          refine CW_ret ?_
          refine ⟨.inr rfl, rfl, ⟨_, rfl, rfl, ?_⟩, rfl⟩
          rw [show fkR s y2 nm = (0, 14) from fk_14 hg ht (by simpa using g1) (by rw [hkf]; simpa using g2)]
          exact AVle.refl _
        · skip
          have g2 : (f.kind != fkAt s y2 nm i) = false := h6
          refine CW_skip ?_
          refine CW_region ?_
          refine OW_run' hE.ok 2 rfl ?_
          refine OW_end rfl ?_
          refine CW_region ?_
          refine OW_run' hE.ok 3 rfl ?_
          refine OW_end rfl ?_
          refine ⟨⟨i + 1, by omega, fun j x hj hx h0 => ?_⟩, LE_sh (slh_set (v := .d (int ((i + 1 : Nat) : Int))) (slh_set (v := .d (int (fkAt s y2 nm (i + 1)))) (slh_set (v := .d (.iptr (encL ⟨y1, y2, y3, y4, .mk y5 y6 y7 y8 y9⟩))) (slh_set (v := .d (.iptr [encS s])) (slh_set (v := .d (str nm)) (slh_no _ _) (by rfl) rfl) (by rfl) rfl) (by rfl) rfl) (by exact (congrArg (fun z => AV.d (int z)) (by show f.kind = fkAt s y2 nm (i + 1); rw [← hkf]; simp [fkAt, ht]))) rfl) (by show AV.d (.lit (.int .i64 (IntKind.i64.wrap ((i : Int) + 1)))) = _; rw [wrap_succ (by omega)]; rfl) rfl) (hlh_no _ _), by show y2.length - (i + 1) < y2.length - i; omega⟩
          by_cases hji : j = i
          · subst hji; rw [ht] at hx; cases hx; rw [hkf]; simpa using g2
          · exact hp j x (by omega) hx h0
      · skip
        have g1 : decide (((i : Nat) : Int) > 0) = false := h5
        refine OW_run' hE.ok 4 rfl ?_
        refine OW_end rfl ?_
        refine CW_false rfl ?_
        refine CW_skip ?_
        refine CW_region ?_
        refine OW_run' hE.ok 2 rfl ?_
        refine OW_end rfl ?_
        refine CW_region ?_
        refine OW_run' hE.ok 3 rfl ?_
        refine OW_end rfl ?_
        refine ⟨⟨i + 1, by omega, fun j x hj hx h0 => ?_⟩, LE_sh (slh_set (v := .d (int ((i + 1 : Nat) : Int))) (slh_set (v := .d (int (fkAt s y2 nm (i + 1)))) (slh_set (v := .d (.iptr (encL ⟨y1, y2, y3, y4, .mk y5 y6 y7 y8 y9⟩))) (slh_set (v := .d (.iptr [encS s])) (slh_set (v := .d (str nm)) (slh_no _ _) (by rfl) rfl) (by rfl) rfl) (by rfl) rfl) (by exact (congrArg (fun z => AV.d (int z)) (by show f.kind = fkAt s y2 nm (i + 1); rw [← hkf]; simp [fkAt, ht]))) rfl) (by show AV.d (.lit (.int .i64 (IntKind.i64.wrap ((i : Int) + 1)))) = _; rw [wrap_succ (by omega)]; rfl) rfl) (hlh_no _ _), by show y2.length - (i + 1) < y2.length - i; omega⟩
        by_cases hji : j = i
        · subst hji; rw [ht] at hx; cases hx; rw [hkf]; simp at g1; omega
        · exact hp j x (by omega) hx h0
    · skip
      have hge : y2.length ≤ i := by have := h4; simp at this; omega
      refine CW_exit ?_
      show CW _ _ _ _
      refine CW_seq ?_
      refine CW_region ?_
      refine OW_run' hE.ok 3 rfl ?_
      refine OW_end rfl ?_
      refine CW_ret ?_
      refine ⟨.inr rfl, rfl, ⟨_, rfl, rfl, ?_⟩, rfl⟩
      rw [show fkR s y2 nm = (fkAt s y2 nm i, 0) from fk_ok hg (fun j a ha h0 => hp j a (by have := (List.getElem?_eq_some_iff.1 ha).1; omega) ha h0) hge hi]
      exact AVle.refl _

theorem refKindStep (s : List Ty) (l : List El) (op : Int) (v : Vl) (al fi : ByteArray) (ks : List Exp) (hw : ks.length ≤ 2) (ih : ∀ k ∈ ks, Does Try.prog 78 [argS s, .d (.sl 11 144 (l.map encL)), argX k] noHeap (.tup [.d (int (kR s l k).1), .d (int (kR s l k).2)])) : Does Try.prog 78 [argS s, .d (.sl 11 144 (l.map encL)), argX (.mk op v al fi ks)] noHeap (.tup [.d (int (kR s l (.mk op v al fi ks)).1), .d (int (kR s l (.mk op v al fi ks)).2)]) := by
  refine Does_of T_ok mixed (N := 128) Try.func78 rfl rfl rfl (by rfl) fun F n Z hE hF J => ?_
  refine CW_seq ?_
  refine CW_region ?_
  refine OW_run' hE.ok 4 rfl ?_
  refine OW_end rfl ?_
  refine CW_seq ?_
  refine CW_seq ?_
  refine CW_region ?_
  refine OW_run' hE.ok 3 rfl ?_
  refine OW_end rfl ?_
  refine CW_cond _ rfl (fun h1 => ?_) (fun h1 => ?_)
  · skip
    have w1 : (op == 1) = true := h1
    refine CW_seq ?_
    refine CW_region ?_
    refine OW_run' hE.ok 5 rfl ?_
    refine OW_end rfl ?_
    refine CW_ret ?_
    refine ⟨.inr rfl, rfl, ⟨_, rfl, rfl, ?_⟩, rfl⟩
    rw [kR_lit w1]
    exact AVle.refl _
  · skip
    have w1 : (op == 1) = false := h1
    refine CW_skip ?_
    refine CW_seq ?_
    refine CW_seq ?_
    refine CW_region ?_
    refine OW_run' hE.ok 3 rfl ?_
    refine OW_end rfl ?_
    refine CW_cond _ rfl (fun h2 => ?_) (fun h2 => ?_)
    · skip
      have w2 : (op == 2) = true := h2
      refine CW_seq ?_
      refine CW_region ?_
      refine OW_run' hE.ok 3 rfl ?_
      refine OW_call' hE (refAliasOk l al) rfl rfl rfl rfl rfl rfl rfl ?_
      refine OW_run' hE.ok 1 rfl ?_
      refine OW_end rfl ?_
      refine CW_seq ?_
      refine CW_seq ?_
      refine CW_region ?_
      refine OW_run' hE.ok 2 rfl ?_
      refine OW_end rfl ?_
      refine CW_cond _ rfl (fun h3 => ?_) (fun h3 => ?_)
      · skip
        have gi : decide (idx (fun e : El => same e.al al) l < 0) = true := h3
        refine CW_seq ?_
        refine CW_region ?_
        refine OW_run' hE.ok 2 rfl ?_
        refine OW_end rfl ?_
        refine CW_ret ?_
        refine ⟨.inr rfl, rfl, ⟨_, rfl, rfl, ?_⟩, rfl⟩
        rw [kR_fld0 w1 w2 gi]
        exact AVle.refl _
      · skip
        obtain ⟨i, e, hi, he, hr⟩ := kR_fld (s := s) (v := v) (fi := fi) (ks := ks) w1 w2 h3
        obtain ⟨y1, y2, y3, y4, y5, y6, y7, y8, y9, rfl⟩ := El.shape e
        refine CW_skip ?_
        refine CW_seq ?_
        refine CW_know (know_sl (d := 1) rfl) fun hlen => ?_
        rw [List.length_map] at hlen
        have hil := (List.getElem?_eq_some_iff.1 he).1
        refine CW_drawn' hE 10 (by decide +kernel) ?_
        refine HW_run hE 3 rfl rfl ?_
        refine HW_as 30 (.d (int (i : Nat))) (congrArg (fun z => AV.d (int z)) hi) ?_
        refine HW_loc hE (loc_indexAddr hE rfl rfl rfl rfl rfl (by omega) (x := encL ⟨y1, y2, y3, y4, .mk y5 y6 y7 y8 y9⟩) (by simp [he])) rfl rfl rfl rfl ?_
        refine HW_run hE 3 rfl rfl ?_
        refine HW_call hE (refFkOk s ⟨y1, y2, y3, y4, .mk y5 y6 y7 y8 y9⟩ fi) rfl rfl rfl rfl rfl rfl rfl rfl ?_
        refine HW_run hE 2 rfl rfl ?_
        refine HW_end ?_
        refine OW_run' hE.ok 2 rfl ?_
        refine OW_end rfl ?_
        refine CW_ret ?_
        refine ⟨.inr rfl, rfl, ⟨_, rfl, rfl, ?_⟩, rfl⟩
        rw [hr]
        exact AVle.refl _
    · skip
      have w2 : (op == 2) = false := h2
      refine CW_skip ?_
      refine CW_seq ?_
      refine CW_region ?_
      refine OW_alloc' hE 1 rfl rfl rfl rfl rfl rfl rfl ?_
      refine OW_end rfl ?_
      refine CW_seq ?_
      refine CW_seq ?_
      refine CW_region ?_
      refine OW_run' hE.ok 1 rfl ?_
      refine OW_end rfl ?_
      refine CW_block ?_
      refine CW_loop (σ := {i : Nat // i ≤ ks.length ∧ ∀ (j : Nat) (q : Exp), j < i → ks[j]? = some q → (kR s l q).2 = 0}) (fun i => ⟨J, (sset (sset (sset (sset (sset noSlots 1 (.d (.sl 11 144 (l.map encL)))) 3 (.d (.iptr [encS s]))) 5 (.d (.iptr (encX (.mk op v al fi ks))))) 9 (.ptr 1 0)) 10 (.d (int ((i.1 : Nat) : Int)))), (hset noHeap 1 (some (.box 140 [.d (int (kAt s l ks i.1 0)), .d (int (kAt s l ks i.1 1))])))⟩) (fun i => ks.length - i.1) ⟨0, Nat.zero_le _, fun j a hj => by omega⟩ (LE_sh (slh_set (slh_set (slh_set (slh_set (slh_set (slh_no _ _) rfl rfl) rfl rfl) rfl rfl) rfl rfl) rfl rfl) (hlh_set (hlh_no _ _) rfl rfl)) fun ⟨i, hi, hp⟩ => ?_
      refine CW_seq ?_
      refine CW_seq ?_
      refine CW_region ?_
      refine OW_run' hE.ok 5 rfl ?_
      refine OW_end rfl ?_
      refine CW_cond _ rfl (fun h4 => ?_) (fun h4 => ?_)
      · skip
        have hlt : i < ks.length := by have := h4; simp [encXs_length] at this; omega
        have hi2 : i < 2 := by omega
        obtain ⟨k, hk⟩ : ∃ k, ks[i]? = some k := ⟨_, List.getElem?_eq_getElem hlt⟩
        have hI := ih k (List.mem_of_getElem? hk)
        obtain ⟨o1, v1, c1, f1, k1, rfl⟩ := Exp.shape k
        refine CW_skip ?_
        refine CW_seq ?_
        refine CW_block ?_
        refine CW_seq ?_
        refine CW_drawn' hE 12 (by decide +kernel) ?_
        refine HW_run hE 5 rfl rfl ?_
        refine HW_loc hE (loc_indexAddr hE rfl rfl rfl rfl rfl (by omega) (x := encX (.mk o1 v1 c1 f1 k1)) (encXs_get hk)) rfl rfl rfl rfl ?_
        refine HW_run hE 1 rfl rfl ?_
        refine HW_call hE (hI) rfl rfl rfl rfl rfl rfl rfl rfl ?_
        refine HW_run hE 4 rfl rfl ?_
        refine HW_end ?_
        refine OW_run' hE.ok 1 rfl ?_
        refine OW_end rfl ?_
        refine CW_seq ?_
        refine CW_seq ?_
        refine CW_region ?_
        refine OW_run' hE.ok 2 rfl ?_
        refine OW_end rfl ?_
        refine CW_cond _ rfl (fun h5 => ?_) (fun h5 => ?_)
        · skip
          have gz : ((kR s l (.mk o1 v1 c1 f1 k1)).2 != 0) = true := h5
          refine CW_seq ?_
          refine CW_region ?_
          refine OW_run' hE.ok 3 rfl ?_
          refine OW_end rfl ?_
          refine CW_ret ?_
          refine ⟨.inr rfl, rfl, ⟨_, rfl, rfl, ?_⟩, rfl⟩
          rw [kR_err w1 w2 (kRs_err hk gz hp) gz]
          exact AVle.refl _
        · skip
          have gz : ((kR s l (.mk o1 v1 c1 f1 k1)).2 != 0) = false := h5
          refine CW_skip ?_
          refine CW_region ?_
          refine OW_run' hE.ok 2 rfl ?_
          refine OW_as' 59 (.d (int ((i : Nat) : Int))) (by rfl) ?_
          refine OW_loc' hE (loc_addrA hE rfl rfl rfl rfl rfl (by omega) (by omega)) rfl rfl rfl ?_
          refine OW_as' 61 (.ptr 1 i) (by show AV.ptr 1 (0 + ((i : Nat) : Int).toNat * 1) = _; rw [Int.toNat_natCast, Nat.zero_add, Nat.mul_one]) ?_
          refine OW_store' hE rfl rfl rfl rfl rfl rfl rfl rfl rfl rfl rfl (by rw [Nat.ble_eq]; show i + 1 ≤ 2; omega) ?_
          refine OW_end rfl ?_
          refine CW_region ?_
          refine OW_run' hE.ok 3 rfl ?_
          refine OW_end rfl ?_
          refine ⟨⟨i + 1, by omega, fun j x hj hx => ?_⟩, LE_sh (slh_set (v := .d (int ((i + 1 : Nat) : Int))) (slh_set (v := .ptr 1 0) (slh_set (v := .d (.iptr (encX (.mk op v al fi ks)))) (slh_set (v := .d (.iptr [encS s])) (slh_set (v := .d (.sl 11 144 (l.map encL))) (slh_no _ _) (by rfl) rfl) (by rfl) rfl) (by rfl) rfl) (by rfl) rfl) (by show AV.d (.lit (.int .i64 (IntKind.i64.wrap ((i : Int) + 1)))) = _; rw [wrap_succ (by omega)]; rfl) rfl) (hlh_set (hlh_no _ _) (congrArg (fun z => some (Ent.box 140 z)) (kAt_next hk hi2)) rfl), by show ks.length - (i + 1) < ks.length - i; omega⟩
          by_cases hji : j = i
          · subst hji; rw [hk] at hx; cases hx; simpa using gz
          · exact hp j x (by omega) hx
      · skip
        have hge : ks.length ≤ i := by have := h4; simp [encXs_length] at this; omega
        have hfin := kR_fin (s := s) (l := l) (v := v) (al := al) (fi := fi) w1 w2 (fun k hk => by obtain ⟨j, hj⟩ := List.getElem?_of_mem hk; exact hp j k (by have := (List.getElem?_eq_some_iff.1 hj).1; omega) hj) hge
        obtain ⟨a, ha⟩ : ∃ a, kAt s l ks i 0 = a := ⟨_, rfl⟩
        obtain ⟨b, hb⟩ : ∃ b, kAt s l ks i 1 = b := ⟨_, rfl⟩
        rw [ha, hb] at hfin
        rw [ha, hb]
        refine CW_exit ?_
        show CW _ _ _ _
        refine CW_seq ?_
        refine CW_block ?_
        refine CW_cutE (fun _ : Unit => ⟨J, (sset (sset (sset noSlots 5 (.d (.iptr (encX (.mk op v al fi ks))))) 9 (.ptr 1 0)) 62 (.d (boo ((op == 12) && a == 3)))), (hset noHeap 1 (some (.box 140 [.d (int a), .d (int b)])))⟩) (fun _ => True) ?_ ?_
        · skip
          refine CW_region ?_
          refine OW_run' hE.ok 4 rfl ?_
          refine OW_split' 66 rfl (fun h6 => ?_) (fun h6 => ?_)
          · skip
            have k1 : (op == 12) = true := h6
            refine OW_loc' hE (loc_addrA hE rfl rfl rfl rfl rfl (by omega) (by omega)) rfl rfl rfl ?_
            refine OW_run' hE.ok 4 rfl ?_
            refine OW_end rfl ?_
            exact ⟨(), trivial, LE_sh (slh_set (v := .d (boo ((op == 12) && a == 3))) (slh_set (v := .ptr 1 0) (slh_set (v := .d (.iptr (encX (.mk op v al fi ks)))) (slh_no _ _) (by rfl) rfl) (by rfl) rfl) (by exact (congrArg (fun b => AV.d (boo b)) (by rw [k1]; rfl))) rfl) (hlh_set (hlh_no _ _) rfl rfl)⟩
          · skip
            have k1 : (op == 12) = false := h6
            refine OW_run' hE.ok 5 rfl ?_
            refine OW_end rfl ?_
            exact ⟨(), trivial, LE_sh (slh_set (v := .d (boo ((op == 12) && a == 3))) (slh_set (v := .ptr 1 0) (slh_set (v := .d (.iptr (encX (.mk op v al fi ks)))) (slh_no _ _) (by rfl) rfl) (by rfl) rfl) (by exact (congrArg (fun b => AV.d (boo b)) (by rw [k1]; rfl))) rfl) (hlh_set (hlh_no _ _) rfl rfl)⟩
        · skip
          rintro _ _
          refine CW_cond _ rfl (fun h7 => ?_) (fun h7 => ?_)
          · skip
            have c62 : ((op == 12) && a == 3) = true := h7
            refine CW_seq ?_
            refine CW_region ?_
            refine OW_run' hE.ok 2 rfl ?_
            refine OW_end rfl ?_
            refine CW_ret ?_
            refine ⟨.inr rfl, rfl, ⟨_, rfl, rfl, ?_⟩, rfl⟩
            rw [show kR s l (.mk op v al fi ks) = (3, 0) by rw [hfin]; unfold finKR; rw [c62]; rfl]
            exact AVle.refl _
          · skip
            have c62 : ((op == 12) && a == 3) = false := h7
            refine CW_cutE (fun _ : Unit => ⟨J, (sset (sset (sset noSlots 5 (.d (.iptr (encX (.mk op v al fi ks))))) 9 (.ptr 1 0)) 71 (.d (boo ((op == 12) || a != b)))), (hset noHeap 1 (some (.box 140 [.d (int a), .d (int b)])))⟩) (fun _ => True) ?_ ?_
            · skip
              refine CW_region ?_
              refine OW_run' hE.ok 4 rfl ?_
              refine OW_split' 75 rfl (fun h8 => ?_) (fun h8 => ?_)
              · skip
                have k2 : (op == 12) = true := h8
                refine OW_run' hE.ok 7 rfl ?_
                refine OW_end rfl ?_
                exact ⟨(), trivial, LE_sh (slh_set (v := .d (boo ((op == 12) || a != b))) (slh_set (v := .ptr 1 0) (slh_set (v := .d (.iptr (encX (.mk op v al fi ks)))) (slh_no _ _) (by rfl) rfl) (by rfl) rfl) (by exact (congrArg (fun b => AV.d (boo b)) (by rw [k2]; rfl))) rfl) (hlh_set (hlh_no _ _) rfl rfl)⟩
              · skip
                have k2 : (op == 12) = false := h8
                refine OW_loc' hE (loc_addrA hE rfl rfl rfl rfl rfl (by omega) (by omega)) rfl rfl rfl ?_
                refine OW_run' hE.ok 1 rfl ?_
                refine OW_loc' hE (loc_addrA hE rfl rfl rfl rfl rfl (by omega) (by omega)) rfl rfl rfl ?_
                refine OW_run' hE.ok 4 rfl ?_
                refine OW_end rfl ?_
                exact ⟨(), trivial, LE_sh (slh_set (v := .d (boo ((op == 12) || a != b))) (slh_set (v := .ptr 1 0) (slh_set (v := .d (.iptr (encX (.mk op v al fi ks)))) (slh_no _ _) (by rfl) rfl) (by rfl) rfl) (by exact (congrArg (fun b => AV.d (boo b)) (by rw [k2]; rfl))) rfl) (hlh_set (hlh_no _ _) rfl rfl)⟩
            · skip
              rintro _ _
              refine CW_cond _ rfl (fun h9 => ?_) (fun h9 => ?_)
              · skip
                have c71 : ((op == 12) || a != b) = true := h9
                refine CW_seq ?_
                refine CW_region ?_
                refine OW_run' hE.ok 2 rfl ?_
                refine OW_end rfl ?_
                refine CW_ret ?_
                refine ⟨.inr rfl, rfl, ⟨_, rfl, rfl, ?_⟩, rfl⟩
                rw [show kR s l (.mk op v al fi ks) = (0, 14) by rw [hfin]; unfold finKR; rw [c62, c71]; rfl]
                exact AVle.refl _
              · skip
                have c71 : ((op == 12) || a != b) = false := h9
                refine CW_cutE (fun _ : Unit => ⟨J, (sset (sset (sset noSlots 5 (.d (.iptr (encX (.mk op v al fi ks))))) 9 (.ptr 1 0)) 82 (.d (boo (decide (op ≤ 5) && a == 1)))), (hset noHeap 1 (some (.box 140 [.d (int a), .d (int b)])))⟩) (fun _ => True) ?_ ?_
                · skip
                  refine CW_region ?_
                  refine OW_run' hE.ok 4 rfl ?_
                  refine OW_split' 86 rfl (fun h10 => ?_) (fun h10 => ?_)
                  · skip
                    have k3 : decide (op ≤ 5) = true := h10
                    refine OW_loc' hE (loc_addrA hE rfl rfl rfl rfl rfl (by omega) (by omega)) rfl rfl rfl ?_
                    refine OW_run' hE.ok 4 rfl ?_
                    refine OW_end rfl ?_
                    exact ⟨(), trivial, LE_sh (slh_set (v := .d (boo (decide (op ≤ 5) && a == 1))) (slh_set (v := .ptr 1 0) (slh_set (v := .d (.iptr (encX (.mk op v al fi ks)))) (slh_no _ _) (by rfl) rfl) (by rfl) rfl) (by exact (congrArg (fun b => AV.d (boo b)) (by rw [k3]; rfl))) rfl) (hlh_set (hlh_no _ _) rfl rfl)⟩
                  · skip
                    have k3 : decide (op ≤ 5) = false := h10
                    refine OW_run' hE.ok 5 rfl ?_
                    refine OW_end rfl ?_
                    exact ⟨(), trivial, LE_sh (slh_set (v := .d (boo (decide (op ≤ 5) && a == 1))) (slh_set (v := .ptr 1 0) (slh_set (v := .d (.iptr (encX (.mk op v al fi ks)))) (slh_no _ _) (by rfl) rfl) (by rfl) rfl) (by exact (congrArg (fun b => AV.d (boo b)) (by rw [k3]; rfl))) rfl) (hlh_set (hlh_no _ _) rfl rfl)⟩
                · skip
                  rintro _ _
                  refine CW_cond _ rfl (fun h11 => ?_) (fun h11 => ?_)
                  · skip
                    have c82 : (decide (op ≤ 5) && a == 1) = true := h11
                    refine CW_seq ?_
                    refine CW_region ?_
                    refine OW_run' hE.ok 2 rfl ?_
                    refine OW_end rfl ?_
                    refine CW_ret ?_
                    refine ⟨.inr rfl, rfl, ⟨_, rfl, rfl, ?_⟩, rfl⟩
                    rw [show kR s l (.mk op v al fi ks) = (1, 0) by rw [hfin]; unfold finKR; rw [c62, c71, c82]; rfl]
                    exact AVle.refl _
                  · skip
                    have c82 : (decide (op ≤ 5) && a == 1) = false := h11
                    refine CW_cutE (fun _ : Unit => ⟨J, (sset (sset (sset noSlots 5 (.d (.iptr (encX (.mk op v al fi ks))))) 9 (.ptr 1 0)) 91 (.d (boo ((op == 6) || (op == 7))))), (hset noHeap 1 (some (.box 140 [.d (int a), .d (int b)])))⟩) (fun _ => True) ?_ ?_
                    · skip
                      refine CW_region ?_
                      refine OW_run' hE.ok 4 rfl ?_
                      refine OW_split' 95 rfl (fun h12 => ?_) (fun h12 => ?_)
                      · skip
                        have k4 : (op == 6) = true := h12
                        refine OW_run' hE.ok 5 rfl ?_
                        refine OW_end rfl ?_
                        exact ⟨(), trivial, LE_sh (slh_set (v := .d (boo ((op == 6) || (op == 7)))) (slh_set (v := .ptr 1 0) (slh_set (v := .d (.iptr (encX (.mk op v al fi ks)))) (slh_no _ _) (by rfl) rfl) (by rfl) rfl) (by exact (congrArg (fun b => AV.d (boo b)) (by rw [k4]; rfl))) rfl) (hlh_set (hlh_no _ _) rfl rfl)⟩
                      · skip
                        have k4 : (op == 6) = false := h12
                        refine OW_run' hE.ok 5 rfl ?_
                        refine OW_end rfl ?_
                        exact ⟨(), trivial, LE_sh (slh_set (v := .d (boo ((op == 6) || (op == 7)))) (slh_set (v := .ptr 1 0) (slh_set (v := .d (.iptr (encX (.mk op v al fi ks)))) (slh_no _ _) (by rfl) rfl) (by rfl) rfl) (by exact (congrArg (fun b => AV.d (boo b)) (by rw [k4]; rfl))) rfl) (hlh_set (hlh_no _ _) rfl rfl)⟩
                    · skip
                      rintro _ _
                      refine CW_cond _ rfl (fun h13 => ?_) (fun h13 => ?_)
                      · skip
                        have c91 : ((op == 6) || (op == 7)) = true := h13
                        refine CW_seq ?_
                        refine CW_region ?_
                        refine OW_run' hE.ok 2 rfl ?_
                        refine OW_end rfl ?_
                        refine CW_ret ?_
                        refine ⟨.inr rfl, rfl, ⟨_, rfl, rfl, ?_⟩, rfl⟩
                        rw [show kR s l (.mk op v al fi ks) = (3, 0) by rw [hfin]; unfold finKR; rw [c62, c71, c82, c91]; rfl]
                        exact AVle.refl _
                      · skip
                        have c91 : ((op == 6) || (op == 7)) = false := h13
                        refine CW_cutE (fun _ : Unit => ⟨J, (sset (sset (sset noSlots 5 (.d (.iptr (encX (.mk op v al fi ks))))) 9 (.ptr 1 0)) 100 (.d (boo (((op == 8) || (op == 9)) && a != 3)))), (hset noHeap 1 (some (.box 140 [.d (int a), .d (int b)])))⟩) (fun _ => True) ?_ ?_
                        · skip
                          refine CW_region ?_
                          refine OW_run' hE.ok 4 rfl ?_
                          refine OW_split' 104 rfl (fun h14 => ?_) (fun h14 => ?_)
                          · skip
                            have k5 : (op == 8) = true := h14
                            refine OW_run' hE.ok 5 rfl ?_
                            refine OW_loc' hE (loc_addrA hE rfl rfl rfl rfl rfl (by omega) (by omega)) rfl rfl rfl ?_
                            refine OW_run' hE.ok 4 rfl ?_
                            refine OW_end rfl ?_
                            exact ⟨(), trivial, LE_sh (slh_set (v := .d (boo (((op == 8) || (op == 9)) && a != 3))) (slh_set (v := .ptr 1 0) (slh_set (v := .d (.iptr (encX (.mk op v al fi ks)))) (slh_no _ _) (by rfl) rfl) (by rfl) rfl) (by exact (congrArg (fun b => AV.d (boo b)) (by rw [k5]; rfl))) rfl) (hlh_set (hlh_no _ _) rfl rfl)⟩
                          · skip
                            have k5 : (op == 8) = false := h14
                            refine OW_run' hE.ok 5 rfl ?_
                            refine OW_split' 109 rfl (fun h15 => ?_) (fun h15 => ?_)
                            · skip
                              have k6 : (op == 9) = true := h15
                              refine OW_loc' hE (loc_addrA hE rfl rfl rfl rfl rfl (by omega) (by omega)) rfl rfl rfl ?_
                              refine OW_run' hE.ok 4 rfl ?_
                              refine OW_end rfl ?_
                              exact ⟨(), trivial, LE_sh (slh_set (v := .d (boo (((op == 8) || (op == 9)) && a != 3))) (slh_set (v := .ptr 1 0) (slh_set (v := .d (.iptr (encX (.mk op v al fi ks)))) (slh_no _ _) (by rfl) rfl) (by rfl) rfl) (by exact (congrArg (fun b => AV.d (boo b)) (by rw [k5, k6]; rfl))) rfl) (hlh_set (hlh_no _ _) rfl rfl)⟩
                            · skip
                              have k6 : (op == 9) = false := h15
                              refine OW_run' hE.ok 5 rfl ?_
                              refine OW_end rfl ?_
                              exact ⟨(), trivial, LE_sh (slh_set (v := .d (boo (((op == 8) || (op == 9)) && a != 3))) (slh_set (v := .ptr 1 0) (slh_set (v := .d (.iptr (encX (.mk op v al fi ks)))) (slh_no _ _) (by rfl) rfl) (by rfl) rfl) (by exact (congrArg (fun b => AV.d (boo b)) (by rw [k5, k6]; rfl))) rfl) (hlh_set (hlh_no _ _) rfl rfl)⟩
                        · skip
                          rintro _ _
                          refine CW_cond _ rfl (fun h16 => ?_) (fun h16 => ?_)
                          · skip
                            have c100 : (((op == 8) || (op == 9)) && a != 3) = true := h16
                            refine CW_seq ?_
                            refine CW_region ?_
                            refine OW_run' hE.ok 2 rfl ?_
                            refine OW_end rfl ?_
                            refine CW_ret ?_
                            refine ⟨.inr rfl, rfl, ⟨_, rfl, rfl, ?_⟩, rfl⟩
                            rw [show kR s l (.mk op v al fi ks) = (3, 0) by rw [hfin]; unfold finKR; rw [c62, c71, c82, c91, c100]; rfl]
                            exact AVle.refl _
                          · skip
                            have c100 : (((op == 8) || (op == 9)) && a != 3) = false := h16
                            refine CW_cutE (fun _ : Unit => ⟨J, (sset (sset (sset noSlots 5 (.d (.iptr (encX (.mk op v al fi ks))))) 9 (.ptr 1 0)) 114 (.d (boo (((op == 10) || (op == 11)) && a == 3)))), (hset noHeap 1 (some (.box 140 [.d (int a), .d (int b)])))⟩) (fun _ => True) ?_ ?_
                            · skip
                              refine CW_region ?_
                              refine OW_run' hE.ok 4 rfl ?_
                              refine OW_split' 118 rfl (fun h17 => ?_) (fun h17 => ?_)
                              · skip
                                have k7 : (op == 10) = true := h17
                                refine OW_run' hE.ok 5 rfl ?_
                                refine OW_loc' hE (loc_addrA hE rfl rfl rfl rfl rfl (by omega) (by omega)) rfl rfl rfl ?_
                                refine OW_run' hE.ok 4 rfl ?_
                                refine OW_end rfl ?_
                                exact ⟨(), trivial, LE_sh (slh_set (v := .d (boo (((op == 10) || (op == 11)) && a == 3))) (slh_set (v := .ptr 1 0) (slh_set (v := .d (.iptr (encX (.mk op v al fi ks)))) (slh_no _ _) (by rfl) rfl) (by rfl) rfl) (by exact (congrArg (fun b => AV.d (boo b)) (by rw [k7]; rfl))) rfl) (hlh_set (hlh_no _ _) rfl rfl)⟩
                              · skip
                                have k7 : (op == 10) = false := h17
                                refine OW_run' hE.ok 5 rfl ?_
                                refine OW_split' 123 rfl (fun h18 => ?_) (fun h18 => ?_)
                                · skip
                                  have k8 : (op == 11) = true := h18
                                  refine OW_loc' hE (loc_addrA hE rfl rfl rfl rfl rfl (by omega) (by omega)) rfl rfl rfl ?_
                                  refine OW_run' hE.ok 4 rfl ?_
                                  refine OW_end rfl ?_
                                  exact ⟨(), trivial, LE_sh (slh_set (v := .d (boo (((op == 10) || (op == 11)) && a == 3))) (slh_set (v := .ptr 1 0) (slh_set (v := .d (.iptr (encX (.mk op v al fi ks)))) (slh_no _ _) (by rfl) rfl) (by rfl) rfl) (by exact (congrArg (fun b => AV.d (boo b)) (by rw [k7, k8]; rfl))) rfl) (hlh_set (hlh_no _ _) rfl rfl)⟩
                                · skip
                                  have k8 : (op == 11) = false := h18
                                  refine OW_run' hE.ok 5 rfl ?_
                                  refine OW_end rfl ?_
                                  exact ⟨(), trivial, LE_sh (slh_set (v := .d (boo (((op == 10) || (op == 11)) && a == 3))) (slh_set (v := .ptr 1 0) (slh_set (v := .d (.iptr (encX (.mk op v al fi ks)))) (slh_no _ _) (by rfl) rfl) (by rfl) rfl) (by exact (congrArg (fun b => AV.d (boo b)) (by rw [k7, k8]; rfl))) rfl) (hlh_set (hlh_no _ _) rfl rfl)⟩
                            · skip
                              rintro _ _
                              refine CW_cond _ rfl (fun h19 => ?_) (fun h19 => ?_)
                              · skip
                                have c114 : (((op == 10) || (op == 11)) && a == 3) = true := h19
                                refine CW_seq ?_
                                refine CW_region ?_
                                refine OW_run' hE.ok 2 rfl ?_
                                refine OW_end rfl ?_
                                refine CW_ret ?_
                                refine ⟨.inr rfl, rfl, ⟨_, rfl, rfl, ?_⟩, rfl⟩
                                rw [show kR s l (.mk op v al fi ks) = (3, 0) by rw [hfin]; unfold finKR; rw [c62, c71, c82, c91, c100, c114]; rfl]
                                exact AVle.refl _
                              · skip
                                have c114 : (((op == 10) || (op == 11)) && a == 3) = false := h19
                                refine CW_skip ?_
                                refine CW_seq ?_
                                refine CW_region ?_
                                refine OW_run' hE.ok 2 rfl ?_
                                refine OW_end rfl ?_
                                refine CW_ret ?_
                                refine ⟨.inr rfl, rfl, ⟨_, rfl, rfl, ?_⟩, rfl⟩
                                rw [show kR s l (.mk op v al fi ks) = (0, 14) by rw [hfin]; unfold finKR; rw [c62, c71, c82, c91, c100, c114]; rfl]
                                exact AVle.refl _

theorem refKindAll (s : List Ty) (l : List El) : ∀ (n : Nat) (x : Exp), SizeOf.sizeOf x < n → arX x = true → Does Try.prog 78 [argS s, .d (.sl 11 144 (l.map encL)), argX x] noHeap (.tup [.d (int (kR s l x).1), .d (int (kR s l x).2)])
  | 0, x, h => by omega
  | n + 1, .mk op v al fi ks, h => fun hw => refKindStep s l op v al fi ks (by have h1 := ar_len hw; have h2 := kidsN_le2 op; omega) fun k hk => refKindAll s l n k (by have := List.sizeOf_lt_of_mem hk; simp at h; omega) (ar_mem hw hk)

theorem refKindOk (s : List Ty) (l : List El) (x : Exp) : Does Try.prog 41 [argS s, .d (.sl 11 144 (l.map encL)), argX x] noHeap (.tup [.d (int (kindR s l x).1), .d (int (kindR s l x).2)]) := by
  refine Does_of T_ok mixed (N := 17) Try.func41 rfl rfl rfl (by rfl) fun F n Z hE hF J => ?_
  have q := fun h => refKindAll s l _ x (Nat.lt_succ_self _) (isX_ar h)
  have q2 := refIsXOk x
  have hn : kindR s l x = bif isX x then kR s l x else (0, 10) := rfl
  obtain ⟨o1, v1, a1, f1, k1, rfl⟩ := Exp.shape x
  refine CW_seq ?_
  refine CW_region ?_
  refine OW_run' hE.ok 4 rfl ?_
  refine OW_end rfl ?_
  refine CW_seq ?_
  refine CW_seq ?_
  refine CW_region ?_
  refine OW_run' hE.ok 1 rfl ?_
  refine OW_call' hE (q2) rfl rfl rfl rfl rfl rfl rfl ?_
  refine OW_run' hE.ok 1 rfl ?_
  refine OW_end rfl ?_
  refine CW_cond _ rfl (fun h1 => ?_) (fun h1 => ?_)
  · skip
    have g1 : isX (.mk o1 v1 a1 f1 k1) = false := by have := h1; simpa using this
    refine CW_seq ?_
    refine CW_region ?_
    refine OW_run' hE.ok 2 rfl ?_
    refine OW_end rfl ?_
    refine CW_ret ?_
    refine ⟨.inr rfl, rfl, ⟨_, rfl, rfl, ?_⟩, rfl⟩
    rw [hn, g1]
    exact AVle.refl _
  · skip
    have g1 : isX (.mk o1 v1 a1 f1 k1) = true := by have := h1; simpa using this
    refine CW_skip ?_
    refine CW_seq ?_
    refine CW_region ?_
    refine OW_run' hE.ok 3 rfl ?_
    refine OW_call' hE (q g1) rfl rfl rfl rfl rfl rfl rfl ?_
    refine OW_run' hE.ok 4 rfl ?_
    refine OW_end rfl ?_
    refine CW_ret ?_
    refine ⟨.inr rfl, rfl, ⟨_, rfl, rfl, ?_⟩, rfl⟩
    rw [hn, g1]
    exact AVle.refl _
end Go.Proofs.Ytojnicnbmgiplaa
namespace Go.Proofs.Ytojnicnbmgiplaa
open Go Go.AL
set_option linter.unusedVariables false
set_option linter.unusedSimpArgs false
set_option maxHeartbeats 4000000
theorem refIsSOk (s : List Ty) : Does Try.prog 10 [argS s] noHeap (.d (boo (isSchema s))) := by
  refine Does_of T_ok mixed (N := 83) Try.func10 rfl rfl rfl (by rfl) fun F n Z hE hF J => ?_
  refine CW_seq ?_
  refine CW_region ?_
  refine OW_run' hE.ok 2 rfl ?_
  refine OW_end rfl ?_
  refine CW_seq ?_
  refine CW_seq ?_
  refine CW_region ?_
  refine OW_run' hE.ok 4 rfl ?_
  refine OW_end rfl ?_
  refine CW_cond _ rfl (fun h1 => ?_) (fun h1 => ?_)
  · skip
    have gl : decide ((s.length : Int) > 5) = true := by have := h1; rw [List.length_map] at this; exact this
    refine CW_seq ?_
    refine CW_region ?_
    refine OW_run' hE.ok 1 rfl ?_
    refine OW_end rfl ?_
    refine CW_ret ?_
    refine ⟨.inr rfl, rfl, ⟨_, rfl, rfl, ?_⟩, rfl⟩
    exact AVle.of (congrArg (fun b => AV.d (boo b)) (by rw [sch_long gl]))
  · skip
    have gl : decide ((s.length : Int) > 5) = false := by have := h1; rw [List.length_map] at this; exact this
    refine CW_skip ?_
    refine CW_seq ?_
    refine CW_seq ?_
    refine CW_region ?_
    refine OW_run' hE.ok 1 rfl ?_
    refine OW_end rfl ?_
    refine CW_block ?_
    refine CW_loop (σ := {i : Nat // i ≤ s.length ∧ (∀ (j : Nat) (a : Ty), j < i → s[j]? = some a → isType a = true) ∧ ∀ (j : Nat) (a b : Ty), j + 1 < i → s[j]? = some a → s[j + 1]? = some b → Op.bytesLess a.name.toList b.name.toList = true}) (fun i => ⟨J, (sset (sset noSlots 1 (.d (.iptr [encS s]))) 3 (.d (int ((i.1 : Nat) : Int)))), noHeap⟩) (fun i => s.length - i.1) ⟨0, Nat.zero_le _, fun j a hj => by omega, fun j a b hj => by omega⟩ (LE_sh (slh_set (slh_set (slh_no _ _) rfl rfl) rfl rfl) (hlh_no _ _)) fun ⟨i, hi, hp, hr⟩ => ?_
    refine CW_seq ?_
    refine CW_seq ?_
    refine CW_region ?_
    refine OW_run' hE.ok 5 rfl ?_
    refine OW_end rfl ?_
    refine CW_cond _ rfl (fun h2 => ?_) (fun h2 => ?_)
    · skip
      have hlt : i < s.length := by have := h2; simp at this; omega
      obtain ⟨t, ht⟩ : ∃ t, s[i]? = some t := ⟨_, List.getElem?_eq_getElem hlt⟩
      refine CW_skip ?_
      refine CW_seq ?_
      refine CW_block ?_
      refine CW_seq ?_
      refine CW_region ?_
      refine OW_run' hE.ok 3 rfl ?_
      refine OW_loc' hE (loc_indexAddr hE rfl rfl rfl rfl rfl (by omega) (x := encT t) (by simp [ht])) rfl rfl rfl ?_
      refine OW_run' hE.ok 1 rfl ?_
      refine OW_alloc' hE 1 rfl rfl rfl rfl rfl rfl rfl ?_
      refine OW_store' hE rfl rfl rfl rfl rfl rfl rfl rfl rfl rfl rfl rfl ?_
      refine OW_know (know_sl (d := 19) rfl) fun hlen => ?_
      rw [List.length_map] at hlen
      refine OW_end rfl ?_
      refine CW_cutE (fun _ : Unit => ⟨J, (sset (sset (sset noSlots 1 (.d (.iptr [encS s]))) 3 (.d (int ((i : Nat) : Int)))) 4 (.ptr 1 0)), (hset noHeap 1 (some (.box 80 ((encT t).map .d))))⟩) (fun _ => isName t.name = true ∧ decide ((t.fields.length : Int) > 5) = false ∧ ∀ (j : Nat) (x : Ty), j + 1 = i → s[j]? = some x → Op.bytesLess x.name.toList t.name.toList = true) ?_ ?_
      · skip
        refine CW_seq ?_
        refine CW_drawn' hE 17 (by decide +kernel) ?_
        refine HW_run hE 2 rfl rfl ?_
        refine HW_call hE (refNameOk _) rfl rfl rfl rfl rfl rfl rfl rfl ?_
        refine HW_run hE 2 rfl rfl ?_
        refine HW_split 27 rfl (fun h3 => ?_) (fun h3 => ?_)
        · skip
          have n1 : isName t.name = false := by have := h3; simpa using this
          refine HW_run hE 12 rfl rfl ?_
          refine HW_end ?_
          refine OW_run' hE.ok 9 rfl ?_
          refine OW_end rfl ?_
          refine CW_true rfl ?_
          refine CW_seq ?_
          refine CW_region ?_
          refine OW_run' hE.ok 1 rfl ?_
          refine OW_end rfl ?_
          refine CW_ret ?_
          refine ⟨.inr rfl, rfl, ⟨_, rfl, rfl, ?_⟩, rfl⟩
          exact AVle.of (congrArg (fun b => AV.d (boo b)) (by rw [sch_badT ht (type_name n1)]))
        · skip
          have n1 : isName t.name = true := by have := h3; simpa using this
          refine HW_run hE 3 rfl rfl ?_
          refine HW_split 30 rfl (fun h4 => ?_) (fun h4 => ?_)
          · skip
            have h0 : 0 < i := by have := h4; simpa using this
            obtain ⟨pv, hpv⟩ : ∃ pv, s[i - 1]? = some pv := ⟨_, List.getElem?_eq_getElem (by omega)⟩
            refine HW_run hE 4 rfl rfl ?_
            refine HW_as 34 (.d (int ((i - 1 : Nat) : Int))) (by show AV.d (.lit (.int .i64 (IntKind.i64.wrap ((i : Int) - 1)))) = _; rw [show ((i : Int) - 1) = ((i - 1 : Nat) : Int) by omega, wrapN (by omega)]; rfl) ?_
            refine HW_loc hE (loc_indexAddr hE rfl rfl rfl rfl rfl (by omega) (x := encT pv) (by simp [hpv])) rfl rfl rfl rfl ?_
            refine HW_run hE 4 rfl rfl ?_
            refine HW_end ?_
            refine OW_run' hE.ok 4 rfl ?_
            refine OW_split' 43 rfl (fun h5 => ?_) (fun h5 => ?_)
            · skip
              have hbad : Op.bytesLess pv.name.toList t.name.toList = false := by have := h5; simpa using this
              refine OW_run' hE.ok 5 rfl ?_
              refine OW_end rfl ?_
              refine CW_true rfl ?_
              refine CW_seq ?_
              refine CW_region ?_
              refine OW_run' hE.ok 1 rfl ?_
              refine OW_end rfl ?_
              refine CW_ret ?_
              refine ⟨.inr rfl, rfl, ⟨_, rfl, rfl, ?_⟩, rfl⟩
              exact AVle.of (congrArg (fun b => AV.d (boo b)) (by rw [sch_badR (i := i - 1) hpv (by rw [show i - 1 + 1 = i by omega]; exact ht) hbad]))
            · skip
              have n2 : ∀ (j : Nat) (x : Ty), j + 1 = i → s[j]? = some x → Op.bytesLess x.name.toList t.name.toList = true := fun j x hj hx => by (obtain rfl : j = i - 1 := by omega); rw [hpv] at hx; cases hx; have := h5; simpa using this
              refine OW_run' hE.ok 5 rfl ?_
              refine OW_end rfl ?_
              refine CW_cond _ rfl (fun h6 => ?_) (fun h6 => ?_)
              · skip
                have n3 : decide ((t.fields.length : Int) > 5) = true := by have := h6; rw [List.length_map] at this; exact this
                refine CW_seq ?_
                refine CW_region ?_
                refine OW_run' hE.ok 1 rfl ?_
                refine OW_end rfl ?_
                refine CW_ret ?_
                refine ⟨.inr rfl, rfl, ⟨_, rfl, rfl, ?_⟩, rfl⟩
                exact AVle.of (congrArg (fun b => AV.d (boo b)) (by rw [sch_badT ht (type_long n3)]))
              · skip
                have n3 : decide ((t.fields.length : Int) > 5) = false := by have := h6; rw [List.length_map] at this; exact this
                refine CW_skip ?_
                exact ⟨(), ⟨n1, n3, n2⟩, LE_sh (slh_set (v := .ptr 1 0) (slh_set (v := .d (int ((i : Nat) : Int))) (slh_set (v := .d (.iptr [encS s])) (slh_no _ _) (by rfl) rfl) (by rfl) rfl) (by rfl) rfl) (hlh_set (hlh_no _ _) rfl rfl)⟩
          · skip
            have h0 : i = 0 := by have := h4; simp at this; omega
            have n2 : ∀ (j : Nat) (x : Ty), j + 1 = i → s[j]? = some x → Op.bytesLess x.name.toList t.name.toList = true := fun j x hj hx => by omega
            refine HW_run hE 9 rfl rfl ?_
            refine HW_end ?_
            refine OW_run' hE.ok 9 rfl ?_
            refine OW_end rfl ?_
            refine CW_cond _ rfl (fun h7 => ?_) (fun h7 => ?_)
            · skip
              have n3 : decide ((t.fields.length : Int) > 5) = true := by have := h7; rw [List.length_map] at this; exact this
              refine CW_seq ?_
              refine CW_region ?_
              refine OW_run' hE.ok 1 rfl ?_
              refine OW_end rfl ?_
              refine CW_ret ?_
              refine ⟨.inr rfl, rfl, ⟨_, rfl, rfl, ?_⟩, rfl⟩
              exact AVle.of (congrArg (fun b => AV.d (boo b)) (by rw [sch_badT ht (type_long n3)]))
            · skip
              have n3 : decide ((t.fields.length : Int) > 5) = false := by have := h7; rw [List.length_map] at this; exact this
              refine CW_skip ?_
              exact ⟨(), ⟨n1, n3, n2⟩, LE_sh (slh_set (v := .ptr 1 0) (slh_set (v := .d (int ((i : Nat) : Int))) (slh_set (v := .d (.iptr [encS s])) (slh_no _ _) (by rfl) rfl) (by rfl) rfl) (by rfl) rfl) (hlh_set (hlh_no _ _) rfl rfl)⟩
      · skip
        rintro _ ⟨n1, n3, n2⟩
        refine CW_seq ?_
        refine CW_region ?_
        refine OW_run' hE.ok 1 rfl ?_
        refine OW_end rfl ?_
        refine CW_block ?_
        refine CW_loop (σ := {q : Nat // q ≤ t.fields.length ∧ ∀ (j : Nat) (f : Fld), j < q → t.fields[j]? = some f → okF t j f = true}) (fun q => ⟨J, (sset (sset (sset (sset noSlots 1 (.d (.iptr [encS s]))) 3 (.d (int ((i : Nat) : Int)))) 4 (.ptr 1 0)) 5 (.d (int ((q.1 : Nat) : Int)))), (hset noHeap 1 (some (.box 80 ((encT t).map .d))))⟩) (fun q => t.fields.length - q.1) ⟨0, Nat.zero_le _, fun j t hj => by omega⟩ (LE_sh (slh_set (slh_set (slh_set (slh_set (slh_no _ _) rfl rfl) rfl rfl) rfl rfl) rfl rfl) (hlh_set (hlh_no _ _) rfl rfl)) fun ⟨q, hq, hpf⟩ => ?_
        refine CW_seq ?_
        refine CW_seq ?_
        refine CW_region ?_
        refine OW_run' hE.ok 5 rfl ?_
        refine OW_end rfl ?_
        refine CW_cond _ rfl (fun h8 => ?_) (fun h8 => ?_)
        · skip
          refine CW_know (know_sl (d := 51) rfl) fun hlen => ?_
          simp only [List.length_map] at hlen
          have hltq : q < t.fields.length := by have := h8; simp at this; omega
          obtain ⟨f, hf⟩ : ∃ f, t.fields[q]? = some f := ⟨_, List.getElem?_eq_getElem hltq⟩
          refine CW_skip ?_
          refine CW_seq ?_
          refine CW_block ?_
          refine CW_seq ?_
          refine CW_region ?_
          refine OW_run' hE.ok 3 rfl ?_
          refine OW_loc' hE (loc_indexAddr hE rfl rfl rfl rfl rfl (by omega) (x := encF f) (by simp [hf])) rfl rfl rfl ?_
          refine OW_run' hE.ok 1 rfl ?_
          refine OW_alloc' hE 2 rfl rfl rfl rfl rfl rfl rfl ?_
          refine OW_store' hE rfl rfl rfl rfl rfl rfl rfl rfl rfl rfl rfl rfl ?_
          refine OW_end rfl ?_
          refine CW_seq ?_
          refine CW_region ?_
          refine OW_run' hE.ok 2 rfl ?_
          refine OW_call' hE (refNameOk _) rfl rfl rfl rfl rfl rfl rfl ?_
          refine OW_run' hE.ok 2 rfl ?_
          refine OW_split' 65 rfl (fun h9 => ?_) (fun h9 => ?_)
          · skip
            have f1 : isName f.name = false := by have := h9; simpa using this
            refine OW_run' hE.ok 17 rfl ?_
            refine OW_end rfl ?_
            refine CW_true rfl ?_
            refine CW_seq ?_
            refine CW_region ?_
            refine OW_run' hE.ok 1 rfl ?_
            refine OW_end rfl ?_
            refine CW_ret ?_
            refine ⟨.inr rfl, rfl, ⟨_, rfl, rfl, ?_⟩, rfl⟩
            exact AVle.of (congrArg (fun b => AV.d (boo b)) (by rw [sch_badT ht (okFs_bad hf (okF_no (.inl f1)))]))
          · skip
            have f1 : isName f.name = true := by have := h9; simpa using this
            refine OW_run' hE.ok 5 rfl ?_
            refine OW_split' 70 rfl (fun h10 => ?_) (fun h10 => ?_)
            · skip
              have f2 : decide (f.kind < 1) = true := h10
              refine OW_run' hE.ok 12 rfl ?_
              refine OW_end rfl ?_
              refine CW_true rfl ?_
              refine CW_seq ?_
              refine CW_region ?_
              refine OW_run' hE.ok 1 rfl ?_
              refine OW_end rfl ?_
              refine CW_ret ?_
              refine ⟨.inr rfl, rfl, ⟨_, rfl, rfl, ?_⟩, rfl⟩
              exact AVle.of (congrArg (fun b => AV.d (boo b)) (by rw [sch_badT ht (okFs_bad hf (okF_no (.inr (.inl f2))))]))
            · skip
              have f2 : decide (f.kind < 1) = false := h10
              refine OW_run' hE.ok 5 rfl ?_
              refine OW_split' 75 rfl (fun h11 => ?_) (fun h11 => ?_)
              · skip
                have f3 : decide (f.kind > 3) = true := h11
                refine OW_run' hE.ok 7 rfl ?_
                refine OW_end rfl ?_
                refine CW_true rfl ?_
                refine CW_seq ?_
                refine CW_region ?_
                refine OW_run' hE.ok 1 rfl ?_
                refine OW_end rfl ?_
                refine CW_ret ?_
                refine ⟨.inr rfl, rfl, ⟨_, rfl, rfl, ?_⟩, rfl⟩
                exact AVle.of (congrArg (fun b => AV.d (boo b)) (by rw [sch_badT ht (okFs_bad hf (okF_no (.inr (.inr (.inl f3)))))]))
              · skip
                have f3 : decide (f.kind > 3) = false := h11
                refine OW_run' hE.ok 3 rfl ?_
                refine OW_call' hE (refFieldOk t f.name) rfl rfl rfl rfl rfl rfl rfl ?_
                refine OW_run' hE.ok 3 rfl ?_
                refine OW_end rfl ?_
                refine CW_cond _ rfl (fun h12 => ?_) (fun h12 => ?_)
                · skip
                  have f4 : (fieldAt t f.name != (q : Int)) = true := h12
                  refine CW_seq ?_
                  refine CW_region ?_
                  refine OW_run' hE.ok 1 rfl ?_
                  refine OW_end rfl ?_
                  refine CW_ret ?_
                  refine ⟨.inr rfl, rfl, ⟨_, rfl, rfl, ?_⟩, rfl⟩
                  exact AVle.of (congrArg (fun b => AV.d (boo b)) (by rw [sch_badT ht (okFs_bad hf (okF_no (.inr (.inr (.inr f4)))))]))
                · skip
                  have f4 : (fieldAt t f.name != (q : Int)) = false := h12
                  refine CW_skip ?_
                  refine CW_region ?_
                  refine OW_run' hE.ok 3 rfl ?_
                  refine OW_end rfl ?_
                  refine ⟨⟨q + 1, by omega, fun j x hj hx => ?_⟩, LE_sh (slh_set (v := .d (int ((q + 1 : Nat) : Int))) (slh_set (v := .ptr 1 0) (slh_set (v := .d (int ((i : Nat) : Int))) (slh_set (v := .d (.iptr [encS s])) (slh_no _ _) (by rfl) rfl) (by rfl) rfl) (by rfl) rfl) (by show AV.d (.lit (.int .i64 (IntKind.i64.wrap ((q : Int) + 1)))) = _; rw [wrap_succ (by omega)]; rfl) rfl) (hlh_set (hlh_no _ _) rfl rfl), by show t.fields.length - (q + 1) < t.fields.length - q; omega⟩
                  by_cases hji : j = q
                  · subst hji; rw [hf] at hx; cases hx; exact okF_yes f1 f2 f3 f4
                  · exact hpf j x (by omega) hx
        · skip
          have hgq : t.fields.length ≤ q := by have := h8; simp at this; omega
          refine CW_exit ?_
          show CW _ _ _ _
          refine CW_region ?_
          refine OW_run' hE.ok 3 rfl ?_
          refine OW_end rfl ?_
          refine ⟨⟨i + 1, by omega, fun j x hj hx => ?_, fun j x y hj hx hy => ?_⟩, LE_sh (slh_set (v := .d (int ((i + 1 : Nat) : Int))) (slh_set (v := .d (.iptr [encS s])) (slh_no _ _) (by rfl) rfl) (by show AV.d (.lit (.int .i64 (IntKind.i64.wrap ((i : Int) + 1)))) = _; rw [wrap_succ (by omega)]; rfl) rfl) (hlh_no _ _), by show s.length - (i + 1) < s.length - i; omega⟩
          · by_cases hji : j = i
            · subst hji; rw [ht] at hx; cases hx; exact type_ok n1 n3 (okFs_all fun q f hq hf => hpf q f (by omega) hf)
            · exact hp j x (by omega) hx
          · by_cases hji : j + 1 = i
            · subst hji; rw [ht] at hy; cases hy; exact n2 j x rfl hx
            · exact hr j x y (by omega) hx hy
    · skip
      have hge : s.length ≤ i := by have := h2; simp at this; omega
      refine CW_exit ?_
      show CW _ _ _ _
      refine CW_seq ?_
      refine CW_region ?_
      refine OW_run' hE.ok 1 rfl ?_
      refine OW_end rfl ?_
      refine CW_ret ?_
      refine ⟨.inr rfl, rfl, ⟨_, rfl, rfl, ?_⟩, rfl⟩
      exact AVle.of (congrArg (fun b => AV.d (boo b)) (by rw [sch_ok gl (fun j a hj ha => hp j a (by omega) ha) (fun j a b hj => hr j a b (by omega))]))

theorem refIsEOk (s : List Ty) (e : Ev) : Does Try.prog 12 [argS s, argE e] noHeap (.d (int (evtR s e))) := by
  refine Does_of T_ok mixed (N := 69) Try.func12 rfl rfl rfl (by rfl) fun F n Z hE hF J => ?_
  refine CW_seq ?_
  refine CW_region ?_
  refine OW_run' hE.ok 3 rfl ?_
  refine OW_end rfl ?_
  refine CW_seq ?_
  refine CW_region ?_
  refine OW_run' hE.ok 3 rfl ?_
  refine OW_call' hE (refFindOk _ _) rfl rfl rfl rfl rfl rfl rfl ?_
  refine OW_run' hE.ok 3 rfl ?_
  refine OW_alloc' hE 1 rfl rfl rfl rfl rfl rfl rfl ?_
  refine OW_store' hE rfl rfl rfl rfl rfl rfl rfl rfl rfl rfl rfl rfl ?_
  refine OW_run' hE.ok 1 rfl ?_
  refine OW_end rfl ?_
  refine CW_seq ?_
  refine CW_seq ?_
  refine CW_region ?_
  refine OW_run' hE.ok 2 rfl ?_
  refine OW_end rfl ?_
  refine CW_cond _ rfl (fun h1 => ?_) (fun h1 => ?_)
  · skip
    have g0 : (findT s e.ty).2 = false := by have := h1; simpa using this
    refine CW_seq ?_
    refine CW_region ?_
    refine OW_run' hE.ok 1 rfl ?_
    refine OW_end rfl ?_
    refine CW_ret ?_
    refine ⟨.inr rfl, rfl, ⟨_, rfl, rfl, ?_⟩, rfl⟩
    exact AVle.of (congrArg (fun b => AV.d (int b)) (by rw [evt_none g0]))
  · skip
    have g0 : (findT s e.ty).2 = true := by have := h1; simpa using this
    refine CW_skip ?_
    refine CW_seq ?_
    refine CW_seq ?_
    refine CW_region ?_
    refine OW_run' hE.ok 4 rfl ?_
    refine OW_split' 21 rfl (fun h2 => ?_) (fun h2 => ?_)
    · skip
      have g1 : decide (e.ts < 0) = true := h2
      refine OW_run' hE.ok 13 rfl ?_
      refine OW_end rfl ?_
      refine CW_true rfl ?_
      refine CW_seq ?_
      refine CW_region ?_
      refine OW_run' hE.ok 1 rfl ?_
      refine OW_end rfl ?_
      refine CW_ret ?_
      refine ⟨.inr rfl, rfl, ⟨_, rfl, rfl, ?_⟩, rfl⟩
      exact AVle.of (congrArg (fun b => AV.d (int b)) (by rw [evt_form g0 (by rw [g1]; rfl)]))
    · skip
      have g1 : decide (e.ts < 0) = false := h2
      refine OW_run' hE.ok 5 rfl ?_
      refine OW_split' 26 rfl (fun h3 => ?_) (fun h3 => ?_)
      · skip
        have g2 : decide (e.ts > 1073741824) = true := h3
        refine OW_run' hE.ok 8 rfl ?_
        refine OW_end rfl ?_
        refine CW_true rfl ?_
        refine CW_seq ?_
        refine CW_region ?_
        refine OW_run' hE.ok 1 rfl ?_
        refine OW_end rfl ?_
        refine CW_ret ?_
        refine ⟨.inr rfl, rfl, ⟨_, rfl, rfl, ?_⟩, rfl⟩
        exact AVle.of (congrArg (fun b => AV.d (int b)) (by rw [evt_form g0 (by rw [g1, g2]; rfl)]))
      · skip
        have g2 : decide (e.ts > 1073741824) = false := h3
        refine OW_run' hE.ok 8 rfl ?_
        refine OW_end rfl ?_
        refine CW_cond _ rfl (fun h4 => ?_) (fun h4 => ?_)
        · skip
          have hf : (decide (e.ts < 0) || (decide (e.ts > 1073741824) || ((e.vals.length : Int) != ((findT s e.ty).1.fields.length : Int)))) = true := by rw [g1, g2, show ((e.vals.length : Int) != ((findT s e.ty).1.fields.length : Int)) = true by have := h4; rw [List.length_map, List.length_map] at this; exact this]; rfl
          refine CW_seq ?_
          refine CW_region ?_
          refine OW_run' hE.ok 1 rfl ?_
          refine OW_end rfl ?_
          refine CW_ret ?_
          refine ⟨.inr rfl, rfl, ⟨_, rfl, rfl, ?_⟩, rfl⟩
          exact AVle.of (congrArg (fun b => AV.d (int b)) (by rw [evt_form g0 hf]))
        · skip
          have g3 : ((e.vals.length : Int) != ((findT s e.ty).1.fields.length : Int)) = false := by have := h4; rw [List.length_map, List.length_map] at this; exact this
          have hf : (decide (e.ts < 0) || (decide (e.ts > 1073741824) || ((e.vals.length : Int) != ((findT s e.ty).1.fields.length : Int)))) = false := by rw [g1, g2, g3]; rfl
          have hvl : e.vals.length = (findT s e.ty).1.fields.length := by have := g3; simp at this; omega
          refine CW_skip ?_
          refine CW_seq ?_
          refine CW_seq ?_
          refine CW_region ?_
          refine OW_run' hE.ok 1 rfl ?_
          refine OW_end rfl ?_
          refine CW_block ?_
          refine CW_loop (σ := {i : Nat // i ≤ e.vals.length ∧ ∀ (j : Nat) (a : Vl), j < i → e.vals[j]? = some a → isVal a = true}) (fun i => ⟨J, (sset (sset (sset noSlots 3 (.d (.iptr (encE e)))) 5 (.ptr 1 0)) 7 (.d (int ((i.1 : Nat) : Int)))), (hset noHeap 1 (some (.box 80 ((encT (findT s e.ty).1).map .d))))⟩) (fun i => e.vals.length - i.1) ⟨0, Nat.zero_le _, fun j a hj => by omega⟩ (LE_sh (slh_set (slh_set (slh_set (slh_no _ _) rfl rfl) rfl rfl) rfl rfl) (hlh_set (hlh_no _ _) rfl rfl)) fun ⟨i, hi, hp⟩ => ?_
          refine CW_seq ?_
          refine CW_seq ?_
          refine CW_region ?_
          refine OW_run' hE.ok 5 rfl ?_
          refine OW_end rfl ?_
          refine CW_cond _ rfl (fun h5 => ?_) (fun h5 => ?_)
          · skip
            refine CW_know (know_sl (d := 37) rfl) fun hlen => ?_
            simp only [List.length_map] at hlen
            have hlt : i < e.vals.length := by have := h5; simp at this; omega
            obtain ⟨v, hv⟩ : ∃ v, e.vals[i]? = some v := ⟨_, List.getElem?_eq_getElem hlt⟩
            refine CW_skip ?_
            refine CW_seq ?_
            refine CW_block ?_
            refine CW_seq ?_
            refine CW_region ?_
            refine OW_run' hE.ok 3 rfl ?_
            refine OW_loc' hE (loc_indexAddr hE rfl rfl rfl rfl rfl (by omega) (x := encV v) (by simp [hv])) rfl rfl rfl ?_
            refine OW_run' hE.ok 1 rfl ?_
            refine OW_call' hE (refIsValOk v) rfl rfl rfl rfl rfl rfl rfl ?_
            refine OW_run' hE.ok 1 rfl ?_
            refine OW_end rfl ?_
            refine CW_cond _ rfl (fun h6 => ?_) (fun h6 => ?_)
            · skip
              have gv : isVal v = false := by have := h6; simpa using this
              refine CW_seq ?_
              refine CW_region ?_
              refine OW_run' hE.ok 1 rfl ?_
              refine OW_end rfl ?_
              refine CW_ret ?_
              refine ⟨.inr rfl, rfl, ⟨_, rfl, rfl, ?_⟩, rfl⟩
              exact AVle.of (congrArg (fun b => AV.d (int b)) (by rw [evt_val g0 hf hv gv]))
            · skip
              have gv : isVal v = true := by have := h6; simpa using this
              refine CW_skip ?_
              refine CW_region ?_
              refine OW_run' hE.ok 3 rfl ?_
              refine OW_end rfl ?_
              refine ⟨⟨i + 1, by omega, fun j x hj hx => ?_⟩, LE_sh (slh_set (v := .d (int ((i + 1 : Nat) : Int))) (slh_set (v := .ptr 1 0) (slh_set (v := .d (.iptr (encE e))) (slh_no _ _) (by rfl) rfl) (by rfl) rfl) (by show AV.d (.lit (.int .i64 (IntKind.i64.wrap ((i : Int) + 1)))) = _; rw [wrap_succ (by omega)]; rfl) rfl) (hlh_set (hlh_no _ _) rfl rfl), by show e.vals.length - (i + 1) < e.vals.length - i; omega⟩
              by_cases hji : j = i
              · subst hji; rw [hv] at hx; cases hx; exact gv
              · exact hp j x (by omega) hx
          · skip
            have hge : e.vals.length ≤ i := by have := h5; simp at this; omega
            have hall : e.vals.all isVal = true := all_of fun j a hj ha => hp j a (by omega) ha
            refine CW_exit ?_
            show CW _ _ _ _
            refine CW_seq ?_
            refine CW_seq ?_
            refine CW_region ?_
            refine OW_run' hE.ok 1 rfl ?_
            refine OW_end rfl ?_
            refine CW_block ?_
            refine CW_loop (σ := {i : Nat // i ≤ e.vals.length ∧ ∀ (j : Nat) (a : Vl) (f : Fld), j < i → e.vals[j]? = some a → (findT s e.ty).1.fields[j]? = some f → (a.k != f.kind) = false}) (fun i => ⟨J, (sset (sset (sset noSlots 3 (.d (.iptr (encE e)))) 5 (.ptr 1 0)) 8 (.d (int ((i.1 : Nat) : Int)))), (hset noHeap 1 (some (.box 80 ((encT (findT s e.ty).1).map .d))))⟩) (fun i => e.vals.length - i.1) ⟨0, Nat.zero_le _, fun j a f hj => by omega⟩ (LE_sh (slh_set (slh_set (slh_set (slh_no _ _) rfl rfl) rfl rfl) rfl rfl) (hlh_set (hlh_no _ _) rfl rfl)) fun ⟨i, hi, hp⟩ => ?_
            refine CW_seq ?_
            refine CW_seq ?_
            refine CW_region ?_
            refine OW_run' hE.ok 5 rfl ?_
            refine OW_end rfl ?_
            refine CW_cond _ rfl (fun h7 => ?_) (fun h7 => ?_)
            · skip
              refine CW_know (know_sl (d := 51) rfl) fun hlen => ?_
              simp only [List.length_map] at hlen
              have hlt : i < e.vals.length := by have := h7; simp at this; omega
              obtain ⟨v, hv⟩ : ∃ v, e.vals[i]? = some v := ⟨_, List.getElem?_eq_getElem hlt⟩
              obtain ⟨f, hfl⟩ : ∃ f, (findT s e.ty).1.fields[i]? = some f := ⟨_, List.getElem?_eq_getElem (by omega)⟩
              refine CW_skip ?_
              refine CW_seq ?_
              refine CW_block ?_
              refine CW_seq ?_
              refine CW_drawn' hE 12 (by decide +kernel) ?_
              refine HW_run hE 3 rfl rfl ?_
              refine HW_loc hE (loc_indexAddr hE rfl rfl rfl rfl rfl (by omega) (x := encV v) (by simp [hv])) rfl rfl rfl rfl ?_
              refine HW_run hE 5 rfl rfl ?_
              refine HW_loc hE (loc_indexAddr hE rfl rfl rfl rfl rfl (by omega) (x := encF f) (by simp [hfl])) rfl rfl rfl rfl ?_
              refine HW_run hE 2 rfl rfl ?_
              refine HW_end ?_
              refine OW_run' hE.ok 1 rfl ?_
              refine OW_end rfl ?_
              refine CW_cond _ rfl (fun h8 => ?_) (fun h8 => ?_)
              · skip
                have gk : (v.k != f.kind) = true := h8
                refine CW_seq ?_
                refine CW_region ?_
                refine OW_run' hE.ok 1 rfl ?_
                refine OW_end rfl ?_
                refine CW_ret ?_
                refine ⟨.inr rfl, rfl, ⟨_, rfl, rfl, ?_⟩, rfl⟩
                exact AVle.of (congrArg (fun b => AV.d (int b)) (by rw [evt_kind g0 hf hall (kindsAs_no hv hfl gk)]))
              · skip
                have gk : (v.k != f.kind) = false := h8
                refine CW_skip ?_
                refine CW_region ?_
                refine OW_run' hE.ok 3 rfl ?_
                refine OW_end rfl ?_
                refine ⟨⟨i + 1, by omega, fun j x f hj hx hf => ?_⟩, LE_sh (slh_set (v := .d (int ((i + 1 : Nat) : Int))) (slh_set (v := .ptr 1 0) (slh_set (v := .d (.iptr (encE e))) (slh_no _ _) (by rfl) rfl) (by rfl) rfl) (by show AV.d (.lit (.int .i64 (IntKind.i64.wrap ((i : Int) + 1)))) = _; rw [wrap_succ (by omega)]; rfl) rfl) (hlh_set (hlh_no _ _) rfl rfl), by show e.vals.length - (i + 1) < e.vals.length - i; omega⟩
                by_cases hji : j = i
                · subst hji; rw [hv] at hx; cases hx; rw [hfl] at hf; cases hf; exact gk
                · exact hp j x f (by omega) hx hf
            · skip
              have hge : e.vals.length ≤ i := by have := h7; simp at this; omega
              have hks : kindsAs e.vals (findT s e.ty).1.fields = true := kindsAs_yes hvl fun j v f hv hf => hp j v f (by have := (List.getElem?_eq_some_iff.1 hv).1; omega) hv hf
              refine CW_exit ?_
              show CW _ _ _ _
              refine CW_seq ?_
              refine CW_region ?_
              refine OW_run' hE.ok 1 rfl ?_
              refine OW_end rfl ?_
              refine CW_ret ?_
              refine ⟨.inr rfl, rfl, ⟨_, rfl, rfl, ?_⟩, rfl⟩
              exact AVle.of (congrArg (fun b => AV.d (int b)) (by rw [evt_yes g0 hf hall hks]))
end Go.Proofs.Ytojnicnbmgiplaa
