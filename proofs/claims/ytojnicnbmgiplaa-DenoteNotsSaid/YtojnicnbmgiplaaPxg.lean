/- Parts of an abstract logic over the kit's walks, and walks in it: P4q6, P4q7, P4q8. -/
import Derived.Test.YtojnicnbmgiplaaPxf
import Derived.Test.YtojnicnbmgiplaaMe
namespace Go.Proofs.Ytojnicnbmgiplaa
open Go Go.AL
set_option linter.unusedVariables false
set_option linter.unusedSimpArgs false
set_option maxHeartbeats 4000000
theorem refFindOk (s : List Ty) (nm : ByteArray) : Does Try.prog 40 [argS s, .d (str nm)] noHeap (.tup [argT (findT s nm).1, .d (boo (findT s nm).2)]) := by
  refine Does_of T_ok mixed (N := 28) Try.func40 rfl rfl rfl (by rfl) fun F n Z hE hF J => ?_
  refine CW_seq ?_
  refine CW_region ?_
  refine OW_run' hE.ok 1 rfl ?_
  refine OW_alloc' hE 1 rfl rfl rfl rfl rfl rfl rfl ?_
  refine OW_run' hE.ok 1 rfl ?_
  refine OW_end rfl ?_
  refine CW_seq ?_
  refine CW_seq ?_
  refine CW_region ?_
  refine OW_run' hE.ok 1 rfl ?_
  refine OW_end rfl ?_
  refine CW_block ?_
  refine CW_loop (σ := {i : Nat // i ≤ s.length ∧ ∀ (j : Nat) (a : Ty), j < i → s[j]? = some a → same a.name nm = false}) (fun i => ⟨J, (sset (sset (sset (sset noSlots 1 (.d (str nm))) 2 (.d (.iptr [encS s]))) 4 (.ptr 1 0)) 6 (.d (int ((i.1 : Nat) : Int)))), (hset noHeap 1 (some (.box 80 [.d (str nul), .d (.lit (.slice none 0 0))])))⟩) (fun i => s.length - i.1) ⟨0, Nat.zero_le _, fun j a hj => by omega⟩ (LE_sh (slh_set (slh_set (slh_set (slh_set (slh_no _ _) rfl rfl) rfl rfl) rfl rfl) rfl rfl) (hlh_set (hlh_no _ _) rfl rfl)) fun ⟨i, hi, hp⟩ => ?_
  refine CW_seq ?_
  refine CW_seq ?_
  refine CW_region ?_
  refine OW_run' hE.ok 5 rfl ?_
  refine OW_end rfl ?_
  refine CW_cond _ rfl (fun h1 => ?_) (fun h1 => ?_)
  · skip
    refine CW_know (know_sl (d := 9) rfl) fun hlen => ?_
    rw [List.length_map] at hlen
    have hlt : i < s.length := by have := h1; simp at this; omega
    obtain ⟨a, ha⟩ : ∃ a, s[i]? = some a := ⟨_, List.getElem?_eq_getElem hlt⟩
    refine CW_skip ?_
    refine CW_seq ?_
    refine CW_block ?_
    refine CW_seq ?_
    refine CW_region ?_
    refine OW_run' hE.ok 3 rfl ?_
    refine OW_loc' hE (loc_indexAddr hE rfl rfl rfl rfl rfl (by omega) (x := encT a) (by simp [ha])) rfl rfl rfl ?_
    refine OW_run' hE.ok 4 rfl ?_
    refine OW_end rfl ?_
    refine CW_cond _ rfl (fun h2 => ?_) (fun h2 => ?_)
    · skip
      have hyes : same a.name nm = true := h2
      refine CW_seq ?_
      refine CW_region ?_
      refine OW_run' hE.ok 3 rfl ?_
      refine OW_loc' hE (loc_indexAddr hE rfl rfl rfl rfl rfl (by omega) (x := encT a) (by simp [ha])) rfl rfl rfl ?_
      refine OW_run' hE.ok 1 rfl ?_
      refine OW_store' hE rfl rfl rfl rfl rfl rfl rfl rfl rfl rfl rfl rfl ?_
      refine OW_run' hE.ok 1 rfl ?_
      refine OW_end rfl ?_
      refine CW_ret ?_
      refine ⟨.inr rfl, rfl, ⟨_, rfl, rfl, ?_⟩, rfl⟩
      rw [findT_at ha hyes hp]
      exact AVle.refl _
    · skip
      have hno : same a.name nm = false := h2
      refine CW_skip ?_
      refine CW_region ?_
      refine OW_run' hE.ok 3 rfl ?_
      refine OW_end rfl ?_
      refine ⟨⟨i + 1, by omega, fun j x hj hx => ?_⟩, LE_sh (slh_set (v := .d (int ((i + 1 : Nat) : Int))) (slh_set (v := .ptr 1 0) (slh_set (v := .d (.iptr [encS s])) (slh_set (v := .d (str nm)) (slh_no _ _) (by rfl) rfl) (by rfl) rfl) (by rfl) rfl) (by show AV.d (.lit (.int .i64 (IntKind.i64.wrap ((i : Int) + 1)))) = _; rw [wrap_succ (by omega)]; rfl) rfl) (hlh_set (hlh_no _ _) rfl rfl), by show s.length - (i + 1) < s.length - i; omega⟩
      by_cases hji : j = i
      · subst hji; rw [ha] at hx; cases hx; exact hno
      · exact hp j x (by omega) hx
  · skip
    have hge : s.length ≤ i := by have := h1; simp at this; omega
    refine CW_exit ?_
    show CW _ _ _ _
    refine CW_seq ?_
    refine CW_region ?_
    refine OW_build' hE rfl rfl rfl rfl rfl ?_
    refine OW_store' hE rfl rfl rfl rfl rfl rfl rfl rfl rfl rfl rfl rfl ?_
    refine OW_run' hE.ok 1 rfl ?_
    refine OW_end rfl ?_
    refine CW_ret ?_
    refine ⟨.inr rfl, rfl, ⟨_, rfl, rfl, ?_⟩, rfl⟩
    rw [findT_no (fun j b hj hb => hp j b (by omega) hb)]
    exact AVle.tup (.cons (.agg (.cons (.refl _) (.cons (.nilSl 2 24) .nil))) (.cons (.refl _) .nil))

end Go.Proofs.Ytojnicnbmgiplaa
namespace Go.Proofs.Ytojnicnbmgiplaa
open Go Go.AL
set_option linter.unusedVariables false
set_option linter.unusedSimpArgs false
set_option maxHeartbeats 4000000
theorem refIsEOk (s : List Ty) (e : Ev) : Does Try.prog 12 [argS s, argE e] noHeap (.d (int (evtR s e))) := by
  refine Does_of T_ok mixed (N := 69) Try.func12 rfl rfl rfl (by rfl) fun F n Z hE hF J => ?_
  refine CW_seq ?_
  refine CW_region ?_
  refine OW_run' hE.ok 3 rfl ?_
  refine OW_end rfl ?_
  refine CW_seq ?_
  refine CW_region ?_
  refine OW_run' hE.ok 3 rfl ?_
  refine OW_call' hE (refFindOk _ _) rfl rfl rfl rfl rfl rfl rfl ?_
  refine OW_run' hE.ok 3 rfl ?_
  refine OW_alloc' hE 1 rfl rfl rfl rfl rfl rfl rfl ?_
  refine OW_store' hE rfl rfl rfl rfl rfl rfl rfl rfl rfl rfl rfl rfl ?_
  refine OW_run' hE.ok 1 rfl ?_
  refine OW_end rfl ?_
  refine CW_seq ?_
  refine CW_seq ?_
  refine CW_region ?_
  refine OW_run' hE.ok 2 rfl ?_
  refine OW_end rfl ?_
  refine CW_cond _ rfl (fun h1 => ?_) (fun h1 => ?_)
  · skip
    have g0 : (findT s e.ty).2 = false := by have := h1; simpa using this
    refine CW_seq ?_
    refine CW_region ?_
    refine OW_run' hE.ok 1 rfl ?_
    refine OW_end rfl ?_
    refine CW_ret ?_
    refine ⟨.inr rfl, rfl, ⟨_, rfl, rfl, ?_⟩, rfl⟩
    exact AVle.of (congrArg (fun b => AV.d (int b)) (by rw [evt_none g0]))
  · skip
    have g0 : (findT s e.ty).2 = true := by have := h1; simpa using this
    refine CW_skip ?_
    refine CW_seq ?_
    refine CW_seq ?_
    refine CW_region ?_
    refine OW_run' hE.ok 4 rfl ?_
    refine OW_split' 21 rfl (fun h2 => ?_) (fun h2 => ?_)
    · skip
      have g1 : decide (e.ts < 0) = true := h2
      refine OW_run' hE.ok 13 rfl ?_
      refine OW_end rfl ?_
      refine CW_true rfl ?_
      refine CW_seq ?_
      refine CW_region ?_
      refine OW_run' hE.ok 1 rfl ?_
      refine OW_end rfl ?_
      refine CW_ret ?_
      refine ⟨.inr rfl, rfl, ⟨_, rfl, rfl, ?_⟩, rfl⟩
      exact AVle.of (congrArg (fun b => AV.d (int b)) (by rw [evt_form g0 (by rw [g1]; rfl)]))
    · skip
      have g1 : decide (e.ts < 0) = false := h2
      refine OW_run' hE.ok 5 rfl ?_
      refine OW_split' 26 rfl (fun h3 => ?_) (fun h3 => ?_)
      · skip
        have g2 : decide (e.ts > 1073741824) = true := h3
        refine OW_run' hE.ok 8 rfl ?_
        refine OW_end rfl ?_
        refine CW_true rfl ?_
        refine CW_seq ?_
        refine CW_region ?_
        refine OW_run' hE.ok 1 rfl ?_
        refine OW_end rfl ?_
        refine CW_ret ?_
        refine ⟨.inr rfl, rfl, ⟨_, rfl, rfl, ?_⟩, rfl⟩
        exact AVle.of (congrArg (fun b => AV.d (int b)) (by rw [evt_form g0 (by rw [g1, g2]; rfl)]))
      · skip
        have g2 : decide (e.ts > 1073741824) = false := h3
        refine OW_run' hE.ok 8 rfl ?_
        refine OW_end rfl ?_
        refine CW_cond _ rfl (fun h4 => ?_) (fun h4 => ?_)
        · skip
          have hf : (decide (e.ts < 0) || (decide (e.ts > 1073741824) || ((e.vals.length : Int) != ((findT s e.ty).1.fields.length : Int)))) = true := by rw [g1, g2, show ((e.vals.length : Int) != ((findT s e.ty).1.fields.length : Int)) = true by have := h4; rw [List.length_map, List.length_map] at this; exact this]; rfl
          refine CW_seq ?_
          refine CW_region ?_
          refine OW_run' hE.ok 1 rfl ?_
          refine OW_end rfl ?_
          refine CW_ret ?_
          refine ⟨.inr rfl, rfl, ⟨_, rfl, rfl, ?_⟩, rfl⟩
          exact AVle.of (congrArg (fun b => AV.d (int b)) (by rw [evt_form g0 hf]))
        · skip
          have g3 : ((e.vals.length : Int) != ((findT s e.ty).1.fields.length : Int)) = false := by have := h4; rw [List.length_map, List.length_map] at this; exact this
          have hf : (decide (e.ts < 0) || (decide (e.ts > 1073741824) || ((e.vals.length : Int) != ((findT s e.ty).1.fields.length : Int)))) = false := by rw [g1, g2, g3]; rfl
          have hvl : e.vals.length = (findT s e.ty).1.fields.length := by have := g3; simp at this; omega
          refine CW_skip ?_
          refine CW_seq ?_
          refine CW_seq ?_
          refine CW_region ?_
          refine OW_run' hE.ok 1 rfl ?_
          refine OW_end rfl ?_
          refine CW_block ?_
          refine CW_loop (σ := {i : Nat // i ≤ e.vals.length ∧ ∀ (j : Nat) (a : Vl), j < i → e.vals[j]? = some a → isVal a = true}) (fun i => ⟨J, (sset (sset (sset noSlots 3 (.d (.iptr (encE e)))) 5 (.ptr 1 0)) 7 (.d (int ((i.1 : Nat) : Int)))), (hset noHeap 1 (some (.box 80 ((encT (findT s e.ty).1).map .d))))⟩) (fun i => e.vals.length - i.1) ⟨0, Nat.zero_le _, fun j a hj => by omega⟩ (LE_sh (slh_set (slh_set (slh_set (slh_no _ _) rfl rfl) rfl rfl) rfl rfl) (hlh_set (hlh_no _ _) rfl rfl)) fun ⟨i, hi, hp⟩ => ?_
          refine CW_seq ?_
          refine CW_seq ?_
          refine CW_region ?_
          refine OW_run' hE.ok 5 rfl ?_
          refine OW_end rfl ?_
          refine CW_cond _ rfl (fun h5 => ?_) (fun h5 => ?_)
          · skip
            refine CW_know (know_sl (d := 37) rfl) fun hlen => ?_
            simp only [List.length_map] at hlen
            have hlt : i < e.vals.length := by have := h5; simp at this; omega
            obtain ⟨v, hv⟩ : ∃ v, e.vals[i]? = some v := ⟨_, List.getElem?_eq_getElem hlt⟩
            refine CW_skip ?_
            refine CW_seq ?_
            refine CW_block ?_
            refine CW_seq ?_
            refine CW_region ?_
            refine OW_run' hE.ok 3 rfl ?_
            refine OW_loc' hE (loc_indexAddr hE rfl rfl rfl rfl rfl (by omega) (x := encV v) (by simp [hv])) rfl rfl rfl ?_
            refine OW_run' hE.ok 1 rfl ?_
            refine OW_call' hE (refIsValOk v) rfl rfl rfl rfl rfl rfl rfl ?_
            refine OW_run' hE.ok 1 rfl ?_
            refine OW_end rfl ?_
            refine CW_cond _ rfl (fun h6 => ?_) (fun h6 => ?_)
            · skip
              have gv : isVal v = false := by have := h6; simpa using this
              refine CW_seq ?_
              refine CW_region ?_
              refine OW_run' hE.ok 1 rfl ?_
              refine OW_end rfl ?_
              refine CW_ret ?_
              refine ⟨.inr rfl, rfl, ⟨_, rfl, rfl, ?_⟩, rfl⟩
              exact AVle.of (congrArg (fun b => AV.d (int b)) (by rw [evt_val g0 hf hv gv]))
            · skip
              have gv : isVal v = true := by have := h6; simpa using this
              refine CW_skip ?_
              refine CW_region ?_
              refine OW_run' hE.ok 3 rfl ?_
              refine OW_end rfl ?_
              refine ⟨⟨i + 1, by omega, fun j x hj hx => ?_⟩, LE_sh (slh_set (v := .d (int ((i + 1 : Nat) : Int))) (slh_set (v := .ptr 1 0) (slh_set (v := .d (.iptr (encE e))) (slh_no _ _) (by rfl) rfl) (by rfl) rfl) (by show AV.d (.lit (.int .i64 (IntKind.i64.wrap ((i : Int) + 1)))) = _; rw [wrap_succ (by omega)]; rfl) rfl) (hlh_set (hlh_no _ _) rfl rfl), by show e.vals.length - (i + 1) < e.vals.length - i; omega⟩
              by_cases hji : j = i
              · subst hji; rw [hv] at hx; cases hx; exact gv
              · exact hp j x (by omega) hx
          · skip
            have hge : e.vals.length ≤ i := by have := h5; simp at this; omega
            have hall : e.vals.all isVal = true := all_of fun j a hj ha => hp j a (by omega) ha
            refine CW_exit ?_
            show CW _ _ _ _
            refine CW_seq ?_
            refine CW_seq ?_
            refine CW_region ?_
            refine OW_run' hE.ok 1 rfl ?_
            refine OW_end rfl ?_
            refine CW_block ?_
            refine CW_loop (σ := {i : Nat // i ≤ e.vals.length ∧ ∀ (j : Nat) (a : Vl) (f : Fld), j < i → e.vals[j]? = some a → (findT s e.ty).1.fields[j]? = some f → (a.k != f.kind) = false}) (fun i => ⟨J, (sset (sset (sset noSlots 3 (.d (.iptr (encE e)))) 5 (.ptr 1 0)) 8 (.d (int ((i.1 : Nat) : Int)))), (hset noHeap 1 (some (.box 80 ((encT (findT s e.ty).1).map .d))))⟩) (fun i => e.vals.length - i.1) ⟨0, Nat.zero_le _, fun j a f hj => by omega⟩ (LE_sh (slh_set (slh_set (slh_set (slh_no _ _) rfl rfl) rfl rfl) rfl rfl) (hlh_set (hlh_no _ _) rfl rfl)) fun ⟨i, hi, hp⟩ => ?_
            refine CW_seq ?_
            refine CW_seq ?_
            refine CW_region ?_
            refine OW_run' hE.ok 5 rfl ?_
            refine OW_end rfl ?_
            refine CW_cond _ rfl (fun h7 => ?_) (fun h7 => ?_)
            · skip
              refine CW_know (know_sl (d := 51) rfl) fun hlen => ?_
              simp only [List.length_map] at hlen
              have hlt : i < e.vals.length := by have := h7; simp at this; omega
              obtain ⟨v, hv⟩ : ∃ v, e.vals[i]? = some v := ⟨_, List.getElem?_eq_getElem hlt⟩
              obtain ⟨f, hfl⟩ : ∃ f, (findT s e.ty).1.fields[i]? = some f := ⟨_, List.getElem?_eq_getElem (by omega)⟩
              refine CW_skip ?_
              refine CW_seq ?_
              refine CW_block ?_
              refine CW_seq ?_
              refine CW_drawn' hE 12 (by decide +kernel) ?_
              refine HW_run hE 3 rfl rfl ?_
              refine HW_loc hE (loc_indexAddr hE rfl rfl rfl rfl rfl (by omega) (x := encV v) (by simp [hv])) rfl rfl rfl rfl ?_
              refine HW_run hE 5 rfl rfl ?_
              refine HW_loc hE (loc_indexAddr hE rfl rfl rfl rfl rfl (by omega) (x := encF f) (by simp [hfl])) rfl rfl rfl rfl ?_
              refine HW_run hE 2 rfl rfl ?_
              refine HW_end ?_
              refine OW_run' hE.ok 1 rfl ?_
              refine OW_end rfl ?_
              refine CW_cond _ rfl (fun h8 => ?_) (fun h8 => ?_)
              · skip
                have gk : (v.k != f.kind) = true := h8
                refine CW_seq ?_
                refine CW_region ?_
                refine OW_run' hE.ok 1 rfl ?_
                refine OW_end rfl ?_
                refine CW_ret ?_
                refine ⟨.inr rfl, rfl, ⟨_, rfl, rfl, ?_⟩, rfl⟩
                exact AVle.of (congrArg (fun b => AV.d (int b)) (by rw [evt_kind g0 hf hall (kindsAs_no hv hfl gk)]))
              · skip
                have gk : (v.k != f.kind) = false := h8
                refine CW_skip ?_
                refine CW_region ?_
                refine OW_run' hE.ok 3 rfl ?_
                refine OW_end rfl ?_
                refine ⟨⟨i + 1, by omega, fun j x f hj hx hf => ?_⟩, LE_sh (slh_set (v := .d (int ((i + 1 : Nat) : Int))) (slh_set (v := .ptr 1 0) (slh_set (v := .d (.iptr (encE e))) (slh_no _ _) (by rfl) rfl) (by rfl) rfl) (by show AV.d (.lit (.int .i64 (IntKind.i64.wrap ((i : Int) + 1)))) = _; rw [wrap_succ (by omega)]; rfl) rfl) (hlh_set (hlh_no _ _) rfl rfl), by show e.vals.length - (i + 1) < e.vals.length - i; omega⟩
                by_cases hji : j = i
                · subst hji; rw [hv] at hx; cases hx; rw [hfl] at hf; cases hf; exact gk
                · exact hp j x f (by omega) hx hf
            · skip
              have hge : e.vals.length ≤ i := by have := h7; simp at this; omega
              have hks : kindsAs e.vals (findT s e.ty).1.fields = true := kindsAs_yes hvl fun j v f hv hf => hp j v f (by have := (List.getElem?_eq_some_iff.1 hv).1; omega) hv hf
              refine CW_exit ?_
              show CW _ _ _ _
              refine CW_seq ?_
              refine CW_region ?_
              refine OW_run' hE.ok 1 rfl ?_
              refine OW_end rfl ?_
              refine CW_ret ?_
              refine ⟨.inr rfl, rfl, ⟨_, rfl, rfl, ?_⟩, rfl⟩
              exact AVle.of (congrArg (fun b => AV.d (int b)) (by rw [evt_yes g0 hf hall hks]))
end Go.Proofs.Ytojnicnbmgiplaa
namespace Go.Proofs.Ytojnicnbmgiplaa
open Go Go.AL
set_option linter.unusedVariables false
set_option linter.unusedSimpArgs false
set_option maxHeartbeats 4000000
end Go.Proofs.Ytojnicnbmgiplaa
