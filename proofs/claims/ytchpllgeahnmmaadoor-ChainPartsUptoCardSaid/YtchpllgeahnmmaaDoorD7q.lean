/- Parts of an abstract logic over the kit's walks, and walks in it: D7q. -/
import Derived.Test.YtchpllgeahnmmaaDoorD7r
import Derived.Test.YtchpllgeahnmmaaDoorD7v
import Derived.Test.YtchpllgeahnmmaaDoorMe
namespace Go.Proofs.YtchpllgeahnmmaaDoor
open Go Go.AL
set_option linter.unusedVariables false
set_option linter.unusedSimpArgs false
set_option maxHeartbeats 4000000
theorem refIsSOk (s : List Ty) : Does Tryd.prog 8 [argS s] noHeap (.d (boo (isSchema s))) := by
  refine Does_of T_ok mixed (N := 83) Tryd.func8 rfl rfl rfl (by rfl) fun F n Z hE hF J => ?_
  refine CW_seq ?_
  refine CW_region ?_
  refine OW_run' hE.ok 2 rfl ?_
  refine OW_end rfl ?_
  refine CW_seq ?_
  refine CW_seq ?_
  refine CW_region ?_
  refine OW_run' hE.ok 4 rfl ?_
  refine OW_end rfl ?_
  refine CW_cond _ rfl (fun h1 => ?_) (fun h1 => ?_)
  · skip
    have gl : decide ((s.length : Int) > 5) = true := by have := h1; rw [List.length_map] at this; exact this
    refine CW_seq ?_
    refine CW_region ?_
    refine OW_run' hE.ok 1 rfl ?_
    refine OW_end rfl ?_
    refine CW_ret ?_
    refine ⟨.inr rfl, rfl, ⟨_, rfl, rfl, ?_⟩, rfl⟩
    exact AVle.of (congrArg (fun b => AV.d (boo b)) (by rw [sch_long gl]))
  · skip
    have gl : decide ((s.length : Int) > 5) = false := by have := h1; rw [List.length_map] at this; exact this
    refine CW_skip ?_
    refine CW_seq ?_
    refine CW_seq ?_
    refine CW_region ?_
    refine OW_run' hE.ok 1 rfl ?_
    refine OW_end rfl ?_
    refine CW_block ?_
    refine CW_loop (σ := {i : Nat // i ≤ s.length ∧ (∀ (j : Nat) (a : Ty), j < i → s[j]? = some a → isType a = true) ∧ ∀ (j : Nat) (a b : Ty), j + 1 < i → s[j]? = some a → s[j + 1]? = some b → Op.bytesLess a.name.toList b.name.toList = true}) (fun i => ⟨J, (sset (sset noSlots 1 (.d (.iptr [encS s]))) 3 (.d (int ((i.1 : Nat) : Int)))), noHeap⟩) (fun i => s.length - i.1) ⟨0, Nat.zero_le _, fun j a hj => by omega, fun j a b hj => by omega⟩ (LE_sh (slh_set (slh_set (slh_no _ _) rfl rfl) rfl rfl) (hlh_no _ _)) fun ⟨i, hi, hp, hr⟩ => ?_
    refine CW_seq ?_
    refine CW_seq ?_
    refine CW_region ?_
    refine OW_run' hE.ok 5 rfl ?_
    refine OW_end rfl ?_
    refine CW_cond _ rfl (fun h2 => ?_) (fun h2 => ?_)
    · skip
      have hlt : i < s.length := by have := h2; simp at this; omega
      obtain ⟨t, ht⟩ : ∃ t, s[i]? = some t := ⟨_, List.getElem?_eq_getElem hlt⟩
      refine CW_skip ?_
      refine CW_seq ?_
      refine CW_block ?_
      refine CW_seq ?_
      refine CW_region ?_
      refine OW_run' hE.ok 3 rfl ?_
      refine OW_loc' hE (loc_indexAddr hE rfl rfl rfl rfl rfl (by omega) (x := encT t) (by simp [ht])) rfl rfl rfl ?_
      refine OW_run' hE.ok 1 rfl ?_
      refine OW_alloc' hE 1 rfl rfl rfl rfl rfl rfl rfl ?_
      refine OW_store' hE rfl rfl rfl rfl rfl rfl rfl rfl rfl rfl rfl rfl ?_
      refine OW_know (know_sl (d := 19) rfl) fun hlen => ?_
      rw [List.length_map] at hlen
      refine OW_end rfl ?_
      refine CW_cutE (fun _ : Unit => ⟨J, (sset (sset (sset noSlots 1 (.d (.iptr [encS s]))) 3 (.d (int ((i : Nat) : Int)))) 4 (.ptr 1 0)), (hset noHeap 1 (some (.box 72 ((encT t).map .d))))⟩) (fun _ => isName t.name = true ∧ decide ((t.fields.length : Int) > 5) = false ∧ ∀ (j : Nat) (x : Ty), j + 1 = i → s[j]? = some x → Op.bytesLess x.name.toList t.name.toList = true) ?_ ?_
      · skip
        refine CW_seq ?_
        refine CW_drawn' hE 17 (by decide +kernel) ?_
        refine HW_run hE 2 rfl rfl ?_
        refine HW_call hE (refNameOk _) rfl rfl rfl rfl rfl rfl rfl rfl ?_
        refine HW_run hE 2 rfl rfl ?_
        refine HW_split 27 rfl (fun h3 => ?_) (fun h3 => ?_)
        · skip
          have n1 : isName t.name = false := by have := h3; simpa using this
          refine HW_run hE 12 rfl rfl ?_
          refine HW_end ?_
          refine OW_run' hE.ok 9 rfl ?_
          refine OW_end rfl ?_
          refine CW_true rfl ?_
          refine CW_seq ?_
          refine CW_region ?_
          refine OW_run' hE.ok 1 rfl ?_
          refine OW_end rfl ?_
          refine CW_ret ?_
          refine ⟨.inr rfl, rfl, ⟨_, rfl, rfl, ?_⟩, rfl⟩
          exact AVle.of (congrArg (fun b => AV.d (boo b)) (by rw [sch_badT ht (type_name n1)]))
        · skip
          have n1 : isName t.name = true := by have := h3; simpa using this
          refine HW_run hE 3 rfl rfl ?_
          refine HW_split 30 rfl (fun h4 => ?_) (fun h4 => ?_)
          · skip
            have h0 : 0 < i := by have := h4; simpa using this
            obtain ⟨pv, hpv⟩ : ∃ pv, s[i - 1]? = some pv := ⟨_, List.getElem?_eq_getElem (by omega)⟩
            refine HW_run hE 4 rfl rfl ?_
            refine HW_as 34 (.d (int ((i - 1 : Nat) : Int))) (by show AV.d (.lit (.int .i64 (IntKind.i64.wrap ((i : Int) - 1)))) = _; rw [show ((i : Int) - 1) = ((i - 1 : Nat) : Int) by omega, wrapN (by omega)]; rfl) ?_
            refine HW_loc hE (loc_indexAddr hE rfl rfl rfl rfl rfl (by omega) (x := encT pv) (by simp [hpv])) rfl rfl rfl rfl ?_
            refine HW_run hE 4 rfl rfl ?_
            refine HW_end ?_
            refine OW_run' hE.ok 4 rfl ?_
            refine OW_split' 43 rfl (fun h5 => ?_) (fun h5 => ?_)
            · skip
              have hbad : Op.bytesLess pv.name.toList t.name.toList = false := by have := h5; simpa using this
              refine OW_run' hE.ok 5 rfl ?_
              refine OW_end rfl ?_
              refine CW_true rfl ?_
              refine CW_seq ?_
              refine CW_region ?_
              refine OW_run' hE.ok 1 rfl ?_
              refine OW_end rfl ?_
              refine CW_ret ?_
              refine ⟨.inr rfl, rfl, ⟨_, rfl, rfl, ?_⟩, rfl⟩
              exact AVle.of (congrArg (fun b => AV.d (boo b)) (by rw [sch_badR (i := i - 1) hpv (by rw [show i - 1 + 1 = i by omega]; exact ht) hbad]))
            · skip
              have n2 : ∀ (j : Nat) (x : Ty), j + 1 = i → s[j]? = some x → Op.bytesLess x.name.toList t.name.toList = true := fun j x hj hx => by (obtain rfl : j = i - 1 := by omega); rw [hpv] at hx; cases hx; have := h5; simpa using this
              refine OW_run' hE.ok 5 rfl ?_
              refine OW_end rfl ?_
              refine CW_cond _ rfl (fun h6 => ?_) (fun h6 => ?_)
              · skip
                have n3 : decide ((t.fields.length : Int) > 5) = true := by have := h6; rw [List.length_map] at this; exact this
                refine CW_seq ?_
                refine CW_region ?_
                refine OW_run' hE.ok 1 rfl ?_
                refine OW_end rfl ?_
                refine CW_ret ?_
                refine ⟨.inr rfl, rfl, ⟨_, rfl, rfl, ?_⟩, rfl⟩
                exact AVle.of (congrArg (fun b => AV.d (boo b)) (by rw [sch_badT ht (type_long n3)]))
              · skip
                have n3 : decide ((t.fields.length : Int) > 5) = false := by have := h6; rw [List.length_map] at this; exact this
                refine CW_skip ?_
                exact ⟨(), ⟨n1, n3, n2⟩, LE_sh (slh_set (v := .ptr 1 0) (slh_set (v := .d (int ((i : Nat) : Int))) (slh_set (v := .d (.iptr [encS s])) (slh_no _ _) (by rfl) rfl) (by rfl) rfl) (by rfl) rfl) (hlh_set (hlh_no _ _) rfl rfl)⟩
          · skip
            have h0 : i = 0 := by have := h4; simp at this; omega
            have n2 : ∀ (j : Nat) (x : Ty), j + 1 = i → s[j]? = some x → Op.bytesLess x.name.toList t.name.toList = true := fun j x hj hx => by omega
            refine HW_run hE 9 rfl rfl ?_
            refine HW_end ?_
            refine OW_run' hE.ok 9 rfl ?_
            refine OW_end rfl ?_
            refine CW_cond _ rfl (fun h7 => ?_) (fun h7 => ?_)
            · skip
              have n3 : decide ((t.fields.length : Int) > 5) = true := by have := h7; rw [List.length_map] at this; exact this
              refine CW_seq ?_
              refine CW_region ?_
              refine OW_run' hE.ok 1 rfl ?_
              refine OW_end rfl ?_
              refine CW_ret ?_
              refine ⟨.inr rfl, rfl, ⟨_, rfl, rfl, ?_⟩, rfl⟩
              exact AVle.of (congrArg (fun b => AV.d (boo b)) (by rw [sch_badT ht (type_long n3)]))
            · skip
              have n3 : decide ((t.fields.length : Int) > 5) = false := by have := h7; rw [List.length_map] at this; exact this
              refine CW_skip ?_
              exact ⟨(), ⟨n1, n3, n2⟩, LE_sh (slh_set (v := .ptr 1 0) (slh_set (v := .d (int ((i : Nat) : Int))) (slh_set (v := .d (.iptr [encS s])) (slh_no _ _) (by rfl) rfl) (by rfl) rfl) (by rfl) rfl) (hlh_set (hlh_no _ _) rfl rfl)⟩
      · skip
        rintro _ ⟨n1, n3, n2⟩
        refine CW_seq ?_
        refine CW_region ?_
        refine OW_run' hE.ok 1 rfl ?_
        refine OW_end rfl ?_
        refine CW_block ?_
        refine CW_loop (σ := {q : Nat // q ≤ t.fields.length ∧ ∀ (j : Nat) (f : Fld), j < q → t.fields[j]? = some f → okF t j f = true}) (fun q => ⟨J, (sset (sset (sset (sset noSlots 1 (.d (.iptr [encS s]))) 3 (.d (int ((i : Nat) : Int)))) 4 (.ptr 1 0)) 5 (.d (int ((q.1 : Nat) : Int)))), (hset noHeap 1 (some (.box 72 ((encT t).map .d))))⟩) (fun q => t.fields.length - q.1) ⟨0, Nat.zero_le _, fun j t hj => by omega⟩ (LE_sh (slh_set (slh_set (slh_set (slh_set (slh_no _ _) rfl rfl) rfl rfl) rfl rfl) rfl rfl) (hlh_set (hlh_no _ _) rfl rfl)) fun ⟨q, hq, hpf⟩ => ?_
        refine CW_seq ?_
        refine CW_seq ?_
        refine CW_region ?_
        refine OW_run' hE.ok 5 rfl ?_
        refine OW_end rfl ?_
        refine CW_cond _ rfl (fun h8 => ?_) (fun h8 => ?_)
        · skip
          refine CW_know (know_sl (d := 51) rfl) fun hlen => ?_
          simp only [List.length_map] at hlen
          have hltq : q < t.fields.length := by have := h8; simp at this; omega
          obtain ⟨f, hf⟩ : ∃ f, t.fields[q]? = some f := ⟨_, List.getElem?_eq_getElem hltq⟩
          refine CW_skip ?_
          refine CW_seq ?_
          refine CW_block ?_
          refine CW_seq ?_
          refine CW_region ?_
          refine OW_run' hE.ok 3 rfl ?_
          refine OW_loc' hE (loc_indexAddr hE rfl rfl rfl rfl rfl (by omega) (x := encF f) (by simp [hf])) rfl rfl rfl ?_
          refine OW_run' hE.ok 1 rfl ?_
          refine OW_alloc' hE 2 rfl rfl rfl rfl rfl rfl rfl ?_
          refine OW_store' hE rfl rfl rfl rfl rfl rfl rfl rfl rfl rfl rfl rfl ?_
          refine OW_end rfl ?_
          refine CW_seq ?_
          refine CW_region ?_
          refine OW_run' hE.ok 2 rfl ?_
          refine OW_call' hE (refNameOk _) rfl rfl rfl rfl rfl rfl rfl ?_
          refine OW_run' hE.ok 2 rfl ?_
          refine OW_split' 65 rfl (fun h9 => ?_) (fun h9 => ?_)
          · skip
            have f1 : isName f.name = false := by have := h9; simpa using this
            refine OW_run' hE.ok 17 rfl ?_
            refine OW_end rfl ?_
            refine CW_true rfl ?_
            refine CW_seq ?_
            refine CW_region ?_
            refine OW_run' hE.ok 1 rfl ?_
            refine OW_end rfl ?_
            refine CW_ret ?_
            refine ⟨.inr rfl, rfl, ⟨_, rfl, rfl, ?_⟩, rfl⟩
            exact AVle.of (congrArg (fun b => AV.d (boo b)) (by rw [sch_badT ht (okFs_bad hf (okF_no (.inl f1)))]))
          · skip
            have f1 : isName f.name = true := by have := h9; simpa using this
            refine OW_run' hE.ok 5 rfl ?_
            refine OW_split' 70 rfl (fun h10 => ?_) (fun h10 => ?_)
            · skip
              have f2 : decide (f.kind < 1) = true := h10
              refine OW_run' hE.ok 12 rfl ?_
              refine OW_end rfl ?_
              refine CW_true rfl ?_
              refine CW_seq ?_
              refine CW_region ?_
              refine OW_run' hE.ok 1 rfl ?_
              refine OW_end rfl ?_
              refine CW_ret ?_
              refine ⟨.inr rfl, rfl, ⟨_, rfl, rfl, ?_⟩, rfl⟩
              exact AVle.of (congrArg (fun b => AV.d (boo b)) (by rw [sch_badT ht (okFs_bad hf (okF_no (.inr (.inl f2))))]))
            · skip
              have f2 : decide (f.kind < 1) = false := h10
              refine OW_run' hE.ok 5 rfl ?_
              refine OW_split' 75 rfl (fun h11 => ?_) (fun h11 => ?_)
              · skip
                have f3 : decide (f.kind > 3) = true := h11
                refine OW_run' hE.ok 7 rfl ?_
                refine OW_end rfl ?_
                refine CW_true rfl ?_
                refine CW_seq ?_
                refine CW_region ?_
                refine OW_run' hE.ok 1 rfl ?_
                refine OW_end rfl ?_
                refine CW_ret ?_
                refine ⟨.inr rfl, rfl, ⟨_, rfl, rfl, ?_⟩, rfl⟩
                exact AVle.of (congrArg (fun b => AV.d (boo b)) (by rw [sch_badT ht (okFs_bad hf (okF_no (.inr (.inr (.inl f3)))))]))
              · skip
                have f3 : decide (f.kind > 3) = false := h11
                refine OW_run' hE.ok 3 rfl ?_
                refine OW_call' hE (refFieldOk t f.name) rfl rfl rfl rfl rfl rfl rfl ?_
                refine OW_run' hE.ok 3 rfl ?_
                refine OW_end rfl ?_
                refine CW_cond _ rfl (fun h12 => ?_) (fun h12 => ?_)
                · skip
                  have f4 : (fieldAt t f.name != (q : Int)) = true := h12
                  refine CW_seq ?_
                  refine CW_region ?_
                  refine OW_run' hE.ok 1 rfl ?_
                  refine OW_end rfl ?_
                  refine CW_ret ?_
                  refine ⟨.inr rfl, rfl, ⟨_, rfl, rfl, ?_⟩, rfl⟩
                  exact AVle.of (congrArg (fun b => AV.d (boo b)) (by rw [sch_badT ht (okFs_bad hf (okF_no (.inr (.inr (.inr f4)))))]))
                · skip
                  have f4 : (fieldAt t f.name != (q : Int)) = false := h12
                  refine CW_skip ?_
                  refine CW_region ?_
                  refine OW_run' hE.ok 3 rfl ?_
                  refine OW_end rfl ?_
                  refine ⟨⟨q + 1, by omega, fun j x hj hx => ?_⟩, LE_sh (slh_set (v := .d (int ((q + 1 : Nat) : Int))) (slh_set (v := .ptr 1 0) (slh_set (v := .d (int ((i : Nat) : Int))) (slh_set (v := .d (.iptr [encS s])) (slh_no _ _) (by rfl) rfl) (by rfl) rfl) (by rfl) rfl) (by show AV.d (.lit (.int .i64 (IntKind.i64.wrap ((q : Int) + 1)))) = _; rw [wrap_succ (by omega)]; rfl) rfl) (hlh_set (hlh_no _ _) rfl rfl), by show t.fields.length - (q + 1) < t.fields.length - q; omega⟩
                  by_cases hji : j = q
                  · subst hji; rw [hf] at hx; cases hx; exact okF_yes f1 f2 f3 f4
                  · exact hpf j x (by omega) hx
        · skip
          have hgq : t.fields.length ≤ q := by have := h8; simp at this; omega
          refine CW_exit ?_
          show CW _ _ _ _
          refine CW_region ?_
          refine OW_run' hE.ok 3 rfl ?_
          refine OW_end rfl ?_
          refine ⟨⟨i + 1, by omega, fun j x hj hx => ?_, fun j x y hj hx hy => ?_⟩, LE_sh (slh_set (v := .d (int ((i + 1 : Nat) : Int))) (slh_set (v := .d (.iptr [encS s])) (slh_no _ _) (by rfl) rfl) (by show AV.d (.lit (.int .i64 (IntKind.i64.wrap ((i : Int) + 1)))) = _; rw [wrap_succ (by omega)]; rfl) rfl) (hlh_no _ _), by show s.length - (i + 1) < s.length - i; omega⟩
          · by_cases hji : j = i
            · subst hji; rw [ht] at hx; cases hx; exact type_ok n1 n3 (okFs_all fun q f hq hf => hpf q f (by omega) hf)
            · exact hp j x (by omega) hx
          · by_cases hji : j + 1 = i
            · subst hji; rw [ht] at hy; cases hy; exact n2 j x rfl hx
            · exact hr j x y (by omega) hx hy
    · skip
      have hge : s.length ≤ i := by have := h2; simp at this; omega
      refine CW_exit ?_
      show CW _ _ _ _
      refine CW_seq ?_
      refine CW_region ?_
      refine OW_run' hE.ok 1 rfl ?_
      refine OW_end rfl ?_
      refine CW_ret ?_
      refine ⟨.inr rfl, rfl, ⟨_, rfl, rfl, ?_⟩, rfl⟩
      exact AVle.of (congrArg (fun b => AV.d (boo b)) (by rw [sch_ok gl (fun j a hj ha => hp j a (by omega) ha) (fun j a b hj => hr j a b (by omega))]))

theorem refIsEOk (s : List Ty) (e : Ev) : Does Tryd.prog 13 [argS s, argE e] noHeap (.d (int (evtR s e))) := by
  refine Does_of T_ok mixed (N := 69) Tryd.func13 rfl rfl rfl (by rfl) fun F n Z hE hF J => ?_
  refine CW_seq ?_
  refine CW_region ?_
  refine OW_run' hE.ok 3 rfl ?_
  refine OW_end rfl ?_
  refine CW_seq ?_
  refine CW_region ?_
  refine OW_run' hE.ok 3 rfl ?_
  refine OW_call' hE (refFindOk _ _) rfl rfl rfl rfl rfl rfl rfl ?_
  refine OW_run' hE.ok 3 rfl ?_
  refine OW_alloc' hE 1 rfl rfl rfl rfl rfl rfl rfl ?_
  refine OW_store' hE rfl rfl rfl rfl rfl rfl rfl rfl rfl rfl rfl rfl ?_
  refine OW_run' hE.ok 1 rfl ?_
  refine OW_end rfl ?_
  refine CW_seq ?_
  refine CW_seq ?_
  refine CW_region ?_
  refine OW_run' hE.ok 2 rfl ?_
  refine OW_end rfl ?_
  refine CW_cond _ rfl (fun h1 => ?_) (fun h1 => ?_)
  · skip
    have g0 : (findT s e.ty).2 = false := by have := h1; simpa using this
    refine CW_seq ?_
    refine CW_region ?_
    refine OW_run' hE.ok 1 rfl ?_
    refine OW_end rfl ?_
    refine CW_ret ?_
    refine ⟨.inr rfl, rfl, ⟨_, rfl, rfl, ?_⟩, rfl⟩
    exact AVle.of (congrArg (fun b => AV.d (int b)) (by rw [evt_none g0]))
  · skip
    have g0 : (findT s e.ty).2 = true := by have := h1; simpa using this
    refine CW_skip ?_
    refine CW_seq ?_
    refine CW_seq ?_
    refine CW_region ?_
    refine OW_run' hE.ok 4 rfl ?_
    refine OW_split' 21 rfl (fun h2 => ?_) (fun h2 => ?_)
    · skip
      have g1 : decide (e.ts < 0) = true := h2
      refine OW_run' hE.ok 13 rfl ?_
      refine OW_end rfl ?_
      refine CW_true rfl ?_
      refine CW_seq ?_
      refine CW_region ?_
      refine OW_run' hE.ok 1 rfl ?_
      refine OW_end rfl ?_
      refine CW_ret ?_
      refine ⟨.inr rfl, rfl, ⟨_, rfl, rfl, ?_⟩, rfl⟩
      exact AVle.of (congrArg (fun b => AV.d (int b)) (by rw [evt_form g0 (by rw [g1]; rfl)]))
    · skip
      have g1 : decide (e.ts < 0) = false := h2
      refine OW_run' hE.ok 5 rfl ?_
      refine OW_split' 26 rfl (fun h3 => ?_) (fun h3 => ?_)
      · skip
        have g2 : decide (e.ts > 1073741824) = true := h3
        refine OW_run' hE.ok 8 rfl ?_
        refine OW_end rfl ?_
        refine CW_true rfl ?_
        refine CW_seq ?_
        refine CW_region ?_
        refine OW_run' hE.ok 1 rfl ?_
        refine OW_end rfl ?_
        refine CW_ret ?_
        refine ⟨.inr rfl, rfl, ⟨_, rfl, rfl, ?_⟩, rfl⟩
        exact AVle.of (congrArg (fun b => AV.d (int b)) (by rw [evt_form g0 (by rw [g1, g2]; rfl)]))
      · skip
        have g2 : decide (e.ts > 1073741824) = false := h3
        refine OW_run' hE.ok 8 rfl ?_
        refine OW_end rfl ?_
        refine CW_cond _ rfl (fun h4 => ?_) (fun h4 => ?_)
        · skip
          have hf : (decide (e.ts < 0) || (decide (e.ts > 1073741824) || ((e.vals.length : Int) != ((findT s e.ty).1.fields.length : Int)))) = true := by rw [g1, g2, show ((e.vals.length : Int) != ((findT s e.ty).1.fields.length : Int)) = true by have := h4; rw [List.length_map, List.length_map] at this; exact this]; rfl
          refine CW_seq ?_
          refine CW_region ?_
          refine OW_run' hE.ok 1 rfl ?_
          refine OW_end rfl ?_
          refine CW_ret ?_
          refine ⟨.inr rfl, rfl, ⟨_, rfl, rfl, ?_⟩, rfl⟩
          exact AVle.of (congrArg (fun b => AV.d (int b)) (by rw [evt_form g0 hf]))
        · skip
          have g3 : ((e.vals.length : Int) != ((findT s e.ty).1.fields.length : Int)) = false := by have := h4; rw [List.length_map, List.length_map] at this; exact this
          have hf : (decide (e.ts < 0) || (decide (e.ts > 1073741824) || ((e.vals.length : Int) != ((findT s e.ty).1.fields.length : Int)))) = false := by rw [g1, g2, g3]; rfl
          have hvl : e.vals.length = (findT s e.ty).1.fields.length := by have := g3; simp at this; omega
          refine CW_skip ?_
          refine CW_seq ?_
          refine CW_seq ?_
          refine CW_region ?_
          refine OW_run' hE.ok 1 rfl ?_
          refine OW_end rfl ?_
          refine CW_block ?_
          refine CW_loop (σ := {i : Nat // i ≤ e.vals.length ∧ ∀ (j : Nat) (a : Vl), j < i → e.vals[j]? = some a → isVal a = true}) (fun i => ⟨J, (sset (sset (sset noSlots 3 (.d (.iptr (encE e)))) 5 (.ptr 1 0)) 7 (.d (int ((i.1 : Nat) : Int)))), (hset noHeap 1 (some (.box 72 ((encT (findT s e.ty).1).map .d))))⟩) (fun i => e.vals.length - i.1) ⟨0, Nat.zero_le _, fun j a hj => by omega⟩ (LE_sh (slh_set (slh_set (slh_set (slh_no _ _) rfl rfl) rfl rfl) rfl rfl) (hlh_set (hlh_no _ _) rfl rfl)) fun ⟨i, hi, hp⟩ => ?_
          refine CW_seq ?_
          refine CW_seq ?_
          refine CW_region ?_
          refine OW_run' hE.ok 5 rfl ?_
          refine OW_end rfl ?_
          refine CW_cond _ rfl (fun h5 => ?_) (fun h5 => ?_)
          · skip
            refine CW_know (know_sl (d := 37) rfl) fun hlen => ?_
            simp only [List.length_map] at hlen
            have hlt : i < e.vals.length := by have := h5; simp at this; omega
            obtain ⟨v, hv⟩ : ∃ v, e.vals[i]? = some v := ⟨_, List.getElem?_eq_getElem hlt⟩
            refine CW_skip ?_
            refine CW_seq ?_
            refine CW_block ?_
            refine CW_seq ?_
            refine CW_region ?_
            refine OW_run' hE.ok 3 rfl ?_
            refine OW_loc' hE (loc_indexAddr hE rfl rfl rfl rfl rfl (by omega) (x := encV v) (by simp [hv])) rfl rfl rfl ?_
            refine OW_run' hE.ok 1 rfl ?_
            refine OW_call' hE (refIsValOk v) rfl rfl rfl rfl rfl rfl rfl ?_
            refine OW_run' hE.ok 1 rfl ?_
            refine OW_end rfl ?_
            refine CW_cond _ rfl (fun h6 => ?_) (fun h6 => ?_)
            · skip
              have gv : isVal v = false := by have := h6; simpa using this
              refine CW_seq ?_
              refine CW_region ?_
              refine OW_run' hE.ok 1 rfl ?_
              refine OW_end rfl ?_
              refine CW_ret ?_
              refine ⟨.inr rfl, rfl, ⟨_, rfl, rfl, ?_⟩, rfl⟩
              exact AVle.of (congrArg (fun b => AV.d (int b)) (by rw [evt_val g0 hf hv gv]))
            · skip
              have gv : isVal v = true := by have := h6; simpa using this
              refine CW_skip ?_
              refine CW_region ?_
              refine OW_run' hE.ok 3 rfl ?_
              refine OW_end rfl ?_
              refine ⟨⟨i + 1, by omega, fun j x hj hx => ?_⟩, LE_sh (slh_set (v := .d (int ((i + 1 : Nat) : Int))) (slh_set (v := .ptr 1 0) (slh_set (v := .d (.iptr (encE e))) (slh_no _ _) (by rfl) rfl) (by rfl) rfl) (by show AV.d (.lit (.int .i64 (IntKind.i64.wrap ((i : Int) + 1)))) = _; rw [wrap_succ (by omega)]; rfl) rfl) (hlh_set (hlh_no _ _) rfl rfl), by show e.vals.length - (i + 1) < e.vals.length - i; omega⟩
              by_cases hji : j = i
              · subst hji; rw [hv] at hx; cases hx; exact gv
              · exact hp j x (by omega) hx
          · skip
            have hge : e.vals.length ≤ i := by have := h5; simp at this; omega
            have hall : e.vals.all isVal = true := all_of fun j a hj ha => hp j a (by omega) ha
            refine CW_exit ?_
            show CW _ _ _ _
            refine CW_seq ?_
            refine CW_seq ?_
            refine CW_region ?_
            refine OW_run' hE.ok 1 rfl ?_
            refine OW_end rfl ?_
            refine CW_block ?_
            refine CW_loop (σ := {i : Nat // i ≤ e.vals.length ∧ ∀ (j : Nat) (a : Vl) (f : Fld), j < i → e.vals[j]? = some a → (findT s e.ty).1.fields[j]? = some f → (a.k != f.kind) = false}) (fun i => ⟨J, (sset (sset (sset noSlots 3 (.d (.iptr (encE e)))) 5 (.ptr 1 0)) 8 (.d (int ((i.1 : Nat) : Int)))), (hset noHeap 1 (some (.box 72 ((encT (findT s e.ty).1).map .d))))⟩) (fun i => e.vals.length - i.1) ⟨0, Nat.zero_le _, fun j a f hj => by omega⟩ (LE_sh (slh_set (slh_set (slh_set (slh_no _ _) rfl rfl) rfl rfl) rfl rfl) (hlh_set (hlh_no _ _) rfl rfl)) fun ⟨i, hi, hp⟩ => ?_
            refine CW_seq ?_
            refine CW_seq ?_
            refine CW_region ?_
            refine OW_run' hE.ok 5 rfl ?_
            refine OW_end rfl ?_
            refine CW_cond _ rfl (fun h7 => ?_) (fun h7 => ?_)
            · skip
              refine CW_know (know_sl (d := 51) rfl) fun hlen => ?_
              simp only [List.length_map] at hlen
              have hlt : i < e.vals.length := by have := h7; simp at this; omega
              obtain ⟨v, hv⟩ : ∃ v, e.vals[i]? = some v := ⟨_, List.getElem?_eq_getElem hlt⟩
              obtain ⟨f, hfl⟩ : ∃ f, (findT s e.ty).1.fields[i]? = some f := ⟨_, List.getElem?_eq_getElem (by omega)⟩
              refine CW_skip ?_
              refine CW_seq ?_
              refine CW_block ?_
              refine CW_seq ?_
              refine CW_drawn' hE 12 (by decide +kernel) ?_
              refine HW_run hE 3 rfl rfl ?_
              refine HW_loc hE (loc_indexAddr hE rfl rfl rfl rfl rfl (by omega) (x := encV v) (by simp [hv])) rfl rfl rfl rfl ?_
              refine HW_run hE 5 rfl rfl ?_
              refine HW_loc hE (loc_indexAddr hE rfl rfl rfl rfl rfl (by omega) (x := encF f) (by simp [hfl])) rfl rfl rfl rfl ?_
              refine HW_run hE 2 rfl rfl ?_
              refine HW_end ?_
              refine OW_run' hE.ok 1 rfl ?_
              refine OW_end rfl ?_
              refine CW_cond _ rfl (fun h8 => ?_) (fun h8 => ?_)
              · skip
                have gk : (v.k != f.kind) = true := h8
                refine CW_seq ?_
                refine CW_region ?_
                refine OW_run' hE.ok 1 rfl ?_
                refine OW_end rfl ?_
                refine CW_ret ?_
                refine ⟨.inr rfl, rfl, ⟨_, rfl, rfl, ?_⟩, rfl⟩
                exact AVle.of (congrArg (fun b => AV.d (int b)) (by rw [evt_kind g0 hf hall (kindsAs_no hv hfl gk)]))
              · skip
                have gk : (v.k != f.kind) = false := h8
                refine CW_skip ?_
                refine CW_region ?_
                refine OW_run' hE.ok 3 rfl ?_
                refine OW_end rfl ?_
                refine ⟨⟨i + 1, by omega, fun j x f hj hx hf => ?_⟩, LE_sh (slh_set (v := .d (int ((i + 1 : Nat) : Int))) (slh_set (v := .ptr 1 0) (slh_set (v := .d (.iptr (encE e))) (slh_no _ _) (by rfl) rfl) (by rfl) rfl) (by show AV.d (.lit (.int .i64 (IntKind.i64.wrap ((i : Int) + 1)))) = _; rw [wrap_succ (by omega)]; rfl) rfl) (hlh_set (hlh_no _ _) rfl rfl), by show e.vals.length - (i + 1) < e.vals.length - i; omega⟩
                by_cases hji : j = i
                · subst hji; rw [hv] at hx; cases hx; rw [hfl] at hf; cases hf; exact gk
                · exact hp j x f (by omega) hx hf
            · skip
              have hge : e.vals.length ≤ i := by have := h7; simp at this; omega
              have hks : kindsAs e.vals (findT s e.ty).1.fields = true := kindsAs_yes hvl fun j v f hv hf => hp j v f (by have := (List.getElem?_eq_some_iff.1 hv).1; omega) hv hf
              refine CW_exit ?_
              show CW _ _ _ _
              refine CW_seq ?_
              refine CW_region ?_
              refine OW_run' hE.ok 1 rfl ?_
              refine OW_end rfl ?_
              refine CW_ret ?_
              refine ⟨.inr rfl, rfl, ⟨_, rfl, rfl, ?_⟩, rfl⟩
              exact AVle.of (congrArg (fun b => AV.d (int b)) (by rw [evt_yes g0 hf hall hks]))
end Go.Proofs.YtchpllgeahnmmaaDoor
