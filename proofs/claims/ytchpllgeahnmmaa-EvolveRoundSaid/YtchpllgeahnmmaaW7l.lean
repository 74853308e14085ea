/- Parts of an abstract logic over the kit's walks, and walks in it: W7l. -/
import Derived.Test.YtchpllgeahnmmaaWe
import Derived.Test.YtchpllgeahnmmaaWb
import Derived.Test.YtchpllgeahnmmaaWa
import Derived.Test.YtchpllgeahnmmaaEz
namespace Go.Proofs.Ytchpllgeahnmmaa
open Go Go.AL
set_option linter.unusedVariables false
set_option linter.unusedSimpArgs false
set_option maxHeartbeats 4000000
theorem roundLaw (s : List Ty) (u : UInt8) (e : Ev) (b : Bool) : Does Try.prog 6 [argS s, .d (.lit (.int .u8 (u.toNat : Int))), argE e, .d (boo b)] noHeap (.d (boo true)) := by
  refine Does_of T_ok mixed (N := 112) Try.func6 rfl rfl rfl (by rfl) fun F n Z hE hF J => ?_
  refine CW_seq ?_
  refine CW_region ?_
  refine OW_run' hE.ok 3 rfl ?_
  refine OW_end rfl ?_
  refine CW_seq ?_
  refine CW_seq ?_
  refine CW_region ?_
  refine OW_call' hE (known4) rfl rfl rfl rfl rfl rfl rfl ?_
  refine OW_run' hE.ok 1 rfl ?_
  refine OW_end rfl ?_
  refine CW_false rfl ?_
  refine CW_skip ?_
  refine CW_seq ?_
  refine CW_seq ?_
  refine CW_region ?_
  refine OW_run' hE.ok 1 rfl ?_
  refine OW_call' hE (refIsSOk s) rfl rfl rfl rfl rfl rfl rfl ?_
  refine OW_run' hE.ok 2 rfl ?_
  refine OW_split' 21 rfl (fun h1 => ?_) (fun h1 => ?_)
  · skip
    have w1 : (!isSchema s) = true := h1
    refine OW_run' hE.ok 11 rfl ?_
    refine OW_end rfl ?_
    refine CW_true rfl ?_
    refine CW_seq ?_
    refine CW_region ?_
    refine OW_run' hE.ok 1 rfl ?_
    refine OW_end rfl ?_
    refine CW_ret ?_
    refine ⟨.inr rfl, rfl, ⟨_, rfl, rfl, ?_⟩, rfl⟩
    exact AVle.refl _
  · skip
    have w1 : (!isSchema s) = false := h1
    refine OW_run' hE.ok 6 rfl ?_
    refine OW_split' 27 rfl (fun h2 => ?_) (fun h2 => ?_)
    · skip
      skip
      refine OW_run' hE.ok 5 rfl ?_
      refine OW_end rfl ?_
      refine CW_true rfl ?_
      refine CW_seq ?_
      refine CW_region ?_
      refine OW_run' hE.ok 1 rfl ?_
      refine OW_end rfl ?_
      refine CW_ret ?_
      refine ⟨.inr rfl, rfl, ⟨_, rfl, rfl, ?_⟩, rfl⟩
      exact AVle.refl _
    · skip
      have hne : s.length ≠ 0 := by have := h2; rw [List.length_map] at this; simpa using this
      refine OW_run' hE.ok 2 rfl ?_
      refine OW_call' hE (refIsEOk _ _) rfl rfl rfl rfl rfl rfl rfl ?_
      refine OW_run' hE.ok 2 rfl ?_
      refine OW_end rfl ?_
      refine CW_cond _ rfl (fun h3 => ?_) (fun h3 => ?_)
      · skip
        have w3 : (evtR s e != 0) = true := h3
        refine CW_seq ?_
        refine CW_region ?_
        refine OW_run' hE.ok 1 rfl ?_
        refine OW_end rfl ?_
        refine CW_ret ?_
        refine ⟨.inr rfl, rfl, ⟨_, rfl, rfl, ?_⟩, rfl⟩
        exact AVle.refl _
      · skip
        have w3 : (evtR s e != 0) = false := h3
        refine CW_skip ?_
        refine CW_seq ?_
        have hs : isSchema s = true := by simpa using w1
        have he0 : evtR s e = 0 := by simpa using w3
        have hv := evt_few hs he0
        obtain ⟨i, hi⟩ : ∃ i : Nat, i = u.toNat % s.length := ⟨_, rfl⟩
        have hlt : i < s.length := by rw [hi]; exact Nat.mod_lt _ (by omega)
        obtain ⟨t, ht⟩ : ∃ t, s[i]? = some t := ⟨_, List.getElem?_eq_getElem hlt⟩
        have hu8 := u.toNat_lt
        refine CW_drawn6 hE 11 10 1 (by decide +kernel) rfl rfl rfl rfl rfl rfl rfl rfl rfl rfl ?_
        refine H2_run hE 7 rfl rfl rfl rfl rfl ?_
        refine H2_as 36 (.d (int ((u.toNat : Nat) : Int))) (by show AV.d (.lit (.int .i64 (IntKind.i64.wrap ((u.toNat : Nat) : Int)))) = _; rw [wrapN (by omega)]; rfl) ?_
        refine H2_as 39 (.d (int ((s.length : Nat) : Int))) (by show AV.d (.lit (.int .i64 ((s.map encT).length : Int))) = _; rw [List.length_map]; rfl) ?_
        refine H2_loc hE (fun _ => loc_rem hE rfl rfl rfl (by omega)) rfl rfl rfl rfl rfl ?_
        refine H2_as 40 (.d (int ((i : Nat) : Int))) (by rw [hi]; rfl) ?_
        refine H2_loc hE (fun b => loc_indexAddr hE rfl rfl rfl rfl rfl (by omega) (x := encT t) (by simp [ht])) rfl rfl rfl rfl rfl ?_
        refine H2_run hE 1 rfl rfl rfl rfl rfl ?_
        refine H2_alloc rfl rfl rfl ?_
        refine H2_end ?_
        refine OW_store' hE rfl rfl rfl rfl rfl rfl rfl rfl rfl rfl rfl rfl ?_
        refine OW_end rfl ?_
        refine CW_seq ?_
        refine CW_region ?_
        refine OW_run' hE.ok 2 rfl ?_
        refine OW_build' hE rfl rfl rfl rfl rfl ?_
        refine OW_build' hE rfl rfl rfl rfl rfl ?_
        refine OW_alloc' hE 2 rfl rfl rfl rfl rfl rfl rfl ?_
        refine OW_store' hE rfl rfl rfl rfl rfl rfl rfl rfl rfl rfl rfl rfl ?_
        refine OW_end rfl ?_
        refine CW_seq ?_
        refine CW_region ?_
        refine OW_run' hE.ok 2 rfl ?_
        refine OW_build' hE rfl rfl rfl rfl rfl ?_
        refine OW_alloc' hE 3 rfl rfl rfl rfl rfl rfl rfl ?_
        refine OW_store' hE rfl rfl rfl rfl rfl rfl rfl rfl rfl rfl rfl rfl ?_
        refine OW_end rfl ?_
        refine CW_cutE (fun p : Chg × Chg => ⟨J, (sset (sset (sset (sset (sset noSlots 4 (.d (.iptr [encS s]))) 6 (.d (.iptr (encE e)))) 9 (.ptr 1 0)) 10 (.ptr 2 0)) 11 (.ptr 3 0)), (hset (hset (hset noHeap 1 (some (.box 29 ((encT t).map .d)))) 2 (some (.box 37 ((encC p.1).map .d)))) 3 (some (.box 37 ((encC p.2).map .d))))⟩) (fun p : Chg × Chg => ((applyX s p.1).2 ≠ 0 ∧ (0 ≤ fieldAt t freshB ∨ t.fields.length = 5)) ∨ ((applyX s p.1).2 = 0 ∧ applyX (applyX s p.1).1 p.2 = (s, 0) ∧ ∀ e, evtR s e = 0 → moveX (applyX s p.1).1 p.2 (moveX s p.1 e) = e)) ?_ ?_
        · skip
          refine CW_seq ?_
          refine CW_region ?_
          refine OW_run' hE.ok 1 rfl ?_
          refine OW_end rfl ?_
          refine CW_cond _ rfl (fun h4 => ?_) (fun h4 => ?_)
          · skip
            refine CW_seq ?_
            refine CW_seq ?_
            refine CW_region ?_
            refine OW_run' hE.ok 4 rfl ?_
            refine OW_end rfl ?_
            refine CW_cond _ rfl (fun h5 => ?_) (fun h5 => ?_)
            · skip
              skip
              refine CW_seq ?_
              refine CW_region ?_
              refine OW_run' hE.ok 1 rfl ?_
              refine OW_end rfl ?_
              refine CW_ret ?_
              refine ⟨.inr rfl, rfl, ⟨_, rfl, rfl, ?_⟩, rfl⟩
              exact AVle.refl _
            · skip
              have hfl : t.fields.length ≠ 0 := by have := h5; rw [List.length_map] at this; simpa using this
              obtain ⟨f, hf⟩ : ∃ f, t.fields[0]? = some f := ⟨_, List.getElem?_eq_getElem (by omega)⟩
              refine CW_skip ?_
              refine CW_seq ?_
              refine CW_drawn' hE 7 (by decide +kernel) ?_
              refine HW_run hE 4 rfl rfl ?_
              refine HW_loc hE (loc_indexAddr hE rfl rfl rfl rfl rfl (by omega) (x := encF f) (by simp [hf])) rfl rfl rfl rfl ?_
              refine HW_run hE 2 rfl rfl ?_
              refine HW_end ?_
              refine OW_build' hE rfl rfl rfl rfl rfl ?_
              refine OW_store' hE rfl rfl rfl rfl rfl rfl rfl rfl rfl rfl rfl rfl ?_
              refine OW_end rfl ?_
              refine CW_drawn' hE 7 (by decide +kernel) ?_
              refine HW_run hE 4 rfl rfl ?_
              refine HW_loc hE (loc_indexAddr hE rfl rfl rfl rfl rfl (by omega) (x := encF f) (by simp [hf])) rfl rfl rfl rfl ?_
              refine HW_run hE 2 rfl rfl ?_
              refine HW_end ?_
              refine OW_build' hE rfl rfl rfl rfl rfl ?_
              refine OW_store' hE rfl rfl rfl rfl rfl rfl rfl rfl rfl rfl rfl rfl ?_
              refine OW_end rfl ?_
              exact ⟨((cRen t.name f.name freshB), (cRen t.name freshB f.name)), (round_ren hs ht hf).imp (fun h => ⟨h.1, .inl h.2⟩) id, LE_sh (slh_set (v := .ptr 3 0) (slh_set (v := .ptr 2 0) (slh_set (v := .ptr 1 0) (slh_set (v := .d (.iptr (encE e))) (slh_set (v := .d (.iptr [encS s])) (slh_no _ _) (by rfl) rfl) (by rfl) rfl) (by rfl) rfl) (by rfl) rfl) (by rfl) rfl) (hlh_set (hlh_set (hlh_set (hlh_no _ _) rfl rfl) rfl rfl) rfl rfl)⟩
          · skip
            refine CW_skip ?_
            exact ⟨((cAdd t.name), (cDrop t.name)), round_add hs ht, LE_sh (slh_set (v := .ptr 3 0) (slh_set (v := .ptr 2 0) (slh_set (v := .ptr 1 0) (slh_set (v := .d (.iptr (encE e))) (slh_set (v := .d (.iptr [encS s])) (slh_no _ _) (by rfl) rfl) (by rfl) rfl) (by rfl) rfl) (by rfl) rfl) (by rfl) rfl) (hlh_set (hlh_set (hlh_set (hlh_no _ _) rfl rfl) rfl rfl) rfl rfl)⟩
        · skip
          rintro p hp
          refine CW_seq ?_
          refine CW_region ?_
          refine OW_run' hE.ok 2 rfl ?_
          refine OW_call' hE (applyOk s p.1 hs) rfl rfl rfl rfl rfl rfl rfl ?_
          refine OW_run' hE.ok 3 rfl ?_
          refine OW_alloc' hE 4 rfl rfl rfl rfl rfl rfl rfl ?_
          refine OW_store' hE rfl rfl rfl rfl rfl rfl rfl rfl rfl rfl rfl rfl ?_
          refine OW_run' hE.ok 1 rfl ?_
          refine OW_end rfl ?_
          refine CW_seq ?_
          refine CW_seq ?_
          refine CW_region ?_
          refine OW_run' hE.ok 1 rfl ?_
          refine OW_loc' hE (loc_errNe hE rfl rfl rfl) rfl rfl rfl ?_
          refine OW_end rfl ?_
          refine CW_cond _ rfl (fun h6 => ?_) (fun h6 => ?_)
          · skip
            have he : ((applyX s p.1).2 != 0) = true := h6
            have hp2 := (hp.resolve_right (fun h => by rw [h.1] at he; simp at he)).2
            refine CW_seq ?_
            refine CW_region ?_
            refine OW_run' hE.ok 1 rfl ?_
            refine OW_call' hE (refFieldOk t freshB) rfl rfl rfl rfl rfl rfl rfl ?_
            refine OW_run' hE.ok 2 rfl ?_
            refine OW_split' 82 rfl (fun h7 => ?_) (fun h7 => ?_)
            · skip
              have f1 : decide (fieldAt t freshB ≥ 0) = true := h7
              refine OW_run' hE.ok 6 rfl ?_
              refine OW_end rfl ?_
              refine CW_ret ?_
              refine ⟨.inr rfl, rfl, ⟨_, rfl, rfl, ?_⟩, rfl⟩
              exact AVle.refl _
            · skip
              have f1 : decide (fieldAt t freshB ≥ 0) = false := h7
              refine OW_run' hE.ok 6 rfl ?_
              refine OW_end rfl ?_
              refine CW_ret ?_
              refine ⟨.inr rfl, rfl, ⟨_, rfl, rfl, ?_⟩, rfl⟩
              exact AVle.of (congrArg (fun b => AV.d (boo b)) (by rw [List.length_map]; have := hp2.resolve_left (fun h => by simp at f1; omega); rw [this]; rfl))
          · skip
            have he : ((applyX s p.1).2 != 0) = false := h6
            obtain ⟨h0, hD, hM⟩ := hp.resolve_left (fun h => by have := h.1; simp at he; exact this he)
            have hA := apply_ok_iff s p.1 h0
            have hsa := (apply_right hs hA).1
            have hm0 := move_right hA he0
            have hv2 := evt_few hsa hm0
            refine CW_skip ?_
            refine CW_seq ?_
            refine CW_region ?_
            refine OW_run' hE.ok 2 rfl ?_
            refine OW_call' hE ((by have hq := applyOk (applyX s p.1).1 p.2 hsa; rw [hD] at hq; exact hq)) rfl rfl rfl rfl rfl rfl rfl ?_
            refine OW_run' hE.ok 3 rfl ?_
            refine OW_alloc' hE 5 rfl rfl rfl rfl rfl rfl rfl ?_
            refine OW_store' hE rfl rfl rfl rfl rfl rfl rfl rfl rfl rfl rfl rfl ?_
            refine OW_run' hE.ok 1 rfl ?_
            refine OW_end rfl ?_
            refine CW_seq ?_
            refine CW_drawn' hE 16 (by decide +kernel) ?_
            refine HW_run hE 1 rfl rfl ?_
            refine HW_loc hE (loc_errEq hE rfl rfl (EN := 63) (z := 0) rfl) rfl rfl rfl rfl ?_
            refine HW_run hE 3 rfl rfl ?_
            refine HW_call hE ((by have hq := refSameSOk s s; rw [sS_refl s] at hq; exact hq)) rfl rfl rfl rfl rfl rfl rfl rfl ?_
            refine HW_run hE 7 rfl rfl ?_
            refine HW_call hE (moveOk s p.1 e hs (by omega)) rfl rfl rfl rfl rfl rfl rfl rfl ?_
            refine HW_call hE ((by have hq := moveOk (applyX s p.1).1 p.2 (moveX s p.1 e) hsa (by omega); rw [hM e he0] at hq; exact hq)) rfl rfl rfl rfl rfl rfl rfl rfl ?_
            refine HW_run hE 1 rfl rfl ?_
            refine HW_end ?_
            refine OW_call' hE ((by have hq := refSameEOk e e; rw [sameEv_refl e] at hq; exact hq)) rfl rfl rfl rfl rfl rfl rfl ?_
            refine OW_run' hE.ok 2 rfl ?_
            refine OW_end rfl ?_
            refine CW_ret ?_
            refine ⟨.inr rfl, rfl, ⟨_, rfl, rfl, ?_⟩, rfl⟩
            exact AVle.refl _
end Go.Proofs.Ytchpllgeahnmmaa
