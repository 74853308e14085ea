/- Parts of an abstract logic over the kit's walks, and walks in it: W7l. -/
import Derived.Test.YtchpllgeahnmmaaWe
import Derived.Test.YtchpllgeahnmmaaWb
import Derived.Test.YtchpllgeahnmmaaWa
import Derived.Test.YtchpllgeahnmmaaEz
namespace Go.Proofs.Ytchpllgeahnmmaa
open Go Go.AL
set_option linter.unusedVariables false
set_option linter.unusedSimpArgs false
set_option maxHeartbeats 4000000
theorem keepsLaw (s : List Ty) (c : Chg) (e : Ev) : Does Try.prog 5 [argS s, argC c, argE e] noHeap (.d (boo true)) := by
  refine Does_of T_ok mixed (N := 157) Try.func5 rfl rfl rfl (by rfl) fun F n Z hE hF J => ?_
  refine CW_seq ?_
  refine CW_region ?_
  refine OW_run' hE.ok 4 rfl ?_
  refine OW_end rfl ?_
  refine CW_seq ?_
  refine CW_seq ?_
  refine CW_region ?_
  refine OW_call' hE (known4) rfl rfl rfl rfl rfl rfl rfl ?_
  refine OW_run' hE.ok 1 rfl ?_
  refine OW_end rfl ?_
  refine CW_false rfl ?_
  refine CW_skip ?_
  refine CW_seq ?_
  refine CW_seq ?_
  refine CW_region ?_
  refine OW_run' hE.ok 1 rfl ?_
  refine OW_call' hE (refIsSOk s) rfl rfl rfl rfl rfl rfl rfl ?_
  refine OW_run' hE.ok 2 rfl ?_
  refine OW_split' 24 rfl (fun h1 => ?_) (fun h1 => ?_)
  · skip
    have w1 : (!isSchema s) = true := h1
    refine OW_run' hE.ok 11 rfl ?_
    refine OW_end rfl ?_
    refine CW_true rfl ?_
    refine CW_seq ?_
    refine CW_region ?_
    refine OW_run' hE.ok 1 rfl ?_
    refine OW_end rfl ?_
    refine CW_ret ?_
    refine ⟨.inr rfl, rfl, ⟨_, rfl, rfl, ?_⟩, rfl⟩
    exact AVle.refl _
  · skip
    have w1 : (!isSchema s) = false := h1
    refine OW_run' hE.ok 6 rfl ?_
    refine OW_split' 30 rfl (fun h2 => ?_) (fun h2 => ?_)
    · skip
      skip
      refine OW_run' hE.ok 5 rfl ?_
      refine OW_end rfl ?_
      refine CW_true rfl ?_
      refine CW_seq ?_
      refine CW_region ?_
      refine OW_run' hE.ok 1 rfl ?_
      refine OW_end rfl ?_
      refine CW_ret ?_
      refine ⟨.inr rfl, rfl, ⟨_, rfl, rfl, ?_⟩, rfl⟩
      exact AVle.refl _
    · skip
      have hv : e.vals.length ≤ 20 := by have := h2; rw [List.length_map] at this; simp at this; omega
      refine OW_run' hE.ok 2 rfl ?_
      refine OW_call' hE (refIsEOk s e) rfl rfl rfl rfl rfl rfl rfl ?_
      refine OW_run' hE.ok 2 rfl ?_
      refine OW_end rfl ?_
      refine CW_cond _ rfl (fun h3 => ?_) (fun h3 => ?_)
      · skip
        have w3 : (evtR s e != 0) = true := h3
        refine CW_seq ?_
        refine CW_region ?_
        refine OW_run' hE.ok 1 rfl ?_
        refine OW_end rfl ?_
        refine CW_ret ?_
        refine ⟨.inr rfl, rfl, ⟨_, rfl, rfl, ?_⟩, rfl⟩
        exact AVle.refl _
      · skip
        have w3 : (evtR s e != 0) = false := h3
        refine CW_skip ?_
        refine CW_seq ?_
        have hs : isSchema s = true := by simpa using w1
        have he0 : evtR s e = 0 := by simpa using w3
        refine CW_region ?_
        refine OW_run' hE.ok 2 rfl ?_
        refine OW_call' hE (applyOk s c hs) rfl rfl rfl rfl rfl rfl rfl ?_
        refine OW_run' hE.ok 3 rfl ?_
        refine OW_alloc' hE 1 rfl rfl rfl rfl rfl rfl rfl ?_
        refine OW_store' hE rfl rfl rfl rfl rfl rfl rfl rfl rfl rfl rfl rfl ?_
        refine OW_run' hE.ok 1 rfl ?_
        refine OW_end rfl ?_
        refine CW_seq ?_
        refine CW_seq ?_
        refine CW_region ?_
        refine OW_run' hE.ok 1 rfl ?_
        refine OW_loc' hE (loc_errNe hE rfl rfl rfl) rfl rfl rfl ?_
        refine OW_end rfl ?_
        refine CW_cond _ rfl (fun h4 => ?_) (fun h4 => ?_)
        · skip
          refine CW_seq ?_
          refine CW_region ?_
          refine OW_run' hE.ok 1 rfl ?_
          refine OW_end rfl ?_
          refine CW_ret ?_
          refine ⟨.inr rfl, rfl, ⟨_, rfl, rfl, ?_⟩, rfl⟩
          exact AVle.refl _
        · skip
          have he : ((applyX s c).2 != 0) = false := h4
          have h0 : (applyX s c).2 = 0 := by simpa using he
          have hA := apply_ok_iff s c h0
          have hfl5 : (findT (applyX s c).1 e.ty).1.fields.length ≤ 5 := by have h1 := (keeps_end hA he0).2.2; have h2 := evt_few (apply_right hs hA).1 (move_right hA he0); omega
          refine CW_skip ?_
          refine CW_seq ?_
          refine CW_region ?_
          refine OW_run' hE.ok 3 rfl ?_
          refine OW_call' hE (moveOk s c e hs (by omega)) rfl rfl rfl rfl rfl rfl rfl ?_
          refine OW_alloc' hE 2 rfl rfl rfl rfl rfl rfl rfl ?_
          refine OW_store' hE rfl rfl rfl rfl rfl rfl rfl rfl rfl rfl rfl rfl ?_
          refine OW_end rfl ?_
          refine CW_seq ?_
          refine CW_region ?_
          refine OW_run' hE.ok 3 rfl ?_
          refine OW_call' hE (refFindOk (applyX s c).1 e.ty) rfl rfl rfl rfl rfl rfl rfl ?_
          refine OW_run' hE.ok 3 rfl ?_
          refine OW_alloc' hE 3 rfl rfl rfl rfl rfl rfl rfl ?_
          refine OW_store' hE rfl rfl rfl rfl rfl rfl rfl rfl rfl rfl rfl rfl ?_
          refine OW_run' hE.ok 1 rfl ?_
          refine OW_end rfl ?_
          refine CW_seq ?_
          refine CW_seq ?_
          refine CW_region ?_
          refine OW_run' hE.ok 1 rfl ?_
          refine OW_end rfl ?_
          refine CW_block ?_
          refine CW_loop (σ := {i : Nat // i ≤ (findT (applyX s c).1 e.ty).1.fields.length}) (fun i => ⟨J, (sset (sset (sset (sset (sset (sset (sset noSlots 3 (.d (.iptr [encS s]))) 4 (.d (.iptr (encC c)))) 5 (.d (.iptr (encE e)))) 7 (.ptr 1 0)) 9 (.ptr 2 0)) 10 (.ptr 3 0)) 12 (.d (int ((i.1 : Nat) : Int)))), (hset (hset (hset noHeap 1 (some (.box 25 [.d (encS (applyX s c).1)]))) 2 (some (.box 40 ((encE (moveX s c e)).map .d)))) 3 (some (.box 29 ((encT (findT (applyX s c).1 e.ty).1).map .d))))⟩) (fun i => (findT (applyX s c).1 e.ty).1.fields.length - i.1) ⟨0, Nat.zero_le _⟩ (LE_sh (slh_set (slh_set (slh_set (slh_set (slh_set (slh_set (slh_set (slh_no _ _) rfl rfl) rfl rfl) rfl rfl) rfl rfl) rfl rfl) rfl rfl) rfl rfl) (hlh_set (hlh_set (hlh_set (hlh_no _ _) rfl rfl) rfl rfl) rfl rfl)) fun ⟨i, hi⟩ => ?_
          refine CW_seq ?_
          refine CW_seq ?_
          refine CW_region ?_
          refine OW_run' hE.ok 5 rfl ?_
          refine OW_end rfl ?_
          refine CW_cond _ rfl (fun h5 => ?_) (fun h5 => ?_)
          · skip
            have hlt : i < (findT (applyX s c).1 e.ty).1.fields.length := by have := h5; rw [List.length_map] at this; simp at this; omega
            obtain ⟨f, hf⟩ : ∃ f, (findT (applyX s c).1 e.ty).1.fields[i]? = some f := ⟨_, List.getElem?_eq_getElem hlt⟩
            have hk := keeps_at hs hA he0 hf
            refine CW_skip ?_
            refine CW_seq ?_
            refine CW_block ?_
            refine CW_seq ?_
            refine CW_region ?_
            refine OW_run' hE.ok 3 rfl ?_
            refine OW_loc' hE (loc_indexAddr hE rfl rfl rfl rfl rfl (by omega) (x := encF f) (by simp [hf])) rfl rfl rfl ?_
            refine OW_run' hE.ok 4 rfl ?_
            refine OW_end rfl ?_
            refine CW_cutE (fun _ : Unit => ⟨J, (sset (sset (sset (sset (sset (sset (sset (sset (sset noSlots 3 (.d (.iptr [encS s]))) 4 (.d (.iptr (encC c)))) 5 (.d (.iptr (encE e)))) 7 (.ptr 1 0)) 9 (.ptr 2 0)) 10 (.ptr 3 0)) 12 (.d (int ((i : Nat) : Int)))) 13 (.d (str (wasX e c f.name).1))) 14 (.d (boo (wasX e c f.name).2))), (hset (hset (hset noHeap 1 (some (.box 25 [.d (encS (applyX s c).1)]))) 2 (some (.box 40 ((encE (moveX s c e)).map .d)))) 3 (some (.box 29 ((encT (findT (applyX s c).1 e.ty).1).map .d))))⟩) (fun _ => True) ?_ ?_
            · skip
              refine CW_seq ?_
              refine CW_region ?_
              refine OW_run' hE.ok 5 rfl ?_
              refine OW_end rfl ?_
              refine CW_cond _ rfl (fun h6 => ?_) (fun h6 => ?_)
              · skip
                have wt : same e.ty c.ty = true := h6
                refine CW_drawn' hE 12 (by decide +kernel) ?_
                refine HW_run hE 4 rfl rfl ?_
                refine HW_loc hE (loc_indexAddr hE rfl rfl rfl rfl rfl (by omega) (x := encF f) (by simp [hf])) rfl rfl rfl rfl ?_
                refine HW_run hE 2 rfl rfl ?_
                refine HW_call hE (refBackOk c f.name) rfl rfl rfl rfl rfl rfl rfl rfl ?_
                refine HW_run hE 4 rfl rfl ?_
                refine HW_end ?_
                refine OW_run' hE.ok 1 rfl ?_
                refine OW_end rfl ?_
                have hw : (wasX e c f.name) = backX c f.name := by unfold wasX; rw [wt]; rfl
                exact ⟨(), trivial, LE_sh (slh_set (v := .d (boo (wasX e c f.name).2)) (slh_set (v := .d (str (wasX e c f.name).1)) (slh_set (v := .d (int ((i : Nat) : Int))) (slh_set (v := .ptr 3 0) (slh_set (v := .ptr 2 0) (slh_set (v := .ptr 1 0) (slh_set (v := .d (.iptr (encE e))) (slh_set (v := .d (.iptr (encC c))) (slh_set (v := .d (.iptr [encS s])) (slh_no _ _) (by rfl) rfl) (by rfl) rfl) (by rfl) rfl) (by rfl) rfl) (by rfl) rfl) (by rfl) rfl) (by rfl) rfl) (by exact (congrArg (fun z : ByteArray × Bool => AV.d (str z.1)) hw.symm)) rfl) (by exact (congrArg (fun z : ByteArray × Bool => AV.d (boo z.2)) hw.symm)) rfl) (hlh_set (hlh_set (hlh_set (hlh_no _ _) rfl rfl) rfl rfl) rfl rfl)⟩
              · skip
                have wt : same e.ty c.ty = false := h6
                refine CW_skip ?_
                have hw : (wasX e c f.name) = (f.name, true) := by unfold wasX; rw [wt]; rfl
                exact ⟨(), trivial, LE_sh (slh_set (v := .d (boo (wasX e c f.name).2)) (slh_set (v := .d (str (wasX e c f.name).1)) (slh_set (v := .d (int ((i : Nat) : Int))) (slh_set (v := .ptr 3 0) (slh_set (v := .ptr 2 0) (slh_set (v := .ptr 1 0) (slh_set (v := .d (.iptr (encE e))) (slh_set (v := .d (.iptr (encC c))) (slh_set (v := .d (.iptr [encS s])) (slh_no _ _) (by rfl) rfl) (by rfl) rfl) (by rfl) rfl) (by rfl) rfl) (by rfl) rfl) (by rfl) rfl) (by rfl) rfl) (by exact (congrArg (fun z : ByteArray × Bool => AV.d (str z.1)) hw.symm)) rfl) (by exact (congrArg (fun z : ByteArray × Bool => AV.d (boo z.2)) hw.symm)) rfl) (hlh_set (hlh_set (hlh_set (hlh_no _ _) rfl rfl) rfl rfl) rfl rfl)⟩
            · skip
              rintro _ _
              have hv2 : (getV (applyX s c).1 (moveX s c e) f.name).2 = true := lost_2 hk
              rcases Bool.eq_false_or_eq_true (wasX e c f.name).2 with hu | hu
              · skip
                obtain ⟨hw2, hn, hst⟩ := lost_yes hk hu
                refine CW_as' 14 (.d (boo true)) (congrArg (fun b => AV.d (boo b)) hu) ?_
                refine CW_seq ?_
                refine CW_drawn2 hE 14 12 13 4 (by decide +kernel) (V := (encV (getV (applyX s c).1 (moveX s c e) f.name).1).map .d) rfl rfl rfl rfl rfl rfl rfl rfl rfl (by decide +kernel) rfl rfl rfl rfl rfl ?_
                refine H2_run hE 5 rfl rfl rfl rfl rfl ?_
                refine H2_loc hE (fun b => loc_indexAddr hE rfl rfl rfl rfl rfl (by omega) (x := encF f) (by simp [hf])) rfl rfl rfl rfl rfl ?_
                refine H2_run hE 2 rfl rfl rfl rfl rfl ?_
                refine H2_call hE ((by have hq := refGetOk (applyX s c).1 (moveX s c e) f.name; rw [hv2] at hq; exact hq)) rfl rfl rfl rfl rfl rfl rfl rfl rfl ?_
                refine H2_run hE 3 rfl rfl rfl rfl rfl ?_
                refine H2_alloc rfl rfl rfl ?_
                refine H2_store rfl rfl rfl rfl rfl rfl rfl rfl ?_
                refine H2_end ?_
                refine OW_run' hE.ok 1 rfl ?_
                refine OW_end rfl ?_
                refine CW_seq ?_
                refine CW_region ?_
                refine OW_run' hE.ok 3 rfl ?_
                refine OW_call' hE ((by have hq := refGetOk s e (wasX e c f.name).1; rw [hw2] at hq; exact hq)) rfl rfl rfl rfl rfl rfl rfl ?_
                refine OW_run' hE.ok 3 rfl ?_
                refine OW_alloc' hE 5 rfl rfl rfl rfl rfl rfl rfl ?_
                refine OW_store' hE rfl rfl rfl rfl rfl rfl rfl rfl rfl rfl rfl rfl ?_
                refine OW_run' hE.ok 1 rfl ?_
                refine OW_end rfl ?_
                refine CW_seq ?_
                refine CW_region ?_
                refine OW_run' hE.ok 13 rfl ?_
                refine OW_as' 115 (.d (boo false)) (by exact congrArg (fun b => AV.d (boo b)) hn) ?_
                refine OW_run' hE.ok 1 rfl ?_
                refine OW_run' hE.ok 6 rfl ?_
                refine OW_as' 122 (.d (boo false)) (by exact congrArg (fun b => AV.d (boo b)) hst) ?_
                refine OW_run' hE.ok 1 rfl ?_
                refine OW_run' hE.ok 12 rfl ?_
                refine OW_end rfl ?_
                refine CW_false rfl ?_
                refine CW_skip ?_
                refine CW_region ?_
                refine OW_run' hE.ok 3 rfl ?_
                refine OW_end rfl ?_
                refine ⟨⟨i + 1, by omega⟩, LE_sh (slh_set (v := .d (int ((i + 1 : Nat) : Int))) (slh_set (v := .ptr 3 0) (slh_set (v := .ptr 2 0) (slh_set (v := .ptr 1 0) (slh_set (v := .d (.iptr (encE e))) (slh_set (v := .d (.iptr (encC c))) (slh_set (v := .d (.iptr [encS s])) (slh_no _ _) (by rfl) rfl) (by rfl) rfl) (by rfl) rfl) (by rfl) rfl) (by rfl) rfl) (by rfl) rfl) (by show AV.d (.lit (.int .i64 (IntKind.i64.wrap ((i : Int) + 1)))) = _; rw [wrap_succ (by omega)]; rfl) rfl) (hlh_set (hlh_set (hlh_set (hlh_no _ _) rfl rfl) rfl rfl) rfl rfl), by show (findT (applyX s c).1 e.ty).1.fields.length - (i + 1) < (findT (applyX s c).1 e.ty).1.fields.length - i; omega⟩
              · skip
                have hdv := lost_no hk hu
                refine CW_as' 14 (.d (boo false)) (congrArg (fun b => AV.d (boo b)) hu) ?_
                refine CW_seq ?_
                refine CW_drawn2 hE 14 12 13 4 (by decide +kernel) (V := (encV (getV (applyX s c).1 (moveX s c e) f.name).1).map .d) rfl rfl rfl rfl rfl rfl rfl rfl rfl (by decide +kernel) rfl rfl rfl rfl rfl ?_
                refine H2_run hE 5 rfl rfl rfl rfl rfl ?_
                refine H2_loc hE (fun b => loc_indexAddr hE rfl rfl rfl rfl rfl (by omega) (x := encF f) (by simp [hf])) rfl rfl rfl rfl rfl ?_
                refine H2_run hE 2 rfl rfl rfl rfl rfl ?_
                refine H2_call hE ((by have hq := refGetOk (applyX s c).1 (moveX s c e) f.name; rw [hv2] at hq; exact hq)) rfl rfl rfl rfl rfl rfl rfl rfl rfl ?_
                refine H2_run hE 3 rfl rfl rfl rfl rfl ?_
                refine H2_alloc rfl rfl rfl ?_
                refine H2_store rfl rfl rfl rfl rfl rfl rfl rfl ?_
                refine H2_end ?_
                refine OW_run' hE.ok 1 rfl ?_
                refine OW_end rfl ?_
                refine CW_seq ?_
                refine CW_region ?_
                refine OW_run' hE.ok 3 rfl ?_
                refine OW_call' hE (refGetOk s e (wasX e c f.name).1) rfl rfl rfl rfl rfl rfl rfl ?_
                refine OW_run' hE.ok 3 rfl ?_
                refine OW_alloc' hE 5 rfl rfl rfl rfl rfl rfl rfl ?_
                refine OW_store' hE rfl rfl rfl rfl rfl rfl rfl rfl rfl rfl rfl rfl ?_
                refine OW_run' hE.ok 1 rfl ?_
                refine OW_end rfl ?_
                refine CW_seq ?_
                refine CW_region ?_
                refine OW_run' hE.ok 30 rfl ?_
                refine OW_loc' hE (loc_neq rfl rfl rfl (r := sameV (getV (applyX s c).1 (moveX s c e) f.name).1 c.dv) (eqLaw_flat T_ok (t := 35) rfl (by decide +kernel) rfl (X := encV (getV (applyX s c).1 (moveX s c e) f.name).1) (Y := encV c.dv) rfl rfl rfl)) rfl rfl rfl ?_
                refine OW_as' 133 (.d (boo false)) (by rw [hdv]; rfl) ?_
                refine OW_run' hE.ok 2 rfl ?_
                refine OW_end rfl ?_
                refine CW_false rfl ?_
                refine CW_skip ?_
                refine CW_region ?_
                refine OW_run' hE.ok 3 rfl ?_
                refine OW_end rfl ?_
                refine ⟨⟨i + 1, by omega⟩, LE_sh (slh_set (v := .d (int ((i + 1 : Nat) : Int))) (slh_set (v := .ptr 3 0) (slh_set (v := .ptr 2 0) (slh_set (v := .ptr 1 0) (slh_set (v := .d (.iptr (encE e))) (slh_set (v := .d (.iptr (encC c))) (slh_set (v := .d (.iptr [encS s])) (slh_no _ _) (by rfl) rfl) (by rfl) rfl) (by rfl) rfl) (by rfl) rfl) (by rfl) rfl) (by rfl) rfl) (by show AV.d (.lit (.int .i64 (IntKind.i64.wrap ((i : Int) + 1)))) = _; rw [wrap_succ (by omega)]; rfl) rfl) (hlh_set (hlh_set (hlh_set (hlh_no _ _) rfl rfl) rfl rfl) rfl rfl), by show (findT (applyX s c).1 e.ty).1.fields.length - (i + 1) < (findT (applyX s c).1 e.ty).1.fields.length - i; omega⟩
          · skip
            obtain ⟨n1, n2, n3⟩ := keeps_end hA he0
            refine CW_exit ?_
            show CW _ _ _ _
            refine CW_seq ?_
            refine CW_region ?_
            refine OW_run' hE.ok 5 rfl ?_
            refine OW_as' 140 (.d (boo true)) (by exact congrArg (fun b => AV.d (boo b)) (show same _ _ = true by rw [n1]; exact same_refl _)) ?_
            refine OW_run' hE.ok 1 rfl ?_
            refine OW_run' hE.ok 5 rfl ?_
            refine OW_as' 146 (.d (boo true)) (by exact congrArg (fun b => AV.d (boo b)) (by rw [n2]; simp)) ?_
            refine OW_run' hE.ok 1 rfl ?_
            refine OW_run' hE.ok 8 rfl ?_
            refine OW_as' 155 (.d (boo true)) (by exact congrArg (fun b => AV.d (boo b)) (by rw [List.length_map, List.length_map, n3]; simp)) ?_
            refine OW_run' hE.ok 1 rfl ?_
            refine OW_run' hE.ok 1 rfl ?_
            refine OW_end rfl ?_
            refine CW_ret ?_
            refine ⟨.inr rfl, rfl, ⟨_, rfl, rfl, ?_⟩, rfl⟩
            exact AVle.refl _

end Go.Proofs.Ytchpllgeahnmmaa
