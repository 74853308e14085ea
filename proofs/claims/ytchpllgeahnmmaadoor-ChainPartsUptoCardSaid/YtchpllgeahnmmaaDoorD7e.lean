/- Parts of an abstract logic over the kit's walks, and walks in it: D7e. -/
import Derived.Test.YtchpllgeahnmmaaDoorD7v
import Derived.Test.YtchpllgeahnmmaaDoorBa
namespace Go.Proofs.YtchpllgeahnmmaaDoor
open Go Go.AL
set_option linter.unusedVariables false
set_option linter.unusedSimpArgs false
set_option maxHeartbeats 4000000
theorem isE1 (v : Vl) : Does Tryd.prog 43 [argV v] noHeap (.d (boo (!isVal v))) := by
  refine Does_of T_ok mixed (N := 6) Tryd.func43 rfl rfl rfl (by rfl) fun F n Z hE hF J => ?_
  refine CW_seq ?_
  refine CW_region ?_
  refine OW_run' hE.ok 2 rfl ?_
  refine OW_end rfl ?_
  refine CW_seq ?_
  refine CW_region ?_
  refine OW_run' hE.ok 1 rfl ?_
  refine OW_call' hE (isValOk _) rfl rfl rfl rfl rfl rfl rfl ?_
  refine OW_run' hE.ok 2 rfl ?_
  refine OW_end rfl ?_
  refine CW_ret ?_
  refine ⟨.inr rfl, rfl, ⟨_, rfl, rfl, ?_⟩, rfl⟩
  exact AVle.refl _

theorem indexV (l : List Vl) (k : Nat) (first cap : List D) (p : Vl → Bool) (hc : ∀ a ∈ l, Does Tryd.prog k (first.map .d ++ [.agg ((encV a).map .d)] ++ cap.map .d) noHeap (.d (boo (p a)))) : Does Tryd.prog 77 [.d (.sl 3 32 (l.map encV)), .d (.fn (.func k) first cap)] noHeap (.d (int (idx p l))) := by
  refine Does_of T_ok mixed (N := 19) Tryd.func77 rfl rfl rfl (by rfl) fun F n Z hE hF J => ?_
  refine CW_know (know_sl (d := 0) rfl) fun hlen => ?_
  rw [List.length_map] at hlen
  refine CW_seq ?_
  refine CW_region ?_
  refine OW_run' hE.ok 1 rfl ?_
  refine OW_end rfl ?_
  refine CW_seq ?_
  refine CW_seq ?_
  refine CW_region ?_
  refine OW_run' hE.ok 3 rfl ?_
  refine OW_end rfl ?_
  refine CW_block ?_
  refine CW_loop (σ := {i : Nat // i ≤ l.length ∧ ∀ j a, j < i → l[j]? = some a → p a = false})
    (fun i => ⟨J, (sset (sset (sset (sset noSlots 0 (.d (.sl 3 32 (l.map encV)))) 1 (.d (.fn (.func k) first cap))) 7 (.d (.lit (.int .i64 l.length)))) 8 (.d (.lit (.int .i64 i.1)))), noHeap⟩) (fun i => l.length - i.1) ⟨0, Nat.zero_le _, by omega⟩ (LE_s (sle_set (sle_set (sle_set (sle_set (sle_no _) rfl) rfl) (by show AV.d (.lit (.int .i64 ((l.map encV).length : Int))) = _; rw [List.length_map])) rfl)) fun ⟨i, hi, hp⟩ => ?_
  refine CW_seq ?_
  refine CW_region ?_
  refine OW_run' hE.ok 1 rfl ?_
  refine OW_end rfl ?_
  refine CW_seq ?_
  refine CW_cond _ rfl (fun h1 => ?_) (fun h1 => ?_)
  · skip
    have hlt : i < l.length := by have := h1; simp at this; omega
    obtain ⟨a, ha⟩ : ∃ a, l[i]? = some a := ⟨_, List.getElem?_eq_getElem hlt⟩
    have hcall := hc a (List.mem_of_getElem? ha)
    refine CW_skip ?_
    refine CW_seq ?_
    refine CW_block ?_
    refine CW_seq ?_
    refine CW_region ?_
    refine OW_run' hE.ok 2 rfl ?_
    refine OW_end rfl ?_
    refine CW_seq ?_
    refine CW_region ?_
    refine OW_run' hE.ok 3 rfl ?_
    refine OW_loc' hE (loc_indexAddr hE rfl rfl rfl rfl rfl (by omega) (x := encV a) (by simp [ha])) rfl rfl rfl ?_
    refine OW_run' hE.ok 1 rfl ?_
    refine OW_call' hE (hcall) rfl rfl rfl rfl (kfs_fn rfl) rfl rfl ?_
    refine OW_end rfl ?_
    refine CW_cond _ rfl (fun h2 => ?_) (fun h2 => ?_)
    · skip
      refine CW_seq ?_
      refine CW_region ?_
      refine OW_run' hE.ok 2 rfl ?_
      refine OW_end rfl ?_
      refine CW_ret ?_
      refine ⟨.inr rfl, rfl, ⟨_, rfl, rfl, ?_⟩, rfl⟩
      rw [idx_some ha h2 hp]
      exact AVle.refl _
    · skip
      refine CW_skip ?_
      refine CW_region ?_
      refine OW_run' hE.ok 2 rfl ?_
      refine OW_end rfl ?_
      refine ⟨⟨i + 1, hlt, fun j b hj hb => ?_⟩, LE_s (sle_set (sle_set (sle_set (sle_set (sle_no _) rfl) rfl) rfl) (by show AV.d (.lit (.int .i64 (IntKind.i64.wrap (↑i + 1)))) = _; rw [wrap_succ (by omega)])), by show l.length - (i + 1) < l.length - i; omega⟩
      by_cases hji : j = i
      · subst hji; rw [ha] at hb; cases hb; exact h2
      · exact hp j b (by omega) hb
  · skip
    have hge : ¬ i < l.length := by have := h1; simp at this; omega
    refine CW_exit ?_
    show CW _ _ _ _
    refine CW_seq ?_
    refine CW_region ?_
    refine OW_run' hE.ok 1 rfl ?_
    refine OW_end rfl ?_
    refine CW_ret ?_
    refine ⟨.inr rfl, rfl, ⟨_, rfl, rfl, ?_⟩, rfl⟩
    rw [idx_none (fun j b hj => hp j b (by omega))]
    exact AVle.refl _

theorem containsV (l : List Vl) (k : Nat) (first cap : List D) (p : Vl → Bool) (hc : ∀ a ∈ l, Does Tryd.prog k (first.map .d ++ [.agg ((encV a).map .d)] ++ cap.map .d) noHeap (.d (boo (p a)))) : Does Tryd.prog 42 [.d (.sl 3 32 (l.map encV)), .d (.fn (.func k) first cap)] noHeap (.d (boo (l.any p))) := by
  refine Does_of T_ok mixed (N := 9) Tryd.func42 rfl rfl rfl (by rfl) fun F n Z hE hF J => ?_
  refine CW_seq ?_
  refine CW_region ?_
  refine OW_run' hE.ok 1 rfl ?_
  refine OW_end rfl ?_
  refine CW_seq ?_
  refine CW_region ?_
  refine OW_run' hE.ok 2 rfl ?_
  refine OW_call' hE (indexV l k first cap p hc) rfl rfl rfl rfl rfl rfl rfl ?_
  refine OW_run' hE.ok 2 rfl ?_
  refine OW_end rfl ?_
  refine CW_ret ?_
  refine ⟨.inr rfl, rfl, ⟨_, rfl, rfl, ?_⟩, rfl⟩
  exact AVle.of (congrArg (fun b => AV.d (boo b)) (by exact any_idx))

theorem cloneV (l : List Vl) : Does Tryd.prog 49 [.d (.sl 3 32 (l.map encV))] (oneRow 31 3 (l.map encV)) (.row 0) := by
  refine Does_ofRow T_ok mixed (N := 8) Tryd.func49 rfl rfl rfl (by rfl) fun F n Z hE hF J => ?_
  refine CW_know (know_sl (d := 0) rfl) fun hlen => ?_
  rw [List.length_map] at hlen
  refine CW_seq ?_
  refine CW_region ?_
  refine OW_run' hE.ok 1 rfl ?_
  refine OW_end rfl ?_
  refine CW_seq ?_
  refine CW_seq ?_
  refine CW_region ?_
  refine OW_run' hE.ok 1 rfl ?_
  refine OW_eqNil' hE rfl rfl rfl rfl rfl rfl rfl rfl (fun b hb => ?_)
  refine OW_end rfl ?_
  refine CW_cond _ rfl (fun h1 => ?_) (fun h1 => ?_)
  · skip
    refine CW_seq ?_
    refine CW_region ?_
    refine OW_run' hE.ok 1 rfl ?_
    refine OW.le (LE_nilSlot 2 7 31 3 rfl rfl) ?_
    refine OW_end rfl ?_
    refine CW_ret ⟨.inr rfl, rfl, 7, rfl, ?_⟩
    rw [hb h1]
    rfl
  · skip
    refine CW_skip ?_
    refine CW_seq ?_
    refine CW_region ?_
    refine OW_litsOwn' hE 7 rfl rfl rfl rfl rfl rfl rfl rfl rfl rfl rfl rfl ?_
    refine OW_run' hE.ok 1 rfl ?_
    refine OW_append' hE (key := 7) rfl rfl rfl rfl rfl rfl rfl rfl (.inl rfl) (by simp; omega) (by simp; omega) rfl ?_
    refine OW_run' hE.ok 1 rfl ?_
    refine OW_end rfl ?_
    exact CW_ret ⟨.inr rfl, rfl, 7, rfl, rfl⟩

theorem copyOk (e : Ev) : Does Tryd.prog 16 [argE e] (oneRow 31 3 (e.vals.map encV)) (.agg [.d (str e.ty), .d (int e.ts), .row 0]) := by
  refine Does_ofOwn T_ok mixed (N := 8) Tryd.func16 rfl rfl rfl (by rfl) fun F n Z hE hF J => ?_
  refine CW_seq ?_
  refine CW_region ?_
  refine OW_box' hE 1 rfl rfl rfl rfl rfl rfl ?_
  refine OW_alloc' hE 2 rfl rfl rfl rfl rfl rfl rfl ?_
  refine OW_end rfl ?_
  refine CW_seq ?_
  refine CW_region ?_
  refine OW_run' hE.ok 2 rfl ?_
  refine OW_callRow' hE 7 (cloneV e.vals) rfl rfl rfl rfl rfl rfl rfl ?_
  refine OW_run' hE.ok 1 rfl ?_
  refine OW_store' hE rfl rfl rfl rfl rfl rfl rfl rfl rfl rfl rfl rfl ?_
  refine OW_end rfl ?_
  refine CW_seq ?_
  refine CW_region ?_
  refine OW_run' hE.ok 1 rfl ?_
  refine OW_store' hE rfl rfl rfl rfl rfl rfl rfl rfl rfl rfl rfl rfl ?_
  refine OW_end rfl ?_
  exact CW_ret ⟨.inr rfl, rfl, 7, _, rfl, rfl, AVle.refl _⟩

theorem allV1 (xs : List Vl) : Iter Tryd.prog 79 [] [.d (.iptr [.sl 3 32 (xs.map encV)])] (ysI encV xs) := by
  refine Iter_of T_ok mixed (N := 18) Tryd.func79 rfl rfl rfl (by rfl) fun F n Z hE hF l C X hC hX hy => ?_
  refine CW_seq ?_
  refine CW_region ?_
  refine OW_run' hE.ok 3 rfl ?_
  refine OW_end rfl ?_
  refine CW_block ?_
  refine CW_know (know_sl (d := 5) rfl) fun hlen => ?_
  rw [List.length_map] at hlen
  refine CW_loop (σ := {i : Nat // i ≤ xs.length}) (fun i => ⟨C i.1, (sset (sset (sset (sset (sset noSlots 0 (.d (.fn (.yield l) [] []))) 1 (.d (.iptr [.sl 3 32 (xs.map encV)]))) 5 (.d (.sl 3 32 (xs.map encV)))) 6 (.d (.lit (.int .i64 xs.length)))) 7 (.d (.lit (.int .i64 i.1)))), noHeap⟩) (fun i => xs.length - i.1) ⟨0, Nat.zero_le _⟩ (LE_sh (slh_set (slh_set (slh_set (slh_set (slh_set (slh_no _ _) rfl rfl) rfl rfl) rfl rfl) (by show AV.d (.lit (.int .i64 ((xs.map encV).length : Int))) = _; rw [List.length_map]) rfl) rfl rfl) (hlh_no _ _)) fun ⟨i, hi⟩ => ?_
  refine CW_seq ?_
  refine CW_region ?_
  refine OW_run' hE.ok 1 rfl ?_
  refine OW_end rfl ?_
  refine CW_seq ?_
  refine CW_cond _ rfl (fun h1 => ?_) (fun h1 => ?_)
  · skip
    have hlt : i < xs.length := by have := h1; simp at this; omega
    obtain ⟨a, ha⟩ : ∃ a, xs[i]? = some a := ⟨_, List.getElem?_eq_getElem hlt⟩
    refine CW_skip ?_
    refine CW_seq ?_
    refine CW_block ?_
    refine CW_seq ?_
    refine CW_region ?_
    refine OW_run' hE.ok 1 rfl ?_
    refine OW_loc' hE (loc_indexAddr hE rfl rfl rfl rfl rfl (by omega) (x := encV a) (by simp [ha])) rfl rfl rfl ?_
    refine OW_run' hE.ok 1 rfl ?_
    refine OW_alloc' hE 1 rfl rfl rfl rfl rfl rfl rfl ?_
    refine OW_run' hE.ok 1 rfl ?_
    refine OW_store' hE rfl rfl rfl rfl rfl rfl rfl rfl rfl rfl rfl rfl ?_
    refine OW_end rfl ?_
    refine CW_seq ?_
    refine CW_region ?_
    refine OW_run' hE.ok 3 rfl ?_
    refine OW_yield' hE hy hC hX (Wrap.id _) (i) rfl rfl rfl rfl rfl rfl (ysI_get ha) rfl rfl rfl ?_ ?_
    · skip
      refine OW_run' hE.ok 1 rfl ?_
      refine OW_end rfl ?_
      refine CW_false rfl ?_
      refine CW_skip ?_
      refine CW_region ?_
      refine OW_run' hE.ok 2 rfl ?_
      refine OW_end rfl ?_
      exact ⟨⟨i + 1, hlt⟩, LE_sh (slh_set (slh_set (slh_set (slh_set (slh_set (slh_no _ _) rfl rfl) rfl rfl) rfl rfl) rfl rfl) (by show AV.d (.lit (.int .i64 (IntKind.i64.wrap (↑i + 1)))) = _; rw [wrap_succ (by omega)]) rfl) (hlh_no _ _), by show xs.length - (i + 1) < xs.length - i; omega⟩
    · skip
      refine OW_run' hE.ok 1 rfl ?_
      refine OW_end rfl ?_
      refine CW_true rfl ?_
      exact CW_ret ⟨.inr rfl, .inr rfl, _, rfl⟩
  · skip
    have hge : ¬ i < xs.length := by have := h1; simp at this; omega
    refine CW_exit ?_
    have hN : i = (ysI encV xs).length := by rw [ysI_length]; omega
    show RetI _ _ _ _ .normal _
    exact ⟨.inl rfl, .inl (by show C i = _; rw [← hN]), _, rfl⟩

theorem allV (xs : List Vl) : Does Tryd.prog 45 [.d (.sl 3 32 (xs.map encV))] noHeap (.d (.fn (.func 79) [] [.iptr [.sl 3 32 (xs.map encV)]])) := by
  refine Does_of T_ok mixed (N := 4) Tryd.func45 rfl rfl rfl (by rfl) fun F n Z hE hF J => ?_
  refine CW_seq ?_
  refine CW_region ?_
  refine OW_run' hE.ok 2 rfl ?_
  refine OW_end rfl ?_
  refine CW_seq ?_
  refine CW_region ?_
  refine OW_run' hE.ok 2 rfl ?_
  refine OW_end rfl ?_
  refine CW_ret ?_
  refine ⟨.inr rfl, rfl, ⟨_, rfl, rfl, ?_⟩, rfl⟩
  exact AVle.refl _

theorem isEvOk (s : List Ty) (e : Ev) : Does Tryd.prog 12 [argS s, argE e] noHeap (.d (evErr 74 s e)) := by
  refine Does_of T_ok mixed (N := 59) Tryd.func12 rfl rfl rfl (by rfl) fun F n Z hE hF J => ?_
  refine CW_seq ?_
  refine CW_region ?_
  refine OW_run' hE.ok 2 rfl ?_
  refine OW_alloc' hE 1 rfl rfl rfl rfl rfl rfl rfl ?_
  refine OW_end rfl ?_
  refine CW_seq ?_
  refine CW_region ?_
  refine OW_run' hE.ok 3 rfl ?_
  refine OW_call' hE (findOk _ _) rfl rfl rfl rfl rfl rfl rfl ?_
  refine OW_run' hE.ok 3 rfl ?_
  refine OW_alloc' hE 2 rfl rfl rfl rfl rfl rfl rfl ?_
  refine OW_store' hE rfl rfl rfl rfl rfl rfl rfl rfl rfl rfl rfl rfl ?_
  refine OW_run' hE.ok 1 rfl ?_
  refine OW_end rfl ?_
  refine CW_seq ?_
  refine CW_block ?_
  refine CW_seq ?_
  refine CW_region ?_
  refine OW_run' hE.ok 3 rfl ?_
  refine OW_end rfl ?_
  refine CW_cond _ rfl (fun h1 => ?_) (fun h1 => ?_)
  · skip
    have hth : (findT s e.ty).2 = false := by simpa using h1
    refine CW_seq ?_
    refine CW_region ?_
    refine OW_run' hE.ok 1 rfl ?_
    refine OW_store' hE rfl rfl rfl rfl rfl rfl rfl rfl rfl rfl rfl rfl ?_
    refine OW_end rfl ?_
    refine CW_ret ?_
    refine ⟨.inr rfl, rfl, ⟨_, rfl, rfl, ?_⟩, rfl⟩
    rw [evErr_none hth]
    exact AVle.refl _
  · skip
    have hth : (findT s e.ty).2 = true := by simpa using h1
    refine CW_seq ?_
    refine CW_region ?_
    refine OW_run' hE.ok 4 rfl ?_
    refine OW_split' 24 rfl (fun h2 => ?_) (fun h2 => ?_)
    · skip
      have hf : evForm (findT s e.ty).1 e = false := by have := h2; simp_all [evForm]
      refine OW_run' hE.ok 19 rfl ?_
      refine OW_end rfl ?_
      refine CW_true rfl ?_
      refine CW_seq ?_
      refine CW_region ?_
      refine OW_run' hE.ok 1 rfl ?_
      refine OW_store' hE rfl rfl rfl rfl rfl rfl rfl rfl rfl rfl rfl rfl ?_
      refine OW_end rfl ?_
      refine CW_ret ?_
      refine ⟨.inr rfl, rfl, ⟨_, rfl, rfl, ?_⟩, rfl⟩
      rw [evErr_form hth hf]
      exact AVle.refl _
    · skip
      have g1 := h2
      refine OW_run' hE.ok 5 rfl ?_
      refine OW_split' 29 rfl (fun h3 => ?_) (fun h3 => ?_)
      · skip
        have hf : evForm (findT s e.ty).1 e = false := by have := h3; simp_all [evForm]
        refine OW_run' hE.ok 14 rfl ?_
        refine OW_end rfl ?_
        refine CW_true rfl ?_
        refine CW_seq ?_
        refine CW_region ?_
        refine OW_run' hE.ok 1 rfl ?_
        refine OW_store' hE rfl rfl rfl rfl rfl rfl rfl rfl rfl rfl rfl rfl ?_
        refine OW_end rfl ?_
        refine CW_ret ?_
        refine ⟨.inr rfl, rfl, ⟨_, rfl, rfl, ?_⟩, rfl⟩
        rw [evErr_form hth hf]
        exact AVle.refl _
      · skip
        have g2 := h3
        refine OW_run' hE.ok 9 rfl ?_
        refine OW_split' 38 rfl (fun h4 => ?_) (fun h4 => ?_)
        · skip
          have hl : (e.vals.length == (findT s e.ty).1.fields.length) = false := by have := h4; simp [encT] at this; simp; omega
          have hf : evForm (findT s e.ty).1 e = false := by simp [evForm, hl]
          refine OW_run' hE.ok 5 rfl ?_
          refine OW_end rfl ?_
          refine CW_true rfl ?_
          refine CW_seq ?_
          refine CW_region ?_
          refine OW_run' hE.ok 1 rfl ?_
          refine OW_store' hE rfl rfl rfl rfl rfl rfl rfl rfl rfl rfl rfl rfl ?_
          refine OW_end rfl ?_
          refine CW_ret ?_
          refine ⟨.inr rfl, rfl, ⟨_, rfl, rfl, ?_⟩, rfl⟩
          rw [evErr_form hth hf]
          exact AVle.refl _
        · skip
          have hl : (e.vals.length == (findT s e.ty).1.fields.length) = true := by have := h4; simp [encT] at this; simp; omega
          refine OW_run' hE.ok 2 rfl ?_
          refine OW_call' hE (containsV e.vals 43 [] [] (fun v => !isVal v) (fun a _ => isE1 a)) rfl rfl rfl rfl rfl rfl rfl ?_
          refine OW_run' hE.ok 2 rfl ?_
          refine OW_end rfl ?_
          refine CW_cond _ rfl (fun h5 => ?_) (fun h5 => ?_)
          · skip
            have hf : evForm (findT s e.ty).1 e = false := by have := h5; simp_all [evForm, all_any]
            refine CW_seq ?_
            refine CW_region ?_
            refine OW_run' hE.ok 1 rfl ?_
            refine OW_store' hE rfl rfl rfl rfl rfl rfl rfl rfl rfl rfl rfl rfl ?_
            refine OW_end rfl ?_
            refine CW_ret ?_
            refine ⟨.inr rfl, rfl, ⟨_, rfl, rfl, ?_⟩, rfl⟩
            rw [evErr_form hth hf]
            exact AVle.refl _
          · skip
            have hf : evForm (findT s e.ty).1 e = true := by have := h5; simp_all [evForm, all_any, encT]
            refine CW_skip ?_
            refine CW_seq ?_
            refine CW_seq ?_
            rw [hset_hset]
            refine CW.le (show LE _ _ ⟨J, (sset (sset (sset noSlots 3 (.d (.iptr (encE e)))) 4 (.ptr 1 0)) 5 (.ptr 2 0)), (hset (hset noHeap 1 (some (.box 36 [.d (.lit .nilIface)]))) 2 (some (.box 72 ((encT (findT s e.ty).1).map .d))))⟩ from LE_sh (slh_set (slh_set (slh_set (slh_no _ _) rfl rfl) rfl rfl) rfl rfl) (hlh_set (hlh_set (hlh_no _ _) rfl rfl) rfl rfl)) ?_
            refine CW_region ?_
            refine OW_run' hE.ok 2 rfl ?_
            refine OW_call' hE (allV _) rfl rfl rfl rfl rfl rfl rfl ?_
            refine OW_end rfl ?_
            refine CW_block ?_
            have hll : e.vals.length = (findT s e.ty).1.fields.length := by have := hf; simp [evForm] at this; exact this.1.2
            refine CW_rangeH hE hF (allV1 e.vals) rfl rfl rfl (ysI_kf encV e.vals) rfl 9 (fun _ => (hset (hset noHeap 1 (some (.box 36 [.d (.lit .nilIface)]))) 2 (some (.box 72 ((encT (findT s e.ty).1).map .d)))))
              (fun i => ∀ j v f, j < i → e.vals[j]? = some v → (findT s e.ty).1.fields[j]? = some f → (v.k == f.kind) = true) rfl (fun _ => rfl) (fun j v f hj => by omega) (fun F' n' Z' Br Bb hE hB vs i args hargs hp => ?_) (fun hp vs => ?_)
            · skip
              obtain ⟨a, ha, rfl⟩ := ysI_of hargs
              obtain ⟨f, hfi⟩ : ∃ f, (findT s e.ty).1.fields[i]? = some f := ⟨_, List.getElem?_eq_getElem (by have := (List.getElem?_eq_some_iff.1 ha).1; omega)⟩
              refine CW_seq ?_
              refine CW_region ?_
              refine OW_run' hE.ok 1 rfl ?_
              refine OW_end rfl ?_
              refine CW_region ?_
              refine OW_alloc' hE 3 rfl rfl rfl rfl rfl rfl rfl ?_
              refine OW_store' hE rfl rfl rfl rfl rfl rfl rfl rfl rfl rfl rfl rfl ?_
              refine OW_end rfl ?_
              refine ⟨rfl, rfl, ?_⟩
              refine CW_block ?_
              refine CW_seq ?_
              refine CW_drawn' hE 8 (by decide +kernel) ?_
              refine HW_run hE 5 rfl rfl ?_
              refine HW_loc hE (loc_indexAddr hE rfl rfl rfl rfl rfl (by omega) (x := encF f) (by show ((findT s e.ty).1.fields.map encF)[i]? = _; rw [List.getElem?_map, hfi]; rfl)) rfl rfl rfl rfl ?_
              refine HW_run hE 2 rfl rfl ?_
              refine HW_end ?_
              refine OW_run' hE.ok 1 rfl ?_
              refine OW_end rfl ?_
              refine CW_cond _ rfl (fun h6 => ?_) (fun h6 => ?_)
              · skip
                have hk := h6
                refine CW_seq ?_
                refine CW_region ?_
                refine OW_run' hE.ok 1 rfl ?_
                refine OW_store' hE rfl rfl rfl rfl rfl rfl rfl rfl rfl rfl rfl rfl ?_
                refine OW_end rfl ?_
                refine CW_ret ⟨_, LE.refl _ _, J, _, fun h => h, rfl, rfl, ?_⟩
                refine ⟨.inr rfl, rfl, ⟨_, rfl, rfl, ?_⟩, rfl⟩
                rw [evErr_kind hth hf (kk_bad ha hfi (by simpa using hk))]
                exact AVle.refl _
              · skip
                have hk := h6
                refine CW_skip ?_
                refine ⟨⟨Bb J, noSlots, (hset (hset (hset noHeap 1 (some (.box 36 [.d (.lit .nilIface)]))) 2 (some (.box 72 ((encT (findT s e.ty).1).map .d)))) 9 (some (.ghost _ vs)))⟩, LE_sh (slh_no _ _) (hlh_set (hlh_set (hlh_set (hlh_no _ _) rfl rfl) rfl rfl) rfl rfl), J, rfl, rfl, rfl, fun j v g hj hv hg => ?_⟩
                by_cases hji : j = i
                · subst hji; rw [ha] at hv; rw [hfi] at hg; cases hv; cases hg; simpa using hk
                · exact hp j v g (by omega) hv hg
            · skip
              rw [ysI_length] at hp
              refine CW_seq ?_
              refine CW_region ?_
              refine OW_store' hE rfl rfl rfl rfl rfl rfl rfl rfl rfl rfl rfl rfl ?_
              refine OW_end rfl ?_
              refine CW_ret ?_
              refine ⟨.inr rfl, rfl, ⟨_, rfl, rfl, ?_⟩, rfl⟩
              rw [evErr_ok hth hf (kk_all hp)]
              exact AVle.refl _
end Go.Proofs.YtchpllgeahnmmaaDoor
