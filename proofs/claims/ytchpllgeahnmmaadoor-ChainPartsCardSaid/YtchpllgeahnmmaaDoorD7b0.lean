/- Parts of an abstract logic over the kit's walks, and walks in it: D7b0. -/
import Derived.Test.YtchpllgeahnmmaaDoorDxa
import Derived.Test.YtchpllgeahnmmaaDoorBa
namespace Go.Proofs.YtchpllgeahnmmaaDoor
open Go Go.AL
set_option linter.unusedVariables false
set_option linter.unusedSimpArgs false
set_option maxHeartbeats 4000000
theorem pairs1 (xs : List ByteArray) (hlen : xs.length ≤ 140737488355328) : Iter Tryd.prog 102 [] [.d (.iptr [.sl 1 16 (xs.map encB)])] (pairsOf xs) := by
 refine Iter_of T_ok mixed (N := 25) Tryd.func102 rfl rfl rfl (by rfl) fun F n Z hE hF l C X hC hX hy => ?_
 refine CW_seq ?_
 refine CW_region ?_
 refine OW_run' hE.ok 1 rfl ?_
 refine OW_end rfl ?_
 refine CW_block ?_
 refine CW_loop (σ := {i : Nat // i ≤ xs.length - 1}) (fun i => ⟨C i.1, (sset (sset (sset noSlots 0 (.d (.fn (.yield l) [] []))) 1 (.d (.iptr [.sl 1 16 (xs.map encB)]))) 3 (.d (int ((i.1 + 1 : Nat) : Int)))), noHeap⟩) (fun i => xs.length - i.1) ⟨0, Nat.zero_le _⟩ (LE_sh (slh_set (slh_set (slh_set (slh_no _ _) rfl rfl) rfl rfl) rfl rfl) (hlh_no _ _)) fun ⟨i, hi⟩ => ?_
 refine CW_seq ?_
 refine CW_seq ?_
 refine CW_region ?_
 refine OW_run' hE.ok 5 rfl ?_
 refine OW_end rfl ?_
 refine CW_cond _ rfl (fun h1 => ?_) (fun h1 => ?_)
 ·
  have hlt : i + 1 < xs.length := by have := h1; simp at this; omega
  obtain ⟨a, ha⟩ : ∃ a, xs[i]? = some a := ⟨_, List.getElem?_eq_getElem (by omega)⟩
  obtain ⟨b, hb⟩ : ∃ b, xs[i + 1]? = some b := ⟨_, List.getElem?_eq_getElem hlt⟩
  refine CW_skip ?_
  refine CW_seq ?_
  refine CW_block ?_
  refine CW_seq ?_
  refine CW_drawn' hE 12 (by decide +kernel) ?_
  refine HW_run hE 5 rfl rfl ?_
  refine HW_as 15 (.d (int (i : Nat))) (by show AV.d (int (IntKind.i64.wrap (((i + 1 : Nat) : Int) - 1))) = _; rw [wrap_pred (by omega)]) ?_
  refine HW_loc hE (loc_indexAddr hE rfl rfl rfl rfl rfl (by omega) (x := encB a) (by simp [ha])) rfl rfl rfl rfl ?_
  refine HW_run hE 4 rfl rfl ?_
  refine HW_loc hE (loc_indexAddr hE rfl rfl rfl rfl rfl (by omega) (x := encB b) (by simp [hb])) rfl rfl rfl rfl ?_
  refine HW_run hE 1 rfl rfl ?_
  refine HW_end ?_
  refine OW_yield' hE hy hC hX (Wrap.id _) (i) rfl rfl rfl rfl rfl rfl (pairsOf_get ha hb) rfl rfl rfl ?_ ?_
  ·
   refine OW_run' hE.ok 1 rfl ?_
   refine OW_end rfl ?_
   refine CW_false rfl ?_
   refine CW_skip ?_
   refine CW_region ?_
   refine OW_run' hE.ok 3 rfl ?_
   refine OW_end rfl ?_
   exact ⟨⟨i + 1, by omega⟩, LE_sh (slh_set (slh_set (slh_set (slh_no _ _) rfl rfl) rfl rfl) (by show AV.d (.lit (.int .i64 (IntKind.i64.wrap (((i + 1 : Nat) : Int) + 1)))) = _; rw [wrap_succ (by omega)]; rfl) rfl) (hlh_no _ _), by show xs.length - (i + 1) < xs.length - i; omega⟩
  ·
   refine OW_run' hE.ok 1 rfl ?_
   refine OW_end rfl ?_
   refine CW_true rfl ?_
   exact CW_ret ⟨.inr rfl, .inr rfl, _, rfl⟩
 ·
  have hge : ¬ i + 1 < xs.length := by have := h1; simp at this; omega
  refine CW_exit ?_
  have hN : i = (pairsOf xs).length := by rw [pairsOf_length]; omega
  show RetI _ _ _ _ .normal _
  exact ⟨.inl rfl, .inl (by show C i = _; rw [← hN]), _, rfl⟩
theorem pairs (xs : List ByteArray) : Does Tryd.prog 99 [.agg [.d (.sl 1 16 (xs.map encB))]] noHeap (.d (.fn (.func 102) [] [.iptr [.sl 1 16 (xs.map encB)]])) := by
 refine Does_of T_ok mixed (N := 4) Tryd.func99 rfl rfl rfl (by rfl) fun F n Z hE hF J => ?_
 refine CW_seq ?_
 refine CW_region ?_
 refine OW_run' hE.ok 2 rfl ?_
 refine OW_end rfl ?_
 refine CW_seq ?_
 refine CW_region ?_
 refine OW_run' hE.ok 2 rfl ?_
 refine OW_end rfl ?_
 refine CW_ret ?_
 refine ⟨.inr rfl, rfl, ⟨_, rfl, rfl, ?_⟩, rfl⟩
 exact AVle.refl _
theorem riseOk (xs : List ByteArray) : Does Tryd.prog 89 [.d (.sl 1 16 (xs.map encB))] noHeap (.d (boo (rise xs))) := by
 refine Does_of T_ok mixed (N := 13) Tryd.func89 rfl rfl rfl (by rfl) fun F n Z hE hF J => ?_
 refine CW_know (know_sl (d := 0) rfl) fun hlen => ?_
 rw [List.length_map] at hlen
 refine CW_seq ?_
 refine CW_region ?_
 refine OW_alloc' hE 1 rfl rfl rfl rfl rfl rfl rfl ?_
 refine OW_end rfl ?_
 refine CW_seq ?_
 refine CW_seq ?_
 refine CW_region ?_
 refine OW_run' hE.ok 1 rfl ?_
 refine OW_build' hE rfl rfl rfl rfl rfl ?_
 refine OW_call' hE (pairs _) rfl rfl rfl rfl rfl rfl rfl ?_
 refine OW_end rfl ?_
 refine CW_block ?_
 refine CW_rangeH hE hF (pairs1 xs hlen.1) rfl rfl rfl (pairsOf_kf xs) rfl 9 (fun _ => hset noHeap 1 (some (.box 4 [.d (boo false)])))
  (fun i => ∀ j a b, j < i → xs[j]? = some a → xs[j + 1]? = some b → Op.bytesLess a.toList b.toList = true) rfl (fun _ => rfl) (fun j a b hj => by omega) (fun F' n' Z' Br Bb hE hB vs i args hargs hp => ?_) (fun hp vs => ?_)
 ·
  obtain ⟨a, b, ha, hb, rfl⟩ := pairsOf_of hargs
  refine CW_seq ?_
  refine CW_region ?_
  refine OW_run' hE.ok 1 rfl ?_
  refine OW_end rfl ?_
  refine CW_region ?_
  refine OW_run' hE.ok 1 rfl ?_
  refine OW_end rfl ?_
  refine ⟨rfl, rfl, ?_⟩
  refine CW_block ?_
  refine CW_seq ?_
  refine CW_region ?_
  refine OW_run' hE.ok 3 rfl ?_
  refine OW_end rfl ?_
  refine CW_cond _ rfl (fun h1 => ?_) (fun h1 => ?_)
  ·
   refine CW_seq ?_
   refine CW_region ?_
   refine OW_store' hE rfl rfl rfl rfl rfl rfl rfl rfl rfl rfl rfl rfl ?_
   refine OW_end rfl ?_
   refine CW_ret ⟨_, LE.refl _ _, J, _, fun h => h, rfl, rfl, ?_⟩
   refine ⟨.inr rfl, rfl, ⟨_, rfl, rfl, ?_⟩, rfl⟩
   exact AVle.of (congrArg (fun b => AV.d (boo b)) (by rw [rise_bad ha hb (by simpa using h1)]))
  ·
   refine CW_skip ?_
   refine ⟨⟨Bb J, noSlots, (hset (hset noHeap 1 (some (.box 4 [.d (boo false)]))) 9 (some (.ghost _ vs)))⟩, LE_sh (slh_no _ _) (hlh_set (hlh_set (hlh_no _ _) rfl rfl) rfl rfl), J, rfl, rfl, rfl, fun j x y hj hx hy => ?_⟩
   by_cases hji : j = i
   · subst hji; rw [ha] at hx; rw [hb] at hy; cases hx; cases hy; simpa using h1
   · exact hp j x y (by omega) hx hy
 ·
  rw [pairsOf_length] at hp
  refine CW_seq ?_
  refine CW_region ?_
  refine OW_store' hE rfl rfl rfl rfl rfl rfl rfl rfl rfl rfl rfl rfl ?_
  refine OW_end rfl ?_
  refine CW_ret ?_
  refine ⟨.inr rfl, rfl, ⟨_, rfl, rfl, ?_⟩, rfl⟩
  exact AVle.of (congrArg (fun b => AV.d (boo b)) (by rw [rise_all (fun j a b hj => hp j a b (by omega))]))
theorem isTypeOk (t : Ty) : Does Tryd.prog 88 [argT t] noHeap (.d (boo (isType t))) := by
 refine Does_of T_ok mixed (N := 42) Tryd.func88 rfl rfl rfl (by rfl) fun F n Z hE hF J => ?_
 refine CW_seq ?_
 refine CW_region ?_
 refine OW_run' hE.ok 1 rfl ?_
 refine OW_alloc' hE 1 rfl rfl rfl rfl rfl rfl rfl ?_
 refine OW_end rfl ?_
 refine CW_seq ?_
 refine CW_seq ?_
 refine CW_region ?_
 refine OW_run' hE.ok 2 rfl ?_
 refine OW_call' hE (nameOk _) rfl rfl rfl rfl rfl rfl rfl ?_
 refine OW_run' hE.ok 2 rfl ?_
 refine OW_split' 9 rfl (fun h1 => ?_) (fun h1 => ?_)
 ·
  refine OW_run' hE.ok 5 rfl ?_
  refine OW_end rfl ?_
  refine CW_true rfl ?_
  refine CW_seq ?_
  refine CW_region ?_
  refine OW_store' hE rfl rfl rfl rfl rfl rfl rfl rfl rfl rfl rfl rfl ?_
  refine OW_end rfl ?_
  refine CW_ret ?_
  refine ⟨.inr rfl, rfl, ⟨_, rfl, rfl, ?_⟩, rfl⟩
  exact AVle.of (congrArg (fun b => AV.d (boo b)) (by simp_all [isType]))
 ·
  refine OW_run' hE.ok 5 rfl ?_
  refine OW_end rfl ?_
  refine CW_cond _ rfl (fun h2 => ?_) (fun h2 => ?_)
  ·
   refine CW_seq ?_
   refine CW_region ?_
   refine OW_store' hE rfl rfl rfl rfl rfl rfl rfl rfl rfl rfl rfl rfl ?_
   refine OW_end rfl ?_
   refine CW_ret ?_
   refine ⟨.inr rfl, rfl, ⟨_, rfl, rfl, ?_⟩, rfl⟩
   exact AVle.of (congrArg (fun b => AV.d (boo b)) (by simp_all [isType]; try omega))
  ·
   refine CW_skip ?_
   refine CW_seq ?_
   refine CW_seq ?_
   refine CW_region ?_
   refine OW_run' hE.ok 2 rfl ?_
   refine OW_call' hE (allF _) rfl rfl rfl rfl rfl rfl rfl ?_
   refine OW_end rfl ?_
   refine CW_block ?_
   refine CW_rangeH hE hF (allF1 t.fields) rfl rfl rfl (ysI_kf encF t.fields) rfl 9 (fun _ => hset noHeap 1 (some (.box 4 [.d (boo false)])))
    (fun i => ∀ j f, j < i → t.fields[j]? = some f → okF t j f = true) rfl (fun _ => rfl) (fun j a hj => by omega) (fun F' n' Z' Br Bb hE hB vs i args hargs hp => ?_) (fun hp vs => ?_)
   ·
    obtain ⟨a, ha, rfl⟩ := ysI_of hargs
    refine CW_seq ?_
    refine CW_region ?_
    refine OW_run' hE.ok 1 rfl ?_
    refine OW_end rfl ?_
    refine CW_region ?_
    refine OW_alloc' hE 2 rfl rfl rfl rfl rfl rfl rfl ?_
    refine OW_store' hE rfl rfl rfl rfl rfl rfl rfl rfl rfl rfl rfl rfl ?_
    refine OW_end rfl ?_
    refine ⟨rfl, rfl, ?_⟩
    refine CW_block ?_
    refine CW_seq ?_
    refine CW_region ?_
    refine OW_run' hE.ok 2 rfl ?_
    refine OW_call' hE (nameOk _) rfl rfl rfl rfl rfl rfl rfl ?_
    refine OW_run' hE.ok 2 rfl ?_
    refine OW_split' 24 rfl (fun h3 => ?_) (fun h3 => ?_)
    ·
     refine OW_run' hE.ok 17 rfl ?_
     refine OW_end rfl ?_
     refine CW_true rfl ?_
     refine CW_seq ?_
     refine CW_region ?_
     refine OW_store' hE rfl rfl rfl rfl rfl rfl rfl rfl rfl rfl rfl rfl ?_
     refine OW_end rfl ?_
     refine CW_ret ⟨_, LE.refl _ _, J, _, fun h => h, rfl, rfl, ?_⟩
     refine ⟨.inr rfl, rfl, ⟨_, rfl, rfl, ?_⟩, rfl⟩
     exact AVle.of (congrArg (fun b => AV.d (boo b)) (by rw [okFs_bad ha (by simp_all [okF]; try omega)]))
    ·
     refine OW_run' hE.ok 5 rfl ?_
     refine OW_split' 29 rfl (fun h4 => ?_) (fun h4 => ?_)
     ·
      refine OW_run' hE.ok 12 rfl ?_
      refine OW_end rfl ?_
      refine CW_true rfl ?_
      refine CW_seq ?_
      refine CW_region ?_
      refine OW_store' hE rfl rfl rfl rfl rfl rfl rfl rfl rfl rfl rfl rfl ?_
      refine OW_end rfl ?_
      refine CW_ret ⟨_, LE.refl _ _, J, _, fun h => h, rfl, rfl, ?_⟩
      refine ⟨.inr rfl, rfl, ⟨_, rfl, rfl, ?_⟩, rfl⟩
      exact AVle.of (congrArg (fun b => AV.d (boo b)) (by rw [okFs_bad ha (by simp_all [okF]; try omega)]))
     ·
      refine OW_run' hE.ok 5 rfl ?_
      refine OW_split' 34 rfl (fun h5 => ?_) (fun h5 => ?_)
      ·
       refine OW_run' hE.ok 7 rfl ?_
       refine OW_end rfl ?_
       refine CW_true rfl ?_
       refine CW_seq ?_
       refine CW_region ?_
       refine OW_store' hE rfl rfl rfl rfl rfl rfl rfl rfl rfl rfl rfl rfl ?_
       refine OW_end rfl ?_
       refine CW_ret ⟨_, LE.refl _ _, J, _, fun h => h, rfl, rfl, ?_⟩
       refine ⟨.inr rfl, rfl, ⟨_, rfl, rfl, ?_⟩, rfl⟩
       exact AVle.of (congrArg (fun b => AV.d (boo b)) (by rw [okFs_bad ha (by simp_all [okF]; try omega)]))
      ·
       refine OW_run' hE.ok 3 rfl ?_
       refine OW_call' hE (fieldOk _ _) rfl rfl rfl rfl rfl rfl rfl ?_
       refine OW_run' hE.ok 3 rfl ?_
       refine OW_end rfl ?_
       refine CW_cond _ rfl (fun h6 => ?_) (fun h6 => ?_)
       ·
        refine CW_seq ?_
        refine CW_region ?_
        refine OW_store' hE rfl rfl rfl rfl rfl rfl rfl rfl rfl rfl rfl rfl ?_
        refine OW_end rfl ?_
        refine CW_ret ⟨_, LE.refl _ _, J, _, fun h => h, rfl, rfl, ?_⟩
        refine ⟨.inr rfl, rfl, ⟨_, rfl, rfl, ?_⟩, rfl⟩
        exact AVle.of (congrArg (fun b => AV.d (boo b)) (by rw [okFs_bad ha (by simp_all [okF]; try omega)]))
       ·
        refine CW_skip ?_
        refine ⟨⟨Bb J, noSlots, (hset (hset noHeap 1 (some (.box 4 [.d (boo false)]))) 9 (some (.ghost _ vs)))⟩, LE_sh (slh_no _ _) (hlh_set (hlh_set (hlh_no _ _) rfl rfl) rfl rfl), J, rfl, rfl, rfl, fun j f hj hf => ?_⟩
        by_cases hji : j = i
        · subst hji; rw [ha] at hf; cases hf; simp_all [okF]; try omega
        · exact hp j f (by omega) hf
   ·
    rw [ysI_length] at hp
    have hall := okFs_all hp
    refine CW_seq ?_
    refine CW_region ?_
    refine OW_store' hE rfl rfl rfl rfl rfl rfl rfl rfl rfl rfl rfl rfl ?_
    refine OW_end rfl ?_
    refine CW_ret ?_
    refine ⟨.inr rfl, rfl, ⟨_, rfl, rfl, ?_⟩, rfl⟩
    exact AVle.of (congrArg (fun b => AV.d (boo b)) (by simp_all [isType]; try omega))
theorem isOk (s : List Ty) : Does Tryd.prog 63 [argS s] noHeap (.d (boo (isSchema s))) := by
 refine Does_of T_ok mixed (N := 26) Tryd.func63 rfl rfl rfl (by rfl) fun F n Z hE hF J => ?_
 refine CW_seq ?_
 refine CW_region ?_
 refine OW_run' hE.ok 1 rfl ?_
 refine OW_alloc' hE 1 rfl rfl rfl rfl rfl rfl rfl ?_
 refine OW_end rfl ?_
 refine CW_seq ?_
 refine CW_region ?_
 refine OW_alloc' hE 2 rfl rfl rfl rfl rfl rfl rfl ?_
 refine OW_end rfl ?_
 refine CW_seq ?_
 refine CW_seq ?_
 refine CW.le (LE_nilRow 2 20 9 1 rfl rfl) ?_
 rw [hset_comm _ (by omega : (20 : Nat) ≠ 2), hset_hset]
 refine CW_region ?_
 refine OW_run' hE.ok 2 rfl ?_
 refine OW_call' hE (allT _) rfl rfl rfl rfl rfl rfl rfl ?_
 refine OW_end rfl ?_
 refine CW_block ?_
 refine CW_know (know_sl (d := 7) rfl) fun hlen => ?_
 rw [List.length_map] at hlen
 refine CW_rangeH hE hF (allT1 s) rfl rfl rfl (ysI_kf encT s) rfl 9 (fun i => (hset (hset (hset noHeap 1 (some (.box 4 [.d (boo false)]))) 2 (some (.box 139 [.row 20]))) 20 (some (.row 9 1 (((s.take i).map (·.name)).map encB)))))
  (fun i => ∀ j t, j < i → s[j]? = some t → isType t = true) rfl (fun _ => rfl) (fun j a hj => by omega) (fun F' n' Z' Br Bb hE hB vs i args hargs hp => ?_) (fun hp vs => ?_)
 ·
  obtain ⟨a, ha, rfl⟩ := ysI_of hargs
  refine CW_region ?_
  refine OW_alloc' hE 3 rfl rfl rfl rfl rfl rfl rfl ?_
  refine OW_store' hE rfl rfl rfl rfl rfl rfl rfl rfl rfl rfl rfl rfl ?_
  refine OW_end rfl ?_
  refine ⟨rfl, rfl, ?_⟩
  refine CW_block ?_
  refine CW_seq ?_
  refine CW_seq ?_
  refine CW_region ?_
  refine OW_run' hE.ok 1 rfl ?_
  refine OW_call' hE (isTypeOk _) rfl rfl rfl rfl rfl rfl rfl ?_
  refine OW_run' hE.ok 1 rfl ?_
  refine OW_end rfl ?_
  refine CW_cond _ rfl (fun h1 => ?_) (fun h1 => ?_)
  ·
   refine CW_seq ?_
   refine CW_region ?_
   refine OW_store' hE rfl rfl rfl rfl rfl rfl rfl rfl rfl rfl rfl rfl ?_
   refine OW_end rfl ?_
   refine CW_ret ⟨_, LE.refl _ _, J, _, fun h => h, rfl, rfl, ?_⟩
   refine ⟨.inr rfl, rfl, ⟨_, rfl, rfl, ?_⟩, rfl⟩
   exact AVle.of (congrArg (fun b => AV.d (boo b)) (by rw [isSchema, isSchema_bad ha (by simpa using h1)]))
  ·
   refine CW_skip ?_
   refine CW_region ?_
   refine OW_run' hE.ok 3 rfl ?_
   refine OW_lits' hE rfl rfl rfl rfl rfl rfl rfl rfl rfl rfl rfl rfl ?_
   refine OW_append' hE (key := 20) rfl rfl rfl rfl rfl rfl rfl rfl (.inl rfl) (by have := (List.getElem?_eq_some_iff.1 ha).1; simp; omega) (by have := (List.getElem?_eq_some_iff.1 ha).1; simp; omega) rfl ?_
   refine OW_store' hE rfl rfl rfl rfl rfl rfl rfl rfl rfl rfl rfl rfl ?_
   refine OW_end rfl ?_
   refine ⟨⟨Bb J, noSlots, (hset (hset (hset (hset noHeap 1 (some (.box 4 [.d (boo false)]))) 2 (some (.box 139 [.row 20]))) 20 (some (.row 9 1 (((s.take (i + 1)).map (·.name)).map encB)))) 9 (some (.ghost _ vs)))⟩, LE_sh (slh_no _ _) (hlh_set (hlh_set (hlh_set (hlh_set (hlh_no _ _) rfl rfl) rfl rfl) (congrArg (fun z => some (Ent.row 9 1 z)) (by rw [List.map_map, List.map_map, take_snoc ha]; rfl)) rfl) rfl rfl), J, rfl, rfl, rfl, fun j f hj hf => ?_⟩
   by_cases hji : j = i
   · subst hji; rw [ha] at hf; cases hf; simpa using h1
   · exact hp j f (by omega) hf
 ·
  rw [ysI_length] at hp
  have hall := all_of hp
  refine CW_seq ?_
  refine CW.le (LE_freeze 20 16 rfl (by simp; omega)) ?_
  refine CW_region ?_
  refine OW_run' hE.ok 4 rfl ?_
  refine OW_split' 22 rfl (fun h2 => ?_) (fun h2 => ?_)
  ·
   refine OW_run' hE.ok 1 rfl ?_
   refine OW_call' hE (riseOk ((s.take (ysI encT s).length).map (·.name))) rfl rfl rfl rfl rfl rfl rfl ?_
   refine OW_run' hE.ok 1 rfl ?_
   refine OW_store' hE rfl rfl rfl rfl rfl rfl rfl rfl rfl rfl rfl rfl ?_
   refine OW_end rfl ?_
   refine CW_ret ?_
   refine ⟨.inr rfl, rfl, ⟨_, rfl, rfl, ?_⟩, rfl⟩
   exact AVle.of (congrArg (fun b => AV.d (boo b)) (by simp_all [isSchema, ysI_length]; try omega))
  ·
   refine OW_run' hE.ok 3 rfl ?_
   refine OW_store' hE rfl rfl rfl rfl rfl rfl rfl rfl rfl rfl rfl rfl ?_
   refine OW_end rfl ?_
   refine CW_ret ?_
   refine ⟨.inr rfl, rfl, ⟨_, rfl, rfl, ?_⟩, rfl⟩
   exact AVle.of (congrArg (fun b => AV.d (boo b)) (by simp_all [isSchema, ysI_length]; try omega))
end Go.Proofs.YtchpllgeahnmmaaDoor
