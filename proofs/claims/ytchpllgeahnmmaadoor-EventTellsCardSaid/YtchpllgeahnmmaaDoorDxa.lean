/- Parts of an abstract logic over the kit's walks, and walks in it: D7a, D7v, D7e, D7r, D7q. -/
import Derived.Test.YtchpllgeahnmmaaDoorD7t
import Derived.Test.YtchpllgeahnmmaaDoorBa
import Derived.Test.YtchpllgeahnmmaaDoorMe
namespace Go.Proofs.YtchpllgeahnmmaaDoor
open Go Go.AL
set_option linter.unusedVariables false
set_option linter.unusedSimpArgs false
set_option maxHeartbeats 4000000
theorem find1 (t : Ty) (nm : ByteArray) : Does Tryd.prog 70 [argT t, .d (.iptr [str nm])] noHeap (.d (boo (same t.name nm))) := by
 refine Does_of T_ok mixed (N := 8) Tryd.func70 rfl rfl rfl (by rfl) fun F n Z hE hF J => ?_
 refine CW_seq ?_
 refine CW_region ?_
 refine OW_run' hE.ok 2 rfl ?_
 refine OW_end rfl ?_
 refine CW_seq ?_
 refine CW_region ?_
 refine OW_run' hE.ok 5 rfl ?_
 refine OW_end rfl ?_
 refine CW_ret ?_
 refine ⟨.inr rfl, rfl, ⟨_, rfl, rfl, ?_⟩, rfl⟩
 exact AVle.refl _
theorem field1 (f : Fld) (nm : ByteArray) : Does Tryd.prog 72 [argF f, .d (.iptr [str nm])] noHeap (.d (boo (same f.name nm))) := by
 refine Does_of T_ok mixed (N := 8) Tryd.func72 rfl rfl rfl (by rfl) fun F n Z hE hF J => ?_
 refine CW_seq ?_
 refine CW_region ?_
 refine OW_run' hE.ok 2 rfl ?_
 refine OW_end rfl ?_
 refine CW_seq ?_
 refine CW_region ?_
 refine OW_run' hE.ok 5 rfl ?_
 refine OW_end rfl ?_
 refine CW_ret ?_
 refine ⟨.inr rfl, rfl, ⟨_, rfl, rfl, ?_⟩, rfl⟩
 exact AVle.refl _
theorem indexT (l : List Ty) (k : Nat) (first cap : List D) (p : Ty → Bool) (hc : ∀ a ∈ l, Does Tryd.prog k (first.map .d ++ [.agg ((encT a).map .d)] ++ cap.map .d) noHeap (.d (boo (p a)))) : Does Tryd.prog 54 [.d (.sl 2 40 (l.map encT)), .d (.fn (.func k) first cap)] noHeap (.d (int (idx p l))) := by
 refine Does_of T_ok mixed (N := 19) Tryd.func54 rfl rfl rfl (by rfl) fun F n Z hE hF J => ?_
 refine CW_know (know_sl (d := 0) rfl) fun hlen => ?_
 rw [List.length_map] at hlen
 refine CW_seq ?_
 refine CW_region ?_
 refine OW_run' hE.ok 1 rfl ?_
 refine OW_end rfl ?_
 refine CW_seq ?_
 refine CW_seq ?_
 refine CW_region ?_
 refine OW_run' hE.ok 3 rfl ?_
 refine OW_end rfl ?_
 refine CW_block ?_
 refine CW_loop (σ := {i : Nat // i ≤ l.length ∧ ∀ j a, j < i → l[j]? = some a → p a = false})
  (fun i => ⟨J, (sset (sset (sset (sset noSlots 0 (.d (.sl 2 40 (l.map encT)))) 1 (.d (.fn (.func k) first cap))) 7 (.d (.lit (.int .i64 l.length)))) 8 (.d (.lit (.int .i64 i.1)))), noHeap⟩) (fun i => l.length - i.1) ⟨0, Nat.zero_le _, by omega⟩ (LE_s (sle_set (sle_set (sle_set (sle_set (sle_no _) rfl) rfl) (by show AV.d (.lit (.int .i64 ((l.map encT).length : Int))) = _; rw [List.length_map])) rfl)) fun ⟨i, hi, hp⟩ => ?_
 refine CW_seq ?_
 refine CW_region ?_
 refine OW_run' hE.ok 1 rfl ?_
 refine OW_end rfl ?_
 refine CW_seq ?_
 refine CW_cond _ rfl (fun h1 => ?_) (fun h1 => ?_)
 ·
  have hlt : i < l.length := by have := h1; simp at this; omega
  obtain ⟨a, ha⟩ : ∃ a, l[i]? = some a := ⟨_, List.getElem?_eq_getElem hlt⟩
  have hcall := hc a (List.mem_of_getElem? ha)
  refine CW_skip ?_
  refine CW_seq ?_
  refine CW_block ?_
  refine CW_seq ?_
  refine CW_region ?_
  refine OW_run' hE.ok 2 rfl ?_
  refine OW_end rfl ?_
  refine CW_seq ?_
  refine CW_region ?_
  refine OW_run' hE.ok 3 rfl ?_
  refine OW_loc' hE (loc_indexAddr hE rfl rfl rfl rfl rfl (by omega) (x := encT a) (by simp [ha])) rfl rfl rfl ?_
  refine OW_run' hE.ok 1 rfl ?_
  refine OW_call' hE (hcall) rfl rfl rfl rfl (kfs_fn rfl) rfl rfl ?_
  refine OW_end rfl ?_
  refine CW_cond _ rfl (fun h2 => ?_) (fun h2 => ?_)
  ·
   refine CW_seq ?_
   refine CW_region ?_
   refine OW_run' hE.ok 2 rfl ?_
   refine OW_end rfl ?_
   refine CW_ret ?_
   refine ⟨.inr rfl, rfl, ⟨_, rfl, rfl, ?_⟩, rfl⟩
   rw [idx_some ha h2 hp]
   exact AVle.refl _
  ·
   refine CW_skip ?_
   refine CW_region ?_
   refine OW_run' hE.ok 2 rfl ?_
   refine OW_end rfl ?_
   refine ⟨⟨i + 1, hlt, fun j b hj hb => ?_⟩, LE_s (sle_set (sle_set (sle_set (sle_set (sle_no _) rfl) rfl) rfl) (by show AV.d (.lit (.int .i64 (IntKind.i64.wrap (↑i + 1)))) = _; rw [wrap_succ (by omega)])), by show l.length - (i + 1) < l.length - i; omega⟩
   by_cases hji : j = i
   · subst hji; rw [ha] at hb; cases hb; exact h2
   · exact hp j b (by omega) hb
 ·
  have hge : ¬ i < l.length := by have := h1; simp at this; omega
  refine CW_exit ?_
  show CW _ _ _ _
  refine CW_seq ?_
  refine CW_region ?_
  refine OW_run' hE.ok 1 rfl ?_
  refine OW_end rfl ?_
  refine CW_ret ?_
  refine ⟨.inr rfl, rfl, ⟨_, rfl, rfl, ?_⟩, rfl⟩
  rw [idx_none (fun j b hj => hp j b (by omega))]
  exact AVle.refl _
theorem indexF (l : List Fld) (k : Nat) (first cap : List D) (p : Fld → Bool) (hc : ∀ a ∈ l, Does Tryd.prog k (first.map .d ++ [.agg ((encF a).map .d)] ++ cap.map .d) noHeap (.d (boo (p a)))) : Does Tryd.prog 71 [.d (.sl 2 24 (l.map encF)), .d (.fn (.func k) first cap)] noHeap (.d (int (idx p l))) := by
 refine Does_of T_ok mixed (N := 19) Tryd.func71 rfl rfl rfl (by rfl) fun F n Z hE hF J => ?_
 refine CW_know (know_sl (d := 0) rfl) fun hlen => ?_
 rw [List.length_map] at hlen
 refine CW_seq ?_
 refine CW_region ?_
 refine OW_run' hE.ok 1 rfl ?_
 refine OW_end rfl ?_
 refine CW_seq ?_
 refine CW_seq ?_
 refine CW_region ?_
 refine OW_run' hE.ok 3 rfl ?_
 refine OW_end rfl ?_
 refine CW_block ?_
 refine CW_loop (σ := {i : Nat // i ≤ l.length ∧ ∀ j a, j < i → l[j]? = some a → p a = false})
  (fun i => ⟨J, (sset (sset (sset (sset noSlots 0 (.d (.sl 2 24 (l.map encF)))) 1 (.d (.fn (.func k) first cap))) 7 (.d (.lit (.int .i64 l.length)))) 8 (.d (.lit (.int .i64 i.1)))), noHeap⟩) (fun i => l.length - i.1) ⟨0, Nat.zero_le _, by omega⟩ (LE_s (sle_set (sle_set (sle_set (sle_set (sle_no _) rfl) rfl) (by show AV.d (.lit (.int .i64 ((l.map encF).length : Int))) = _; rw [List.length_map])) rfl)) fun ⟨i, hi, hp⟩ => ?_
 refine CW_seq ?_
 refine CW_region ?_
 refine OW_run' hE.ok 1 rfl ?_
 refine OW_end rfl ?_
 refine CW_seq ?_
 refine CW_cond _ rfl (fun h1 => ?_) (fun h1 => ?_)
 ·
  have hlt : i < l.length := by have := h1; simp at this; omega
  obtain ⟨a, ha⟩ : ∃ a, l[i]? = some a := ⟨_, List.getElem?_eq_getElem hlt⟩
  have hcall := hc a (List.mem_of_getElem? ha)
  refine CW_skip ?_
  refine CW_seq ?_
  refine CW_block ?_
  refine CW_seq ?_
  refine CW_region ?_
  refine OW_run' hE.ok 2 rfl ?_
  refine OW_end rfl ?_
  refine CW_seq ?_
  refine CW_region ?_
  refine OW_run' hE.ok 3 rfl ?_
  refine OW_loc' hE (loc_indexAddr hE rfl rfl rfl rfl rfl (by omega) (x := encF a) (by simp [ha])) rfl rfl rfl ?_
  refine OW_run' hE.ok 1 rfl ?_
  refine OW_call' hE (hcall) rfl rfl rfl rfl (kfs_fn rfl) rfl rfl ?_
  refine OW_end rfl ?_
  refine CW_cond _ rfl (fun h2 => ?_) (fun h2 => ?_)
  ·
   refine CW_seq ?_
   refine CW_region ?_
   refine OW_run' hE.ok 2 rfl ?_
   refine OW_end rfl ?_
   refine CW_ret ?_
   refine ⟨.inr rfl, rfl, ⟨_, rfl, rfl, ?_⟩, rfl⟩
   rw [idx_some ha h2 hp]
   exact AVle.refl _
  ·
   refine CW_skip ?_
   refine CW_region ?_
   refine OW_run' hE.ok 2 rfl ?_
   refine OW_end rfl ?_
   refine ⟨⟨i + 1, hlt, fun j b hj hb => ?_⟩, LE_s (sle_set (sle_set (sle_set (sle_set (sle_no _) rfl) rfl) rfl) (by show AV.d (.lit (.int .i64 (IntKind.i64.wrap (↑i + 1)))) = _; rw [wrap_succ (by omega)])), by show l.length - (i + 1) < l.length - i; omega⟩
   by_cases hji : j = i
   · subst hji; rw [ha] at hb; cases hb; exact h2
   · exact hp j b (by omega) hb
 ·
  have hge : ¬ i < l.length := by have := h1; simp at this; omega
  refine CW_exit ?_
  show CW _ _ _ _
  refine CW_seq ?_
  refine CW_region ?_
  refine OW_run' hE.ok 1 rfl ?_
  refine OW_end rfl ?_
  refine CW_ret ?_
  refine ⟨.inr rfl, rfl, ⟨_, rfl, rfl, ?_⟩, rfl⟩
  rw [idx_none (fun j b hj => hp j b (by omega))]
  exact AVle.refl _
theorem fieldOk (t : Ty) (nm : ByteArray) : Does Tryd.prog 39 [argT t, .d (str nm)] noHeap (.d (int (fieldAt t nm))) := by
 refine Does_of T_ok mixed (N := 9) Tryd.func39 rfl rfl rfl (by rfl) fun F n Z hE hF J => ?_
 refine CW_seq ?_
 refine CW_region ?_
 refine OW_run' hE.ok 3 rfl ?_
 refine OW_end rfl ?_
 refine CW_seq ?_
 refine CW_region ?_
 refine OW_run' hE.ok 3 rfl ?_
 refine OW_call' hE (indexF t.fields 72 [] [.iptr [str nm]] (fun f => same f.name nm) (fun a _ => field1 a nm)) rfl rfl rfl rfl rfl rfl rfl ?_
 refine OW_run' hE.ok 1 rfl ?_
 refine OW_end rfl ?_
 refine CW_ret ?_
 refine ⟨.inr rfl, rfl, ⟨_, rfl, rfl, ?_⟩, rfl⟩
 exact AVle.refl _
theorem findOk (s : List Ty) (nm : ByteArray) : Does Tryd.prog 38 [argS s, .d (str nm)] noHeap (.tup [argT (findT s nm).1, .d (boo (findT s nm).2)]) := by
 refine Does_of T_ok mixed (N := 19) Tryd.func38 rfl rfl rfl (by rfl) fun F n Z hE hF J => ?_
 refine CW_seq ?_
 refine CW_region ?_
 refine OW_run' hE.ok 2 rfl ?_
 refine OW_alloc' hE 1 rfl rfl rfl rfl rfl rfl rfl ?_
 refine OW_run' hE.ok 1 rfl ?_
 refine OW_end rfl ?_
 refine CW_seq ?_
 refine CW_region ?_
 refine OW_run' hE.ok 3 rfl ?_
 refine OW_call' hE (indexT s 70 [] [.iptr [str nm]] (fun t => same t.name nm) (fun a _ => find1 a nm)) rfl rfl rfl rfl rfl rfl rfl ?_
 refine OW_run' hE.ok 1 rfl ?_
 refine OW_end rfl ?_
 refine CW_seq ?_
 refine CW_seq ?_
 refine CW_region ?_
 refine OW_run' hE.ok 2 rfl ?_
 refine OW_end rfl ?_
 refine CW_cond _ rfl (fun h1 => ?_) (fun h1 => ?_)
 ·
  have hn := find_neg h1
  refine CW_seq ?_
  refine CW_region ?_
  refine OW_build' hE rfl rfl rfl rfl rfl ?_
  refine OW_store' hE rfl rfl rfl rfl rfl rfl rfl rfl rfl rfl rfl rfl ?_
  refine OW_run' hE.ok 1 rfl ?_
  refine OW_end rfl ?_
  refine CW_ret ?_
  refine ⟨.inr rfl, rfl, ⟨_, rfl, rfl, ?_⟩, rfl⟩
  rw [hn]
  exact AVle.tup (.cons (.agg (.cons (.refl _) (.cons (.nilSl 2 24) .nil))) (.cons (.refl _) .nil))
 ·
  obtain ⟨i, a, hi, ha, hr⟩ := find_pos h1
  refine CW_skip ?_
  refine CW_seq ?_
  refine CW_as' 6 (.d (int (i : Nat))) (congrArg (fun z => AV.d (int z)) hi) ?_
  refine CW_region ?_
  refine OW_run' hE.ok 3 rfl ?_
  refine OW_loc' hE (loc_indexAddr hE rfl rfl rfl rfl rfl (by omega) (x := encT a) (by simp [ha])) rfl rfl rfl ?_
  refine OW_run' hE.ok 1 rfl ?_
  refine OW_store' hE rfl rfl rfl rfl rfl rfl rfl rfl rfl rfl rfl rfl ?_
  refine OW_run' hE.ok 1 rfl ?_
  refine OW_end rfl ?_
  refine CW_ret ?_
  refine ⟨.inr rfl, rfl, ⟨_, rfl, rfl, ?_⟩, rfl⟩
  rw [hr]
  exact AVle.refl _
theorem nameOk (s : ByteArray) : Does Tryd.prog 51 [.d (str s)] noHeap (.d (boo (isName s))) := by
 refine Does_of T_ok mixed (N := 27) Tryd.func51 rfl rfl rfl (by rfl) fun F n Z hE hF J => ?_
 refine CW_know (know_str (d := 0) rfl) fun hlen => ?_
 refine CW_seq ?_
 refine CW_region ?_
 refine OW_run' hE.ok 1 rfl ?_
 refine OW_end rfl ?_
 refine CW_seq ?_
 refine CW_seq ?_
 refine CW_region ?_
 refine OW_run' hE.ok 3 rfl ?_
 refine OW_end rfl ?_
 refine CW_block ?_
 refine CW_loop (σ := {i : Nat // i ≤ s.size ∧ ∀ j c, j < i → s.data.toList[j]? = some c → small c = true})
  (fun i => ⟨J, (sset (sset (sset noSlots 0 (.d (str s))) 5 (.d (.lit (.int .i64 s.size)))) 6 (.d (.lit (.int .i64 i.1)))), noHeap⟩) (fun i => s.size - i.1) ⟨0, Nat.zero_le _, by omega⟩ (LE_s (sle_set (sle_set (sle_set (sle_no _) rfl) rfl) rfl)) fun ⟨i, hi, hp⟩ => ?_
 refine CW_seq ?_
 refine CW_region ?_
 refine OW_run' hE.ok 1 rfl ?_
 refine OW_end rfl ?_
 refine CW_seq ?_
 refine CW_cond _ rfl (fun h1 => ?_) (fun h1 => ?_)
 ·
  have hlt : i < s.size := by have := h1; simp at this; omega
  obtain ⟨c, ha⟩ : ∃ c, s.data.toList[i]? = some c := ⟨_, List.getElem?_eq_getElem (by simpa using hlt)⟩
  refine CW_skip ?_
  refine CW_seq ?_
  refine CW_block ?_
  refine CW_seq ?_
  refine CW_region ?_
  refine OW_run' hE.ok 2 rfl ?_
  refine OW_end rfl ?_
  refine CW_seq ?_
  refine CW_region ?_
  refine OW_run' hE.ok 2 rfl ?_
  refine OW_loc' hE (loc_index hE rfl rfl rfl rfl (by omega) (by simpa using ha)) rfl rfl rfl ?_
  refine OW_run' hE.ok 2 rfl ?_
  refine OW_split' 13 rfl (fun h2 => ?_) (fun h2 => ?_)
  ·
   have hbad : small c = false := small_lo h2
   refine OW_run' hE.ok 5 rfl ?_
   refine OW_end rfl ?_
   refine CW_true rfl ?_
   refine CW_seq ?_
   refine CW_region ?_
   refine OW_run' hE.ok 1 rfl ?_
   refine OW_end rfl ?_
   refine CW_ret ?_
   refine ⟨.inr rfl, rfl, ⟨_, rfl, rfl, ?_⟩, rfl⟩
   exact AVle.of (congrArg (fun b => AV.d (boo b)) (by rw [isName_bad ha hbad]))
  ·
   refine OW_run' hE.ok 2 rfl ?_
   refine OW_loc' hE (loc_index hE rfl rfl rfl rfl (by omega) (by simpa using ha)) rfl rfl rfl ?_
   refine OW_run' hE.ok 2 rfl ?_
   refine OW_end rfl ?_
   refine CW_cond _ rfl (fun h3 => ?_) (fun h3 => ?_)
   ·
    have hbad : small c = false := small_hi h3
    refine CW_seq ?_
    refine CW_region ?_
    refine OW_run' hE.ok 1 rfl ?_
    refine OW_end rfl ?_
    refine CW_ret ?_
    refine ⟨.inr rfl, rfl, ⟨_, rfl, rfl, ?_⟩, rfl⟩
    exact AVle.of (congrArg (fun b => AV.d (boo b)) (by rw [isName_bad ha hbad]))
   ·
    have hsmall : small c = true := small_ok h2 h3
    refine CW_skip ?_
    refine CW_region ?_
    refine OW_run' hE.ok 2 rfl ?_
    refine OW_end rfl ?_
    refine ⟨⟨i + 1, hlt, fun j x hj hx => ?_⟩, LE_s (sle_set (sle_set (sle_set (sle_no _) rfl) rfl) (by show AV.d (.lit (.int .i64 (IntKind.i64.wrap (↑i + 1)))) = _; rw [wrap_succ (by omega)])), by show s.size - (i + 1) < s.size - i; omega⟩
    by_cases hji : j = i
    · subst hji; rw [ha] at hx; cases hx; exact hsmall
    · exact hp j x (by omega) hx
 ·
  have hge : ¬ i < s.size := by have := h1; simp at this; omega
  have hall := all_small hi hge hp
  refine CW_exit ?_
  show CW _ _ _ _
  refine CW_seq ?_
  refine CW_region ?_
  refine OW_run' hE.ok 3 rfl ?_
  refine OW_split' 22 rfl (fun h4 => ?_) (fun h4 => ?_)
  ·
   refine OW_run' hE.ok 5 rfl ?_
   refine OW_end rfl ?_
   refine CW_ret ?_
   refine ⟨.inr rfl, rfl, ⟨_, rfl, rfl, ?_⟩, rfl⟩
   exact AVle.of (congrArg (fun b => AV.d (boo b)) (by rw [name_end hall, h4]; rfl))
  ·
   refine OW_run' hE.ok 5 rfl ?_
   refine OW_end rfl ?_
   refine CW_ret ?_
   refine ⟨.inr rfl, rfl, ⟨_, rfl, rfl, ?_⟩, rfl⟩
   exact AVle.of (congrArg (fun b => AV.d (boo b)) (by rw [name_end hall, h4]; rfl))
theorem allT1 (xs : List Ty) : Iter Tryd.prog 96 [] [.d (.iptr [.sl 2 40 (xs.map encT)])] (ysI encT xs) := by
 refine Iter_of T_ok mixed (N := 18) Tryd.func96 rfl rfl rfl (by rfl) fun F n Z hE hF l C X hC hX hy => ?_
 refine CW_seq ?_
 refine CW_region ?_
 refine OW_run' hE.ok 3 rfl ?_
 refine OW_end rfl ?_
 refine CW_block ?_
 refine CW_know (know_sl (d := 5) rfl) fun hlen => ?_
 rw [List.length_map] at hlen
 refine CW_loop (σ := {i : Nat // i ≤ xs.length}) (fun i => ⟨C i.1, (sset (sset (sset (sset (sset noSlots 0 (.d (.fn (.yield l) [] []))) 1 (.d (.iptr [.sl 2 40 (xs.map encT)]))) 5 (.d (.sl 2 40 (xs.map encT)))) 6 (.d (.lit (.int .i64 xs.length)))) 7 (.d (.lit (.int .i64 i.1)))), noHeap⟩) (fun i => xs.length - i.1) ⟨0, Nat.zero_le _⟩ (LE_sh (slh_set (slh_set (slh_set (slh_set (slh_set (slh_no _ _) rfl rfl) rfl rfl) rfl rfl) (by show AV.d (.lit (.int .i64 ((xs.map encT).length : Int))) = _; rw [List.length_map]) rfl) rfl rfl) (hlh_no _ _)) fun ⟨i, hi⟩ => ?_
 refine CW_seq ?_
 refine CW_region ?_
 refine OW_run' hE.ok 1 rfl ?_
 refine OW_end rfl ?_
 refine CW_seq ?_
 refine CW_cond _ rfl (fun h1 => ?_) (fun h1 => ?_)
 ·
  have hlt : i < xs.length := by have := h1; simp at this; omega
  obtain ⟨a, ha⟩ : ∃ a, xs[i]? = some a := ⟨_, List.getElem?_eq_getElem hlt⟩
  refine CW_skip ?_
  refine CW_seq ?_
  refine CW_block ?_
  refine CW_seq ?_
  refine CW_region ?_
  refine OW_run' hE.ok 1 rfl ?_
  refine OW_loc' hE (loc_indexAddr hE rfl rfl rfl rfl rfl (by omega) (x := encT a) (by simp [ha])) rfl rfl rfl ?_
  refine OW_run' hE.ok 1 rfl ?_
  refine OW_alloc' hE 1 rfl rfl rfl rfl rfl rfl rfl ?_
  refine OW_run' hE.ok 1 rfl ?_
  refine OW_store' hE rfl rfl rfl rfl rfl rfl rfl rfl rfl rfl rfl rfl ?_
  refine OW_end rfl ?_
  refine CW_seq ?_
  refine CW_region ?_
  refine OW_run' hE.ok 3 rfl ?_
  refine OW_yield' hE hy hC hX (Wrap.id _) (i) rfl rfl rfl rfl rfl rfl (ysI_get ha) rfl rfl rfl ?_ ?_
  ·
   refine OW_run' hE.ok 1 rfl ?_
   refine OW_end rfl ?_
   refine CW_false rfl ?_
   refine CW_skip ?_
   refine CW_region ?_
   refine OW_run' hE.ok 2 rfl ?_
   refine OW_end rfl ?_
   exact ⟨⟨i + 1, hlt⟩, LE_sh (slh_set (slh_set (slh_set (slh_set (slh_set (slh_no _ _) rfl rfl) rfl rfl) rfl rfl) rfl rfl) (by show AV.d (.lit (.int .i64 (IntKind.i64.wrap (↑i + 1)))) = _; rw [wrap_succ (by omega)]) rfl) (hlh_no _ _), by show xs.length - (i + 1) < xs.length - i; omega⟩
  ·
   refine OW_run' hE.ok 1 rfl ?_
   refine OW_end rfl ?_
   refine CW_true rfl ?_
   exact CW_ret ⟨.inr rfl, .inr rfl, _, rfl⟩
 ·
  have hge : ¬ i < xs.length := by have := h1; simp at this; omega
  refine CW_exit ?_
  have hN : i = (ysI encT xs).length := by rw [ysI_length]; omega
  show RetI _ _ _ _ .normal _
  exact ⟨.inl rfl, .inl (by show C i = _; rw [← hN]), _, rfl⟩
theorem allT (xs : List Ty) : Does Tryd.prog 83 [.d (.sl 2 40 (xs.map encT))] noHeap (.d (.fn (.func 96) [] [.iptr [.sl 2 40 (xs.map encT)]])) := by
 refine Does_of T_ok mixed (N := 4) Tryd.func83 rfl rfl rfl (by rfl) fun F n Z hE hF J => ?_
 refine CW_seq ?_
 refine CW_region ?_
 refine OW_run' hE.ok 2 rfl ?_
 refine OW_end rfl ?_
 refine CW_seq ?_
 refine CW_region ?_
 refine OW_run' hE.ok 2 rfl ?_
 refine OW_end rfl ?_
 refine CW_ret ?_
 refine ⟨.inr rfl, rfl, ⟨_, rfl, rfl, ?_⟩, rfl⟩
 exact AVle.refl _
theorem allF1 (xs : List Fld) : Iter Tryd.prog 101 [] [.d (.iptr [.sl 2 24 (xs.map encF)])] (ysI encF xs) := by
 refine Iter_of T_ok mixed (N := 18) Tryd.func101 rfl rfl rfl (by rfl) fun F n Z hE hF l C X hC hX hy => ?_
 refine CW_seq ?_
 refine CW_region ?_
 refine OW_run' hE.ok 3 rfl ?_
 refine OW_end rfl ?_
 refine CW_block ?_
 refine CW_know (know_sl (d := 5) rfl) fun hlen => ?_
 rw [List.length_map] at hlen
 refine CW_loop (σ := {i : Nat // i ≤ xs.length}) (fun i => ⟨C i.1, (sset (sset (sset (sset (sset noSlots 0 (.d (.fn (.yield l) [] []))) 1 (.d (.iptr [.sl 2 24 (xs.map encF)]))) 5 (.d (.sl 2 24 (xs.map encF)))) 6 (.d (.lit (.int .i64 xs.length)))) 7 (.d (.lit (.int .i64 i.1)))), noHeap⟩) (fun i => xs.length - i.1) ⟨0, Nat.zero_le _⟩ (LE_sh (slh_set (slh_set (slh_set (slh_set (slh_set (slh_no _ _) rfl rfl) rfl rfl) rfl rfl) (by show AV.d (.lit (.int .i64 ((xs.map encF).length : Int))) = _; rw [List.length_map]) rfl) rfl rfl) (hlh_no _ _)) fun ⟨i, hi⟩ => ?_
 refine CW_seq ?_
 refine CW_region ?_
 refine OW_run' hE.ok 1 rfl ?_
 refine OW_end rfl ?_
 refine CW_seq ?_
 refine CW_cond _ rfl (fun h1 => ?_) (fun h1 => ?_)
 ·
  have hlt : i < xs.length := by have := h1; simp at this; omega
  obtain ⟨a, ha⟩ : ∃ a, xs[i]? = some a := ⟨_, List.getElem?_eq_getElem hlt⟩
  refine CW_skip ?_
  refine CW_seq ?_
  refine CW_block ?_
  refine CW_seq ?_
  refine CW_region ?_
  refine OW_run' hE.ok 1 rfl ?_
  refine OW_loc' hE (loc_indexAddr hE rfl rfl rfl rfl rfl (by omega) (x := encF a) (by simp [ha])) rfl rfl rfl ?_
  refine OW_run' hE.ok 1 rfl ?_
  refine OW_alloc' hE 1 rfl rfl rfl rfl rfl rfl rfl ?_
  refine OW_run' hE.ok 1 rfl ?_
  refine OW_store' hE rfl rfl rfl rfl rfl rfl rfl rfl rfl rfl rfl rfl ?_
  refine OW_end rfl ?_
  refine CW_seq ?_
  refine CW_region ?_
  refine OW_run' hE.ok 3 rfl ?_
  refine OW_yield' hE hy hC hX (Wrap.id _) (i) rfl rfl rfl rfl rfl rfl (ysI_get ha) rfl rfl rfl ?_ ?_
  ·
   refine OW_run' hE.ok 1 rfl ?_
   refine OW_end rfl ?_
   refine CW_false rfl ?_
   refine CW_skip ?_
   refine CW_region ?_
   refine OW_run' hE.ok 2 rfl ?_
   refine OW_end rfl ?_
   exact ⟨⟨i + 1, hlt⟩, LE_sh (slh_set (slh_set (slh_set (slh_set (slh_set (slh_no _ _) rfl rfl) rfl rfl) rfl rfl) rfl rfl) (by show AV.d (.lit (.int .i64 (IntKind.i64.wrap (↑i + 1)))) = _; rw [wrap_succ (by omega)]) rfl) (hlh_no _ _), by show xs.length - (i + 1) < xs.length - i; omega⟩
  ·
   refine OW_run' hE.ok 1 rfl ?_
   refine OW_end rfl ?_
   refine CW_true rfl ?_
   exact CW_ret ⟨.inr rfl, .inr rfl, _, rfl⟩
 ·
  have hge : ¬ i < xs.length := by have := h1; simp at this; omega
  refine CW_exit ?_
  have hN : i = (ysI encF xs).length := by rw [ysI_length]; omega
  show RetI _ _ _ _ .normal _
  exact ⟨.inl rfl, .inl (by show C i = _; rw [← hN]), _, rfl⟩
theorem allF (xs : List Fld) : Does Tryd.prog 98 [.d (.sl 2 24 (xs.map encF))] noHeap (.d (.fn (.func 101) [] [.iptr [.sl 2 24 (xs.map encF)]])) := by
 refine Does_of T_ok mixed (N := 4) Tryd.func98 rfl rfl rfl (by rfl) fun F n Z hE hF J => ?_
 refine CW_seq ?_
 refine CW_region ?_
 refine OW_run' hE.ok 2 rfl ?_
 refine OW_end rfl ?_
 refine CW_seq ?_
 refine CW_region ?_
 refine OW_run' hE.ok 2 rfl ?_
 refine OW_end rfl ?_
 refine CW_ret ?_
 refine ⟨.inr rfl, rfl, ⟨_, rfl, rfl, ?_⟩, rfl⟩
 exact AVle.refl _
end Go.Proofs.YtchpllgeahnmmaaDoor
namespace Go.Proofs.YtchpllgeahnmmaaDoor
open Go Go.AL
set_option linter.unusedVariables false
set_option linter.unusedSimpArgs false
set_option maxHeartbeats 4000000
theorem isTextOk (s : ByteArray) : Does Tryd.prog 78 [.d (str s)] noHeap (.d (boo (isText s))) := by
 refine Does_of T_ok mixed (N := 23) Tryd.func78 rfl rfl rfl (by rfl) fun F n Z hE hF J => ?_
 refine CW_know (know_str (d := 0) rfl) fun hlen => ?_
 refine CW_seq ?_
 refine CW_region ?_
 refine OW_run' hE.ok 1 rfl ?_
 refine OW_end rfl ?_
 refine CW_seq ?_
 refine CW_seq ?_
 refine CW_region ?_
 refine OW_run' hE.ok 3 rfl ?_
 refine OW_end rfl ?_
 refine CW_block ?_
 refine CW_loop (σ := {i : Nat // i ≤ s.size ∧ ∀ j c, j < i → s.data.toList[j]? = some c → shownC c = true})
  (fun i => ⟨J, (sset (sset (sset noSlots 0 (.d (str s))) 5 (.d (.lit (.int .i64 s.size)))) 6 (.d (.lit (.int .i64 i.1)))), noHeap⟩) (fun i => s.size - i.1) ⟨0, Nat.zero_le _, by omega⟩ (LE_s (sle_set (sle_set (sle_set (sle_no _) rfl) rfl) rfl)) fun ⟨i, hi, hp⟩ => ?_
 refine CW_seq ?_
 refine CW_region ?_
 refine OW_run' hE.ok 1 rfl ?_
 refine OW_end rfl ?_
 refine CW_seq ?_
 refine CW_cond _ rfl (fun h1 => ?_) (fun h1 => ?_)
 ·
  have hlt : i < s.size := by have := h1; simp at this; omega
  obtain ⟨c, ha⟩ : ∃ c, s.data.toList[i]? = some c := ⟨_, List.getElem?_eq_getElem (by simpa using hlt)⟩
  refine CW_skip ?_
  refine CW_seq ?_
  refine CW_block ?_
  refine CW_seq ?_
  refine CW_region ?_
  refine OW_run' hE.ok 2 rfl ?_
  refine OW_end rfl ?_
  refine CW_seq ?_
  refine CW_region ?_
  refine OW_run' hE.ok 2 rfl ?_
  refine OW_loc' hE (loc_index hE rfl rfl rfl rfl (by omega) (by simpa using ha)) rfl rfl rfl ?_
  refine OW_run' hE.ok 2 rfl ?_
  refine OW_split' 13 rfl (fun h2 => ?_) (fun h2 => ?_)
  ·
   have hbad : shownC c = false := shown_lo h2
   refine OW_run' hE.ok 5 rfl ?_
   refine OW_end rfl ?_
   refine CW_true rfl ?_
   refine CW_seq ?_
   refine CW_region ?_
   refine OW_run' hE.ok 1 rfl ?_
   refine OW_end rfl ?_
   refine CW_ret ?_
   refine ⟨.inr rfl, rfl, ⟨_, rfl, rfl, ?_⟩, rfl⟩
   exact AVle.of (congrArg (fun b => AV.d (boo b)) (by rw [isText_bad ha hbad]))
  ·
   refine OW_run' hE.ok 2 rfl ?_
   refine OW_loc' hE (loc_index hE rfl rfl rfl rfl (by omega) (by simpa using ha)) rfl rfl rfl ?_
   refine OW_run' hE.ok 2 rfl ?_
   refine OW_end rfl ?_
   refine CW_cond _ rfl (fun h3 => ?_) (fun h3 => ?_)
   ·
    have hbad : shownC c = false := shown_hi h3
    refine CW_seq ?_
    refine CW_region ?_
    refine OW_run' hE.ok 1 rfl ?_
    refine OW_end rfl ?_
    refine CW_ret ?_
    refine ⟨.inr rfl, rfl, ⟨_, rfl, rfl, ?_⟩, rfl⟩
    exact AVle.of (congrArg (fun b => AV.d (boo b)) (by rw [isText_bad ha hbad]))
   ·
    have hgood : shownC c = true := shown_ok h2 h3
    refine CW_skip ?_
    refine CW_region ?_
    refine OW_run' hE.ok 2 rfl ?_
    refine OW_end rfl ?_
    refine ⟨⟨i + 1, hlt, fun j x hj hx => ?_⟩, LE_s (sle_set (sle_set (sle_set (sle_no _) rfl) rfl) (by show AV.d (.lit (.int .i64 (IntKind.i64.wrap (↑i + 1)))) = _; rw [wrap_succ (by omega)])), by show s.size - (i + 1) < s.size - i; omega⟩
    by_cases hji : j = i
    · subst hji; rw [ha] at hx; cases hx; exact hgood
    · exact hp j x (by omega) hx
 ·
  have hge : ¬ i < s.size := by have := h1; simp at this; omega
  have hall := allShown hi hge hp
  refine CW_exit ?_
  show CW _ _ _ _
  refine CW_seq ?_
  refine CW_region ?_
  refine OW_run' hE.ok 4 rfl ?_
  refine OW_end rfl ?_
  refine CW_ret ?_
  refine ⟨.inr rfl, rfl, ⟨_, rfl, rfl, ?_⟩, rfl⟩
  exact AVle.of (congrArg (fun b => AV.d (boo b)) (by rw [text_end hall]))
theorem isValOk (v : Vl) : Does Tryd.prog 44 [argV v] noHeap (.d (boo (isVal v))) := by
 refine Does_of T_ok mixed (N := 35) Tryd.func44 rfl rfl rfl (by rfl) fun F n Z hE hF J => ?_
 refine CW_seq ?_
 refine CW_region ?_
 refine OW_run' hE.ok 2 rfl ?_
 refine OW_end rfl ?_
 refine CW_seq ?_
 refine CW_seq ?_
 refine CW_region ?_
 refine OW_run' hE.ok 2 rfl ?_
 refine OW_end rfl ?_
 refine CW_block ?_
 refine CW_seq ?_
 refine CW_region ?_
 refine OW_run' hE.ok 2 rfl ?_
 refine OW_end rfl ?_
 refine CW_cond _ rfl (fun h1 => ?_) (fun h1 => ?_)
 ·
  refine CW_seq ?_
  refine CW_region ?_
  refine OW_run' hE.ok 4 rfl ?_
  refine OW_end rfl ?_
  refine CW_ret ?_
  refine ⟨.inr rfl, rfl, ⟨_, rfl, rfl, ?_⟩, rfl⟩
  exact AVle.of (congrArg (fun b => AV.d (boo b)) (by simp_all [isVal, same, nul]))
 ·
  refine CW_seq ?_
  refine CW_region ?_
  refine OW_run' hE.ok 2 rfl ?_
  refine OW_end rfl ?_
  refine CW_cond _ rfl (fun h2 => ?_) (fun h2 => ?_)
  ·
   refine CW_seq ?_
   refine CW_region ?_
   refine OW_run' hE.ok 4 rfl ?_
   refine OW_split' 15 rfl (fun h3 => ?_) (fun h3 => ?_)
   ·
    refine OW_run' hE.ok 2 rfl ?_
    refine OW_call' hE (isTextOk _) rfl rfl rfl rfl rfl rfl rfl ?_
    refine OW_run' hE.ok 2 rfl ?_
    refine OW_end rfl ?_
    refine CW_ret ?_
    refine ⟨.inr rfl, rfl, ⟨_, rfl, rfl, ?_⟩, rfl⟩
    exact AVle.of (congrArg (fun b => AV.d (boo b)) (by simp_all [isVal, same, nul]))
   ·
    refine OW_run' hE.ok 5 rfl ?_
    refine OW_end rfl ?_
    refine CW_ret ?_
    refine ⟨.inr rfl, rfl, ⟨_, rfl, rfl, ?_⟩, rfl⟩
    exact AVle.of (congrArg (fun b => AV.d (boo b)) (by simp_all [isVal, same, nul]))
  ·
   refine CW_seq ?_
   refine CW_region ?_
   refine OW_run' hE.ok 2 rfl ?_
   refine OW_end rfl ?_
   refine CW_cond _ rfl (fun h4 => ?_) (fun h4 => ?_)
   ·
    refine CW_seq ?_
    refine CW_region ?_
    refine OW_run' hE.ok 4 rfl ?_
    refine OW_split' 25 rfl (fun h5 => ?_) (fun h5 => ?_)
    ·
     refine OW_run' hE.ok 10 rfl ?_
     refine OW_end rfl ?_
     refine CW_ret ?_
     refine ⟨.inr rfl, rfl, ⟨_, rfl, rfl, ?_⟩, rfl⟩
     exact AVle.of (congrArg (fun b => AV.d (boo b)) (by simp_all [isVal, same, nul]))
    ·
     refine OW_run' hE.ok 5 rfl ?_
     refine OW_split' 30 rfl (fun h6 => ?_) (fun h6 => ?_)
     ·
      refine OW_run' hE.ok 5 rfl ?_
      refine OW_end rfl ?_
      refine CW_ret ?_
      refine ⟨.inr rfl, rfl, ⟨_, rfl, rfl, ?_⟩, rfl⟩
      exact AVle.of (congrArg (fun b => AV.d (boo b)) (by simp_all [isVal, same, nul]))
     ·
      refine OW_run' hE.ok 5 rfl ?_
      refine OW_end rfl ?_
      refine CW_ret ?_
      refine ⟨.inr rfl, rfl, ⟨_, rfl, rfl, ?_⟩, rfl⟩
      exact AVle.of (congrArg (fun b => AV.d (boo b)) (by simp_all [isVal, same, nul]))
   ·
    refine CW_skip ?_
    refine CW_seq ?_
    refine CW_region ?_
    refine OW_run' hE.ok 1 rfl ?_
    refine OW_end rfl ?_
    refine CW_ret ?_
    refine ⟨.inr rfl, rfl, ⟨_, rfl, rfl, ?_⟩, rfl⟩
    exact AVle.of (congrArg (fun b => AV.d (boo b)) (by simp_all [isVal, same, nul]))
theorem plainOk (s : ByteArray) : Does Tryd.prog 80 [.d (str s)] noHeap (.d (boo (isText s))) := by
 refine Does_of T_ok mixed (N := 23) Tryd.func80 rfl rfl rfl (by rfl) fun F n Z hE hF J => ?_
 refine CW_know (know_str (d := 0) rfl) fun hlen => ?_
 refine CW_seq ?_
 refine CW_region ?_
 refine OW_run' hE.ok 1 rfl ?_
 refine OW_end rfl ?_
 refine CW_seq ?_
 refine CW_seq ?_
 refine CW_region ?_
 refine OW_run' hE.ok 1 rfl ?_
 refine OW_end rfl ?_
 refine CW_block ?_
 refine CW_loop (σ := {i : Nat // i ≤ s.size ∧ ∀ j c, j < i → s.data.toList[j]? = some c → shownC c = true})
  (fun i => ⟨J, (sset (sset noSlots 0 (.d (str s))) 3 (.d (.lit (.int .i64 i.1)))), noHeap⟩) (fun i => s.size - i.1) ⟨0, Nat.zero_le _, by omega⟩ (LE_s (sle_set (sle_set (sle_no _) rfl) rfl)) fun ⟨i, hi, hp⟩ => ?_
 refine CW_seq ?_
 refine CW_seq ?_
 refine CW_region ?_
 refine OW_run' hE.ok 4 rfl ?_
 refine OW_end rfl ?_
 refine CW_cond _ rfl (fun h1 => ?_) (fun h1 => ?_)
 ·
  have hlt : i < s.size := by have := h1; simp at this; omega
  obtain ⟨c, ha⟩ : ∃ c, s.data.toList[i]? = some c := ⟨_, List.getElem?_eq_getElem (by simpa using hlt)⟩
  refine CW_skip ?_
  refine CW_seq ?_
  refine CW_block ?_
  refine CW_seq ?_
  refine CW_region ?_
  refine OW_run' hE.ok 2 rfl ?_
  refine OW_loc' hE (loc_index hE rfl rfl rfl rfl (by omega) (by simpa using ha)) rfl rfl rfl ?_
  refine OW_run' hE.ok 2 rfl ?_
  refine OW_split' 14 rfl (fun h2 => ?_) (fun h2 => ?_)
  ·
   have hbad : shownC c = false := shown_lo h2
   refine OW_run' hE.ok 5 rfl ?_
   refine OW_end rfl ?_
   refine CW_true rfl ?_
   refine CW_seq ?_
   refine CW_region ?_
   refine OW_run' hE.ok 1 rfl ?_
   refine OW_end rfl ?_
   refine CW_ret ?_
   refine ⟨.inr rfl, rfl, ⟨_, rfl, rfl, ?_⟩, rfl⟩
   exact AVle.of (congrArg (fun b => AV.d (boo b)) (by rw [isText_bad ha hbad]))
  ·
   refine OW_run' hE.ok 2 rfl ?_
   refine OW_loc' hE (loc_index hE rfl rfl rfl rfl (by omega) (by simpa using ha)) rfl rfl rfl ?_
   refine OW_run' hE.ok 2 rfl ?_
   refine OW_end rfl ?_
   refine CW_cond _ rfl (fun h3 => ?_) (fun h3 => ?_)
   ·
    have hbad : shownC c = false := shown_hi h3
    refine CW_seq ?_
    refine CW_region ?_
    refine OW_run' hE.ok 1 rfl ?_
    refine OW_end rfl ?_
    refine CW_ret ?_
    refine ⟨.inr rfl, rfl, ⟨_, rfl, rfl, ?_⟩, rfl⟩
    exact AVle.of (congrArg (fun b => AV.d (boo b)) (by rw [isText_bad ha hbad]))
   ·
    have hgood : shownC c = true := shown_ok h2 h3
    refine CW_skip ?_
    refine CW_region ?_
    refine OW_run' hE.ok 3 rfl ?_
    refine OW_end rfl ?_
    refine ⟨⟨i + 1, hlt, fun j x hj hx => ?_⟩, LE_s (sle_set (sle_set (sle_no _) rfl) (by show AV.d (.lit (.int .i64 (IntKind.i64.wrap (↑i + 1)))) = _; rw [wrap_succ (by omega)])), by show s.size - (i + 1) < s.size - i; omega⟩
    by_cases hji : j = i
    · subst hji; rw [ha] at hx; cases hx; exact hgood
    · exact hp j x (by omega) hx
 ·
  have hge : ¬ i < s.size := by have := h1; simp at this; omega
  have hall := allShown hi hge hp
  refine CW_exit ?_
  show CW _ _ _ _
  refine CW_seq ?_
  refine CW_region ?_
  refine OW_run' hE.ok 4 rfl ?_
  refine OW_end rfl ?_
  refine CW_ret ?_
  refine ⟨.inr rfl, rfl, ⟨_, rfl, rfl, ?_⟩, rfl⟩
  exact AVle.of (congrArg (fun b => AV.d (boo b)) (by rw [text_end hall]))
theorem refNameOk (s : ByteArray) : Does Tryd.prog 36 [.d (str s)] noHeap (.d (boo (isName s))) := by
 refine Does_of T_ok mixed (N := 28) Tryd.func36 rfl rfl rfl (by rfl) fun F n Z hE hF J => ?_
 refine CW_know (know_str (d := 0) rfl) fun hlen => ?_
 refine CW_seq ?_
 refine CW_region ?_
 refine OW_run' hE.ok 1 rfl ?_
 refine OW_end rfl ?_
 refine CW_seq ?_
 refine CW_seq ?_
 refine CW_region ?_
 refine OW_run' hE.ok 1 rfl ?_
 refine OW_end rfl ?_
 refine CW_block ?_
 refine CW_loop (σ := {i : Nat // i ≤ s.size ∧ ∀ j c, j < i → s.data.toList[j]? = some c → small c = true})
  (fun i => ⟨J, (sset (sset noSlots 0 (.d (str s))) 3 (.d (.lit (.int .i64 i.1)))), noHeap⟩) (fun i => s.size - i.1) ⟨0, Nat.zero_le _, by omega⟩ (LE_s (sle_set (sle_set (sle_no _) rfl) rfl)) fun ⟨i, hi, hp⟩ => ?_
 refine CW_seq ?_
 refine CW_seq ?_
 refine CW_region ?_
 refine OW_run' hE.ok 4 rfl ?_
 refine OW_end rfl ?_
 refine CW_cond _ rfl (fun h1 => ?_) (fun h1 => ?_)
 ·
  have hlt : i < s.size := by have := h1; simp at this; omega
  obtain ⟨c, ha⟩ : ∃ c, s.data.toList[i]? = some c := ⟨_, List.getElem?_eq_getElem (by simpa using hlt)⟩
  refine CW_skip ?_
  refine CW_seq ?_
  refine CW_block ?_
  refine CW_seq ?_
  refine CW_region ?_
  refine OW_run' hE.ok 2 rfl ?_
  refine OW_loc' hE (loc_index hE rfl rfl rfl rfl (by omega) (by simpa using ha)) rfl rfl rfl ?_
  refine OW_run' hE.ok 2 rfl ?_
  refine OW_split' 14 rfl (fun h2 => ?_) (fun h2 => ?_)
  ·
   have hbad : small c = false := small_lo h2
   refine OW_run' hE.ok 5 rfl ?_
   refine OW_end rfl ?_
   refine CW_true rfl ?_
   refine CW_seq ?_
   refine CW_region ?_
   refine OW_run' hE.ok 1 rfl ?_
   refine OW_end rfl ?_
   refine CW_ret ?_
   refine ⟨.inr rfl, rfl, ⟨_, rfl, rfl, ?_⟩, rfl⟩
   exact AVle.of (congrArg (fun b => AV.d (boo b)) (by rw [isName_bad ha hbad]))
  ·
   refine OW_run' hE.ok 2 rfl ?_
   refine OW_loc' hE (loc_index hE rfl rfl rfl rfl (by omega) (by simpa using ha)) rfl rfl rfl ?_
   refine OW_run' hE.ok 2 rfl ?_
   refine OW_end rfl ?_
   refine CW_cond _ rfl (fun h3 => ?_) (fun h3 => ?_)
   ·
    have hbad : small c = false := small_hi h3
    refine CW_seq ?_
    refine CW_region ?_
    refine OW_run' hE.ok 1 rfl ?_
    refine OW_end rfl ?_
    refine CW_ret ?_
    refine ⟨.inr rfl, rfl, ⟨_, rfl, rfl, ?_⟩, rfl⟩
    exact AVle.of (congrArg (fun b => AV.d (boo b)) (by rw [isName_bad ha hbad]))
   ·
    have hgood : small c = true := small_ok h2 h3
    refine CW_skip ?_
    refine CW_region ?_
    refine OW_run' hE.ok 3 rfl ?_
    refine OW_end rfl ?_
    refine ⟨⟨i + 1, hlt, fun j x hj hx => ?_⟩, LE_s (sle_set (sle_set (sle_no _) rfl) (by show AV.d (.lit (.int .i64 (IntKind.i64.wrap (↑i + 1)))) = _; rw [wrap_succ (by omega)])), by show s.size - (i + 1) < s.size - i; omega⟩
    by_cases hji : j = i
    · subst hji; rw [ha] at hx; cases hx; exact hgood
    · exact hp j x (by omega) hx
 ·
  have hge : ¬ i < s.size := by have := h1; simp at this; omega
  have hall := all_small hi hge hp
  refine CW_exit ?_
  show CW _ _ _ _
  refine CW_seq ?_
  refine CW_region ?_
  refine OW_run' hE.ok 4 rfl ?_
  refine OW_split' 23 rfl (fun h4 => ?_) (fun h4 => ?_)
  ·
   refine OW_run' hE.ok 5 rfl ?_
   refine OW_end rfl ?_
   refine CW_ret ?_
   refine ⟨.inr rfl, rfl, ⟨_, rfl, rfl, ?_⟩, rfl⟩
   exact AVle.of (congrArg (fun b => AV.d (boo b)) (by rw [name_end2 hall, h4]; rfl))
  ·
   refine OW_run' hE.ok 5 rfl ?_
   refine OW_end rfl ?_
   refine CW_ret ?_
   refine ⟨.inr rfl, rfl, ⟨_, rfl, rfl, ?_⟩, rfl⟩
   exact AVle.of (congrArg (fun b => AV.d (boo b)) (by rw [name_end2 hall, h4]; rfl))
theorem refIsValOk (v : Vl) : Does Tryd.prog 46 [argV v] noHeap (.d (boo (isVal v))) := by
 refine Does_of T_ok mixed (N := 35) Tryd.func46 rfl rfl rfl (by rfl) fun F n Z hE hF J => ?_
 refine CW_seq ?_
 refine CW_region ?_
 refine OW_run' hE.ok 2 rfl ?_
 refine OW_end rfl ?_
 refine CW_seq ?_
 refine CW_seq ?_
 refine CW_region ?_
 refine OW_run' hE.ok 2 rfl ?_
 refine OW_end rfl ?_
 refine CW_block ?_
 refine CW_seq ?_
 refine CW_region ?_
 refine OW_run' hE.ok 2 rfl ?_
 refine OW_end rfl ?_
 refine CW_cond _ rfl (fun h1 => ?_) (fun h1 => ?_)
 ·
  refine CW_seq ?_
  refine CW_region ?_
  refine OW_run' hE.ok 4 rfl ?_
  refine OW_end rfl ?_
  refine CW_ret ?_
  refine ⟨.inr rfl, rfl, ⟨_, rfl, rfl, ?_⟩, rfl⟩
  exact AVle.of (congrArg (fun b => AV.d (boo b)) (by simp_all [isVal, same, nul]))
 ·
  refine CW_seq ?_
  refine CW_region ?_
  refine OW_run' hE.ok 2 rfl ?_
  refine OW_end rfl ?_
  refine CW_cond _ rfl (fun h2 => ?_) (fun h2 => ?_)
  ·
   refine CW_seq ?_
   refine CW_region ?_
   refine OW_run' hE.ok 4 rfl ?_
   refine OW_split' 15 rfl (fun h3 => ?_) (fun h3 => ?_)
   ·
    refine OW_run' hE.ok 2 rfl ?_
    refine OW_call' hE (plainOk _) rfl rfl rfl rfl rfl rfl rfl ?_
    refine OW_run' hE.ok 2 rfl ?_
    refine OW_end rfl ?_
    refine CW_ret ?_
    refine ⟨.inr rfl, rfl, ⟨_, rfl, rfl, ?_⟩, rfl⟩
    exact AVle.of (congrArg (fun b => AV.d (boo b)) (by simp_all [isVal, same, nul]))
   ·
    refine OW_run' hE.ok 5 rfl ?_
    refine OW_end rfl ?_
    refine CW_ret ?_
    refine ⟨.inr rfl, rfl, ⟨_, rfl, rfl, ?_⟩, rfl⟩
    exact AVle.of (congrArg (fun b => AV.d (boo b)) (by simp_all [isVal, same, nul]))
  ·
   refine CW_seq ?_
   refine CW_region ?_
   refine OW_run' hE.ok 2 rfl ?_
   refine OW_end rfl ?_
   refine CW_cond _ rfl (fun h4 => ?_) (fun h4 => ?_)
   ·
    refine CW_seq ?_
    refine CW_region ?_
    refine OW_run' hE.ok 4 rfl ?_
    refine OW_split' 25 rfl (fun h5 => ?_) (fun h5 => ?_)
    ·
     refine OW_run' hE.ok 10 rfl ?_
     refine OW_end rfl ?_
     refine CW_ret ?_
     refine ⟨.inr rfl, rfl, ⟨_, rfl, rfl, ?_⟩, rfl⟩
     exact AVle.of (congrArg (fun b => AV.d (boo b)) (by simp_all [isVal, same, nul]))
    ·
     refine OW_run' hE.ok 5 rfl ?_
     refine OW_split' 30 rfl (fun h6 => ?_) (fun h6 => ?_)
     ·
      refine OW_run' hE.ok 5 rfl ?_
      refine OW_end rfl ?_
      refine CW_ret ?_
      refine ⟨.inr rfl, rfl, ⟨_, rfl, rfl, ?_⟩, rfl⟩
      exact AVle.of (congrArg (fun b => AV.d (boo b)) (by simp_all [isVal, same, nul]))
     ·
      refine OW_run' hE.ok 5 rfl ?_
      refine OW_end rfl ?_
      refine CW_ret ?_
      refine ⟨.inr rfl, rfl, ⟨_, rfl, rfl, ?_⟩, rfl⟩
      exact AVle.of (congrArg (fun b => AV.d (boo b)) (by simp_all [isVal, same, nul]))
   ·
    refine CW_skip ?_
    refine CW_seq ?_
    refine CW_region ?_
    refine OW_run' hE.ok 1 rfl ?_
    refine OW_end rfl ?_
    refine CW_ret ?_
    refine ⟨.inr rfl, rfl, ⟨_, rfl, rfl, ?_⟩, rfl⟩
    exact AVle.of (congrArg (fun b => AV.d (boo b)) (by simp_all [isVal, same, nul]))
theorem sameVOk (a b : Vl) : Does Tryd.prog 48 [argV a, argV b] noHeap (.d (boo (sameV a b))) := by
 refine Does_of T_ok mixed (N := 8) Tryd.func48 rfl rfl rfl (by rfl) fun F n Z hE hF J => ?_
 refine CW_seq ?_
 refine CW_region ?_
 refine OW_run' hE.ok 3 rfl ?_
 refine OW_end rfl ?_
 refine CW_seq ?_
 refine CW_region ?_
 refine OW_run' hE.ok 2 rfl ?_
 refine OW_loc' hE (loc_eql rfl rfl rfl (r := sameV a b) (eqLaw_flat T_ok (t := 31) rfl (by decide +kernel) rfl (X := encV a) (Y := encV b) rfl rfl rfl)) rfl rfl rfl ?_
 refine OW_run' hE.ok 1 rfl ?_
 refine OW_end rfl ?_
 refine CW_ret ?_
 refine ⟨.inr rfl, rfl, ⟨_, rfl, rfl, ?_⟩, rfl⟩
 exact AVle.refl _
end Go.Proofs.YtchpllgeahnmmaaDoor
namespace Go.Proofs.YtchpllgeahnmmaaDoor
open Go Go.AL
set_option linter.unusedVariables false
set_option linter.unusedSimpArgs false
set_option maxHeartbeats 4000000
theorem isE1 (v : Vl) : Does Tryd.prog 43 [argV v] noHeap (.d (boo (!isVal v))) := by
 refine Does_of T_ok mixed (N := 6) Tryd.func43 rfl rfl rfl (by rfl) fun F n Z hE hF J => ?_
 refine CW_seq ?_
 refine CW_region ?_
 refine OW_run' hE.ok 2 rfl ?_
 refine OW_end rfl ?_
 refine CW_seq ?_
 refine CW_region ?_
 refine OW_run' hE.ok 1 rfl ?_
 refine OW_call' hE (isValOk _) rfl rfl rfl rfl rfl rfl rfl ?_
 refine OW_run' hE.ok 2 rfl ?_
 refine OW_end rfl ?_
 refine CW_ret ?_
 refine ⟨.inr rfl, rfl, ⟨_, rfl, rfl, ?_⟩, rfl⟩
 exact AVle.refl _
theorem indexV (l : List Vl) (k : Nat) (first cap : List D) (p : Vl → Bool) (hc : ∀ a ∈ l, Does Tryd.prog k (first.map .d ++ [.agg ((encV a).map .d)] ++ cap.map .d) noHeap (.d (boo (p a)))) : Does Tryd.prog 77 [.d (.sl 3 32 (l.map encV)), .d (.fn (.func k) first cap)] noHeap (.d (int (idx p l))) := by
 refine Does_of T_ok mixed (N := 19) Tryd.func77 rfl rfl rfl (by rfl) fun F n Z hE hF J => ?_
 refine CW_know (know_sl (d := 0) rfl) fun hlen => ?_
 rw [List.length_map] at hlen
 refine CW_seq ?_
 refine CW_region ?_
 refine OW_run' hE.ok 1 rfl ?_
 refine OW_end rfl ?_
 refine CW_seq ?_
 refine CW_seq ?_
 refine CW_region ?_
 refine OW_run' hE.ok 3 rfl ?_
 refine OW_end rfl ?_
 refine CW_block ?_
 refine CW_loop (σ := {i : Nat // i ≤ l.length ∧ ∀ j a, j < i → l[j]? = some a → p a = false})
  (fun i => ⟨J, (sset (sset (sset (sset noSlots 0 (.d (.sl 3 32 (l.map encV)))) 1 (.d (.fn (.func k) first cap))) 7 (.d (.lit (.int .i64 l.length)))) 8 (.d (.lit (.int .i64 i.1)))), noHeap⟩) (fun i => l.length - i.1) ⟨0, Nat.zero_le _, by omega⟩ (LE_s (sle_set (sle_set (sle_set (sle_set (sle_no _) rfl) rfl) (by show AV.d (.lit (.int .i64 ((l.map encV).length : Int))) = _; rw [List.length_map])) rfl)) fun ⟨i, hi, hp⟩ => ?_
 refine CW_seq ?_
 refine CW_region ?_
 refine OW_run' hE.ok 1 rfl ?_
 refine OW_end rfl ?_
 refine CW_seq ?_
 refine CW_cond _ rfl (fun h1 => ?_) (fun h1 => ?_)
 ·
  have hlt : i < l.length := by have := h1; simp at this; omega
  obtain ⟨a, ha⟩ : ∃ a, l[i]? = some a := ⟨_, List.getElem?_eq_getElem hlt⟩
  have hcall := hc a (List.mem_of_getElem? ha)
  refine CW_skip ?_
  refine CW_seq ?_
  refine CW_block ?_
  refine CW_seq ?_
  refine CW_region ?_
  refine OW_run' hE.ok 2 rfl ?_
  refine OW_end rfl ?_
  refine CW_seq ?_
  refine CW_region ?_
  refine OW_run' hE.ok 3 rfl ?_
  refine OW_loc' hE (loc_indexAddr hE rfl rfl rfl rfl rfl (by omega) (x := encV a) (by simp [ha])) rfl rfl rfl ?_
  refine OW_run' hE.ok 1 rfl ?_
  refine OW_call' hE (hcall) rfl rfl rfl rfl (kfs_fn rfl) rfl rfl ?_
  refine OW_end rfl ?_
  refine CW_cond _ rfl (fun h2 => ?_) (fun h2 => ?_)
  ·
   refine CW_seq ?_
   refine CW_region ?_
   refine OW_run' hE.ok 2 rfl ?_
   refine OW_end rfl ?_
   refine CW_ret ?_
   refine ⟨.inr rfl, rfl, ⟨_, rfl, rfl, ?_⟩, rfl⟩
   rw [idx_some ha h2 hp]
   exact AVle.refl _
  ·
   refine CW_skip ?_
   refine CW_region ?_
   refine OW_run' hE.ok 2 rfl ?_
   refine OW_end rfl ?_
   refine ⟨⟨i + 1, hlt, fun j b hj hb => ?_⟩, LE_s (sle_set (sle_set (sle_set (sle_set (sle_no _) rfl) rfl) rfl) (by show AV.d (.lit (.int .i64 (IntKind.i64.wrap (↑i + 1)))) = _; rw [wrap_succ (by omega)])), by show l.length - (i + 1) < l.length - i; omega⟩
   by_cases hji : j = i
   · subst hji; rw [ha] at hb; cases hb; exact h2
   · exact hp j b (by omega) hb
 ·
  have hge : ¬ i < l.length := by have := h1; simp at this; omega
  refine CW_exit ?_
  show CW _ _ _ _
  refine CW_seq ?_
  refine CW_region ?_
  refine OW_run' hE.ok 1 rfl ?_
  refine OW_end rfl ?_
  refine CW_ret ?_
  refine ⟨.inr rfl, rfl, ⟨_, rfl, rfl, ?_⟩, rfl⟩
  rw [idx_none (fun j b hj => hp j b (by omega))]
  exact AVle.refl _
theorem containsV (l : List Vl) (k : Nat) (first cap : List D) (p : Vl → Bool) (hc : ∀ a ∈ l, Does Tryd.prog k (first.map .d ++ [.agg ((encV a).map .d)] ++ cap.map .d) noHeap (.d (boo (p a)))) : Does Tryd.prog 42 [.d (.sl 3 32 (l.map encV)), .d (.fn (.func k) first cap)] noHeap (.d (boo (l.any p))) := by
 refine Does_of T_ok mixed (N := 9) Tryd.func42 rfl rfl rfl (by rfl) fun F n Z hE hF J => ?_
 refine CW_seq ?_
 refine CW_region ?_
 refine OW_run' hE.ok 1 rfl ?_
 refine OW_end rfl ?_
 refine CW_seq ?_
 refine CW_region ?_
 refine OW_run' hE.ok 2 rfl ?_
 refine OW_call' hE (indexV l k first cap p hc) rfl rfl rfl rfl rfl rfl rfl ?_
 refine OW_run' hE.ok 2 rfl ?_
 refine OW_end rfl ?_
 refine CW_ret ?_
 refine ⟨.inr rfl, rfl, ⟨_, rfl, rfl, ?_⟩, rfl⟩
 exact AVle.of (congrArg (fun b => AV.d (boo b)) (by exact any_idx))
theorem equalV (l r : List Vl) (k : Nat) (first cap : List D) (p : Vl → Vl → Bool) (hc : ∀ a b, Does Tryd.prog k (first.map .d ++ [.agg ((encV a).map .d), .agg ((encV b).map .d)] ++ cap.map .d) noHeap (.d (boo (p a b)))) : Does Tryd.prog 47 [.d (.sl 3 32 (l.map encV)), .d (.sl 3 32 (r.map encV)), .d (.fn (.func k) first cap)] noHeap (.d (boo (allSame p l r))) := by
 refine Does_of T_ok mixed (N := 32) Tryd.func47 rfl rfl rfl (by rfl) fun F n Z hE hF J => ?_
 refine CW_know (know_sl (d := 0) rfl) fun hlen => ?_
 rw [List.length_map] at hlen
 refine CW_seq ?_
 refine CW_region ?_
 refine OW_run' hE.ok 1 rfl ?_
 refine OW_end rfl ?_
 refine CW_seq ?_
 refine CW_seq ?_
 refine CW_region ?_
 refine OW_run' hE.ok 5 rfl ?_
 refine OW_end rfl ?_
 refine CW_cond _ rfl (fun h1 => ?_) (fun h1 => ?_)
 ·
  have hne : l.length ≠ r.length := by have := h1; simp at this; omega
  refine CW_seq ?_
  refine CW_region ?_
  refine OW_run' hE.ok 1 rfl ?_
  refine OW_end rfl ?_
  refine CW_ret ?_
  refine ⟨.inr rfl, rfl, ⟨_, rfl, rfl, ?_⟩, rfl⟩
  exact AVle.of (congrArg (fun b => AV.d (boo b)) (by rw [allSame_len hne]))
 ·
  have hll : l.length = r.length := by have := h1; simp at this; omega
  refine CW_skip ?_
  refine CW_seq ?_
  refine CW_seq ?_
  refine CW_region ?_
  refine OW_run' hE.ok 3 rfl ?_
  refine OW_end rfl ?_
  refine CW_block ?_
  refine CW_loop (σ := {i : Nat // i ≤ l.length ∧ ∀ j a b, j < i → l[j]? = some a → r[j]? = some b → p a b = true})
   (fun i => ⟨J, (sset (sset (sset (sset (sset (sset noSlots 0 (.d (.sl 3 32 (l.map encV)))) 1 (.d (.sl 3 32 (r.map encV)))) 2 (.d (.fn (.func k) first cap))) 15 (.d (.sl 3 32 (l.map encV)))) 16 (.d (.lit (.int .i64 l.length)))) 17 (.d (.lit (.int .i64 i.1)))), noHeap⟩) (fun i => l.length - i.1) ⟨0, Nat.zero_le _, by omega⟩ (LE_sh (slh_set (slh_set (slh_set (slh_set (slh_set (slh_set (slh_no _ _) rfl rfl) rfl rfl) rfl rfl) rfl rfl) (by show AV.d (.lit (.int .i64 ((l.map encV).length : Int))) = _; rw [List.length_map]) rfl) rfl rfl) (hlh_no _ _)) fun ⟨i, hi, hp⟩ => ?_
  refine CW_seq ?_
  refine CW_region ?_
  refine OW_run' hE.ok 1 rfl ?_
  refine OW_end rfl ?_
  refine CW_seq ?_
  refine CW_cond _ rfl (fun h2 => ?_) (fun h2 => ?_)
  ·
   have hlt : i < l.length := by have := h2; simp at this; omega
   obtain ⟨a, ha⟩ : ∃ a, l[i]? = some a := ⟨_, List.getElem?_eq_getElem hlt⟩
   obtain ⟨b, hb⟩ : ∃ b, r[i]? = some b := ⟨_, List.getElem?_eq_getElem (by omega)⟩
   have hcall := hc a b
   refine CW_skip ?_
   refine CW_seq ?_
   refine CW_block ?_
   refine CW_seq ?_
   refine CW_region ?_
   refine OW_run' hE.ok 1 rfl ?_
   refine OW_loc' hE (loc_indexAddr hE rfl rfl rfl rfl rfl (by omega) (x := encV a) (by simp [ha])) rfl rfl rfl ?_
   refine OW_run' hE.ok 1 rfl ?_
   refine OW_alloc' hE 1 rfl rfl rfl rfl rfl rfl rfl ?_
   refine OW_run' hE.ok 1 rfl ?_
   refine OW_store' hE rfl rfl rfl rfl rfl rfl rfl rfl rfl rfl rfl rfl ?_
   refine OW_end rfl ?_
   refine CW_seq ?_
   refine CW_region ?_
   refine OW_run' hE.ok 2 rfl ?_
   refine OW_loc' hE (loc_indexAddr hE rfl rfl rfl rfl rfl (by omega) (x := encV b) (by simp [hb])) rfl rfl rfl ?_
   refine OW_run' hE.ok 1 rfl ?_
   refine OW_alloc' hE 2 rfl rfl rfl rfl rfl rfl rfl ?_
   refine OW_store' hE rfl rfl rfl rfl rfl rfl rfl rfl rfl rfl rfl rfl ?_
   refine OW_end rfl ?_
   refine CW_seq ?_
   refine CW_region ?_
   refine OW_run' hE.ok 3 rfl ?_
   refine OW_call' hE (hcall) rfl rfl rfl rfl (kfs_fn rfl) rfl rfl ?_
   refine OW_run' hE.ok 1 rfl ?_
   refine OW_end rfl ?_
   refine CW_cond _ rfl (fun h3 => ?_) (fun h3 => ?_)
   ·
    have hdiff : p a b = false := by simpa using h3
    refine CW_seq ?_
    refine CW_region ?_
    refine OW_run' hE.ok 1 rfl ?_
    refine OW_end rfl ?_
    refine CW_ret ?_
    refine ⟨.inr rfl, rfl, ⟨_, rfl, rfl, ?_⟩, rfl⟩
    exact AVle.of (congrArg (fun b => AV.d (boo b)) (by rw [allSame_ne ha hb hdiff]))
   ·
    have hsame : p a b = true := by simpa using h3
    refine CW_skip ?_
    refine CW_region ?_
    refine OW_run' hE.ok 2 rfl ?_
    refine OW_end rfl ?_
    refine ⟨⟨i + 1, hlt, fun j x y hj hx hy => ?_⟩, LE_sh (slh_set (slh_set (slh_set (slh_set (slh_set (slh_set (slh_no _ _) rfl rfl) rfl rfl) rfl rfl) rfl rfl) rfl rfl) (by show AV.d (.lit (.int .i64 (IntKind.i64.wrap (↑i + 1)))) = _; rw [wrap_succ (by omega)]) rfl) (hlh_no _ _), by show l.length - (i + 1) < l.length - i; omega⟩
    by_cases hji : j = i
    · subst hji; rw [ha] at hx; rw [hb] at hy; cases hx; cases hy; exact hsame
    · exact hp j x y (by omega) hx hy
  ·
   have hge : ¬ i < l.length := by have := h2; simp at this; omega
   refine CW_exit ?_
   show CW _ _ _ _
   refine CW_seq ?_
   refine CW_region ?_
   refine OW_run' hE.ok 1 rfl ?_
   refine OW_end rfl ?_
   refine CW_ret ?_
   refine ⟨.inr rfl, rfl, ⟨_, rfl, rfl, ?_⟩, rfl⟩
   exact AVle.of (congrArg (fun b => AV.d (boo b)) (by rw [allSame_all hll (fun j a b hj => hp j a b (by omega))]))
theorem sameEvOk (a b : Ev) : Does Tryd.prog 14 [argE a, argE b] noHeap (.d (boo (sameEv a b))) := by
 refine Does_of T_ok mixed (N := 24) Tryd.func14 rfl rfl rfl (by rfl) fun F n Z hE hF J => ?_
 refine CW_seq ?_
 refine CW_region ?_
 refine OW_run' hE.ok 3 rfl ?_
 refine OW_end rfl ?_
 refine CW_seq ?_
 refine CW_region ?_
 refine OW_run' hE.ok 6 rfl ?_
 refine OW_split' 10 rfl (fun h1 => ?_) (fun h1 => ?_)
 ·
  refine OW_run' hE.ok 7 rfl ?_
  refine OW_split' 17 rfl (fun h2 => ?_) (fun h2 => ?_)
  ·
   refine OW_run' hE.ok 4 rfl ?_
   refine OW_call' hE (equalV a.vals b.vals 48 [] [] sameV (fun x y => sameVOk x y)) rfl rfl rfl rfl rfl rfl rfl ?_
   refine OW_run' hE.ok 2 rfl ?_
   refine OW_end rfl ?_
   refine CW_ret ?_
   refine ⟨.inr rfl, rfl, ⟨_, rfl, rfl, ?_⟩, rfl⟩
   exact AVle.of (congrArg (fun b => AV.d (boo b)) (by simp_all [sameEv, same]))
  ·
   refine OW_run' hE.ok 7 rfl ?_
   refine OW_end rfl ?_
   refine CW_ret ?_
   refine ⟨.inr rfl, rfl, ⟨_, rfl, rfl, ?_⟩, rfl⟩
   exact AVle.of (congrArg (fun b => AV.d (boo b)) (by simp_all [sameEv, same]))
 ·
  refine OW_run' hE.ok 14 rfl ?_
  refine OW_end rfl ?_
  refine CW_ret ?_
  refine ⟨.inr rfl, rfl, ⟨_, rfl, rfl, ?_⟩, rfl⟩
  exact AVle.of (congrArg (fun b => AV.d (boo b)) (by simp_all [sameEv, same]))
theorem cloneV (l : List Vl) : Does Tryd.prog 49 [.d (.sl 3 32 (l.map encV))] (oneRow 31 3 (l.map encV)) (.row 0) := by
 refine Does_ofRow T_ok mixed (N := 8) Tryd.func49 rfl rfl rfl (by rfl) fun F n Z hE hF J => ?_
 refine CW_know (know_sl (d := 0) rfl) fun hlen => ?_
 rw [List.length_map] at hlen
 refine CW_seq ?_
 refine CW_region ?_
 refine OW_run' hE.ok 1 rfl ?_
 refine OW_end rfl ?_
 refine CW_seq ?_
 refine CW_seq ?_
 refine CW_region ?_
 refine OW_run' hE.ok 1 rfl ?_
 refine OW_eqNil' hE rfl rfl rfl rfl rfl rfl rfl rfl (fun b hb => ?_)
 refine OW_end rfl ?_
 refine CW_cond _ rfl (fun h1 => ?_) (fun h1 => ?_)
 ·
  refine CW_seq ?_
  refine CW_region ?_
  refine OW_run' hE.ok 1 rfl ?_
  refine OW.le (LE_nilSlot 2 7 31 3 rfl rfl) ?_
  refine OW_end rfl ?_
  refine CW_ret ⟨.inr rfl, rfl, 7, rfl, ?_⟩
  rw [hb h1]
  rfl
 ·
  refine CW_skip ?_
  refine CW_seq ?_
  refine CW_region ?_
  refine OW_litsOwn' hE 7 rfl rfl rfl rfl rfl rfl rfl rfl rfl rfl rfl rfl ?_
  refine OW_run' hE.ok 1 rfl ?_
  refine OW_append' hE (key := 7) rfl rfl rfl rfl rfl rfl rfl rfl (.inl rfl) (by simp; omega) (by simp; omega) rfl ?_
  refine OW_run' hE.ok 1 rfl ?_
  refine OW_end rfl ?_
  exact CW_ret ⟨.inr rfl, rfl, 7, rfl, rfl⟩
theorem copyOk (e : Ev) : Does Tryd.prog 16 [argE e] (oneRow 31 3 (e.vals.map encV)) (.agg [.d (str e.ty), .d (int e.ts), .row 0]) := by
 refine Does_ofOwn T_ok mixed (N := 8) Tryd.func16 rfl rfl rfl (by rfl) fun F n Z hE hF J => ?_
 refine CW_seq ?_
 refine CW_region ?_
 refine OW_box' hE 1 rfl rfl rfl rfl rfl rfl ?_
 refine OW_alloc' hE 2 rfl rfl rfl rfl rfl rfl rfl ?_
 refine OW_end rfl ?_
 refine CW_seq ?_
 refine CW_region ?_
 refine OW_run' hE.ok 2 rfl ?_
 refine OW_callRow' hE 7 (cloneV e.vals) rfl rfl rfl rfl rfl rfl rfl ?_
 refine OW_run' hE.ok 1 rfl ?_
 refine OW_store' hE rfl rfl rfl rfl rfl rfl rfl rfl rfl rfl rfl rfl ?_
 refine OW_end rfl ?_
 refine CW_seq ?_
 refine CW_region ?_
 refine OW_run' hE.ok 1 rfl ?_
 refine OW_store' hE rfl rfl rfl rfl rfl rfl rfl rfl rfl rfl rfl rfl ?_
 refine OW_end rfl ?_
 exact CW_ret ⟨.inr rfl, rfl, 7, _, rfl, rfl, AVle.refl _⟩
theorem allV1 (xs : List Vl) : Iter Tryd.prog 79 [] [.d (.iptr [.sl 3 32 (xs.map encV)])] (ysI encV xs) := by
 refine Iter_of T_ok mixed (N := 18) Tryd.func79 rfl rfl rfl (by rfl) fun F n Z hE hF l C X hC hX hy => ?_
 refine CW_seq ?_
 refine CW_region ?_
 refine OW_run' hE.ok 3 rfl ?_
 refine OW_end rfl ?_
 refine CW_block ?_
 refine CW_know (know_sl (d := 5) rfl) fun hlen => ?_
 rw [List.length_map] at hlen
 refine CW_loop (σ := {i : Nat // i ≤ xs.length}) (fun i => ⟨C i.1, (sset (sset (sset (sset (sset noSlots 0 (.d (.fn (.yield l) [] []))) 1 (.d (.iptr [.sl 3 32 (xs.map encV)]))) 5 (.d (.sl 3 32 (xs.map encV)))) 6 (.d (.lit (.int .i64 xs.length)))) 7 (.d (.lit (.int .i64 i.1)))), noHeap⟩) (fun i => xs.length - i.1) ⟨0, Nat.zero_le _⟩ (LE_sh (slh_set (slh_set (slh_set (slh_set (slh_set (slh_no _ _) rfl rfl) rfl rfl) rfl rfl) (by show AV.d (.lit (.int .i64 ((xs.map encV).length : Int))) = _; rw [List.length_map]) rfl) rfl rfl) (hlh_no _ _)) fun ⟨i, hi⟩ => ?_
 refine CW_seq ?_
 refine CW_region ?_
 refine OW_run' hE.ok 1 rfl ?_
 refine OW_end rfl ?_
 refine CW_seq ?_
 refine CW_cond _ rfl (fun h1 => ?_) (fun h1 => ?_)
 ·
  have hlt : i < xs.length := by have := h1; simp at this; omega
  obtain ⟨a, ha⟩ : ∃ a, xs[i]? = some a := ⟨_, List.getElem?_eq_getElem hlt⟩
  refine CW_skip ?_
  refine CW_seq ?_
  refine CW_block ?_
  refine CW_seq ?_
  refine CW_region ?_
  refine OW_run' hE.ok 1 rfl ?_
  refine OW_loc' hE (loc_indexAddr hE rfl rfl rfl rfl rfl (by omega) (x := encV a) (by simp [ha])) rfl rfl rfl ?_
  refine OW_run' hE.ok 1 rfl ?_
  refine OW_alloc' hE 1 rfl rfl rfl rfl rfl rfl rfl ?_
  refine OW_run' hE.ok 1 rfl ?_
  refine OW_store' hE rfl rfl rfl rfl rfl rfl rfl rfl rfl rfl rfl rfl ?_
  refine OW_end rfl ?_
  refine CW_seq ?_
  refine CW_region ?_
  refine OW_run' hE.ok 3 rfl ?_
  refine OW_yield' hE hy hC hX (Wrap.id _) (i) rfl rfl rfl rfl rfl rfl (ysI_get ha) rfl rfl rfl ?_ ?_
  ·
   refine OW_run' hE.ok 1 rfl ?_
   refine OW_end rfl ?_
   refine CW_false rfl ?_
   refine CW_skip ?_
   refine CW_region ?_
   refine OW_run' hE.ok 2 rfl ?_
   refine OW_end rfl ?_
   exact ⟨⟨i + 1, hlt⟩, LE_sh (slh_set (slh_set (slh_set (slh_set (slh_set (slh_no _ _) rfl rfl) rfl rfl) rfl rfl) rfl rfl) (by show AV.d (.lit (.int .i64 (IntKind.i64.wrap (↑i + 1)))) = _; rw [wrap_succ (by omega)]) rfl) (hlh_no _ _), by show xs.length - (i + 1) < xs.length - i; omega⟩
  ·
   refine OW_run' hE.ok 1 rfl ?_
   refine OW_end rfl ?_
   refine CW_true rfl ?_
   exact CW_ret ⟨.inr rfl, .inr rfl, _, rfl⟩
 ·
  have hge : ¬ i < xs.length := by have := h1; simp at this; omega
  refine CW_exit ?_
  have hN : i = (ysI encV xs).length := by rw [ysI_length]; omega
  show RetI _ _ _ _ .normal _
  exact ⟨.inl rfl, .inl (by show C i = _; rw [← hN]), _, rfl⟩
theorem allV (xs : List Vl) : Does Tryd.prog 45 [.d (.sl 3 32 (xs.map encV))] noHeap (.d (.fn (.func 79) [] [.iptr [.sl 3 32 (xs.map encV)]])) := by
 refine Does_of T_ok mixed (N := 4) Tryd.func45 rfl rfl rfl (by rfl) fun F n Z hE hF J => ?_
 refine CW_seq ?_
 refine CW_region ?_
 refine OW_run' hE.ok 2 rfl ?_
 refine OW_end rfl ?_
 refine CW_seq ?_
 refine CW_region ?_
 refine OW_run' hE.ok 2 rfl ?_
 refine OW_end rfl ?_
 refine CW_ret ?_
 refine ⟨.inr rfl, rfl, ⟨_, rfl, rfl, ?_⟩, rfl⟩
 exact AVle.refl _
theorem getOk (s : List Ty) (e : Ev) (nm : ByteArray) : Does Tryd.prog 9 [argS s, argE e, .d (str nm)] noHeap (.tup [argV (getV s e nm).1, .d (boo (getV s e nm).2)]) := by
 refine Does_of T_ok mixed (N := 40) Tryd.func9 rfl rfl rfl (by rfl) fun F n Z hE hF J => ?_
 obtain ⟨t, th⟩ : ∃ t, findT s e.ty = t := ⟨_, rfl⟩
 refine CW_seq ?_
 refine CW_region ?_
 refine OW_run' hE.ok 2 rfl ?_
 refine OW_alloc' hE 1 rfl rfl rfl rfl rfl rfl rfl ?_
 refine OW_run' hE.ok 1 rfl ?_
 refine OW_end rfl ?_
 refine CW_seq ?_
 refine CW_region ?_
 refine OW_run' hE.ok 3 rfl ?_
 refine OW_call' hE (findOk _ _) rfl rfl rfl rfl rfl rfl rfl ?_
 refine OW_run' hE.ok 3 rfl ?_
 refine OW_alloc' hE 2 rfl rfl rfl rfl rfl rfl rfl ?_
 refine OW_store' hE rfl rfl rfl rfl rfl rfl rfl rfl rfl rfl rfl rfl ?_
 refine OW_run' hE.ok 1 rfl ?_
 refine OW_end rfl ?_
 refine CW_seq ?_
 refine CW_region ?_
 refine OW_run' hE.ok 2 rfl ?_
 refine OW_call' hE (fieldOk _ _) rfl rfl rfl rfl rfl rfl rfl ?_
 refine OW_run' hE.ok 1 rfl ?_
 refine OW_end rfl ?_
 refine CW_seq ?_
 refine CW_seq ?_
 refine CW_region ?_
 refine OW_run' hE.ok 3 rfl ?_
 refine OW_split' 23 rfl (fun h1 => ?_) (fun h1 => ?_)
 ·
  have hn : getV s e nm = (⟨0, 0, nul⟩, false) := getV_no (by have := h1; simp_all)
  refine OW_run' hE.ok 10 rfl ?_
  refine OW_end rfl ?_
  refine CW_true rfl ?_
  refine CW_seq ?_
  refine CW_region ?_
  refine OW_build' hE rfl rfl rfl rfl rfl ?_
  refine OW_store' hE rfl rfl rfl rfl rfl rfl rfl rfl rfl rfl rfl rfl ?_
  refine OW_run' hE.ok 1 rfl ?_
  refine OW_end rfl ?_
  refine CW_ret ?_
  refine ⟨.inr rfl, rfl, ⟨_, rfl, rfl, ?_⟩, rfl⟩
  rw [hn]
  exact AVle.refl _
 ·
  have g1 : (findT s e.ty).2 = true := by simpa using h1
  refine OW_run' hE.ok 4 rfl ?_
  refine OW_split' 27 rfl (fun h2 => ?_) (fun h2 => ?_)
  ·
   have hn : getV s e nm = (⟨0, 0, nul⟩, false) := getV_no (by have := h2; simp_all)
   refine OW_run' hE.ok 6 rfl ?_
   refine OW_end rfl ?_
   refine CW_true rfl ?_
   refine CW_seq ?_
   refine CW_region ?_
   refine OW_build' hE rfl rfl rfl rfl rfl ?_
   refine OW_store' hE rfl rfl rfl rfl rfl rfl rfl rfl rfl rfl rfl rfl ?_
   refine OW_run' hE.ok 1 rfl ?_
   refine OW_end rfl ?_
   refine CW_ret ?_
   refine ⟨.inr rfl, rfl, ⟨_, rfl, rfl, ?_⟩, rfl⟩
   rw [hn]
   exact AVle.refl _
  ·
   have g2 := h2
   refine OW_run' hE.ok 6 rfl ?_
   refine OW_end rfl ?_
   refine CW_cond _ rfl (fun h3 => ?_) (fun h3 => ?_)
   ·
    have hn : getV s e nm = (⟨0, 0, nul⟩, false) := getV_no (by have := h3; simp_all)
    refine CW_seq ?_
    refine CW_region ?_
    refine OW_build' hE rfl rfl rfl rfl rfl ?_
    refine OW_store' hE rfl rfl rfl rfl rfl rfl rfl rfl rfl rfl rfl rfl ?_
    refine OW_run' hE.ok 1 rfl ?_
    refine OW_end rfl ?_
    refine CW_ret ?_
    refine ⟨.inr rfl, rfl, ⟨_, rfl, rfl, ?_⟩, rfl⟩
    rw [hn]
    exact AVle.refl _
   ·
    obtain ⟨i, v, hi, hv, hg⟩ := getV_in (s := s) (e := e) (nm := nm) g1 g2 (by have := h3; rw [List.length_map] at this; exact this)
    refine CW_skip ?_
    refine CW_seq ?_
    refine CW_region ?_
    refine OW_run' hE.ok 3 rfl ?_
    refine OW_as' 37 (.d (int (i : Nat))) (congrArg (fun z => AV.d (int z)) hi) ?_
    refine OW_loc' hE (loc_indexAddr hE rfl rfl rfl rfl rfl (by omega) (x := encV v) (by simp [hv])) rfl rfl rfl ?_
    refine OW_run' hE.ok 1 rfl ?_
    refine OW_store' hE rfl rfl rfl rfl rfl rfl rfl rfl rfl rfl rfl rfl ?_
    refine OW_run' hE.ok 1 rfl ?_
    refine OW_end rfl ?_
    refine CW_ret ?_
    refine ⟨.inr rfl, rfl, ⟨_, rfl, rfl, ?_⟩, rfl⟩
    rw [hg]
    exact AVle.refl _
theorem isEvOk (s : List Ty) (e : Ev) : Does Tryd.prog 12 [argS s, argE e] noHeap (.d (evErr 74 s e)) := by
 refine Does_of T_ok mixed (N := 59) Tryd.func12 rfl rfl rfl (by rfl) fun F n Z hE hF J => ?_
 refine CW_seq ?_
 refine CW_region ?_
 refine OW_run' hE.ok 2 rfl ?_
 refine OW_alloc' hE 1 rfl rfl rfl rfl rfl rfl rfl ?_
 refine OW_end rfl ?_
 refine CW_seq ?_
 refine CW_region ?_
 refine OW_run' hE.ok 3 rfl ?_
 refine OW_call' hE (findOk _ _) rfl rfl rfl rfl rfl rfl rfl ?_
 refine OW_run' hE.ok 3 rfl ?_
 refine OW_alloc' hE 2 rfl rfl rfl rfl rfl rfl rfl ?_
 refine OW_store' hE rfl rfl rfl rfl rfl rfl rfl rfl rfl rfl rfl rfl ?_
 refine OW_run' hE.ok 1 rfl ?_
 refine OW_end rfl ?_
 refine CW_seq ?_
 refine CW_block ?_
 refine CW_seq ?_
 refine CW_region ?_
 refine OW_run' hE.ok 3 rfl ?_
 refine OW_end rfl ?_
 refine CW_cond _ rfl (fun h1 => ?_) (fun h1 => ?_)
 ·
  have hth : (findT s e.ty).2 = false := by simpa using h1
  refine CW_seq ?_
  refine CW_region ?_
  refine OW_run' hE.ok 1 rfl ?_
  refine OW_store' hE rfl rfl rfl rfl rfl rfl rfl rfl rfl rfl rfl rfl ?_
  refine OW_end rfl ?_
  refine CW_ret ?_
  refine ⟨.inr rfl, rfl, ⟨_, rfl, rfl, ?_⟩, rfl⟩
  rw [evErr_none hth]
  exact AVle.refl _
 ·
  have hth : (findT s e.ty).2 = true := by simpa using h1
  refine CW_seq ?_
  refine CW_region ?_
  refine OW_run' hE.ok 4 rfl ?_
  refine OW_split' 24 rfl (fun h2 => ?_) (fun h2 => ?_)
  ·
   have hf : evForm (findT s e.ty).1 e = false := by have := h2; simp_all [evForm]
   refine OW_run' hE.ok 19 rfl ?_
   refine OW_end rfl ?_
   refine CW_true rfl ?_
   refine CW_seq ?_
   refine CW_region ?_
   refine OW_run' hE.ok 1 rfl ?_
   refine OW_store' hE rfl rfl rfl rfl rfl rfl rfl rfl rfl rfl rfl rfl ?_
   refine OW_end rfl ?_
   refine CW_ret ?_
   refine ⟨.inr rfl, rfl, ⟨_, rfl, rfl, ?_⟩, rfl⟩
   rw [evErr_form hth hf]
   exact AVle.refl _
  ·
   have g1 := h2
   refine OW_run' hE.ok 5 rfl ?_
   refine OW_split' 29 rfl (fun h3 => ?_) (fun h3 => ?_)
   ·
    have hf : evForm (findT s e.ty).1 e = false := by have := h3; simp_all [evForm]
    refine OW_run' hE.ok 14 rfl ?_
    refine OW_end rfl ?_
    refine CW_true rfl ?_
    refine CW_seq ?_
    refine CW_region ?_
    refine OW_run' hE.ok 1 rfl ?_
    refine OW_store' hE rfl rfl rfl rfl rfl rfl rfl rfl rfl rfl rfl rfl ?_
    refine OW_end rfl ?_
    refine CW_ret ?_
    refine ⟨.inr rfl, rfl, ⟨_, rfl, rfl, ?_⟩, rfl⟩
    rw [evErr_form hth hf]
    exact AVle.refl _
   ·
    have g2 := h3
    refine OW_run' hE.ok 9 rfl ?_
    refine OW_split' 38 rfl (fun h4 => ?_) (fun h4 => ?_)
    ·
     have hl : (e.vals.length == (findT s e.ty).1.fields.length) = false := by have := h4; simp [encT] at this; simp; omega
     have hf : evForm (findT s e.ty).1 e = false := by simp [evForm, hl]
     refine OW_run' hE.ok 5 rfl ?_
     refine OW_end rfl ?_
     refine CW_true rfl ?_
     refine CW_seq ?_
     refine CW_region ?_
     refine OW_run' hE.ok 1 rfl ?_
     refine OW_store' hE rfl rfl rfl rfl rfl rfl rfl rfl rfl rfl rfl rfl ?_
     refine OW_end rfl ?_
     refine CW_ret ?_
     refine ⟨.inr rfl, rfl, ⟨_, rfl, rfl, ?_⟩, rfl⟩
     rw [evErr_form hth hf]
     exact AVle.refl _
    ·
     have hl : (e.vals.length == (findT s e.ty).1.fields.length) = true := by have := h4; simp [encT] at this; simp; omega
     refine OW_run' hE.ok 2 rfl ?_
     refine OW_call' hE (containsV e.vals 43 [] [] (fun v => !isVal v) (fun a _ => isE1 a)) rfl rfl rfl rfl rfl rfl rfl ?_
     refine OW_run' hE.ok 2 rfl ?_
     refine OW_end rfl ?_
     refine CW_cond _ rfl (fun h5 => ?_) (fun h5 => ?_)
     ·
      have hf : evForm (findT s e.ty).1 e = false := by have := h5; simp_all [evForm, all_any]
      refine CW_seq ?_
      refine CW_region ?_
      refine OW_run' hE.ok 1 rfl ?_
      refine OW_store' hE rfl rfl rfl rfl rfl rfl rfl rfl rfl rfl rfl rfl ?_
      refine OW_end rfl ?_
      refine CW_ret ?_
      refine ⟨.inr rfl, rfl, ⟨_, rfl, rfl, ?_⟩, rfl⟩
      rw [evErr_form hth hf]
      exact AVle.refl _
     ·
      have hf : evForm (findT s e.ty).1 e = true := by have := h5; simp_all [evForm, all_any, encT]
      refine CW_skip ?_
      refine CW_seq ?_
      refine CW_seq ?_
      rw [hset_hset]
      refine CW.le (show LE _ _ ⟨J, (sset (sset (sset noSlots 3 (.d (.iptr (encE e)))) 4 (.ptr 1 0)) 5 (.ptr 2 0)), (hset (hset noHeap 1 (some (.box 36 [.d (.lit .nilIface)]))) 2 (some (.box 72 ((encT (findT s e.ty).1).map .d))))⟩ from LE_sh (slh_set (slh_set (slh_set (slh_no _ _) rfl rfl) rfl rfl) rfl rfl) (hlh_set (hlh_set (hlh_no _ _) rfl rfl) rfl rfl)) ?_
      refine CW_region ?_
      refine OW_run' hE.ok 2 rfl ?_
      refine OW_call' hE (allV _) rfl rfl rfl rfl rfl rfl rfl ?_
      refine OW_end rfl ?_
      refine CW_block ?_
      have hll : e.vals.length = (findT s e.ty).1.fields.length := by have := hf; simp [evForm] at this; exact this.1.2
      refine CW_rangeH hE hF (allV1 e.vals) rfl rfl rfl (ysI_kf encV e.vals) rfl 9 (fun _ => (hset (hset noHeap 1 (some (.box 36 [.d (.lit .nilIface)]))) 2 (some (.box 72 ((encT (findT s e.ty).1).map .d)))))
       (fun i => ∀ j v f, j < i → e.vals[j]? = some v → (findT s e.ty).1.fields[j]? = some f → (v.k == f.kind) = true) rfl (fun _ => rfl) (fun j v f hj => by omega) (fun F' n' Z' Br Bb hE hB vs i args hargs hp => ?_) (fun hp vs => ?_)
      ·
       obtain ⟨a, ha, rfl⟩ := ysI_of hargs
       obtain ⟨f, hfi⟩ : ∃ f, (findT s e.ty).1.fields[i]? = some f := ⟨_, List.getElem?_eq_getElem (by have := (List.getElem?_eq_some_iff.1 ha).1; omega)⟩
       refine CW_seq ?_
       refine CW_region ?_
       refine OW_run' hE.ok 1 rfl ?_
       refine OW_end rfl ?_
       refine CW_region ?_
       refine OW_alloc' hE 3 rfl rfl rfl rfl rfl rfl rfl ?_
       refine OW_store' hE rfl rfl rfl rfl rfl rfl rfl rfl rfl rfl rfl rfl ?_
       refine OW_end rfl ?_
       refine ⟨rfl, rfl, ?_⟩
       refine CW_block ?_
       refine CW_seq ?_
       refine CW_drawn' hE 8 (by decide +kernel) ?_
       refine HW_run hE 5 rfl rfl ?_
       refine HW_loc hE (loc_indexAddr hE rfl rfl rfl rfl rfl (by omega) (x := encF f) (by show ((findT s e.ty).1.fields.map encF)[i]? = _; rw [List.getElem?_map, hfi]; rfl)) rfl rfl rfl rfl ?_
       refine HW_run hE 2 rfl rfl ?_
       refine HW_end ?_
       refine OW_run' hE.ok 1 rfl ?_
       refine OW_end rfl ?_
       refine CW_cond _ rfl (fun h6 => ?_) (fun h6 => ?_)
       ·
        have hk := h6
        refine CW_seq ?_
        refine CW_region ?_
        refine OW_run' hE.ok 1 rfl ?_
        refine OW_store' hE rfl rfl rfl rfl rfl rfl rfl rfl rfl rfl rfl rfl ?_
        refine OW_end rfl ?_
        refine CW_ret ⟨_, LE.refl _ _, J, _, fun h => h, rfl, rfl, ?_⟩
        refine ⟨.inr rfl, rfl, ⟨_, rfl, rfl, ?_⟩, rfl⟩
        rw [evErr_kind hth hf (kk_bad ha hfi (by simpa using hk))]
        exact AVle.refl _
       ·
        have hk := h6
        refine CW_skip ?_
        refine ⟨⟨Bb J, noSlots, (hset (hset (hset noHeap 1 (some (.box 36 [.d (.lit .nilIface)]))) 2 (some (.box 72 ((encT (findT s e.ty).1).map .d)))) 9 (some (.ghost _ vs)))⟩, LE_sh (slh_no _ _) (hlh_set (hlh_set (hlh_set (hlh_no _ _) rfl rfl) rfl rfl) rfl rfl), J, rfl, rfl, rfl, fun j v g hj hv hg => ?_⟩
        by_cases hji : j = i
        · subst hji; rw [ha] at hv; rw [hfi] at hg; cases hv; cases hg; simpa using hk
        · exact hp j v g (by omega) hv hg
      ·
       rw [ysI_length] at hp
       refine CW_seq ?_
       refine CW_region ?_
       refine OW_store' hE rfl rfl rfl rfl rfl rfl rfl rfl rfl rfl rfl rfl ?_
       refine OW_end rfl ?_
       refine CW_ret ?_
       refine ⟨.inr rfl, rfl, ⟨_, rfl, rfl, ?_⟩, rfl⟩
       rw [evErr_ok hth hf (kk_all hp)]
       exact AVle.refl _
end Go.Proofs.YtchpllgeahnmmaaDoor
namespace Go.Proofs.YtchpllgeahnmmaaDoor
open Go Go.AL
set_option linter.unusedVariables false
set_option linter.unusedSimpArgs false
set_option maxHeartbeats 4000000
theorem refFieldOk (t : Ty) (nm : ByteArray) : Does Tryd.prog 37 [argT t, .d (str nm)] noHeap (.d (int (fieldAt t nm))) := by
 refine Does_of T_ok mixed (N := 22) Tryd.func37 rfl rfl rfl (by rfl) fun F n Z hE hF J => ?_
 refine CW_seq ?_
 refine CW_region ?_
 refine OW_run' hE.ok 2 rfl ?_
 refine OW_end rfl ?_
 refine CW_seq ?_
 refine CW_seq ?_
 refine CW_region ?_
 refine OW_run' hE.ok 1 rfl ?_
 refine OW_end rfl ?_
 refine CW_block ?_
 refine CW_loop (σ := {i : Nat // i ≤ t.fields.length ∧ ∀ (j : Nat) (a : Fld), j < i → t.fields[j]? = some a → same a.name nm = false}) (fun i => ⟨J, (sset (sset (sset noSlots 1 (.d (str nm))) 2 (.d (.iptr (encT t)))) 5 (.d (int ((i.1 : Nat) : Int)))), noHeap⟩) (fun i => t.fields.length - i.1) ⟨0, Nat.zero_le _, fun j a hj => by omega⟩ (LE_sh (slh_set (slh_set (slh_set (slh_no _ _) rfl rfl) rfl rfl) rfl rfl) (hlh_no _ _)) fun ⟨i, hi, hp⟩ => ?_
 refine CW_seq ?_
 refine CW_seq ?_
 refine CW_region ?_
 refine OW_run' hE.ok 5 rfl ?_
 refine OW_end rfl ?_
 refine CW_cond _ rfl (fun h1 => ?_) (fun h1 => ?_)
 ·
  refine CW_know (know_sl (d := 8) rfl) fun hlen => ?_
  rw [List.length_map] at hlen
  have hlt : i < t.fields.length := by have := h1; simp at this; omega
  obtain ⟨a, ha⟩ : ∃ a, t.fields[i]? = some a := ⟨_, List.getElem?_eq_getElem hlt⟩
  refine CW_skip ?_
  refine CW_seq ?_
  refine CW_block ?_
  refine CW_seq ?_
  refine CW_region ?_
  refine OW_run' hE.ok 3 rfl ?_
  refine OW_loc' hE (loc_indexAddr hE rfl rfl rfl rfl rfl (by omega) (x := encF a) (by simp [ha])) rfl rfl rfl ?_
  refine OW_run' hE.ok 4 rfl ?_
  refine OW_end rfl ?_
  refine CW_cond _ rfl (fun h2 => ?_) (fun h2 => ?_)
  ·
   have hyes : same a.name nm = true := h2
   refine CW_seq ?_
   refine CW_region ?_
   refine OW_run' hE.ok 2 rfl ?_
   refine OW_end rfl ?_
   refine CW_ret ?_
   refine ⟨.inr rfl, rfl, ⟨_, rfl, rfl, ?_⟩, rfl⟩
   exact AVle.of (congrArg (fun b => AV.d (int b)) (by unfold fieldAt; rw [idx_some ha hyes hp]))
  ·
   have hno : same a.name nm = false := h2
   refine CW_skip ?_
   refine CW_region ?_
   refine OW_run' hE.ok 3 rfl ?_
   refine OW_end rfl ?_
   refine ⟨⟨i + 1, by omega, fun j x hj hx => ?_⟩, LE_sh (slh_set (v := .d (int ((i + 1 : Nat) : Int))) (slh_set (v := .d (.iptr (encT t))) (slh_set (v := .d (str nm)) (slh_no _ _) (by rfl) rfl) (by rfl) rfl) (by show AV.d (.lit (.int .i64 (IntKind.i64.wrap ((i : Int) + 1)))) = _; rw [wrap_succ (by omega)]; rfl) rfl) (hlh_no _ _), by show t.fields.length - (i + 1) < t.fields.length - i; omega⟩
   by_cases hji : j = i
   · subst hji; rw [ha] at hx; cases hx; exact hno
   · exact hp j x (by omega) hx
 ·
  have hge : t.fields.length ≤ i := by have := h1; simp at this; omega
  refine CW_exit ?_
  show CW _ _ _ _
  refine CW_seq ?_
  refine CW_region ?_
  refine OW_run' hE.ok 1 rfl ?_
  refine OW_end rfl ?_
  refine CW_ret ?_
  refine ⟨.inr rfl, rfl, ⟨_, rfl, rfl, ?_⟩, rfl⟩
  exact AVle.of (congrArg (fun b => AV.d (int b)) (by unfold fieldAt; rw [idx_none (fun j b hj hb => hp j b (by omega) hb)]))
theorem refFindOk (s : List Ty) (nm : ByteArray) : Does Tryd.prog 40 [argS s, .d (str nm)] noHeap (.tup [argT (findT s nm).1, .d (boo (findT s nm).2)]) := by
 refine Does_of T_ok mixed (N := 28) Tryd.func40 rfl rfl rfl (by rfl) fun F n Z hE hF J => ?_
 refine CW_seq ?_
 refine CW_region ?_
 refine OW_run' hE.ok 1 rfl ?_
 refine OW_alloc' hE 1 rfl rfl rfl rfl rfl rfl rfl ?_
 refine OW_run' hE.ok 1 rfl ?_
 refine OW_end rfl ?_
 refine CW_seq ?_
 refine CW_seq ?_
 refine CW_region ?_
 refine OW_run' hE.ok 1 rfl ?_
 refine OW_end rfl ?_
 refine CW_block ?_
 refine CW_loop (σ := {i : Nat // i ≤ s.length ∧ ∀ (j : Nat) (a : Ty), j < i → s[j]? = some a → same a.name nm = false}) (fun i => ⟨J, (sset (sset (sset (sset noSlots 1 (.d (str nm))) 2 (.d (.iptr [encS s]))) 4 (.ptr 1 0)) 6 (.d (int ((i.1 : Nat) : Int)))), (hset noHeap 1 (some (.box 72 [.d (str nul), .d (.lit (.slice none 0 0))])))⟩) (fun i => s.length - i.1) ⟨0, Nat.zero_le _, fun j a hj => by omega⟩ (LE_sh (slh_set (slh_set (slh_set (slh_set (slh_no _ _) rfl rfl) rfl rfl) rfl rfl) rfl rfl) (hlh_set (hlh_no _ _) rfl rfl)) fun ⟨i, hi, hp⟩ => ?_
 refine CW_seq ?_
 refine CW_seq ?_
 refine CW_region ?_
 refine OW_run' hE.ok 5 rfl ?_
 refine OW_end rfl ?_
 refine CW_cond _ rfl (fun h1 => ?_) (fun h1 => ?_)
 ·
  refine CW_know (know_sl (d := 9) rfl) fun hlen => ?_
  rw [List.length_map] at hlen
  have hlt : i < s.length := by have := h1; simp at this; omega
  obtain ⟨a, ha⟩ : ∃ a, s[i]? = some a := ⟨_, List.getElem?_eq_getElem hlt⟩
  refine CW_skip ?_
  refine CW_seq ?_
  refine CW_block ?_
  refine CW_seq ?_
  refine CW_region ?_
  refine OW_run' hE.ok 3 rfl ?_
  refine OW_loc' hE (loc_indexAddr hE rfl rfl rfl rfl rfl (by omega) (x := encT a) (by simp [ha])) rfl rfl rfl ?_
  refine OW_run' hE.ok 4 rfl ?_
  refine OW_end rfl ?_
  refine CW_cond _ rfl (fun h2 => ?_) (fun h2 => ?_)
  ·
   have hyes : same a.name nm = true := h2
   refine CW_seq ?_
   refine CW_region ?_
   refine OW_run' hE.ok 3 rfl ?_
   refine OW_loc' hE (loc_indexAddr hE rfl rfl rfl rfl rfl (by omega) (x := encT a) (by simp [ha])) rfl rfl rfl ?_
   refine OW_run' hE.ok 1 rfl ?_
   refine OW_store' hE rfl rfl rfl rfl rfl rfl rfl rfl rfl rfl rfl rfl ?_
   refine OW_run' hE.ok 1 rfl ?_
   refine OW_end rfl ?_
   refine CW_ret ?_
   refine ⟨.inr rfl, rfl, ⟨_, rfl, rfl, ?_⟩, rfl⟩
   rw [findT_at ha hyes hp]
   exact AVle.refl _
  ·
   have hno : same a.name nm = false := h2
   refine CW_skip ?_
   refine CW_region ?_
   refine OW_run' hE.ok 3 rfl ?_
   refine OW_end rfl ?_
   refine ⟨⟨i + 1, by omega, fun j x hj hx => ?_⟩, LE_sh (slh_set (v := .d (int ((i + 1 : Nat) : Int))) (slh_set (v := .ptr 1 0) (slh_set (v := .d (.iptr [encS s])) (slh_set (v := .d (str nm)) (slh_no _ _) (by rfl) rfl) (by rfl) rfl) (by rfl) rfl) (by show AV.d (.lit (.int .i64 (IntKind.i64.wrap ((i : Int) + 1)))) = _; rw [wrap_succ (by omega)]; rfl) rfl) (hlh_set (hlh_no _ _) rfl rfl), by show s.length - (i + 1) < s.length - i; omega⟩
   by_cases hji : j = i
   · subst hji; rw [ha] at hx; cases hx; exact hno
   · exact hp j x (by omega) hx
 ·
  have hge : s.length ≤ i := by have := h1; simp at this; omega
  refine CW_exit ?_
  show CW _ _ _ _
  refine CW_seq ?_
  refine CW_region ?_
  refine OW_build' hE rfl rfl rfl rfl rfl ?_
  refine OW_store' hE rfl rfl rfl rfl rfl rfl rfl rfl rfl rfl rfl rfl ?_
  refine OW_run' hE.ok 1 rfl ?_
  refine OW_end rfl ?_
  refine CW_ret ?_
  refine ⟨.inr rfl, rfl, ⟨_, rfl, rfl, ?_⟩, rfl⟩
  rw [findT_no (fun j b hj hb => hp j b (by omega) hb)]
  exact AVle.tup (.cons (.agg (.cons (.refl _) (.cons (.nilSl 2 24) .nil))) (.cons (.refl _) .nil))
theorem refGetOk (s : List Ty) (e : Ev) (nm : ByteArray) : Does Tryd.prog 10 [argS s, argE e, .d (str nm)] noHeap (.tup [argV (getV s e nm).1, .d (boo (getV s e nm).2)]) := by
 refine Does_of T_ok mixed (N := 40) Tryd.func10 rfl rfl rfl (by rfl) fun F n Z hE hF J => ?_
 obtain ⟨t, th⟩ : ∃ t, findT s e.ty = t := ⟨_, rfl⟩
 refine CW_seq ?_
 refine CW_region ?_
 refine OW_run' hE.ok 2 rfl ?_
 refine OW_alloc' hE 1 rfl rfl rfl rfl rfl rfl rfl ?_
 refine OW_run' hE.ok 1 rfl ?_
 refine OW_end rfl ?_
 refine CW_seq ?_
 refine CW_region ?_
 refine OW_run' hE.ok 3 rfl ?_
 refine OW_call' hE (refFindOk _ _) rfl rfl rfl rfl rfl rfl rfl ?_
 refine OW_run' hE.ok 3 rfl ?_
 refine OW_alloc' hE 2 rfl rfl rfl rfl rfl rfl rfl ?_
 refine OW_store' hE rfl rfl rfl rfl rfl rfl rfl rfl rfl rfl rfl rfl ?_
 refine OW_run' hE.ok 1 rfl ?_
 refine OW_end rfl ?_
 refine CW_seq ?_
 refine CW_region ?_
 refine OW_run' hE.ok 2 rfl ?_
 refine OW_call' hE (refFieldOk _ _) rfl rfl rfl rfl rfl rfl rfl ?_
 refine OW_run' hE.ok 1 rfl ?_
 refine OW_end rfl ?_
 refine CW_seq ?_
 refine CW_seq ?_
 refine CW_region ?_
 refine OW_run' hE.ok 3 rfl ?_
 refine OW_split' 23 rfl (fun h1 => ?_) (fun h1 => ?_)
 ·
  have hn : getV s e nm = (⟨0, 0, nul⟩, false) := getV_no (by have := h1; simp_all)
  refine OW_run' hE.ok 10 rfl ?_
  refine OW_end rfl ?_
  refine CW_true rfl ?_
  refine CW_seq ?_
  refine CW_region ?_
  refine OW_build' hE rfl rfl rfl rfl rfl ?_
  refine OW_store' hE rfl rfl rfl rfl rfl rfl rfl rfl rfl rfl rfl rfl ?_
  refine OW_run' hE.ok 1 rfl ?_
  refine OW_end rfl ?_
  refine CW_ret ?_
  refine ⟨.inr rfl, rfl, ⟨_, rfl, rfl, ?_⟩, rfl⟩
  rw [hn]
  exact AVle.refl _
 ·
  have g1 : (findT s e.ty).2 = true := by simpa using h1
  refine OW_run' hE.ok 4 rfl ?_
  refine OW_split' 27 rfl (fun h2 => ?_) (fun h2 => ?_)
  ·
   have hn : getV s e nm = (⟨0, 0, nul⟩, false) := getV_no (by have := h2; simp_all)
   refine OW_run' hE.ok 6 rfl ?_
   refine OW_end rfl ?_
   refine CW_true rfl ?_
   refine CW_seq ?_
   refine CW_region ?_
   refine OW_build' hE rfl rfl rfl rfl rfl ?_
   refine OW_store' hE rfl rfl rfl rfl rfl rfl rfl rfl rfl rfl rfl rfl ?_
   refine OW_run' hE.ok 1 rfl ?_
   refine OW_end rfl ?_
   refine CW_ret ?_
   refine ⟨.inr rfl, rfl, ⟨_, rfl, rfl, ?_⟩, rfl⟩
   rw [hn]
   exact AVle.refl _
  ·
   have g2 := h2
   refine OW_run' hE.ok 6 rfl ?_
   refine OW_end rfl ?_
   refine CW_cond _ rfl (fun h3 => ?_) (fun h3 => ?_)
   ·
    have hn : getV s e nm = (⟨0, 0, nul⟩, false) := getV_no (by have := h3; simp_all)
    refine CW_seq ?_
    refine CW_region ?_
    refine OW_build' hE rfl rfl rfl rfl rfl ?_
    refine OW_store' hE rfl rfl rfl rfl rfl rfl rfl rfl rfl rfl rfl rfl ?_
    refine OW_run' hE.ok 1 rfl ?_
    refine OW_end rfl ?_
    refine CW_ret ?_
    refine ⟨.inr rfl, rfl, ⟨_, rfl, rfl, ?_⟩, rfl⟩
    rw [hn]
    exact AVle.refl _
   ·
    obtain ⟨i, v, hi, hv, hg⟩ := getV_in (s := s) (e := e) (nm := nm) g1 g2 (by have := h3; rw [List.length_map] at this; exact this)
    refine CW_skip ?_
    refine CW_seq ?_
    refine CW_region ?_
    refine OW_run' hE.ok 3 rfl ?_
    refine OW_as' 37 (.d (int (i : Nat))) (congrArg (fun z => AV.d (int z)) hi) ?_
    refine OW_loc' hE (loc_indexAddr hE rfl rfl rfl rfl rfl (by omega) (x := encV v) (by simp [hv])) rfl rfl rfl ?_
    refine OW_run' hE.ok 1 rfl ?_
    refine OW_store' hE rfl rfl rfl rfl rfl rfl rfl rfl rfl rfl rfl rfl ?_
    refine OW_run' hE.ok 1 rfl ?_
    refine OW_end rfl ?_
    refine CW_ret ?_
    refine ⟨.inr rfl, rfl, ⟨_, rfl, rfl, ?_⟩, rfl⟩
    rw [hg]
    exact AVle.refl _
end Go.Proofs.YtchpllgeahnmmaaDoor
namespace Go.Proofs.YtchpllgeahnmmaaDoor
open Go Go.AL
set_option linter.unusedVariables false
set_option linter.unusedSimpArgs false
set_option maxHeartbeats 4000000
theorem refIsSOk (s : List Ty) : Does Tryd.prog 8 [argS s] noHeap (.d (boo (isSchema s))) := by
 refine Does_of T_ok mixed (N := 83) Tryd.func8 rfl rfl rfl (by rfl) fun F n Z hE hF J => ?_
 refine CW_seq ?_
 refine CW_region ?_
 refine OW_run' hE.ok 2 rfl ?_
 refine OW_end rfl ?_
 refine CW_seq ?_
 refine CW_seq ?_
 refine CW_region ?_
 refine OW_run' hE.ok 4 rfl ?_
 refine OW_end rfl ?_
 refine CW_cond _ rfl (fun h1 => ?_) (fun h1 => ?_)
 ·
  have gl : decide ((s.length : Int) > 5) = true := by have := h1; rw [List.length_map] at this; exact this
  refine CW_seq ?_
  refine CW_region ?_
  refine OW_run' hE.ok 1 rfl ?_
  refine OW_end rfl ?_
  refine CW_ret ?_
  refine ⟨.inr rfl, rfl, ⟨_, rfl, rfl, ?_⟩, rfl⟩
  exact AVle.of (congrArg (fun b => AV.d (boo b)) (by rw [sch_long gl]))
 ·
  have gl : decide ((s.length : Int) > 5) = false := by have := h1; rw [List.length_map] at this; exact this
  refine CW_skip ?_
  refine CW_seq ?_
  refine CW_seq ?_
  refine CW_region ?_
  refine OW_run' hE.ok 1 rfl ?_
  refine OW_end rfl ?_
  refine CW_block ?_
  refine CW_loop (σ := {i : Nat // i ≤ s.length ∧ (∀ (j : Nat) (a : Ty), j < i → s[j]? = some a → isType a = true) ∧ ∀ (j : Nat) (a b : Ty), j + 1 < i → s[j]? = some a → s[j + 1]? = some b → Op.bytesLess a.name.toList b.name.toList = true}) (fun i => ⟨J, (sset (sset noSlots 1 (.d (.iptr [encS s]))) 3 (.d (int ((i.1 : Nat) : Int)))), noHeap⟩) (fun i => s.length - i.1) ⟨0, Nat.zero_le _, fun j a hj => by omega, fun j a b hj => by omega⟩ (LE_sh (slh_set (slh_set (slh_no _ _) rfl rfl) rfl rfl) (hlh_no _ _)) fun ⟨i, hi, hp, hr⟩ => ?_
  refine CW_seq ?_
  refine CW_seq ?_
  refine CW_region ?_
  refine OW_run' hE.ok 5 rfl ?_
  refine OW_end rfl ?_
  refine CW_cond _ rfl (fun h2 => ?_) (fun h2 => ?_)
  ·
   have hlt : i < s.length := by have := h2; simp at this; omega
   obtain ⟨t, ht⟩ : ∃ t, s[i]? = some t := ⟨_, List.getElem?_eq_getElem hlt⟩
   refine CW_skip ?_
   refine CW_seq ?_
   refine CW_block ?_
   refine CW_seq ?_
   refine CW_region ?_
   refine OW_run' hE.ok 3 rfl ?_
   refine OW_loc' hE (loc_indexAddr hE rfl rfl rfl rfl rfl (by omega) (x := encT t) (by simp [ht])) rfl rfl rfl ?_
   refine OW_run' hE.ok 1 rfl ?_
   refine OW_alloc' hE 1 rfl rfl rfl rfl rfl rfl rfl ?_
   refine OW_store' hE rfl rfl rfl rfl rfl rfl rfl rfl rfl rfl rfl rfl ?_
   refine OW_know (know_sl (d := 19) rfl) fun hlen => ?_
   rw [List.length_map] at hlen
   refine OW_end rfl ?_
   refine CW_cutE (fun _ : Unit => ⟨J, (sset (sset (sset noSlots 1 (.d (.iptr [encS s]))) 3 (.d (int ((i : Nat) : Int)))) 4 (.ptr 1 0)), (hset noHeap 1 (some (.box 72 ((encT t).map .d))))⟩) (fun _ => isName t.name = true ∧ decide ((t.fields.length : Int) > 5) = false ∧ ∀ (j : Nat) (x : Ty), j + 1 = i → s[j]? = some x → Op.bytesLess x.name.toList t.name.toList = true) ?_ ?_
   ·
    refine CW_seq ?_
    refine CW_drawn' hE 17 (by decide +kernel) ?_
    refine HW_run hE 2 rfl rfl ?_
    refine HW_call hE (refNameOk _) rfl rfl rfl rfl rfl rfl rfl rfl ?_
    refine HW_run hE 2 rfl rfl ?_
    refine HW_split 27 rfl (fun h3 => ?_) (fun h3 => ?_)
    ·
     have n1 : isName t.name = false := by have := h3; simpa using this
     refine HW_run hE 12 rfl rfl ?_
     refine HW_end ?_
     refine OW_run' hE.ok 9 rfl ?_
     refine OW_end rfl ?_
     refine CW_true rfl ?_
     refine CW_seq ?_
     refine CW_region ?_
     refine OW_run' hE.ok 1 rfl ?_
     refine OW_end rfl ?_
     refine CW_ret ?_
     refine ⟨.inr rfl, rfl, ⟨_, rfl, rfl, ?_⟩, rfl⟩
     exact AVle.of (congrArg (fun b => AV.d (boo b)) (by rw [sch_badT ht (type_name n1)]))
    ·
     have n1 : isName t.name = true := by have := h3; simpa using this
     refine HW_run hE 3 rfl rfl ?_
     refine HW_split 30 rfl (fun h4 => ?_) (fun h4 => ?_)
     ·
      have h0 : 0 < i := by have := h4; simpa using this
      obtain ⟨pv, hpv⟩ : ∃ pv, s[i - 1]? = some pv := ⟨_, List.getElem?_eq_getElem (by omega)⟩
      refine HW_run hE 4 rfl rfl ?_
      refine HW_as 34 (.d (int ((i - 1 : Nat) : Int))) (by show AV.d (.lit (.int .i64 (IntKind.i64.wrap ((i : Int) - 1)))) = _; rw [show ((i : Int) - 1) = ((i - 1 : Nat) : Int) by omega, wrapN (by omega)]; rfl) ?_
      refine HW_loc hE (loc_indexAddr hE rfl rfl rfl rfl rfl (by omega) (x := encT pv) (by simp [hpv])) rfl rfl rfl rfl ?_
      refine HW_run hE 4 rfl rfl ?_
      refine HW_end ?_
      refine OW_run' hE.ok 4 rfl ?_
      refine OW_split' 43 rfl (fun h5 => ?_) (fun h5 => ?_)
      ·
       have hbad : Op.bytesLess pv.name.toList t.name.toList = false := by have := h5; simpa using this
       refine OW_run' hE.ok 5 rfl ?_
       refine OW_end rfl ?_
       refine CW_true rfl ?_
       refine CW_seq ?_
       refine CW_region ?_
       refine OW_run' hE.ok 1 rfl ?_
       refine OW_end rfl ?_
       refine CW_ret ?_
       refine ⟨.inr rfl, rfl, ⟨_, rfl, rfl, ?_⟩, rfl⟩
       exact AVle.of (congrArg (fun b => AV.d (boo b)) (by rw [sch_badR (i := i - 1) hpv (by rw [show i - 1 + 1 = i by omega]; exact ht) hbad]))
      ·
       have n2 : ∀ (j : Nat) (x : Ty), j + 1 = i → s[j]? = some x → Op.bytesLess x.name.toList t.name.toList = true := fun j x hj hx => by (obtain rfl : j = i - 1 := by omega); rw [hpv] at hx; cases hx; have := h5; simpa using this
       refine OW_run' hE.ok 5 rfl ?_
       refine OW_end rfl ?_
       refine CW_cond _ rfl (fun h6 => ?_) (fun h6 => ?_)
       ·
        have n3 : decide ((t.fields.length : Int) > 5) = true := by have := h6; rw [List.length_map] at this; exact this
        refine CW_seq ?_
        refine CW_region ?_
        refine OW_run' hE.ok 1 rfl ?_
        refine OW_end rfl ?_
        refine CW_ret ?_
        refine ⟨.inr rfl, rfl, ⟨_, rfl, rfl, ?_⟩, rfl⟩
        exact AVle.of (congrArg (fun b => AV.d (boo b)) (by rw [sch_badT ht (type_long n3)]))
       ·
        have n3 : decide ((t.fields.length : Int) > 5) = false := by have := h6; rw [List.length_map] at this; exact this
        refine CW_skip ?_
        exact ⟨(), ⟨n1, n3, n2⟩, LE_sh (slh_set (v := .ptr 1 0) (slh_set (v := .d (int ((i : Nat) : Int))) (slh_set (v := .d (.iptr [encS s])) (slh_no _ _) (by rfl) rfl) (by rfl) rfl) (by rfl) rfl) (hlh_set (hlh_no _ _) rfl rfl)⟩
     ·
      have h0 : i = 0 := by have := h4; simp at this; omega
      have n2 : ∀ (j : Nat) (x : Ty), j + 1 = i → s[j]? = some x → Op.bytesLess x.name.toList t.name.toList = true := fun j x hj hx => by omega
      refine HW_run hE 9 rfl rfl ?_
      refine HW_end ?_
      refine OW_run' hE.ok 9 rfl ?_
      refine OW_end rfl ?_
      refine CW_cond _ rfl (fun h7 => ?_) (fun h7 => ?_)
      ·
       have n3 : decide ((t.fields.length : Int) > 5) = true := by have := h7; rw [List.length_map] at this; exact this
       refine CW_seq ?_
       refine CW_region ?_
       refine OW_run' hE.ok 1 rfl ?_
       refine OW_end rfl ?_
       refine CW_ret ?_
       refine ⟨.inr rfl, rfl, ⟨_, rfl, rfl, ?_⟩, rfl⟩
       exact AVle.of (congrArg (fun b => AV.d (boo b)) (by rw [sch_badT ht (type_long n3)]))
      ·
       have n3 : decide ((t.fields.length : Int) > 5) = false := by have := h7; rw [List.length_map] at this; exact this
       refine CW_skip ?_
       exact ⟨(), ⟨n1, n3, n2⟩, LE_sh (slh_set (v := .ptr 1 0) (slh_set (v := .d (int ((i : Nat) : Int))) (slh_set (v := .d (.iptr [encS s])) (slh_no _ _) (by rfl) rfl) (by rfl) rfl) (by rfl) rfl) (hlh_set (hlh_no _ _) rfl rfl)⟩
   ·
    rintro _ ⟨n1, n3, n2⟩
    refine CW_seq ?_
    refine CW_region ?_
    refine OW_run' hE.ok 1 rfl ?_
    refine OW_end rfl ?_
    refine CW_block ?_
    refine CW_loop (σ := {q : Nat // q ≤ t.fields.length ∧ ∀ (j : Nat) (f : Fld), j < q → t.fields[j]? = some f → okF t j f = true}) (fun q => ⟨J, (sset (sset (sset (sset noSlots 1 (.d (.iptr [encS s]))) 3 (.d (int ((i : Nat) : Int)))) 4 (.ptr 1 0)) 5 (.d (int ((q.1 : Nat) : Int)))), (hset noHeap 1 (some (.box 72 ((encT t).map .d))))⟩) (fun q => t.fields.length - q.1) ⟨0, Nat.zero_le _, fun j t hj => by omega⟩ (LE_sh (slh_set (slh_set (slh_set (slh_set (slh_no _ _) rfl rfl) rfl rfl) rfl rfl) rfl rfl) (hlh_set (hlh_no _ _) rfl rfl)) fun ⟨q, hq, hpf⟩ => ?_
    refine CW_seq ?_
    refine CW_seq ?_
    refine CW_region ?_
    refine OW_run' hE.ok 5 rfl ?_
    refine OW_end rfl ?_
    refine CW_cond _ rfl (fun h8 => ?_) (fun h8 => ?_)
    ·
     refine CW_know (know_sl (d := 51) rfl) fun hlen => ?_
     simp only [List.length_map] at hlen
     have hltq : q < t.fields.length := by have := h8; simp at this; omega
     obtain ⟨f, hf⟩ : ∃ f, t.fields[q]? = some f := ⟨_, List.getElem?_eq_getElem hltq⟩
     refine CW_skip ?_
     refine CW_seq ?_
     refine CW_block ?_
     refine CW_seq ?_
     refine CW_region ?_
     refine OW_run' hE.ok 3 rfl ?_
     refine OW_loc' hE (loc_indexAddr hE rfl rfl rfl rfl rfl (by omega) (x := encF f) (by simp [hf])) rfl rfl rfl ?_
     refine OW_run' hE.ok 1 rfl ?_
     refine OW_alloc' hE 2 rfl rfl rfl rfl rfl rfl rfl ?_
     refine OW_store' hE rfl rfl rfl rfl rfl rfl rfl rfl rfl rfl rfl rfl ?_
     refine OW_end rfl ?_
     refine CW_seq ?_
     refine CW_region ?_
     refine OW_run' hE.ok 2 rfl ?_
     refine OW_call' hE (refNameOk _) rfl rfl rfl rfl rfl rfl rfl ?_
     refine OW_run' hE.ok 2 rfl ?_
     refine OW_split' 65 rfl (fun h9 => ?_) (fun h9 => ?_)
     ·
      have f1 : isName f.name = false := by have := h9; simpa using this
      refine OW_run' hE.ok 17 rfl ?_
      refine OW_end rfl ?_
      refine CW_true rfl ?_
      refine CW_seq ?_
      refine CW_region ?_
      refine OW_run' hE.ok 1 rfl ?_
      refine OW_end rfl ?_
      refine CW_ret ?_
      refine ⟨.inr rfl, rfl, ⟨_, rfl, rfl, ?_⟩, rfl⟩
      exact AVle.of (congrArg (fun b => AV.d (boo b)) (by rw [sch_badT ht (okFs_bad hf (okF_no (.inl f1)))]))
     ·
      have f1 : isName f.name = true := by have := h9; simpa using this
      refine OW_run' hE.ok 5 rfl ?_
      refine OW_split' 70 rfl (fun h10 => ?_) (fun h10 => ?_)
      ·
       have f2 : decide (f.kind < 1) = true := h10
       refine OW_run' hE.ok 12 rfl ?_
       refine OW_end rfl ?_
       refine CW_true rfl ?_
       refine CW_seq ?_
       refine CW_region ?_
       refine OW_run' hE.ok 1 rfl ?_
       refine OW_end rfl ?_
       refine CW_ret ?_
       refine ⟨.inr rfl, rfl, ⟨_, rfl, rfl, ?_⟩, rfl⟩
       exact AVle.of (congrArg (fun b => AV.d (boo b)) (by rw [sch_badT ht (okFs_bad hf (okF_no (.inr (.inl f2))))]))
      ·
       have f2 : decide (f.kind < 1) = false := h10
       refine OW_run' hE.ok 5 rfl ?_
       refine OW_split' 75 rfl (fun h11 => ?_) (fun h11 => ?_)
       ·
        have f3 : decide (f.kind > 3) = true := h11
        refine OW_run' hE.ok 7 rfl ?_
        refine OW_end rfl ?_
        refine CW_true rfl ?_
        refine CW_seq ?_
        refine CW_region ?_
        refine OW_run' hE.ok 1 rfl ?_
        refine OW_end rfl ?_
        refine CW_ret ?_
        refine ⟨.inr rfl, rfl, ⟨_, rfl, rfl, ?_⟩, rfl⟩
        exact AVle.of (congrArg (fun b => AV.d (boo b)) (by rw [sch_badT ht (okFs_bad hf (okF_no (.inr (.inr (.inl f3)))))]))
       ·
        have f3 : decide (f.kind > 3) = false := h11
        refine OW_run' hE.ok 3 rfl ?_
        refine OW_call' hE (refFieldOk t f.name) rfl rfl rfl rfl rfl rfl rfl ?_
        refine OW_run' hE.ok 3 rfl ?_
        refine OW_end rfl ?_
        refine CW_cond _ rfl (fun h12 => ?_) (fun h12 => ?_)
        ·
         have f4 : (fieldAt t f.name != (q : Int)) = true := h12
         refine CW_seq ?_
         refine CW_region ?_
         refine OW_run' hE.ok 1 rfl ?_
         refine OW_end rfl ?_
         refine CW_ret ?_
         refine ⟨.inr rfl, rfl, ⟨_, rfl, rfl, ?_⟩, rfl⟩
         exact AVle.of (congrArg (fun b => AV.d (boo b)) (by rw [sch_badT ht (okFs_bad hf (okF_no (.inr (.inr (.inr f4)))))]))
        ·
         have f4 : (fieldAt t f.name != (q : Int)) = false := h12
         refine CW_skip ?_
         refine CW_region ?_
         refine OW_run' hE.ok 3 rfl ?_
         refine OW_end rfl ?_
         refine ⟨⟨q + 1, by omega, fun j x hj hx => ?_⟩, LE_sh (slh_set (v := .d (int ((q + 1 : Nat) : Int))) (slh_set (v := .ptr 1 0) (slh_set (v := .d (int ((i : Nat) : Int))) (slh_set (v := .d (.iptr [encS s])) (slh_no _ _) (by rfl) rfl) (by rfl) rfl) (by rfl) rfl) (by show AV.d (.lit (.int .i64 (IntKind.i64.wrap ((q : Int) + 1)))) = _; rw [wrap_succ (by omega)]; rfl) rfl) (hlh_set (hlh_no _ _) rfl rfl), by show t.fields.length - (q + 1) < t.fields.length - q; omega⟩
         by_cases hji : j = q
         · subst hji; rw [hf] at hx; cases hx; exact okF_yes f1 f2 f3 f4
         · exact hpf j x (by omega) hx
    ·
     have hgq : t.fields.length ≤ q := by have := h8; simp at this; omega
     refine CW_exit ?_
     show CW _ _ _ _
     refine CW_region ?_
     refine OW_run' hE.ok 3 rfl ?_
     refine OW_end rfl ?_
     refine ⟨⟨i + 1, by omega, fun j x hj hx => ?_, fun j x y hj hx hy => ?_⟩, LE_sh (slh_set (v := .d (int ((i + 1 : Nat) : Int))) (slh_set (v := .d (.iptr [encS s])) (slh_no _ _) (by rfl) rfl) (by show AV.d (.lit (.int .i64 (IntKind.i64.wrap ((i : Int) + 1)))) = _; rw [wrap_succ (by omega)]; rfl) rfl) (hlh_no _ _), by show s.length - (i + 1) < s.length - i; omega⟩
     ·
      by_cases hji : j = i
      · subst hji; rw [ht] at hx; cases hx; exact type_ok n1 n3 (okFs_all fun q f hq hf => hpf q f (by omega) hf)
      · exact hp j x (by omega) hx
     ·
      by_cases hji : j + 1 = i
      · subst hji; rw [ht] at hy; cases hy; exact n2 j x rfl hx
      · exact hr j x y (by omega) hx hy
  ·
   have hge : s.length ≤ i := by have := h2; simp at this; omega
   refine CW_exit ?_
   show CW _ _ _ _
   refine CW_seq ?_
   refine CW_region ?_
   refine OW_run' hE.ok 1 rfl ?_
   refine OW_end rfl ?_
   refine CW_ret ?_
   refine ⟨.inr rfl, rfl, ⟨_, rfl, rfl, ?_⟩, rfl⟩
   exact AVle.of (congrArg (fun b => AV.d (boo b)) (by rw [sch_ok gl (fun j a hj ha => hp j a (by omega) ha) (fun j a b hj => hr j a b (by omega))]))
theorem refIsEOk (s : List Ty) (e : Ev) : Does Tryd.prog 13 [argS s, argE e] noHeap (.d (int (evtR s e))) := by
 refine Does_of T_ok mixed (N := 69) Tryd.func13 rfl rfl rfl (by rfl) fun F n Z hE hF J => ?_
 refine CW_seq ?_
 refine CW_region ?_
 refine OW_run' hE.ok 3 rfl ?_
 refine OW_end rfl ?_
 refine CW_seq ?_
 refine CW_region ?_
 refine OW_run' hE.ok 3 rfl ?_
 refine OW_call' hE (refFindOk _ _) rfl rfl rfl rfl rfl rfl rfl ?_
 refine OW_run' hE.ok 3 rfl ?_
 refine OW_alloc' hE 1 rfl rfl rfl rfl rfl rfl rfl ?_
 refine OW_store' hE rfl rfl rfl rfl rfl rfl rfl rfl rfl rfl rfl rfl ?_
 refine OW_run' hE.ok 1 rfl ?_
 refine OW_end rfl ?_
 refine CW_seq ?_
 refine CW_seq ?_
 refine CW_region ?_
 refine OW_run' hE.ok 2 rfl ?_
 refine OW_end rfl ?_
 refine CW_cond _ rfl (fun h1 => ?_) (fun h1 => ?_)
 ·
  have g0 : (findT s e.ty).2 = false := by have := h1; simpa using this
  refine CW_seq ?_
  refine CW_region ?_
  refine OW_run' hE.ok 1 rfl ?_
  refine OW_end rfl ?_
  refine CW_ret ?_
  refine ⟨.inr rfl, rfl, ⟨_, rfl, rfl, ?_⟩, rfl⟩
  exact AVle.of (congrArg (fun b => AV.d (int b)) (by rw [evt_none g0]))
 ·
  have g0 : (findT s e.ty).2 = true := by have := h1; simpa using this
  refine CW_skip ?_
  refine CW_seq ?_
  refine CW_seq ?_
  refine CW_region ?_
  refine OW_run' hE.ok 4 rfl ?_
  refine OW_split' 21 rfl (fun h2 => ?_) (fun h2 => ?_)
  ·
   have g1 : decide (e.ts < 0) = true := h2
   refine OW_run' hE.ok 13 rfl ?_
   refine OW_end rfl ?_
   refine CW_true rfl ?_
   refine CW_seq ?_
   refine CW_region ?_
   refine OW_run' hE.ok 1 rfl ?_
   refine OW_end rfl ?_
   refine CW_ret ?_
   refine ⟨.inr rfl, rfl, ⟨_, rfl, rfl, ?_⟩, rfl⟩
   exact AVle.of (congrArg (fun b => AV.d (int b)) (by rw [evt_form g0 (by rw [g1]; rfl)]))
  ·
   have g1 : decide (e.ts < 0) = false := h2
   refine OW_run' hE.ok 5 rfl ?_
   refine OW_split' 26 rfl (fun h3 => ?_) (fun h3 => ?_)
   ·
    have g2 : decide (e.ts > 1073741824) = true := h3
    refine OW_run' hE.ok 8 rfl ?_
    refine OW_end rfl ?_
    refine CW_true rfl ?_
    refine CW_seq ?_
    refine CW_region ?_
    refine OW_run' hE.ok 1 rfl ?_
    refine OW_end rfl ?_
    refine CW_ret ?_
    refine ⟨.inr rfl, rfl, ⟨_, rfl, rfl, ?_⟩, rfl⟩
    exact AVle.of (congrArg (fun b => AV.d (int b)) (by rw [evt_form g0 (by rw [g1, g2]; rfl)]))
   ·
    have g2 : decide (e.ts > 1073741824) = false := h3
    refine OW_run' hE.ok 8 rfl ?_
    refine OW_end rfl ?_
    refine CW_cond _ rfl (fun h4 => ?_) (fun h4 => ?_)
    ·
     have hf : (decide (e.ts < 0) || (decide (e.ts > 1073741824) || ((e.vals.length : Int) != ((findT s e.ty).1.fields.length : Int)))) = true := by rw [g1, g2, show ((e.vals.length : Int) != ((findT s e.ty).1.fields.length : Int)) = true by have := h4; rw [List.length_map, List.length_map] at this; exact this]; rfl
     refine CW_seq ?_
     refine CW_region ?_
     refine OW_run' hE.ok 1 rfl ?_
     refine OW_end rfl ?_
     refine CW_ret ?_
     refine ⟨.inr rfl, rfl, ⟨_, rfl, rfl, ?_⟩, rfl⟩
     exact AVle.of (congrArg (fun b => AV.d (int b)) (by rw [evt_form g0 hf]))
    ·
     have g3 : ((e.vals.length : Int) != ((findT s e.ty).1.fields.length : Int)) = false := by have := h4; rw [List.length_map, List.length_map] at this; exact this
     have hf : (decide (e.ts < 0) || (decide (e.ts > 1073741824) || ((e.vals.length : Int) != ((findT s e.ty).1.fields.length : Int)))) = false := by rw [g1, g2, g3]; rfl
     have hvl : e.vals.length = (findT s e.ty).1.fields.length := by have := g3; simp at this; omega
     refine CW_skip ?_
     refine CW_seq ?_
     refine CW_seq ?_
     refine CW_region ?_
     refine OW_run' hE.ok 1 rfl ?_
     refine OW_end rfl ?_
     refine CW_block ?_
     refine CW_loop (σ := {i : Nat // i ≤ e.vals.length ∧ ∀ (j : Nat) (a : Vl), j < i → e.vals[j]? = some a → isVal a = true}) (fun i => ⟨J, (sset (sset (sset noSlots 3 (.d (.iptr (encE e)))) 5 (.ptr 1 0)) 7 (.d (int ((i.1 : Nat) : Int)))), (hset noHeap 1 (some (.box 72 ((encT (findT s e.ty).1).map .d))))⟩) (fun i => e.vals.length - i.1) ⟨0, Nat.zero_le _, fun j a hj => by omega⟩ (LE_sh (slh_set (slh_set (slh_set (slh_no _ _) rfl rfl) rfl rfl) rfl rfl) (hlh_set (hlh_no _ _) rfl rfl)) fun ⟨i, hi, hp⟩ => ?_
     refine CW_seq ?_
     refine CW_seq ?_
     refine CW_region ?_
     refine OW_run' hE.ok 5 rfl ?_
     refine OW_end rfl ?_
     refine CW_cond _ rfl (fun h5 => ?_) (fun h5 => ?_)
     ·
      refine CW_know (know_sl (d := 37) rfl) fun hlen => ?_
      simp only [List.length_map] at hlen
      have hlt : i < e.vals.length := by have := h5; simp at this; omega
      obtain ⟨v, hv⟩ : ∃ v, e.vals[i]? = some v := ⟨_, List.getElem?_eq_getElem hlt⟩
      refine CW_skip ?_
      refine CW_seq ?_
      refine CW_block ?_
      refine CW_seq ?_
      refine CW_region ?_
      refine OW_run' hE.ok 3 rfl ?_
      refine OW_loc' hE (loc_indexAddr hE rfl rfl rfl rfl rfl (by omega) (x := encV v) (by simp [hv])) rfl rfl rfl ?_
      refine OW_run' hE.ok 1 rfl ?_
      refine OW_call' hE (refIsValOk v) rfl rfl rfl rfl rfl rfl rfl ?_
      refine OW_run' hE.ok 1 rfl ?_
      refine OW_end rfl ?_
      refine CW_cond _ rfl (fun h6 => ?_) (fun h6 => ?_)
      ·
       have gv : isVal v = false := by have := h6; simpa using this
       refine CW_seq ?_
       refine CW_region ?_
       refine OW_run' hE.ok 1 rfl ?_
       refine OW_end rfl ?_
       refine CW_ret ?_
       refine ⟨.inr rfl, rfl, ⟨_, rfl, rfl, ?_⟩, rfl⟩
       exact AVle.of (congrArg (fun b => AV.d (int b)) (by rw [evt_val g0 hf hv gv]))
      ·
       have gv : isVal v = true := by have := h6; simpa using this
       refine CW_skip ?_
       refine CW_region ?_
       refine OW_run' hE.ok 3 rfl ?_
       refine OW_end rfl ?_
       refine ⟨⟨i + 1, by omega, fun j x hj hx => ?_⟩, LE_sh (slh_set (v := .d (int ((i + 1 : Nat) : Int))) (slh_set (v := .ptr 1 0) (slh_set (v := .d (.iptr (encE e))) (slh_no _ _) (by rfl) rfl) (by rfl) rfl) (by show AV.d (.lit (.int .i64 (IntKind.i64.wrap ((i : Int) + 1)))) = _; rw [wrap_succ (by omega)]; rfl) rfl) (hlh_set (hlh_no _ _) rfl rfl), by show e.vals.length - (i + 1) < e.vals.length - i; omega⟩
       by_cases hji : j = i
       · subst hji; rw [hv] at hx; cases hx; exact gv
       · exact hp j x (by omega) hx
     ·
      have hge : e.vals.length ≤ i := by have := h5; simp at this; omega
      have hall : e.vals.all isVal = true := all_of fun j a hj ha => hp j a (by omega) ha
      refine CW_exit ?_
      show CW _ _ _ _
      refine CW_seq ?_
      refine CW_seq ?_
      refine CW_region ?_
      refine OW_run' hE.ok 1 rfl ?_
      refine OW_end rfl ?_
      refine CW_block ?_
      refine CW_loop (σ := {i : Nat // i ≤ e.vals.length ∧ ∀ (j : Nat) (a : Vl) (f : Fld), j < i → e.vals[j]? = some a → (findT s e.ty).1.fields[j]? = some f → (a.k != f.kind) = false}) (fun i => ⟨J, (sset (sset (sset noSlots 3 (.d (.iptr (encE e)))) 5 (.ptr 1 0)) 8 (.d (int ((i.1 : Nat) : Int)))), (hset noHeap 1 (some (.box 72 ((encT (findT s e.ty).1).map .d))))⟩) (fun i => e.vals.length - i.1) ⟨0, Nat.zero_le _, fun j a f hj => by omega⟩ (LE_sh (slh_set (slh_set (slh_set (slh_no _ _) rfl rfl) rfl rfl) rfl rfl) (hlh_set (hlh_no _ _) rfl rfl)) fun ⟨i, hi, hp⟩ => ?_
      refine CW_seq ?_
      refine CW_seq ?_
      refine CW_region ?_
      refine OW_run' hE.ok 5 rfl ?_
      refine OW_end rfl ?_
      refine CW_cond _ rfl (fun h7 => ?_) (fun h7 => ?_)
      ·
       refine CW_know (know_sl (d := 51) rfl) fun hlen => ?_
       simp only [List.length_map] at hlen
       have hlt : i < e.vals.length := by have := h7; simp at this; omega
       obtain ⟨v, hv⟩ : ∃ v, e.vals[i]? = some v := ⟨_, List.getElem?_eq_getElem hlt⟩
       obtain ⟨f, hfl⟩ : ∃ f, (findT s e.ty).1.fields[i]? = some f := ⟨_, List.getElem?_eq_getElem (by omega)⟩
       refine CW_skip ?_
       refine CW_seq ?_
       refine CW_block ?_
       refine CW_seq ?_
       refine CW_drawn' hE 12 (by decide +kernel) ?_
       refine HW_run hE 3 rfl rfl ?_
       refine HW_loc hE (loc_indexAddr hE rfl rfl rfl rfl rfl (by omega) (x := encV v) (by simp [hv])) rfl rfl rfl rfl ?_
       refine HW_run hE 5 rfl rfl ?_
       refine HW_loc hE (loc_indexAddr hE rfl rfl rfl rfl rfl (by omega) (x := encF f) (by simp [hfl])) rfl rfl rfl rfl ?_
       refine HW_run hE 2 rfl rfl ?_
       refine HW_end ?_
       refine OW_run' hE.ok 1 rfl ?_
       refine OW_end rfl ?_
       refine CW_cond _ rfl (fun h8 => ?_) (fun h8 => ?_)
       ·
        have gk : (v.k != f.kind) = true := h8
        refine CW_seq ?_
        refine CW_region ?_
        refine OW_run' hE.ok 1 rfl ?_
        refine OW_end rfl ?_
        refine CW_ret ?_
        refine ⟨.inr rfl, rfl, ⟨_, rfl, rfl, ?_⟩, rfl⟩
        exact AVle.of (congrArg (fun b => AV.d (int b)) (by rw [evt_kind g0 hf hall (kindsAs_no hv hfl gk)]))
       ·
        have gk : (v.k != f.kind) = false := h8
        refine CW_skip ?_
        refine CW_region ?_
        refine OW_run' hE.ok 3 rfl ?_
        refine OW_end rfl ?_
        refine ⟨⟨i + 1, by omega, fun j x f hj hx hf => ?_⟩, LE_sh (slh_set (v := .d (int ((i + 1 : Nat) : Int))) (slh_set (v := .ptr 1 0) (slh_set (v := .d (.iptr (encE e))) (slh_no _ _) (by rfl) rfl) (by rfl) rfl) (by show AV.d (.lit (.int .i64 (IntKind.i64.wrap ((i : Int) + 1)))) = _; rw [wrap_succ (by omega)]; rfl) rfl) (hlh_set (hlh_no _ _) rfl rfl), by show e.vals.length - (i + 1) < e.vals.length - i; omega⟩
        by_cases hji : j = i
        · subst hji; rw [hv] at hx; cases hx; rw [hfl] at hf; cases hf; exact gk
        · exact hp j x f (by omega) hx hf
      ·
       have hge : e.vals.length ≤ i := by have := h7; simp at this; omega
       have hks : kindsAs e.vals (findT s e.ty).1.fields = true := kindsAs_yes hvl fun j v f hv hf => hp j v f (by have := (List.getElem?_eq_some_iff.1 hv).1; omega) hv hf
       refine CW_exit ?_
       show CW _ _ _ _
       refine CW_seq ?_
       refine CW_region ?_
       refine OW_run' hE.ok 1 rfl ?_
       refine OW_end rfl ?_
       refine CW_ret ?_
       refine ⟨.inr rfl, rfl, ⟨_, rfl, rfl, ?_⟩, rfl⟩
       exact AVle.of (congrArg (fun b => AV.d (int b)) (by rw [evt_yes g0 hf hall hks]))
end Go.Proofs.YtchpllgeahnmmaaDoor
