/- Part of an abstract logic over the kit's walks, and walks in it: V1b. -/
import Derived.Test.YtdlikopmjhfalaaV1i
namespace Go.Proofs.Ytdlikopmjhfalaa
open Go Go.AL
set_option linter.unusedVariables false
set_option linter.unusedSimpArgs false
set_option maxHeartbeats 4000000
theorem isNaN1 (s : ByteArray) : Does Try.prog 66 [.d (str s)] noHeap (.d (boo false)) := by
  refine Does_of T_ok mixed (N := 6) Try.func66 rfl rfl rfl (by rfl) fun F n Z hE hF J => ?_
  refine CW_seq ?_
  refine CW_region ?_
  refine OW_run' hE.ok 1 rfl ?_
  refine OW_end rfl ?_
  refine CW_seq ?_
  refine CW_region ?_
  refine OW_run' hE.ok 4 rfl ?_
  refine OW_end rfl ?_
  refine CW_ret ?_
  refine ⟨.inr rfl, rfl, ⟨_, rfl, rfl, ?_⟩, rfl⟩
  exact AVle.of (congrArg (fun b => AV.d (boo b)) (by simp))

theorem isNaN2 (s : ByteArray) : Does Try.prog 69 [.d (str s)] noHeap (.d (boo false)) := by
  refine Does_of T_ok mixed (N := 6) Try.func69 rfl rfl rfl (by rfl) fun F n Z hE hF J => ?_
  refine CW_seq ?_
  refine CW_region ?_
  refine OW_run' hE.ok 1 rfl ?_
  refine OW_end rfl ?_
  refine CW_seq ?_
  refine CW_region ?_
  refine OW_run' hE.ok 4 rfl ?_
  refine OW_end rfl ?_
  refine CW_ret ?_
  refine ⟨.inr rfl, rfl, ⟨_, rfl, rfl, ?_⟩, rfl⟩
  exact AVle.of (congrArg (fun b => AV.d (boo b)) (by simp))

theorem lessOk (a b : ByteArray) : Does Try.prog 65 [.d (str a), .d (str b)] noHeap (.d (boo (less a b))) := by
  refine Does_of T_ok mixed (N := 17) Try.func65 rfl rfl rfl (by rfl) fun F n Z hE hF J => ?_
  refine CW_seq ?_
  refine CW_region ?_
  refine OW_run' hE.ok 1 rfl ?_
  refine OW_end rfl ?_
  refine CW_seq ?_
  refine CW_region ?_
  refine OW_run' hE.ok 1 rfl ?_
  refine OW_call' hE (isNaN2 a) rfl rfl rfl rfl rfl rfl rfl ?_
  refine OW_run' hE.ok 11 rfl ?_
  refine OW_end rfl ?_
  refine CW_ret ?_
  refine ⟨.inr rfl, rfl, ⟨_, rfl, rfl, ?_⟩, rfl⟩
  exact AVle.refl _

theorem bsOk (l : List ByteArray) (s : ByteArray) (hr : rise l = true) : Does Try.prog 61 [.d (.sl 1 16 (l.map encB)), .d (str s)] noHeap (.tup [.d (int (posT s l : Nat)), .d (boo (there s l))]) := by
  refine Does_of T_ok mixed (N := 54) Try.func61 rfl rfl rfl (by rfl) fun F n Z hE hF J => ?_
  refine CW_know (know_sl (d := 0) rfl) fun hlen => ?_
  rw [List.length_map] at hlen
  refine CW_seq ?_
  refine CW_region ?_
  refine OW_run' hE.ok 2 rfl ?_
  refine OW_end rfl ?_
  refine CW_seq ?_
  refine CW_region ?_
  refine OW_run' hE.ok 3 rfl ?_
  refine OW_end rfl ?_
  refine CW_seq ?_
  refine CW_region ?_
  refine OW_run' hE.ok 3 rfl ?_
  refine OW_end rfl ?_
  refine CW_seq ?_
  refine CW_block ?_
  refine CW_loop (σ := {q : Nat × Nat // q.1 ≤ q.2 ∧ q.2 ≤ l.length ∧ (∀ k a, k < q.1 → l[k]? = some a → less a s = true) ∧ (∀ k a, q.2 ≤ k → l[k]? = some a → less a s = false)})
    (fun q => ⟨J, (sset (sset (sset (sset (sset noSlots 0 (.d (.sl 1 16 (l.map encB)))) 1 (.d (str s))) 6 (.d (.lit (.int .i64 l.length)))) 7 (.d (int ((q.1.1 : Nat) : Int)))) 8 (.d (int ((q.1.2 : Nat) : Int)))), noHeap⟩) (fun q => q.1.2 - q.1.1) ⟨(0, l.length), Nat.zero_le _, Nat.le_refl _, fun k a hk => absurd hk (Nat.not_lt_zero _), fun k a hk ha => absurd (List.getElem?_eq_some_iff.1 ha).1 (by simp at hk; omega)⟩ (LE_s (sle_set (sle_set (sle_set (sle_set (sle_set (sle_no _) rfl) rfl) (by show AV.d (.lit (.int .i64 ((l.map encB).length : Int))) = _; rw [List.length_map])) rfl) (by show AV.d (.lit (.int .i64 ((l.map encB).length : Int))) = _; rw [List.length_map]; rfl))) fun ⟨(i, j), hij, hj, g1, g2⟩ => ?_
  simp only at hij hj g1 g2
  refine CW_seq ?_
  refine CW_seq ?_
  refine CW_region ?_
  refine OW_run' hE.ok 3 rfl ?_
  refine OW_end rfl ?_
  refine CW_cond _ rfl (fun h1 => ?_) (fun h1 => ?_)
  · skip
    have hlt : i < j := by have := h1; simp at this; omega
    obtain ⟨a, ha⟩ : ∃ a, l[(i + j) / 2]? = some a := ⟨_, List.getElem?_eq_getElem (by omega)⟩
    refine CW_skip ?_
    refine CW_block ?_
    refine CW_seq ?_
    refine CW_region ?_
    refine OW_run' hE.ok 3 rfl ?_
    refine OW_as' 18 (.d (int ((i + j : Nat) : Int))) (by show AV.d (.lit (.int .i64 (IntKind.i64.wrap ((i : Int) + (j : Int))))) = _; rw [wrap_id _ _ (by simp [IntKind.min, IntKind.signed, IntKind.bits]; omega) (by simp [IntKind.max, IntKind.signed, IntKind.bits]; omega)]; rfl) ?_
    refine OW_run' hE.ok 1 rfl ?_
    refine OW_as' 19 (.d (.lit (.int .u64 ((i + j : Nat) : Int)))) (by show AV.d (.lit (.int .u64 (IntKind.u64.wrap ((i + j : Nat) : Int)))) = _; rw [wrap_id _ _ (by simp [IntKind.min, IntKind.signed, IntKind.bits]; try omega) (by simp [IntKind.max, IntKind.signed, IntKind.bits]; omega)]) ?_
    refine OW_loc' hE (loc_shr1 hE rfl rfl rfl) rfl rfl rfl ?_
    refine OW_run' hE.ok 1 rfl ?_
    refine OW_as' 21 (.d (int (((i + j) / 2 : Nat) : Int))) (by show AV.d (.lit (.int .i64 (IntKind.i64.wrap (((i + j) / 2 : Nat) : Int)))) = _; rw [wrap_id _ _ (by simp [IntKind.min, IntKind.signed, IntKind.bits]; omega) (by simp [IntKind.max, IntKind.signed, IntKind.bits]; omega)]; rfl) ?_
    refine OW_run' hE.ok 1 rfl ?_
    refine OW_end rfl ?_
    refine CW_seq ?_
    refine CW_region ?_
    refine OW_run' hE.ok 2 rfl ?_
    refine OW_loc' hE (loc_indexAddr hE rfl rfl rfl rfl rfl (by omega) (x := encB a) (by show (l.map encB)[(((i + j) / 2 : Nat) : Int).toNat]? = _; rw [Int.toNat_natCast, List.getElem?_map, ha]; rfl)) rfl rfl rfl ?_
    refine OW_run' hE.ok 2 rfl ?_
    refine OW_call' hE (lessOk a s) rfl rfl rfl rfl rfl rfl rfl ?_
    refine OW_end rfl ?_
    refine CW_cond _ rfl (fun h2 => ?_) (fun h2 => ?_)
    · skip
      have hless : less a s = true := h2
      refine CW_region ?_
      refine OW_run' hE.ok 3 rfl ?_
      refine OW_end rfl ?_
      exact ⟨⟨((i + j) / 2 + 1, j), by simp only; omega, hj, fun k b hk hb => bs_left hr ha hless k b hk hb, g2⟩, LE_s (sle_set (sle_set (sle_set (sle_set (sle_set (sle_no _) rfl) rfl) rfl) (by show AV.d (.lit (.int .i64 (IntKind.i64.wrap (((i + j) / 2 : Nat) + 1)))) = _; rw [wrap_succ (by omega)]; rfl)) rfl), by show j - ((i + j) / 2 + 1) < j - i; omega⟩
    · skip
      have hless : less a s = false := h2
      refine CW_region ?_
      refine OW_run' hE.ok 2 rfl ?_
      refine OW_end rfl ?_
      exact ⟨⟨(i, (i + j) / 2), by simp only; omega, by simp only; omega, g1, fun k b hk hb => bs_right hr ha hless k b hk hb⟩, LE_s (sle_set (sle_set (sle_set (sle_set (sle_set (sle_no _) rfl) rfl) rfl) rfl) rfl), by show (i + j) / 2 - i < j - i; omega⟩
  · skip
    have hji : j = i := by have := h1; simp at this; omega
    subst hji
    have hpos := posT_of hj g1 g2
    refine CW_exit ?_
    show CW _ _ _ _
    refine CW_seq ?_
    refine CW_region ?_
    refine OW_run' hE.ok 5 rfl ?_
    refine OW_split' 35 rfl (fun h3 => ?_) (fun h3 => ?_)
    · skip
      have hlt : j < l.length := by have := h3; simp at this; omega
      obtain ⟨a, ha⟩ : ∃ a, l[j]? = some a := ⟨_, List.getElem?_eq_getElem (by omega)⟩
      refine OW_run' hE.ok 2 rfl ?_
      refine OW_loc' hE (loc_indexAddr hE rfl rfl rfl rfl rfl (by omega) (x := encB a) (by simp [ha])) rfl rfl rfl ?_
      refine OW_run' hE.ok 4 rfl ?_
      refine OW_split' 42 rfl (fun h4 => ?_) (fun h4 => ?_)
      · skip
        have hs : same a s = true := h4
        refine OW_run' hE.ok 13 rfl ?_
        refine OW_end rfl ?_
        refine CW_ret ?_
        refine ⟨.inr rfl, rfl, ⟨[.d (int (j : Nat)), .d (boo true)], rfl, rfl, ?_⟩, rfl⟩
        rw [there_at hpos ha hs, hpos]
        exact AVle.refl _
      · skip
        have hs : same a s = false := h4
        refine OW_run' hE.ok 2 rfl ?_
        refine OW_loc' hE (loc_indexAddr hE rfl rfl rfl rfl rfl (by omega) (x := encB a) (by simp [ha])) rfl rfl rfl ?_
        refine OW_run' hE.ok 1 rfl ?_
        refine OW_call' hE (isNaN1 a) rfl rfl rfl rfl rfl rfl rfl ?_
        refine OW_run' hE.ok 8 rfl ?_
        refine OW_end rfl ?_
        refine CW_ret ?_
        refine ⟨.inr rfl, rfl, ⟨[.d (int (j : Nat)), .d (boo false)], rfl, rfl, ?_⟩, rfl⟩
        rw [there_at hpos ha hs, hpos]
        exact AVle.refl _
    · skip
      have hge : l[j]? = none := List.getElem?_eq_none (by have := h3; simp at this; omega)
      refine OW_run' hE.ok 20 rfl ?_
      refine OW_end rfl ?_
      refine CW_ret ?_
      refine ⟨.inr rfl, rfl, ⟨[.d (int (j : Nat)), .d (boo false)], rfl, rfl, ?_⟩, rfl⟩
      rw [there_no hpos hge, hpos]
      exact AVle.refl _

theorem cloneOk (l : List ByteArray) : Does Try.prog 62 [.d (.sl 1 16 (l.map encB))] (oneRow 9 1 (l.map encB)) (.row 0) := by
  refine Does_ofRow T_ok mixed (N := 8) Try.func62 rfl rfl rfl (by rfl) fun F n Z hE hF J => ?_
  refine CW_know (know_sl (d := 0) rfl) fun hlen => ?_
  rw [List.length_map] at hlen
  refine CW_seq ?_
  refine CW_region ?_
  refine OW_run' hE.ok 1 rfl ?_
  refine OW_end rfl ?_
  refine CW_seq ?_
  refine CW_seq ?_
  refine CW_region ?_
  refine OW_run' hE.ok 1 rfl ?_
  refine OW_eqNil' hE rfl rfl rfl rfl rfl rfl rfl rfl (fun b hb => ?_)
  refine OW_end rfl ?_
  refine CW_cond _ rfl (fun h1 => ?_) (fun h1 => ?_)
  · skip
    refine CW_seq ?_
    refine CW_region ?_
    refine OW_run' hE.ok 1 rfl ?_
    refine OW.le (LE_nilSlot 2 7 9 1 rfl rfl) ?_
    refine OW_end rfl ?_
    refine CW_ret ⟨.inr rfl, rfl, 7, rfl, ?_⟩
    rw [hb h1]
    rfl
  · skip
    refine CW_skip ?_
    refine CW_seq ?_
    refine CW_region ?_
    refine OW_litsOwn' hE 7 rfl rfl rfl rfl rfl rfl rfl rfl rfl rfl rfl rfl ?_
    refine OW_run' hE.ok 1 rfl ?_
    refine OW_append' hE (key := 7) rfl rfl rfl rfl rfl rfl rfl rfl (.inl rfl) (by simp; omega) (by simp; omega) rfl ?_
    refine OW_run' hE.ok 1 rfl ?_
    refine OW_end rfl ?_
    exact CW_ret ⟨.inr rfl, rfl, 7, rfl, rfl⟩

theorem withOk0 (l : List ByteArray) (s : ByteArray) (hr : rise l = true) (hl : l.length ≤ 1000) : Does Try.prog 52 [.agg [.d (.sl 1 16 (l.map encB))], .d (str s)] noHeap (.agg [.d (.sl 1 16 ((ins s l).map encB))]) := by
  refine Does_of T_ok mixed (N := 27) Try.func52 rfl rfl rfl (by rfl) fun F n Z hE hF J => ?_
  refine CW_seq ?_
  refine CW_region ?_
  refine OW_run' hE.ok 1 rfl ?_
  refine OW_alloc' hE 1 rfl rfl rfl rfl rfl rfl rfl ?_
  refine OW_end rfl ?_
  refine CW_seq ?_
  refine CW_region ?_
  refine OW_run' hE.ok 3 rfl ?_
  refine OW_call' hE (bsOk l s hr) rfl rfl rfl rfl rfl rfl rfl ?_
  refine OW_run' hE.ok 5 rfl ?_
  refine OW_end rfl ?_
  refine CW_seq ?_
  refine CW_seq ?_
  refine CW_region ?_
  refine OW_run' hE.ok 1 rfl ?_
  refine OW_end rfl ?_
  refine CW_cond _ rfl (fun h1 => ?_) (fun h1 => ?_)
  · skip
    have hth : there s l = true := h1
    refine CW_seq ?_
    refine CW_region ?_
    refine OW_run' hE.ok 2 rfl ?_
    refine OW_callRow' hE 7 (cloneOk l) rfl rfl rfl rfl rfl rfl rfl ?_
    refine OW_build' hE rfl rfl rfl rfl rfl ?_
    refine OW_store' hE rfl rfl rfl rfl rfl rfl rfl rfl rfl rfl rfl rfl ?_
    refine OW.le (LE_freeze 7 16 rfl (by simp; omega)) ?_
    refine OW_end rfl ?_
    refine CW_ret ?_
    refine ⟨.inr rfl, rfl, ⟨_, rfl, rfl, ?_⟩, rfl⟩
    rw [ins_pos_found hth]
    exact AVle.refl _
  · skip
    have hth : there s l = false := h1
    refine CW_skip ?_
    refine CW_seq ?_
    refine CW_region ?_
    refine OW_run' hE.ok 2 rfl ?_
    refine OW_callRow' hE 7 (cloneOk l) rfl rfl rfl rfl rfl rfl rfl ?_
    refine OW_run' hE.ok 2 rfl ?_
    refine OW_litsOwn' hE 8 rfl rfl rfl rfl rfl rfl rfl rfl rfl rfl rfl rfl ?_
    refine OW_insert' hE (key := 7) (key2 := 8) insOk rfl rfl rfl rfl rfl rfl rfl rfl rfl (j := posT s l) rfl (by simpa using posT_le s l) (by simp) (by simp; omega) (by simp; omega) rfl ?_
    refine OW_build' hE rfl rfl rfl rfl rfl ?_
    refine OW_store' hE rfl rfl rfl rfl rfl rfl rfl rfl rfl rfl rfl rfl ?_
    refine OW.le (LE_freeze 7 16 rfl (by simp; omega)) ?_
    refine OW_end rfl ?_
    refine CW_ret ?_
    refine ⟨.inr rfl, rfl, ⟨_, rfl, rfl, ?_⟩, rfl⟩
    rw [ins_pos hth, List.map_append, List.map_append, List.map_take, List.map_drop]
    exact AVle.refl _

theorem withOk (l : List ByteArray) (s : ByteArray) (hr : rise l = true) (hl : l.length ≤ 1000) : Does Try.prog 31 [.d (.sl 1 16 (l.map encB)), .d (str s)] noHeap (.d (.sl 1 16 ((ins s l).map encB))) := by
  refine Does_of T_ok mixed (N := 10) Try.func31 rfl rfl rfl (by rfl) fun F n Z hE hF J => ?_
  refine CW_seq ?_
  refine CW_region ?_
  refine OW_run' hE.ok 1 rfl ?_
  refine OW_end rfl ?_
  refine CW_seq ?_
  refine CW_region ?_
  refine OW_run' hE.ok 1 rfl ?_
  refine OW_build' hE rfl rfl rfl rfl rfl ?_
  refine OW_run' hE.ok 1 rfl ?_
  refine OW_call' hE (withOk0 l s hr hl) rfl rfl rfl rfl rfl rfl rfl ?_
  refine OW_run' hE.ok 2 rfl ?_
  refine OW_end rfl ?_
  refine CW_ret ?_
  refine ⟨.inr rfl, rfl, ⟨_, rfl, rfl, ?_⟩, rfl⟩
  exact AVle.refl _
end Go.Proofs.Ytdlikopmjhfalaa
