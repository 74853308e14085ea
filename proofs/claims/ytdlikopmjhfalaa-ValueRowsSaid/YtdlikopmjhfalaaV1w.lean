/- Part of an abstract logic over the kit's walks, and walks in it: V1w. -/
import Derived.Test.YtdlikopmjhfalaaV1m
import Derived.Test.YtdlikopmjhfalaaA28
import Derived.Test.YtdlikopmjhfalaaVord
namespace Go.Proofs.Ytdlikopmjhfalaa
open Go Go.AL
set_option linter.unusedVariables false
set_option linter.unusedSimpArgs false
set_option maxHeartbeats 4000000
theorem refRiseOk (l : List ByteArray) : Does Try.prog 30 [.d (.sl 1 16 (l.map encB))] noHeap (.d (boo (rise l))) := by
  refine Does_of T_ok mixed (N := 20) Try.func30 rfl rfl rfl (by rfl) fun F n Z hE hF J => ?_
  refine CW_know (know_sl (d := 0) rfl) fun hlen => ?_
  rw [List.length_map] at hlen
  refine CW_seq ?_
  refine CW_region ?_
  refine OW_run' hE.ok 1 rfl ?_
  refine OW_end rfl ?_
  refine CW_seq ?_
  refine CW_seq ?_
  refine CW_region ?_
  refine OW_run' hE.ok 1 rfl ?_
  refine OW_end rfl ?_
  refine CW_block ?_
  refine CW_loop (σ := {i : Nat // i ≤ l.length ∧ ∀ j a b, j < i → l[j]? = some a → l[j + 1]? = some b → Op.bytesLess a.toList b.toList = true}) (fun i => ⟨J, (sset (sset noSlots 0 (.d (.sl 1 16 (l.map encB)))) 3 (.d (int ((i.1 + 1 : Nat) : Int)))), noHeap⟩) (fun i => l.length - i.1) ⟨0, Nat.zero_le _, fun j a b hj => by omega⟩ (LE_s (sle_set (sle_set (sle_no _) rfl) rfl)) fun ⟨i, hi, hp⟩ => ?_
  refine CW_seq ?_
  refine CW_seq ?_
  refine CW_region ?_
  refine OW_run' hE.ok 4 rfl ?_
  refine OW_end rfl ?_
  refine CW_cond _ rfl (fun h1 => ?_) (fun h1 => ?_)
  · skip
    have hlt : i + 1 < l.length := by have := h1; simp at this; omega
    obtain ⟨a, ha⟩ : ∃ a, l[i]? = some a := ⟨_, List.getElem?_eq_getElem (by omega)⟩
    obtain ⟨b, hb⟩ : ∃ b, l[i + 1]? = some b := ⟨_, List.getElem?_eq_getElem hlt⟩
    refine CW_skip ?_
    refine CW_seq ?_
    refine CW_block ?_
    refine CW_seq ?_
    refine CW_drawn' hE 9 (by decide +kernel) ?_
    refine HW_run hE 3 rfl rfl ?_
    refine HW_as 12 (.d (int (i : Nat))) (by show AV.d (int (IntKind.i64.wrap (((i + 1 : Nat) : Int) - 1))) = _; rw [wrap_pred (by omega)]) ?_
    refine HW_loc hE (loc_indexAddr hE rfl rfl rfl rfl rfl (by omega) (x := encB a) (by simp [ha])) rfl rfl rfl rfl ?_
    refine HW_run hE 3 rfl rfl ?_
    refine HW_loc hE (loc_indexAddr hE rfl rfl rfl rfl rfl (by omega) (x := encB b) (by simp [hb])) rfl rfl rfl rfl ?_
    refine HW_run hE 1 rfl rfl ?_
    refine HW_end ?_
    refine OW_run' hE.ok 1 rfl ?_
    refine OW_end rfl ?_
    refine CW_cond _ rfl (fun h2 => ?_) (fun h2 => ?_)
    · skip
      have hbad : Op.bytesLess a.toList b.toList = false := by simpa using h2
      refine CW_seq ?_
      refine CW_region ?_
      refine OW_run' hE.ok 1 rfl ?_
      refine OW_end rfl ?_
      refine CW_ret ?_
      refine ⟨.inr rfl, rfl, ⟨_, rfl, rfl, ?_⟩, rfl⟩
      exact AVle.of (congrArg (fun b => AV.d (boo b)) (by rw [rise_bad ha hb hbad]))
    · skip
      have hgood : Op.bytesLess a.toList b.toList = true := by simpa using h2
      refine CW_skip ?_
      refine CW_region ?_
      refine OW_run' hE.ok 3 rfl ?_
      refine OW_end rfl ?_
      refine ⟨⟨i + 1, by omega, fun j x y hj hx hy => ?_⟩, LE_s (sle_set (sle_set (sle_no _) rfl) (by show AV.d (.lit (.int .i64 (IntKind.i64.wrap (((i + 1 : Nat) : Int) + 1)))) = _; rw [wrap_succ (by omega)]; rfl)), by show l.length - (i + 1) < l.length - i; omega⟩
      by_cases hji : j = i
      · subst hji; rw [ha] at hx; rw [hb] at hy; cases hx; cases hy; exact hgood
      · exact hp j x y (by omega) hx hy
  · skip
    have hge : ¬ i + 1 < l.length := by have := h1; simp at this; omega
    refine CW_exit ?_
    show CW _ _ _ _
    refine CW_seq ?_
    refine CW_region ?_
    refine OW_run' hE.ok 1 rfl ?_
    refine OW_end rfl ?_
    refine CW_ret ?_
    refine ⟨.inr rfl, rfl, ⟨_, rfl, rfl, ?_⟩, rfl⟩
    exact AVle.of (congrArg (fun b => AV.d (boo b)) (by rw [rise_all (fun j a b hj => hp j a b (by omega))]))

theorem sameTextsOk (l r : List ByteArray) : Does Try.prog 32 [.d (.sl 1 16 (l.map encB)), .d (.sl 1 16 (r.map encB))] noHeap (.d (boo (sameTexts l r))) := by
  refine Does_of T_ok mixed (N := 26) Try.func32 rfl rfl rfl (by rfl) fun F n Z hE hF J => ?_
  refine CW_know (know_sl (d := 0) rfl) fun hlen => ?_
  rw [List.length_map] at hlen
  refine CW_seq ?_
  refine CW_region ?_
  refine OW_run' hE.ok 1 rfl ?_
  refine OW_end rfl ?_
  refine CW_seq ?_
  refine CW_seq ?_
  refine CW_region ?_
  refine OW_run' hE.ok 5 rfl ?_
  refine OW_end rfl ?_
  refine CW_cond _ rfl (fun h1 => ?_) (fun h1 => ?_)
  · skip
    have hne : l.length ≠ r.length := by have := h1; simp at this; omega
    refine CW_seq ?_
    refine CW_region ?_
    refine OW_run' hE.ok 1 rfl ?_
    refine OW_end rfl ?_
    refine CW_ret ?_
    refine ⟨.inr rfl, rfl, ⟨_, rfl, rfl, ?_⟩, rfl⟩
    exact AVle.of (congrArg (fun b => AV.d (boo b)) (by rw [sameTexts, allSame_len hne]))
  · skip
    have hll : l.length = r.length := by have := h1; simp at this; omega
    refine CW_skip ?_
    refine CW_seq ?_
    refine CW_seq ?_
    refine CW_region ?_
    refine OW_run' hE.ok 1 rfl ?_
    refine OW_end rfl ?_
    refine CW_block ?_
    refine CW_loop (σ := {i : Nat // i ≤ l.length ∧ ∀ j a b, j < i → l[j]? = some a → r[j]? = some b → same a b = true}) (fun i => ⟨J, (sset (sset (sset noSlots 0 (.d (.sl 1 16 (l.map encB)))) 1 (.d (.sl 1 16 (r.map encB)))) 5 (.d (int ((i.1 : Nat) : Int)))), noHeap⟩) (fun i => l.length - i.1) ⟨0, Nat.zero_le _, fun j a b hj => by omega⟩ (LE_s (sle_set (sle_set (sle_set (sle_no _) rfl) rfl) rfl)) fun ⟨i, hi, hp⟩ => ?_
    refine CW_seq ?_
    refine CW_seq ?_
    refine CW_region ?_
    refine OW_run' hE.ok 4 rfl ?_
    refine OW_end rfl ?_
    refine CW_cond _ rfl (fun h2 => ?_) (fun h2 => ?_)
    · skip
      have hlt : i < l.length := by have := h2; simp at this; omega
      obtain ⟨a, ha⟩ : ∃ a, l[i]? = some a := ⟨_, List.getElem?_eq_getElem (by omega)⟩
      obtain ⟨b, hb⟩ : ∃ b, r[i]? = some b := ⟨_, List.getElem?_eq_getElem (by omega)⟩
      refine CW_skip ?_
      refine CW_seq ?_
      refine CW_block ?_
      refine CW_seq ?_
      refine CW_drawn' hE 8 (by decide +kernel) ?_
      refine HW_run hE 2 rfl rfl ?_
      refine HW_loc hE (loc_indexAddr hE rfl rfl rfl rfl rfl (by omega) (x := encB a) (by simp [ha])) rfl rfl rfl rfl ?_
      refine HW_run hE 3 rfl rfl ?_
      refine HW_loc hE (loc_indexAddr hE rfl rfl rfl rfl rfl (by omega) (x := encB b) (by simp [hb])) rfl rfl rfl rfl ?_
      refine HW_run hE 1 rfl rfl ?_
      refine HW_end ?_
      refine OW_run' hE.ok 1 rfl ?_
      refine OW_end rfl ?_
      refine CW_cond _ rfl (fun h3 => ?_) (fun h3 => ?_)
      · skip
        have hdiff : same a b = false := by simpa [same] using h3
        refine CW_seq ?_
        refine CW_region ?_
        refine OW_run' hE.ok 1 rfl ?_
        refine OW_end rfl ?_
        refine CW_ret ?_
        refine ⟨.inr rfl, rfl, ⟨_, rfl, rfl, ?_⟩, rfl⟩
        exact AVle.of (congrArg (fun b => AV.d (boo b)) (by rw [sameTexts, allSame_ne ha hb hdiff]))
      · skip
        have hgood : same a b = true := by simpa [same] using h3
        refine CW_skip ?_
        refine CW_region ?_
        refine OW_run' hE.ok 3 rfl ?_
        refine OW_end rfl ?_
        refine ⟨⟨i + 1, by omega, fun j x y hj hx hy => ?_⟩, LE_s (sle_set (sle_set (sle_set (sle_no _) rfl) rfl) (by show AV.d (.lit (.int .i64 (IntKind.i64.wrap (↑i + 1)))) = _; rw [wrap_succ (by omega)]; rfl)), by show l.length - (i + 1) < l.length - i; omega⟩
        by_cases hji : j = i
        · subst hji; rw [ha] at hx; rw [hb] at hy; cases hx; cases hy; exact hgood
        · exact hp j x y (by omega) hx hy
    · skip
      have hge : ¬ i < l.length := by have := h2; simp at this; omega
      refine CW_exit ?_
      show CW _ _ _ _
      refine CW_seq ?_
      refine CW_region ?_
      refine OW_run' hE.ok 1 rfl ?_
      refine OW_end rfl ?_
      refine CW_ret ?_
      refine ⟨.inr rfl, rfl, ⟨_, rfl, rfl, ?_⟩, rfl⟩
      exact AVle.of (congrArg (fun b => AV.d (boo b)) (by rw [sameTexts, allSame_all hll (fun j a b hj => hp j a b (by omega))]))

theorem refWithOk (l : List ByteArray) (s : ByteArray) (hl : l.length ≤ 1000) : Does Try.prog 33 [.d (.sl 1 16 (l.map encB)), .d (str s)] noHeap (.d (.sl 1 16 ((ins s l).map encB))) := by
  refine Does_of T_ok mixed (N := 41) Try.func33 rfl rfl rfl (by rfl) fun F n Z hE hF J => ?_
  refine CW_know (know_sl (d := 0) rfl) fun hlen => ?_
  rw [List.length_map] at hlen
  refine CW_seq ?_
  refine CW_region ?_
  refine OW_run' hE.ok 1 rfl ?_
  refine OW_end rfl ?_
  refine CW_seq ?_
  refine CW_seq ?_
  refine CW_region ?_
  refine OW_run' hE.ok 1 rfl ?_
  refine OW_end rfl ?_
  refine CW_block ?_
  refine CW_loop (σ := {i : Nat // i ≤ l.length ∧ ∀ j b, j < i → l[j]? = some b → same b s = false ∧ less s b = false}) (fun i => ⟨J, (sset (sset (sset noSlots 0 (.d (.sl 1 16 (l.map encB)))) 1 (.d (str s))) 5 (.d (int ((i.1 : Nat) : Int)))), noHeap⟩) (fun i => l.length - i.1) ⟨0, Nat.zero_le _, fun j b hj => by omega⟩ (LE_sh (slh_set (slh_set (slh_set (slh_no _ _) rfl rfl) rfl rfl) rfl rfl) (hlh_no _ _)) fun ⟨i, hi, hp⟩ => ?_
  refine CW_seq ?_
  refine CW_seq ?_
  refine CW_region ?_
  refine OW_run' hE.ok 4 rfl ?_
  refine OW_end rfl ?_
  refine CW_cond _ rfl (fun h1 => ?_) (fun h1 => ?_)
  · skip
    have hlt : i < l.length := by have := h1; simp at this; omega
    obtain ⟨a, ha⟩ : ∃ a, l[i]? = some a := ⟨_, List.getElem?_eq_getElem hlt⟩
    refine CW_skip ?_
    refine CW_seq ?_
    refine CW_block ?_
    refine CW_seq ?_
    refine CW_seq ?_
    refine CW_region ?_
    refine OW_run' hE.ok 2 rfl ?_
    refine OW_loc' hE (loc_indexAddr hE rfl rfl rfl rfl rfl (by omega) (x := encB a) (by simp [ha])) rfl rfl rfl ?_
    refine OW_run' hE.ok 3 rfl ?_
    refine OW_end rfl ?_
    refine CW_cond _ rfl (fun h2 => ?_) (fun h2 => ?_)
    · skip
      have hs : same a s = true := h2
      refine CW_seq ?_
      refine CW_region ?_
      refine OW_run' hE.ok 2 rfl ?_
      refine OW_end rfl ?_
      refine CW_ret ?_
      refine ⟨.inr rfl, rfl, ⟨_, rfl, rfl, ?_⟩, rfl⟩
      rw [ins_found ha hs hp]
      exact AVle.refl _
    · skip
      have hs : same a s = false := h2
      refine CW_skip ?_
      refine CW_seq ?_
      refine CW_region ?_
      refine OW_run' hE.ok 2 rfl ?_
      refine OW_loc' hE (loc_indexAddr hE rfl rfl rfl rfl rfl (by omega) (x := encB a) (by simp [ha])) rfl rfl rfl ?_
      refine OW_run' hE.ok 3 rfl ?_
      refine OW_end rfl ?_
      refine CW_cond _ rfl (fun h3 => ?_) (fun h3 => ?_)
      · skip
        have hg : less s a = true := gtr_less h3
        refine CW_seq ?_
        refine CW_drawn3 hE 10 3 6 7 (by decide +kernel) (ys1 := ((l.map encB).take i).drop 0) (ys2 := [[str s]]) rfl rfl rfl rfl rfl rfl rfl rfl rfl rfl rfl (by intro h; cases h) (by decide +kernel) rfl rfl rfl rfl rfl (by simp; omega) (by simp; omega) ?_
        refine H3_one hE rfl rfl rfl rfl rfl rfl ?_
        refine H3_one hE rfl rfl rfl rfl rfl rfl ?_
        refine H3_loc hE (fun _ => loc_slice hE (lo := none) (hi := some (.tmp 26)) rfl rfl rfl rfl (l := 0) (u := i) rfl ⟨.i64, rfl⟩ (by omega) (by simp; omega)) rfl rfl rfl rfl rfl ?_
        refine H3_begin rfl rfl rfl rfl ?_
        refine H3_one hE rfl rfl rfl rfl rfl rfl ?_
        refine H3_loc hE (fun _ => loc_lits hE (t := 57) (len := 1) (parts := #[(0, .tmp 29)]) rfl rfl rfl rfl rfl rfl rfl rfl rfl) rfl rfl rfl rfl rfl ?_
        refine H3_more rfl rfl rfl rfl ?_
        refine H3_one hE rfl rfl rfl rfl rfl rfl ?_
        refine H3_one hE rfl rfl rfl rfl rfl rfl ?_
        refine H3_loc hE (fun _ => loc_slice hE (lo := some (.tmp 33)) (hi := none) rfl rfl rfl rfl (l := i) (u := (l.map encB).length) ⟨.i64, rfl⟩ rfl (by simp; omega) (by simp)) rfl rfl rfl rfl rfl ?_
        refine H3_end ?_
        refine OW_append' hE (key := 7) rfl rfl rfl rfl rfl rfl rfl rfl (.inl rfl) (by simp; omega) (by simp; omega) rfl ?_
        refine OW_run' hE.ok 1 rfl ?_
        refine OW.le (LE_freeze 7 16 rfl (by simp; omega)) ?_
        refine OW_end rfl ?_
        refine CW_ret ?_
        refine ⟨.inr rfl, rfl, ⟨_, rfl, rfl, ?_⟩, rfl⟩
        rw [ins_gt ha hs hg hp, show ((l.take i ++ [s] ++ l.drop i).map encB) = ((l.map encB).take i).drop 0 ++ [[str s]] ++ ((l.map encB).take (l.map encB).length).drop i from by rw [List.take_length]; simp [List.map_take, List.map_drop, encB]]
        exact AVle.refl _
      · skip
        have hg : less s a = false := gtr_not h3 hs
        refine CW_skip ?_
        refine CW_region ?_
        refine OW_run' hE.ok 3 rfl ?_
        refine OW_end rfl ?_
        refine ⟨⟨i + 1, by omega, fun j x hj hx => ?_⟩, LE_sh (slh_set (slh_set (slh_set (slh_no _ _) rfl rfl) rfl rfl) (by show AV.d (.lit (.int .i64 (IntKind.i64.wrap (↑i + 1)))) = _; rw [wrap_succ (by omega)]; rfl) rfl) (hlh_no _ _), by show l.length - (i + 1) < l.length - i; omega⟩
        by_cases hji : j = i
        · subst hji; rw [ha] at hx; cases hx; exact ⟨hs, hg⟩
        · exact hp j x (by omega) hx
  · skip
    have hge : ¬ i < l.length := by have := h1; simp at this; omega
    refine CW_exit ?_
    show CW _ _ _ _
    refine CW_seq ?_
    refine CW_region ?_
    refine OW_run' hE.ok 1 rfl ?_
    refine OW_appendNil' hE 7 rfl rfl rfl rfl rfl rfl rfl rfl (.inl rfl) (by simp; omega) (by simp; omega) rfl ?_
    refine OW_run' hE.ok 1 rfl ?_
    refine OW_lits' hE rfl rfl rfl rfl rfl rfl rfl rfl rfl rfl rfl rfl ?_
    refine OW_append' hE (key := 7) rfl rfl rfl rfl rfl rfl rfl rfl (.inl rfl) (by simp; omega) (by simp; omega) rfl ?_
    refine OW_run' hE.ok 1 rfl ?_
    refine OW.le (LE_freeze 7 16 rfl (by simp; omega)) ?_
    refine OW_end rfl ?_
    refine CW_ret ?_
    refine ⟨.inr rfl, rfl, ⟨_, rfl, rfl, ?_⟩, rfl⟩
    rw [ins_end fun j b hj hb => hp j b (by omega) hb, List.map_append]
    exact AVle.refl _

theorem rowsOk (l : List ByteArray) (s : ByteArray) : Does Try.prog 8 [.d (.sl 1 16 (l.map encB)), .d (str s)] noHeap (.d (boo true)) := by
  refine Does_of T_ok mixed (N := 43) Try.func8 rfl rfl rfl (by rfl) fun F n Z hE hF J => ?_
  refine CW_know (know_sl (d := 0) rfl) fun hlen => ?_
  rw [List.length_map] at hlen
  refine CW_seq ?_
  refine CW_region ?_
  refine OW_run' hE.ok 1 rfl ?_
  refine OW_end rfl ?_
  refine CW_seq ?_
  refine CW_seq ?_
  refine CW_region ?_
  refine OW_call' hE (known1) rfl rfl rfl rfl rfl rfl rfl ?_
  refine OW_run' hE.ok 1 rfl ?_
  refine OW_end rfl ?_
  refine CW_false rfl ?_
  refine CW_skip ?_
  refine CW_seq ?_
  refine CW_seq ?_
  refine CW_region ?_
  refine OW_run' hE.ok 4 rfl ?_
  refine OW_split' 11 rfl (fun h1 => ?_) (fun h1 => ?_)
  · skip
    have hbig := h1
    refine OW_run' hE.ok 6 rfl ?_
    refine OW_end rfl ?_
    refine CW_true rfl ?_
    refine CW_seq ?_
    refine CW_region ?_
    refine OW_run' hE.ok 3 rfl ?_
    refine OW_as' 20 (.d (boo true)) (congrArg (fun b => AV.d (boo b)) hbig) ?_
    refine OW_run' hE.ok 1 rfl ?_
    refine OW_end rfl ?_
    refine CW_ret ?_
    refine ⟨.inr rfl, rfl, ⟨[.d (boo true)], rfl, rfl, ?_⟩, rfl⟩
    exact AVle.refl _
  · skip
    have hsm : l.length ≤ 40 := by have := h1; simp at this; omega
    refine OW_run' hE.ok 1 rfl ?_
    refine OW_call' hE (riseOk _) rfl rfl rfl rfl rfl rfl rfl ?_
    refine OW_run' hE.ok 1 rfl ?_
    refine OW_call' hE (refRiseOk _) rfl rfl rfl rfl rfl rfl rfl ?_
    refine OW_run' hE.ok 1 rfl ?_
    refine OW_as' 16 (.d (boo false)) (congrArg (fun b => AV.d (boo b)) (by simp)) ?_
    refine OW_run' hE.ok 1 rfl ?_
    refine OW_end rfl ?_
    refine CW_false rfl ?_
    refine CW_skip ?_
    refine CW_seq ?_
    refine CW_seq ?_
    refine CW_region ?_
    refine OW_run' hE.ok 1 rfl ?_
    refine OW_call' hE (refRiseOk _) rfl rfl rfl rfl rfl rfl rfl ?_
    refine OW_run' hE.ok 1 rfl ?_
    refine OW_end rfl ?_
    refine CW_cond _ rfl (fun h2 => ?_) (fun h2 => ?_)
    · skip
      refine CW_seq ?_
      refine CW_region ?_
      refine OW_run' hE.ok 1 rfl ?_
      refine OW_end rfl ?_
      refine CW_ret ?_
      refine ⟨.inr rfl, rfl, ⟨[.d (boo true)], rfl, rfl, ?_⟩, rfl⟩
      exact AVle.refl _
    · skip
      have hr : rise l = true := by simpa using h2
      have q1 := sameTextsOk (ins s l) (ins s l); rw [sameTexts_refl] at q1
      have q2 := riseOk (ins s l); rw [rise_ins hr] at q2
      have q3 := withOk (ins s l) s (rise_ins hr) (by have := ins_length s l; omega); rw [ins_again] at q3
      refine CW_skip ?_
      refine CW_seq ?_
      refine CW_region ?_
      refine OW_run' hE.ok 2 rfl ?_
      refine OW_call' hE (withOk l s hr (by omega)) rfl rfl rfl rfl rfl rfl rfl ?_
      refine OW_run' hE.ok 1 rfl ?_
      refine OW_end rfl ?_
      refine CW_seq ?_
      refine CW_region ?_
      refine OW_run' hE.ok 3 rfl ?_
      refine OW_call' hE (refWithOk l s (by omega)) rfl rfl rfl rfl rfl rfl rfl ?_
      refine OW_call' hE (q1) rfl rfl rfl rfl rfl rfl rfl ?_
      refine OW_run' hE.ok 2 rfl ?_
      refine OW_call' hE (q2) rfl rfl rfl rfl rfl rfl rfl ?_
      refine OW_run' hE.ok 4 rfl ?_
      refine OW_call' hE (q3) rfl rfl rfl rfl rfl rfl rfl ?_
      refine OW_run' hE.ok 1 rfl ?_
      refine OW_call' hE (q1) rfl rfl rfl rfl rfl rfl rfl ?_
      refine OW_run' hE.ok 2 rfl ?_
      refine OW_end rfl ?_
      refine CW_ret ?_
      refine ⟨.inr rfl, rfl, ⟨[.d (boo true)], rfl, rfl, ?_⟩, rfl⟩
      exact AVle.refl _
end Go.Proofs.Ytdlikopmjhfalaa
