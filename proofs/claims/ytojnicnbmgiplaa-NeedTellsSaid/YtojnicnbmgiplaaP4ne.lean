/- Parts of an abstract logic over the kit's walks, and walks in it: P4ne. -/
import Derived.Test.YtojnicnbmgiplaaPxa
import Derived.Test.YtojnicnbmgiplaaNeed4
import Derived.Test.YtojnicnbmgiplaaAg
namespace Go.Proofs.Ytojnicnbmgiplaa
open Go Go.AL
set_option linter.unusedVariables false
set_option linter.unusedSimpArgs false
set_option maxHeartbeats 4000000
theorem lessUOk (u x : Us) : Does Try.prog 87 [argU u, argU x] noHeap (.d (boo (ltB2 u x))) := by
  refine Does_of T_ok mixed (N := 24) Try.func87 rfl rfl rfl (by rfl) fun F n Z hE hF J => ?_
  refine CW_seq ?_
  refine CW_region ?_
  refine OW_run' hE.ok 3 rfl ?_
  refine OW_end rfl ?_
  refine CW_seq ?_
  refine CW_region ?_
  refine OW_run' hE.ok 6 rfl ?_
  refine OW_split' 10 rfl (fun h1 => ?_) (fun h1 => ?_)
  · skip
    have g1 : less u.ty x.ty = true := h1
    refine OW_run' hE.ok 14 rfl ?_
    refine OW_end rfl ?_
    refine CW_ret ?_
    refine ⟨.inr rfl, rfl, ⟨_, rfl, rfl, ?_⟩, rfl⟩
    rw [show ltB2 u x = true by unfold ltB2; rw [g1]; rfl]
    exact AVle.refl _
  · skip
    have g1 : less u.ty x.ty = false := h1
    refine OW_run' hE.ok 6 rfl ?_
    refine OW_split' 16 rfl (fun h2 => ?_) (fun h2 => ?_)
    · skip
      have g2 : same u.ty x.ty = true := h2
      refine OW_run' hE.ok 8 rfl ?_
      refine OW_end rfl ?_
      refine CW_ret ?_
      refine ⟨.inr rfl, rfl, ⟨_, rfl, rfl, ?_⟩, rfl⟩
      rw [show ltB2 u x = less u.field x.field by unfold ltB2; rw [g1, g2]; rfl]
      exact AVle.refl _
    · skip
      have g2 : same u.ty x.ty = false := h2
      refine OW_run' hE.ok 8 rfl ?_
      refine OW_end rfl ?_
      refine CW_ret ?_
      refine ⟨.inr rfl, rfl, ⟨_, rfl, rfl, ?_⟩, rfl⟩
      rw [show ltB2 u x = false by unfold ltB2; rw [g1, g2]; rfl]
      exact AVle.refl _

theorem refHasOk (l : List Us) (u : Us) : Does Try.prog 17 [.d (.sl 2 32 (l.map encU)), argU u] noHeap (.d (boo (hasU l u))) := by
  refine Does_of T_ok mixed (N := 18) Try.func17 rfl rfl rfl (by rfl) fun F n Z hE hF J => ?_
  refine CW_know (know_sl (d := 0) rfl) fun hlen => ?_
  rw [List.length_map] at hlen
  refine CW_seq ?_
  refine CW_region ?_
  refine OW_run' hE.ok 2 rfl ?_
  refine OW_end rfl ?_
  refine CW_seq ?_
  refine CW_seq ?_
  refine CW_region ?_
  refine OW_run' hE.ok 1 rfl ?_
  refine OW_end rfl ?_
  refine CW_block ?_
  refine CW_loop (σ := {i : Nat // i ≤ l.length ∧ ∀ (j : Nat) (y : Us), j < i → l[j]? = some y → sameU u y = false}) (fun i => ⟨J, (sset (sset (sset noSlots 0 (.d (.sl 2 32 (l.map encU)))) 3 (.d (.iptr (encU u)))) 5 (.d (int ((i.1 : Nat) : Int)))), noHeap⟩) (fun i => l.length - i.1) ⟨0, Nat.zero_le _, fun j y hj => by omega⟩ (LE_sh (slh_set (slh_set (slh_set (slh_no _ _) rfl rfl) rfl rfl) rfl rfl) (hlh_no _ _)) fun ⟨i, hi, hp⟩ => ?_
  refine CW_seq ?_
  refine CW_seq ?_
  refine CW_region ?_
  refine OW_run' hE.ok 4 rfl ?_
  refine OW_end rfl ?_
  refine CW_cond _ rfl (fun h1 => ?_) (fun h1 => ?_)
  · skip
    have hlt : i < l.length := by have := h1; rw [List.length_map] at this; simp at this; omega
    obtain ⟨x, hx⟩ : ∃ x, l[i]? = some x := ⟨_, List.getElem?_eq_getElem hlt⟩
    refine CW_skip ?_
    refine CW_seq ?_
    refine CW_block ?_
    refine CW_seq ?_
    refine CW_drawn' hE 5 (by decide +kernel) ?_
    refine HW_run hE 2 rfl rfl ?_
    refine HW_loc hE (loc_indexAddr hE rfl rfl rfl rfl rfl (by omega) (x := encU x) (by simp [hx])) rfl rfl rfl rfl ?_
    refine HW_run hE 2 rfl rfl ?_
    refine HW_end ?_
    refine OW_loc' hE (loc_eql rfl rfl rfl (r := sameU x u) (eqLaw_flat T_ok (t := 32) rfl (by decide +kernel) rfl (X := encU x) (Y := encU u) rfl rfl rfl)) rfl rfl rfl ?_
    refine OW_end rfl ?_
    refine CW_cond _ rfl (fun h2 => ?_) (fun h2 => ?_)
    · skip
      have g1 : sameU x u = true := h2
      refine CW_seq ?_
      refine CW_region ?_
      refine OW_run' hE.ok 1 rfl ?_
      refine OW_end rfl ?_
      refine CW_ret ?_
      refine ⟨.inr rfl, rfl, ⟨[.d (boo true)], rfl, rfl, ?_⟩, rfl⟩
      rw [has_yes hx (by rw [sameU_comm]; exact g1)]
      exact AVle.refl _
    · skip
      have g1 : sameU x u = false := h2
      refine CW_skip ?_
      refine CW_region ?_
      refine OW_run' hE.ok 3 rfl ?_
      refine OW_end rfl ?_
      refine ⟨⟨i + 1, by omega, fun j y hj hy => ?_⟩, LE_sh (slh_set (v := .d (int ((i + 1 : Nat) : Int))) (slh_set (v := .d (.iptr (encU u))) (slh_set (v := .d (.sl 2 32 (l.map encU))) (slh_no _ _) (by rfl) rfl) (by rfl) rfl) (by show AV.d (.lit (.int .i64 (IntKind.i64.wrap ((i : Int) + 1)))) = _; rw [wrap_succ (by omega)]; rfl) rfl) (hlh_no _ _), by show l.length - (i + 1) < l.length - i; omega⟩
      by_cases hji : j = i
      · subst hji; rw [hx] at hy; cases hy; rw [sameU_comm]; exact g1
      · exact hp j y (by omega) hy
  · skip
    have hge : l.length ≤ i := by have := h1; rw [List.length_map] at this; simp at this; omega
    refine CW_exit ?_
    show CW _ _ _ _
    refine CW_seq ?_
    refine CW_region ?_
    refine OW_run' hE.ok 1 rfl ?_
    refine OW_end rfl ?_
    refine CW_ret ?_
    refine ⟨.inr rfl, rfl, ⟨[.d (boo false)], rfl, rfl, ?_⟩, rfl⟩
    rw [has_no fun j y hy => hp j y (by have := (List.getElem?_eq_some_iff.1 hy).1; omega) hy]
    exact AVle.refl _

theorem withUOk (l : List Us) (u : Us) (hl : l.length ≤ 100000) : Does Try.prog 51 [.d (.sl 2 32 (l.map encU)), argU u] noHeap (.d (.sl 2 32 ((withU l u).map encU))) := by
  refine Does_of T_ok mixed (N := 41) Try.func51 rfl rfl rfl (by rfl) fun F n Z hE hF J => ?_
  refine CW_seq ?_
  refine CW_region ?_
  refine OW_run' hE.ok 2 rfl ?_
  refine OW_end rfl ?_
  refine CW_seq ?_
  refine CW_seq ?_
  refine CW_region ?_
  refine OW_run' hE.ok 1 rfl ?_
  refine OW_end rfl ?_
  refine CW_block ?_
  refine CW_loop (σ := {i : Nat // i ≤ l.length ∧ ∀ (j : Nat) (x : Us), j < i → l[j]? = some x → sameU x u = false ∧ ltB2 u x = false}) (fun i => ⟨J, (sset (sset (sset noSlots 0 (.d (.sl 2 32 (l.map encU)))) 3 (.d (.iptr (encU u)))) 5 (.d (int ((i.1 : Nat) : Int)))), noHeap⟩) (fun i => l.length - i.1) ⟨0, Nat.zero_le _, fun j y hj => by omega⟩ (LE_sh (slh_set (slh_set (slh_set (slh_no _ _) rfl rfl) rfl rfl) rfl rfl) (hlh_no _ _)) fun ⟨i, hi, hp⟩ => ?_
  refine CW_seq ?_
  refine CW_seq ?_
  refine CW_region ?_
  refine OW_run' hE.ok 4 rfl ?_
  refine OW_end rfl ?_
  refine CW_cond _ rfl (fun h1 => ?_) (fun h1 => ?_)
  · skip
    have hlt : i < l.length := by have := h1; rw [List.length_map] at this; simp at this; omega
    obtain ⟨x, hx⟩ : ∃ x, l[i]? = some x := ⟨_, List.getElem?_eq_getElem hlt⟩
    refine CW_skip ?_
    refine CW_seq ?_
    refine CW_block ?_
    refine CW_seq ?_
    refine CW_seq ?_
    refine CW_drawn' hE 5 (by decide +kernel) ?_
    refine HW_run hE 2 rfl rfl ?_
    refine HW_loc hE (loc_indexAddr hE rfl rfl rfl rfl rfl (by omega) (x := encU x) (by simp [hx])) rfl rfl rfl rfl ?_
    refine HW_run hE 2 rfl rfl ?_
    refine HW_end ?_
    refine OW_loc' hE (loc_eql rfl rfl rfl (r := sameU x u) (eqLaw_flat T_ok (t := 32) rfl (by decide +kernel) rfl (X := encU x) (Y := encU u) rfl rfl rfl)) rfl rfl rfl ?_
    refine OW_end rfl ?_
    refine CW_cond _ rfl (fun h2 => ?_) (fun h2 => ?_)
    · skip
      have g1 : sameU x u = true := h2
      refine CW_seq ?_
      refine CW_region ?_
      refine OW_run' hE.ok 2 rfl ?_
      refine OW_end rfl ?_
      refine CW_ret ?_
      refine ⟨.inr rfl, rfl, ⟨_, rfl, rfl, ?_⟩, rfl⟩
      rw [with_same hp hx g1]
      exact AVle.refl _
    · skip
      have g1 : sameU x u = false := h2
      refine CW_skip ?_
      refine CW_seq ?_
      refine CW_drawn' hE 5 (by decide +kernel) ?_
      refine HW_run hE 3 rfl rfl ?_
      refine HW_loc hE (loc_indexAddr hE rfl rfl rfl rfl rfl (by omega) (x := encU x) (by simp [hx])) rfl rfl rfl rfl ?_
      refine HW_run hE 1 rfl rfl ?_
      refine HW_end ?_
      refine OW_call' hE (lessUOk u x) rfl rfl rfl rfl rfl rfl rfl ?_
      refine OW_end rfl ?_
      refine CW_cond _ rfl (fun h3 => ?_) (fun h3 => ?_)
      · skip
        have g2 : ltB2 u x = true := h3
        refine CW_seq ?_
        have nd : (Tgl.qs (⟨[], ⟨3, 6, 60, 32, 2, (l.take i).map encU, [encU u]⟩, 99⟩ : Tgl)).Nodup := by show ([3, 6, 99] : List Nat).Nodup; decide
        have nk60 : ∀ j, nokey 60 ((sset (sset (sset noSlots 0 (.d (.sl 2 32 (l.map encU)))) 3 (.d (.iptr (encU u)))) 5 (.d (int ((i : Nat) : Int)))) j) = true := by repeat (first | exact nokeyS_no _ | refine nokeyS_set ?_ rfl)
        refine CW.le (show LE _ _ ⟨J, (sset (sset (sset noSlots 0 (.d (.sl 2 32 (l.map encU)))) 3 (.d (.iptr (encU u)))) 5 (.d (int ((i : Nat) : Int)))), noHeap⟩ from LE_sh (slh_set (v := .d (int ((i : Nat) : Int))) (slh_set (v := .d (.iptr (encU u))) (slh_set (v := .d (.sl 2 32 (l.map encU))) (slh_no _ _) (by rfl) rfl) (by rfl) rfl) (by rfl) rfl) (hlh_no _ _)) ?_
        refine CW_drawnY hE 10 ⟨[3, 6], Tgl.H (⟨[], ⟨3, 6, 60, 32, 2, (l.take i).map encU, [encU u]⟩, 99⟩ : Tgl), [(6, 60)], [(6, 28)]⟩ (by decide +kernel) (by kernel_rfl) rfl (fun b b' hb => Tgl.dep (hb 3 (by simp)) (hb 6 (by simp))) (fun q k hm _ j _ => by simp at hm; obtain ⟨rfl, rfl⟩ := hm; exact nk60 j) (LE_eq (Tgl.start (t := (⟨[], ⟨3, 6, 60, 32, 2, (l.take i).map encU, [encU u]⟩, 99⟩ : Tgl)) rfl).symm) ?_
        refine HY_run hE 2 (h0 := noHeap) (fun _ => noHeap_no) rfl rfl rfl ?_
        refine HY_loc2 hE rfl rfl rfl (fun b hb => loc_slice hE (lo := none) (hi := some (.tmp 26)) rfl rfl rfl rfl (l := 0) (u := i) rfl ⟨.i64, rfl⟩ (by omega) (by rw [List.length_map]; omega)) rfl rfl rfl ?_
        refine HY_as 27 (.d (.sl 2 32 ((l.take i).map encU))) (by rw [List.map_take]; rfl) ?_
        refine HY_appendNil hE 60 rfl rfl rfl rfl rfl rfl rfl rfl rfl rfl (.inl rfl) (by rw [List.length_map, List.length_take]; omega) (by rw [List.length_map, List.length_take]; omega) rfl (fun b hb => (Tgl.new nd hb rfl (by kernel_rfl)).1) (fun b hb => (Tgl.new nd hb rfl (by kernel_rfl)).2) ?_
        refine HY_run hE 1 (h0 := noHeap) (fun _ => noHeap_no) rfl rfl rfl ?_
        refine HY_loc2 hE rfl rfl rfl (fun b hb => loc_lits hE (t := 37) (len := 1) (parts := #[(0, .tmp 29)]) rfl rfl rfl rfl rfl rfl rfl rfl (xs := [encU u]) rfl) rfl rfl rfl ?_
        refine HY_append hE (key := 60) rfl rfl rfl rfl rfl rfl rfl rfl rfl rfl rfl (.inl rfl) (by rw [List.length_map, List.length_take, List.length_singleton]; omega) (by rw [List.length_map, List.length_take, List.length_singleton]; omega) rfl (fun b hb => (Tgl.more nd rfl hb (by kernel_rfl)).1) (fun b hb => (Tgl.more nd rfl hb (by kernel_rfl)).2) ?_
        refine HY_run hE 2 (h0 := noHeap) (fun _ => noHeap_no) rfl rfl rfl ?_
        refine HY_loc2 hE rfl rfl rfl (fun b hb => loc_slice hE (lo := some (.tmp 33)) (hi := none) rfl rfl rfl rfl (l := i) (u := l.length) ⟨.i64, rfl⟩ (by rw [List.length_map]) (by omega) (by rw [List.length_map]; omega)) rfl rfl rfl ?_
        refine HY_as 34 (.d (.sl 2 32 ((l.drop i).map encU))) (by show AV.d (.sl 2 32 (((l.map encU).take l.length).drop i)) = _; rw [List.take_of_length_le (by rw [List.length_map]; exact Nat.le_refl _), ← List.map_drop]) ?_
        refine HY_end ?_
        refine OW_append' hE (key := 60) rfl rfl rfl rfl rfl rfl rfl rfl (.inl rfl) (by simp; omega) (by simp; omega) rfl ?_
        refine OW_run' hE.ok 1 rfl ?_
        refine OW.le (LE_freeze 60 32 rfl (by simp; omega)) ?_
        refine OW_end rfl ?_
        refine CW_ret ?_
        refine ⟨.inr rfl, rfl, ⟨_, rfl, rfl, ?_⟩, rfl⟩
        rw [with_less hp hx g1 g2, List.map_append, List.map_append]
        exact AVle.refl _
      · skip
        have g2 : ltB2 u x = false := h3
        refine CW_skip ?_
        refine CW_region ?_
        refine OW_run' hE.ok 3 rfl ?_
        refine OW_end rfl ?_
        refine ⟨⟨i + 1, by omega, fun j y hj hy => ?_⟩, LE_sh (slh_set (v := .d (int ((i + 1 : Nat) : Int))) (slh_set (v := .d (.iptr (encU u))) (slh_set (v := .d (.sl 2 32 (l.map encU))) (slh_no _ _) (by rfl) rfl) (by rfl) rfl) (by show AV.d (.lit (.int .i64 (IntKind.i64.wrap ((i : Int) + 1)))) = _; rw [wrap_succ (by omega)]; rfl) rfl) (hlh_no _ _), by show l.length - (i + 1) < l.length - i; omega⟩
        by_cases hji : j = i
        · subst hji; rw [hx] at hy; cases hy; exact ⟨g1, g2⟩
        · exact hp j y (by omega) hy
  · skip
    have hge : l.length ≤ i := by have := h1; rw [List.length_map] at this; simp at this; omega
    refine CW_exit ?_
    show CW _ _ _ _
    refine CW_seq ?_
    refine CW_drawnG hE 4 [(1, 60, .row 32 2 (l.map encU))] (by decide +kernel) rfl ?_
    refine HG_run hE 1 rfl rfl rfl rfl ?_
    refine HG_appendNil hE rfl rfl rfl rfl rfl rfl rfl rfl rfl rfl (by simp; omega) (by simp; omega) rfl ?_
    refine HG_run hE 1 rfl rfl rfl rfl ?_
    refine HG_loc hE (fun b => loc_lits hE (t := 37) (len := 1) (parts := #[(0, .tmp 38)]) rfl rfl rfl rfl rfl rfl rfl rfl (xs := [encU u]) rfl) rfl rfl rfl rfl rfl ?_
    refine HG_end ?_
    refine OW_append' hE (key := 60) rfl rfl rfl rfl rfl rfl rfl rfl (.inl rfl) (by simp; omega) (by simp; omega) rfl ?_
    refine OW_run' hE.ok 1 rfl ?_
    refine OW.le (LE_freeze 60 32 rfl (by simp; omega)) ?_
    refine OW_end rfl ?_
    refine CW_ret ?_
    refine ⟨.inr rfl, rfl, ⟨_, rfl, rfl, ?_⟩, rfl⟩
    rw [with_end fun j y hj hy => hp j y (by omega) hy, List.map_append]
    exact AVle.refl _
end Go.Proofs.Ytojnicnbmgiplaa
