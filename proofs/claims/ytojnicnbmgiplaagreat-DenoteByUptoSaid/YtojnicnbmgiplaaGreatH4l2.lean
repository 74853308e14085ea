/- Parts of an abstract logic over the kit's walks, and walks in it: H4l2. -/
import Derived.Test.YtojnicnbmgiplaaGreatHxi
import Derived.Test.YtojnicnbmgiplaaGreatMat5
namespace Go.Proofs.YtojnicnbmgiplaaGreat
open Go Go.AL
set_option linter.unusedVariables false
set_option linter.unusedSimpArgs false
set_option maxHeartbeats 4000000
theorem sameBsOk (a b : List Bd) (ha : a.length ≤ 100000) : Does Tryz.prog 34 [.d (SBd a), .d (SBd b)] noHeap (.d (boo (sameBs a b))) := by
  refine Does_of T_ok mixed (N := 26) Tryz.func34 rfl rfl rfl (by rfl) fun F n Z hE hF J => ?_
  refine CW_seq ?_
  refine CW_region ?_
  refine OW_run' hE.ok 1 rfl ?_
  refine OW_end rfl ?_
  refine CW_seq ?_
  refine CW_seq ?_
  refine CW_region ?_
  refine OW_run' hE.ok 5 rfl ?_
  refine OW_end rfl ?_
  refine CW_cond _ rfl (fun h1 => ?_) (fun h1 => ?_)
  · skip
    have hne : a.length ≠ b.length := by have := h1; rw [List.length_map, List.length_map] at this; simp at this; omega
    refine CW_seq ?_
    refine CW_region ?_
    refine OW_run' hE.ok 1 rfl ?_
    refine OW_end rfl ?_
    refine CW_ret ?_
    refine ⟨.inr rfl, rfl, ⟨[.d (boo false)], rfl, rfl, ?_⟩, rfl⟩
    rw [sameBs_len hne]
    exact AVle.refl _
  · skip
    have hll : a.length = b.length := by have := h1; rw [List.length_map, List.length_map] at this; simp at this; omega
    refine CW_skip ?_
    refine CW_seq ?_
    refine CW_seq ?_
    refine CW_region ?_
    refine OW_run' hE.ok 1 rfl ?_
    refine OW_end rfl ?_
    refine CW_block ?_
    refine CW_loop (σ := {i : Nat // i ≤ a.length ∧ sameBs a b = sameBs (a.drop i) (b.drop i)}) (fun i => ⟨J, (sset (sset (sset noSlots 0 (.d (SBd a))) 1 (.d (SBd b))) 5 (.d (int ((i.1 : Nat) : Int)))), noHeap⟩) (fun i => a.length - i.1) ⟨0, Nat.zero_le _, rfl⟩ (LE_sh (slh_set (slh_set (slh_set (slh_no _ _) rfl rfl) rfl rfl) rfl rfl) (hlh_no _ _)) fun ⟨i, hi, hp⟩ => ?_
    refine CW_seq ?_
    refine CW_seq ?_
    refine CW_region ?_
    refine OW_run' hE.ok 4 rfl ?_
    refine OW_end rfl ?_
    refine CW_cond _ rfl (fun h2 => ?_) (fun h2 => ?_)
    · skip
      have hlt : i < a.length := by have := h2; rw [List.length_map] at this; simp at this; omega
      obtain ⟨x, hx⟩ : ∃ x, a[i]? = some x := ⟨_, List.getElem?_eq_getElem hlt⟩
      obtain ⟨y, hy⟩ : ∃ y, b[i]? = some y := ⟨_, List.getElem?_eq_getElem (by omega)⟩
      refine CW_skip ?_
      refine CW_seq ?_
      refine CW_block ?_
      refine CW_seq ?_
      refine CW_drawn' hE 8 (by decide +kernel) ?_
      refine HW_run hE 2 rfl rfl ?_
      refine HW_loc hE (loc_indexAddr hE rfl rfl rfl rfl rfl (by omega) (x := encBd x) (by simp [hx])) rfl rfl rfl rfl ?_
      refine HW_run hE 3 rfl rfl ?_
      refine HW_loc hE (loc_indexAddr hE rfl rfl rfl rfl rfl (by omega) (x := encBd y) (by simp [hy])) rfl rfl rfl rfl ?_
      refine HW_run hE 1 rfl rfl ?_
      refine HW_end ?_
      refine OW_loc' hE (loc_neq rfl rfl rfl (r := sameBd x y) (eqLaw_flat T_ok (t := 45) rfl (by decide +kernel) rfl (X := encBd x) (Y := encBd y) rfl rfl rfl)) rfl rfl rfl ?_
      refine OW_end rfl ?_
      refine CW_cond _ rfl (fun h3 => ?_) (fun h3 => ?_)
      · skip
        have g1 : sameBd x y = false := by have := h3; simpa using this
        refine CW_seq ?_
        refine CW_region ?_
        refine OW_run' hE.ok 1 rfl ?_
        refine OW_end rfl ?_
        refine CW_ret ?_
        refine ⟨.inr rfl, rfl, ⟨[.d (boo false)], rfl, rfl, ?_⟩, rfl⟩
        rw [hp, sameBs_drop hx hy, g1]
        exact AVle.refl _
      · skip
        have g1 : sameBd x y = true := by have := h3; simpa using this
        refine CW_skip ?_
        refine CW_region ?_
        refine OW_run' hE.ok 3 rfl ?_
        refine OW_end rfl ?_
        refine ⟨⟨i + 1, by omega, hp.trans ((sameBs_drop hx hy).trans (by rw [g1]; rfl))⟩, LE_sh (slh_set (v := .d (int ((i + 1 : Nat) : Int))) (slh_set (v := .d (SBd b)) (slh_set (v := .d (SBd a)) (slh_no _ _) (by rfl) rfl) (by rfl) rfl) (by show AV.d (.lit (.int .i64 (IntKind.i64.wrap ((i : Int) + 1)))) = _; rw [wrap_succ (by omega)]; rfl) rfl) (hlh_no _ _), by show a.length - (i + 1) < a.length - i; omega⟩
    · skip
      have hge : a.length ≤ i := by have := h2; rw [List.length_map] at this; simp at this; omega
      refine CW_exit ?_
      show CW _ _ _ _
      refine CW_seq ?_
      refine CW_region ?_
      refine OW_run' hE.ok 1 rfl ?_
      refine OW_end rfl ?_
      refine CW_ret ?_
      refine ⟨.inr rfl, rfl, ⟨[.d (boo true)], rfl, rfl, ?_⟩, rfl⟩
      rw [hp, sameBs_end hge (by omega)]
      exact AVle.refl _

theorem withinOk (a b : List (List Bd)) (ha : a.length ≤ 4194304) (hb : b.length ≤ 4194304) (hla : ∀ x ∈ a, x.length ≤ 12) : Does Tryz.prog 20 [.d (.sl 1 24 (a.map encR)), .d (.sl 1 24 (b.map encR))] noHeap (.d (boo (withinX a b))) := by
  refine Does_of T_ok mixed (N := 36) Tryz.func20 rfl rfl rfl (by rfl) fun F n Z hE hF J => ?_
  refine CW_seq ?_
  refine CW_region ?_
  refine OW_run' hE.ok 1 rfl ?_
  refine OW_end rfl ?_
  refine CW_seq ?_
  refine CW_seq ?_
  refine CW_region ?_
  refine OW_run' hE.ok 1 rfl ?_
  refine OW_end rfl ?_
  refine CW_block ?_
  refine CW_loop (σ := {i : Nat // i ≤ a.length ∧ ∀ (k : Nat) (x : List Bd), k < i → a[k]? = some x → b.any (fun y => sameBs x y) = true}) (fun i => ⟨J, (sset (sset (sset noSlots 0 (.d (.sl 1 24 (a.map encR)))) 1 (.d (.sl 1 24 (b.map encR)))) 5 (.d (int ((i.1 : Nat) : Int)))), noHeap⟩) (fun i => a.length - i.1) ⟨0, Nat.zero_le _, fun k x hk => by omega⟩ (LE_sh (slh_set (slh_set (slh_set (slh_no _ _) rfl rfl) rfl rfl) rfl rfl) (hlh_no _ _)) fun ⟨i, hi, hp⟩ => ?_
  refine CW_seq ?_
  refine CW_seq ?_
  refine CW_region ?_
  refine OW_run' hE.ok 4 rfl ?_
  refine OW_end rfl ?_
  refine CW_cond _ rfl (fun h1 => ?_) (fun h1 => ?_)
  · skip
    have hlt : i < a.length := by have := h1; rw [List.length_map] at this; simp at this; omega
    obtain ⟨x, hx⟩ : ∃ x, a[i]? = some x := ⟨_, List.getElem?_eq_getElem hlt⟩
    have hxl := hla x (List.mem_of_getElem? hx)
    refine CW_skip ?_
    refine CW_seq ?_
    refine CW_block ?_
    refine CW_seq ?_
    refine CW_region ?_
    refine OW_run' hE.ok 1 rfl ?_
    refine OW_end rfl ?_
    refine CW_seq ?_
    refine CW_seq ?_
    refine CW_region ?_
    refine OW_run' hE.ok 1 rfl ?_
    refine OW_end rfl ?_
    refine CW_block ?_
    refine CW_loop (σ := {j : Nat // j ≤ b.length}) (fun j => ⟨J, (sset (sset (sset (sset (sset noSlots 0 (.d (.sl 1 24 (a.map encR)))) 1 (.d (.sl 1 24 (b.map encR)))) 5 (.d (int ((i : Nat) : Int)))) 6 (.d (boo ((b.take j.1).any fun y => sameBs x y)))) 7 (.d (int ((j.1 : Nat) : Int)))), noHeap⟩) (fun j => b.length - j.1) ⟨0, Nat.zero_le _⟩ (LE_sh (slh_set (slh_set (slh_set (slh_set (slh_set (slh_no _ _) rfl rfl) rfl rfl) rfl rfl) rfl rfl) rfl rfl) (hlh_no _ _)) fun ⟨j, hj⟩ => ?_
    refine CW_seq ?_
    refine CW_seq ?_
    refine CW_region ?_
    refine OW_run' hE.ok 4 rfl ?_
    refine OW_end rfl ?_
    refine CW_cond _ rfl (fun h2 => ?_) (fun h2 => ?_)
    · skip
      have hjl : j < b.length := by have := h2; rw [List.length_map] at this; simp at this; omega
      obtain ⟨y, hy⟩ : ∃ y, b[j]? = some y := ⟨_, List.getElem?_eq_getElem hjl⟩
      refine CW_skip ?_
      refine CW_seq ?_
      refine CW_block ?_
      refine CW_drawn' hE 12 (by decide +kernel) ?_
      refine HW_run hE 2 rfl rfl ?_
      refine HW_split 21 rfl (fun h3 => ?_) (fun h3 => ?_)
      · skip
        have g1 : ((b.take j).any fun y => sameBs x y) = true := h3
        refine HW_run hE 10 rfl rfl ?_
        refine HW_end ?_
        refine OW_run' hE.ok 3 rfl ?_
        refine OW_end rfl ?_
        refine CW_region ?_
        refine OW_run' hE.ok 3 rfl ?_
        refine OW_end rfl ?_
        refine ⟨⟨j + 1, by omega⟩, LE_sh (slh_set (v := .d (int ((j + 1 : Nat) : Int))) (slh_set (v := .d (boo ((b.take (j + 1)).any fun y => sameBs x y))) (slh_set (v := .d (int ((i : Nat) : Int))) (slh_set (v := .d (.sl 1 24 (b.map encR))) (slh_set (v := .d (.sl 1 24 (a.map encR))) (slh_no _ _) (by rfl) rfl) (by rfl) rfl) (by rfl) rfl) (by exact (congrArg (fun z => AV.d (boo z)) (by rw [any_snoc hy, g1]; rfl))) rfl) (by show AV.d (.lit (.int .i64 (IntKind.i64.wrap ((j : Int) + 1)))) = _; rw [wrap_succ (by omega)]; rfl) rfl) (hlh_no _ _), by show b.length - (j + 1) < b.length - j; omega⟩
      · skip
        have g1 : ((b.take j).any fun y => sameBs x y) = false := h3
        refine HW_run hE 2 rfl rfl ?_
        refine HW_loc hE (loc_indexAddr hE rfl rfl rfl rfl rfl (by omega) (x := encR x) (by simp [hx])) rfl rfl rfl rfl ?_
        refine HW_run hE 4 rfl rfl ?_
        refine HW_loc hE (loc_indexAddr hE rfl rfl rfl rfl rfl (by omega) (x := encR y) (by simp [hy])) rfl rfl rfl rfl ?_
        refine HW_run hE 2 rfl rfl ?_
        refine HW_end ?_
        refine OW_call' hE (sameBsOk x y (by omega)) rfl rfl rfl rfl rfl rfl rfl ?_
        refine OW_run' hE.ok 2 rfl ?_
        refine OW_end rfl ?_
        refine CW_region ?_
        refine OW_run' hE.ok 3 rfl ?_
        refine OW_end rfl ?_
        refine ⟨⟨j + 1, by omega⟩, LE_sh (slh_set (v := .d (int ((j + 1 : Nat) : Int))) (slh_set (v := .d (boo ((b.take (j + 1)).any fun y => sameBs x y))) (slh_set (v := .d (int ((i : Nat) : Int))) (slh_set (v := .d (.sl 1 24 (b.map encR))) (slh_set (v := .d (.sl 1 24 (a.map encR))) (slh_no _ _) (by rfl) rfl) (by rfl) rfl) (by rfl) rfl) (by exact (congrArg (fun z => AV.d (boo z)) (by rw [any_snoc hy, g1]; rfl))) rfl) (by show AV.d (.lit (.int .i64 (IntKind.i64.wrap ((j : Int) + 1)))) = _; rw [wrap_succ (by omega)]; rfl) rfl) (hlh_no _ _), by show b.length - (j + 1) < b.length - j; omega⟩
    · skip
      have hjg : b.length ≤ j := by have := h2; rw [List.length_map] at this; simp at this; omega
      have htk : b.take j = b := List.take_of_length_le hjg
      refine CW_exit ?_
      show CW _ _ _ _
      refine CW_seq ?_
      refine CW_region ?_
      refine OW_run' hE.ok 2 rfl ?_
      refine OW_end rfl ?_
      refine CW_cond _ rfl (fun h4 => ?_) (fun h4 => ?_)
      · skip
        have g2 : b.any (fun y => sameBs x y) = false := by have h0 : (!((b.take j).any fun y => sameBs x y)) = true := h4; rw [htk] at h0; simpa using h0
        refine CW_seq ?_
        refine CW_region ?_
        refine OW_run' hE.ok 1 rfl ?_
        refine OW_end rfl ?_
        refine CW_ret ?_
        refine ⟨.inr rfl, rfl, ⟨[.d (boo false)], rfl, rfl, ?_⟩, rfl⟩
        rw [within_no hx g2]
        exact AVle.refl _
      · skip
        have g2 : b.any (fun y => sameBs x y) = true := by have h0 : (!((b.take j).any fun y => sameBs x y)) = false := h4; rw [htk] at h0; simpa using h0
        refine CW_skip ?_
        refine CW_region ?_
        refine OW_run' hE.ok 3 rfl ?_
        refine OW_end rfl ?_
        refine ⟨⟨i + 1, by omega, fun k z hk hz => ?_⟩, LE_sh (slh_set (v := .d (int ((i + 1 : Nat) : Int))) (slh_set (v := .d (.sl 1 24 (b.map encR))) (slh_set (v := .d (.sl 1 24 (a.map encR))) (slh_no _ _) (by rfl) rfl) (by rfl) rfl) (by show AV.d (.lit (.int .i64 (IntKind.i64.wrap ((i : Int) + 1)))) = _; rw [wrap_succ (by omega)]; rfl) rfl) (hlh_no _ _), by show a.length - (i + 1) < a.length - i; omega⟩
        by_cases hki : k = i
        · subst hki; rw [hx] at hz; cases hz; exact g2
        · exact hp k z (by omega) hz
  · skip
    have hge : a.length ≤ i := by have := h1; rw [List.length_map] at this; simp at this; omega
    refine CW_exit ?_
    show CW _ _ _ _
    refine CW_seq ?_
    refine CW_region ?_
    refine OW_run' hE.ok 1 rfl ?_
    refine OW_end rfl ?_
    refine CW_ret ?_
    refine ⟨.inr rfl, rfl, ⟨[.d (boo true)], rfl, rfl, ?_⟩, rfl⟩
    rw [within_all fun i x hx => hp i x (by have := (List.getElem?_eq_some_iff.1 hx).1; omega) hx]
    exact AVle.refl _
end Go.Proofs.YtojnicnbmgiplaaGreat
