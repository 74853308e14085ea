/- Parts of an abstract logic over the kit's walks, and walks in it: P4da, P4db, P4dl, P4dt, P4dw, P4dg, P4dn. -/
import Derived.Test.YtojnicnbmgiplaaPxa
import Derived.Test.YtojnicnbmgiplaaDe
import Derived.Test.YtojnicnbmgiplaaAf
import Derived.Test.YtojnicnbmgiplaaEz
import Derived.Test.YtojnicnbmgiplaaPxb
import Derived.Test.YtojnicnbmgiplaaAg
namespace Go.Proofs.Ytojnicnbmgiplaa
open Go Go.AL
set_option linter.unusedVariables false
set_option linter.unusedSimpArgs false
set_option maxHeartbeats 4000000
theorem isNaNI (a : Int) : Does Try.prog 132 [.d (int a)] noHeap (.d (boo false)) := by
  refine Does_of T_ok mixed (N := 6) Try.func132 rfl rfl rfl (by rfl) fun F n Z hE hF J => ?_
  refine CW_seq ?_
  refine CW_region ?_
  refine OW_run' hE.ok 1 rfl ?_
  refine OW_end rfl ?_
  refine CW_seq ?_
  refine CW_region ?_
  refine OW_run' hE.ok 4 rfl ?_
  refine OW_end rfl ?_
  refine CW_ret ?_
  refine ⟨.inr rfl, rfl, ⟨_, rfl, rfl, ?_⟩, rfl⟩
  exact AVle.of (congrArg (fun b => AV.d (boo b)) (by simp))

theorem cmpOk (a b : Int) : Does Try.prog 105 [.d (int a), .d (int b)] noHeap (.d (int (cmpI a b))) := by
  refine Does_of T_ok mixed (N := 20) Try.func105 rfl rfl rfl (by rfl) fun F n Z hE hF J => ?_
  refine CW_seq ?_
  refine CW_region ?_
  refine OW_run' hE.ok 1 rfl ?_
  refine OW_end rfl ?_
  refine CW_seq ?_
  refine CW_region ?_
  refine OW_run' hE.ok 1 rfl ?_
  refine OW_call' hE (isNaNI a) rfl rfl rfl rfl rfl rfl rfl ?_
  refine OW_run' hE.ok 1 rfl ?_
  refine OW_end rfl ?_
  refine CW_seq ?_
  refine CW_region ?_
  refine OW_run' hE.ok 1 rfl ?_
  refine OW_call' hE (isNaNI b) rfl rfl rfl rfl rfl rfl rfl ?_
  refine OW_run' hE.ok 1 rfl ?_
  refine OW_end rfl ?_
  refine CW_seq ?_
  refine CW_seq ?_
  refine CW_region ?_
  refine OW_run' hE.ok 1 rfl ?_
  refine OW_end rfl ?_
  refine CW_false rfl ?_
  refine CW_skip ?_
  refine CW_seq ?_
  refine CW_seq ?_
  refine CW_region ?_
  refine OW_run' hE.ok 1 rfl ?_
  refine OW_end rfl ?_
  refine CW_false rfl ?_
  refine CW_skip ?_
  refine CW_seq ?_
  refine CW_seq ?_
  refine CW_region ?_
  refine OW_run' hE.ok 3 rfl ?_
  refine OW_end rfl ?_
  refine CW_cond _ rfl (fun h1 => ?_) (fun h1 => ?_)
  · skip
    have g1 : decide (a < b) = true := h1
    refine CW_seq ?_
    refine CW_region ?_
    refine OW_run' hE.ok 1 rfl ?_
    refine OW_end rfl ?_
    refine CW_ret ?_
    refine ⟨.inr rfl, rfl, ⟨_, rfl, rfl, ?_⟩, rfl⟩
    rw [show cmpI a b = -1 by unfold cmpI; rw [g1]; rfl]
    exact AVle.refl _
  · skip
    have g1 : decide (a < b) = false := h1
    refine CW_skip ?_
    refine CW_seq ?_
    refine CW_seq ?_
    refine CW_region ?_
    refine OW_run' hE.ok 3 rfl ?_
    refine OW_end rfl ?_
    refine CW_cond _ rfl (fun h2 => ?_) (fun h2 => ?_)
    · skip
      have g2 : decide (a > b) = true := h2
      refine CW_seq ?_
      refine CW_region ?_
      refine OW_run' hE.ok 1 rfl ?_
      refine OW_end rfl ?_
      refine CW_ret ?_
      refine ⟨.inr rfl, rfl, ⟨_, rfl, rfl, ?_⟩, rfl⟩
      rw [show cmpI a b = 1 by unfold cmpI; rw [g1, g2]; rfl]
      exact AVle.refl _
    · skip
      have g2 : decide (a > b) = false := h2
      refine CW_skip ?_
      refine CW_seq ?_
      refine CW_region ?_
      refine OW_run' hE.ok 1 rfl ?_
      refine OW_end rfl ?_
      refine CW_ret ?_
      refine ⟨.inr rfl, rfl, ⟨_, rfl, rfl, ?_⟩, rfl⟩
      rw [show cmpI a b = 0 by unfold cmpI; rw [g1, g2]; rfl]
      exact AVle.refl _

theorem at1 (k : Kp) (z : Int) : Does Try.prog 117 [argK k, .d (int z)] noHeap (.d (int (cmpI k.at_ z))) := by
  refine Does_of T_ok mixed (N := 9) Try.func117 rfl rfl rfl (by rfl) fun F n Z hE hF J => ?_
  refine CW_seq ?_
  refine CW_region ?_
  refine OW_run' hE.ok 2 rfl ?_
  refine OW_end rfl ?_
  refine CW_seq ?_
  refine CW_region ?_
  refine OW_run' hE.ok 3 rfl ?_
  refine OW_call' hE (cmpOk k.at_ z) rfl rfl rfl rfl rfl rfl rfl ?_
  refine OW_run' hE.ok 1 rfl ?_
  refine OW_end rfl ?_
  refine CW_ret ?_
  refine ⟨.inr rfl, rfl, ⟨_, rfl, rfl, ?_⟩, rfl⟩
  exact AVle.refl _

theorem bsK (l : List Kp) (z : Int) (hr : Rises l) : Does Try.prog 116 [.d (SK l), .d (int z), .d (.fn (.func 117) [] [])] noHeap (.tup [.d (int ((posK l z : Nat) : Int)), .d (boo (thereK l z))]) := by
  refine Does_of T_ok mixed (N := 49) Try.func116 rfl rfl rfl (by rfl) fun F n Z hE hF J => ?_
  refine CW_know (know_sl (d := 0) rfl) fun hlen => ?_
  rw [List.length_map] at hlen
  refine CW_seq ?_
  refine CW_region ?_
  refine OW_run' hE.ok 2 rfl ?_
  refine OW_end rfl ?_
  refine CW_seq ?_
  refine CW_region ?_
  refine OW_run' hE.ok 3 rfl ?_
  refine OW_end rfl ?_
  refine CW_seq ?_
  refine CW_region ?_
  refine OW_run' hE.ok 3 rfl ?_
  refine OW_end rfl ?_
  refine CW_seq ?_
  refine CW_block ?_
  refine CW_loop (σ := {q : Nat × Nat // q.1 ≤ q.2 ∧ q.2 ≤ l.length ∧ (∀ k a, k < q.1 → l[k]? = some a → a.at_ < z) ∧ (∀ k a, q.2 ≤ k → l[k]? = some a → ¬ a.at_ < z)})
    (fun q => ⟨J, (sset (sset (sset (sset (sset (sset noSlots 0 (.d (SK l))) 1 (.d (int z))) 2 (.d (.fn (.func 117) [] []))) 8 (.d (int ((l.length : Nat) : Int)))) 9 (.d (int ((q.1.1 : Nat) : Int)))) 10 (.d (int ((q.1.2 : Nat) : Int)))), noHeap⟩) (fun q => q.1.2 - q.1.1) ⟨(0, l.length), Nat.zero_le _, Nat.le_refl _, fun k a hk => absurd hk (Nat.not_lt_zero _), fun k a hk ha => absurd (List.getElem?_eq_some_iff.1 ha).1 (by simp at hk; omega)⟩ (LE_sh (slh_set (slh_set (slh_set (slh_set (slh_set (slh_set (slh_no _ _) rfl rfl) rfl rfl) rfl rfl) (by show AV.d (.lit (.int .i64 ((l.map encK).length : Int))) = _; rw [List.length_map]; rfl) rfl) rfl rfl) (by show AV.d (.lit (.int .i64 ((l.map encK).length : Int))) = _; rw [List.length_map]; rfl) rfl) (hlh_no _ _)) fun ⟨(i, j), hij, hj, g1, g2⟩ => ?_
  simp only at hij hj g1 g2
  refine CW_seq ?_
  refine CW_seq ?_
  refine CW_region ?_
  refine OW_run' hE.ok 3 rfl ?_
  refine OW_end rfl ?_
  refine CW_cond _ rfl (fun h1 => ?_) (fun h1 => ?_)
  · skip
    have hlt : i < j := by have := h1; simp at this; omega
    obtain ⟨a, ha⟩ : ∃ a, l[(i + j) / 2]? = some a := ⟨_, List.getElem?_eq_getElem (by omega)⟩
    refine CW_skip ?_
    refine CW_block ?_
    refine CW_seq ?_
    refine CW_region ?_
    refine OW_run' hE.ok 3 rfl ?_
    refine OW_as' 20 (.d (int ((i + j : Nat) : Int))) (by show AV.d (.lit (.int .i64 (IntKind.i64.wrap ((i : Int) + (j : Int))))) = _; rw [wrap_id _ _ (by simp [IntKind.min, IntKind.signed, IntKind.bits]; omega) (by simp [IntKind.max, IntKind.signed, IntKind.bits]; omega)]; rfl) ?_
    refine OW_run' hE.ok 1 rfl ?_
    refine OW_as' 21 (.d (.lit (.int .u64 ((i + j : Nat) : Int)))) (by show AV.d (.lit (.int .u64 (IntKind.u64.wrap ((i + j : Nat) : Int)))) = _; rw [wrap_id _ _ (by simp [IntKind.min, IntKind.signed, IntKind.bits]; try omega) (by simp [IntKind.max, IntKind.signed, IntKind.bits]; omega)]) ?_
    refine OW_loc' hE (loc_shr1 hE rfl rfl rfl) rfl rfl rfl ?_
    refine OW_run' hE.ok 1 rfl ?_
    refine OW_as' 23 (.d (int (((i + j) / 2 : Nat) : Int))) (by show AV.d (.lit (.int .i64 (IntKind.i64.wrap (((i + j) / 2 : Nat) : Int)))) = _; rw [wrap_id _ _ (by simp [IntKind.min, IntKind.signed, IntKind.bits]; omega) (by simp [IntKind.max, IntKind.signed, IntKind.bits]; omega)]; rfl) ?_
    refine OW_run' hE.ok 1 rfl ?_
    refine OW_end rfl ?_
    refine CW_seq ?_
    refine CW_region ?_
    refine OW_run' hE.ok 3 rfl ?_
    refine OW_loc' hE (loc_indexAddr hE rfl rfl rfl rfl rfl (by omega) (x := encK a) (by show (l.map encK)[(((i + j) / 2 : Nat) : Int).toNat]? = _; rw [Int.toNat_natCast, List.getElem?_map, ha]; rfl)) rfl rfl rfl ?_
    refine OW_run' hE.ok 2 rfl ?_
    refine OW_call' hE (at1 a z) rfl rfl rfl rfl rfl rfl rfl ?_
    refine OW_run' hE.ok 1 rfl ?_
    refine OW_end rfl ?_
    refine CW_cond _ rfl (fun h2 => ?_) (fun h2 => ?_)
    · skip
      have hless : decide (a.at_ < z) = true := by rw [← cmpI_lt]; exact h2
      refine CW_region ?_
      refine OW_run' hE.ok 3 rfl ?_
      refine OW_end rfl ?_
      exact ⟨⟨((i + j) / 2 + 1, j), by simp only; omega, hj, fun k b hk hb => bk_left hr ha (by simpa using hless) k b hk hb, g2⟩, LE_sh (slh_set (slh_set (slh_set (slh_set (slh_set (slh_set (slh_no _ _) rfl rfl) rfl rfl) rfl rfl) rfl rfl) (by show AV.d (.lit (.int .i64 (IntKind.i64.wrap (((i + j) / 2 : Nat) + 1)))) = _; rw [wrap_succ (by omega)]; rfl) rfl) rfl rfl) (hlh_no _ _), by show j - ((i + j) / 2 + 1) < j - i; omega⟩
    · skip
      have hless : decide (a.at_ < z) = false := by rw [← cmpI_lt]; exact h2
      refine CW_region ?_
      refine OW_run' hE.ok 2 rfl ?_
      refine OW_end rfl ?_
      exact ⟨⟨(i, (i + j) / 2), by simp only; omega, by simp only; omega, g1, fun k b hk hb => bk_right hr ha (by simpa using hless) k b hk hb⟩, LE_sh (slh_set (slh_set (slh_set (slh_set (slh_set (slh_set (slh_no _ _) rfl rfl) rfl rfl) rfl rfl) rfl rfl) rfl rfl) rfl rfl) (hlh_no _ _), by show (i + j) / 2 - i < j - i; omega⟩
  · skip
    have hji : j = i := by have := h1; simp at this; omega
    subst hji
    have hpos := posK_of hj g1 g2
    refine CW_exit ?_
    show CW _ _ _ _
    refine CW_seq ?_
    refine CW_region ?_
    refine OW_run' hE.ok 5 rfl ?_
    refine OW_split' 39 rfl (fun h3 => ?_) (fun h3 => ?_)
    · skip
      have hlt : j < l.length := by have := h3; simp at this; omega
      obtain ⟨a, ha⟩ : ∃ a, l[j]? = some a := ⟨_, List.getElem?_eq_getElem (by omega)⟩
      refine OW_run' hE.ok 3 rfl ?_
      refine OW_loc' hE (loc_indexAddr hE rfl rfl rfl rfl rfl (by omega) (x := encK a) (by simp [ha])) rfl rfl rfl ?_
      refine OW_run' hE.ok 2 rfl ?_
      refine OW_call' hE (at1 a z) rfl rfl rfl rfl rfl rfl rfl ?_
      refine OW_run' hE.ok 4 rfl ?_
      refine OW_end rfl ?_
      refine CW_ret ?_
      refine ⟨.inr rfl, rfl, ⟨_, rfl, rfl, ?_⟩, rfl⟩
      refine AVle.of (Eq.trans (b := .tup [.d (int ((j : Nat) : Int)), .d (boo (cmpI a.at_ z == 0))]) rfl ?_)
      rw [thereK_at hpos ha, hpos, cmpI_eq]
    · skip
      have hge : l[j]? = none := List.getElem?_eq_none (by have := h3; simp at this; omega)
      refine OW_run' hE.ok 11 rfl ?_
      refine OW_end rfl ?_
      refine CW_ret ?_
      refine ⟨.inr rfl, rfl, ⟨_, rfl, rfl, ?_⟩, rfl⟩
      refine AVle.of (Eq.trans (b := .tup [.d (int ((j : Nat) : Int)), .d (boo false)]) rfl ?_)
      rw [thereK_no hpos hge, hpos]

theorem atOk (l : List Kp) (z : Int) (hr : Rises l) : Does Try.prog 97 [.d (SK l), .d (int z)] noHeap (.tup [argE (atK l z).1, .d (boo (atK l z).2)]) := by
  refine Does_of T_ok mixed (N := 22) Try.func97 rfl rfl rfl (by rfl) fun F n Z hE hF J => ?_
  refine CW_seq ?_
  refine CW_region ?_
  refine OW_alloc' hE 1 rfl rfl rfl rfl rfl rfl rfl ?_
  refine OW_run' hE.ok 1 rfl ?_
  refine OW_end rfl ?_
  refine CW_seq ?_
  refine CW_region ?_
  refine OW_run' hE.ok 2 rfl ?_
  refine OW_call' hE (bsK l z hr) rfl rfl rfl rfl rfl rfl rfl ?_
  refine OW_run' hE.ok 5 rfl ?_
  refine OW_end rfl ?_
  refine CW_seq ?_
  refine CW_seq ?_
  refine CW_region ?_
  refine OW_run' hE.ok 2 rfl ?_
  refine OW_end rfl ?_
  refine CW_cond _ rfl (fun h1 => ?_) (fun h1 => ?_)
  · skip
    have h0 : (!thereK l z) = true := h1
    have g1 := at_no hr (by simpa using h0)
    refine CW_seq ?_
    refine CW_region ?_
    refine OW_build' hE rfl rfl rfl rfl rfl ?_
    refine OW_store' hE rfl rfl rfl rfl rfl rfl rfl rfl rfl rfl rfl rfl ?_
    refine OW_run' hE.ok 1 rfl ?_
    refine OW_end rfl ?_
    refine CW_ret ?_
    refine ⟨.inr rfl, rfl, ⟨_, rfl, rfl, ?_⟩, rfl⟩
    rw [g1]
    exact AVle.tup (.cons (AVle.agg (.cons (.refl _) (.cons (.refl _) (.cons (.nilSl 3 32) .nil)))) (.cons (.refl _) .nil))
  · skip
    have h0 : (!thereK l z) = false := h1
    obtain ⟨k, hk, g1⟩ := at_yes hr (by simpa using h0)
    refine CW_skip ?_
    refine CW_seq ?_
    refine CW_region ?_
    refine OW_run' hE.ok 2 rfl ?_
    refine OW_loc' hE (loc_indexAddr hE rfl rfl rfl rfl rfl (by omega) (x := encK k) (by simp [hk])) rfl rfl rfl ?_
    refine OW_run' hE.ok 2 rfl ?_
    refine OW_store' hE rfl rfl rfl rfl rfl rfl rfl rfl rfl rfl rfl rfl ?_
    refine OW_run' hE.ok 1 rfl ?_
    refine OW_end rfl ?_
    refine CW_ret ?_
    refine ⟨.inr rfl, rfl, ⟨_, rfl, rfl, ?_⟩, rfl⟩
    rw [g1]
    exact AVle.refl _
end Go.Proofs.Ytojnicnbmgiplaa
namespace Go.Proofs.Ytojnicnbmgiplaa
open Go Go.AL
set_option linter.unusedVariables false
set_option linter.unusedSimpArgs false
set_option maxHeartbeats 4000000
theorem boundOk (p : Pat) (l : List Kp) (b : List Bd) (k : Int) (hr : Rises l) (hf : Fits p b) (hb : b.length ≤ 1000) : Does Try.prog 120 [argP p, .d (SK l), .d (SBd b), .d (int k)] (oneRow 169 4 ((boundX p l k b).map encBi)) (.row 0) := by
  refine Does_ofRow T_ok mixed (N := 48) Try.func120 rfl rfl rfl (by rfl) fun F n Z hE hF J => ?_
  refine CW_seq ?_
  refine CW_region ?_
  refine OW_run' hE.ok 2 rfl ?_
  refine OW_end rfl ?_
  refine CW_seq ?_
  refine CW_region ?_
  refine OW_run' hE.ok 1 rfl ?_
  refine OW.le (LE_nilSlot 9 50 169 4 rfl rfl) ?_
  refine OW_end rfl ?_
  refine CW_seq ?_
  refine CW_seq ?_
  refine CW_region ?_
  refine OW_run' hE.ok 3 rfl ?_
  refine OW_end rfl ?_
  refine CW_block ?_
  refine CW_loop (σ := {i : Nat // i ≤ b.length}) (fun i => ⟨J, (sset (sset (sset (sset (sset (sset (sset noSlots 1 (.d (SK l))) 3 (.d (int k))) 4 (.d (.iptr (encP p)))) 9 (.row 50)) 14 (.d (SBd b))) 15 (.d (int ((b.length : Nat) : Int)))) 16 (.d (int ((i.1 : Nat) : Int)))), (hset noHeap 50 (some (.row 169 4 ((boundX p l k (b.take i.1)).map encBi))))⟩) (fun i => b.length - i.1) ⟨0, Nat.zero_le _⟩ (LE_sh (slh_set (slh_set (slh_set (slh_set (slh_set (slh_set (slh_set (slh_no _ _) rfl rfl) rfl rfl) rfl rfl) rfl rfl) rfl rfl) (by show AV.d (.lit (.int .i64 ((b.map encBd).length : Int))) = _; rw [List.length_map]; rfl) rfl) rfl rfl) (hlh_set (hlh_no _ _) (congrArg (fun z => some (Ent.row 169 4 z)) (rfl)) rfl)) fun ⟨i, hi⟩ => ?_
  refine CW_seq ?_
  refine CW_region ?_
  refine OW_run' hE.ok 1 rfl ?_
  refine OW_end rfl ?_
  refine CW_seq ?_
  refine CW_cond _ rfl (fun h1 => ?_) (fun h1 => ?_)
  · skip
    have hlt : i < b.length := by have := h1; simp at this; omega
    obtain ⟨x, hx⟩ : ∃ x, b[i]? = some x := ⟨_, List.getElem?_eq_getElem hlt⟩
    obtain ⟨n, el, hn, hel, hex⟩ := hf.at hx
    have hfew := boundX_len p l k (b.take i)
    rw [List.length_take] at hfew
    refine CW_skip ?_
    refine CW_seq ?_
    refine CW_block ?_
    refine CW_seq ?_
    refine CW_region ?_
    refine OW_loc' hE (loc_indexAddr hE rfl rfl rfl rfl rfl (by omega) (x := encBd x) (by simp [hx])) rfl rfl rfl ?_
    refine OW_run' hE.ok 1 rfl ?_
    refine OW_alloc' hE 1 rfl rfl rfl rfl rfl rfl rfl ?_
    refine OW_store' hE rfl rfl rfl rfl rfl rfl rfl rfl rfl rfl rfl rfl ?_
    refine OW_end rfl ?_
    refine CW_seq ?_
    refine CW_region ?_
    refine OW_run' hE.ok 3 rfl ?_
    refine OW_call' hE (atOk l x.at_ hr) rfl rfl rfl rfl rfl rfl rfl ?_
    refine OW_run' hE.ok 3 rfl ?_
    refine OW_alloc' hE 2 rfl rfl rfl rfl rfl rfl rfl ?_
    refine OW_store' hE rfl rfl rfl rfl rfl rfl rfl rfl rfl rfl rfl rfl ?_
    refine OW_run' hE.ok 1 rfl ?_
    refine OW_end rfl ?_
    refine CW_seq ?_
    refine CW_region ?_
    refine OW_run' hE.ok 2 rfl ?_
    refine OW_split' 28 rfl (fun h2 => ?_) (fun h2 => ?_)
    · skip
      have g1 : (atK l x.at_).2 = true := h2
      refine OW_run' hE.ok 5 rfl ?_
      refine OW_end rfl ?_
      refine CW_cond _ rfl (fun h3 => ?_) (fun h3 => ?_)
      · skip
        have g2 : decide (x.el < k) = true := h3
        refine CW_drawn' hE 11 (by decide +kernel) ?_
        refine HW_run hE 5 rfl rfl ?_
        refine HW_as 38 (.d (int ((n : Nat) : Int))) (by exact congrArg (fun z => AV.d (int z)) hn) ?_
        refine HW_loc hE (loc_indexAddr hE rfl rfl rfl rfl rfl (by omega) (x := encL el) (by simp [hel])) rfl rfl rfl rfl ?_
        refine HW_run hE 3 rfl rfl ?_
        refine HW_loc hE (loc_build hE rfl rfl) rfl rfl rfl rfl ?_
        refine HW_loc hE (loc_lits hE (t := 166) (len := 1) (parts := #[(0, .tmp 43)]) rfl rfl rfl rfl rfl rfl rfl rfl (xs := [encBi ⟨el.al, (atK l x.at_).1⟩]) rfl) rfl rfl rfl rfl ?_
        refine HW_end ?_
        refine OW_append' hE (key := 50) rfl rfl rfl rfl rfl rfl rfl rfl (.inl rfl) (by simp; omega) (by simp; omega) rfl ?_
        refine OW_run' hE.ok 1 rfl ?_
        refine OW_end rfl ?_
        refine CW_region ?_
        refine OW_run' hE.ok 2 rfl ?_
        refine OW_end rfl ?_
        exact ⟨⟨i + 1, by omega⟩, LE_sh (slh_set (v := .d (int ((i + 1 : Nat) : Int))) (slh_set (v := .d (int ((b.length : Nat) : Int))) (slh_set (v := .d (SBd b)) (slh_set (v := .row 50) (slh_set (v := .d (.iptr (encP p))) (slh_set (v := .d (int k)) (slh_set (v := .d (SK l)) (slh_no _ _) (by rfl) rfl) (by rfl) rfl) (by rfl) rfl) (by rfl) rfl) (by rfl) rfl) (by rfl) rfl) (by show AV.d (.lit (.int .i64 (IntKind.i64.wrap ((i : Int) + 1)))) = _; rw [wrap_succ (by omega)]; rfl) rfl) (hlh_set (hlh_no _ _) (congrArg (fun z => some (Ent.row 169 4 z)) (by rw [boundX_yes hx (by rw [g1]; exact g2), List.map_append, hex]; rfl)) rfl), by show b.length - (i + 1) < b.length - i; omega⟩
      · skip
        have g2 : decide (x.el < k) = false := h3
        refine CW_skip ?_
        refine CW_region ?_
        refine OW_run' hE.ok 2 rfl ?_
        refine OW_end rfl ?_
        exact ⟨⟨i + 1, by omega⟩, LE_sh (slh_set (v := .d (int ((i + 1 : Nat) : Int))) (slh_set (v := .d (int ((b.length : Nat) : Int))) (slh_set (v := .d (SBd b)) (slh_set (v := .row 50) (slh_set (v := .d (.iptr (encP p))) (slh_set (v := .d (int k)) (slh_set (v := .d (SK l)) (slh_no _ _) (by rfl) rfl) (by rfl) rfl) (by rfl) rfl) (by rfl) rfl) (by rfl) rfl) (by rfl) rfl) (by show AV.d (.lit (.int .i64 (IntKind.i64.wrap ((i : Int) + 1)))) = _; rw [wrap_succ (by omega)]; rfl) rfl) (hlh_set (hlh_no _ _) (congrArg (fun z => some (Ent.row 169 4 z)) (by rw [boundX_no hx (by rw [g1]; exact g2)])) rfl), by show b.length - (i + 1) < b.length - i; omega⟩
    · skip
      have g1 : (atK l x.at_).2 = false := h2
      refine OW_run' hE.ok 5 rfl ?_
      refine OW_end rfl ?_
      refine CW_false rfl ?_
      refine CW_skip ?_
      refine CW_region ?_
      refine OW_run' hE.ok 2 rfl ?_
      refine OW_end rfl ?_
      exact ⟨⟨i + 1, by omega⟩, LE_sh (slh_set (v := .d (int ((i + 1 : Nat) : Int))) (slh_set (v := .d (int ((b.length : Nat) : Int))) (slh_set (v := .d (SBd b)) (slh_set (v := .row 50) (slh_set (v := .d (.iptr (encP p))) (slh_set (v := .d (int k)) (slh_set (v := .d (SK l)) (slh_no _ _) (by rfl) rfl) (by rfl) rfl) (by rfl) rfl) (by rfl) rfl) (by rfl) rfl) (by rfl) rfl) (by show AV.d (.lit (.int .i64 (IntKind.i64.wrap ((i : Int) + 1)))) = _; rw [wrap_succ (by omega)]; rfl) rfl) (hlh_set (hlh_no _ _) (congrArg (fun z => some (Ent.row 169 4 z)) (by rw [boundX_no hx (by rw [g1]; rfl)])) rfl), by show b.length - (i + 1) < b.length - i; omega⟩
  · skip
    have hge : b.length ≤ i := by have := h1; simp at this; omega
    refine CW_exit ?_
    show CW _ _ _ _
    refine CW_seq ?_
    refine CW_region ?_
    refine OW_run' hE.ok 2 rfl ?_
    refine OW_end rfl ?_
    have hh : b.take i = b := List.take_of_length_le hge
    exact CW_ret ⟨.inr rfl, rfl, 50, rfl, by show some (Ent.row _ _ _) = _; rw [hh]⟩
end Go.Proofs.Ytojnicnbmgiplaa
namespace Go.Proofs.Ytojnicnbmgiplaa
open Go Go.AL
set_option linter.unusedVariables false
set_option linter.unusedSimpArgs false
set_option maxHeartbeats 4000000
theorem alikeOk (s : List Ty) (p : Pat) (a b : Ev) : Does Try.prog 99 [argS s, argP p, argE a, argE b] noHeap (.d (boo (alikeX s p a b))) := by
  refine Does_of T_ok mixed (N := 41) Try.func99 rfl rfl rfl (by rfl) fun F n Z hE hF J => ?_
  refine CW_seq ?_
  refine CW_region ?_
  refine OW_run' hE.ok 5 rfl ?_
  refine OW_end rfl ?_
  refine CW_seq ?_
  refine CW_seq ?_
  refine CW_region ?_
  refine OW_run' hE.ok 3 rfl ?_
  refine OW_end rfl ?_
  refine CW_cond _ rfl (fun h1 => ?_) (fun h1 => ?_)
  · skip
    have g0 : same p.byf nul = true := h1
    refine CW_seq ?_
    refine CW_region ?_
    refine OW_run' hE.ok 1 rfl ?_
    refine OW_end rfl ?_
    refine CW_ret ?_
    refine ⟨.inr rfl, rfl, ⟨_, rfl, rfl, ?_⟩, rfl⟩
    rw [show alikeX s p a b = true by unfold alikeX; rw [g0]; rfl]
    exact AVle.refl _
  · skip
    have g0 : same p.byf nul = false := h1
    refine CW_skip ?_
    refine CW_seq ?_
    refine CW_region ?_
    refine OW_run' hE.ok 4 rfl ?_
    refine OW_call' hE (getOk s a p.byf) rfl rfl rfl rfl rfl rfl rfl ?_
    refine OW_run' hE.ok 3 rfl ?_
    refine OW_alloc' hE 1 rfl rfl rfl rfl rfl rfl rfl ?_
    refine OW_store' hE rfl rfl rfl rfl rfl rfl rfl rfl rfl rfl rfl rfl ?_
    refine OW_run' hE.ok 1 rfl ?_
    refine OW_end rfl ?_
    refine CW_seq ?_
    refine CW_region ?_
    refine OW_run' hE.ok 4 rfl ?_
    refine OW_call' hE (getOk s b p.byf) rfl rfl rfl rfl rfl rfl rfl ?_
    refine OW_run' hE.ok 3 rfl ?_
    refine OW_alloc' hE 2 rfl rfl rfl rfl rfl rfl rfl ?_
    refine OW_store' hE rfl rfl rfl rfl rfl rfl rfl rfl rfl rfl rfl rfl ?_
    refine OW_run' hE.ok 1 rfl ?_
    refine OW_end rfl ?_
    refine CW_seq ?_
    refine CW_region ?_
    refine OW_run' hE.ok 2 rfl ?_
    refine OW_split' 33 rfl (fun h2 => ?_) (fun h2 => ?_)
    · skip
      have g1 : (getV s a p.byf).2 = true := h2
      refine OW_run' hE.ok 3 rfl ?_
      refine OW_split' 36 rfl (fun h3 => ?_) (fun h3 => ?_)
      · skip
        have g2 : (getV s b p.byf).2 = true := h3
        refine OW_run' hE.ok 2 rfl ?_
        refine OW_loc' hE (loc_eql rfl rfl rfl (r := sameV (getV s a p.byf).1 (getV s b p.byf).1) (eqLaw_flat T_ok (t := 61) rfl (by decide +kernel) rfl (X := encV (getV s a p.byf).1) (Y := encV (getV s b p.byf).1) rfl rfl rfl)) rfl rfl rfl ?_
        refine OW_run' hE.ok 2 rfl ?_
        refine OW_end rfl ?_
        refine CW_ret ?_
        refine ⟨.inr rfl, rfl, ⟨_, rfl, rfl, ?_⟩, rfl⟩
        rw [show alikeX s p a b = sameV (getV s a p.byf).1 (getV s b p.byf).1 by unfold alikeX; rw [g0, g1, g2]; rfl]
        exact AVle.refl _
      · skip
        have g2 : (getV s b p.byf).2 = false := h3
        refine OW_run' hE.ok 5 rfl ?_
        refine OW_end rfl ?_
        refine CW_ret ?_
        refine ⟨.inr rfl, rfl, ⟨_, rfl, rfl, ?_⟩, rfl⟩
        rw [show alikeX s p a b = false by unfold alikeX; rw [g0, g1, g2]; rfl]
        exact AVle.refl _
    · skip
      have g1 : (getV s a p.byf).2 = false := h2
      refine OW_run' hE.ok 8 rfl ?_
      refine OW_end rfl ?_
      refine CW_ret ?_
      refine ⟨.inr rfl, rfl, ⟨_, rfl, rfl, ?_⟩, rfl⟩
      rw [show alikeX s p a b = false by unfold alikeX; rw [g0, g1]; rfl]
      exact AVle.refl _

theorem indexS (l : List ByteArray) (s : ByteArray) : Does Try.prog 147 [.d (.sl 1 16 (l.map encB)), .d (str s)] noHeap (.d (int (idx (fun x => same x s) l))) := by
  refine Does_of T_ok mixed (N := 19) Try.func147 rfl rfl rfl (by rfl) fun F n Z hE hF J => ?_
  refine CW_know (know_sl (d := 0) rfl) fun hlen => ?_
  rw [List.length_map] at hlen
  refine CW_seq ?_
  refine CW_region ?_
  refine OW_run' hE.ok 1 rfl ?_
  refine OW_end rfl ?_
  refine CW_seq ?_
  refine CW_seq ?_
  refine CW_region ?_
  refine OW_run' hE.ok 3 rfl ?_
  refine OW_end rfl ?_
  refine CW_block ?_
  refine CW_loop (σ := {i : Nat // i ≤ l.length ∧ ∀ j a, j < i → l[j]? = some a → same a s = false}) (fun i => ⟨J, (sset (sset (sset (sset noSlots 0 (.d (.sl 1 16 (l.map encB)))) 1 (.d (str s))) 7 (.d (int ((l.length : Nat) : Int)))) 8 (.d (int ((i.1 : Nat) : Int)))), noHeap⟩) (fun i => l.length - i.1) ⟨0, Nat.zero_le _, by omega⟩ (LE_sh (slh_set (slh_set (slh_set (slh_set (slh_no _ _) rfl rfl) rfl rfl) (by show AV.d (.lit (.int .i64 ((l.map encB).length : Int))) = _; rw [List.length_map]; rfl) rfl) rfl rfl) (hlh_no _ _)) fun ⟨i, hi, hp⟩ => ?_
  refine CW_seq ?_
  refine CW_region ?_
  refine OW_run' hE.ok 1 rfl ?_
  refine OW_end rfl ?_
  refine CW_seq ?_
  refine CW_cond _ rfl (fun h1 => ?_) (fun h1 => ?_)
  · skip
    have hlt : i < l.length := by have := h1; simp at this; omega
    obtain ⟨a, ha⟩ : ∃ a, l[i]? = some a := ⟨_, List.getElem?_eq_getElem hlt⟩
    refine CW_skip ?_
    refine CW_seq ?_
    refine CW_block ?_
    refine CW_seq ?_
    refine CW_region ?_
    refine OW_run' hE.ok 2 rfl ?_
    refine OW_end rfl ?_
    refine CW_seq ?_
    refine CW_region ?_
    refine OW_run' hE.ok 3 rfl ?_
    refine OW_loc' hE (loc_indexAddr hE rfl rfl rfl rfl rfl (by omega) (x := encB a) (by simp [ha])) rfl rfl rfl ?_
    refine OW_run' hE.ok 2 rfl ?_
    refine OW_end rfl ?_
    refine CW_cond _ rfl (fun h2 => ?_) (fun h2 => ?_)
    · skip
      have h2 : same a s = true := by rw [same_symm]; exact h2
      refine CW_seq ?_
      refine CW_region ?_
      refine OW_run' hE.ok 2 rfl ?_
      refine OW_end rfl ?_
      refine CW_ret ?_
      refine ⟨.inr rfl, rfl, ⟨_, rfl, rfl, ?_⟩, rfl⟩
      rw [idx_some ha h2 hp]
      exact AVle.refl _
    · skip
      have h2 : same a s = false := by rw [same_symm]; exact h2
      refine CW_skip ?_
      refine CW_region ?_
      refine OW_run' hE.ok 2 rfl ?_
      refine OW_end rfl ?_
      refine ⟨⟨i + 1, hlt, fun j b hj hb => ?_⟩, LE_sh (slh_set (slh_set (slh_set (slh_set (slh_no _ _) rfl rfl) rfl rfl) rfl rfl) (by show AV.d (.lit (.int .i64 (IntKind.i64.wrap ((i : Int) + 1)))) = _; rw [wrap_succ (by omega)]; rfl) rfl) (hlh_no _ _), by show l.length - (i + 1) < l.length - i; omega⟩
      by_cases hji : j = i
      · subst hji; rw [ha] at hb; cases hb; exact h2
      · exact hp j b (by omega) hb
  · skip
    have hge : ¬ i < l.length := by have := h1; simp at this; omega
    refine CW_exit ?_
    show CW _ _ _ _
    refine CW_seq ?_
    refine CW_region ?_
    refine OW_run' hE.ok 1 rfl ?_
    refine OW_end rfl ?_
    refine CW_ret ?_
    refine ⟨.inr rfl, rfl, ⟨_, rfl, rfl, ?_⟩, rfl⟩
    rw [idx_none (fun j b hj => hp j b (by omega))]
    exact AVle.refl _

theorem hasOk (l : List ByteArray) (s : ByteArray) : Does Try.prog 118 [.d (.sl 1 16 (l.map encB)), .d (str s)] noHeap (.d (boo (l.any fun x => same x s))) := by
  refine Does_of T_ok mixed (N := 9) Try.func118 rfl rfl rfl (by rfl) fun F n Z hE hF J => ?_
  refine CW_seq ?_
  refine CW_region ?_
  refine OW_run' hE.ok 1 rfl ?_
  refine OW_end rfl ?_
  refine CW_seq ?_
  refine CW_region ?_
  refine OW_run' hE.ok 2 rfl ?_
  refine OW_call' hE (indexS l s) rfl rfl rfl rfl rfl rfl rfl ?_
  refine OW_run' hE.ok 2 rfl ?_
  refine OW_end rfl ?_
  refine CW_ret ?_
  refine ⟨.inr rfl, rfl, ⟨_, rfl, rfl, ?_⟩, rfl⟩
  exact AVle.of (congrArg (fun b => AV.d (boo b)) (idx_any _ l))
end Go.Proofs.Ytojnicnbmgiplaa
namespace Go.Proofs.Ytojnicnbmgiplaa
open Go Go.AL
set_option linter.unusedVariables false
set_option linter.unusedSimpArgs false
set_option maxHeartbeats 4000000
theorem takesOk (s : List Ty) (p : Pat) (l : List Kp) (b : List Bd) (k : Nat) (e : Ev) (hr : Rises l) (hf : Fits p b) (hb : b.length ≤ 999) (hk : k < p.els.length) : Does Try.prog 98 [argS s, argP p, .d (SK l), .d (SBd b), .d (int ((k : Nat) : Int)), argE e] noHeap (.d (boo (takesX s p l b k e))) := by
  refine Does_of T_ok mixed (N := 40) Try.func98 rfl rfl rfl (by rfl) fun F n Z hE hF J => ?_
  obtain ⟨el, hel⟩ : ∃ el, p.els[k]? = some el := ⟨_, List.getElem?_eq_getElem hk⟩
  have hex : elX p (k : Int) = el := by unfold elX; rw [List.getD_eq_getElem?_getD, Int.toNat_natCast, hel]; rfl
  obtain ⟨al, tys, pl, ng, o1, v1, c1, f1, k1, rfl⟩ := El.shape el
  refine CW_seq ?_
  refine CW_region ?_
  refine OW_run' hE.ok 4 rfl ?_
  refine OW_end rfl ?_
  refine CW_seq ?_
  refine CW_region ?_
  refine OW_run' hE.ok 3 rfl ?_
  refine OW_loc' hE (loc_indexAddr hE rfl rfl rfl rfl rfl (by omega) (x := encL ⟨al, tys, pl, ng, .mk o1 v1 c1 f1 k1⟩) (by simp [hel])) rfl rfl rfl ?_
  refine OW_run' hE.ok 1 rfl ?_
  refine OW_alloc' hE 1 rfl rfl rfl rfl rfl rfl rfl ?_
  refine OW_store' hE rfl rfl rfl rfl rfl rfl rfl rfl rfl rfl rfl rfl ?_
  refine OW.le (LE_freezeBox 1 (ds := encL ⟨al, tys, pl, ng, .mk o1 v1 c1 f1 k1⟩) rfl rfl) ?_
  refine OW_end rfl ?_
  refine CW_seq ?_
  refine CW_seq ?_
  refine CW.le (show LE _ _ ⟨J, (sset (sset (sset (sset (sset (sset (sset noSlots 2 (.d (SK l))) 3 (.d (SBd b))) 4 (.d (int ((k : Nat) : Int)))) 6 (.d (.iptr [encS s]))) 7 (.d (.iptr (encP p)))) 11 (.d (.iptr (encE e)))) 13 (.d (.iptr (encL ⟨al, tys, pl, ng, .mk o1 v1 c1 f1 k1⟩)))), noHeap⟩ from LE_sh (slh_set (v := .d (.iptr (encL ⟨al, tys, pl, ng, .mk o1 v1 c1 f1 k1⟩))) (slh_set (v := .d (.iptr (encE e))) (slh_set (v := .d (.iptr (encP p))) (slh_set (v := .d (.iptr [encS s])) (slh_set (v := .d (int ((k : Nat) : Int))) (slh_set (v := .d (SBd b)) (slh_set (v := .d (SK l)) (slh_no _ _) (by rfl) rfl) (by rfl) rfl) (by rfl) rfl) (by rfl) rfl) (by rfl) rfl) (by rfl) rfl) (by rfl) rfl) (hlh_no _ _)) ?_
  refine CW_region ?_
  refine OW_run' hE.ok 4 rfl ?_
  refine OW_call' hE (hasOk tys e.ty) rfl rfl rfl rfl rfl rfl rfl ?_
  refine OW_run' hE.ok 1 rfl ?_
  refine OW_end rfl ?_
  refine CW_cond _ rfl (fun h1 => ?_) (fun h1 => ?_)
  · skip
    have g0 : (!(tys.any fun x => same x e.ty)) = true := h1
    refine CW_seq ?_
    refine CW_region ?_
    refine OW_run' hE.ok 1 rfl ?_
    refine OW_end rfl ?_
    refine CW_ret ?_
    refine ⟨.inr rfl, rfl, ⟨_, rfl, rfl, ?_⟩, rfl⟩
    rw [show takesX s p l b k e = false by unfold takesX hasTy; rw [hex]; simp only at g0 ⊢; rw [show (tys.any fun x => same x e.ty) = false by simpa using g0]; rfl]
    exact AVle.refl _
  · skip
    have g0 : (!(tys.any fun x => same x e.ty)) = false := h1
    refine CW_skip ?_
    refine CW_seq ?_
    have hfew := boundX_len p l k b
    have hH : Does Try.prog 119 (List.map (fz 60 (.sl 4 64 ((boundX p l k b).map encBi ++ [encBi ⟨al, e⟩]))) [argS s, argX (.mk o1 v1 c1 f1 k1), .row 60]) noHeap (.d (boo (holdsX s (boundX p l k b ++ [⟨al, e⟩]) (.mk o1 v1 c1 f1 k1)))) := by have h0 := holdsOk s (.mk o1 v1 c1 f1 k1) (boundX p l k b ++ [⟨al, e⟩]); rw [List.map_append] at h0; exact h0
    have ndW : Tgl.qs (⟨[], ⟨7, 13, 60, 169, 4, (boundX p l k b).map encBi, [encBi ⟨al, e⟩]⟩, 14⟩ : Tgl) = [7, 13, 14] := rfl
    have nd : (Tgl.qs (⟨[], ⟨7, 13, 60, 169, 4, (boundX p l k b).map encBi, [encBi ⟨al, e⟩]⟩, 14⟩ : Tgl)).Nodup := by rw [ndW]; decide
    have nk60 : ∀ j, nokey 60 ((sset (sset (sset (sset (sset (sset (sset noSlots 2 (.d (SK l))) 3 (.d (SBd b))) 4 (.d (int ((k : Nat) : Int)))) 6 (.d (.iptr [encS s]))) 7 (.d (.iptr (encP p)))) 11 (.d (.iptr (encE e)))) 13 (.d (.iptr (encL ⟨al, tys, pl, ng, .mk o1 v1 c1 f1 k1⟩)))) j) = true := by repeat (first | exact nokeyS_no _ | refine nokeyS_set ?_ rfl)
    refine CW.le (show LE _ _ ⟨J, (sset (sset (sset (sset (sset (sset (sset noSlots 2 (.d (SK l))) 3 (.d (SBd b))) 4 (.d (int ((k : Nat) : Int)))) 6 (.d (.iptr [encS s]))) 7 (.d (.iptr (encP p)))) 11 (.d (.iptr (encE e)))) 13 (.d (.iptr (encL ⟨al, tys, pl, ng, .mk o1 v1 c1 f1 k1⟩)))), noHeap⟩ from LE_sh (slh_set (v := .d (.iptr (encL ⟨al, tys, pl, ng, .mk o1 v1 c1 f1 k1⟩))) (slh_set (v := .d (.iptr (encE e))) (slh_set (v := .d (.iptr (encP p))) (slh_set (v := .d (.iptr [encS s])) (slh_set (v := .d (int ((k : Nat) : Int))) (slh_set (v := .d (SBd b)) (slh_set (v := .d (SK l)) (slh_no _ _) (by rfl) rfl) (by rfl) rfl) (by rfl) rfl) (by rfl) rfl) (by rfl) rfl) (by rfl) rfl) (by rfl) rfl) (hlh_no _ _)) ?_
    refine CW_drawnY hE 15 ⟨[7, 13, 14], Tgl.H (⟨[], ⟨7, 13, 60, 169, 4, (boundX p l k b).map encBi, [encBi ⟨al, e⟩]⟩, 14⟩ : Tgl), [(13, 60)], [(13, 32)]⟩ (by decide +kernel) (by kernel_rfl) rfl (fun b b' hb => Tgl.dep (hb 7 (by simp)) (hb 13 (by simp))) (fun q k hm _ j _ => by simp at hm; obtain ⟨rfl, rfl⟩ := hm; exact nk60 j) (LE_eq (Tgl.start (t := (⟨[], ⟨7, 13, 60, 169, 4, (boundX p l k b).map encBi, [encBi ⟨al, e⟩]⟩, 14⟩ : Tgl)) rfl).symm) ?_
    refine HY_run hE 7 (h0 := noHeap) (fun _ => noHeap_no) rfl rfl rfl ?_
    refine HY_callRow hE 60 (boundOk p l b k hr hf (by omega)) rfl rfl rfl rfl rfl rfl rfl rfl rfl (fun b hb => (Tgl.new nd hb rfl (by kernel_rfl)).1) (fun b hb => (Tgl.new nd hb rfl (by kernel_rfl)).2) ?_
    refine HY_run hE 3 (h0 := noHeap) (fun _ => noHeap_no) rfl rfl rfl ?_
    refine HY_loc2 hE rfl rfl rfl (fun b hb => loc_build hE rfl rfl) rfl rfl rfl ?_
    refine HY_loc2 hE rfl rfl rfl (fun b hb => loc_lits hE (t := 166) (len := 1) (parts := #[(0, .tmp 36)]) rfl rfl rfl rfl rfl rfl rfl rfl (xs := [encBi ⟨al, e⟩]) rfl) rfl rfl rfl ?_
    refine HY_append hE (key := 60) rfl rfl rfl rfl rfl rfl rfl rfl rfl rfl rfl (.inl rfl) (by simp; omega) (by simp; omega) rfl (fun b hb => (Tgl.more nd rfl hb (by kernel_rfl)).1) (fun b hb => (Tgl.more nd rfl hb (by kernel_rfl)).2) ?_
    refine HY_lend hE 60 64 rfl hH rfl rfl rfl rfl rfl rfl rfl rfl rfl (by simp; omega) (fun b hb => (Tgl.lent nd hb (by kernel_rfl)).1) (fun b hb => (Tgl.lent nd hb (by kernel_rfl)).2) ?_
    refine HY_end ?_
    refine OW_run' hE.ok 1 rfl ?_
    refine OW_end rfl ?_
    refine CW_ret ?_
    refine ⟨.inr rfl, rfl, ⟨_, rfl, rfl, ?_⟩, rfl⟩
    rw [show takesX s p l b k e = holdsX s (boundX p l k b ++ [⟨al, e⟩]) (.mk o1 v1 c1 f1 k1) by unfold takesX hasTy; rw [hex]; simp only; rw [show (tys.any fun x => same x e.ty) = true by simpa using g0]; rfl]
    exact AVle.refl _
end Go.Proofs.Ytojnicnbmgiplaa
namespace Go.Proofs.Ytojnicnbmgiplaa
open Go Go.AL
set_option linter.unusedVariables false
set_option linter.unusedSimpArgs false
set_option maxHeartbeats 4000000
theorem between1 (ks : List Kp) (u v : Int) : Iter Try.prog 146 [] [.d (.iptr [SK ks]), .d (.iptr [int u]), .d (.iptr [int v])] (ysP (betweenX ks u v)) := by
  refine Iter_of T_ok mixed (N := 30) Try.func146 rfl rfl rfl (by rfl) fun F n Z hE hF l C X hC hX hy => ?_
  refine CW_seq ?_
  refine CW_region ?_
  refine OW_run' hE.ok 3 rfl ?_
  refine OW_end rfl ?_
  refine CW_block ?_
  refine CW_know (know_sl (d := 7) rfl) fun hlen => ?_
  rw [List.length_map] at hlen
  refine CW_loop (σ := {q : Nat // q ≤ ks.length}) (fun q => ⟨C (cntP ks u v q.1), (sset (sset (sset (sset (sset (sset noSlots 0 (.d (.fn (.yield l) [] []))) 2 (.d (.iptr [int u]))) 3 (.d (.iptr [int v]))) 7 (.d (SK ks))) 8 (.d (int ((ks.length : Nat) : Int)))) 9 (.d (int ((q.1 : Nat) : Int)))), noHeap⟩) (fun q => ks.length - q.1) ⟨0, Nat.zero_le _⟩ (LE_sh (slh_set (slh_set (slh_set (slh_set (slh_set (slh_set (slh_no _ _) rfl rfl) rfl rfl) rfl rfl) rfl rfl) (by show AV.d (.lit (.int .i64 ((ks.map encK).length : Int))) = _; rw [List.length_map]; rfl) rfl) rfl rfl) (hlh_no _ _)) fun ⟨q, hq⟩ => ?_
  refine CW_seq ?_
  refine CW_region ?_
  refine OW_run' hE.ok 1 rfl ?_
  refine OW_end rfl ?_
  refine CW_seq ?_
  refine CW_cond _ rfl (fun h1 => ?_) (fun h1 => ?_)
  · skip
    have hlt : q < ks.length := by have := h1; simp at this; omega
    obtain ⟨k, hk⟩ : ∃ k, ks[q]? = some k := ⟨_, List.getElem?_eq_getElem hlt⟩
    refine CW_skip ?_
    refine CW_seq ?_
    refine CW_block ?_
    refine CW_seq ?_
    refine CW_region ?_
    refine OW_loc' hE (loc_indexAddr hE rfl rfl rfl rfl rfl (by omega) (x := encK k) (by simp [hk])) rfl rfl rfl ?_
    refine OW_run' hE.ok 1 rfl ?_
    refine OW_alloc' hE 1 rfl rfl rfl rfl rfl rfl rfl ?_
    refine OW_store' hE rfl rfl rfl rfl rfl rfl rfl rfl rfl rfl rfl rfl ?_
    refine OW_end rfl ?_
    refine CW_seq ?_
    refine CW_region ?_
    refine OW_run' hE.ok 5 rfl ?_
    refine OW_split' 17 rfl (fun h2 => ?_) (fun h2 => ?_)
    · skip
      have g1 : decide (k.at_ > u) = true := h2
      refine OW_run' hE.ok 6 rfl ?_
      refine OW_split' 23 rfl (fun h3 => ?_) (fun h3 => ?_)
      · skip
        have g2 : decide (k.at_ < v) = true := h3
        refine OW_run' hE.ok 2 rfl ?_
        refine OW_yield' hE hy hC hX (Wrap.id _) (cntP ks u v q) rfl rfl rfl rfl rfl rfl (bet_get hk g1 g2) rfl rfl rfl ?_ ?_
        · skip
          refine OW_run' hE.ok 2 rfl ?_
          refine OW_end rfl ?_
          refine CW_false rfl ?_
          refine CW_skip ?_
          refine CW_region ?_
          refine OW_run' hE.ok 2 rfl ?_
          refine OW_end rfl ?_
          refine ⟨⟨q + 1, by omega⟩, ?_, by show ks.length - (q + 1) < ks.length - q; omega⟩
          show LE _ _ ⟨C (cntP ks u v (q + 1)), _, _⟩
          rw [cnt_t hk g1 g2]
          exact LE_sh (slh_set (v := .d (int ((q + 1 : Nat) : Int))) (slh_set (v := .d (int ((ks.length : Nat) : Int))) (slh_set (v := .d (SK ks)) (slh_set (v := .d (.iptr [int v])) (slh_set (v := .d (.iptr [int u])) (slh_set (v := .d (.fn (.yield l) [] [])) (slh_no _ _) (by rfl) rfl) (by rfl) rfl) (by rfl) rfl) (by rfl) rfl) (by rfl) rfl) (by show AV.d (.lit (.int .i64 (IntKind.i64.wrap ((q : Int) + 1)))) = _; rw [wrap_succ (by omega)]; rfl) rfl) (hlh_no _ _)
        · skip
          refine OW_run' hE.ok 2 rfl ?_
          refine OW_end rfl ?_
          refine CW_true rfl ?_
          exact CW_ret ⟨.inr rfl, .inr rfl, _, rfl⟩
      · skip
        have g2 : decide (k.at_ < v) = false := h3
        refine OW_run' hE.ok 5 rfl ?_
        refine OW_end rfl ?_
        refine CW_false rfl ?_
        refine CW_skip ?_
        refine CW_region ?_
        refine OW_run' hE.ok 2 rfl ?_
        refine OW_end rfl ?_
        refine ⟨⟨q + 1, by omega⟩, ?_, by show ks.length - (q + 1) < ks.length - q; omega⟩
        show LE _ _ ⟨C (cntP ks u v (q + 1)), _, _⟩
        rw [cnt_f hk (by rw [g1, g2]; rfl)]
        exact LE_sh (slh_set (v := .d (int ((q + 1 : Nat) : Int))) (slh_set (v := .d (int ((ks.length : Nat) : Int))) (slh_set (v := .d (SK ks)) (slh_set (v := .d (.iptr [int v])) (slh_set (v := .d (.iptr [int u])) (slh_set (v := .d (.fn (.yield l) [] [])) (slh_no _ _) (by rfl) rfl) (by rfl) rfl) (by rfl) rfl) (by rfl) rfl) (by rfl) rfl) (by show AV.d (.lit (.int .i64 (IntKind.i64.wrap ((q : Int) + 1)))) = _; rw [wrap_succ (by omega)]; rfl) rfl) (hlh_no _ _)
    · skip
      have g1 : decide (k.at_ > u) = false := h2
      refine OW_run' hE.ok 11 rfl ?_
      refine OW_end rfl ?_
      refine CW_false rfl ?_
      refine CW_skip ?_
      refine CW_region ?_
      refine OW_run' hE.ok 2 rfl ?_
      refine OW_end rfl ?_
      refine ⟨⟨q + 1, by omega⟩, ?_, by show ks.length - (q + 1) < ks.length - q; omega⟩
      show LE _ _ ⟨C (cntP ks u v (q + 1)), _, _⟩
      rw [cnt_f hk (by rw [g1]; rfl)]
      exact LE_sh (slh_set (v := .d (int ((q + 1 : Nat) : Int))) (slh_set (v := .d (int ((ks.length : Nat) : Int))) (slh_set (v := .d (SK ks)) (slh_set (v := .d (.iptr [int v])) (slh_set (v := .d (.iptr [int u])) (slh_set (v := .d (.fn (.yield l) [] [])) (slh_no _ _) (by rfl) rfl) (by rfl) rfl) (by rfl) rfl) (by rfl) rfl) (by rfl) rfl) (by show AV.d (.lit (.int .i64 (IntKind.i64.wrap ((q : Int) + 1)))) = _; rw [wrap_succ (by omega)]; rfl) rfl) (hlh_no _ _)
  · skip
    have hge : ks.length ≤ q := by have := h1; simp at this; omega
    refine CW_exit ?_
    have hN := cnt_end (l := ks) (u := u) (v := v) hge
    show RetI _ _ _ _ .normal _
    exact ⟨.inl rfl, .inl (by show C _ = _; rw [← hN]), _, rfl⟩

theorem betweenOk (ks : List Kp) (u v : Int) : Does Try.prog 115 [.d (SK ks), .d (int u), .d (int v)] noHeap (.d (.fn (.func 146) [] [.iptr [SK ks], .iptr [int u], .iptr [int v]])) := by
  refine Does_of T_ok mixed (N := 8) Try.func115 rfl rfl rfl (by rfl) fun F n Z hE hF J => ?_
  refine CW_seq ?_
  refine CW_region ?_
  refine OW_run' hE.ok 4 rfl ?_
  refine OW_end rfl ?_
  refine CW_seq ?_
  refine CW_region ?_
  refine OW_run' hE.ok 2 rfl ?_
  refine OW_end rfl ?_
  refine CW_ret ?_
  refine ⟨.inr rfl, rfl, ⟨_, rfl, rfl, ?_⟩, rfl⟩
  exact AVle.refl _
end Go.Proofs.Ytojnicnbmgiplaa
namespace Go.Proofs.Ytojnicnbmgiplaa
open Go Go.AL
set_option linter.unusedVariables false
set_option linter.unusedSimpArgs false
set_option maxHeartbeats 4000000
theorem guardedOk (s : List Ty) (p : Pat) (l : List Kp) (b : List Bd) (x : Bd) (hr : Rises l) (hf : Fits p b) (hb : b.length ≤ 999) (hb1 : 0 < b.length) (hx : x.el ≤ (p.els.length : Int)) (hl : p.els.length ≤ 1000) : Does Try.prog 100 [argS s, argP p, .d (SK l), .d (SBd b), argBd x] noHeap (.d (boo (guardX s p l b x))) := by
  refine Does_of T_ok mixed (N := 64) Try.func100 rfl rfl rfl (by rfl) fun F n Z hE hF J => ?_
  obtain ⟨lst, hlst⟩ : ∃ q, b[b.length - 1]? = some q := ⟨_, List.getElem?_eq_getElem (by omega)⟩
  obtain ⟨b0, hb0⟩ : ∃ q, b[0]? = some q := ⟨_, List.getElem?_eq_getElem hb1⟩
  have hla := lastBd_at hlst
  obtain ⟨m, hm, hmb⟩ : ∃ m : Nat, lst.el = (m : Int) ∧ m < p.els.length := by have := hf lst (List.mem_of_getElem? hlst); exact ⟨lst.el.toNat, by omega, by omega⟩
  have hlm : (lastBd b).el = (m : Int) := by rw [hla]; exact hm
  have hat0 := atOk l b0.at_ hr
  obtain ⟨A0, hA0⟩ : ∃ A, atK l b0.at_ = A := ⟨_, rfl⟩
  rw [hA0] at hat0
  have hfe : firstE l b = A0.1 := by rw [firstE_at hb0, hA0]
  have hbe : (b.map encBd)[(0 : Int).toNat]? = some (encBd b0) := by rw [List.getElem?_map]; show (b[0]?).map encBd = _; rw [hb0]; rfl
  refine CW_seq ?_
  refine CW_region ?_
  refine OW_run' hE.ok 5 rfl ?_
  refine OW_alloc' hE 1 rfl rfl rfl rfl rfl rfl rfl ?_
  refine OW_end rfl ?_
  refine CW_seq ?_
  refine CW_region ?_
  refine OW_run' hE.ok 4 rfl ?_
  refine OW_as' 19 (.d (int ((b.length - 1 : Nat) : Int))) (by show AV.d (.lit (.int .i64 (IntKind.i64.wrap (((b.map encBd).length : Int) - 1)))) = _; rw [List.length_map, show ((b.length : Int) - 1) = ((b.length - 1 : Nat) : Int) by omega, wrapN (by omega)]; rfl) ?_
  refine OW_loc' hE (loc_indexAddr hE rfl rfl rfl rfl rfl (by omega) (x := encBd lst) (by rw [Int.toNat_natCast, List.getElem?_map, hlst]; rfl)) rfl rfl rfl ?_
  refine OW_run' hE.ok 1 rfl ?_
  refine OW_alloc' hE 2 rfl rfl rfl rfl rfl rfl rfl ?_
  refine OW_store' hE rfl rfl rfl rfl rfl rfl rfl rfl rfl rfl rfl rfl ?_
  refine OW.le (LE_freezeBox 2 (ds := encBd lst) rfl rfl) ?_
  refine OW_end rfl ?_
  refine CW_seq ?_
  refine CW_drawn2 hE 11 9 10 3 (by decide +kernel) (V := (encE A0.1).map .d) rfl rfl rfl rfl rfl rfl rfl rfl rfl (by decide +kernel) rfl rfl rfl rfl rfl ?_
  refine H2_run hE 2 rfl rfl rfl rfl rfl ?_
  refine H2_loc hE (fun b => loc_indexAddr hE rfl rfl rfl rfl rfl (by omega) (x := encBd b0) hbe) rfl rfl rfl rfl rfl ?_
  refine H2_run hE 2 rfl rfl rfl rfl rfl ?_
  refine H2_call hE (hat0) rfl rfl rfl rfl rfl rfl rfl rfl rfl ?_
  refine H2_run hE 3 rfl rfl rfl rfl rfl ?_
  refine H2_alloc rfl rfl rfl ?_
  refine H2_store rfl rfl rfl rfl rfl rfl rfl rfl ?_
  refine H2_end ?_
  refine OW_run' hE.ok 1 rfl ?_
  refine OW_end rfl ?_
  refine CW_seq ?_
  refine CW_seq ?_
  refine CW.le (LE_freezeBox 3 (ds := encE A0.1) rfl rfl) ?_
  refine CW.le (show LE _ _ ⟨J, (sset (sset (sset (sset (sset (sset (sset (sset noSlots 5 (.d (.iptr [encS s]))) 6 (.d (.iptr (encP p)))) 7 (.d (.iptr [SK l]))) 8 (.d (.iptr [SBd b]))) 9 (.d (.iptr (encBd x)))) 10 (.ptr 1 0)) 11 (.d (.iptr (encBd lst)))) 12 (.d (.iptr (encE A0.1)))), (hset noHeap 1 (some (.box 4 [.d (boo false)])))⟩ from LE_sh (slh_set (v := .d (.iptr (encE A0.1))) (slh_set (v := .d (.iptr (encBd lst))) (slh_set (v := .ptr 1 0) (slh_set (v := .d (.iptr (encBd x))) (slh_set (v := .d (.iptr [SBd b])) (slh_set (v := .d (.iptr [SK l])) (slh_set (v := .d (.iptr (encP p))) (slh_set (v := .d (.iptr [encS s])) (slh_no _ _) (by rfl) rfl) (by rfl) rfl) (by rfl) rfl) (by rfl) rfl) (by rfl) rfl) (by rfl) rfl) (by rfl) rfl) (by rfl) rfl) (hlh_set (hlh_no _ _) rfl rfl)) ?_
  refine CW_region ?_
  refine OW_run' hE.ok 3 rfl ?_
  refine OW_alloc' hE 4 rfl rfl rfl rfl rfl rfl rfl ?_
  refine OW_store' hE rfl rfl rfl rfl rfl rfl rfl rfl rfl rfl rfl rfl ?_
  refine OW_end rfl ?_
  refine CW_block ?_
  refine CW_loop (σ := {i : Nat // i ≤ p.els.length ∧ ∀ j, j < i → metX s p l b x.at_ ((m + 1 + j : Nat) : Int) = false}) (fun i => ⟨J, (sset (sset (sset (sset (sset (sset (sset (sset (sset noSlots 5 (.d (.iptr [encS s]))) 6 (.d (.iptr (encP p)))) 7 (.d (.iptr [SK l]))) 8 (.d (.iptr [SBd b]))) 9 (.d (.iptr (encBd x)))) 10 (.ptr 1 0)) 11 (.d (.iptr (encBd lst)))) 12 (.d (.iptr (encE A0.1)))) 14 (.ptr 4 0)), (hset (hset noHeap 1 (some (.box 4 [.d (boo false)]))) 4 (some (.box 3 [.d (int ((m + 1 + i.1 : Nat) : Int))])))⟩) (fun i => p.els.length - i.1) ⟨0, Nat.zero_le _, by omega⟩ (LE_sh (slh_set (slh_set (slh_set (slh_set (slh_set (slh_set (slh_set (slh_set (slh_set (slh_no _ _) rfl rfl) rfl rfl) rfl rfl) rfl rfl) rfl rfl) rfl rfl) rfl rfl) rfl rfl) rfl rfl) (hlh_set (hlh_set (hlh_no _ _) rfl rfl) (congrArg (fun z => some (Ent.box 3 [z])) (show AV.d (.lit (.int .i64 (IntKind.i64.wrap (lst.el + 1)))) = AV.d (int ((m + 1 + 0 : Nat) : Int)) by rw [hm, show ((m : Int) + 1) = ((m + 1 + 0 : Nat) : Int) by omega, wrapN (by omega)]; rfl)) rfl)) fun ⟨i, hi, hn⟩ => ?_
  refine CW_seq ?_
  refine CW_seq ?_
  refine CW_region ?_
  refine OW_run' hE.ok 4 rfl ?_
  refine OW_end rfl ?_
  refine CW_cond _ rfl (fun h1 => ?_) (fun h1 => ?_)
  · skip
    have hlt : ((m + 1 + i : Nat) : Int) < x.el := by have := h1; simpa using this
    refine CW_skip ?_
    refine CW_seq ?_
    refine CW_block ?_
    refine CW_seq ?_
    refine CW_region ?_
    refine OW_run' hE.ok 5 rfl ?_
    refine OW_call' hE (betweenOk l lst.at_ x.at_) rfl rfl rfl rfl rfl rfl rfl ?_
    refine OW_end rfl ?_
    refine CW_block ?_
    refine CW.le (show LE _ _ ⟨J, (sset (sset (sset (sset (sset (sset (sset (sset (sset (sset noSlots 5 (.d (.iptr [encS s]))) 6 (.d (.iptr (encP p)))) 7 (.d (.iptr [SK l]))) 8 (.d (.iptr [SBd b]))) 9 (.d (.iptr (encBd x)))) 10 (.ptr 1 0)) 11 (.d (.iptr (encBd lst)))) 12 (.d (.iptr (encE A0.1)))) 14 (.ptr 4 0)) 45 (.d (.fn (.func 146) [] [.iptr [SK l], .iptr [int lst.at_], .iptr [int x.at_]]))), (hset (hset noHeap 1 (some (.box 4 [.d (boo false)]))) 4 (some (.box 3 [.d (int ((m + 1 + i : Nat) : Int))])))⟩ from LE_sh (slh_set (v := .d (.fn (.func 146) [] [.iptr [SK l], .iptr [int lst.at_], .iptr [int x.at_]])) (slh_set (v := .ptr 4 0) (slh_set (v := .d (.iptr (encE A0.1))) (slh_set (v := .d (.iptr (encBd lst))) (slh_set (v := .ptr 1 0) (slh_set (v := .d (.iptr (encBd x))) (slh_set (v := .d (.iptr [SBd b])) (slh_set (v := .d (.iptr [SK l])) (slh_set (v := .d (.iptr (encP p))) (slh_set (v := .d (.iptr [encS s])) (slh_no _ _) (by rfl) rfl) (by rfl) rfl) (by rfl) rfl) (by rfl) rfl) (by rfl) rfl) (by rfl) rfl) (by rfl) rfl) (by rfl) rfl) (by rfl) rfl) (by rfl) rfl) (hlh_set (hlh_set (hlh_no _ _) rfl rfl) rfl rfl)) ?_
    refine CW_rangeH hE hF (between1 l lst.at_ x.at_) rfl rfl rfl (ysP_kf _) rfl 9 (fun _ => (hset (hset noHeap 1 (some (.box 4 [.d (boo false)]))) 4 (some (.box 3 [.d (int ((m + 1 + i : Nat) : Int))])))) (fun q => ∀ j k, j < q → (betweenX l lst.at_ x.at_)[j]? = some k → meetX s p l b ((m + 1 + i : Nat) : Int) k = false) rfl (fun _ => rfl) (fun j k hj => absurd hj (Nat.not_lt_zero j)) (fun F' n' Z' Br Bb hE hB vs q args hargs hp => ?_) (fun hp vs => ?_)
    · skip
      obtain ⟨k, hk, rfl⟩ := ysP_of hargs
      refine CW_region ?_
      refine OW_alloc' hE 6 rfl rfl rfl rfl rfl rfl rfl ?_
      refine OW_store' hE rfl rfl rfl rfl rfl rfl rfl rfl rfl rfl rfl rfl ?_
      refine OW_end rfl ?_
      refine ⟨rfl, rfl, ?_⟩
      refine CW_block ?_
      refine CW_seq ?_
      refine CW_region ?_
      refine OW_run' hE.ok 7 rfl ?_
      refine OW_call' hE (takesOk s p l b (m + 1 + i) k.ev hr hf hb (by omega)) rfl rfl rfl rfl rfl rfl rfl ?_
      refine OW_run' hE.ok 1 rfl ?_
      refine OW_split' 55 rfl (fun h2 => ?_) (fun h2 => ?_)
      · skip
        have t1 : takesX s p l b ((m + 1 + i : Nat) : Int) k.ev = true := h2
        refine OW_run' hE.ok 5 rfl ?_
        refine OW_call' hE (alikeOk s p A0.1 k.ev) rfl rfl rfl rfl rfl rfl rfl ?_
        refine OW_run' hE.ok 1 rfl ?_
        refine OW_end rfl ?_
        refine CW_cond _ rfl (fun h3 => ?_) (fun h3 => ?_)
        · skip
          have t2 : alikeX s p A0.1 k.ev = true := h3
          refine CW_seq ?_
          refine CW_region ?_
          refine OW_store' hE rfl rfl rfl rfl rfl rfl rfl rfl rfl rfl rfl rfl ?_
          refine OW_end rfl ?_
          refine CW_ret ⟨_, LE.refl _ _, J, _, fun h => h, rfl, rfl, ?_⟩
          refine ⟨.inr rfl, rfl, ⟨_, rfl, rfl, ?_⟩, rfl⟩
          rw [guard_no hlm hlt (met_yes (j := q) (k := k) (by rw [hla]; exact hk) (by unfold meetX; rw [hfe, t1, t2]; rfl))]
          exact AVle.refl _
        · skip
          have t2 : alikeX s p A0.1 k.ev = false := h3
          refine CW_skip ?_
          have hno : meetX s p l b ((m + 1 + i : Nat) : Int) k = false := by unfold meetX; rw [hfe]; first | (rw [t1, t2]; rfl) | (rw [t1]; rfl)
          refine ⟨⟨Bb J, noSlots, (hset (hset (hset noHeap 1 (some (.box 4 [.d (boo false)]))) 4 (some (.box 3 [.d (int ((m + 1 + i : Nat) : Int))]))) 9 (some (.ghost _ vs)))⟩, LE_sh (slh_no _ _) (hlh_set (hlh_set (hlh_set (hlh_no _ _) rfl rfl) rfl rfl) rfl rfl), J, rfl, rfl, rfl, fun j k' hj hk' => ?_⟩
          by_cases hji : j = q
          · subst hji; rw [hk] at hk'; cases hk'; exact hno
          · exact hp j k' (by omega) hk'
      · skip
        have t1 : takesX s p l b ((m + 1 + i : Nat) : Int) k.ev = false := h2
        refine OW_run' hE.ok 7 rfl ?_
        refine OW_end rfl ?_
        refine CW_false rfl ?_
        refine CW_skip ?_
        have hno : meetX s p l b ((m + 1 + i : Nat) : Int) k = false := by unfold meetX; rw [hfe]; first | (rw [t1, t2]; rfl) | (rw [t1]; rfl)
        refine ⟨⟨Bb J, noSlots, (hset (hset (hset noHeap 1 (some (.box 4 [.d (boo false)]))) 4 (some (.box 3 [.d (int ((m + 1 + i : Nat) : Int))]))) 9 (some (.ghost _ vs)))⟩, LE_sh (slh_no _ _) (hlh_set (hlh_set (hlh_set (hlh_no _ _) rfl rfl) rfl rfl) rfl rfl), J, rfl, rfl, rfl, fun j k' hj hk' => ?_⟩
        by_cases hji : j = q
        · subst hji; rw [hk] at hk'; cases hk'; exact hno
        · exact hp j k' (by omega) hk'
    · skip
      refine CW_seq ?_
      refine CW_seq ?_
      refine CW_region ?_
      refine OW_run' hE.ok 1 rfl ?_
      refine OW_end rfl ?_
      refine CW.le (show LE _ _ ⟨J, (sset (sset (sset (sset (sset (sset (sset (sset (sset noSlots 5 (.d (.iptr [encS s]))) 6 (.d (.iptr (encP p)))) 7 (.d (.iptr [SK l]))) 8 (.d (.iptr [SBd b]))) 9 (.d (.iptr (encBd x)))) 10 (.ptr 1 0)) 11 (.d (.iptr (encBd lst)))) 12 (.d (.iptr (encE A0.1)))) 63 (.d (int ((m + 1 + i : Nat) : Int)))), (hset noHeap 1 (some (.box 4 [.d (boo false)])))⟩ from LE_sh (slh_set (v := .d (int ((m + 1 + i : Nat) : Int))) (slh_set (v := .d (.iptr (encE A0.1))) (slh_set (v := .d (.iptr (encBd lst))) (slh_set (v := .ptr 1 0) (slh_set (v := .d (.iptr (encBd x))) (slh_set (v := .d (.iptr [SBd b])) (slh_set (v := .d (.iptr [SK l])) (slh_set (v := .d (.iptr (encP p))) (slh_set (v := .d (.iptr [encS s])) (slh_no _ _) (by rfl) rfl) (by rfl) rfl) (by rfl) rfl) (by rfl) rfl) (by rfl) rfl) (by rfl) rfl) (by rfl) rfl) (by rfl) rfl) (by rfl) rfl) (hlh_set (hlh_no _ _) rfl rfl)) ?_
      refine CW_region ?_
      refine OW_alloc' hE 4 rfl rfl rfl rfl rfl rfl rfl ?_
      refine OW_store' hE rfl rfl rfl rfl rfl rfl rfl rfl rfl rfl rfl rfl ?_
      refine OW_end rfl ?_
      refine CW_region ?_
      refine OW_run' hE.ok 2 rfl ?_
      refine OW_store' hE rfl rfl rfl rfl rfl rfl rfl rfl rfl rfl rfl rfl ?_
      refine OW_end rfl ?_
      refine ⟨⟨i + 1, by omega, fun j hj => ?_⟩, LE_sh (slh_set (v := .ptr 4 0) (slh_set (v := .d (.iptr (encE A0.1))) (slh_set (v := .d (.iptr (encBd lst))) (slh_set (v := .ptr 1 0) (slh_set (v := .d (.iptr (encBd x))) (slh_set (v := .d (.iptr [SBd b])) (slh_set (v := .d (.iptr [SK l])) (slh_set (v := .d (.iptr (encP p))) (slh_set (v := .d (.iptr [encS s])) (slh_no _ _) (by rfl) rfl) (by rfl) rfl) (by rfl) rfl) (by rfl) rfl) (by rfl) rfl) (by rfl) rfl) (by rfl) rfl) (by rfl) rfl) (by rfl) rfl) (hlh_set (hlh_set (hlh_no _ _) rfl rfl) (congrArg (fun z => some (Ent.box 3 [z])) (show AV.d (.lit (.int .i64 (IntKind.i64.wrap (((m + 1 + i : Nat) : Int) + 1)))) = AV.d (int ((m + 1 + (i + 1) : Nat) : Int)) by rw [show (((m + 1 + i : Nat) : Int) + 1) = ((m + 1 + (i + 1) : Nat) : Int) by omega, wrapN (by omega)]; rfl)) rfl), by show p.els.length - (i + 1) < p.els.length - i; omega⟩
      by_cases hji : j = i
      · subst hji; exact met_no (by rw [hla]; exact fun j k hj hk => hp j k (by rw [ysP_length]; exact hj) hk)
      · exact hn j (by omega)
  · skip
    have hge : x.el ≤ ((m + 1 + i : Nat) : Int) := by have := h1; simp at this; omega
    refine CW_exit ?_
    show CW _ _ _ _
    refine CW_seq ?_
    refine CW_region ?_
    refine OW_store' hE rfl rfl rfl rfl rfl rfl rfl rfl rfl rfl rfl rfl ?_
    refine OW_end rfl ?_
    refine CW_ret ?_
    refine ⟨.inr rfl, rfl, ⟨_, rfl, rfl, ?_⟩, rfl⟩
    rw [guard_yes hlm hge hn]
    exact AVle.refl _
end Go.Proofs.Ytojnicnbmgiplaa
namespace Go.Proofs.Ytojnicnbmgiplaa
open Go Go.AL
set_option linter.unusedVariables false
set_option linter.unusedSimpArgs false
set_option maxHeartbeats 4000000
theorem nextOk (p : Pat) (k : Nat) (hk : k < p.els.length) (hl : p.els.length ≤ 1000) : Does Try.prog 95 [argP p, .d (int ((k : Nat) : Int))] noHeap (.d (int (nextX p k))) := by
  refine Does_of T_ok mixed (N := 23) Try.func95 rfl rfl rfl (by rfl) fun F n Z hE hF J => ?_
  have hnx : nextX p (k : Int) = nextFrom p (p.els.length - (k + 1)) (k + 1) := by unfold nextX; rw [show ((k : Int) + 1).toNat = k + 1 by omega]; exact nextF_more (by omega) (Nat.le_refl _)
  refine CW_seq ?_
  refine CW_region ?_
  refine OW_run' hE.ok 2 rfl ?_
  refine OW_end rfl ?_
  refine CW_seq ?_
  refine CW_seq ?_
  refine CW_region ?_
  refine OW_run' hE.ok 3 rfl ?_
  refine OW_end rfl ?_
  refine CW_block ?_
  refine CW_loop (σ := {i : Nat // i ≤ p.els.length ∧ nextX p k = nextFrom p (p.els.length - i) i}) (fun i => ⟨J, (sset (sset noSlots 2 (.d (.iptr (encP p)))) 5 (.d (int ((i.1 : Nat) : Int)))), noHeap⟩) (fun i => p.els.length - i.1) ⟨k + 1, by omega, hnx⟩ (LE_sh (slh_set (slh_set (slh_no _ _) rfl rfl) (by show AV.d (.lit (.int .i64 (IntKind.i64.wrap ((k : Int) + 1)))) = _; rw [wrap_succ (by omega)]; rfl) rfl) (hlh_no _ _)) fun ⟨i, hi, hp⟩ => ?_
  refine CW_seq ?_
  refine CW_seq ?_
  refine CW_region ?_
  refine OW_run' hE.ok 5 rfl ?_
  refine OW_end rfl ?_
  refine CW_cond _ rfl (fun h1 => ?_) (fun h1 => ?_)
  · skip
    have hlt : i < p.els.length := by have := h1; rw [List.length_map] at this; simp at this; omega
    obtain ⟨e, hel⟩ : ∃ e, p.els[i]? = some e := ⟨_, List.getElem?_eq_getElem hlt⟩
    refine CW_skip ?_
    refine CW_seq ?_
    refine CW_block ?_
    refine CW_seq ?_
    refine CW_region ?_
    refine OW_run' hE.ok 3 rfl ?_
    refine OW_loc' hE (loc_indexAddr hE rfl rfl rfl rfl rfl (by omega) (x := encL e) (by simp [hel])) rfl rfl rfl ?_
    refine OW_run' hE.ok 3 rfl ?_
    refine OW_end rfl ?_
    refine CW_cond _ rfl (fun h2 => ?_) (fun h2 => ?_)
    · skip
      have hneg : (!e.neg) = true := h2
      refine CW_seq ?_
      refine CW_region ?_
      refine OW_run' hE.ok 2 rfl ?_
      refine OW_end rfl ?_
      refine CW_ret ?_
      refine ⟨.inr rfl, rfl, ⟨_, rfl, rfl, ?_⟩, rfl⟩
      refine AVle.of (Eq.trans (b := .d (int ((i : Nat) : Int))) rfl ?_)
      rw [hp, nextF_at hel (by simpa using hneg)]
    · skip
      have hneg : (!e.neg) = false := h2
      refine CW_skip ?_
      refine CW_region ?_
      refine OW_run' hE.ok 3 rfl ?_
      refine OW_end rfl ?_
      refine ⟨⟨i + 1, by omega, hp.trans (nextF_go hel (by simpa using hneg))⟩, LE_sh (slh_set (v := .d (int ((i + 1 : Nat) : Int))) (slh_set (v := .d (.iptr (encP p))) (slh_no _ _) (by rfl) rfl) (by show AV.d (.lit (.int .i64 (IntKind.i64.wrap ((i : Int) + 1)))) = _; rw [wrap_succ (by omega)]; rfl) rfl) (hlh_no _ _), by show p.els.length - (i + 1) < p.els.length - i; omega⟩
  · skip
    have hge : p.els.length ≤ i := by have := h1; rw [List.length_map] at this; simp at this; omega
    refine CW_exit ?_
    show CW _ _ _ _
    refine CW_seq ?_
    refine CW_region ?_
    refine OW_run' hE.ok 1 rfl ?_
    refine OW_end rfl ?_
    refine CW_ret ?_
    refine ⟨.inr rfl, rfl, ⟨_, rfl, rfl, ?_⟩, rfl⟩
    refine AVle.of (Eq.trans (b := .d (int (-1))) rfl ?_)
    rw [hp, nextF_end hge]
end Go.Proofs.Ytojnicnbmgiplaa
