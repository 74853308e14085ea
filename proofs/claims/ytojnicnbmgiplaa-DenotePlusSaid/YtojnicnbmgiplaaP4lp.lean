/- Parts of an abstract logic over the kit's walks, and walks in it: P4lp. -/
import Derived.Test.YtojnicnbmgiplaaP4lk
import Derived.Test.YtojnicnbmgiplaaPxi
import Derived.Test.YtojnicnbmgiplaaP4l2
import Derived.Test.YtojnicnbmgiplaaMat8
import Derived.Test.YtojnicnbmgiplaaAe
namespace Go.Proofs.Ytojnicnbmgiplaa
open Go Go.AL
set_option linter.unusedVariables false
set_option linter.unusedSimpArgs false
set_option maxHeartbeats 4000000
theorem plusOk (u : UInt8) : Does Try.prog 7 [.d (.lit (.int .u8 (u.toNat : Int)))] noHeap (.d (boo true)) := by
  refine Does_of T_ok mixed (N := 66) Try.func7 rfl rfl rfl (by rfl) fun F n Z hE hF J => ?_
  obtain ⟨kk, hkk⟩ : ∃ kk, u.toNat % 6 + 1 = kk := ⟨_, rfl⟩
  have hk7 : kk < 7 := by omega
  have hk0 : 0 < kk := by omega
  have hkl : (keptX (evsP kk) 0).length = kk + 1 := by rw [kept_len, evsP_len]
  have hkr := kept_rises (evsP kk) 0
  have qS := streamOk (evsP kk) 0 (by rw [evsP_len]; omega) (by decide)
  rw [plus_stream hk7] at qS
  have q1 := matchesOk bS (pPl true) (keptX (evsP kk) 0) hkr (by omega) (by decide)
  have q2 := matchesOk bS (pPl false) (keptX (evsP kk) 0) hkr (by omega) (by decide)
  obtain ⟨n1, n2⟩ := plus_len hk7 hk0
  obtain ⟨m1, _⟩ := mat_rows (s := bS) (p := (pPl true)) (l := (keptX (evsP kk) 0)) (by omega)
  obtain ⟨m3, _⟩ := mat_rows (s := bS) (p := (pPl false)) (l := (keptX (evsP kk) 0)) (by omega)
  have hpk : 2 ^ kk ≤ 64 := Nat.le_trans (Nat.pow_le_pow_right (by decide) (show kk ≤ 6 by omega)) (by decide)
  have hpk1 : 1 ≤ 2 ^ kk := Nat.one_le_pow _ _ (by decide)
  refine CW_seq ?_
  refine CW_region ?_
  refine OW_run' hE.ok 1 rfl ?_
  refine OW_end rfl ?_
  refine CW_seq ?_
  refine CW_seq ?_
  refine CW_region ?_
  refine OW_call' hE (known14Ok) rfl rfl rfl rfl rfl rfl rfl ?_
  refine OW_run' hE.ok 1 rfl ?_
  refine OW_end rfl ?_
  refine CW_false rfl ?_
  refine CW_skip ?_
  refine CW_seq ?_
  refine CW_region ?_
  refine OW_run' hE.ok 3 rfl ?_
  refine OW_run' hE.ok 1 rfl ?_
  refine OW_as' 17 (.d (int ((kk : Nat) : Int))) (by show AV.d (.lit (.int .i64 (IntKind.i64.wrap (IntKind.i64.wrap ((u.toNat % 6 : Nat) : Int) + 1)))) = _; rw [wrapN (by omega), wrap_succ (by omega), ← hkk]; rfl) ?_
  refine OW_run' hE.ok 1 rfl ?_
  refine OW_end rfl ?_
  refine CW_seq ?_
  refine CW_region ?_
  refine OW_run' hE.ok 1 rfl ?_
  refine OW.le (LE_nilSlot 4 50 30 3 rfl rfl) ?_
  refine OW_end rfl ?_
  refine CW_seq ?_
  refine CW_seq ?_
  refine CW_region ?_
  refine OW_run' hE.ok 1 rfl ?_
  refine OW_end rfl ?_
  refine CW_block ?_
  refine CW_loop (σ := {i : Nat // i ≤ kk}) (fun i => ⟨J, (sset (sset (sset noSlots 3 (.d (int ((kk : Nat) : Int)))) 4 (.row 50)) 5 (.d (int ((i.1 : Nat) : Int)))), (hset noHeap 50 (some (.row 30 3 (((evsT kk).take i.1).map encE))))⟩) (fun i => kk - i.1) ⟨0, Nat.zero_le _⟩ (LE_sh (slh_set (slh_set (slh_set (slh_no _ _) rfl rfl) rfl rfl) rfl rfl) (hlh_set (hlh_no _ _) (congrArg (fun z => some (Ent.row 30 3 z)) (rfl)) rfl)) fun ⟨i, hi⟩ => ?_
  refine CW_seq ?_
  refine CW_seq ?_
  refine CW_region ?_
  refine OW_run' hE.ok 3 rfl ?_
  refine OW_end rfl ?_
  refine CW_cond _ rfl (fun h1 => ?_) (fun h1 => ?_)
  · skip
    have hlt : i < kk := by have := h1; simp at this; omega
    refine CW_skip ?_
    refine CW_seq ?_
    refine CW_block ?_
    refine CW_region ?_
    refine OW_run' hE.ok 2 rfl ?_
    refine OW_call' hE (evOf ((i : Nat) : Int) 0) rfl rfl rfl rfl rfl rfl rfl ?_
    refine OW_loc' hE (loc_lits hE (t := 44) (len := 1) (parts := #[(0, .tmp 25)]) rfl rfl rfl rfl rfl rfl rfl rfl (xs := [encE (evT ((i : Nat) : Int) 0)]) rfl) rfl rfl rfl ?_
    refine OW_append' hE (key := 50) rfl rfl rfl rfl rfl rfl rfl rfl (.inl rfl) (by simp; omega) (by simp; omega) rfl ?_
    refine OW_run' hE.ok 1 rfl ?_
    refine OW_end rfl ?_
    refine CW_region ?_
    refine OW_run' hE.ok 3 rfl ?_
    refine OW_end rfl ?_
    refine ⟨⟨i + 1, by omega⟩, LE_sh (slh_set (v := .d (int ((i + 1 : Nat) : Int))) (slh_set (v := .row 50) (slh_set (v := .d (int ((kk : Nat) : Int))) (slh_no _ _) (by rfl) rfl) (by rfl) rfl) (by show AV.d (.lit (.int .i64 (IntKind.i64.wrap ((i : Int) + 1)))) = _; rw [wrap_succ (by omega)]; rfl) rfl) (hlh_set (hlh_no _ _) (congrArg (fun z => some (Ent.row 30 3 z)) (by rw [evsT_snoc hlt, List.map_append]; rfl)) rfl), by show kk - (i + 1) < kk - i; omega⟩
  · skip
    have hge : kk ≤ i := by have := h1; simp at this; omega
    refine CW_exit ?_
    show CW _ _ _ _
    refine CW_seq ?_
    refine CW.le (show LE _ _ ⟨J, (sset (sset noSlots 3 (.d (int ((kk : Nat) : Int)))) 4 (.row 50)), (hset noHeap 50 (some (.row 30 3 ((evsT kk).map encE))))⟩ from LE_sh (slh_set (v := .row 50) (slh_set (v := .d (int ((kk : Nat) : Int))) (slh_no _ _) (by rfl) rfl) (by rfl) rfl) (hlh_set (hlh_no _ _) (congrArg (fun z : List Ev => some (Ent.row 30 3 (z.map encE))) (List.take_of_length_le (by rw [evsT_len]; omega))) rfl)) ?_
    have htl := evsT_len kk
    refine CW_region ?_
    refine OW_run' hE.ok 2 rfl ?_
    refine OW_call' hE (evOfU ((kk : Nat) : Int) 0) rfl rfl rfl rfl rfl rfl rfl ?_
    refine OW_loc' hE (loc_lits hE (t := 44) (len := 1) (parts := #[(0, .tmp 30)]) rfl rfl rfl rfl rfl rfl rfl rfl (xs := [encE (evU ((kk : Nat) : Int) 0)]) rfl) rfl rfl rfl ?_
    refine OW_append' hE (key := 50) rfl rfl rfl rfl rfl rfl rfl rfl (.inl rfl) (by simp only [List.length_map, List.length_cons, List.length_nil]; omega) (by simp only [List.length_map, List.length_cons, List.length_nil]; omega) rfl ?_
    refine OW_run' hE.ok 1 rfl ?_
    refine OW.le (LE_freeze 50 48 rfl (by simp only [List.length_append, List.length_map, List.length_cons, List.length_nil]; omega)) ?_
    refine OW_end rfl ?_
    refine CW_seq ?_
    refine CW.le (show LE _ _ ⟨J, (sset (sset noSlots 3 (.d (int ((kk : Nat) : Int)))) 4 (.d (.sl 3 48 ((evsP kk).map encE)))), noHeap⟩ from LE_sh (slh_set (v := .d (.sl 3 48 ((evsP kk).map encE))) (slh_set (v := .d (int ((kk : Nat) : Int))) (slh_no _ _) (by rfl) rfl) (by show AV.d (.sl 3 48 ((evsT kk).map encE ++ [encE (evU ((kk : Nat) : Int) 0)])) = _; unfold evsP; rw [List.map_append]; rfl) rfl) (hlh_no _ _)) ?_
    refine CW_region ?_
    refine OW_run' hE.ok 1 rfl ?_
    refine OW_callOwn' hE 77 qS rfl rfl rfl rfl rfl rfl rfl ?_
    refine OW_run' hE.ok 5 rfl ?_
    refine OW.le (LE_freeze 77 64 rfl (by rw [List.length_map, kept_len, evsP_len]; omega)) ?_
    refine OW_end rfl ?_
    refine CW_seq ?_
    refine CW.le (show LE _ _ ⟨J, (sset (sset noSlots 3 (.d (int ((kk : Nat) : Int)))) 6 (.d (SK (keptX (evsP kk) 0)))), noHeap⟩ from LE_sh (slh_set (v := .d (SK (keptX (evsP kk) 0))) (slh_set (v := .d (int ((kk : Nat) : Int))) (slh_no _ _) (by rfl) rfl) (by rfl) rfl) (hlh_no _ _)) ?_
    refine CW_region ?_
    refine OW_call' hE (elOf (ch 97) (ch 116)) rfl rfl rfl rfl rfl rfl rfl ?_
    refine OW_alloc' hE 1 rfl rfl rfl rfl rfl rfl rfl ?_
    refine OW_store' hE rfl rfl rfl rfl rfl rfl rfl rfl rfl rfl rfl rfl ?_
    refine OW_end rfl ?_
    refine CW_seq ?_
    refine CW_region ?_
    refine OW_run' hE.ok 1 rfl ?_
    refine OW_store' hE rfl rfl rfl rfl rfl rfl rfl rfl rfl rfl rfl rfl ?_
    refine OW_end rfl ?_
    refine CW_seq ?_
    refine CW.le (LE_freezeBox 1 (ds := encL ⟨ch 97, [ch 116], true, false, zeroX⟩) rfl rfl) ?_
    refine CW_drawn6 hE 5 4 2 (by decide +kernel) rfl rfl rfl rfl rfl rfl rfl rfl rfl rfl ?_
    refine H2_run hE 1 rfl rfl rfl rfl rfl ?_
    refine H2_call hE (elOf (ch 98) (ch 117)) rfl rfl rfl rfl rfl rfl rfl rfl rfl ?_
    refine H2_loc hE (fun b => loc_lits hE (t := 25) (len := 2) (parts := #[(0, .tmp 40), (1, .tmp 41)]) rfl rfl rfl rfl rfl rfl rfl rfl (xs := [encL ⟨ch 97, [ch 116], true, false, zeroX⟩, encL (eU (ch 98))]) rfl) rfl rfl rfl rfl rfl ?_
    refine H2_loc hE (fun b => loc_build hE rfl rfl) rfl rfl rfl rfl rfl ?_
    refine H2_alloc rfl rfl rfl ?_
    refine H2_end ?_
    refine OW_store' hE rfl rfl rfl rfl rfl rfl rfl rfl rfl rfl rfl rfl ?_
    refine OW_end rfl ?_
    refine CW_seq ?_
    refine CW.le (show LE _ _ ⟨J, (sset (sset (sset noSlots 3 (.d (int ((kk : Nat) : Int)))) 6 (.d (SK (keptX (evsP kk) 0)))) 9 (.ptr 2 0)), (hset noHeap 2 (some (.box 27 [.d (.sl 11 144 ([encL ⟨ch 97, [ch 116], true, false, zeroX⟩, encL (eU (ch 98))])), .d (int 100), .d (str nul), .d (boo true)])))⟩ from LE_sh (slh_set (v := .ptr 2 0) (slh_set (v := .d (SK (keptX (evsP kk) 0))) (slh_set (v := .d (int ((kk : Nat) : Int))) (slh_no _ _) (by rfl) rfl) (by rfl) rfl) (by rfl) rfl) (hlh_set (hlh_no _ _) rfl rfl)) ?_
    refine CW_drawn' hE 3 (by decide +kernel) ?_
    refine HW_call hE (base11) rfl rfl rfl rfl rfl rfl rfl rfl ?_
    refine HW_run hE 2 rfl rfl ?_
    refine HW_end ?_
    refine OW_callRow' hE 60 q1 rfl rfl rfl rfl rfl rfl rfl ?_
    refine OW_run' hE.ok 1 rfl ?_
    refine OW.le (LE_freeze 60 24 rfl (by rw [List.length_map]; omega)) ?_
    refine OW_end rfl ?_
    refine CW_seq ?_
    refine CW.le (show LE _ _ ⟨J, (sset (sset (sset (sset noSlots 3 (.d (int ((kk : Nat) : Int)))) 6 (.d (SK (keptX (evsP kk) 0)))) 9 (.ptr 2 0)) 10 (.d (.sl 1 24 ((matchesX bS (pPl true) (keptX (evsP kk) 0)).map encR)))), (hset noHeap 2 (some (.box 27 [.d (.sl 11 144 ([encL ⟨ch 97, [ch 116], true, false, zeroX⟩, encL (eU (ch 98))])), .d (int 100), .d (str nul), .d (boo true)])))⟩ from LE_sh (slh_set (v := .d (.sl 1 24 ((matchesX bS (pPl true) (keptX (evsP kk) 0)).map encR))) (slh_set (v := .ptr 2 0) (slh_set (v := .d (SK (keptX (evsP kk) 0))) (slh_set (v := .d (int ((kk : Nat) : Int))) (slh_no _ _) (by rfl) rfl) (by rfl) rfl) (by rfl) rfl) (by rfl) rfl) (hlh_set (hlh_no _ _) rfl rfl)) ?_
    refine CW_region ?_
    refine OW_run' hE.ok 1 rfl ?_
    refine OW_store' hE rfl rfl rfl rfl rfl rfl rfl rfl rfl rfl rfl rfl ?_
    refine OW_end rfl ?_
    refine CW_seq ?_
    refine CW.le (show LE _ _ ⟨J, (sset (sset (sset (sset noSlots 3 (.d (int ((kk : Nat) : Int)))) 6 (.d (SK (keptX (evsP kk) 0)))) 9 (.ptr 2 0)) 10 (.d (.sl 1 24 ((matchesX bS (pPl true) (keptX (evsP kk) 0)).map encR)))), (hset noHeap 2 (some (.box 27 [.d (.sl 11 144 ([encL ⟨ch 97, [ch 116], true, false, zeroX⟩, encL (eU (ch 98))])), .d (int 100), .d (str nul), .d (boo false)])))⟩ from LE_sh (slh_set (v := .d (.sl 1 24 ((matchesX bS (pPl true) (keptX (evsP kk) 0)).map encR))) (slh_set (v := .ptr 2 0) (slh_set (v := .d (SK (keptX (evsP kk) 0))) (slh_set (v := .d (int ((kk : Nat) : Int))) (slh_no _ _) (by rfl) rfl) (by rfl) rfl) (by rfl) rfl) (by rfl) rfl) (hlh_set (hlh_no _ _) rfl rfl)) ?_
    refine CW_drawn' hE 3 (by decide +kernel) ?_
    refine HW_call hE (base11) rfl rfl rfl rfl rfl rfl rfl rfl ?_
    refine HW_run hE 2 rfl rfl ?_
    refine HW_end ?_
    refine OW_callRow' hE 61 q2 rfl rfl rfl rfl rfl rfl rfl ?_
    refine OW_run' hE.ok 1 rfl ?_
    refine OW.le (LE_freeze 61 24 rfl (by rw [List.length_map]; omega)) ?_
    refine OW_end rfl ?_
    refine CW_seq ?_
    refine CW.le (show LE _ _ ⟨J, (sset (sset (sset noSlots 3 (.d (int ((kk : Nat) : Int)))) 10 (.d (.sl 1 24 ((matchesX bS (pPl true) (keptX (evsP kk) 0)).map encR)))) 11 (.d (.sl 1 24 ((matchesX bS (pPl false) (keptX (evsP kk) 0)).map encR)))), noHeap⟩ from LE_sh (slh_set (v := .d (.sl 1 24 ((matchesX bS (pPl false) (keptX (evsP kk) 0)).map encR))) (slh_set (v := .d (.sl 1 24 ((matchesX bS (pPl true) (keptX (evsP kk) 0)).map encR))) (slh_set (v := .d (int ((kk : Nat) : Int))) (slh_no _ _) (by rfl) rfl) (by rfl) rfl) (by rfl) rfl) (hlh_no _ _)) ?_
    refine CW_region ?_
    refine OW_run' hE.ok 3 rfl ?_
    refine OW_run' hE.ok 1 rfl ?_
    refine OW_as' 56 (.d (.lit (.int .u64 ((kk : Nat) : Int)))) (by show AV.d (.lit (.int .u64 (IntKind.u64.wrap ((kk : Nat) : Int)))) = _; rw [wrap_id _ _ (by simp [IntKind.min, IntKind.signed, IntKind.bits]; try omega) (by simp [IntKind.max, IntKind.signed, IntKind.bits]; omega)]) ?_
    refine OW_loc' hE (loc_shl hE rfl (k := kk) rfl rfl (by omega)) rfl rfl rfl ?_
    refine OW_run' hE.ok 1 rfl ?_
    refine OW_as' 58 (.d (int ((2 ^ kk - 1 : Nat) : Int))) (by show AV.d (.lit (.int .i64 (IntKind.i64.wrap (((2 ^ kk : Nat) : Int) - 1)))) = _; rw [show (((2 ^ kk : Nat) : Int) - 1) = ((2 ^ kk - 1 : Nat) : Int) by omega, wrapN (by omega)]; rfl) ?_
    refine OW_run' hE.ok 1 rfl ?_
    refine OW_as' 59 (.d (boo true)) (by refine congrArg (fun z => AV.d (boo z)) (show (((((matchesX bS (pPl true) (keptX (evsP kk) 0)).map encR).length : Nat) : Int) == ((2 ^ kk - 1 : Nat) : Int)) = true from ?_); rw [List.length_map, n1]; exact beq_self_eq_true _) ?_
    refine OW_run' hE.ok 4 rfl ?_
    refine OW_run' hE.ok 1 rfl ?_
    refine OW_as' 64 (.d (boo true)) (by refine congrArg (fun z => AV.d (boo z)) (show (((((matchesX bS (pPl false) (keptX (evsP kk) 0)).map encR).length : Nat) : Int) == ((kk : Nat) : Int)) = true from ?_); rw [List.length_map, n2]; exact beq_self_eq_true _) ?_
    refine OW_run' hE.ok 2 rfl ?_
    refine OW_end rfl ?_
    refine CW_ret ?_
    refine ⟨.inr rfl, rfl, ⟨[.d (boo true)], rfl, rfl, ?_⟩, rfl⟩
    exact AVle.refl _
end Go.Proofs.Ytojnicnbmgiplaa
