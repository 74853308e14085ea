/- Part of an abstract logic over the kit's walks, and walks in it: X6l. -/
import Derived.Test.YthffbfjnahipcaaX2k
import Derived.Test.YthffbfjnahipcaaX6m
namespace Go.Proofs.Ythffbfjnahipcaa
open Go Go.AL
set_option linter.unusedVariables false
set_option linter.unusedSimpArgs false
set_option maxHeartbeats 4000000
theorem limitsOk (n1 m1 : UInt8) (w1 : UInt16) : Does Try.prog 6 [.d (.lit (.int .u8 (n1.toNat : Int))), .d (.lit (.int .u8 (m1.toNat : Int))), .d (.lit (.int .u16 (w1.toNat : Int)))] noHeap (.d (boo true)) := by
  refine Does_of T_ok mixed (N := 87) Try.func6 rfl rfl rfl (by rfl) fun F n Z hE hF J => ?_
  refine CW_seq ?_
  refine CW_region ?_
  refine OW_run' hE.ok 1 rfl ?_
  refine OW_end rfl ?_
  refine CW_seq ?_
  refine CW_seq ?_
  refine CW_region ?_
  refine OW_call' hE (known6) rfl rfl rfl rfl rfl rfl rfl ?_
  refine OW_run' hE.ok 1 rfl ?_
  refine OW_end rfl ?_
  refine CW_false rfl ?_
  refine CW_skip ?_
  refine CW_seq ?_
  obtain ⟨k, hk⟩ : ∃ k, n1.toNat % 7 = k := ⟨_, rfl⟩
  have hk7 : k < 7 := by omega
  obtain ⟨j, hj⟩ : ∃ j, m1.toNat % 5 = j := ⟨_, rfl⟩
  have hj5 : j < 5 := by omega
  obtain ⟨v, hv⟩ : ∃ v, w1.toNat % 1003 = v := ⟨_, rfl⟩
  have hv1 : v < 1003 := by omega
  refine CW_region ?_
  refine OW_run' hE.ok 8 rfl ?_
  refine OW_as' 7 (.d (int ((k : Nat) : Int))) (by show AV.d (.lit (.int .i64 (IntKind.i64.wrap ((n1.toNat % 7 : Nat) : Int)))) = _; rw [hk, wrapN (by omega)]; rfl) ?_
  refine OW_as' 8 (.d (int ((j : Nat) : Int))) (by show AV.d (.lit (.int .i64 (IntKind.i64.wrap ((m1.toNat % 5 : Nat) : Int)))) = _; rw [hj, wrapN (by omega)]; rfl) ?_
  refine OW_end rfl ?_
  refine CW_seq ?_
  refine CW_region ?_
  refine OW_run' hE.ok 4 rfl ?_
  refine OW_as' 24 (.d (int ((v : Nat) - 1 : Int))) (by show AV.d (.lit (.int .i64 (IntKind.i64.wrap (IntKind.i64.wrap ((w1.toNat % 1003 : Nat) : Int) - 1)))) = _; rw [hv, wrapN (by omega), wrap_id _ _ (by have : IntKind.i64.min = -9223372036854775808 := rfl; omega) (by have : IntKind.i64.max = 9223372036854775807 := rfl; omega)]; rfl) ?_
  refine OW_build' hE rfl rfl rfl rfl rfl ?_
  refine OW_alloc' hE 1 rfl rfl rfl rfl rfl rfl rfl ?_
  refine OW_store' hE rfl rfl rfl rfl rfl rfl rfl rfl rfl rfl rfl rfl ?_
  refine OW_end rfl ?_
  refine CW_seq ?_
  refine CW_seq ?_
  refine CW_region ?_
  refine OW_run' hE.ok 1 rfl ?_
  refine OW_end rfl ?_
  refine CW_block ?_
  rw [hset_hset]
  refine CW.le (LE_nilCell 1 50 0 41 11 rfl rfl rfl) ?_
  refine CW_loop (σ := {i : Nat // i ≤ k}) (fun i => ⟨J, (sset (sset (sset (sset noSlots 7 (.d (int ((k : Nat) : Int)))) 8 (.d (int ((j : Nat) : Int)))) 9 (.ptr 1 0)) 10 (.d (int ((i.1 : Nat) : Int)))), (hset (hset noHeap 1 (some (.box 37 [.row 50, .d (int ((v : Nat) - 1 : Int)), .d (str nul), .d (boo false)]))) 50 (some (.row 41 11 ((liEs j i.1).map encL))))⟩) (fun i => k - i.1) ⟨0, Nat.zero_le _⟩ (LE_sh (slh_set (slh_set (slh_set (slh_set (slh_no _ _) rfl rfl) rfl rfl) rfl rfl) rfl rfl) (hlh_set (hlh_set (hlh_no _ _) rfl rfl) rfl rfl)) fun ⟨i, hi⟩ => ?_
  refine CW_seq ?_
  refine CW_seq ?_
  refine CW_region ?_
  refine OW_run' hE.ok 3 rfl ?_
  refine OW_end rfl ?_
  refine CW_cond _ rfl (fun h1 => ?_) (fun h1 => ?_)
  · skip
    have hlt : i < k := by have := h1; simp at this; omega
    refine CW_skip ?_
    refine CW_seq ?_
    refine CW_block ?_
    refine CW_seq ?_
    refine CW_region ?_
    refine OW_run' hE.ok 2 rfl ?_
    refine OW_as' 32 (.d (int ((97 + i : Nat) : Int))) (by show AV.d (.lit (.int .i64 (IntKind.i64.wrap (97 + (i : Int))))) = _; rw [show (97 + (i : Int)) = ((97 + i : Nat) : Int) by omega, wrapN (by omega)]; rfl) ?_
    refine OW_run' hE.ok 1 rfl ?_
    refine OW_as' 33 (.d (.lit (.int .u8 ((UInt8.ofNat (97 + i)).toNat : Int)))) (by show AV.d (.lit (.int .u8 (IntKind.u8.wrap ((97 + i : Nat) : Int)))) = _; rw [wrapB (by omega)]) ?_
    refine OW_litsOwn' hE 53 rfl rfl rfl rfl rfl rfl rfl rfl rfl rfl rfl rfl ?_
    refine OW_bytesString' hE (key := 53) (bs := [UInt8.ofNat (97 + i)]) rfl rfl rfl rfl rfl rfl rfl rfl rfl rfl ?_
    refine OW_loc' hE (loc_concat hE rfl rfl rfl (by show 1 + 1 ≤ _; omega)) rfl rfl rfl ?_
    refine OW_as' 36 (.d (str (ruA 97 i))) (by rfl) ?_
    refine OW_build' hE rfl rfl rfl rfl rfl ?_
    refine OW_alloc' hE 2 rfl rfl rfl rfl rfl rfl rfl ?_
    refine OW_store' hE rfl rfl rfl rfl rfl rfl rfl rfl rfl rfl rfl rfl ?_
    refine OW_end rfl ?_
    refine CW_seq ?_
    refine CW_seq ?_
    refine CW_region ?_
    refine OW_run' hE.ok 1 rfl ?_
    refine OW_end rfl ?_
    refine CW_block ?_
    rw [hset_hset]
    refine CW.le (LE_nilCell 2 52 1 9 1 rfl rfl rfl) ?_
    refine CW_loop (σ := {t : Nat // t ≤ j}) (fun t => ⟨J, (sset (sset (sset (sset (sset (sset noSlots 7 (.d (int ((k : Nat) : Int)))) 8 (.d (int ((j : Nat) : Int)))) 9 (.ptr 1 0)) 10 (.d (int ((i : Nat) : Int)))) 11 (.ptr 2 0)) 12 (.d (int ((t.1 : Nat) : Int)))), (hset (hset (hset (hset noHeap 1 (some (.box 37 [.row 50, .d (int ((v : Nat) - 1 : Int)), .d (str nul), .d (boo false)]))) 50 (some (.row 41 11 ((liEs j i).map encL)))) 2 (some (.box 41 [.d (str (ruA 97 i)), .row 52, .d (boo false), .d (boo false), .d (int 0), .d (int 0), .d (int 0), .d (str nul), .d (str nul), .d (str nul), .d (.lit (.slice none 0 0))]))) 52 (some (.row 9 1 ((liT t.1).map encB))))⟩) (fun t => j - t.1) ⟨0, Nat.zero_le _⟩ (LE_sh (slh_set (slh_set (slh_set (slh_set (slh_set (slh_set (slh_no _ _) rfl rfl) rfl rfl) rfl rfl) rfl rfl) rfl rfl) rfl rfl) (hlh_set (hlh_set (hlh_set (hlh_set (hlh_no _ _) rfl rfl) rfl rfl) rfl rfl) rfl rfl)) fun ⟨t, ht⟩ => ?_
    refine CW_seq ?_
    refine CW_seq ?_
    refine CW_region ?_
    refine OW_run' hE.ok 3 rfl ?_
    refine OW_end rfl ?_
    refine CW_cond _ rfl (fun h2 => ?_) (fun h2 => ?_)
    · skip
      have htl : t < j := by have := h2; simp at this; omega
      refine CW_skip ?_
      refine CW_seq ?_
      refine CW_block ?_
      refine CW_region ?_
      refine OW_run' hE.ok 4 rfl ?_
      refine OW_as' 46 (.d (int ((97 + t : Nat) : Int))) (by show AV.d (.lit (.int .i64 (IntKind.i64.wrap (97 + (t : Int))))) = _; rw [show (97 + (t : Int)) = ((97 + t : Nat) : Int) by omega, wrapN (by omega)]; rfl) ?_
      refine OW_run' hE.ok 1 rfl ?_
      refine OW_as' 47 (.d (.lit (.int .u8 ((UInt8.ofNat (97 + t)).toNat : Int)))) (by show AV.d (.lit (.int .u8 (IntKind.u8.wrap ((97 + t : Nat) : Int)))) = _; rw [wrapB (by omega)]) ?_
      refine OW_litsOwn' hE 53 rfl rfl rfl rfl rfl rfl rfl rfl rfl rfl rfl rfl ?_
      refine OW_bytesString' hE (key := 53) (bs := [UInt8.ofNat (97 + t)]) rfl rfl rfl rfl rfl rfl rfl rfl rfl rfl ?_
      refine OW_loc' hE (loc_concat hE rfl rfl rfl (by show 1 + 1 ≤ _; omega)) rfl rfl rfl ?_
      refine OW_as' 50 (.d (str (ruA 116 t))) (by rfl) ?_
      refine OW_lits' hE rfl rfl rfl rfl rfl rfl rfl rfl rfl rfl rfl rfl ?_
      refine OW_append' hE (key := 52) rfl rfl rfl rfl rfl rfl rfl rfl (.inl rfl) (by simp [liT_len]; omega) (by simp [liT_len]; omega) rfl ?_
      refine OW_run' hE.ok 1 rfl ?_
      refine OW_store' hE rfl rfl rfl rfl rfl rfl rfl rfl rfl rfl rfl rfl ?_
      refine OW_end rfl ?_
      refine CW_region ?_
      refine OW_run' hE.ok 3 rfl ?_
      refine OW_end rfl ?_
      exact ⟨⟨t + 1, by omega⟩, LE_sh (slh_set (slh_set (slh_set (slh_set (slh_set (slh_set (slh_no _ _) rfl rfl) rfl rfl) rfl rfl) rfl rfl) rfl rfl) (by show AV.d (.lit (.int .i64 (IntKind.i64.wrap ((t : Int) + 1)))) = _; rw [wrap_succ (by omega)]; rfl) rfl) (hlh_set (hlh_set (hlh_set (hlh_set (hlh_no _ _) rfl rfl) rfl rfl) rfl rfl) (congrArg (fun z => some (Ent.row 9 1 z)) (liT_snoc t)) rfl), by show j - (t + 1) < j - t; omega⟩
    · skip
      have htj : t = j := by have := h2; simp at this; omega
      refine CW_exit ?_
      show CW _ _ _ _
      refine CW.le (LE_freeze 52 16 rfl (by simp [liT_len]; omega)) ?_
      refine CW.le (show LE _ _ ⟨J, (sset (sset (sset (sset (sset noSlots 7 (.d (int ((k : Nat) : Int)))) 8 (.d (int ((j : Nat) : Int)))) 9 (.ptr 1 0)) 10 (.d (int ((i : Nat) : Int)))) 11 (.ptr 2 0)), (hset (hset (hset noHeap 1 (some (.box 37 [.row 50, .d (int ((v : Nat) - 1 : Int)), .d (str nul), .d (boo false)]))) 50 (some (.row 41 11 ((liEs j i).map encL)))) 2 (some (.box 41 [.d (str (ruA 97 i)), .d (.sl 1 16 ((liT j).map encB)), .d (boo false), .d (boo false), .d (int 0), .d (int 0), .d (int 0), .d (str nul), .d (str nul), .d (str nul), .d (.lit (.slice none 0 0))])))⟩ from LE_sh (slh_set (slh_set (slh_set (slh_set (slh_set (slh_no _ _) rfl rfl) rfl rfl) rfl rfl) rfl rfl) rfl rfl) (hlh_set (hlh_set (hlh_set (hlh_no _ _) rfl rfl) rfl rfl) (congrArg (fun z => some (Ent.box 41 [.d (str (ruA 97 i)), .d (.sl 1 16 ((liT z).map encB)), .d (boo false), .d (boo false), .d (int 0), .d (int 0), .d (int 0), .d (str nul), .d (str nul), .d (str nul), .d (.lit (.slice none 0 0))])) htj) rfl)) ?_
      refine CW_region ?_
      refine OW_run' hE.ok 3 rfl ?_
      refine OW.le (LE_slot 56 (argL (liE j i)) (AVle.agg (.cons (.refl _) (.cons (.refl _) (.cons (.refl _) (.cons (.refl _) (.cons (.refl _) (.cons (.refl _) (.cons (.refl _) (.cons (.refl _) (.cons (.refl _) (.cons (.refl _) (.cons (.nilSl 7 96) .nil))))))))))))) ?_
      refine OW_lits' hE rfl rfl rfl rfl rfl rfl rfl rfl rfl rfl rfl rfl ?_
      refine OW_append' hE (key := 50) rfl rfl rfl rfl rfl rfl rfl rfl (.inl rfl) (by simp [liEs_len]; omega) (by simp [liEs_len]; omega) rfl ?_
      refine OW_run' hE.ok 1 rfl ?_
      refine OW_store' hE rfl rfl rfl rfl rfl rfl rfl rfl rfl rfl rfl rfl ?_
      refine OW_end rfl ?_
      refine CW_region ?_
      refine OW_run' hE.ok 3 rfl ?_
      refine OW_end rfl ?_
      exact ⟨⟨i + 1, by omega⟩, LE_sh (slh_set (slh_set (slh_set (slh_set (slh_no _ _) rfl rfl) rfl rfl) rfl rfl) (by show AV.d (.lit (.int .i64 (IntKind.i64.wrap ((i : Int) + 1)))) = _; rw [wrap_succ (by omega)]; rfl) rfl) (hlh_set (hlh_set (hlh_no _ _) rfl rfl) (congrArg (fun z => some (Ent.row 41 11 z)) (liEs_snoc j i)) rfl), by show k - (i + 1) < k - i; omega⟩
  · skip
    have hki : i = k := by have := h1; simp at this; omega
    refine CW_exit ?_
    show CW _ _ _ _
    refine CW_seq ?_
    refine CW.le (LE_freeze 50 144 rfl (by simp [liEs_len]; omega)) ?_
    refine CW.le (show LE _ _ ⟨J, (sset (sset (sset noSlots 7 (.d (int ((k : Nat) : Int)))) 8 (.d (int ((j : Nat) : Int)))) 9 (.ptr 1 0)), (hset noHeap 1 (some (.box 37 [.d (.sl 11 144 ((liEs j k).map encL)), .d (int ((v : Nat) - 1 : Int)), .d (str nul), .d (boo false)])))⟩ from LE_sh (slh_set (slh_set (slh_set (slh_no _ _) rfl rfl) rfl rfl) rfl rfl) (hlh_set (hlh_no _ _) (congrArg (fun z => some (Ent.box 37 [.d (.sl 11 144 ((liEs j z).map encL)), .d (int ((v : Nat) - 1 : Int)), .d (str nul), .d (boo false)])) hki) rfl)) ?_
    have q := isPatOk (liP j k ((v : Nat) - 1 : Int)); rw [li_ok hj5 hk7] at q
    refine CW_region ?_
    refine OW_run' hE.ok 1 rfl ?_
    refine OW_call' hE (q) rfl rfl rfl rfl rfl rfl rfl ?_
    refine OW_run' hE.ok 3 rfl ?_
    refine OW_split' 64 rfl (fun h3 => ?_) (fun h3 => ?_)
    · skip
      have g1 := h3
      refine OW_run' hE.ok 4 rfl ?_
      refine OW_split' 68 rfl (fun h4 => ?_) (fun h4 => ?_)
      · skip
        have g2 := h4
        refine OW_run' hE.ok 4 rfl ?_
        refine OW_split' 72 rfl (fun h5 => ?_) (fun h5 => ?_)
        · skip
          have g3 := h5
          refine OW_run' hE.ok 4 rfl ?_
          refine OW_split' 76 rfl (fun h6 => ?_) (fun h6 => ?_)
          · skip
            have g4 := h6
            refine OW_run' hE.ok 5 rfl ?_
            refine OW_split' 81 rfl (fun h7 => ?_) (fun h7 => ?_)
            · skip
              have g5 := h7
              refine OW_run' hE.ok 5 rfl ?_
              refine OW_as' 86 (.d (boo true)) (by refine congrArg (fun b => AV.d (boo b)) ?_; unfold liG; simp_all) ?_
              refine OW_run' hE.ok 1 rfl ?_
              refine OW_end rfl ?_
              refine CW_ret ?_
              refine ⟨.inr rfl, rfl, ⟨[.d (boo true)], rfl, rfl, ?_⟩, rfl⟩
              exact AVle.refl _
            · skip
              have g5 := h7
              refine OW_run' hE.ok 5 rfl ?_
              refine OW_as' 86 (.d (boo true)) (by refine congrArg (fun b => AV.d (boo b)) ?_; unfold liG; simp_all) ?_
              refine OW_run' hE.ok 1 rfl ?_
              refine OW_end rfl ?_
              refine CW_ret ?_
              refine ⟨.inr rfl, rfl, ⟨[.d (boo true)], rfl, rfl, ?_⟩, rfl⟩
              exact AVle.refl _
          · skip
            have g4 := h6
            refine OW_run' hE.ok 10 rfl ?_
            refine OW_as' 86 (.d (boo true)) (by refine congrArg (fun b => AV.d (boo b)) ?_; unfold liG; simp_all) ?_
            refine OW_run' hE.ok 1 rfl ?_
            refine OW_end rfl ?_
            refine CW_ret ?_
            refine ⟨.inr rfl, rfl, ⟨[.d (boo true)], rfl, rfl, ?_⟩, rfl⟩
            exact AVle.refl _
        · skip
          have g3 := h5
          refine OW_run' hE.ok 14 rfl ?_
          refine OW_as' 86 (.d (boo true)) (by refine congrArg (fun b => AV.d (boo b)) ?_; unfold liG; simp_all) ?_
          refine OW_run' hE.ok 1 rfl ?_
          refine OW_end rfl ?_
          refine CW_ret ?_
          refine ⟨.inr rfl, rfl, ⟨[.d (boo true)], rfl, rfl, ?_⟩, rfl⟩
          exact AVle.refl _
      · skip
        have g2 := h4
        refine OW_run' hE.ok 18 rfl ?_
        refine OW_as' 86 (.d (boo true)) (by refine congrArg (fun b => AV.d (boo b)) ?_; unfold liG; simp_all) ?_
        refine OW_run' hE.ok 1 rfl ?_
        refine OW_end rfl ?_
        refine CW_ret ?_
        refine ⟨.inr rfl, rfl, ⟨[.d (boo true)], rfl, rfl, ?_⟩, rfl⟩
        exact AVle.refl _
    · skip
      have g1 := h3
      refine OW_run' hE.ok 22 rfl ?_
      refine OW_as' 86 (.d (boo true)) (by refine congrArg (fun b => AV.d (boo b)) ?_; unfold liG; simp_all) ?_
      refine OW_run' hE.ok 1 rfl ?_
      refine OW_end rfl ?_
      refine CW_ret ?_
      refine ⟨.inr rfl, rfl, ⟨[.d (boo true)], rfl, rfl, ?_⟩, rfl⟩
      exact AVle.refl _
end Go.Proofs.Ythffbfjnahipcaa
