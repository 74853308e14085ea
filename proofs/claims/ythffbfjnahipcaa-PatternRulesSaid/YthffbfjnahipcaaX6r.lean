/- Part of an abstract logic over the kit's walks, and walks in it: X6r. -/
import Derived.Test.YthffbfjnahipcaaX2k
import Derived.Test.YthffbfjnahipcaaX6m
namespace Go.Proofs.Ythffbfjnahipcaa
open Go Go.AL
set_option linter.unusedVariables false
set_option linter.unusedSimpArgs false
set_option maxHeartbeats 4000000
theorem rulesOk (n1 wh : UInt8) : Does Try.prog 4 [.d (.lit (.int .u8 (n1.toNat : Int))), .d (.lit (.int .u8 (wh.toNat : Int)))] noHeap (.d (boo true)) := by
  refine Does_of T_ok mixed (N := 104) Try.func4 rfl rfl rfl (by rfl) fun F n Z hE hF J => ?_
  refine CW_seq ?_
  refine CW_region ?_
  refine OW_run' hE.ok 1 rfl ?_
  refine OW_end rfl ?_
  refine CW_seq ?_
  refine CW_seq ?_
  refine CW_region ?_
  refine OW_call' hE (known6) rfl rfl rfl rfl rfl rfl rfl ?_
  refine OW_run' hE.ok 1 rfl ?_
  refine OW_end rfl ?_
  refine CW_false rfl ?_
  refine CW_skip ?_
  refine CW_seq ?_
  obtain ⟨k, hk⟩ : ∃ k, n1.toNat % 5 + 1 = k := ⟨_, rfl⟩
  have hk1 : 1 ≤ k := by omega
  have hk5 : k ≤ 5 := by omega
  obtain ⟨c, hc0⟩ : ∃ c, wh.toNat % 9 = c := ⟨_, rfl⟩
  have hc9 : c < 9 := by omega
  refine CW_region ?_
  refine OW_run' hE.ok 4 rfl ?_
  refine OW_as' 15 (.d (int ((k : Nat) : Int))) (by show AV.d (.lit (.int .i64 (IntKind.i64.wrap (IntKind.i64.wrap ((n1.toNat % 5 : Nat) : Int) + 1)))) = _; rw [wrapN (by omega), wrap_succ (by omega), ← hk]; rfl) ?_
  refine OW_run' hE.ok 1 rfl ?_
  refine OW_end rfl ?_
  refine CW_seq ?_
  refine CW_region ?_
  refine OW_build' hE rfl rfl rfl rfl rfl ?_
  refine OW_alloc' hE 1 rfl rfl rfl rfl rfl rfl rfl ?_
  refine OW_store' hE rfl rfl rfl rfl rfl rfl rfl rfl rfl rfl rfl rfl ?_
  refine OW_end rfl ?_
  refine CW_seq ?_
  refine CW_seq ?_
  refine CW_region ?_
  refine OW_run' hE.ok 1 rfl ?_
  refine OW_end rfl ?_
  refine CW_block ?_
  rw [hset_hset]
  refine CW.le (LE_nilCell 1 51 0 41 11 rfl rfl rfl) ?_
  refine CW_loop (σ := {i : Nat // i ≤ k}) (fun i => ⟨J, (sset (sset (sset (sset noSlots 1 (.d (.lit (.int .u8 (wh.toNat : Int))))) 5 (.d (int ((k : Nat) : Int)))) 6 (.ptr 1 0)) 7 (.d (int ((i.1 : Nat) : Int)))), (hset (hset noHeap 1 (some (.box 37 [.row 51, .d (int 10), .d (str nul), .d (boo false)]))) 51 (some (.row 41 11 ((ruEs k i.1).map encL))))⟩) (fun i => k - i.1) ⟨0, Nat.zero_le _⟩ (LE_sh (slh_set (slh_set (slh_set (slh_set (slh_no _ _) rfl rfl) rfl rfl) rfl rfl) rfl rfl) (hlh_set (hlh_set (hlh_no _ _) rfl rfl) rfl rfl)) fun ⟨i, hi⟩ => ?_
  refine CW_seq ?_
  refine CW_seq ?_
  refine CW_region ?_
  refine OW_run' hE.ok 3 rfl ?_
  refine OW_end rfl ?_
  refine CW_cond _ rfl (fun h1 => ?_) (fun h1 => ?_)
  · skip
    have hlt : i < k := by have := h1; simp at this; omega
    refine CW_skip ?_
    refine CW_seq ?_
    refine CW_block ?_
    refine CW_region ?_
    refine OW_run' hE.ok 4 rfl ?_
    refine OW_as' 25 (.d (int ((97 + i : Nat) : Int))) (by show AV.d (.lit (.int .i64 (IntKind.i64.wrap (97 + (i : Int))))) = _; rw [show (97 + (i : Int)) = ((97 + i : Nat) : Int) by omega, wrapN (by omega)]; rfl) ?_
    refine OW_run' hE.ok 1 rfl ?_
    refine OW_as' 26 (.d (.lit (.int .u8 ((UInt8.ofNat (97 + i)).toNat : Int)))) (by show AV.d (.lit (.int .u8 (IntKind.u8.wrap ((97 + i : Nat) : Int)))) = _; rw [wrapB (by omega)]) ?_
    refine OW_litsOwn' hE 52 rfl rfl rfl rfl rfl rfl rfl rfl rfl rfl rfl rfl ?_
    refine OW_bytesString' hE (key := 52) (bs := [UInt8.ofNat (97 + i)]) rfl rfl rfl rfl rfl rfl rfl rfl rfl rfl ?_
    refine OW_loc' hE (loc_concat hE rfl rfl rfl (by show 1 + 1 ≤ _; omega)) rfl rfl rfl ?_
    refine OW_as' 29 (.d (str (ruA 97 i))) (by rfl) ?_
    refine OW_lits' hE rfl rfl rfl rfl rfl rfl rfl rfl rfl rfl rfl rfl ?_
    refine OW_run' hE.ok 4 rfl ?_
    refine OW_split' 34 rfl (fun h2 => ?_) (fun h2 => ?_)
    · skip
      have g1 : (((i % 2 : Nat) : Int) == 1) = true := h2
      refine OW_run' hE.ok 3 rfl ?_
      refine OW_as' 37 (.d (int ((k - 1 : Nat) : Int))) (by show AV.d (.lit (.int .i64 (IntKind.i64.wrap ((k : Int) - 1)))) = _; rw [show ((k : Int) - 1) = ((k - 1 : Nat) : Int) by omega, wrapN (by omega)]; rfl) ?_
      refine OW_run' hE.ok 1 rfl ?_
      refine OW_run' hE.ok 1 rfl ?_
      refine OW_as' 39 (.d (boo (ruN k i))) (by refine congrArg (fun b => AV.d (boo b)) ?_; unfold ruN; rw [g1]; rfl) ?_
      refine OW_build' hE rfl rfl rfl rfl rfl ?_
      refine OW.le (LE_slot 40 (argL (ruE k i)) (AVle.agg (.cons (.refl _) (.cons (.refl _) (.cons (.refl _) (.cons (.refl _) (.cons (.refl _) (.cons (.refl _) (.cons (.refl _) (.cons (.refl _) (.cons (.refl _) (.cons (.refl _) (.cons (.nilSl 7 96) .nil))))))))))))) ?_
      refine OW_lits' hE rfl rfl rfl rfl rfl rfl rfl rfl rfl rfl rfl rfl ?_
      refine OW_append' hE (key := 51) rfl rfl rfl rfl rfl rfl rfl rfl (.inl rfl) (by simp [ruEs_len]; omega) (by simp [ruEs_len]; omega) rfl ?_
      refine OW_run' hE.ok 1 rfl ?_
      refine OW_store' hE rfl rfl rfl rfl rfl rfl rfl rfl rfl rfl rfl rfl ?_
      refine OW_end rfl ?_
      refine CW_region ?_
      refine OW_run' hE.ok 3 rfl ?_
      refine OW_end rfl ?_
      exact ⟨⟨i + 1, by omega⟩, LE_sh (slh_set (slh_set (slh_set (slh_set (slh_no _ _) rfl rfl) rfl rfl) rfl rfl) (by show AV.d (.lit (.int .i64 (IntKind.i64.wrap ((i : Int) + 1)))) = _; rw [wrap_succ (by omega)]; rfl) rfl) (hlh_set (hlh_set (hlh_no _ _) rfl rfl) (congrArg (fun z => some (Ent.row 41 11 z)) (ruEs_snoc k i)) rfl), by show k - (i + 1) < k - i; omega⟩
    · skip
      have g1 : (((i % 2 : Nat) : Int) == 1) = false := h2
      refine OW_run' hE.ok 5 rfl ?_
      refine OW_as' 39 (.d (boo (ruN k i))) (by refine congrArg (fun b => AV.d (boo b)) ?_; unfold ruN; rw [g1]; rfl) ?_
      refine OW_build' hE rfl rfl rfl rfl rfl ?_
      refine OW.le (LE_slot 40 (argL (ruE k i)) (AVle.agg (.cons (.refl _) (.cons (.refl _) (.cons (.refl _) (.cons (.refl _) (.cons (.refl _) (.cons (.refl _) (.cons (.refl _) (.cons (.refl _) (.cons (.refl _) (.cons (.refl _) (.cons (.nilSl 7 96) .nil))))))))))))) ?_
      refine OW_lits' hE rfl rfl rfl rfl rfl rfl rfl rfl rfl rfl rfl rfl ?_
      refine OW_append' hE (key := 51) rfl rfl rfl rfl rfl rfl rfl rfl (.inl rfl) (by simp [ruEs_len]; omega) (by simp [ruEs_len]; omega) rfl ?_
      refine OW_run' hE.ok 1 rfl ?_
      refine OW_store' hE rfl rfl rfl rfl rfl rfl rfl rfl rfl rfl rfl rfl ?_
      refine OW_end rfl ?_
      refine CW_region ?_
      refine OW_run' hE.ok 3 rfl ?_
      refine OW_end rfl ?_
      exact ⟨⟨i + 1, by omega⟩, LE_sh (slh_set (slh_set (slh_set (slh_set (slh_no _ _) rfl rfl) rfl rfl) rfl rfl) (by show AV.d (.lit (.int .i64 (IntKind.i64.wrap ((i : Int) + 1)))) = _; rw [wrap_succ (by omega)]; rfl) rfl) (hlh_set (hlh_set (hlh_no _ _) rfl rfl) (congrArg (fun z => some (Ent.row 41 11 z)) (ruEs_snoc k i)) rfl), by show k - (i + 1) < k - i; omega⟩
  · skip
    have hki : i = k := by have := h1; simp at this; omega
    refine CW_exit ?_
    show CW _ _ _ _
    refine CW_seq ?_
    refine CW.le (show LE _ _ ⟨J, (sset (sset (sset noSlots 1 (.d (.lit (.int .u8 (wh.toNat : Int))))) 5 (.d (int ((k : Nat) : Int)))) 6 (.ptr 1 0)), (hset (hset noHeap 1 (some (.box 37 [.row 51, .d (int 10), .d (str nul), .d (boo false)]))) 51 (some (.row 41 11 ((ruEs k k).map encL))))⟩ from LE_sh (slh_set (slh_set (slh_set (slh_no _ _) rfl rfl) rfl rfl) rfl rfl) (hlh_set (hlh_set (hlh_no _ _) rfl rfl) (congrArg (fun z => some (Ent.row 41 11 ((ruEs k z).map encL))) hki) rfl)) ?_
    have q := isPatOk (ruP k); rw [ru_good hk1 hk5] at q
    refine CW_region ?_
    refine OW_run' hE.ok 1 rfl ?_
    refine OW_callLend' hE (LE_freeze 51 144 rfl (by simp [ruEs_len]; omega)) q rfl rfl rfl rfl rfl rfl ?_
    refine OW_run' hE.ok 1 rfl ?_
    refine OW_end rfl ?_
    refine CW_seq ?_
    refine CW_region ?_
    refine OW_run' hE.ok 1 rfl ?_
    refine OW_end rfl ?_
    refine CW_cutE (fun _ : Unit => ⟨J, (sset (sset (sset (sset noSlots 5 (.d (int ((k : Nat) : Int)))) 6 (.ptr 1 0)) 8 (.d (boo true))) 9 (.d (boo (ruB k c)))), (hset (hset noHeap 1 (some (.box 37 [.row 51, .d (int (ruW c)), .d (str (ruY c)), .d (boo (c == 8))]))) 51 (some (.row 41 11 ((ruS k c).map encL))))⟩) (fun _ => True) ?_ ?_
    · skip
      refine CW_seq ?_
      refine CW_region ?_
      refine OW_run' hE.ok 2 rfl ?_
      refine OW_as' 47 (.d (.lit (.int .u8 ((c : Nat) : Int)))) (by show AV.d (.lit (.int .u8 ((wh.toNat % 9 : Nat) : Int))) = _; rw [hc0]) ?_
      refine OW_end rfl ?_
      refine CW_block ?_
      refine CW_seq ?_
      refine CW_region ?_
      refine OW_run' hE.ok 2 rfl ?_
      refine OW_end rfl ?_
      refine CW_cond _ rfl (fun h3 => ?_) (fun h3 => ?_)
      · skip
        have hc : c = 0 := by have := h3; simp at this; omega
        subst hc
        refine CW_seq ?_
        refine CW_region ?_
        refine OW_run' hE.ok 2 rfl ?_
        refine OW_loc' hE (loc_idxRow hE rfl rfl rfl rfl rfl (j := 0) rfl (by simp [ruEs_len]; omega)) rfl rfl rfl ?_
        refine OW_run' hE.ok 1 rfl ?_
        refine OW_storeRow' hE rfl rfl rfl rfl rfl rfl (j := 0) (off := 3) rfl rfl (x := encL (ruE k (0))) (by simp [ruEs_get (show 0 < k by omega)]) (y := [boo true]) rfl rfl rfl (by decide) (xs' := ((ruEs k k).set (0) { ruE k 0 with neg := true }).map encL) (by rw [List.map_set]; rfl) ?_
        refine OW_end rfl ?_
        refine CW_region ?_
        refine OW_run' hE.ok 1 rfl ?_
        refine OW_end rfl ?_
        exact ⟨(), trivial, LE_sh (slh_set (slh_set (slh_set (slh_set (slh_no _ _) rfl rfl) rfl rfl) rfl rfl) rfl rfl) (hlh_set (hlh_set (hlh_no _ _) rfl rfl) rfl rfl)⟩
      · skip
        have z0 : c ≠ 0 := by have := h3; simp at this; omega
        refine CW_seq ?_
        refine CW_region ?_
        refine OW_run' hE.ok 2 rfl ?_
        refine OW_end rfl ?_
        refine CW_cond _ rfl (fun h4 => ?_) (fun h4 => ?_)
        · skip
          have hc : c = 1 := by have := h4; simp at this; omega
          subst hc
          refine CW_seq ?_
          refine CW_region ?_
          refine OW_run' hE.ok 4 rfl ?_
          refine OW_as' 60 (.d (int ((k - 1 : Nat) : Int))) (by show AV.d (.lit (.int .i64 (IntKind.i64.wrap ((k : Int) - 1)))) = _; rw [show ((k : Int) - 1) = ((k - 1 : Nat) : Int) by omega, wrapN (by omega)]; rfl) ?_
          refine OW_loc' hE (loc_idxRow hE rfl rfl rfl rfl rfl (j := k - 1) rfl (by simp [ruEs_len]; omega)) rfl rfl rfl ?_
          refine OW_run' hE.ok 1 rfl ?_
          refine OW_storeRow' hE rfl rfl rfl rfl rfl rfl (j := k - 1) (off := 3) rfl rfl (x := encL (ruE k (k - 1))) (by simp [ruEs_get (show k - 1 < k by omega)]) (y := [boo true]) rfl rfl rfl (by decide) (xs' := ((ruEs k k).set (k - 1) { ruE k (k - 1) with neg := true }).map encL) (by rw [List.map_set]; rfl) ?_
          refine OW_end rfl ?_
          refine CW_region ?_
          refine OW_run' hE.ok 1 rfl ?_
          refine OW_end rfl ?_
          exact ⟨(), trivial, LE_sh (slh_set (slh_set (slh_set (slh_set (slh_no _ _) rfl rfl) rfl rfl) rfl rfl) rfl rfl) (hlh_set (hlh_set (hlh_no _ _) rfl rfl) rfl rfl)⟩
        · skip
          have z1 : c ≠ 1 := by have := h4; simp at this; omega
          refine CW_seq ?_
          refine CW_region ?_
          refine OW_run' hE.ok 2 rfl ?_
          refine OW_end rfl ?_
          refine CW_cond _ rfl (fun h5 => ?_) (fun h5 => ?_)
          · skip
            have hc : c = 2 := by have := h5; simp at this; omega
            subst hc
            refine CW_seq ?_
            refine CW_region ?_
            refine OW_run' hE.ok 2 rfl ?_
            refine OW_lits' hE rfl rfl rfl rfl rfl rfl rfl rfl rfl rfl rfl rfl ?_
            refine OW_loc' hE (loc_idxRow hE rfl rfl rfl rfl rfl (j := 0) rfl (by simp [ruEs_len]; omega)) rfl rfl rfl ?_
            refine OW_run' hE.ok 1 rfl ?_
            refine OW_storeRow' hE rfl rfl rfl rfl rfl rfl (j := 0) (off := 1) rfl rfl (x := encL (ruE k (0))) (by simp [ruEs_get (show 0 < k by omega)]) (y := [.sl 1 16 [encB kU, encB kTt]]) rfl rfl rfl (by decide) (xs' := ((ruEs k k).set (0) { ruE k 0 with tys := [kU, kTt] }).map encL) (by rw [List.map_set]; rfl) ?_
            refine OW_end rfl ?_
            refine CW_region ?_
            refine OW_run' hE.ok 1 rfl ?_
            refine OW_end rfl ?_
            exact ⟨(), trivial, LE_sh (slh_set (slh_set (slh_set (slh_set (slh_no _ _) rfl rfl) rfl rfl) rfl rfl) rfl rfl) (hlh_set (hlh_set (hlh_no _ _) rfl rfl) rfl rfl)⟩
          · skip
            have z2 : c ≠ 2 := by have := h5; simp at this; omega
            refine CW_seq ?_
            refine CW_region ?_
            refine OW_run' hE.ok 2 rfl ?_
            refine OW_end rfl ?_
            refine CW_cond _ rfl (fun h6 => ?_) (fun h6 => ?_)
            · skip
              have hc : c = 3 := by have := h6; simp at this; omega
              subst hc
              refine CW_seq ?_
              refine CW_region ?_
              refine OW_run' hE.ok 2 rfl ?_
              refine OW_loc' hE (loc_idxRow hE rfl rfl rfl rfl rfl (j := 0) rfl (by simp [ruEs_len]; omega)) rfl rfl rfl ?_
              refine OW_run' hE.ok 1 rfl ?_
              refine OW_storeRow' hE rfl rfl rfl rfl rfl rfl (j := 0) (off := 0) rfl rfl (x := encL (ruE k (0))) (by simp [ruEs_get (show 0 < k by omega)]) (y := [str kAB]) rfl rfl rfl (by decide) (xs' := ((ruEs k k).set (0) { ruE k 0 with al := kAB }).map encL) (by rw [List.map_set]; rfl) ?_
              refine OW_end rfl ?_
              refine CW_region ?_
              refine OW_run' hE.ok 3 rfl ?_
              refine OW_end rfl ?_
              exact ⟨(), trivial, LE_sh (slh_set (slh_set (slh_set (slh_set (slh_no _ _) rfl rfl) rfl rfl) rfl rfl) rfl rfl) (hlh_set (hlh_set (hlh_no _ _) rfl rfl) rfl rfl)⟩
            · skip
              have z3 : c ≠ 3 := by have := h6; simp at this; omega
              refine CW_seq ?_
              refine CW_region ?_
              refine OW_run' hE.ok 2 rfl ?_
              refine OW_end rfl ?_
              refine CW_cond _ rfl (fun h7 => ?_) (fun h7 => ?_)
              · skip
                have hc : c = 4 := by have := h7; simp at this; omega
                subst hc
                refine CW_seq ?_
                refine CW_region ?_
                refine OW_run' hE.ok 1 rfl ?_
                refine OW_store' hE rfl rfl rfl rfl rfl rfl rfl rfl rfl rfl rfl rfl ?_
                refine OW_end rfl ?_
                refine CW_region ?_
                refine OW_run' hE.ok 1 rfl ?_
                refine OW_end rfl ?_
                exact ⟨(), trivial, LE_sh (slh_set (slh_set (slh_set (slh_set (slh_no _ _) rfl rfl) rfl rfl) rfl rfl) rfl rfl) (hlh_set (hlh_set (hlh_no _ _) rfl rfl) rfl rfl)⟩
              · skip
                have z4 : c ≠ 4 := by have := h7; simp at this; omega
                refine CW_seq ?_
                refine CW_region ?_
                refine OW_run' hE.ok 2 rfl ?_
                refine OW_end rfl ?_
                refine CW_cond _ rfl (fun h8 => ?_) (fun h8 => ?_)
                · skip
                  have hc : c = 5 := by have := h8; simp at this; omega
                  subst hc
                  refine CW_seq ?_
                  refine CW_region ?_
                  refine OW_run' hE.ok 1 rfl ?_
                  refine OW_store' hE rfl rfl rfl rfl rfl rfl rfl rfl rfl rfl rfl rfl ?_
                  refine OW_end rfl ?_
                  refine CW_region ?_
                  refine OW_run' hE.ok 1 rfl ?_
                  refine OW_end rfl ?_
                  exact ⟨(), trivial, LE_sh (slh_set (slh_set (slh_set (slh_set (slh_no _ _) rfl rfl) rfl rfl) rfl rfl) rfl rfl) (hlh_set (hlh_set (hlh_no _ _) rfl rfl) rfl rfl)⟩
                · skip
                  have z5 : c ≠ 5 := by have := h8; simp at this; omega
                  refine CW_seq ?_
                  refine CW_region ?_
                  refine OW_run' hE.ok 2 rfl ?_
                  refine OW_end rfl ?_
                  refine CW_cond _ rfl (fun h9 => ?_) (fun h9 => ?_)
                  · skip
                    have hc : c = 6 := by have := h9; simp at this; omega
                    subst hc
                    refine CW_seq ?_
                    refine CW_region ?_
                    refine OW_run' hE.ok 2 rfl ?_
                    refine OW_loc' hE (loc_idxRow hE rfl rfl rfl rfl rfl (j := 0) rfl (by simp [ruEs_len]; omega)) rfl rfl rfl ?_
                    refine OW_run' hE.ok 1 rfl ?_
                    refine OW_storeRow' hE rfl rfl rfl rfl rfl rfl (j := 0) (off := 1) rfl rfl (x := encL (ruE k (0))) (by simp [ruEs_get (show 0 < k by omega)]) (y := [.lit (.slice none 0 0)]) rfl rfl rfl (by decide) rfl ?_
                    refine OW.le (LE_rowLe 51 (xs' := ((ruEs k k).set 0 { ruE k 0 with tys := [] }).map encL) rfl (by simp) (fun _ => map_len11) (by rw [List.map_set]; exact Dles.set2 (.cons (.refl _) (.cons (.nilSl 1 16) (.refl _))))) ?_
                    refine OW_end rfl ?_
                    refine CW_region ?_
                    refine OW_run' hE.ok 1 rfl ?_
                    refine OW_end rfl ?_
                    exact ⟨(), trivial, LE_sh (slh_set (slh_set (slh_set (slh_set (slh_no _ _) rfl rfl) rfl rfl) rfl rfl) rfl rfl) (hlh_set (hlh_set (hlh_no _ _) rfl rfl) rfl rfl)⟩
                  · skip
                    have z6 : c ≠ 6 := by have := h9; simp at this; omega
                    refine CW_seq ?_
                    refine CW_region ?_
                    refine OW_run' hE.ok 2 rfl ?_
                    refine OW_end rfl ?_
                    refine CW_cond _ rfl (fun h10 => ?_) (fun h10 => ?_)
                    · skip
                      have hc : c = 7 := by have := h10; simp at this; omega
                      subst hc
                      refine CW_region ?_
                      refine OW_run' hE.ok 2 rfl ?_
                      refine OW_loc' hE (loc_idxRow hE rfl rfl rfl rfl rfl (j := 0) rfl (by simp [ruEs_len]; omega)) rfl rfl rfl ?_
                      refine OW_run' hE.ok 1 rfl ?_
                      refine OW_storeRow' hE rfl rfl rfl rfl rfl rfl (j := 0) (off := 2) rfl rfl (x := encL (ruE k (0))) (by simp [ruEs_get (show 0 < k by omega)]) (y := [boo true]) rfl rfl rfl (by decide) (xs' := ((ruEs k k).set (0) { ruE k 0 with plus := true }).map encL) (by rw [List.map_set]; rfl) ?_
                      refine OW_end rfl ?_
                      exact ⟨(), trivial, LE_sh (slh_set (slh_set (slh_set (slh_set (slh_no _ _) rfl rfl) rfl rfl) rfl rfl) rfl rfl) (hlh_set (hlh_set (hlh_no _ _) rfl rfl) rfl rfl)⟩
                    · skip
                      have z7 : c ≠ 7 := by have := h10; simp at this; omega
                      have hc : c = 8 := by omega
                      subst hc
                      refine CW_region ?_
                      refine OW_run' hE.ok 1 rfl ?_
                      refine OW_store' hE rfl rfl rfl rfl rfl rfl rfl rfl rfl rfl rfl rfl ?_
                      refine OW_end rfl ?_
                      exact ⟨(), trivial, LE_sh (slh_set (slh_set (slh_set (slh_set (slh_no _ _) rfl rfl) rfl rfl) rfl rfl) rfl rfl) (hlh_set (hlh_set (hlh_no _ _) rfl rfl) rfl rfl)⟩
    · skip
      rintro _ _
      have q := isPatOk (ruQ k c); rw [ru_bad hk1 hk5 hc9] at q
      refine CW.le (LE_freeze 51 144 rfl (by simp [ruS_len]; omega)) ?_
      refine CW_seq ?_
      refine CW_region ?_
      refine OW_run' hE.ok 3 rfl ?_
      refine OW_call' hE (q) rfl rfl rfl rfl rfl rfl rfl ?_
      refine OW_run' hE.ok 3 rfl ?_
      refine OW_as' 102 (.d (boo true)) (by refine congrArg (fun b => AV.d (boo b)) ?_; simp) ?_
      refine OW_run' hE.ok 1 rfl ?_
      refine OW_run' hE.ok 1 rfl ?_
      refine OW_end rfl ?_
      refine CW_ret ?_
      refine ⟨.inr rfl, rfl, ⟨[.d (boo true)], rfl, rfl, ?_⟩, rfl⟩
      exact AVle.refl _
end Go.Proofs.Ythffbfjnahipcaa
