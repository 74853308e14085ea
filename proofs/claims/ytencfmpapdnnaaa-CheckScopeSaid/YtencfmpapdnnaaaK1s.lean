/- Parts of an abstract logic over the kit's walks, and walks in it: K1s. -/
import Derived.Test.YtencfmpapdnnaaaK1n
namespace Go.Proofs.Ytencfmpapdnnaaa
open Go Go.AL
set_option linter.unusedVariables false
set_option linter.unusedSimpArgs false
set_option maxHeartbeats 4000000
theorem scopeOk (n1 at1 to1 : UInt8) (nt : Bool) : Does Try.prog 4 [.d (.lit (.int .u8 (n1.toNat : Int))), .d (.lit (.int .u8 (at1.toNat : Int))), .d (.lit (.int .u8 (to1.toNat : Int))), .d (boo nt)] noHeap (.d (boo true)) := by
  refine Does_of T_ok mixed (N := 97) Try.func4 rfl rfl rfl (by rfl) fun F n Z hE hF J => ?_
  refine CW_seq ?_
  refine CW_region ?_
  refine OW_run' hE.ok 1 rfl ?_
  refine OW_end rfl ?_
  refine CW_seq ?_
  refine CW_seq ?_
  refine CW_region ?_
  refine OW_call' hE (known10) rfl rfl rfl rfl rfl rfl rfl ?_
  refine OW_run' hE.ok 1 rfl ?_
  refine OW_end rfl ?_
  refine CW_false rfl ?_
  refine CW_skip ?_
  refine CW_seq ?_
  obtain ⟨k, hk⟩ : ∃ k, n1.toNat % 3 + 3 = k := ⟨_, rfl⟩
  have hk3 : k = 3 ∨ k = 4 ∨ k = 5 := by omega
  have ha1 := at1.toNat_lt
  have ht1 := to1.toNat_lt
  obtain ⟨i, hi0⟩ : ∃ i, at1.toNat % k = i := ⟨_, rfl⟩
  have hi : i < k := by rw [← hi0]; exact Nat.mod_lt _ (by omega)
  obtain ⟨j, hj0⟩ : ∃ j, to1.toNat % k = j := ⟨_, rfl⟩
  have hj : j < k := by rw [← hj0]; exact Nat.mod_lt _ (by omega)
  refine CW_region ?_
  refine OW_run' hE.ok 5 rfl ?_
  refine OW_as' 9 (.d (int ((k : Nat) : Int))) (by show AV.d (.lit (.int .i64 (IntKind.i64.wrap (IntKind.i64.wrap ((n1.toNat % 3 : Nat) : Int) + 3)))) = _; rw [wrapN (by omega), show (((n1.toNat % 3 : Nat) : Int) + 3) = ((n1.toNat % 3 + 3 : Nat) : Int) by omega, hk, wrapN (by omega)]; rfl) ?_
  refine OW_end rfl ?_
  refine CW_seq ?_
  refine CW_drawn' hE 9 (by decide +kernel) ?_
  refine HW_run hE 3 rfl rfl ?_
  refine HW_as 23 (.d (int ((at1.toNat : Nat) : Int))) (by show AV.d (.lit (.int .i64 (IntKind.i64.wrap ((at1.toNat : Nat) : Int)))) = _; rw [wrapN (by omega)]; rfl) ?_
  refine HW_loc hE (loc_rem hE rfl rfl rfl (by omega)) rfl rfl rfl rfl ?_
  refine HW_as 25 (.d (int ((i : Nat) : Int))) (by rw [← hi0]; rfl) ?_
  refine HW_run hE 3 rfl rfl ?_
  refine HW_as 27 (.d (int ((to1.toNat : Nat) : Int))) (by show AV.d (.lit (.int .i64 (IntKind.i64.wrap ((to1.toNat : Nat) : Int)))) = _; rw [wrapN (by omega)]; rfl) ?_
  refine HW_loc hE (loc_rem hE rfl rfl rfl (by omega)) rfl rfl rfl rfl ?_
  refine HW_as 29 (.d (int ((j : Nat) : Int))) (by rw [← hj0]; rfl) ?_
  refine HW_run hE 1 rfl rfl ?_
  refine HW_end ?_
  refine OW_run' hE.ok 1 rfl ?_
  refine OW_end rfl ?_
  refine CW_seq ?_
  refine CW_region ?_
  refine OW_build' hE rfl rfl rfl rfl rfl ?_
  refine OW_alloc' hE 1 rfl rfl rfl rfl rfl rfl rfl ?_
  refine OW_store' hE rfl rfl rfl rfl rfl rfl rfl rfl rfl rfl rfl rfl ?_
  refine OW_end rfl ?_
  refine CW_seq ?_
  refine CW_seq ?_
  refine CW_region ?_
  refine OW_run' hE.ok 1 rfl ?_
  refine OW_end rfl ?_
  refine CW_block ?_
  rw [hset_hset]
  refine CW.le (LE_nilCell 1 51 0 41 11 rfl rfl rfl) ?_
  refine CW_loop (σ := {q : Nat // q ≤ k}) (fun q => ⟨J, (sset (sset (sset (sset (sset (sset noSlots 3 (.d (boo nt))) 9 (.d (int ((k : Nat) : Int)))) 10 (.d (int ((i : Nat) : Int)))) 11 (.d (int ((j : Nat) : Int)))) 12 (.ptr 1 0)) 13 (.d (int ((q.1 : Nat) : Int)))), (hset (hset noHeap 1 (some (.box 48 [.row 51, .d (int 5), .d (str nul), .d (boo false)]))) 51 (some (.row 41 11 ((scEs nt q.1).map encL))))⟩) (fun q => k - q.1) ⟨0, Nat.zero_le _⟩ (LE_sh (slh_set (slh_set (slh_set (slh_set (slh_set (slh_set (slh_no _ _) rfl rfl) rfl rfl) rfl rfl) rfl rfl) rfl rfl) rfl rfl) (hlh_set (hlh_set (hlh_no _ _) rfl rfl) rfl rfl)) fun ⟨q, hq⟩ => ?_
  refine CW_seq ?_
  refine CW_seq ?_
  refine CW_region ?_
  refine OW_run' hE.ok 3 rfl ?_
  refine OW_end rfl ?_
  refine CW_cond _ rfl (fun h1 => ?_) (fun h1 => ?_)
  · skip
    have hlt : q < k := by have := h1; simp at this; omega
    refine CW_skip ?_
    refine CW_seq ?_
    refine CW_block ?_
    refine CW_region ?_
    refine OW_run' hE.ok 4 rfl ?_
    refine OW_as' 39 (.d (int ((97 + q : Nat) : Int))) (by show AV.d (.lit (.int .i64 (IntKind.i64.wrap (97 + (q : Int))))) = _; rw [show (97 + (q : Int)) = ((97 + q : Nat) : Int) by omega, wrapN (by omega)]; rfl) ?_
    refine OW_run' hE.ok 1 rfl ?_
    refine OW_as' 40 (.d (.lit (.int .u8 ((UInt8.ofNat (97 + q)).toNat : Int)))) (by show AV.d (.lit (.int .u8 (IntKind.u8.wrap ((97 + q : Nat) : Int)))) = _; rw [wrapB (by omega)]) ?_
    refine OW_litsOwn' hE 52 rfl rfl rfl rfl rfl rfl rfl rfl rfl rfl rfl rfl ?_
    refine OW_bytesString' hE (key := 52) (bs := [UInt8.ofNat (97 + q)]) rfl rfl rfl rfl rfl rfl rfl rfl rfl rfl ?_
    refine OW_loc' hE (loc_concat hE rfl rfl rfl (by show 1 + 1 ≤ _; omega)) rfl rfl rfl ?_
    refine OW_as' 43 (.d (str (ruA 101 q))) (by rfl) ?_
    refine OW_lits' hE rfl rfl rfl rfl rfl rfl rfl rfl rfl rfl rfl rfl ?_
    refine OW_run' hE.ok 2 rfl ?_
    refine OW_split' 46 rfl (fun h2 => ?_) (fun h2 => ?_)
    · skip
      have gn : nt = true := h2
      refine OW_run' hE.ok 3 rfl ?_
      refine OW_as' 49 (.d (boo (nt && ((q : Nat) : Int) == 1))) (by refine congrArg (fun b => AV.d (boo b)) ?_; rw [gn]; first | rfl | simp) ?_
      refine OW_build' hE rfl rfl rfl rfl rfl ?_
      refine OW.le (LE_slot 50 (argL ⟨(ruA 101 q), [ch 116], false, (nt && ((q : Nat) : Int) == 1), zeroX⟩) (el_le (ruA 101 q) [ch 116] (nt && ((q : Nat) : Int) == 1))) ?_
      refine OW_lits' hE rfl rfl rfl rfl rfl rfl rfl rfl rfl rfl rfl rfl ?_
      refine OW_append' hE (key := 51) rfl rfl rfl rfl rfl rfl rfl rfl (.inl rfl) (by simp [scEs_len]; omega) (by simp [scEs_len]; omega) rfl ?_
      refine OW_run' hE.ok 1 rfl ?_
      refine OW_store' hE rfl rfl rfl rfl rfl rfl rfl rfl rfl rfl rfl rfl ?_
      refine OW_end rfl ?_
      refine CW_region ?_
      refine OW_run' hE.ok 3 rfl ?_
      refine OW_end rfl ?_
      exact ⟨⟨q + 1, by omega⟩, LE_sh (slh_set (slh_set (slh_set (slh_set (slh_set (slh_set (slh_no _ _) rfl rfl) rfl rfl) rfl rfl) rfl rfl) rfl rfl) (by show AV.d (.lit (.int .i64 (IntKind.i64.wrap ((q : Int) + 1)))) = _; rw [wrap_succ (by omega)]; rfl) rfl) (hlh_set (hlh_set (hlh_no _ _) rfl rfl) (congrArg (fun z => some (Ent.row 41 11 z)) (scEs_snoc nt q)) rfl), by show k - (q + 1) < k - q; omega⟩
    · skip
      have gn : nt = false := h2
      refine OW_run' hE.ok 3 rfl ?_
      refine OW_as' 49 (.d (boo (nt && ((q : Nat) : Int) == 1))) (by refine congrArg (fun b => AV.d (boo b)) ?_; rw [gn]; first | rfl | simp) ?_
      refine OW_build' hE rfl rfl rfl rfl rfl ?_
      refine OW.le (LE_slot 50 (argL ⟨(ruA 101 q), [ch 116], false, (nt && ((q : Nat) : Int) == 1), zeroX⟩) (el_le (ruA 101 q) [ch 116] (nt && ((q : Nat) : Int) == 1))) ?_
      refine OW_lits' hE rfl rfl rfl rfl rfl rfl rfl rfl rfl rfl rfl rfl ?_
      refine OW_append' hE (key := 51) rfl rfl rfl rfl rfl rfl rfl rfl (.inl rfl) (by simp [scEs_len]; omega) (by simp [scEs_len]; omega) rfl ?_
      refine OW_run' hE.ok 1 rfl ?_
      refine OW_store' hE rfl rfl rfl rfl rfl rfl rfl rfl rfl rfl rfl rfl ?_
      refine OW_end rfl ?_
      refine CW_region ?_
      refine OW_run' hE.ok 3 rfl ?_
      refine OW_end rfl ?_
      exact ⟨⟨q + 1, by omega⟩, LE_sh (slh_set (slh_set (slh_set (slh_set (slh_set (slh_set (slh_no _ _) rfl rfl) rfl rfl) rfl rfl) rfl rfl) rfl rfl) (by show AV.d (.lit (.int .i64 (IntKind.i64.wrap ((q : Int) + 1)))) = _; rw [wrap_succ (by omega)]; rfl) rfl) (hlh_set (hlh_set (hlh_no _ _) rfl rfl) (congrArg (fun z => some (Ent.row 41 11 z)) (scEs_snoc nt q)) rfl), by show k - (q + 1) < k - q; omega⟩
  · skip
    have hqk : q = k := by have := h1; simp at this; omega
    refine CW_exit ?_
    show CW _ _ _ _
    refine CW_seq ?_
    refine CW.le (show LE _ _ ⟨J, (sset (sset (sset (sset (sset noSlots 3 (.d (boo nt))) 9 (.d (int ((k : Nat) : Int)))) 10 (.d (int ((i : Nat) : Int)))) 11 (.d (int ((j : Nat) : Int)))) 12 (.ptr 1 0)), (hset (hset noHeap 1 (some (.box 48 [.row 51, .d (int 5), .d (str nul), .d (boo false)]))) 51 (some (.row 41 11 ((scEs nt k).map encL))))⟩ from LE_sh (slh_set (slh_set (slh_set (slh_set (slh_set (slh_no _ _) rfl rfl) rfl rfl) rfl rfl) rfl rfl) rfl rfl) (hlh_set (hlh_set (hlh_no _ _) rfl rfl) (congrArg (fun z => some (Ent.row 41 11 ((scEs nt z).map encL))) hqk) rfl)) ?_
    refine CW_drawn' hE 10 (by decide +kernel) ?_
    refine HW_run hE 6 rfl rfl ?_
    refine HW_loc hE (loc_idxRow hE rfl rfl rfl rfl rfl (j := j) rfl (by simp [scEs_len]; omega)) rfl rfl rfl rfl ?_
    refine HW_run hE 1 rfl rfl ?_
    refine HW_loc hE (loc_loadRow hE rfl rfl rfl (j := j) (off := 0) (by omega) rfl (x := encL (scE nt j)) (by simp [scEs_get hj]) (Nat.zero_le _) rfl) rfl rfl rfl rfl ?_
    refine HW_call hE (field10 (ruA 101 j) (ch 98)) rfl rfl rfl rfl rfl rfl rfl rfl ?_
    refine HW_end ?_
    refine OW_loc' hE (loc_idxRow hE rfl rfl rfl rfl rfl (j := i) rfl (by simp [scEs_len]; omega)) rfl rfl rfl ?_
    refine OW_run' hE.ok 1 rfl ?_
    refine OW_storeRow' hE rfl rfl rfl rfl rfl (j := i) (off := 4) rfl (by omega) rfl (x := encL (scE nt i)) (by simp [scEs_get hi]) (y := encX (fldX (ruA 101 j) (ch 98))) rfl rfl rfl (by simp [encX_len]) (xs' := (scX nt k i j).map encL) (by unfold scX; rw [List.map_set]; rfl) ?_
    refine OW_end rfl ?_
    refine CW_cutE (fun _ : Unit => ⟨J, (sset (sset noSlots 12 (.ptr 1 0)) 14 (.d (boo (scG nt i j)))), (hset noHeap 1 (some (.box 48 ((encP (scP nt k i j)).map .d))))⟩) (fun _ => True) ?_ ?_
    · skip
      refine CW.le (LE_freeze 51 144 rfl (by simp [scX, scEs_len]; omega)) ?_
      refine CW.le (show LE _ _ ⟨J, (sset (sset (sset (sset noSlots 3 (.d (boo nt))) 10 (.d (int ((i : Nat) : Int)))) 11 (.d (int ((j : Nat) : Int)))) 12 (.ptr 1 0)), (hset noHeap 1 (some (.box 48 ((encP (scP nt k i j)).map .d))))⟩ from LE_sh (slh_set (slh_set (slh_set (slh_set (slh_no _ _) rfl rfl) rfl rfl) rfl rfl) rfl rfl) (hlh_set (hlh_no _ _) rfl rfl)) ?_
      refine CW_region ?_
      refine OW_run' hE.ok 4 rfl ?_
      refine OW_split' 69 rfl (fun h3 => ?_) (fun h3 => ?_)
      · skip
        have s1 : ((j : Int) == (i : Int)) = true := h3
        refine OW_run' hE.ok 13 rfl ?_
        refine OW_as' 14 (.d (boo (scG nt i j))) (by refine congrArg (fun b => AV.d (boo b)) ?_; unfold scG; first | (rw [s1]; rfl) | (rw [s1, s2]; rfl) | (rw [s1, s2, s3]; first | rfl | simp) | simp_all) ?_
        refine OW.le (LE_slot 81 .any (fun _ _ _ => by simp only [RA])) ?_
        refine OW_end rfl ?_
        exact ⟨(), trivial, LE_sh (slh_set (slh_set (slh_no _ _) rfl rfl) rfl rfl) (hlh_set (hlh_no _ _) rfl rfl)⟩
      · skip
        have s1 : ((j : Int) == (i : Int)) = false := h3
        refine OW_run' hE.ok 4 rfl ?_
        refine OW_split' 73 rfl (fun h4 => ?_) (fun h4 => ?_)
        · skip
          have s2 : decide ((j : Int) < (i : Int)) = true := h4
          refine OW_run' hE.ok 2 rfl ?_
          refine OW_split' 75 rfl (fun h5 => ?_) (fun h5 => ?_)
          · skip
            have s3 : nt = true := h5
            refine OW_run' hE.ok 7 rfl ?_
            refine OW_as' 14 (.d (boo (scG nt i j))) (by refine congrArg (fun b => AV.d (boo b)) ?_; unfold scG; first | (rw [s1]; rfl) | (rw [s1, s2]; rfl) | (rw [s1, s2, s3]; first | rfl | simp) | simp_all) ?_
            refine OW.le (LE_slot 81 .any (fun _ _ _ => by simp only [RA])) ?_
            refine OW_end rfl ?_
            exact ⟨(), trivial, LE_sh (slh_set (slh_set (slh_no _ _) rfl rfl) rfl rfl) (hlh_set (hlh_no _ _) rfl rfl)⟩
          · skip
            have s3 : nt = false := h5
            refine OW_run' hE.ok 7 rfl ?_
            refine OW_as' 14 (.d (boo (scG nt i j))) (by refine congrArg (fun b => AV.d (boo b)) ?_; unfold scG; first | (rw [s1]; rfl) | (rw [s1, s2]; rfl) | (rw [s1, s2, s3]; first | rfl | simp) | simp_all) ?_
            refine OW.le (LE_slot 81 .any (fun _ _ _ => by simp only [RA])) ?_
            refine OW_end rfl ?_
            exact ⟨(), trivial, LE_sh (slh_set (slh_set (slh_no _ _) rfl rfl) rfl rfl) (hlh_set (hlh_no _ _) rfl rfl)⟩
        · skip
          have s2 : decide ((j : Int) < (i : Int)) = false := h4
          refine OW_run' hE.ok 9 rfl ?_
          refine OW_as' 14 (.d (boo (scG nt i j))) (by refine congrArg (fun b => AV.d (boo b)) ?_; unfold scG; first | (rw [s1]; rfl) | (rw [s1, s2]; rfl) | (rw [s1, s2, s3]; first | rfl | simp) | simp_all) ?_
          refine OW.le (LE_slot 81 .any (fun _ _ _ => by simp only [RA])) ?_
          refine OW_end rfl ?_
          exact ⟨(), trivial, LE_sh (slh_set (slh_set (slh_no _ _) rfl rfl) rfl rfl) (hlh_set (hlh_no _ _) rfl rfl)⟩
    · skip
      rintro _ _
      have hf := sc_facts (nt := nt) hk3 hi hj
      have he := patCOk bS10 (scP nt k i j)
      obtain ⟨c, hc⟩ : ∃ c, patC bS10 (scP nt k i j) = c := ⟨_, rfl⟩
      rw [hc] at hf he
      unfold scT at hf
      obtain ⟨g, hg⟩ : ∃ g, scG nt i j = g := ⟨_, rfl⟩
      rw [hg] at hf
      rw [hg]
      refine CW_seq ?_
      refine CW_drawn' hE 2 (by decide +kernel) ?_
      refine HW_call hE (base10) rfl rfl rfl rfl rfl rfl rfl rfl ?_
      refine HW_run hE 1 rfl rfl ?_
      refine HW_end ?_
      refine OW_call' hE (he) rfl rfl rfl rfl rfl rfl rfl ?_
      refine OW_run' hE.ok 1 rfl ?_
      refine OW_end rfl ?_
      refine CW_seq ?_
      refine CW_region ?_
      refine OW_run' hE.ok 1 rfl ?_
      refine OW_loc' hE (loc_errEq hE rfl rfl rfl) rfl rfl rfl ?_
      refine OW_run' hE.ok 1 rfl ?_
      refine OW_run' hE.ok 1 rfl ?_
      refine OW_as' 88 (.d (boo true)) (by refine congrArg (fun b => AV.d (boo b)) ?_; cases g <;> simp_all) ?_
      refine OW_run' hE.ok 3 rfl ?_
      refine OW_split' 91 rfl (fun h6 => ?_) (fun h6 => ?_)
      · skip
        have g9 : g = true := h6
        refine OW_run' hE.ok 6 rfl ?_
        refine OW_end rfl ?_
        refine CW_ret ?_
        refine ⟨.inr rfl, rfl, ⟨[.d (boo true)], rfl, rfl, ?_⟩, rfl⟩
        exact AVle.refl _
      · skip
        have g9 : g = false := h6
        have hc13 : c = 13 := by rw [g9] at hf; simpa using hf
        subst hc13
        rw [show errC 45 13 = errN 45 13 from rfl]
        refine OW_run' hE.ok 2 rfl ?_
        refine OW_call' hE (errIs 13 13) rfl rfl rfl rfl rfl rfl rfl ?_
        refine OW_run' hE.ok 3 rfl ?_
        refine OW_end rfl ?_
        refine CW_ret ?_
        refine ⟨.inr rfl, rfl, ⟨[.d (boo true)], rfl, rfl, ?_⟩, rfl⟩
        exact AVle.refl _
end Go.Proofs.Ytencfmpapdnnaaa
