/- Parts of an abstract logic over the kit's walks, and walks in it: K1x. -/
import Derived.Test.YtencfmpapdnnaaaK1n
namespace Go.Proofs.Ytencfmpapdnnaaa
open Go Go.AL
set_option linter.unusedVariables false
set_option linter.unusedSimpArgs false
set_option maxHeartbeats 4000000
theorem opsOk (op1 a1 b1 : UInt8) : Does Try.prog 3 [.d (.lit (.int .u8 (op1.toNat : Int))), .d (.lit (.int .u8 (a1.toNat : Int))), .d (.lit (.int .u8 (b1.toNat : Int)))] noHeap (.d (boo true)) := by
  refine Does_of T_ok mixed (N := 107) Try.func3 rfl rfl rfl (by rfl) fun F n Z hE hF J => ?_
  refine CW_seq ?_
  refine CW_region ?_
  refine OW_run' hE.ok 1 rfl ?_
  refine OW_end rfl ?_
  refine CW_seq ?_
  refine CW_seq ?_
  refine CW_region ?_
  refine OW_call' hE (known10) rfl rfl rfl rfl rfl rfl rfl ?_
  refine OW_run' hE.ok 1 rfl ?_
  refine OW_end rfl ?_
  refine CW_false rfl ?_
  refine CW_skip ?_
  refine CW_seq ?_
  obtain ⟨q, hq⟩ : ∃ q, op1.toNat % 10 = q := ⟨_, rfl⟩
  have hq10 : q < 10 := by omega
  obtain ⟨i, hi0⟩ : ∃ i, a1.toNat % 3 = i := ⟨_, rfl⟩
  have hi : i < 3 := by omega
  obtain ⟨j, hj0⟩ : ∃ j, b1.toNat % 3 = j := ⟨_, rfl⟩
  have hj : j < 3 := by omega
  have hf := op_facts hq10 hi hj
  have ho9 : ((3 + q : Nat) : Int) ≤ 12 := by omega
  obtain ⟨o, ho⟩ : ∃ o, ((3 + q : Nat) : Int) = o := ⟨_, rfl⟩
  rw [ho] at hf
  refine CW_region ?_
  refine OW_run' hE.ok 5 rfl ?_
  refine OW_as' 7 (.d (int o)) (by show AV.d (.lit (.int .i64 (IntKind.i64.wrap (3 + IntKind.i64.wrap ((op1.toNat % 10 : Nat) : Int))))) = _; rw [wrapN (by omega), hq, ← ho, show (3 + ((q : Nat) : Int)) = ((3 + q : Nat) : Int) by omega, wrapN (by omega)]; rfl) ?_
  refine OW_end rfl ?_
  refine CW_seq ?_
  refine CW_region ?_
  refine OW_loc' hE (loc_buildA hE rfl rfl) rfl rfl rfl ?_
  refine OW_alloc' hE 1 rfl rfl rfl rfl rfl rfl rfl ?_
  refine OW_store' hE rfl rfl rfl rfl rfl rfl rfl rfl rfl rfl rfl rfl ?_
  refine OW_end rfl ?_
  refine CW_seq ?_
  refine CW_region ?_
  refine OW_run' hE.ok 8 rfl ?_
  refine OW_as' 9 (.d (int ((i : Nat) : Int))) (by show AV.d (.lit (.int .i64 (IntKind.i64.wrap ((a1.toNat % 3 : Nat) : Int)))) = _; rw [hi0, wrapN (by omega)]; rfl) ?_
  refine OW_as' 10 (.d (int ((j : Nat) : Int))) (by show AV.d (.lit (.int .i64 (IntKind.i64.wrap ((b1.toNat % 3 : Nat) : Int)))) = _; rw [hj0, wrapN (by omega)]; rfl) ?_
  refine OW_end rfl ?_
  refine CW_seq ?_
  refine CW_drawn6 hE 11 10 2 (by decide +kernel) rfl rfl rfl rfl rfl rfl rfl rfl rfl rfl ?_
  refine H2_run hE 2 rfl rfl rfl rfl rfl ?_
  refine H2_loc hE (fun b => loc_addrA hE rfl rfl rfl rfl rfl (by omega) (by omega)) rfl rfl rfl rfl rfl ?_
  refine H2_as 31 (.ptr 1 (i * 1)) (by show AV.ptr 1 (0 + ((i : Nat) : Int).toNat * 1) = _; rw [Int.toNat_natCast, Nat.zero_add]) ?_
  refine H2_loc hE (fun b => loc_loadBox hE rfl rfl rfl rfl (by exact op_name hi)) rfl rfl rfl rfl rfl ?_
  refine H2_call hE (field10 (ch 97) (nmO i)) rfl rfl rfl rfl rfl rfl rfl rfl rfl ?_
  refine H2_run hE 1 rfl rfl rfl rfl rfl ?_
  refine H2_loc hE (fun b => loc_addrA hE rfl rfl rfl rfl rfl (by omega) (by omega)) rfl rfl rfl rfl rfl ?_
  refine H2_as 35 (.ptr 1 (j * 1)) (by show AV.ptr 1 (0 + ((j : Nat) : Int).toNat * 1) = _; rw [Int.toNat_natCast, Nat.zero_add]) ?_
  refine H2_loc hE (fun b => loc_loadBox hE rfl rfl rfl rfl (by exact op_name hj)) rfl rfl rfl rfl rfl ?_
  refine H2_call hE (field10 (ch 97) (nmO j)) rfl rfl rfl rfl rfl rfl rfl rfl rfl ?_
  refine H2_call hE (two10 o (fldX (ch 97) (nmO i)) (fldX (ch 97) (nmO j))) rfl rfl rfl rfl rfl rfl rfl rfl rfl ?_
  refine H2_alloc rfl rfl rfl ?_
  refine H2_end ?_
  refine OW_store' hE rfl rfl rfl rfl rfl rfl rfl rfl rfl rfl rfl rfl ?_
  refine OW_end rfl ?_
  refine CW_cutE (fun _ : Unit => ⟨J, (sset (sset (sset (sset noSlots 7 (.d (int o))) 9 (.d (int ((i : Nat) : Int)))) 10 (.d (int ((j : Nat) : Int)))) 11 (.ptr 2 0)), (hset noHeap 2 (some (.box 28 [.d (int o), .d (int 0), .d (int 0), .d (str nul), .d (str nul), .d (str nul), .d (.sl 7 96 (encXs (opK o i j)))])))⟩) (fun _ => True) ?_ ?_
  · skip
    refine CW_seq ?_
    refine CW_region ?_
    refine OW_run' hE.ok 2 rfl ?_
    refine OW_end rfl ?_
    refine CW_cond _ rfl (fun h1 => ?_) (fun h1 => ?_)
    · skip
      have gA : (o == 12) = true := h1
      refine CW_region ?_
      refine OW_run' hE.ok 2 rfl ?_
      refine OW_loc' hE (loc_slice hE (lo := none) (hi := some (.const (.int .i64 1))) rfl rfl rfl rfl (l := 0) (u := 1) rfl ⟨.i64, rfl⟩ (by omega) (by simp [encXs_length])) rfl rfl rfl ?_
      refine OW_as' 43 (.d (.sl 7 96 (encXs [(fldX (ch 97) (nmO i))]))) (by rfl) ?_
      refine OW_run' hE.ok 1 rfl ?_
      refine OW_store' hE rfl rfl rfl rfl rfl rfl rfl rfl rfl rfl rfl rfl ?_
      refine OW_end rfl ?_
      exact ⟨(), trivial, LE_sh (slh_set (v := .ptr 2 0) (slh_set (v := .d (int ((j : Nat) : Int))) (slh_set (v := .d (int ((i : Nat) : Int))) (slh_set (v := .d (int o)) (slh_no _ _) (by rfl) rfl) (by rfl) rfl) (by rfl) rfl) (by rfl) rfl) (hlh_set (hlh_no _ _) (congrArg (fun z => some (Ent.box 28 [.d (int o), .d (int 0), .d (int 0), .d (str nul), .d (str nul), .d (str nul), .d (.sl 7 96 (encXs z))])) (by unfold opK; rw [gA]; rfl)) rfl)⟩
    · skip
      have gA : (o == 12) = false := h1
      refine CW_skip ?_
      exact ⟨(), trivial, LE_sh (slh_set (v := .ptr 2 0) (slh_set (v := .d (int ((j : Nat) : Int))) (slh_set (v := .d (int ((i : Nat) : Int))) (slh_set (v := .d (int o)) (slh_no _ _) (by rfl) rfl) (by rfl) rfl) (by rfl) rfl) (by rfl) rfl) (hlh_set (hlh_no _ _) (congrArg (fun z => some (Ent.box 28 [.d (int o), .d (int 0), .d (int 0), .d (str nul), .d (str nul), .d (str nul), .d (.sl 7 96 (encXs z))])) (by unfold opK; rw [gA]; rfl)) rfl)⟩
  · skip
    rintro _ _
    have he := Does_le (AVles.cons (AVle.refl _) (AVles.cons (lits_le (ch 97) [ch 116]) (AVles.cons (AVle.refl _) AVles.nil))) (kindCOk bS10 lO10 lO10_le (opX o i j))
    obtain ⟨r, hr⟩ : ∃ r, kindC bS10 lO10 (opX o i j) = r := ⟨_, rfl⟩
    rw [hr] at he hf
    refine CW_seq ?_
    refine CW_drawn' hE 10 (by decide +kernel) ?_
    refine HW_call hE (base10) rfl rfl rfl rfl rfl rfl rfl rfl ?_
    refine HW_loc hE (loc_lits hE (t := 39) (len := 1) (parts := #[(0, .const (.string ⟨#[116]⟩))]) rfl rfl rfl rfl rfl rfl rfl rfl (xs := [encB (ch 116)]) rfl) rfl rfl rfl rfl ?_
    refine HW_loc hE (loc_build hE rfl rfl) rfl rfl rfl rfl ?_
    refine HW_loc hE (loc_lits hE (t := 42) (len := 1) (parts := #[(0, .tmp 48)]) rfl rfl rfl rfl rfl rfl rfl rfl (xs := [lits11 (ch 97) [ch 116]]) rfl) rfl rfl rfl rfl ?_
    refine HW_run hE 1 rfl rfl ?_
    refine HW_call hE (he) rfl rfl rfl rfl rfl rfl rfl rfl ?_
    refine HW_run hE 4 rfl rfl ?_
    refine HW_end ?_
    refine OW_run' hE.ok 1 rfl ?_
    refine OW_end rfl ?_
    refine CW_seq ?_
    refine CW_region ?_
    refine OW_loc' hE (loc_buildA hE rfl rfl) rfl rfl rfl ?_
    refine OW_alloc' hE 3 rfl rfl rfl rfl rfl rfl rfl ?_
    refine OW_store' hE rfl rfl rfl rfl rfl rfl rfl rfl rfl rfl rfl rfl ?_
    refine OW_end rfl ?_
    refine CW_seq ?_
    refine CW_region ?_
    refine OW_run' hE.ok 1 rfl ?_
    refine OW_end rfl ?_
    refine CW_cutE (fun _ : Unit => ⟨J, (sset (sset (sset noSlots 12 (.d (int r.1))) 13 (.d (errC 45 r.2))) 15 (.d (int (wantO o i j)))), noHeap⟩) (fun _ => True) ?_ ?_
    · skip
      refine CW_block ?_
      refine CW_seq ?_
      refine CW_region ?_
      refine OW_run' hE.ok 3 rfl ?_
      refine OW_end rfl ?_
      refine CW_cond _ rfl (fun h2 => ?_) (fun h2 => ?_)
      · skip
        have g1 : (o == 12) = true := h2
        refine CW_seq ?_
        refine CW_region ?_
        refine OW_run' hE.ok 1 rfl ?_
        refine OW_loc' hE (loc_addrA hE rfl rfl rfl rfl rfl (by omega) (by omega)) rfl rfl rfl ?_
        refine OW_as' 63 (.ptr 3 (i * 1)) (by show AV.ptr 3 (0 + ((i : Nat) : Int).toNat * 1) = _; rw [Int.toNat_natCast, Nat.zero_add]) ?_
        refine OW_loc' hE (loc_loadBox hE rfl rfl rfl rfl (by exact op_kind hi)) rfl rfl rfl ?_
        refine OW_run' hE.ok 1 rfl ?_
        refine OW_end rfl ?_
        refine CW_cond _ rfl (fun h3 => ?_) (fun h3 => ?_)
        · skip
          have g2 : (((i + 1 : Nat) : Int) == 3) = true := h3
          refine CW_region ?_
          refine OW_run' hE.ok 1 rfl ?_
          refine OW_end rfl ?_
          exact ⟨(), trivial, LE_sh (slh_set (v := .d (int (wantO o i j))) (slh_set (v := .d (errC 45 r.2)) (slh_set (v := .d (int r.1)) (slh_no _ _) (by rfl) rfl) (by rfl) rfl) (by exact (congrArg (fun z => AV.d (int z)) (by simp only [wantO, g1, g2, cond_true, cond_false, Bool.true_or, Bool.or_true, Bool.or_false, Bool.false_or]))) rfl) (hlh_no _ _)⟩
        · skip
          have g2 : (((i + 1 : Nat) : Int) == 3) = false := h3
          refine CW_skip ?_
          exact ⟨(), trivial, LE_sh (slh_set (v := .d (int (wantO o i j))) (slh_set (v := .d (errC 45 r.2)) (slh_set (v := .d (int r.1)) (slh_no _ _) (by rfl) rfl) (by rfl) rfl) (by exact (congrArg (fun z => AV.d (int z)) (by simp only [wantO, g1, g2, cond_true, cond_false, Bool.true_or, Bool.or_true, Bool.or_false, Bool.false_or]))) rfl) (hlh_no _ _)⟩
      · skip
        have g1 : (o == 12) = false := h2
        refine CW_seq ?_
        refine CW_region ?_
        refine OW_run' hE.ok 4 rfl ?_
        refine OW_end rfl ?_
        refine CW_cond _ rfl (fun h4 => ?_) (fun h4 => ?_)
        · skip
          have g3 : (((i : Nat) : Int) != ((j : Nat) : Int)) = true := h4
          refine CW_skip ?_
          exact ⟨(), trivial, LE_sh (slh_set (v := .d (int (wantO o i j))) (slh_set (v := .d (errC 45 r.2)) (slh_set (v := .d (int r.1)) (slh_no _ _) (by rfl) rfl) (by rfl) rfl) (by exact (congrArg (fun z => AV.d (int z)) (by simp only [wantO, g1, g3, cond_true, cond_false, Bool.true_or, Bool.or_true, Bool.or_false, Bool.false_or]))) rfl) (hlh_no _ _)⟩
        · skip
          have g3 : (((i : Nat) : Int) != ((j : Nat) : Int)) = false := h4
          refine CW_seq ?_
          refine CW_region ?_
          refine OW_run' hE.ok 3 rfl ?_
          refine OW_end rfl ?_
          refine CW_cond _ rfl (fun h5 => ?_) (fun h5 => ?_)
          · skip
            have g4 : decide (o ≤ 5) = true := h5
            refine CW_seq ?_
            refine CW_region ?_
            refine OW_run' hE.ok 1 rfl ?_
            refine OW_loc' hE (loc_addrA hE rfl rfl rfl rfl rfl (by omega) (by omega)) rfl rfl rfl ?_
            refine OW_as' 74 (.ptr 3 (i * 1)) (by show AV.ptr 3 (0 + ((i : Nat) : Int).toNat * 1) = _; rw [Int.toNat_natCast, Nat.zero_add]) ?_
            refine OW_loc' hE (loc_loadBox hE rfl rfl rfl rfl (by exact op_kind hi)) rfl rfl rfl ?_
            refine OW_run' hE.ok 1 rfl ?_
            refine OW_end rfl ?_
            refine CW_cond _ rfl (fun h6 => ?_) (fun h6 => ?_)
            · skip
              have g5 : (((i + 1 : Nat) : Int) == 1) = true := h6
              refine CW_region ?_
              refine OW_run' hE.ok 1 rfl ?_
              refine OW_end rfl ?_
              exact ⟨(), trivial, LE_sh (slh_set (v := .d (int (wantO o i j))) (slh_set (v := .d (errC 45 r.2)) (slh_set (v := .d (int r.1)) (slh_no _ _) (by rfl) rfl) (by rfl) rfl) (by exact (congrArg (fun z => AV.d (int z)) (by simp only [wantO, g1, g3, g4, g5, cond_true, cond_false, Bool.true_or, Bool.or_true, Bool.or_false, Bool.false_or]))) rfl) (hlh_no _ _)⟩
            · skip
              have g5 : (((i + 1 : Nat) : Int) == 1) = false := h6
              refine CW_skip ?_
              exact ⟨(), trivial, LE_sh (slh_set (v := .d (int (wantO o i j))) (slh_set (v := .d (errC 45 r.2)) (slh_set (v := .d (int r.1)) (slh_no _ _) (by rfl) rfl) (by rfl) rfl) (by exact (congrArg (fun z => AV.d (int z)) (by simp only [wantO, g1, g3, g4, g5, cond_true, cond_false, Bool.true_or, Bool.or_true, Bool.or_false, Bool.false_or]))) rfl) (hlh_no _ _)⟩
          · skip
            have g4 : decide (o ≤ 5) = false := h5
            refine CW_seq ?_
            refine CW_region ?_
            refine OW_run' hE.ok 3 rfl ?_
            refine OW_split' 80 rfl (fun h7 => ?_) (fun h7 => ?_)
            · skip
              have g6 : (o == 6) = true := h7
              refine OW_run' hE.ok 4 rfl ?_
              refine OW_end rfl ?_
              refine CW_true rfl ?_
              refine CW_region ?_
              refine OW_run' hE.ok 1 rfl ?_
              refine OW_end rfl ?_
              exact ⟨(), trivial, LE_sh (slh_set (v := .d (int (wantO o i j))) (slh_set (v := .d (errC 45 r.2)) (slh_set (v := .d (int r.1)) (slh_no _ _) (by rfl) rfl) (by rfl) rfl) (by exact (congrArg (fun z => AV.d (int z)) (by simp only [wantO, g1, g3, g4, g6, cond_true, cond_false, Bool.true_or, Bool.or_true, Bool.or_false, Bool.false_or]))) rfl) (hlh_no _ _)⟩
            · skip
              have g6 : (o == 6) = false := h7
              refine OW_run' hE.ok 4 rfl ?_
              refine OW_end rfl ?_
              refine CW_cond _ rfl (fun h8 => ?_) (fun h8 => ?_)
              · skip
                have g7 : (o == 7) = true := h8
                refine CW_region ?_
                refine OW_run' hE.ok 1 rfl ?_
                refine OW_end rfl ?_
                exact ⟨(), trivial, LE_sh (slh_set (v := .d (int (wantO o i j))) (slh_set (v := .d (errC 45 r.2)) (slh_set (v := .d (int r.1)) (slh_no _ _) (by rfl) rfl) (by rfl) rfl) (by exact (congrArg (fun z => AV.d (int z)) (by simp only [wantO, g1, g3, g4, g6, g7, cond_true, cond_false, Bool.true_or, Bool.or_true, Bool.or_false, Bool.false_or]))) rfl) (hlh_no _ _)⟩
              · skip
                have g7 : (o == 7) = false := h8
                refine CW_seq ?_
                refine CW_region ?_
                refine OW_run' hE.ok 3 rfl ?_
                refine OW_split' 87 rfl (fun h9 => ?_) (fun h9 => ?_)
                · skip
                  have g8 : (o == 8) = true := h9
                  refine OW_run' hE.ok 4 rfl ?_
                  refine OW_end rfl ?_
                  refine CW_true rfl ?_
                  refine CW_seq ?_
                  refine CW_region ?_
                  refine OW_run' hE.ok 1 rfl ?_
                  refine OW_loc' hE (loc_addrA hE rfl rfl rfl rfl rfl (by omega) (by omega)) rfl rfl rfl ?_
                  refine OW_as' 92 (.ptr 3 (i * 1)) (by show AV.ptr 3 (0 + ((i : Nat) : Int).toNat * 1) = _; rw [Int.toNat_natCast, Nat.zero_add]) ?_
                  refine OW_loc' hE (loc_loadBox hE rfl rfl rfl rfl (by exact op_kind hi)) rfl rfl rfl ?_
                  refine OW_run' hE.ok 1 rfl ?_
                  refine OW_end rfl ?_
                  refine CW_cond _ rfl (fun h10 => ?_) (fun h10 => ?_)
                  · skip
                    have g10 : (((i + 1 : Nat) : Int) != 3) = true := h10
                    refine CW_region ?_
                    refine OW_run' hE.ok 1 rfl ?_
                    refine OW_end rfl ?_
                    exact ⟨(), trivial, LE_sh (slh_set (v := .d (int (wantO o i j))) (slh_set (v := .d (errC 45 r.2)) (slh_set (v := .d (int r.1)) (slh_no _ _) (by rfl) rfl) (by rfl) rfl) (by exact (congrArg (fun z => AV.d (int z)) (by simp only [wantO, g1, g3, g4, g6, g7, g8, g10, cond_true, cond_false, Bool.true_or, Bool.or_true, Bool.or_false, Bool.false_or]))) rfl) (hlh_no _ _)⟩
                  · skip
                    have g10 : (((i + 1 : Nat) : Int) != 3) = false := h10
                    refine CW_skip ?_
                    exact ⟨(), trivial, LE_sh (slh_set (v := .d (int (wantO o i j))) (slh_set (v := .d (errC 45 r.2)) (slh_set (v := .d (int r.1)) (slh_no _ _) (by rfl) rfl) (by rfl) rfl) (by exact (congrArg (fun z => AV.d (int z)) (by simp only [wantO, g1, g3, g4, g6, g7, g8, g10, cond_true, cond_false, Bool.true_or, Bool.or_true, Bool.or_false, Bool.false_or]))) rfl) (hlh_no _ _)⟩
                · skip
                  have g8 : (o == 8) = false := h9
                  refine OW_run' hE.ok 4 rfl ?_
                  refine OW_end rfl ?_
                  refine CW_cond _ rfl (fun h11 => ?_) (fun h11 => ?_)
                  · skip
                    have g9 : (o == 9) = true := h11
                    refine CW_seq ?_
                    refine CW_region ?_
                    refine OW_run' hE.ok 1 rfl ?_
                    refine OW_loc' hE (loc_addrA hE rfl rfl rfl rfl rfl (by omega) (by omega)) rfl rfl rfl ?_
                    refine OW_as' 92 (.ptr 3 (i * 1)) (by show AV.ptr 3 (0 + ((i : Nat) : Int).toNat * 1) = _; rw [Int.toNat_natCast, Nat.zero_add]) ?_
                    refine OW_loc' hE (loc_loadBox hE rfl rfl rfl rfl (by exact op_kind hi)) rfl rfl rfl ?_
                    refine OW_run' hE.ok 1 rfl ?_
                    refine OW_end rfl ?_
                    refine CW_cond _ rfl (fun h12 => ?_) (fun h12 => ?_)
                    · skip
                      have g10 : (((i + 1 : Nat) : Int) != 3) = true := h12
                      refine CW_region ?_
                      refine OW_run' hE.ok 1 rfl ?_
                      refine OW_end rfl ?_
                      exact ⟨(), trivial, LE_sh (slh_set (v := .d (int (wantO o i j))) (slh_set (v := .d (errC 45 r.2)) (slh_set (v := .d (int r.1)) (slh_no _ _) (by rfl) rfl) (by rfl) rfl) (by exact (congrArg (fun z => AV.d (int z)) (by simp only [wantO, g1, g3, g4, g6, g7, g8, g9, g10, cond_true, cond_false, Bool.true_or, Bool.or_true, Bool.or_false, Bool.false_or]))) rfl) (hlh_no _ _)⟩
                    · skip
                      have g10 : (((i + 1 : Nat) : Int) != 3) = false := h12
                      refine CW_skip ?_
                      exact ⟨(), trivial, LE_sh (slh_set (v := .d (int (wantO o i j))) (slh_set (v := .d (errC 45 r.2)) (slh_set (v := .d (int r.1)) (slh_no _ _) (by rfl) rfl) (by rfl) rfl) (by exact (congrArg (fun z => AV.d (int z)) (by simp only [wantO, g1, g3, g4, g6, g7, g8, g9, g10, cond_true, cond_false, Bool.true_or, Bool.or_true, Bool.or_false, Bool.false_or]))) rfl) (hlh_no _ _)⟩
                  · skip
                    have g9 : (o == 9) = false := h11
                    refine CW_seq ?_
                    refine CW_region ?_
                    refine OW_run' hE.ok 1 rfl ?_
                    refine OW_loc' hE (loc_addrA hE rfl rfl rfl rfl rfl (by omega) (by omega)) rfl rfl rfl ?_
                    refine OW_as' 56 (.ptr 3 (i * 1)) (by show AV.ptr 3 (0 + ((i : Nat) : Int).toNat * 1) = _; rw [Int.toNat_natCast, Nat.zero_add]) ?_
                    refine OW_loc' hE (loc_loadBox hE rfl rfl rfl rfl (by exact op_kind hi)) rfl rfl rfl ?_
                    refine OW_run' hE.ok 1 rfl ?_
                    refine OW_end rfl ?_
                    refine CW_cond _ rfl (fun h13 => ?_) (fun h13 => ?_)
                    · skip
                      have g11 : (((i + 1 : Nat) : Int) == 3) = true := h13
                      refine CW_region ?_
                      refine OW_run' hE.ok 1 rfl ?_
                      refine OW_end rfl ?_
                      exact ⟨(), trivial, LE_sh (slh_set (v := .d (int (wantO o i j))) (slh_set (v := .d (errC 45 r.2)) (slh_set (v := .d (int r.1)) (slh_no _ _) (by rfl) rfl) (by rfl) rfl) (by exact (congrArg (fun z => AV.d (int z)) (by simp only [wantO, g1, g3, g4, g6, g7, g8, g9, g11, cond_true, cond_false, Bool.true_or, Bool.or_true, Bool.or_false, Bool.false_or]))) rfl) (hlh_no _ _)⟩
                    · skip
                      have g11 : (((i + 1 : Nat) : Int) == 3) = false := h13
                      refine CW_skip ?_
                      exact ⟨(), trivial, LE_sh (slh_set (v := .d (int (wantO o i j))) (slh_set (v := .d (errC 45 r.2)) (slh_set (v := .d (int r.1)) (slh_no _ _) (by rfl) rfl) (by rfl) rfl) (by exact (congrArg (fun z => AV.d (int z)) (by simp only [wantO, g1, g3, g4, g6, g7, g8, g9, g11, cond_true, cond_false, Bool.true_or, Bool.or_true, Bool.or_false, Bool.false_or]))) rfl) (hlh_no _ _)⟩
    · skip
      rintro _ _
      unfold opT at hf
      obtain ⟨w, hw⟩ : ∃ w, wantO o i j = w := ⟨_, rfl⟩
      rw [hw] at hf
      rw [hw]
      refine CW_seq ?_
      refine CW_seq ?_
      refine CW_region ?_
      refine OW_run' hE.ok 2 rfl ?_
      refine OW_end rfl ?_
      refine CW_cond _ rfl (fun h14 => ?_) (fun h14 => ?_)
      · skip
        have k1 : (w == 0) = true := h14
        rw [k1] at hf
        simp only [cond_true, beq_iff_eq] at hf
        rw [hf]
        rw [show errC 45 14 = errN 45 14 from rfl]
        refine CW_seq ?_
        refine CW_region ?_
        refine OW_run' hE.ok 2 rfl ?_
        refine OW_call' hE (errIs 14 14) rfl rfl rfl rfl rfl rfl rfl ?_
        refine OW_run' hE.ok 1 rfl ?_
        refine OW_end rfl ?_
        refine CW_ret ?_
        refine ⟨.inr rfl, rfl, ⟨[.d (boo true)], rfl, rfl, ?_⟩, rfl⟩
        exact AVle.refl _
      · skip
        have k1 : (w == 0) = false := h14
        rw [k1] at hf
        simp only [cond_false, Bool.and_eq_true, beq_iff_eq] at hf
        rw [hf.1, hf.2]
        rw [show errC 45 0 = nilE from rfl]
        refine CW_skip ?_
        refine CW_seq ?_
        refine CW_region ?_
        refine OW_run' hE.ok 5 rfl ?_
        refine OW_run' hE.ok 1 rfl ?_
        refine OW_as' 105 (.d (boo true)) (by refine congrArg (fun b => AV.d (boo b)) ?_; simp) ?_
        refine OW_run' hE.ok 2 rfl ?_
        refine OW_end rfl ?_
        refine CW_ret ?_
        refine ⟨.inr rfl, rfl, ⟨[.d (boo true)], rfl, rfl, ?_⟩, rfl⟩
        exact AVle.refl _
end Go.Proofs.Ytencfmpapdnnaaa
