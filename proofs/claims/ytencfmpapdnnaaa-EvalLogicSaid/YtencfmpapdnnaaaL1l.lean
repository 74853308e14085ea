/- Parts of an abstract logic over the kit's walks, and walks in it: L1l. -/
import Derived.Test.YtencfmpapdnnaaaLa
namespace Go.Proofs.Ytencfmpapdnnaaa
open Go Go.AL
set_option linter.unusedVariables false
set_option linter.unusedSimpArgs false
set_option maxHeartbeats 4000000
theorem logicOk (a1 b1 : UInt8) (o1 : Bool) : Does Try.prog 7 [.d (.lit (.int .u8 (a1.toNat : Int))), .d (.lit (.int .u8 (b1.toNat : Int))), .d (boo o1)] noHeap (.d (boo true)) := by
  refine Does_of T_ok mixed (N := 100) Try.func7 rfl rfl rfl (by rfl) fun F n Z hE hF J => ?_
  refine CW_seq ?_
  refine CW_region ?_
  refine OW_run' hE.ok 1 rfl ?_
  refine OW_end rfl ?_
  refine CW_seq ?_
  refine CW_seq ?_
  refine CW_region ?_
  refine OW_call' hE (known11) rfl rfl rfl rfl rfl rfl rfl ?_
  refine OW_run' hE.ok 1 rfl ?_
  refine OW_end rfl ?_
  refine CW_false rfl ?_
  refine CW_skip ?_
  refine CW_seq ?_
  refine CW_region ?_
  refine OW_call' hE (lit11 9223372036854775807) rfl rfl rfl rfl rfl rfl rfl ?_
  refine OW_call' hE (lit11 1) rfl rfl rfl rfl rfl rfl rfl ?_
  refine OW_call' hE (two11 3 (litX 9223372036854775807) (litX 1)) rfl rfl rfl rfl rfl rfl rfl ?_
  refine OW_call' hE (lit11 0) rfl rfl rfl rfl rfl rfl rfl ?_
  refine OW_call' hE (two11 6 (twoX 3 (litX 9223372036854775807) (litX 1)) (litX 0)) rfl rfl rfl rfl rfl rfl rfl ?_
  refine OW_alloc' hE 1 rfl rfl rfl rfl rfl rfl rfl ?_
  refine OW_store' hE rfl rfl rfl rfl rfl rfl rfl rfl rfl rfl rfl rfl ?_
  refine OW_end rfl ?_
  refine CW_seq ?_
  refine CW_region ?_
  refine OW_build' hE rfl rfl rfl rfl rfl ?_
  refine OW_build' hE rfl rfl rfl rfl rfl ?_
  refine OW_build' hE rfl rfl rfl rfl rfl ?_
  refine OW_build' hE rfl rfl rfl rfl rfl ?_
  refine OW_run' hE.ok 1 rfl ?_
  refine OW.le (LE_slot 25 (argX (loV 0)) (AVle.agg (.cons (.refl _) (.cons (.refl _) (.cons (.refl _) (.cons (.refl _) (.cons (.refl _) (.cons (.refl _) (.cons (.nilSl 7 96) .nil))))))))) ?_
  refine OW.le (LE_slot 27 (argX (loV 1)) (AVle.agg (.cons (.refl _) (.cons (.refl _) (.cons (.refl _) (.cons (.refl _) (.cons (.refl _) (.cons (.refl _) (.cons (.nilSl 7 96) .nil))))))))) ?_
  refine OW_loc' hE (loc_buildA hE rfl rfl) rfl rfl rfl ?_
  refine OW_alloc' hE 2 rfl rfl rfl rfl rfl rfl rfl ?_
  refine OW_store' hE rfl rfl rfl rfl rfl rfl rfl rfl rfl rfl rfl rfl ?_
  refine OW_end rfl ?_
  refine CW_seq ?_
  obtain ⟨i, hi0⟩ : ∃ i, a1.toNat % 3 = i := ⟨_, rfl⟩
  have hi : i < 3 := by omega
  obtain ⟨j, hj0⟩ : ∃ j, b1.toNat % 3 = j := ⟨_, rfl⟩
  have hj : j < 3 := by omega
  refine CW_region ?_
  refine OW_run' hE.ok 8 rfl ?_
  refine OW_as' 9 (.d (int ((i : Nat) : Int))) (by show AV.d (.lit (.int .i64 (IntKind.i64.wrap ((a1.toNat % 3 : Nat) : Int)))) = _; rw [hi0, wrapN (by omega)]; rfl) ?_
  refine OW_as' 10 (.d (int ((j : Nat) : Int))) (by show AV.d (.lit (.int .i64 (IntKind.i64.wrap ((b1.toNat % 3 : Nat) : Int)))) = _; rw [hj0, wrapN (by omega)]; rfl) ?_
  refine OW_end rfl ?_
  refine CW_seq ?_
  refine CW_region ?_
  refine OW_run' hE.ok 1 rfl ?_
  refine OW_end rfl ?_
  refine CW_cutE (fun _ : Unit => ⟨J, (sset (sset (sset (sset (sset noSlots 2 (.d (boo o1))) 8 (.ptr 2 0)) 9 (.d (int ((i : Nat) : Int)))) 10 (.d (int ((j : Nat) : Int)))) 11 (.d (int (loO o1)))), (hset noHeap 2 (some (.box 61 (loCs.map .d))))⟩) (fun _ => True) ?_ ?_
  · skip
    refine CW_seq ?_
    refine CW_region ?_
    refine OW_run' hE.ok 1 rfl ?_
    refine OW_end rfl ?_
    refine CW_cond _ rfl (fun h1 => ?_) (fun h1 => ?_)
    · skip
      have ho : o1 = true := h1
      subst ho
      refine CW_region ?_
      refine OW_run' hE.ok 1 rfl ?_
      refine OW_end rfl ?_
      exact ⟨(), trivial, LE_sh (slh_set (slh_set (slh_set (slh_set (slh_set (slh_no _ _) rfl rfl) rfl rfl) rfl rfl) rfl rfl) rfl rfl) (hlh_set (hlh_no _ _) rfl rfl)⟩
    · skip
      have ho : o1 = false := h1
      subst ho
      refine CW_skip ?_
      exact ⟨(), trivial, LE_sh (slh_set (slh_set (slh_set (slh_set (slh_set (slh_no _ _) rfl rfl) rfl rfl) rfl rfl) rfl rfl) rfl rfl) (hlh_set (hlh_no _ _) rfl rfl)⟩
  · skip
    rintro _ _
    have he := Does_le (AVles.cons (AVle.refl _) (AVles.cons (AVle.refl _) (AVles.cons nilB_le AVles.nil))) (evalOk bS (twoX (loO o1) (loV i) (loV j)) [])
    have hh := Does_le (AVles.cons (AVle.refl _) (AVles.cons (AVle.refl _) (AVles.cons nilB_le AVles.nil))) (holdsOk bS (twoX (loO o1) (loV i) (loV j)) [])
    have hf := lo_facts (b := o1) hi hj
    obtain ⟨r, hr⟩ : ∃ r, evalX bS [] (twoX (loO o1) (loV i) (loV j)) = r := ⟨_, rfl⟩
    rw [hr] at he hf
    obtain ⟨hb, hhb⟩ : ∃ hb, holdsX bS [] (twoX (loO o1) (loV i) (loV j)) = hb := ⟨_, rfl⟩
    rw [hhb] at hh hf
    clear hr hhb
    refine CW_seq ?_
    refine CW_drawn2 hE 15 13 14 3 (by decide +kernel) (V := (encV r.1).map .d) rfl rfl rfl rfl rfl rfl rfl rfl rfl (by decide +kernel) rfl rfl rfl rfl rfl ?_
    refine H2_call hE (base11) rfl rfl rfl rfl rfl rfl rfl rfl rfl ?_
    refine H2_run hE 2 rfl rfl rfl rfl rfl ?_
    refine H2_loc hE (fun b => loc_addrA hE rfl rfl rfl rfl rfl (by omega) (by omega)) rfl rfl rfl rfl rfl ?_
    refine H2_as 41 (.ptr 2 (i * 7)) (by show AV.ptr 2 (0 + ((i : Nat) : Int).toNat * 7) = _; rw [Int.toNat_natCast, Nat.zero_add]) ?_
    refine H2_loc hE (fun b => loc_loadBox hE rfl rfl rfl rfl (by exact lo_load hi)) rfl rfl rfl rfl rfl ?_
    refine H2_run hE 1 rfl rfl rfl rfl rfl ?_
    refine H2_loc hE (fun b => loc_addrA hE rfl rfl rfl rfl rfl (by omega) (by omega)) rfl rfl rfl rfl rfl ?_
    refine H2_as 44 (.ptr 2 (j * 7)) (by show AV.ptr 2 (0 + ((j : Nat) : Int).toNat * 7) = _; rw [Int.toNat_natCast, Nat.zero_add]) ?_
    refine H2_loc hE (fun b => loc_loadBox hE rfl rfl rfl rfl (by exact lo_load hj)) rfl rfl rfl rfl rfl ?_
    refine H2_call hE (two11 (loO o1) (loV i) (loV j)) rfl rfl rfl rfl rfl (lo_kf _ _ _) rfl rfl rfl ?_
    refine H2_call hE (he) rfl rfl rfl rfl rfl rfl rfl rfl rfl ?_
    refine H2_run hE 3 rfl rfl rfl rfl rfl ?_
    refine H2_alloc rfl rfl rfl ?_
    refine H2_store rfl rfl rfl rfl rfl rfl rfl rfl ?_
    refine H2_end ?_
    refine OW_run' hE.ok 1 rfl ?_
    refine OW_end rfl ?_
    refine CW_seq ?_
    refine CW_region ?_
    refine OW_run' hE.ok 1 rfl ?_
    refine OW_end rfl ?_
    refine CW_cutE (fun _ : Unit => ⟨J, (sset (sset (sset (sset (sset (sset (sset noSlots 8 (.ptr 2 0)) 9 (.d (int ((i : Nat) : Int)))) 10 (.d (int ((j : Nat) : Int)))) 11 (.d (int (loO o1)))) 12 (.ptr 3 0)) 13 (.d (errC 45 r.2))) 14 (.d (int (loS o1)))), (hset (hset noHeap 2 (some (.box 61 (loCs.map .d)))) 3 (some (.box 25 ((encV r.1).map .d))))⟩) (fun _ => True) ?_ ?_
    · skip
      refine CW_seq ?_
      refine CW_region ?_
      refine OW_run' hE.ok 1 rfl ?_
      refine OW_end rfl ?_
      refine CW_cond _ rfl (fun h2 => ?_) (fun h2 => ?_)
      · skip
        have ho : o1 = true := h2
        subst ho
        refine CW_region ?_
        refine OW_run' hE.ok 1 rfl ?_
        refine OW_end rfl ?_
        exact ⟨(), trivial, LE_sh (slh_set (slh_set (slh_set (slh_set (slh_set (slh_set (slh_set (slh_no _ _) rfl rfl) rfl rfl) rfl rfl) rfl rfl) rfl rfl) rfl rfl) rfl rfl) (hlh_set (hlh_set (hlh_no _ _) rfl rfl) rfl rfl)⟩
      · skip
        have ho : o1 = false := h2
        subst ho
        refine CW_skip ?_
        exact ⟨(), trivial, LE_sh (slh_set (slh_set (slh_set (slh_set (slh_set (slh_set (slh_set (slh_no _ _) rfl rfl) rfl rfl) rfl rfl) rfl rfl) rfl rfl) rfl rfl) rfl rfl) (hlh_set (hlh_set (hlh_no _ _) rfl rfl) rfl rfl)⟩
    · skip
      rintro _ _
      refine CW_seq ?_
      refine CW_region ?_
      refine OW_run' hE.ok 5 rfl ?_
      refine OW_end rfl ?_
      refine CW_cutE (fun _ : Unit => ⟨J, (sset (sset (sset (sset (sset (sset (sset (sset noSlots 8 (.ptr 2 0)) 9 (.d (int ((i : Nat) : Int)))) 10 (.d (int ((j : Nat) : Int)))) 11 (.d (int (loO o1)))) 12 (.ptr 3 0)) 13 (.d (errC 45 r.2))) 15 (.d (int (loW o1 i j)))) 16 (.d (boo (loE o1 i j)))), (hset (hset noHeap 2 (some (.box 61 (loCs.map .d)))) 3 (some (.box 25 ((encV r.1).map .d))))⟩) (fun _ => True) ?_ ?_
      · skip
        refine CW_seq ?_
        refine CW_region ?_
        refine OW_run' hE.ok 2 rfl ?_
        refine OW_end rfl ?_
        refine CW_cond _ rfl (fun h3 => ?_) (fun h3 => ?_)
        · skip
          have g1 : ((i : Int) == 2) = true := h3
          refine CW_region ?_
          refine OW_run' hE.ok 1 rfl ?_
          refine OW_end rfl ?_
          exact ⟨(), trivial, LE_sh (slh_set (slh_set (slh_set (slh_set (slh_set (slh_set (slh_set (slh_set (slh_no _ _) rfl rfl) rfl rfl) rfl rfl) rfl rfl) rfl rfl) rfl rfl) (congrArg (fun z => AV.d (int z)) (by unfold loW; rw [g1]; rfl)) rfl) (congrArg (fun z => AV.d (boo z)) (by unfold loE; rw [g1]; rfl)) rfl) (hlh_set (hlh_set (hlh_no _ _) rfl rfl) rfl rfl)⟩
        · skip
          have g1 : ((i : Int) == 2) = false := h3
          refine CW_seq ?_
          refine CW_region ?_
          refine OW_run' hE.ok 3 rfl ?_
          refine OW_end rfl ?_
          refine CW_cond _ rfl (fun h4 => ?_) (fun h4 => ?_)
          · skip
            have g2 : ((i : Int) == loS o1) = true := h4
            refine CW_region ?_
            refine OW_run' hE.ok 3 rfl ?_
            refine OW_end rfl ?_
            exact ⟨(), trivial, LE_sh (slh_set (slh_set (slh_set (slh_set (slh_set (slh_set (slh_set (slh_set (slh_no _ _) rfl rfl) rfl rfl) rfl rfl) rfl rfl) rfl rfl) rfl rfl) (congrArg (fun z => AV.d (int z)) (by unfold loW; rw [g1, g2]; rfl)) rfl) (congrArg (fun z => AV.d (boo z)) (by unfold loE; rw [g1, g2]; rfl)) rfl) (hlh_set (hlh_set (hlh_no _ _) rfl rfl) rfl rfl)⟩
          · skip
            have g2 : ((i : Int) == loS o1) = false := h4
            refine CW_skip ?_
            exact ⟨(), trivial, LE_sh (slh_set (slh_set (slh_set (slh_set (slh_set (slh_set (slh_set (slh_set (slh_no _ _) rfl rfl) rfl rfl) rfl rfl) rfl rfl) rfl rfl) rfl rfl) (congrArg (fun z => AV.d (int z)) (by unfold loW; rw [g1, g2]; rfl)) rfl) (congrArg (fun z => AV.d (boo z)) (by unfold loE; rw [g1, g2]; rfl)) rfl) (hlh_set (hlh_set (hlh_no _ _) rfl rfl) rfl rfl)⟩
      · skip
        rintro _ _
        unfold loT at hf
        cases hz : loE o1 i j
        · skip
          rw [hz] at hf
          simp only [cond_false, Bool.and_eq_true, beq_iff_eq] at hf
          obtain ⟨f1, f2, f3⟩ := hf
          rw [show errC 45 r.2 = nilE by rw [f1]; rfl]
          refine CW_seq ?_
          refine CW_seq ?_
          refine CW_region ?_
          refine OW_run' hE.ok 1 rfl ?_
          refine OW_end rfl ?_
          refine CW_false rfl ?_
          refine CW_skip ?_
          refine CW_seq ?_
          refine CW_drawn' hE 21 (by decide +kernel) ?_
          refine HW_run hE 6 rfl rfl ?_
          refine HW_run hE 1 rfl rfl ?_
          refine HW_as 83 (.d (boo true)) (by refine congrArg (fun b => AV.d (boo b)) ?_; rw [f2]; simp) ?_
          refine HW_run hE 2 rfl rfl ?_
          refine HW_call hE (base11) rfl rfl rfl rfl rfl rfl rfl rfl ?_
          refine HW_run hE 2 rfl rfl ?_
          refine HW_loc hE (loc_addrA hE rfl rfl rfl rfl rfl (by omega) (by omega)) rfl rfl rfl rfl ?_
          refine HW_as 89 (.ptr 2 (i * 7)) (by show AV.ptr 2 (0 + ((i : Nat) : Int).toNat * 7) = _; rw [Int.toNat_natCast, Nat.zero_add]) ?_
          refine HW_loc hE (loc_loadBox hE rfl rfl rfl rfl (by exact lo_load hi)) rfl rfl rfl rfl ?_
          refine HW_run hE 1 rfl rfl ?_
          refine HW_loc hE (loc_addrA hE rfl rfl rfl rfl rfl (by omega) (by omega)) rfl rfl rfl rfl ?_
          refine HW_as 92 (.ptr 2 (j * 7)) (by show AV.ptr 2 (0 + ((j : Nat) : Int).toNat * 7) = _; rw [Int.toNat_natCast, Nat.zero_add]) ?_
          refine HW_loc hE (loc_loadBox hE rfl rfl rfl rfl (by exact lo_load hj)) rfl rfl rfl rfl ?_
          refine HW_call hE (two11 (loO o1) (loV i) (loV j)) rfl rfl rfl rfl rfl (lo_kf _ _ _) rfl rfl ?_
          refine HW_call hE (hh) rfl rfl rfl rfl rfl rfl rfl rfl ?_
          refine HW_run hE 2 rfl rfl ?_
          refine HW_end ?_
          refine OW_run' hE.ok 1 rfl ?_
          refine OW_as' 98 (.d (boo true)) (by refine congrArg (fun b => AV.d (boo b)) ?_; rw [f3]; simp) ?_
          refine OW_run' hE.ok 2 rfl ?_
          refine OW_end rfl ?_
          refine CW_ret ?_
          refine ⟨.inr rfl, rfl, ⟨[.d (boo true)], rfl, rfl, ?_⟩, rfl⟩
          exact AVle.refl _
        · skip
          rw [hz] at hf
          simp only [cond_true, Bool.and_eq_true, beq_iff_eq, Bool.not_eq_true'] at hf
          obtain ⟨f1, rfl⟩ := hf
          rw [show errC 45 r.2 = errN 45 16 by rw [f1]; rfl]
          refine CW_seq ?_
          refine CW_seq ?_
          refine CW_region ?_
          refine OW_run' hE.ok 1 rfl ?_
          refine OW_end rfl ?_
          refine CW_true rfl ?_
          refine CW_seq ?_
          refine CW_drawn' hE 12 (by decide +kernel) ?_
          refine HW_run hE 2 rfl rfl ?_
          refine HW_call hE (errIs 16 16) rfl rfl rfl rfl rfl rfl rfl rfl ?_
          refine HW_run hE 1 rfl rfl ?_
          refine HW_call hE (base11) rfl rfl rfl rfl rfl rfl rfl rfl ?_
          refine HW_run hE 2 rfl rfl ?_
          refine HW_loc hE (loc_addrA hE rfl rfl rfl rfl rfl (by omega) (by omega)) rfl rfl rfl rfl ?_
          refine HW_as 68 (.ptr 2 (i * 7)) (by show AV.ptr 2 (0 + ((i : Nat) : Int).toNat * 7) = _; rw [Int.toNat_natCast, Nat.zero_add]) ?_
          refine HW_loc hE (loc_loadBox hE rfl rfl rfl rfl (by exact lo_load hi)) rfl rfl rfl rfl ?_
          refine HW_run hE 1 rfl rfl ?_
          refine HW_loc hE (loc_addrA hE rfl rfl rfl rfl rfl (by omega) (by omega)) rfl rfl rfl rfl ?_
          refine HW_as 71 (.ptr 2 (j * 7)) (by show AV.ptr 2 (0 + ((j : Nat) : Int).toNat * 7) = _; rw [Int.toNat_natCast, Nat.zero_add]) ?_
          refine HW_loc hE (loc_loadBox hE rfl rfl rfl rfl (by exact lo_load hj)) rfl rfl rfl rfl ?_
          refine HW_end ?_
          refine OW_call' hE (two11 (loO o1) (loV i) (loV j)) rfl rfl rfl rfl (lo_kf _ _ _) rfl rfl ?_
          refine OW_call' hE (hh) rfl rfl rfl rfl rfl rfl rfl ?_
          refine OW_run' hE.ok 3 rfl ?_
          refine OW_end rfl ?_
          refine CW_ret ?_
          refine ⟨.inr rfl, rfl, ⟨[.d (boo true)], rfl, rfl, ?_⟩, rfl⟩
          exact AVle.refl _
end Go.Proofs.Ytencfmpapdnnaaa
