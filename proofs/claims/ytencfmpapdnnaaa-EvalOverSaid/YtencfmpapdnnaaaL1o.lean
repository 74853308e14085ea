/- Parts of an abstract logic over the kit's walks, and walks in it: L1o. -/
import Derived.Test.YtencfmpapdnnaaaLa
import Derived.Test.YtencfmpapdnnaaaEOv
namespace Go.Proofs.Ytencfmpapdnnaaa
open Go Go.AL
set_option linter.unusedVariables false
set_option linter.unusedSimpArgs false
set_option maxHeartbeats 4000000
theorem overOk (a b : Int) (op1 : UInt8) : Does Try.prog 6 [.d (int a), .d (int b), .d (.lit (.int .u8 (op1.toNat : Int)))] noHeap (.d (boo true)) := by
  refine Does_of T_ok mixed (N := 150) Try.func6 rfl rfl rfl (by rfl) fun F n Z hE hF J => ?_
  refine CW_seq ?_
  refine CW_region ?_
  refine OW_run' hE.ok 1 rfl ?_
  refine OW_end rfl ?_
  refine CW_seq ?_
  refine CW_seq ?_
  refine CW_region ?_
  refine OW_call' hE (known11) rfl rfl rfl rfl rfl rfl rfl ?_
  refine OW_run' hE.ok 1 rfl ?_
  refine OW_end rfl ?_
  refine CW_false rfl ?_
  refine CW_skip ?_
  refine CW_seq ?_
  refine CW_know (know_int (d := 0) rfl) fun ha => ?_
  refine CW_know (know_int (d := 1) rfl) fun hb => ?_
  have ha : in64 a := ha
  have hb : in64 b := hb
  have ho := ov_op (n := op1.toNat % 3) (Nat.mod_lt _ (by omega))
  obtain ⟨o, hoe⟩ : ∃ o, ((3 + op1.toNat % 3 : Nat) : Int) = o := ⟨_, rfl⟩
  rw [hoe] at ho
  have he := Does_le (AVles.cons (AVle.refl _) (AVles.cons (AVle.refl _) (AVles.cons nilB_le AVles.nil))) (evalOk bS (twoX o (litX a) (litX b)) [])
  rw [ov_ev ho] at he
  obtain ⟨r, hr⟩ : ∃ r, countsX o a b = r := ⟨_, rfl⟩
  rw [hr] at he
  refine CW_region ?_
  refine OW_run' hE.ok 5 rfl ?_
  refine OW_as' 7 (.d (int o)) (by show AV.d (.lit (.int .i64 (IntKind.i64.wrap (3 + IntKind.i64.wrap ((op1.toNat % 3 : Nat) : Int))))) = _; rw [wrapN (by omega), ← hoe, show (3 + ((op1.toNat % 3 : Nat) : Int)) = ((3 + op1.toNat % 3 : Nat) : Int) by omega, wrapN (by omega)]; rfl) ?_
  refine OW_end rfl ?_
  refine CW_seq ?_
  refine CW_region ?_
  refine OW_call' hE (base11) rfl rfl rfl rfl rfl rfl rfl ?_
  refine OW_run' hE.ok 2 rfl ?_
  refine OW_call' hE (lit11 a) rfl rfl rfl rfl rfl rfl rfl ?_
  refine OW_run' hE.ok 1 rfl ?_
  refine OW_call' hE (lit11 b) rfl rfl rfl rfl rfl rfl rfl ?_
  refine OW_call' hE (two11 o (litX a) (litX b)) rfl rfl rfl rfl rfl rfl rfl ?_
  refine OW_call' hE (he) rfl rfl rfl rfl rfl rfl rfl ?_
  refine OW_run' hE.ok 3 rfl ?_
  refine OW_alloc' hE 1 rfl rfl rfl rfl rfl rfl rfl ?_
  refine OW_store' hE rfl rfl rfl rfl rfl rfl rfl rfl rfl rfl rfl rfl ?_
  refine OW_run' hE.ok 1 rfl ?_
  refine OW_end rfl ?_
  refine CW_seq ?_
  refine CW_region ?_
  refine OW_run' hE.ok 2 rfl ?_
  refine OW_end rfl ?_
  refine CW_seq ?_
  refine CW_region ?_
  refine OW_run' hE.ok 1 rfl ?_
  refine OW_loc' hE (loc_shr hE rfl (n := 63) rfl rfl rfl) rfl rfl rfl ?_
  refine OW_as' 40 (.d (int (b63 a))) (by rfl) ?_
  refine OW_run' hE.ok 1 rfl ?_
  refine OW_loc' hE (loc_shr hE rfl (n := 63) rfl rfl rfl) rfl rfl rfl ?_
  refine OW_as' 42 (.d (int (b63 b))) (by rfl) ?_
  refine OW_run' hE.ok 2 rfl ?_
  refine OW_end rfl ?_
  refine CW_cutE (fun _ : Unit => ⟨J, (sset (sset (sset (sset noSlots 8 (.ptr 1 0)) 9 (.d (errC 45 r.2))) 10 (.d (.lit (.int .u64 (ovLo o a b))))) 11 (.d (int (ovHi o a b)))), (hset noHeap 1 (some (.box 25 ((encV r.1).map .d))))⟩) (fun _ => True) ?_ ?_
  · skip
    refine CW_seq ?_
    refine CW_region ?_
    refine OW_run' hE.ok 1 rfl ?_
    refine OW_end rfl ?_
    refine CW_block ?_
    refine CW_seq ?_
    refine CW_region ?_
    refine OW_run' hE.ok 2 rfl ?_
    refine OW_end rfl ?_
    refine CW_cond _ rfl (fun h1 => ?_) (fun h1 => ?_)
    · skip
      have g1 : (o == 3) = true := h1
      refine CW_seq ?_
      refine CW_region ?_
      refine OW_run' hE.ok 6 rfl ?_
      refine OW_as' 10 (.d (.lit (.int .u64 (addLo a b)))) (by rfl) ?_
      refine OW_end rfl ?_
      refine CW_seq ?_
      refine CW_region ?_
      refine OW_run' hE.ok 4 rfl ?_
      refine OW_as' 11 (.d (int (wr (b63 a + b63 b)))) (by rfl) ?_
      refine OW_end rfl ?_
      refine CW_seq ?_
      refine CW_region ?_
      refine OW_run' hE.ok 4 rfl ?_
      refine OW_end rfl ?_
      refine CW_cond _ rfl (fun h2 => ?_) (fun h2 => ?_)
      · skip
        have g3 : decide (addLo a b < wu a) = true := h2
        refine CW_region ?_
        refine OW_run' hE.ok 3 rfl ?_
        refine OW_as' 11 (.d (int (wr (wr (b63 a + b63 b) + 1)))) (by rfl) ?_
        refine OW_end rfl ?_
        exact ⟨(), trivial, LE_sh (slh_set (v := .d (int (ovHi o a b))) (slh_set (v := .d (.lit (.int .u64 (ovLo o a b)))) (slh_set (v := .d (errC 45 r.2)) (slh_set (v := .ptr 1 0) (slh_no _ _) (by rfl) rfl) (by rfl) rfl) (by exact (congrArg (fun z => AV.d (.lit (.int .u64 z))) (by simp only [ovLo, g1, cond_true, cond_false]))) rfl) (by exact (congrArg (fun z => AV.d (int z)) (by simp only [ovHi, addHi, g1, g3, cond_true, cond_false]))) rfl) (hlh_set (hlh_no _ _) rfl rfl)⟩
      · skip
        have g3 : decide (addLo a b < wu a) = false := h2
        refine CW_skip ?_
        exact ⟨(), trivial, LE_sh (slh_set (v := .d (int (ovHi o a b))) (slh_set (v := .d (.lit (.int .u64 (ovLo o a b)))) (slh_set (v := .d (errC 45 r.2)) (slh_set (v := .ptr 1 0) (slh_no _ _) (by rfl) rfl) (by rfl) rfl) (by exact (congrArg (fun z => AV.d (.lit (.int .u64 z))) (by simp only [ovLo, g1, cond_true, cond_false]))) rfl) (by exact (congrArg (fun z => AV.d (int z)) (by simp only [ovHi, addHi, g1, g3, cond_true, cond_false]))) rfl) (hlh_set (hlh_no _ _) rfl rfl)⟩
    · skip
      have g1 : (o == 3) = false := h1
      refine CW_seq ?_
      refine CW_region ?_
      refine OW_run' hE.ok 2 rfl ?_
      refine OW_end rfl ?_
      refine CW_cond _ rfl (fun h3 => ?_) (fun h3 => ?_)
      · skip
        have g2 : (o == 4) = true := h3
        refine CW_seq ?_
        refine CW_region ?_
        refine OW_run' hE.ok 6 rfl ?_
        refine OW_as' 10 (.d (.lit (.int .u64 (subLo a b)))) (by rfl) ?_
        refine OW_end rfl ?_
        refine CW_seq ?_
        refine CW_region ?_
        refine OW_run' hE.ok 4 rfl ?_
        refine OW_as' 11 (.d (int (wr (b63 a - b63 b)))) (by rfl) ?_
        refine OW_end rfl ?_
        refine CW_seq ?_
        refine CW_region ?_
        refine OW_run' hE.ok 5 rfl ?_
        refine OW_end rfl ?_
        refine CW_cond _ rfl (fun h4 => ?_) (fun h4 => ?_)
        · skip
          have g3 : decide (wu a < wu b) = true := h4
          refine CW_region ?_
          refine OW_run' hE.ok 3 rfl ?_
          refine OW_as' 11 (.d (int (wr (wr (b63 a - b63 b) - 1)))) (by rfl) ?_
          refine OW_end rfl ?_
          exact ⟨(), trivial, LE_sh (slh_set (v := .d (int (ovHi o a b))) (slh_set (v := .d (.lit (.int .u64 (ovLo o a b)))) (slh_set (v := .d (errC 45 r.2)) (slh_set (v := .ptr 1 0) (slh_no _ _) (by rfl) rfl) (by rfl) rfl) (by exact (congrArg (fun z => AV.d (.lit (.int .u64 z))) (by simp only [ovLo, g1, g2, cond_true, cond_false]))) rfl) (by exact (congrArg (fun z => AV.d (int z)) (by simp only [ovHi, subHi, g1, g2, g3, cond_true, cond_false]))) rfl) (hlh_set (hlh_no _ _) rfl rfl)⟩
        · skip
          have g3 : decide (wu a < wu b) = false := h4
          refine CW_skip ?_
          exact ⟨(), trivial, LE_sh (slh_set (v := .d (int (ovHi o a b))) (slh_set (v := .d (.lit (.int .u64 (ovLo o a b)))) (slh_set (v := .d (errC 45 r.2)) (slh_set (v := .ptr 1 0) (slh_no _ _) (by rfl) rfl) (by rfl) rfl) (by exact (congrArg (fun z => AV.d (.lit (.int .u64 z))) (by simp only [ovLo, g1, g2, cond_true, cond_false]))) rfl) (by exact (congrArg (fun z => AV.d (int z)) (by simp only [ovHi, subHi, g1, g2, g3, cond_true, cond_false]))) rfl) (hlh_set (hlh_no _ _) rfl rfl)⟩
      · skip
        have g2 : (o == 4) = false := h3
        refine CW_seq ?_
        refine CW_region ?_
        refine OW_run' hE.ok 2 rfl ?_
        refine OW_loc' hE (loc_lowU hE rfl 32 rfl rfl rfl rfl) rfl rfl rfl ?_
        refine OW_as' 46 (.d (.lit (.int .u64 (lo32 (wu a))))) (by rfl) ?_
        refine OW_run' hE.ok 2 rfl ?_
        refine OW_loc' hE (loc_shr hE rfl (n := 32) rfl rfl rfl) rfl rfl rfl ?_
        refine OW_as' 49 (.d (.lit (.int .u64 (b32 (wu a))))) (by rfl) ?_
        refine OW_run' hE.ok 2 rfl ?_
        refine OW_loc' hE (loc_lowU hE rfl 32 rfl rfl rfl rfl) rfl rfl rfl ?_
        refine OW_as' 52 (.d (.lit (.int .u64 (lo32 (wu b))))) (by rfl) ?_
        refine OW_run' hE.ok 2 rfl ?_
        refine OW_loc' hE (loc_shr hE rfl (n := 32) rfl rfl rfl) rfl rfl rfl ?_
        refine OW_as' 55 (.d (.lit (.int .u64 (b32 (wu b))))) (by rfl) ?_
        refine OW_run' hE.ok 4 rfl ?_
        refine OW_end rfl ?_
        refine CW_seq ?_
        refine CW_region ?_
        refine OW_run' hE.ok 6 rfl ?_
        refine OW_loc' hE (loc_shr hE rfl (n := 32) rfl rfl rfl) rfl rfl rfl ?_
        refine OW_run' hE.ok 2 rfl ?_
        refine OW_as' 18 (.d (.lit (.int .u64 (mulT a b)))) (by rfl) ?_
        refine OW_end rfl ?_
        refine CW_seq ?_
        refine CW_region ?_
        refine OW_run' hE.ok 1 rfl ?_
        refine OW_loc' hE (loc_lowU hE rfl 32 rfl rfl rfl rfl) rfl rfl rfl ?_
        refine OW_run' hE.ok 5 rfl ?_
        refine OW_as' 19 (.d (.lit (.int .u64 (mulW a b)))) (by rfl) ?_
        refine OW_end rfl ?_
        refine CW_seq ?_
        refine CW_region ?_
        refine OW_run' hE.ok 6 rfl ?_
        refine OW_as' 10 (.d (.lit (.int .u64 (mulLo a b)))) (by rfl) ?_
        refine OW_end rfl ?_
        refine CW_seq ?_
        refine CW_region ?_
        refine OW_run' hE.ok 4 rfl ?_
        refine OW_loc' hE (loc_shr hE rfl (n := 32) rfl rfl rfl) rfl rfl rfl ?_
        refine OW_run' hE.ok 2 rfl ?_
        refine OW_loc' hE (loc_shr hE rfl (n := 32) rfl rfl rfl) rfl rfl rfl ?_
        refine OW_run' hE.ok 2 rfl ?_
        refine OW_as' 20 (.d (.lit (.int .u64 (mulH a b)))) (by rfl) ?_
        refine OW_end rfl ?_
        refine CW_cutE (fun _ : Unit => ⟨J, (sset (sset (sset (sset (sset (sset noSlots 0 (.d (int (a)))) 1 (.d (int (b)))) 8 (.ptr 1 0)) 9 (.d (errC 45 r.2))) 10 (.d (.lit (.int .u64 (mulLo a b))))) 20 (.d (.lit (.int .u64 (mulH1 a b))))), (hset noHeap 1 (some (.box 25 ((encV r.1).map .d))))⟩) (fun _ => True) ?_ ?_
        · skip
          refine CW_seq ?_
          refine CW_region ?_
          refine OW_run' hE.ok 2 rfl ?_
          refine OW_end rfl ?_
          refine CW_cond _ rfl (fun h5 => ?_) (fun h5 => ?_)
          · skip
            have g3 : decide (a < 0) = true := h5
            refine CW_region ?_
            refine OW_run' hE.ok 5 rfl ?_
            refine OW_as' 20 (.d (.lit (.int .u64 (wu (mulH a b - wu b))))) (by rfl) ?_
            refine OW_end rfl ?_
            exact ⟨(), trivial, LE_sh (slh_set (v := .d (.lit (.int .u64 (mulH1 a b)))) (slh_set (v := .d (.lit (.int .u64 (mulLo a b)))) (slh_set (v := .d (errC 45 r.2)) (slh_set (v := .ptr 1 0) (slh_set (v := .d (int (b))) (slh_set (v := .d (int (a))) (slh_no _ _) (by rfl) rfl) (by rfl) rfl) (by rfl) rfl) (by rfl) rfl) (by rfl) rfl) (by exact (congrArg (fun z => AV.d (.lit (.int .u64 z))) (by simp only [mulH1, g3, cond_true, cond_false]))) rfl) (hlh_set (hlh_no _ _) rfl rfl)⟩
          · skip
            have g3 : decide (a < 0) = false := h5
            refine CW_skip ?_
            exact ⟨(), trivial, LE_sh (slh_set (v := .d (.lit (.int .u64 (mulH1 a b)))) (slh_set (v := .d (.lit (.int .u64 (mulLo a b)))) (slh_set (v := .d (errC 45 r.2)) (slh_set (v := .ptr 1 0) (slh_set (v := .d (int (b))) (slh_set (v := .d (int (a))) (slh_no _ _) (by rfl) rfl) (by rfl) rfl) (by rfl) rfl) (by rfl) rfl) (by rfl) rfl) (by exact (congrArg (fun z => AV.d (.lit (.int .u64 z))) (by simp only [mulH1, g3, cond_true, cond_false]))) rfl) (hlh_set (hlh_no _ _) rfl rfl)⟩
        · skip
          rintro _ _
          refine CW_cutE (fun _ : Unit => ⟨J, (sset (sset (sset (sset (sset (sset noSlots 0 (.d (int (a)))) 1 (.d (int (b)))) 8 (.ptr 1 0)) 9 (.d (errC 45 r.2))) 10 (.d (.lit (.int .u64 (mulLo a b))))) 20 (.d (.lit (.int .u64 (mulH2 a b))))), (hset noHeap 1 (some (.box 25 ((encV r.1).map .d))))⟩) (fun _ => True) ?_ ?_
          · skip
            refine CW_seq ?_
            refine CW_region ?_
            refine OW_run' hE.ok 2 rfl ?_
            refine OW_end rfl ?_
            refine CW_cond _ rfl (fun h6 => ?_) (fun h6 => ?_)
            · skip
              have g4 : decide (b < 0) = true := h6
              refine CW_region ?_
              refine OW_run' hE.ok 5 rfl ?_
              refine OW_as' 20 (.d (.lit (.int .u64 (wu (mulH1 a b - wu a))))) (by rfl) ?_
              refine OW_end rfl ?_
              exact ⟨(), trivial, LE_sh (slh_set (v := .d (.lit (.int .u64 (mulH2 a b)))) (slh_set (v := .d (.lit (.int .u64 (mulLo a b)))) (slh_set (v := .d (errC 45 r.2)) (slh_set (v := .ptr 1 0) (slh_set (v := .d (int (b))) (slh_set (v := .d (int (a))) (slh_no _ _) (by rfl) rfl) (by rfl) rfl) (by rfl) rfl) (by rfl) rfl) (by rfl) rfl) (by exact (congrArg (fun z => AV.d (.lit (.int .u64 z))) (by simp only [mulH2, g4, cond_true, cond_false]))) rfl) (hlh_set (hlh_no _ _) rfl rfl)⟩
            · skip
              have g4 : decide (b < 0) = false := h6
              refine CW_skip ?_
              exact ⟨(), trivial, LE_sh (slh_set (v := .d (.lit (.int .u64 (mulH2 a b)))) (slh_set (v := .d (.lit (.int .u64 (mulLo a b)))) (slh_set (v := .d (errC 45 r.2)) (slh_set (v := .ptr 1 0) (slh_set (v := .d (int (b))) (slh_set (v := .d (int (a))) (slh_no _ _) (by rfl) rfl) (by rfl) rfl) (by rfl) rfl) (by rfl) rfl) (by rfl) rfl) (by exact (congrArg (fun z => AV.d (.lit (.int .u64 z))) (by simp only [mulH2, g4, cond_true, cond_false]))) rfl) (hlh_set (hlh_no _ _) rfl rfl)⟩
          · skip
            rintro _ _
            refine CW_region ?_
            refine OW_run' hE.ok 3 rfl ?_
            refine OW_as' 11 (.d (int (wr (mulH2 a b)))) (by rfl) ?_
            refine OW_end rfl ?_
            exact ⟨(), trivial, LE_sh (slh_set (v := .d (int (ovHi o a b))) (slh_set (v := .d (.lit (.int .u64 (ovLo o a b)))) (slh_set (v := .d (errC 45 r.2)) (slh_set (v := .ptr 1 0) (slh_no _ _) (by rfl) rfl) (by rfl) rfl) (by exact (congrArg (fun z => AV.d (.lit (.int .u64 z))) (by simp only [ovLo, g1, g2, cond_true, cond_false]))) rfl) (by exact (congrArg (fun z => AV.d (int z)) (by simp only [ovHi, mulHi, g1, g2, cond_true, cond_false]))) rfl) (hlh_set (hlh_no _ _) rfl rfl)⟩
  · skip
    rintro _ _
    refine CW_seq ?_
    refine CW_region ?_
    refine OW_run' hE.ok 3 rfl ?_
    refine OW_loc' hE (loc_shr hE rfl (n := 63) rfl rfl rfl) rfl rfl rfl ?_
    refine OW_run' hE.ok 2 rfl ?_
    refine OW_as' 21 (.d (boo (fitsX (ovHi o a b) (ovLo o a b)))) (by rfl) ?_
    refine OW_end rfl ?_
    refine CW_seq ?_
    refine CW_seq ?_
    refine CW_as' 21 (.d (boo (countsR o a b).2)) (congrArg (fun z => AV.d (boo z)) (ov_ok ha hb).1.symm) ?_
    refine CW_region ?_
    refine OW_run' hE.ok 2 rfl ?_
    refine OW_end rfl ?_
    refine CW_cond _ rfl (fun h7 => ?_) (fun h7 => ?_)
    · skip
      have g5 : (!(countsR o a b).2) = true := h7
      obtain rfl : r = (nulV, 16) := by rw [← hr]; exact ov_no g5
      rw [show errC 45 (nulV, (16 : Int)).2 = errN 45 16 from rfl]
      refine CW_seq ?_
      refine CW_region ?_
      refine OW_run' hE.ok 2 rfl ?_
      refine OW_call' hE (errIs 16 16) rfl rfl rfl rfl rfl rfl rfl ?_
      refine OW_run' hE.ok 1 rfl ?_
      refine OW_end rfl ?_
      refine CW_ret ?_
      refine ⟨.inr rfl, rfl, ⟨[.d (boo true)], rfl, rfl, ?_⟩, rfl⟩
      exact AVle.refl _
    · skip
      have g5 : (!(countsR o a b).2) = false := h7
      obtain rfl : r = (⟨1, wr (ovLo o a b), nul⟩, 0) := by rw [← hr]; exact ov_yes ha hb g5
      rw [show errC 45 ((⟨1, wr (ovLo o a b), nul⟩ : Vl), (0 : Int)).2 = nilE from rfl]
      refine CW_skip ?_
      refine CW_seq ?_
      refine CW_region ?_
      refine OW_run' hE.ok 6 rfl ?_
      refine OW_build' hE rfl rfl rfl rfl rfl ?_
      refine OW_loc' hE (loc_eql rfl rfl rfl (r := sameV ⟨1, wr (ovLo o a b), nul⟩ ⟨1, wr (ovLo o a b), nul⟩) (eqLaw_flat T_ok (t := 25) rfl (by decide +kernel) rfl (X := encV ⟨1, wr (ovLo o a b), nul⟩) (Y := encV ⟨1, wr (ovLo o a b), nul⟩) rfl rfl rfl)) rfl rfl rfl ?_
      refine OW_as' 148 (.d (boo true)) (by exact congrArg (fun b => AV.d (boo b)) (sameV_rfl _)) ?_
      refine OW_run' hE.ok 2 rfl ?_
      refine OW_end rfl ?_
      refine CW_ret ?_
      refine ⟨.inr rfl, rfl, ⟨[.d (boo true)], rfl, rfl, ?_⟩, rfl⟩
      exact AVle.refl _
end Go.Proofs.Ytencfmpapdnnaaa
