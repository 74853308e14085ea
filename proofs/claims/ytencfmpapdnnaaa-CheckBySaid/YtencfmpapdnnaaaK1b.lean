/- Parts of an abstract logic over the kit's walks, and walks in it: K1b. -/
import Derived.Test.YtencfmpapdnnaaaK1n
namespace Go.Proofs.Ytencfmpapdnnaaa
open Go Go.AL
set_option linter.unusedVariables false
set_option linter.unusedSimpArgs false
set_option maxHeartbeats 4000000
theorem byOk (w1 t1 : UInt8) : Does Try.prog 5 [.d (.lit (.int .u8 (w1.toNat : Int))), .d (.lit (.int .u8 (t1.toNat : Int)))] noHeap (.d (boo true)) := by
  refine Does_of T_ok mixed (N := 60) Try.func5 rfl rfl rfl (by rfl) fun F n Z hE hF J => ?_
  refine CW_seq ?_
  refine CW_region ?_
  refine OW_run' hE.ok 1 rfl ?_
  refine OW_end rfl ?_
  refine CW_seq ?_
  refine CW_seq ?_
  refine CW_region ?_
  refine OW_call' hE (known10) rfl rfl rfl rfl rfl rfl rfl ?_
  refine OW_run' hE.ok 1 rfl ?_
  refine OW_end rfl ?_
  refine CW_false rfl ?_
  refine CW_skip ?_
  refine CW_seq ?_
  obtain ⟨n4, hn0⟩ : ∃ q, w1.toNat % 4 = q := ⟨_, rfl⟩
  have hn : n4 < 4 := by omega
  obtain ⟨m3, hm0⟩ : ∃ q, t1.toNat % 3 = q := ⟨_, rfl⟩
  have hm : m3 < 3 := by omega
  have hf := by_facts hn hm
  have he := patCOk bS10 (pB n4 m3)
  obtain ⟨c, hc⟩ : ∃ c, patC bS10 (pB n4 m3) = c := ⟨_, rfl⟩
  rw [hc] at hf he
  clear hc
  refine CW_region ?_
  refine OW_loc' hE (loc_buildA hE rfl rfl) rfl rfl rfl ?_
  refine OW_run' hE.ok 2 rfl ?_
  refine OW_as' 13 (.d (.lit (.int .u8 ((n4 : Nat) : Int)))) (by rw [← hn0]; rfl) ?_
  refine OW_loc' hE (loc_indexA hE rfl rfl rfl rfl rfl (by omega) (by omega) (by exact by_name hn)) rfl rfl rfl ?_
  refine OW_run' hE.ok 1 rfl ?_
  refine OW_end rfl ?_
  refine CW_seq ?_
  refine CW_region ?_
  refine OW_lits' hE rfl rfl rfl rfl rfl rfl rfl rfl rfl rfl rfl rfl ?_
  refine OW_lits' hE rfl rfl rfl rfl rfl rfl rfl rfl rfl rfl rfl rfl ?_
  refine OW_lits' hE rfl rfl rfl rfl rfl rfl rfl rfl rfl rfl rfl rfl ?_
  refine OW_loc' hE (loc_buildA hE rfl rfl) rfl rfl rfl ?_
  refine OW_run' hE.ok 2 rfl ?_
  refine OW_as' 20 (.d (.lit (.int .u8 ((m3 : Nat) : Int)))) (by rw [← hm0]; rfl) ?_
  refine OW_loc' hE (loc_indexA hE rfl rfl rfl rfl rfl (by omega) (by omega) (by exact by_type hm)) rfl rfl rfl ?_
  refine OW_run' hE.ok 1 rfl ?_
  refine OW_end rfl ?_
  refine CW_seq ?_
  refine CW_region ?_
  refine OW_run' hE.ok 1 rfl ?_
  refine OW_build' hE rfl rfl rfl rfl rfl ?_
  refine OW_lits' hE rfl rfl rfl rfl rfl rfl rfl rfl rfl rfl rfl rfl ?_
  refine OW_build' hE rfl rfl rfl rfl rfl ?_
  refine OW.le (LE_slot 23 (argL ⟨(ch 97), (tyB m3), false, false, zeroX⟩) (el_le (ch 97) (tyB m3) false)) ?_
  refine OW.le (LE_slot 25 (argL ⟨(ch 99), [ch 116], false, false, zeroX⟩) (el_le (ch 99) [ch 116] false)) ?_
  refine OW_lits' hE rfl rfl rfl rfl rfl rfl rfl rfl rfl rfl rfl rfl ?_
  refine OW_run' hE.ok 1 rfl ?_
  refine OW_build' hE rfl rfl rfl rfl rfl ?_
  refine OW_alloc' hE 1 rfl rfl rfl rfl rfl rfl rfl ?_
  refine OW_store' hE rfl rfl rfl rfl rfl rfl rfl rfl rfl rfl rfl rfl ?_
  refine OW_end rfl ?_
  refine CW_seq ?_
  refine CW_drawn' hE 2 (by decide +kernel) ?_
  refine HW_call hE (base10) rfl rfl rfl rfl rfl rfl rfl rfl ?_
  refine HW_run hE 1 rfl rfl ?_
  refine HW_end ?_
  refine OW_call' hE (he) rfl rfl rfl rfl rfl rfl rfl ?_
  refine OW_run' hE.ok 1 rfl ?_
  refine OW_end rfl ?_
  refine CW_seq ?_
  refine CW_block ?_
  refine CW_seq ?_
  refine CW_region ?_
  refine OW_run' hE.ok 3 rfl ?_
  refine OW_split' 35 rfl (fun h1 => ?_) (fun h1 => ?_)
  · skip
    have gz : same (nmB n4) (ch 122) = true := h1
    refine OW_run' hE.ok 9 rfl ?_
    refine OW_end rfl ?_
    refine CW_true rfl ?_
    refine CW_seq ?_
    have hc13 : c = 13 := by (unfold byT at hf; simp_all)
    subst hc13
    refine CW_region ?_
    refine OW_run' hE.ok 2 rfl ?_
    refine OW_call' hE (errIs 13 13) rfl rfl rfl rfl rfl rfl rfl ?_
    refine OW_run' hE.ok 1 rfl ?_
    refine OW_end rfl ?_
    refine CW_ret ?_
    refine ⟨.inr rfl, rfl, ⟨[.d (boo true)], rfl, rfl, ?_⟩, rfl⟩
    exact AVle.refl _
  · skip
    have gz : same (nmB n4) (ch 122) = false := h1
    refine OW_run' hE.ok 3 rfl ?_
    refine OW_split' 38 rfl (fun h2 => ?_) (fun h2 => ?_)
    · skip
      have gb : same (nmB n4) (ch 98) = true := h2
      refine OW_run' hE.ok 1 rfl ?_
      refine OW_run' hE.ok 1 rfl ?_
      refine OW_as' 40 (.d (.lit (.int .u8 ((m3 : Nat) : Int)))) (by rw [← hm0]; rfl) ?_
      refine OW_run' hE.ok 4 rfl ?_
      refine OW_end rfl ?_
      refine CW_cond _ rfl (fun h3 => ?_) (fun h3 => ?_)
      · skip
        have gm : decide (((m3 : Nat) : Int) > 0) = true := h3
        refine CW_seq ?_
        have hc13 : c = 13 := by (unfold byT at hf; simp_all)
        subst hc13
        refine CW_region ?_
        refine OW_run' hE.ok 2 rfl ?_
        refine OW_call' hE (errIs 13 13) rfl rfl rfl rfl rfl rfl rfl ?_
        refine OW_run' hE.ok 1 rfl ?_
        refine OW_end rfl ?_
        refine CW_ret ?_
        refine ⟨.inr rfl, rfl, ⟨[.d (boo true)], rfl, rfl, ?_⟩, rfl⟩
        exact AVle.refl _
      · skip
        have gm : decide (((m3 : Nat) : Int) > 0) = false := h3
        refine CW_seq ?_
        refine CW_region ?_
        refine OW_run' hE.ok 3 rfl ?_
        refine OW_split' 50 rfl (fun h4 => ?_) (fun h4 => ?_)
        · skip
          have gs : same (nmB n4) (ch 115) = true := h4
          refine OW_run' hE.ok 1 rfl ?_
          refine OW_run' hE.ok 1 rfl ?_
          refine OW_as' 52 (.d (.lit (.int .u8 ((m3 : Nat) : Int)))) (by rw [← hm0]; rfl) ?_
          refine OW_run' hE.ok 3 rfl ?_
          refine OW_end rfl ?_
          refine CW_cond _ rfl (fun h5 => ?_) (fun h5 => ?_)
          · skip
            have gm2 : decide (((m3 : Nat) : Int) > 0) = true := h5
            refine CW_seq ?_
            have hc14 : c = 14 := by (unfold byT at hf; simp_all)
            subst hc14
            refine CW_region ?_
            refine OW_run' hE.ok 2 rfl ?_
            refine OW_call' hE (errIs 14 14) rfl rfl rfl rfl rfl rfl rfl ?_
            refine OW_run' hE.ok 1 rfl ?_
            refine OW_end rfl ?_
            refine CW_ret ?_
            refine ⟨.inr rfl, rfl, ⟨[.d (boo true)], rfl, rfl, ?_⟩, rfl⟩
            exact AVle.refl _
          · skip
            have gm2 : decide (((m3 : Nat) : Int) > 0) = false := h5
            refine CW_skip ?_
            refine CW_seq ?_
            have hc0 : c = 0 := by (unfold byT at hf; simp_all)
            subst hc0
            refine CW_region ?_
            refine OW_run' hE.ok 1 rfl ?_
            refine OW_run' hE.ok 1 rfl ?_
            refine OW_run' hE.ok 1 rfl ?_
            refine OW_end rfl ?_
            refine CW_ret ?_
            refine ⟨.inr rfl, rfl, ⟨[.d (boo true)], rfl, rfl, ?_⟩, rfl⟩
            exact AVle.refl _
        · skip
          have gs : same (nmB n4) (ch 115) = false := h4
          refine OW_run' hE.ok 5 rfl ?_
          refine OW_end rfl ?_
          refine CW_false rfl ?_
          refine CW_skip ?_
          refine CW_seq ?_
          have hc0 : c = 0 := by (unfold byT at hf; simp_all)
          subst hc0
          refine CW_region ?_
          refine OW_run' hE.ok 1 rfl ?_
          refine OW_run' hE.ok 1 rfl ?_
          refine OW_run' hE.ok 1 rfl ?_
          refine OW_end rfl ?_
          refine CW_ret ?_
          refine ⟨.inr rfl, rfl, ⟨[.d (boo true)], rfl, rfl, ?_⟩, rfl⟩
          exact AVle.refl _
    · skip
      have gb : same (nmB n4) (ch 98) = false := h2
      refine OW_run' hE.ok 6 rfl ?_
      refine OW_end rfl ?_
      refine CW_false rfl ?_
      refine CW_seq ?_
      refine CW_region ?_
      refine OW_run' hE.ok 3 rfl ?_
      refine OW_split' 50 rfl (fun h6 => ?_) (fun h6 => ?_)
      · skip
        have gs : same (nmB n4) (ch 115) = true := h6
        refine OW_run' hE.ok 1 rfl ?_
        refine OW_run' hE.ok 1 rfl ?_
        refine OW_as' 52 (.d (.lit (.int .u8 ((m3 : Nat) : Int)))) (by rw [← hm0]; rfl) ?_
        refine OW_run' hE.ok 3 rfl ?_
        refine OW_end rfl ?_
        refine CW_cond _ rfl (fun h7 => ?_) (fun h7 => ?_)
        · skip
          have gm2 : decide (((m3 : Nat) : Int) > 0) = true := h7
          refine CW_seq ?_
          have hc14 : c = 14 := by (unfold byT at hf; simp_all)
          subst hc14
          refine CW_region ?_
          refine OW_run' hE.ok 2 rfl ?_
          refine OW_call' hE (errIs 14 14) rfl rfl rfl rfl rfl rfl rfl ?_
          refine OW_run' hE.ok 1 rfl ?_
          refine OW_end rfl ?_
          refine CW_ret ?_
          refine ⟨.inr rfl, rfl, ⟨[.d (boo true)], rfl, rfl, ?_⟩, rfl⟩
          exact AVle.refl _
        · skip
          have gm2 : decide (((m3 : Nat) : Int) > 0) = false := h7
          refine CW_skip ?_
          refine CW_seq ?_
          have hc0 : c = 0 := by (unfold byT at hf; simp_all)
          subst hc0
          refine CW_region ?_
          refine OW_run' hE.ok 1 rfl ?_
          refine OW_run' hE.ok 1 rfl ?_
          refine OW_run' hE.ok 1 rfl ?_
          refine OW_end rfl ?_
          refine CW_ret ?_
          refine ⟨.inr rfl, rfl, ⟨[.d (boo true)], rfl, rfl, ?_⟩, rfl⟩
          exact AVle.refl _
      · skip
        have gs : same (nmB n4) (ch 115) = false := h6
        refine OW_run' hE.ok 5 rfl ?_
        refine OW_end rfl ?_
        refine CW_false rfl ?_
        refine CW_skip ?_
        refine CW_seq ?_
        have hc0 : c = 0 := by (unfold byT at hf; simp_all)
        subst hc0
        refine CW_region ?_
        refine OW_run' hE.ok 1 rfl ?_
        refine OW_run' hE.ok 1 rfl ?_
        refine OW_run' hE.ok 1 rfl ?_
        refine OW_end rfl ?_
        refine CW_ret ?_
        refine ⟨.inr rfl, rfl, ⟨[.d (boo true)], rfl, rfl, ?_⟩, rfl⟩
        exact AVle.refl _
end Go.Proofs.Ytencfmpapdnnaaa
