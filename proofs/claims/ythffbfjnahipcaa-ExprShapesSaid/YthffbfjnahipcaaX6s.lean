/- Part of an abstract logic over the kit's walks, and walks in it: X6s. -/
import Derived.Test.YthffbfjnahipcaaX2k
import Derived.Test.YthffbfjnahipcaaX6m
namespace Go.Proofs.Ythffbfjnahipcaa
open Go Go.AL
set_option linter.unusedVariables false
set_option linter.unusedSimpArgs false
set_option maxHeartbeats 4000000
theorem shapesOk (op1 n1 : UInt8) (name val : Bool) : Does Try.prog 5 [.d (.lit (.int .u8 (op1.toNat : Int))), .d (.lit (.int .u8 (n1.toNat : Int))), .d (boo name), .d (boo val)] noHeap (.d (boo true)) := by
  refine Does_of T_ok mixed (N := 71) Try.func5 rfl rfl rfl (by rfl) fun F n Z hE hF J => ?_
  refine CW_seq ?_
  refine CW_region ?_
  refine OW_run' hE.ok 1 rfl ?_
  refine OW_end rfl ?_
  refine CW_seq ?_
  refine CW_seq ?_
  refine CW_region ?_
  refine OW_call' hE (known6) rfl rfl rfl rfl rfl rfl rfl ?_
  refine OW_run' hE.ok 1 rfl ?_
  refine OW_end rfl ?_
  refine CW_false rfl ?_
  refine CW_skip ?_
  refine CW_seq ?_
  obtain ⟨o, ho⟩ : ∃ o, op1.toNat % 14 = o := ⟨_, rfl⟩
  have ho14 : o < 14 := by omega
  obtain ⟨k, hk⟩ : ∃ k, n1.toNat % 4 = k := ⟨_, rfl⟩
  have hk4 : k < 4 := by omega
  refine CW_region ?_
  refine OW_run' hE.ok 4 rfl ?_
  refine OW_as' 19 (.d (int ((o : Nat) : Int))) (by show AV.d (.lit (.int .i64 (IntKind.i64.wrap (IntKind.i64.wrap ((op1.toNat % 14 : Nat) : Int) - 0)))) = _; rw [ho, wrapN (by omega), Int.sub_zero, wrapN (by omega)]; rfl) ?_
  refine OW_run' hE.ok 1 rfl ?_
  refine OW_end rfl ?_
  refine CW_seq ?_
  refine CW_region ?_
  refine OW_run' hE.ok 1 rfl ?_
  refine OW_build' hE rfl rfl rfl rfl rfl ?_
  refine OW_alloc' hE 1 rfl rfl rfl rfl rfl rfl rfl ?_
  refine OW_store' hE rfl rfl rfl rfl rfl rfl rfl rfl rfl rfl rfl rfl ?_
  refine OW_end rfl ?_
  refine CW_seq ?_
  refine CW_region ?_
  refine OW_run' hE.ok 3 rfl ?_
  refine OW_as' 24 (.d (int ((k : Nat) : Int))) (by show AV.d (.lit (.int .i64 (IntKind.i64.wrap ((n1.toNat % 4 : Nat) : Int)))) = _; rw [hk, wrapN (by omega)]; rfl) ?_
  refine OW_run' hE.ok 1 rfl ?_
  refine OW_end rfl ?_
  refine CW_seq ?_
  refine CW_seq ?_
  refine CW_region ?_
  refine OW_run' hE.ok 1 rfl ?_
  refine OW_end rfl ?_
  refine CW_block ?_
  rw [hset_hset]
  refine CW.le (LE_nilCell 1 50 6 27 7 rfl rfl rfl) ?_
  refine CW_loop (σ := {i : Nat // i ≤ k}) (fun i => ⟨J, (sset (sset (sset (sset (sset (sset noSlots 2 (.d (boo name))) 3 (.d (boo val))) 9 (.d (int ((o : Nat) : Int)))) 10 (.ptr 1 0)) 11 (.d (int ((k : Nat) : Int)))) 12 (.d (int ((i.1 : Nat) : Int)))), (hset (hset noHeap 1 (some (.box 27 [.d (int ((o : Nat) : Int)), .d (int 0), .d (int 0), .d (str nul), .d (str nul), .d (str nul), .row 50]))) 50 (some (.row 27 7 (encXs (shK i.1)))))⟩) (fun i => k - i.1) ⟨0, Nat.zero_le _⟩ (LE_sh (slh_set (slh_set (slh_set (slh_set (slh_set (slh_set (slh_no _ _) rfl rfl) rfl rfl) rfl rfl) rfl rfl) rfl rfl) rfl rfl) (hlh_set (hlh_set (hlh_no _ _) rfl rfl) rfl rfl)) fun ⟨i, hi⟩ => ?_
  refine CW_seq ?_
  refine CW_seq ?_
  refine CW_region ?_
  refine OW_run' hE.ok 3 rfl ?_
  refine OW_end rfl ?_
  refine CW_cond _ rfl (fun h1 => ?_) (fun h1 => ?_)
  · skip
    have hlt : i < k := by have := h1; simp at this; omega
    refine CW_skip ?_
    refine CW_seq ?_
    refine CW_block ?_
    refine CW_drawn' hE 5 (by decide +kernel) ?_
    refine HW_run hE 3 rfl rfl ?_
    refine HW_call hE (litOk ((i : Nat) : Int)) rfl rfl rfl rfl rfl rfl rfl rfl ?_
    refine HW_loc hE (loc_lits hE (t := 25) (len := 1) (parts := #[(0, .tmp 33)]) rfl rfl rfl rfl rfl rfl rfl rfl (xs := [encX (litX ((i : Nat) : Int))]) rfl) rfl rfl rfl rfl ?_
    refine HW_end ?_
    refine OW_append' hE (key := 50) rfl rfl rfl rfl rfl rfl rfl rfl (.inl rfl) (by simp [encXs_length, shK_len]; omega) (by simp [encXs_length, shK_len]; omega) rfl ?_
    refine OW_run' hE.ok 1 rfl ?_
    refine OW_store' hE rfl rfl rfl rfl rfl rfl rfl rfl rfl rfl rfl rfl ?_
    refine OW_end rfl ?_
    refine CW_region ?_
    refine OW_run' hE.ok 3 rfl ?_
    refine OW_end rfl ?_
    exact ⟨⟨i + 1, by omega⟩, LE_sh (slh_set (slh_set (slh_set (slh_set (slh_set (slh_set (slh_no _ _) rfl rfl) rfl rfl) rfl rfl) rfl rfl) rfl rfl) (by show AV.d (.lit (.int .i64 (IntKind.i64.wrap ((i : Int) + 1)))) = _; rw [wrap_succ (by omega)]; rfl) rfl) (hlh_set (hlh_set (hlh_no _ _) rfl rfl) (congrArg (fun z => some (Ent.row 27 7 z)) (encK_snoc i)) rfl), by show k - (i + 1) < k - i; omega⟩
  · skip
    have hki : i = k := by have := h1; simp at this; omega
    refine CW_exit ?_
    show CW _ _ _ _
    refine CW_cutE (fun _ : Unit => ⟨J, (sset (sset (sset (sset (sset noSlots 2 (.d (boo name))) 3 (.d (boo val))) 9 (.d (int ((o : Nat) : Int)))) 10 (.ptr 1 0)) 11 (.d (int ((k : Nat) : Int)))), (hset noHeap 1 (some (.box 27 [.d (int ((o : Nat) : Int)), .d (int 0), .d (int 0), .d (str nul), .d (str (shN name kA)), .d (str (shN name kX)), .d (.sl 7 96 (encXs (shK k)))])))⟩) (fun _ => True) ?_ ?_
    · skip
      refine CW_seq ?_
      refine CW.le (LE_freeze 50 96 rfl (by simp [encXs_length, shK_len]; omega)) ?_
      refine CW.le (show LE _ _ ⟨J, (sset (sset (sset (sset (sset noSlots 2 (.d (boo name))) 3 (.d (boo val))) 9 (.d (int ((o : Nat) : Int)))) 10 (.ptr 1 0)) 11 (.d (int ((k : Nat) : Int)))), (hset noHeap 1 (some (.box 27 [.d (int ((o : Nat) : Int)), .d (int 0), .d (int 0), .d (str nul), .d (str nul), .d (str nul), .d (.sl 7 96 (encXs (shK k)))])))⟩ from LE_sh (slh_set (slh_set (slh_set (slh_set (slh_set (slh_no _ _) rfl rfl) rfl rfl) rfl rfl) rfl rfl) rfl rfl) (hlh_set (hlh_no _ _) (congrArg (fun z => some (Ent.box 27 [.d (int ((o : Nat) : Int)), .d (int 0), .d (int 0), .d (str nul), .d (str nul), .d (str nul), .d (.sl 7 96 (encXs (shK z)))])) hki) rfl)) ?_
      refine CW_region ?_
      refine OW_run' hE.ok 1 rfl ?_
      refine OW_end rfl ?_
      refine CW_cond _ rfl (fun h2 => ?_) (fun h2 => ?_)
      · skip
        have hn : name = true := h2
        subst hn
        refine CW_region ?_
        refine OW_run' hE.ok 1 rfl ?_
        refine OW_store' hE rfl rfl rfl rfl rfl rfl rfl rfl rfl rfl rfl rfl ?_
        refine OW_run' hE.ok 1 rfl ?_
        refine OW_store' hE rfl rfl rfl rfl rfl rfl rfl rfl rfl rfl rfl rfl ?_
        refine OW_end rfl ?_
        exact ⟨(), trivial, LE_sh (slh_set (slh_set (slh_set (slh_set (slh_set (slh_no _ _) rfl rfl) rfl rfl) rfl rfl) rfl rfl) rfl rfl) (hlh_set (hlh_no _ _) rfl rfl)⟩
      · skip
        have hn : name = false := h2
        subst hn
        refine CW_skip ?_
        exact ⟨(), trivial, LE_sh (slh_set (slh_set (slh_set (slh_set (slh_set (slh_no _ _) rfl rfl) rfl rfl) rfl rfl) rfl rfl) rfl rfl) (hlh_set (hlh_no _ _) rfl rfl)⟩
    · skip
      rintro _ _
      refine CW_cutE (fun _ : Unit => ⟨J, (sset (sset (sset (sset (sset noSlots 2 (.d (boo name))) 3 (.d (boo val))) 9 (.d (int ((o : Nat) : Int)))) 10 (.ptr 1 0)) 11 (.d (int ((k : Nat) : Int)))), (hset noHeap 1 (some (.box 27 [.d (int ((o : Nat) : Int)), .d (int (shV val)), .d (int (shV val)), .d (str nul), .d (str (shN name kA)), .d (str (shN name kX)), .d (.sl 7 96 (encXs (shK k)))])))⟩) (fun _ => True) ?_ ?_
      · skip
        refine CW_seq ?_
        refine CW_region ?_
        refine OW_run' hE.ok 1 rfl ?_
        refine OW_end rfl ?_
        refine CW_cond _ rfl (fun h3 => ?_) (fun h3 => ?_)
        · skip
          have hn : val = true := h3
          subst hn
          refine CW_region ?_
          refine OW_build' hE rfl rfl rfl rfl rfl ?_
          refine OW_run' hE.ok 1 rfl ?_
          refine OW_store' hE rfl rfl rfl rfl rfl rfl rfl rfl rfl rfl rfl rfl ?_
          refine OW_end rfl ?_
          exact ⟨(), trivial, LE_sh (slh_set (slh_set (slh_set (slh_set (slh_set (slh_no _ _) rfl rfl) rfl rfl) rfl rfl) rfl rfl) rfl rfl) (hlh_set (hlh_no _ _) rfl rfl)⟩
        · skip
          have hn : val = false := h3
          subst hn
          refine CW_skip ?_
          exact ⟨(), trivial, LE_sh (slh_set (slh_set (slh_set (slh_set (slh_set (slh_no _ _) rfl rfl) rfl rfl) rfl rfl) rfl rfl) rfl rfl) (hlh_set (hlh_no _ _) rfl rfl)⟩
      · skip
        rintro _ _
        refine CW_cutE (fun _ : Unit => ⟨J, (sset (sset noSlots 10 (.ptr 1 0)) 13 (.d (boo (shG o k name val)))), (hset noHeap 1 (some (.box 27 [.d (int ((o : Nat) : Int)), .d (int (shV val)), .d (int (shV val)), .d (str nul), .d (str (shN name kA)), .d (str (shN name kX)), .d (.sl 7 96 (encXs (shK k)))])))⟩) (fun _ => True) ?_ ?_
        · skip
          refine CW_region ?_
          refine OW_run' hE.ok 3 rfl ?_
          refine OW_split' 45 rfl (fun h4 => ?_) (fun h4 => ?_)
          · skip
            have g1 : decide ((o : Int) ≥ 1) = true := h4
            refine OW_run' hE.ok 4 rfl ?_
            refine OW_split' 49 rfl (fun h5 => ?_) (fun h5 => ?_)
            · skip
              have g2 : decide ((o : Int) ≤ 12) = true := h5
              refine OW_run' hE.ok 2 rfl ?_
              refine OW_call' hE (kidsOk ((o : Nat) : Int)) rfl rfl rfl rfl rfl rfl rfl ?_
              refine OW_run' hE.ok 3 rfl ?_
              refine OW_split' 55 rfl (fun h6 => ?_) (fun h6 => ?_)
              · skip
                have g3 : ((k : Int) == kidsN (o : Int)) = true := h6
                refine OW_run' hE.ok 6 rfl ?_
                refine OW_split' 61 rfl (fun h7 => ?_) (fun h7 => ?_)
                · skip
                  have g4 : (name == ((o : Int) == 2)) = true := h7
                  refine OW_run' hE.ok 6 rfl ?_
                  refine OW_end rfl ?_
                  exact ⟨(), trivial, LE_sh (slh_set (slh_set (slh_no _ _) rfl rfl) (congrArg (fun b => AV.d (boo b)) (by unfold shG; rw [g1, g2, g3, g4]; rfl)) rfl) (hlh_set (hlh_no _ _) rfl rfl)⟩
                · skip
                  have g4 : (name == ((o : Int) == 2)) = false := h7
                  refine OW_run' hE.ok 6 rfl ?_
                  refine OW_end rfl ?_
                  exact ⟨(), trivial, LE_sh (slh_set (slh_set (slh_no _ _) rfl rfl) (congrArg (fun b => AV.d (boo b)) (by unfold shG; rw [g1, g2, g3, g4]; rfl)) rfl) (hlh_set (hlh_no _ _) rfl rfl)⟩
              · skip
                have g3 : ((k : Int) == kidsN (o : Int)) = false := h6
                refine OW_run' hE.ok 12 rfl ?_
                refine OW_end rfl ?_
                exact ⟨(), trivial, LE_sh (slh_set (slh_set (slh_no _ _) rfl rfl) (congrArg (fun b => AV.d (boo b)) (by unfold shG; rw [g1, g2, g3]; rfl)) rfl) (hlh_set (hlh_no _ _) rfl rfl)⟩
            · skip
              have g2 : decide ((o : Int) ≤ 12) = false := h5
              refine OW_run' hE.ok 18 rfl ?_
              refine OW_end rfl ?_
              exact ⟨(), trivial, LE_sh (slh_set (slh_set (slh_no _ _) rfl rfl) (congrArg (fun b => AV.d (boo b)) (by unfold shG; rw [g1, g2]; rfl)) rfl) (hlh_set (hlh_no _ _) rfl rfl)⟩
          · skip
            have g1 : decide ((o : Int) ≥ 1) = false := h4
            refine OW_run' hE.ok 22 rfl ?_
            refine OW_end rfl ?_
            exact ⟨(), trivial, LE_sh (slh_set (slh_set (slh_no _ _) rfl rfl) (congrArg (fun b => AV.d (boo b)) (by unfold shG; rw [g1]; rfl)) rfl) (hlh_set (hlh_no _ _) rfl rfl)⟩
        · skip
          rintro _ _
          have q := isXOk (shX o k name val); rw [sh_ok ho14 hk4] at q
          refine CW_seq ?_
          refine CW_region ?_
          refine OW_run' hE.ok 1 rfl ?_
          refine OW_call' hE (q) rfl rfl rfl rfl rfl rfl rfl ?_
          refine OW_run' hE.ok 2 rfl ?_
          refine OW_as' 70 (.d (boo true)) (by refine congrArg (fun b => AV.d (boo b)) ?_; simp) ?_
          refine OW_run' hE.ok 1 rfl ?_
          refine OW_end rfl ?_
          refine CW_ret ?_
          refine ⟨.inr rfl, rfl, ⟨[.d (boo true)], rfl, rfl, ?_⟩, rfl⟩
          exact AVle.refl _
end Go.Proofs.Ythffbfjnahipcaa
