/- Parts of an abstract logic over the kit's walks, and walks in it: L1a. -/
import Derived.Test.YtencfmpapdnnaaaLa
import Derived.Test.YtencfmpapdnnaaaELa
namespace Go.Proofs.Ytencfmpapdnnaaa
open Go Go.AL
set_option linter.unusedVariables false
set_option linter.unusedSimpArgs false
set_option maxHeartbeats 4000000
theorem lastOk (l : List UInt8) (ot : UInt8) : Does Try.prog 10 [.d (.sl 1 1 (bytesD l)), .d (.lit (.int .u8 (ot.toNat : Int)))] noHeap (.d (boo true)) := by
  refine Does_of T_ok mixed (N := 88) Try.func10 rfl rfl rfl (by rfl) fun F n Z hE hF J => ?_
  refine CW_seq ?_
  refine CW_region ?_
  refine OW_run' hE.ok 1 rfl ?_
  refine OW_end rfl ?_
  refine CW_seq ?_
  refine CW_seq ?_
  refine CW_region ?_
  refine OW_call' hE (known11) rfl rfl rfl rfl rfl rfl rfl ?_
  refine OW_run' hE.ok 1 rfl ?_
  refine OW_end rfl ?_
  refine CW_false rfl ?_
  refine CW_skip ?_
  refine CW_seq ?_
  refine CW_seq ?_
  refine CW_region ?_
  refine OW_run' hE.ok 4 rfl ?_
  refine OW_split' 17 rfl (fun h1 => ?_) (fun h1 => ?_)
  · skip
    refine OW_run' hE.ok 4 rfl ?_
    refine OW_end rfl ?_
    refine CW_true rfl ?_
    refine CW_seq ?_
    refine CW_region ?_
    refine OW_run' hE.ok 1 rfl ?_
    refine OW_end rfl ?_
    refine CW_ret ?_
    refine ⟨.inr rfl, rfl, ⟨[.d (boo true)], rfl, rfl, ?_⟩, rfl⟩
    exact AVle.refl _
  · skip
    refine OW_run' hE.ok 4 rfl ?_
    refine OW_end rfl ?_
    refine CW_cond _ rfl (fun h2 => ?_) (fun h2 => ?_)
    · skip
      refine CW_seq ?_
      refine CW_region ?_
      refine OW_run' hE.ok 1 rfl ?_
      refine OW_end rfl ?_
      refine CW_ret ?_
      refine ⟨.inr rfl, rfl, ⟨[.d (boo true)], rfl, rfl, ?_⟩, rfl⟩
      exact AVle.refl _
    · skip
      have h10 : l.length ≤ 10 := by have := h2; simp [bytesD_length] at this; omega
      refine CW_skip ?_
      refine CW_seq ?_
      refine CW_region ?_
      refine OW_run' hE.ok 1 rfl ?_
      refine OW_end rfl ?_
      refine CW_seq ?_
      refine CW_region ?_
      refine OW_run' hE.ok 1 rfl ?_
      refine OW_end rfl ?_
      refine CW_seq ?_
      refine CW_seq ?_
      refine CW_region ?_
      refine OW_run' hE.ok 1 rfl ?_
      refine OW_end rfl ?_
      refine CW_block ?_
      refine CW.le (LE_nilSlot 5 50 72 4 rfl rfl) ?_
      refine CW_loop (σ := {i : Nat // i ≤ l.length}) (fun i => ⟨J, (sset (sset (sset (sset (sset noSlots 0 (.d (.sl 1 1 (bytesD l)))) 1 (.d (.lit (.int .u8 (ot.toNat : Int))))) 5 (.row 50)) 6 (.d (int (laN (l.take i.1))))) 7 (.d (int ((i.1 : Nat) : Int)))), (hset noHeap 50 (some (.row 72 4 ((lb (l.take i.1)).map encBi))))⟩) (fun i => l.length - i.1) ⟨0, Nat.zero_le _⟩ (LE_sh (slh_set (slh_set (slh_set (slh_set (slh_set (slh_no _ _) rfl rfl) rfl rfl) rfl rfl) (congrArg (fun z => AV.d (int z)) (by simp [laN])) rfl) rfl rfl) (hlh_set (hlh_no _ _) (congrArg (fun z => some (Ent.row 72 4 z)) (by simp [lb])) rfl)) fun ⟨i, hi⟩ => ?_
      refine CW_seq ?_
      refine CW_seq ?_
      refine CW_region ?_
      refine OW_run' hE.ok 4 rfl ?_
      refine OW_end rfl ?_
      refine CW_cond _ rfl (fun h3 => ?_) (fun h3 => ?_)
      · skip
        have hlt : i < l.length := by have := h3; simp [bytesD_length] at this; omega
        obtain ⟨u, hu⟩ : ∃ u, l[i]? = some u := ⟨_, List.getElem?_eq_getElem hlt⟩
        refine CW_skip ?_
        refine CW_seq ?_
        refine CW_block ?_
        refine CW_seq ?_
        refine CW_region ?_
        refine OW_loc' hE (loc_buildA hE rfl rfl) rfl rfl rfl ?_
        refine OW_run' hE.ok 2 rfl ?_
        refine OW_loc' hE (loc_indexAddr hE rfl rfl rfl rfl rfl (by omega) (x := [.lit (.int .u8 (u.toNat : Int))]) (by simp [bytesD, hu])) rfl rfl rfl ?_
        refine OW_run' hE.ok 2 rfl ?_
        refine OW_as' 33 (.d (.lit (.int .u8 ((u.toNat % 2 : Nat) : Int)))) (by rfl) ?_
        refine OW_loc' hE (loc_indexA hE rfl rfl rfl rfl rfl (by omega) (by omega) (by exact la_idx u)) rfl rfl rfl ?_
        refine OW_run' hE.ok 1 rfl ?_
        refine OW_end rfl ?_
        refine CW_seq ?_
        refine CW_region ?_
        refine OW_run' hE.ok 2 rfl ?_
        refine OW_loc' hE (loc_indexAddr hE rfl rfl rfl rfl rfl (by omega) (x := [.lit (.int .u8 (u.toNat : Int))]) (by simp [bytesD, hu])) rfl rfl rfl ?_
        refine OW_run' hE.ok 4 rfl ?_
        refine OW_as' 9 (.d (int ((u.toNat / 2 : Nat) : Int))) (by exact congrArg (fun z => AV.d (int z)) (la_half u)) ?_
        refine OW_end rfl ?_
        refine CW_seq ?_
        refine CW_region ?_
        refine OW_run' hE.ok 3 rfl ?_
        refine OW_build' hE rfl rfl rfl rfl rfl ?_
        refine OW_lits' hE rfl rfl rfl rfl rfl rfl rfl rfl rfl rfl rfl rfl ?_
        refine OW_build' hE rfl rfl rfl rfl rfl ?_
        refine OW_build' hE rfl rfl rfl rfl rfl ?_
        refine OW_lits' hE rfl rfl rfl rfl rfl rfl rfl rfl rfl rfl rfl rfl ?_
        refine OW_append' hE (key := 50) rfl rfl rfl rfl rfl rfl rfl rfl (.inl rfl) (by simp [lb_len]; omega) (by simp [lb_len]; omega) rfl ?_
        refine OW_run' hE.ok 1 rfl ?_
        refine OW_end rfl ?_
        refine CW_seq ?_
        refine CW_region ?_
        refine OW_run' hE.ok 2 rfl ?_
        refine OW_end rfl ?_
        refine CW_cond _ rfl (fun h4 => ?_) (fun h4 => ?_)
        · skip
          have g1 : (u.toNat % 2 == 0) = true := by rw [← alU_is]; exact h4
          refine CW_region ?_
          refine OW_run' hE.ok 2 rfl ?_
          refine OW_end rfl ?_
          refine CW_region ?_
          refine OW_run' hE.ok 3 rfl ?_
          refine OW_end rfl ?_
          exact ⟨⟨i + 1, by omega⟩, LE_sh (slh_set (v := .d (int ((i + 1 : Nat) : Int))) (slh_set (v := .d (int (laN (l.take (i + 1))))) (slh_set (v := .row 50) (slh_set (v := .d (.lit (.int .u8 (ot.toNat : Int)))) (slh_set (v := .d (.sl 1 1 (bytesD l))) (slh_no _ _) (by rfl) rfl) (by rfl) rfl) (by rfl) rfl) (by exact (congrArg (fun z => AV.d (int z)) (by rw [laN_snoc hu, g1]; rfl))) rfl) (by show AV.d (.lit (.int .i64 (IntKind.i64.wrap ((i : Int) + 1)))) = _; rw [wrap_succ (by omega)]; rfl) rfl) (hlh_set (hlh_no _ _) (congrArg (fun z => some (Ent.row 72 4 z)) (lb_snoc hu)) rfl), by show l.length - (i + 1) < l.length - i; omega⟩
        · skip
          have g1 : (u.toNat % 2 == 0) = false := by rw [← alU_is]; exact h4
          refine CW_skip ?_
          refine CW_region ?_
          refine OW_run' hE.ok 3 rfl ?_
          refine OW_end rfl ?_
          exact ⟨⟨i + 1, by omega⟩, LE_sh (slh_set (v := .d (int ((i + 1 : Nat) : Int))) (slh_set (v := .d (int (laN (l.take (i + 1))))) (slh_set (v := .row 50) (slh_set (v := .d (.lit (.int .u8 (ot.toNat : Int)))) (slh_set (v := .d (.sl 1 1 (bytesD l))) (slh_no _ _) (by rfl) rfl) (by rfl) rfl) (by rfl) rfl) (by exact (congrArg (fun z => AV.d (int z)) (by rw [laN_snoc hu, g1]; rfl))) rfl) (by show AV.d (.lit (.int .i64 (IntKind.i64.wrap ((i : Int) + 1)))) = _; rw [wrap_succ (by omega)]; rfl) rfl) (hlh_set (hlh_no _ _) (congrArg (fun z => some (Ent.row 72 4 z)) (lb_snoc hu)) rfl), by show l.length - (i + 1) < l.length - i; omega⟩
      · skip
        have hge : l.length ≤ i := by have := h3; simp [bytesD_length] at this; omega
        refine CW_exit ?_
        show CW _ _ _ _
        refine CW_seq ?_
        refine CW.le (LE_freeze 50 64 rfl (by simp [lb_len]; omega)) ?_
        refine CW.le (show LE _ _ ⟨J, (sset (sset (sset noSlots 1 (.d (.lit (.int .u8 (ot.toNat : Int))))) 5 (.d (.sl 4 64 ((lb l).map encBi)))) 6 (.d (int (laN l)))), noHeap⟩ from LE_sh (slh_set (v := .d (int (laN l))) (slh_set (v := .d (.sl 4 64 ((lb l).map encBi))) (slh_set (v := .d (.lit (.int .u8 (ot.toNat : Int)))) (slh_no _ _) (by rfl) rfl) (by exact (congrArg (fun z => AV.d (.sl 4 64 ((lb z).map encBi))) (List.take_of_length_le hge))) rfl) (by exact (congrArg (fun z => AV.d (int (laN z))) (List.take_of_length_le hge))) rfl) (hlh_no _ _)) ?_
        have he := evalOk bS (fldX (ch 97) (ch 110)) (lb l)
        rw [la_ev] at he
        obtain ⟨r, hr⟩ : ∃ r, (bif decide (laN l < 0) then ((nulV, 13) : Vl × Int) else (⟨1, laN l, nul⟩, 0)) = r := ⟨_, rfl⟩
        rw [hr] at he
        refine CW_region ?_
        refine OW_call' hE (base11) rfl rfl rfl rfl rfl rfl rfl ?_
        refine OW_call' hE (field11 (ch 97) (ch 110)) rfl rfl rfl rfl rfl rfl rfl ?_
        refine OW_run' hE.ok 1 rfl ?_
        refine OW_call' hE (he) rfl rfl rfl rfl rfl rfl rfl ?_
        refine OW_run' hE.ok 3 rfl ?_
        refine OW_alloc' hE 1 rfl rfl rfl rfl rfl rfl rfl ?_
        refine OW_store' hE rfl rfl rfl rfl rfl rfl rfl rfl rfl rfl rfl rfl ?_
        refine OW_run' hE.ok 1 rfl ?_
        refine OW_end rfl ?_
        refine CW_seq ?_
        refine CW_seq ?_
        refine CW_region ?_
        refine OW_run' hE.ok 2 rfl ?_
        refine OW_end rfl ?_
        refine CW_cond _ rfl (fun h5 => ?_) (fun h5 => ?_)
        · skip
          have g2 : decide (laN l < 0) = true := h5
          obtain rfl : r = (nulV, 13) := by rw [← hr, g2]; rfl
          rw [show errC 45 ((nulV, 13) : Vl × Int).2 = errN 45 13 from rfl]
          refine CW_seq ?_
          refine CW_region ?_
          refine OW_run' hE.ok 2 rfl ?_
          refine OW_call' hE (errIs 13 13) rfl rfl rfl rfl rfl rfl rfl ?_
          refine OW_run' hE.ok 1 rfl ?_
          refine OW_end rfl ?_
          refine CW_ret ?_
          refine ⟨.inr rfl, rfl, ⟨[.d (boo true)], rfl, rfl, ?_⟩, rfl⟩
          exact AVle.refl _
        · skip
          have g2 : decide (laN l < 0) = false := h5
          obtain rfl : r = (⟨1, laN l, nul⟩, 0) := by rw [← hr, g2]; rfl
          rw [show errC 45 ((⟨1, laN l, nul⟩, 0) : Vl × Int).2 = nilE from rfl]
          have hh := holdsOk bS (twoX 6 (fldX (ch 97) (ch 110)) (litX (ot.toNat : Int))) (lb l)
          rw [la_holds g2] at hh
          obtain ⟨hb, hhb⟩ : ∃ hb, (laN l == (ot.toNat : Int)) = hb := ⟨_, rfl⟩
          rw [hhb] at hh
          have hot := ot.toNat_lt
          refine CW_skip ?_
          refine CW_seq ?_
          refine CW_region ?_
          refine OW_run' hE.ok 6 rfl ?_
          refine OW_run' hE.ok 1 rfl ?_
          refine OW_as' 71 (.d (boo true)) (by refine congrArg (fun b => AV.d (boo b)) ?_; simp) ?_
          refine OW_run' hE.ok 2 rfl ?_
          refine OW_call' hE (base11) rfl rfl rfl rfl rfl rfl rfl ?_
          refine OW_call' hE (field11 (ch 97) (ch 110)) rfl rfl rfl rfl rfl rfl rfl ?_
          refine OW_run' hE.ok 2 rfl ?_
          refine OW_as' 77 (.d (int (ot.toNat : Int))) (by show AV.d (.lit (.int .i64 (IntKind.i64.wrap ((ot.toNat : Nat) : Int)))) = _; rw [wrapN (by omega)]; rfl) ?_
          refine OW_call' hE (lit11 (ot.toNat : Int)) rfl rfl rfl rfl rfl rfl rfl ?_
          refine OW_call' hE (two11 6 (fldX (ch 97) (ch 110)) (litX (ot.toNat : Int))) rfl rfl rfl rfl rfl rfl rfl ?_
          refine OW_run' hE.ok 1 rfl ?_
          refine OW_call' hE (hh) rfl rfl rfl rfl rfl rfl rfl ?_
          refine OW_run' hE.ok 3 rfl ?_
          refine OW_run' hE.ok 1 rfl ?_
          refine OW_as' 85 (.d (boo hb)) (by rw [← hhb]; show AV.d (boo (laN l == IntKind.i64.wrap ((ot.toNat : Nat) : Int))) = _; rw [wrapN (by omega)]) ?_
          refine OW_run' hE.ok 1 rfl ?_
          refine OW_as' 86 (.d (boo true)) (by refine congrArg (fun b => AV.d (boo b)) ?_; simp) ?_
          refine OW_run' hE.ok 2 rfl ?_
          refine OW_end rfl ?_
          refine CW_ret ?_
          refine ⟨.inr rfl, rfl, ⟨[.d (boo true)], rfl, rfl, ?_⟩, rfl⟩
          exact AVle.refl _
end Go.Proofs.Ytencfmpapdnnaaa
