/- Part of an abstract logic over the kit's walks, and walks in it: E1x. -/
import Derived.Test.YtdlikopmjhfalaaE1k
import Derived.Test.YtdlikopmjhfalaaA30
namespace Go.Proofs.Ytdlikopmjhfalaa
open Go Go.AL
set_option linter.unusedVariables false
set_option linter.unusedSimpArgs false
set_option maxHeartbeats 4000000
theorem kindsOk (l : List UInt8) (wr mo : UInt8) (ts : Int) : Does Try.prog 5 [.d (.sl 1 1 (bytesD l)), .d (.lit (.int .u8 (wr.toNat : Int))), .d (.lit (.int .u8 (mo.toNat : Int))), .d (int ts)] noHeap (.d (boo true)) := by
  refine Does_of T_ok mixed (N := 145) Try.func5 rfl rfl rfl (by rfl) fun F n Z hE hF J => ?_
  refine CW_seq ?_
  refine CW_region ?_
  refine OW_run' hE.ok 1 rfl ?_
  refine OW_end rfl ?_
  refine CW_seq ?_
  refine CW_seq ?_
  refine CW_region ?_
  refine OW_call' hE (known3) rfl rfl rfl rfl rfl rfl rfl ?_
  refine OW_run' hE.ok 1 rfl ?_
  refine OW_end rfl ?_
  refine CW_false rfl ?_
  refine CW_skip ?_
  refine CW_seq ?_
  refine CW_seq ?_
  refine CW_region ?_
  refine OW_run' hE.ok 3 rfl ?_
  refine OW_end rfl ?_
  refine CW_cond _ rfl (fun h1 => ?_) (fun h1 => ?_)
  · skip
    refine CW_seq ?_
    refine CW_region ?_
    refine OW_run' hE.ok 1 rfl ?_
    refine OW_end rfl ?_
    refine CW_ret ?_
    refine ⟨.inr rfl, rfl, ⟨[.d (boo true)], rfl, rfl, ?_⟩, rfl⟩
    exact AVle.refl _
  · skip
    have h5 : l.length ≤ 5 := by have := h1; simp [bytesD_length] at this; omega
    refine CW_skip ?_
    refine CW_seq ?_
    refine CW_region ?_
    refine OW_build' hE rfl rfl rfl rfl rfl ?_
    refine OW_alloc' hE 1 rfl rfl rfl rfl rfl rfl rfl ?_
    refine OW_store' hE rfl rfl rfl rfl rfl rfl rfl rfl rfl rfl rfl rfl ?_
    refine OW_end rfl ?_
    refine CW_seq ?_
    refine CW_region ?_
    refine OW_run' hE.ok 1 rfl ?_
    refine OW_build' hE rfl rfl rfl rfl rfl ?_
    refine OW_alloc' hE 2 rfl rfl rfl rfl rfl rfl rfl ?_
    refine OW_store' hE rfl rfl rfl rfl rfl rfl rfl rfl rfl rfl rfl rfl ?_
    refine OW_end rfl ?_
    refine CW_seq ?_
    refine CW_seq ?_
    rw [hset_hset]
    refine CW.le (LE_nilCell 1 50 1 31 2 rfl rfl rfl) ?_
    refine CW.le (LE_nilCell 2 51 2 42 3 rfl rfl rfl) ?_
    refine CW_region ?_
    refine OW_run' hE.ok 1 rfl ?_
    refine OW_end rfl ?_
    refine CW_block ?_
    refine CW_loop (σ := {i : Nat // i ≤ l.length}) (fun i => ⟨J, (sset (sset (sset (sset (sset (sset (sset noSlots 0 (.d (.sl 1 1 (bytesD l)))) 1 (.d (.lit (.int .u8 (wr.toNat : Int))))) 2 (.d (.lit (.int .u8 (mo.toNat : Int))))) 3 (.d (int ts))) 9 (.ptr 1 0)) 10 (.ptr 2 0)) 11 (.d (int ((i.1 : Nat) : Int)))), (hset (hset (hset (hset noHeap 1 (some (.box 29 [.d (str kt), .row 50]))) 2 (some (.box 40 [.d (str kt), .d (int ts), .row 51]))) 50 (some (.row 31 2 ((fsK (l.take i.1)).map encF)))) 51 (some (.row 42 3 ((vsK (l.take i.1)).map encV))))⟩) (fun i => l.length - i.1) ⟨0, Nat.zero_le _⟩ (LE_sh (slh_set (slh_set (slh_set (slh_set (slh_set (slh_set (slh_set (slh_no _ _) rfl rfl) rfl rfl) rfl rfl) rfl rfl) rfl rfl) rfl rfl) rfl rfl) (hlh_set (hlh_set (hlh_set (hlh_set (hlh_no _ _) rfl rfl) rfl rfl) rfl rfl) rfl rfl)) fun ⟨i, hi⟩ => ?_
    refine CW_seq ?_
    refine CW_seq ?_
    refine CW_region ?_
    refine OW_run' hE.ok 4 rfl ?_
    refine OW_end rfl ?_
    refine CW_cond _ rfl (fun h2 => ?_) (fun h2 => ?_)
    · skip
      have hlt : i < l.length := by have := h2; simp [bytesD_length] at this; omega
      obtain ⟨u, hu⟩ : ∃ u, l[i]? = some u := ⟨_, List.getElem?_eq_getElem hlt⟩
      refine CW_skip ?_
      refine CW_seq ?_
      refine CW_block ?_
      refine CW_seq ?_
      refine CW_region ?_
      refine OW_run' hE.ok 2 rfl ?_
      refine OW_loc' hE (loc_indexAddr hE rfl rfl rfl rfl rfl (by omega) (x := [.lit (.int .u8 (u.toNat : Int))]) (by simp [bytesD, hu])) rfl rfl rfl ?_
      refine OW_run' hE.ok 4 rfl ?_
      refine OW_as' 37 (.d (int ((u.toNat % 3 + 1 : Nat) : Int))) (by show AV.d (.lit (.int .i64 (IntKind.i64.wrap (IntKind.i64.wrap ((u.toNat % 3 : Nat) : Int) + 1)))) = _; rw [wrapN (by omega), wrap_succ (by omega)]; rfl) ?_
      refine OW_run' hE.ok 1 rfl ?_
      refine OW_end rfl ?_
      refine CW_seq ?_
      refine CW_region ?_
      refine OW_run' hE.ok 4 rfl ?_
      refine OW_as' 41 (.d (int ((97 + i : Nat) : Int))) (by show AV.d (.lit (.int .i64 (IntKind.i64.wrap (97 + (i : Int))))) = _; rw [show (97 + (i : Int)) = ((97 + i : Nat) : Int) by omega, wrapN (by omega)]; rfl) ?_
      refine OW_run' hE.ok 1 rfl ?_
      refine OW_as' 42 (.d (.lit (.int .u8 ((UInt8.ofNat (97 + i)).toNat : Int)))) (by show AV.d (.lit (.int .u8 (IntKind.u8.wrap ((97 + i : Nat) : Int)))) = _; rw [wrapB (by omega)]) ?_
      refine OW_litsOwn' hE 52 rfl rfl rfl rfl rfl rfl rfl rfl rfl rfl rfl rfl ?_
      refine OW_bytesString' hE (key := 52) (bs := [UInt8.ofNat (97 + i)]) rfl rfl rfl rfl rfl rfl rfl rfl rfl rfl ?_
      refine OW_run' hE.ok 1 rfl ?_
      refine OW_build' hE rfl rfl rfl rfl rfl ?_
      refine OW_lits' hE rfl rfl rfl rfl rfl rfl rfl rfl rfl rfl rfl rfl ?_
      refine OW_append' hE (key := 50) rfl rfl rfl rfl rfl rfl rfl rfl (.inl rfl) (by simp [fsK]; omega) (by simp [fsK]; omega) rfl ?_
      refine OW_run' hE.ok 1 rfl ?_
      refine OW_store' hE rfl rfl rfl rfl rfl rfl rfl rfl rfl rfl rfl rfl ?_
      refine OW_end rfl ?_
      refine CW_region ?_
      refine OW_run' hE.ok 3 rfl ?_
      refine OW_build' hE rfl rfl rfl rfl rfl ?_
      refine OW_lits' hE rfl rfl rfl rfl rfl rfl rfl rfl rfl rfl rfl rfl ?_
      refine OW_append' hE (key := 51) rfl rfl rfl rfl rfl rfl rfl rfl (.inl rfl) (by simp [vsK]; omega) (by simp [vsK]; omega) rfl ?_
      refine OW_run' hE.ok 1 rfl ?_
      refine OW_store' hE rfl rfl rfl rfl rfl rfl rfl rfl rfl rfl rfl rfl ?_
      refine OW_end rfl ?_
      refine CW_region ?_
      refine OW_run' hE.ok 3 rfl ?_
      refine OW_end rfl ?_
      exact ⟨⟨i + 1, by omega⟩, LE_sh (slh_set (slh_set (slh_set (slh_set (slh_set (slh_set (slh_set (slh_no _ _) rfl rfl) rfl rfl) rfl rfl) rfl rfl) rfl rfl) rfl rfl) (by show AV.d (.lit (.int .i64 (IntKind.i64.wrap (↑i + 1)))) = _; rw [wrap_succ (by omega)]; rfl) rfl) (hlh_set (hlh_set (hlh_set (hlh_set (hlh_no _ _) rfl rfl) rfl rfl) (congrArg (fun z => some (Ent.row 31 2 z)) (by rw [fsK_snoc hu, List.map_append]; rfl)) rfl) (congrArg (fun z => some (Ent.row 42 3 z)) (by rw [vsK_snoc hu, List.map_append]; rfl)) rfl), by show l.length - (i + 1) < l.length - i; omega⟩
    · skip
      have hge : l.length ≤ i := by have := h2; simp [bytesD_length] at this; omega
      refine CW_exit ?_
      show CW _ _ _ _
      refine CW_seq ?_
      refine CW.le (LE_freeze 50 24 rfl (by simp [fsK]; omega)) ?_
      refine CW.le (show LE _ _ ⟨J, (sset (sset (sset (sset (sset (sset noSlots 0 (.d (.sl 1 1 (bytesD l)))) 1 (.d (.lit (.int .u8 (wr.toNat : Int))))) 2 (.d (.lit (.int .u8 (mo.toNat : Int))))) 3 (.d (int ts))) 9 (.ptr 1 0)) 10 (.ptr 2 0)), (hset (hset (hset noHeap 1 (some (.box 29 [.d (str kt), .d (.sl 2 24 ((fsK l).map encF))]))) 2 (some (.box 40 [.d (str kt), .d (int ts), .row 51]))) 51 (some (.row 42 3 ((vsK l).map encV))))⟩ from LE_sh (slh_set (slh_set (slh_set (slh_set (slh_set (slh_set (slh_no _ _) rfl rfl) rfl rfl) rfl rfl) rfl rfl) rfl rfl) rfl rfl) (hlh_set (hlh_set (hlh_set (hlh_no _ _) (congrArg (fun z : List Fld => some (Ent.box 29 [.d (str kt), .d (.sl 2 24 (z.map encF))])) (congrArg fsK (List.take_of_length_le (show l.length ≤ i by omega)))) rfl) rfl rfl) (congrArg (fun z : List Vl => some (Ent.row 42 3 (z.map encV))) (congrArg vsK (List.take_of_length_le (show l.length ≤ i by omega)))) rfl)) ?_
      refine CW_region ?_
      refine OW_run' hE.ok 1 rfl ?_
      refine OW_lits' hE rfl rfl rfl rfl rfl rfl rfl rfl rfl rfl rfl rfl ?_
      refine OW_build' hE rfl rfl rfl rfl rfl ?_
      refine OW_alloc' hE 3 rfl rfl rfl rfl rfl rfl rfl ?_
      refine OW_store' hE rfl rfl rfl rfl rfl rfl rfl rfl rfl rfl rfl rfl ?_
      refine OW_end rfl ?_
      refine CW_seq ?_
      refine CW_region ?_
      refine OW_run' hE.ok 1 rfl ?_
      refine OW_end rfl ?_
      refine CW_cutE (fun p : List Vl × Int => ⟨J, (sset (sset (sset (sset (sset noSlots 2 (.d (.lit (.int .u8 (mo.toNat : Int))))) 3 (.d (int ts))) 10 (.ptr 2 0)) 13 (.ptr 3 0)) 14 (.d (wantD 45 p.2))), (hset (hset (hset noHeap 2 (some (.box 40 [.d (str kt), .d (int ts), .row 51]))) 3 (some (.box 25 [.d (encS [⟨kt, fsK l⟩])]))) 51 (some (.row 42 3 (p.1.map encV))))⟩) (K0 l) ?_ ?_
      · skip
        refine CW_seq ?_
        rw [hset_hset]
        refine CW_region ?_
        refine OW_run' hE.ok 4 rfl ?_
        refine OW_split' 63 rfl (fun h3 => ?_) (fun h3 => ?_)
        · skip
          have h0 : 0 < l.length := by have := h3; simp [bytesD_length] at this; omega
          refine OW_run' hE.ok 4 rfl ?_
          refine OW_end rfl ?_
          refine CW_cond _ rfl (fun h4 => ?_) (fun h4 => ?_)
          · skip
            refine CW_seq ?_
            obtain ⟨j, hj⟩ : ∃ j, wr.toNat / 2 % l.length = j := ⟨_, rfl⟩
            have hjl : j < l.length := hj ▸ Nat.mod_lt _ h0
            obtain ⟨u, hu⟩ : ∃ u, l[j]? = some u := ⟨_, List.getElem?_eq_getElem hjl⟩
            have hvu := vsK_get hu
            refine CW_region ?_
            refine OW_run' hE.ok 5 rfl ?_
            refine OW_as' 70 (.d (int ((wr.toNat / 2 : Nat) : Int))) (by show AV.d (.lit (.int .i64 (IntKind.i64.wrap (IntKind.u8.wrap ((wr.toNat / 2 : Nat) : Int))))) = _; rw [wrapB (by have := wr.toNat_lt; omega), UInt8.toNat_ofNat_of_lt' (by have := wr.toNat_lt; show wr.toNat / 2 < 256; omega), wrapN (by have := wr.toNat_lt; omega)]; rfl) ?_
            refine OW_as' 72 (.d (int ((l.length : Nat) : Int))) (by show AV.d (.lit (.int .i64 ((bytesD l).length : Int))) = _; rw [bytesD_length]; rfl) ?_
            refine OW_loc' hE (loc_rem hE rfl rfl rfl (by omega)) rfl rfl rfl ?_
            refine OW_as' 73 (.d (int ((j : Nat) : Int))) (by rw [← hj]; rfl) ?_
            refine OW_run' hE.ok 1 rfl ?_
            refine OW_end rfl ?_
            refine CW_seq ?_
            refine CW_drawn' hE 12 (by decide +kernel) ?_
            refine HW_run hE 6 rfl rfl ?_
            refine HW_loc hE (loc_idxRow hE rfl rfl rfl rfl rfl (j := j) rfl (by simpa [vsK] using hjl)) rfl rfl rfl rfl ?_
            refine HW_run hE 1 rfl rfl ?_
            refine HW_loc hE (loc_loadRow hE rfl rfl (j := j) (off := 0) rfl rfl rfl (x := encV (valK u)) (by simp [hvu]) (Nat.zero_le _) rfl) rfl rfl rfl rfl ?_
            refine HW_run hE 2 rfl rfl ?_
            refine HW_as 84 (.d (int (((u.toNat % 3 + 1) % 3 + 1 : Nat) : Int))) (by show AV.d (.lit (.int .i64 (IntKind.i64.wrap (((u.toNat % 3 + 1) % 3 : Nat) + 1)))) = _; rw [wrap_succ (by omega)]; rfl) ?_
            refine HW_loc hE (loc_build hE rfl rfl) rfl rfl rfl rfl ?_
            refine HW_end ?_
            refine OW_loc' hE (loc_idxRow hE rfl rfl rfl rfl rfl (j := j) rfl (by simpa [vsK] using hjl)) rfl rfl rfl ?_
            refine OW_storeRow' hE rfl rfl rfl rfl rfl rfl (j := j) (off := 0) rfl rfl (x := encV (valK u)) (by simp [hvu]) (y := encV (turnK u)) rfl rfl rfl (Nat.le_refl 3) (xs' := ((vsK l).set j (turnK u)).map encV) (by simp [encV, List.map_set]) ?_
            refine OW_end rfl ?_
            refine CW_region ?_
            refine OW_run' hE.ok 2 rfl ?_
            refine OW_end rfl ?_
            exact ⟨((vsK l).set j (turnK u), 14), ⟨all_turn, by simp [vsK], .inr ⟨rfl, kk_turn hu⟩⟩, LE_sh (slh_set (slh_set (slh_set (slh_set (slh_set (slh_no _ _) rfl rfl) rfl rfl) rfl rfl) rfl rfl) rfl rfl) (hlh_set (hlh_set (hlh_set (hlh_no _ _) rfl rfl) rfl rfl) rfl rfl)⟩
          · skip
            refine CW_skip ?_
            exact ⟨(vsK l, 0), ⟨vsK_all l, vsK_length l, .inl ⟨rfl, kk_K l⟩⟩, LE_sh (slh_set (slh_set (slh_set (slh_set (slh_set (slh_no _ _) rfl rfl) rfl rfl) rfl rfl) rfl rfl) rfl rfl) (hlh_set (hlh_set (hlh_set (hlh_no _ _) rfl rfl) rfl rfl) rfl rfl)⟩
        · skip
          refine OW_run' hE.ok 4 rfl ?_
          refine OW_end rfl ?_
          refine CW_false rfl ?_
          refine CW_skip ?_
          exact ⟨(vsK l, 0), ⟨vsK_all l, vsK_length l, .inl ⟨rfl, kk_K l⟩⟩, LE_sh (slh_set (slh_set (slh_set (slh_set (slh_set (slh_no _ _) rfl rfl) rfl rfl) rfl rfl) rfl rfl) rfl rfl) (hlh_set (hlh_set (hlh_set (hlh_no _ _) rfl rfl) rfl rfl) rfl rfl)⟩
      · skip
        rintro ⟨vs, w⟩ hK
        have hvl : vs.length = l.length := hK.2.1
        refine CW_cutE (fun p : List Vl × Int => ⟨J, (sset (sset (sset (sset noSlots 3 (.d (int ts))) 10 (.ptr 2 0)) 13 (.ptr 3 0)) 14 (.d (wantD 45 p.2))), (hset (hset (hset noHeap 2 (some (.box 40 [.d (str kt), .d (int ts), .row 51]))) 3 (some (.box 25 [.d (encS [⟨kt, fsK l⟩])]))) 51 (some (.row 42 3 (p.1.map encV))))⟩) (K1 l) ?_ ?_
        · skip
          refine CW_seq ?_
          refine CW_region ?_
          refine OW_run' hE.ok 3 rfl ?_
          refine OW_end rfl ?_
          refine CW_cond _ rfl (fun h5 => ?_) (fun h5 => ?_)
          · skip
            refine CW_seq ?_
            refine CW_region ?_
            refine OW_run' hE.ok 2 rfl ?_
            refine OW_build' hE rfl rfl rfl rfl rfl ?_
            refine OW_lits' hE rfl rfl rfl rfl rfl rfl rfl rfl rfl rfl rfl rfl ?_
            refine OW_append' hE (key := 51) rfl rfl rfl rfl rfl rfl rfl rfl (.inl rfl) (by simp; omega) (by simp; omega) rfl ?_
            refine OW_run' hE.ok 1 rfl ?_
            refine OW_store' hE rfl rfl rfl rfl rfl rfl rfl rfl rfl rfl rfl rfl ?_
            refine OW_end rfl ?_
            refine CW_region ?_
            refine OW_run' hE.ok 2 rfl ?_
            refine OW_end rfl ?_
            exact ⟨(vs ++ [⟨1, 0, nul⟩], 10), K1_more hK, LE_sh (slh_set (slh_set (slh_set (slh_set (slh_no _ _) rfl rfl) rfl rfl) rfl rfl) rfl rfl) (hlh_set (hlh_set (hlh_set (hlh_no _ _) rfl rfl) rfl rfl) (congrArg (fun z => some (Ent.row 42 3 z)) (by simp; rfl)) rfl)⟩
          · skip
            refine CW_seq ?_
            refine CW_region ?_
            refine OW_run' hE.ok 4 rfl ?_
            refine OW_split' 101 rfl (fun h6 => ?_) (fun h6 => ?_)
            · skip
              refine OW_run' hE.ok 5 rfl ?_
              refine OW_end rfl ?_
              refine CW_cond _ rfl (fun h7 => ?_) (fun h7 => ?_)
              · skip
                have hv0 : 0 < vs.length := by have := h7; simp at this; first | omega | exact List.length_pos_iff.2 this
                refine CW_seq ?_
                refine CW_region ?_
                refine OW_run' hE.ok 6 rfl ?_
                refine OW_as' 112 (.d (int ((vs.length - 1 : Nat) : Int))) (by show AV.d (.lit (.int .i64 (IntKind.i64.wrap (((vs.map encV).length : Int) - 1)))) = _; rw [List.length_map, show ((vs.length : Int) - 1) = ((vs.length - 1 : Nat) : Int) by omega, wrapN (by omega)]; rfl) ?_
                refine OW_cutRow' hE (key := 51) rfl rfl rfl rfl rfl rfl rfl (u := vs.length - 1) rfl (by simp) rfl ?_
                refine OW_run' hE.ok 1 rfl ?_
                refine OW_store' hE rfl rfl rfl rfl rfl rfl rfl rfl rfl rfl rfl rfl ?_
                refine OW_end rfl ?_
                refine CW_region ?_
                refine OW_run' hE.ok 2 rfl ?_
                refine OW_end rfl ?_
                exact ⟨(vs.take (vs.length - 1), 10), K1_less hK hv0, LE_sh (slh_set (slh_set (slh_set (slh_set (slh_no _ _) rfl rfl) rfl rfl) rfl rfl) rfl rfl) (hlh_set (hlh_set (hlh_set (hlh_no _ _) rfl rfl) rfl rfl) (congrArg (fun z => some (Ent.row 42 3 z)) (by rw [List.map_take])) rfl)⟩
              · skip
                refine CW_skip ?_
                exact ⟨(vs, w), K1_of hK, LE_sh (slh_set (slh_set (slh_set (slh_set (slh_no _ _) rfl rfl) rfl rfl) rfl rfl) rfl rfl) (hlh_set (hlh_set (hlh_set (hlh_no _ _) rfl rfl) rfl rfl) rfl rfl)⟩
            · skip
              refine OW_run' hE.ok 5 rfl ?_
              refine OW_end rfl ?_
              refine CW_false rfl ?_
              refine CW_skip ?_
              exact ⟨(vs, w), K1_of hK, LE_sh (slh_set (slh_set (slh_set (slh_set (slh_no _ _) rfl rfl) rfl rfl) rfl rfl) rfl rfl) (hlh_set (hlh_set (hlh_set (hlh_no _ _) rfl rfl) rfl rfl) rfl rfl)⟩
        · skip
          rintro ⟨vs, w⟩ hK
          refine CW_cutE (fun p : List Vl × Int => ⟨J, (sset (sset (sset noSlots 10 (.ptr 2 0)) 13 (.ptr 3 0)) 14 (.d (wantD 45 p.2))), (hset (hset (hset noHeap 2 (some (.box 40 [.d (str kt), .d (int ts), .row 51]))) 3 (some (.box 25 [.d (encS [⟨kt, fsK l⟩])]))) 51 (some (.row 42 3 (p.1.map encV))))⟩) (K3 45 l ts) ?_ ?_
          · skip
            refine CW_seq ?_
            refine CW_region ?_
            refine OW_run' hE.ok 3 rfl ?_
            refine OW_split' 118 rfl (fun h8 => ?_) (fun h8 => ?_)
            · skip
              have g := h8
              refine OW_run' hE.ok 3 rfl ?_
              refine OW_end rfl ?_
              refine CW_true rfl ?_
              refine CW_region ?_
              refine OW_run' hE.ok 2 rfl ?_
              refine OW_end rfl ?_
              exact ⟨(vs, 10), K3_late (.inl g) hK, LE_sh (slh_set (slh_set (slh_set (slh_no _ _) rfl rfl) rfl rfl) rfl rfl) (hlh_set (hlh_set (hlh_set (hlh_no _ _) rfl rfl) rfl rfl) rfl rfl)⟩
            · skip
              have g1 := h8
              refine OW_run' hE.ok 3 rfl ?_
              refine OW_end rfl ?_
              refine CW_cond _ rfl (fun h9 => ?_) (fun h9 => ?_)
              · skip
                have g := h9
                refine CW_region ?_
                refine OW_run' hE.ok 2 rfl ?_
                refine OW_end rfl ?_
                exact ⟨(vs, 10), K3_late (.inr g) hK, LE_sh (slh_set (slh_set (slh_set (slh_no _ _) rfl rfl) rfl rfl) rfl rfl) (hlh_set (hlh_set (hlh_set (hlh_no _ _) rfl rfl) rfl rfl) rfl rfl)⟩
              · skip
                have g2 := h9
                refine CW_skip ?_
                exact ⟨(vs, w), K3_of g1 g2 hK, LE_sh (slh_set (slh_set (slh_set (slh_no _ _) rfl rfl) rfl rfl) rfl rfl) (hlh_set (hlh_set (hlh_set (hlh_no _ _) rfl rfl) rfl rfl) rfl rfl)⟩
          · skip
            rintro ⟨vs, w⟩ ⟨he, hvl, hw⟩
            simp only at hvl hw
            have q := isEvOk [⟨kt, fsK l⟩] ⟨kt, ts, vs⟩
            simp only at he
            rw [he] at q
            rcases hw with rfl | rfl | rfl
            · skip
              refine CW_seq ?_
              refine CW.le (LE_freeze 51 32 rfl (by simp; omega)) ?_
              refine CW_region ?_
              refine OW_run' hE.ok 2 rfl ?_
              refine OW_call' hE (q) rfl rfl rfl rfl rfl rfl rfl ?_
              refine OW_run' hE.ok 1 rfl ?_
              refine OW_end rfl ?_
              refine CW_seq ?_
              refine CW_region ?_
              refine OW_run' hE.ok 20 rfl ?_
              refine OW_end rfl ?_
              refine CW_ret ?_
              refine ⟨.inr rfl, rfl, ⟨[.d (boo true)], rfl, rfl, ?_⟩, rfl⟩
              exact AVle.refl _
            · skip
              have qi := errIs 10 10; rw [show ((10 : Int) == 10) = true from rfl] at qi
              refine CW_seq ?_
              refine CW.le (LE_freeze 51 32 rfl (by simp; omega)) ?_
              refine CW_region ?_
              refine OW_run' hE.ok 2 rfl ?_
              refine OW_call' hE (q) rfl rfl rfl rfl rfl rfl rfl ?_
              refine OW_run' hE.ok 1 rfl ?_
              refine OW_end rfl ?_
              refine CW_seq ?_
              refine CW_region ?_
              refine OW_run' hE.ok 16 rfl ?_
              refine OW_call' hE (qi) rfl rfl rfl rfl rfl rfl rfl ?_
              refine OW_run' hE.ok 3 rfl ?_
              refine OW_end rfl ?_
              refine CW_ret ?_
              refine ⟨.inr rfl, rfl, ⟨[.d (boo true)], rfl, rfl, ?_⟩, rfl⟩
              exact AVle.refl _
            · skip
              have qi := errIs 14 14; rw [show ((14 : Int) == 14) = true from rfl] at qi
              refine CW_seq ?_
              refine CW.le (LE_freeze 51 32 rfl (by simp; omega)) ?_
              refine CW_region ?_
              refine OW_run' hE.ok 2 rfl ?_
              refine OW_call' hE (q) rfl rfl rfl rfl rfl rfl rfl ?_
              refine OW_run' hE.ok 1 rfl ?_
              refine OW_end rfl ?_
              refine CW_seq ?_
              refine CW_region ?_
              refine OW_run' hE.ok 16 rfl ?_
              refine OW_call' hE (qi) rfl rfl rfl rfl rfl rfl rfl ?_
              refine OW_run' hE.ok 3 rfl ?_
              refine OW_end rfl ?_
              refine CW_ret ?_
              refine ⟨.inr rfl, rfl, ⟨[.d (boo true)], rfl, rfl, ?_⟩, rfl⟩
              exact AVle.refl _
end Go.Proofs.Ytdlikopmjhfalaa
