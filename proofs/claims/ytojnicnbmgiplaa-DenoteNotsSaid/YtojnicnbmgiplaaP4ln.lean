/- Parts of an abstract logic over the kit's walks, and walks in it: P4ln. -/
import Derived.Test.YtojnicnbmgiplaaP4lk
import Derived.Test.YtojnicnbmgiplaaPxi
import Derived.Test.YtojnicnbmgiplaaP4l2
import Derived.Test.YtojnicnbmgiplaaMat9
namespace Go.Proofs.Ytojnicnbmgiplaa
open Go Go.AL
set_option linter.unusedVariables false
set_option linter.unusedSimpArgs false
set_option maxHeartbeats 4000000
theorem evOfN (k i : Nat) : Does Try.prog 25 [.d (str (bif k % 2 == 0 then ch 116 else ch 117)), .d (int ((i : Nat) : Int)), .d (int ((k / 2 % 3 : Nat) : Int))] noHeap (argE (evN k i)) := by
  unfold evN
  cases k % 2 == 0 with
  | true => exact evOf _ _
  | false => exact evOfU _ _

theorem notsOk (l : List UInt8) : Does Try.prog 6 [.d (.sl 1 1 (bytesD l))] noHeap (.d (boo true)) := by
  refine Does_of T_ok mixed (N := 110) Try.func6 rfl rfl rfl (by rfl) fun F n Z hE hF J => ?_
  obtain ⟨L, hL⟩ : ∃ L, l.map UInt8.toNat = L := ⟨_, rfl⟩
  have hLl : L.length = l.length := by rw [← hL, List.length_map]
  refine CW_seq ?_
  refine CW_region ?_
  refine OW_run' hE.ok 1 rfl ?_
  refine OW_end rfl ?_
  refine CW_seq ?_
  refine CW_seq ?_
  refine CW_region ?_
  refine OW_call' hE (known14Ok) rfl rfl rfl rfl rfl rfl rfl ?_
  refine OW_run' hE.ok 1 rfl ?_
  refine OW_end rfl ?_
  refine CW_false rfl ?_
  refine CW_skip ?_
  refine CW_seq ?_
  refine CW_seq ?_
  refine CW_region ?_
  refine OW_run' hE.ok 3 rfl ?_
  refine OW_end rfl ?_
  refine CW_cond _ rfl (fun h1 => ?_) (fun h1 => ?_)
  · skip
    skip
    refine CW_seq ?_
    refine CW_region ?_
    refine OW_run' hE.ok 1 rfl ?_
    refine OW_end rfl ?_
    refine CW_ret ?_
    refine ⟨.inr rfl, rfl, ⟨[.d (boo true)], rfl, rfl, ?_⟩, rfl⟩
    exact AVle.refl _
  · skip
    have hl10 : L.length ≤ 10 := by have := h1; simp [bytesD_length] at this; omega
    refine CW_skip ?_
    refine CW_seq ?_
    refine CW_region ?_
    refine OW_run' hE.ok 1 rfl ?_
    refine OW.le (LE_nilSlot 3 50 30 3 rfl rfl) ?_
    refine OW_end rfl ?_
    refine CW_seq ?_
    refine CW_seq ?_
    refine CW_region ?_
    refine OW_run' hE.ok 1 rfl ?_
    refine OW_end rfl ?_
    refine CW_block ?_
    refine CW_loop (σ := {i : Nat // i ≤ L.length}) (fun i => ⟨J, (sset (sset (sset noSlots 0 (.d (.sl 1 1 (bytesD l)))) 3 (.row 50)) 4 (.d (int ((i.1 : Nat) : Int)))), (hset noHeap 50 (some (.row 30 3 (((evsN L).take i.1).map encE))))⟩) (fun i => L.length - i.1) ⟨0, Nat.zero_le _⟩ (LE_sh (slh_set (slh_set (slh_set (slh_no _ _) rfl rfl) rfl rfl) rfl rfl) (hlh_set (hlh_no _ _) (congrArg (fun z => some (Ent.row 30 3 z)) (rfl)) rfl)) fun ⟨i, hi⟩ => ?_
    refine CW_seq ?_
    refine CW_seq ?_
    refine CW_region ?_
    refine OW_run' hE.ok 4 rfl ?_
    refine OW_end rfl ?_
    refine CW_cond _ rfl (fun h2 => ?_) (fun h2 => ?_)
    · skip
      have hlt : i < l.length := by have := h2; simp [bytesD_length] at this; omega
      obtain ⟨u, hu⟩ : ∃ u, l[i]? = some u := ⟨_, List.getElem?_eq_getElem hlt⟩
      have hT : L[i]? = some u.toNat := by rw [← hL]; simp [hu]
      have hul := u.toNat_lt
      refine CW_skip ?_
      refine CW_seq ?_
      refine CW_block ?_
      refine CW_drawn' hE 18 (by decide +kernel) ?_
      refine HW_run hE 1 rfl rfl ?_
      refine HW_loc hE (loc_buildA hE rfl rfl) rfl rfl rfl rfl ?_
      refine HW_run hE 2 rfl rfl ?_
      refine HW_loc hE (loc_indexAddr hE rfl rfl rfl rfl rfl (by omega) (x := [.lit (.int .u8 (u.toNat : Int))]) (by simp [bytesD, hu])) rfl rfl rfl rfl ?_
      refine HW_run hE 2 rfl rfl ?_
      refine HW_as 32 (.d (.lit (.int .u8 ((u.toNat % 2 : Nat) : Int)))) (by rfl) ?_
      refine HW_loc hE (loc_indexA hE rfl rfl rfl rfl rfl (by omega) (by omega) (by exact nt_idx u.toNat)) rfl rfl rfl rfl ?_
      refine HW_run hE 3 rfl rfl ?_
      refine HW_loc hE (loc_indexAddr hE rfl rfl rfl rfl rfl (by omega) (x := [.lit (.int .u8 (u.toNat : Int))]) (by simp [bytesD, hu])) rfl rfl rfl rfl ?_
      refine HW_run hE 2 rfl rfl ?_
      refine HW_as 39 (.d (.lit (.int .u8 ((u.toNat / 2 : Nat) : Int)))) (by exact congrArg (fun z => AV.d (.lit (.int .u8 z))) (nt_half u)) ?_
      refine HW_run hE 1 rfl rfl ?_
      refine HW_run hE 1 rfl rfl ?_
      refine HW_as 41 (.d (int ((u.toNat / 2 % 3 : Nat) : Int))) (by show AV.d (.lit (.int .i64 (IntKind.i64.wrap ((u.toNat / 2 % 3 : Nat) : Int)))) = _; rw [wrapN (by omega)]; rfl) ?_
      refine HW_call hE (evOfN u.toNat i) rfl rfl rfl rfl rfl rfl rfl rfl ?_
      refine HW_loc hE (loc_lits hE (t := 44) (len := 1) (parts := #[(0, .tmp 42)]) rfl rfl rfl rfl rfl rfl rfl rfl (xs := [encE (evN u.toNat i)]) rfl) rfl rfl rfl rfl ?_
      refine HW_end ?_
      refine OW_append' hE (key := 50) rfl rfl rfl rfl rfl rfl rfl rfl (.inl rfl) (by simp; omega) (by simp; omega) rfl ?_
      refine OW_run' hE.ok 1 rfl ?_
      refine OW_end rfl ?_
      refine CW_region ?_
      refine OW_run' hE.ok 3 rfl ?_
      refine OW_end rfl ?_
      refine ⟨⟨i + 1, by omega⟩, LE_sh (slh_set (v := .d (int ((i + 1 : Nat) : Int))) (slh_set (v := .row 50) (slh_set (v := .d (.sl 1 1 (bytesD l))) (slh_no _ _) (by rfl) rfl) (by rfl) rfl) (by show AV.d (.lit (.int .i64 (IntKind.i64.wrap ((i : Int) + 1)))) = _; rw [wrap_succ (by omega)]; rfl) rfl) (hlh_set (hlh_no _ _) (congrArg (fun z => some (Ent.row 30 3 z)) (by rw [evsN_snoc hT, List.map_append]; rfl)) rfl), by show L.length - (i + 1) < L.length - i; omega⟩
    · skip
      have hge : L.length ≤ i := by have := h2; simp [bytesD_length] at this; omega
      refine CW_exit ?_
      show CW _ _ _ _
      refine CW_seq ?_
      refine CW.le (LE_freeze 50 48 rfl (by simp only [List.length_map, List.length_take, evsN_len]; omega)) ?_
      refine CW.le (show LE _ _ ⟨J, (sset noSlots 3 (.d (.sl 3 48 ((evsN L).map encE)))), noHeap⟩ from LE_sh (slh_set (v := .d (.sl 3 48 ((evsN L).map encE))) (slh_no _ _) (by exact (congrArg (fun z : List Ev => AV.d (.sl 3 48 (z.map encE))) (List.take_of_length_le (by rw [evsN_len]; omega)))) rfl) (hlh_no _ _)) ?_
      have qS := streamOk (evsN L) 0 (by rw [evsN_len]; omega) (by decide)
      rw [nots_stream hl10] at qS
      refine CW_region ?_
      refine OW_run' hE.ok 1 rfl ?_
      refine OW_callOwn' hE 77 qS rfl rfl rfl rfl rfl rfl rfl ?_
      refine OW_run' hE.ok 5 rfl ?_
      refine OW.le (LE_freeze 77 64 rfl (by rw [List.length_map, kept_len, evsN_len]; omega)) ?_
      refine OW_end rfl ?_
      refine CW_seq ?_
      refine CW.le (show LE _ _ ⟨J, (sset (sset noSlots 3 (.d (.sl 3 48 ((evsN L).map encE)))) 5 (.d (SK (keptX (evsN L) 0)))), noHeap⟩ from LE_sh (slh_set (v := .d (SK (keptX (evsN L) 0))) (slh_set (v := .d (.sl 3 48 ((evsN L).map encE))) (slh_no _ _) (by rfl) rfl) (by rfl) rfl) (hlh_no _ _)) ?_
      refine CW_region ?_
      refine OW_call' hE (elOf (ch 120) (ch 117)) rfl rfl rfl rfl rfl rfl rfl ?_
      refine OW_alloc' hE 1 rfl rfl rfl rfl rfl rfl rfl ?_
      refine OW_store' hE rfl rfl rfl rfl rfl rfl rfl rfl rfl rfl rfl rfl ?_
      refine OW_end rfl ?_
      refine CW_seq ?_
      refine CW_region ?_
      refine OW_run' hE.ok 1 rfl ?_
      refine OW_store' hE rfl rfl rfl rfl rfl rfl rfl rfl rfl rfl rfl rfl ?_
      refine OW_end rfl ?_
      refine CW_seq ?_
      refine CW.le (LE_freezeBox 1 (ds := encL elNot) rfl rfl) ?_
      refine CW_drawn6 hE 6 5 2 (by decide +kernel) rfl rfl rfl rfl rfl rfl rfl rfl rfl rfl ?_
      refine H2_call hE (elOf (ch 97) (ch 116)) rfl rfl rfl rfl rfl rfl rfl rfl rfl ?_
      refine H2_run hE 1 rfl rfl rfl rfl rfl ?_
      refine H2_call hE (elOf (ch 98) (ch 116)) rfl rfl rfl rfl rfl rfl rfl rfl rfl ?_
      refine H2_loc hE (fun b => loc_lits hE (t := 25) (len := 3) (parts := #[(0, .tmp 52), (1, .tmp 53), (2, .tmp 54)]) rfl rfl rfl rfl rfl rfl rfl rfl (xs := [encL (eL (ch 97)), encL elNot, encL (eL (ch 98))]) rfl) rfl rfl rfl rfl rfl ?_
      refine H2_loc hE (fun b => loc_build hE rfl rfl) rfl rfl rfl rfl rfl ?_
      refine H2_alloc rfl rfl rfl ?_
      refine H2_end ?_
      refine OW_store' hE rfl rfl rfl rfl rfl rfl rfl rfl rfl rfl rfl rfl ?_
      refine OW_end rfl ?_
      refine CW_seq ?_
      refine CW.le (show LE _ _ ⟨J, (sset (sset (sset noSlots 3 (.d (.sl 3 48 ((evsN L).map encE)))) 5 (.d (SK (keptX (evsN L) 0)))) 8 (.ptr 2 0)), (hset noHeap 2 (some (.box 27 [.d (.sl 11 144 ([encL (eL (ch 97)), encL elNot, encL (eL (ch 98))])), .d (int 100), .d (str nul), .d (boo true)])))⟩ from LE_sh (slh_set (v := .ptr 2 0) (slh_set (v := .d (SK (keptX (evsN L) 0))) (slh_set (v := .d (.sl 3 48 ((evsN L).map encE))) (slh_no _ _) (by rfl) rfl) (by rfl) rfl) (by rfl) rfl) (hlh_set (hlh_no _ _) rfl rfl)) ?_
      refine CW_region ?_
      refine OW_call' hE (elOf (ch 97) (ch 116)) rfl rfl rfl rfl rfl rfl rfl ?_
      refine OW_call' hE (elOf (ch 98) (ch 116)) rfl rfl rfl rfl rfl rfl rfl ?_
      refine OW_loc' hE (loc_lits hE (t := 25) (len := 2) (parts := #[(0, .tmp 57), (1, .tmp 58)]) rfl rfl rfl rfl rfl rfl rfl rfl (xs := [encL (eL (ch 97)), encL (eL (ch 98))]) rfl) rfl rfl rfl ?_
      refine OW_build' hE rfl rfl rfl rfl rfl ?_
      refine OW_alloc' hE 3 rfl rfl rfl rfl rfl rfl rfl ?_
      refine OW_store' hE rfl rfl rfl rfl rfl rfl rfl rfl rfl rfl rfl rfl ?_
      refine OW_end rfl ?_
      refine CW_seq ?_
      refine CW.le (LE_freezeBox 2 (ds := encP pN3) rfl rfl) ?_
      refine CW.le (LE_freezeBox 3 (ds := encP pN2) rfl rfl) ?_
      refine CW.le (show LE _ _ ⟨J, (sset (sset (sset (sset noSlots 3 (.d (.sl 3 48 ((evsN L).map encE)))) 5 (.d (SK (keptX (evsN L) 0)))) 8 (.d (.iptr (encP pN3)))) 9 (.d (.iptr (encP pN2)))), noHeap⟩ from LE_sh (slh_set (v := .d (.iptr (encP pN2))) (slh_set (v := .d (.iptr (encP pN3))) (slh_set (v := .d (SK (keptX (evsN L) 0))) (slh_set (v := .d (.sl 3 48 ((evsN L).map encE))) (slh_no _ _) (by rfl) rfl) (by rfl) rfl) (by rfl) rfl) (by rfl) rfl) (hlh_no _ _)) ?_
      have hkl : (keptX (evsN L) 0).length = L.length := by rw [kept_len, evsN_len]
      have hkr := kept_rises (evsN L) 0
      have q1 := matchesOk bS pN3 (keptX (evsN L) 0) hkr (by omega) (by decide)
      have q2 := matchesOk bS pN2 (keptX (evsN L) 0) hkr (by omega) (by decide)
      obtain ⟨m1, _⟩ := mat_rows (s := bS) (p := pN3) (l := (keptX (evsN L) 0)) (by omega)
      obtain ⟨m3, _⟩ := mat_rows (s := bS) (p := pN2) (l := (keptX (evsN L) 0)) (by omega)
      refine CW_drawnG hE 7 [(3, 60, .row 107 1 ((matchesX bS pN3 (keptX (evsN L) 0)).map encR))] (by decide +kernel) rfl ?_
      refine HG_call hE (base11) rfl rfl rfl rfl rfl rfl rfl rfl rfl ?_
      refine HG_run hE 2 rfl rfl rfl rfl ?_
      refine HG_own hE (q1) rfl rfl rfl rfl rfl rfl rfl rfl ?_
      refine HG_call hE (base11) rfl rfl rfl rfl rfl rfl rfl rfl rfl ?_
      refine HG_run hE 2 rfl rfl rfl rfl ?_
      refine HG_end ?_
      refine OW_callRow' hE 61 q2 rfl rfl rfl rfl rfl rfl rfl ?_
      refine OW_run' hE.ok 2 rfl ?_
      refine OW.le (LE_freeze 60 24 rfl (by rw [List.length_map]; omega)) ?_
      refine OW.le (LE_freeze 61 24 rfl (by rw [List.length_map]; omega)) ?_
      refine OW_end rfl ?_
      refine CW_seq ?_
      refine CW.le (show LE _ _ ⟨J, (sset (sset (sset noSlots 3 (.d (.sl 3 48 ((evsN L).map encE)))) 10 (.d (.sl 1 24 ((matchesX bS pN3 (keptX (evsN L) 0)).map encR)))) 11 (.d (.sl 1 24 ((matchesX bS pN2 (keptX (evsN L) 0)).map encR)))), noHeap⟩ from LE_sh (slh_set (v := .d (.sl 1 24 ((matchesX bS pN2 (keptX (evsN L) 0)).map encR))) (slh_set (v := .d (.sl 1 24 ((matchesX bS pN3 (keptX (evsN L) 0)).map encR))) (slh_set (v := .d (.sl 3 48 ((evsN L).map encE))) (slh_no _ _) (by rfl) rfl) (by rfl) rfl) (by rfl) rfl) (hlh_no _ _)) ?_
      refine CW_region ?_
      refine OW_run' hE.ok 1 rfl ?_
      refine OW_end rfl ?_
      refine CW_seq ?_
      refine CW_seq ?_
      refine CW_region ?_
      refine OW_run' hE.ok 1 rfl ?_
      refine OW_end rfl ?_
      refine CW_block ?_
      refine CW_loop (σ := {i : Nat // i ≤ L.length}) (fun i => ⟨J, (sset (sset (sset (sset (sset noSlots 3 (.d (.sl 3 48 ((evsN L).map encE)))) 10 (.d (.sl 1 24 ((matchesX bS pN3 (keptX (evsN L) 0)).map encR)))) 11 (.d (.sl 1 24 ((matchesX bS pN2 (keptX (evsN L) 0)).map encR)))) 12 (.d (int (((wantN L i.1 : Nat) : Int))))) 13 (.d (int ((i.1 : Nat) : Int)))), noHeap⟩) (fun i => L.length - i.1) ⟨0, Nat.zero_le _⟩ (LE_sh (slh_set (slh_set (slh_set (slh_set (slh_set (slh_no _ _) rfl rfl) rfl rfl) rfl rfl) rfl rfl) rfl rfl) (hlh_no _ _)) fun ⟨i, hi⟩ => ?_
      refine CW_seq ?_
      refine CW_seq ?_
      refine CW_region ?_
      refine OW_run' hE.ok 4 rfl ?_
      refine OW_end rfl ?_
      refine CW_cond _ rfl (fun h3 => ?_) (fun h3 => ?_)
      · skip
        have hlt : i < L.length := by have := h3; rw [List.length_map, evsN_len] at this; simp at this; omega
        have hwl := want_le hl10 i
        refine CW_skip ?_
        refine CW_seq ?_
        refine CW_block ?_
        refine CW_seq ?_
        refine CW_region ?_
        refine OW_run' hE.ok 3 rfl ?_
        refine OW_end rfl ?_
        refine CW_block ?_
        refine CW_loop (σ := {j : Nat // i < j ∧ j ≤ L.length ∧ (∀ k, i < k → k < j → isT L k = true) ∧ (i + 1 < j → isT L i = true)}) (fun j => ⟨J, (sset (sset (sset (sset (sset (sset noSlots 3 (.d (.sl 3 48 ((evsN L).map encE)))) 10 (.d (.sl 1 24 ((matchesX bS pN3 (keptX (evsN L) 0)).map encR)))) 11 (.d (.sl 1 24 ((matchesX bS pN2 (keptX (evsN L) 0)).map encR)))) 13 (.d (int ((i : Nat) : Int)))) 12 (.d (int (((wantN L i + (j.1 - (i + 1)) : Nat) : Int))))) 14 (.d (int ((j.1 : Nat) : Int)))), noHeap⟩) (fun j => L.length - j.1) ⟨i + 1, by omega, by omega, fun k hk hk' => by omega, fun h => by omega⟩ (LE_sh (slh_set (v := .d (int ((i + 1 : Nat) : Int))) (slh_set (v := .d (int (((wantN L i + ((i + 1) - (i + 1)) : Nat) : Int)))) (slh_set (v := .d (int ((i : Nat) : Int))) (slh_set (v := .d (.sl 1 24 ((matchesX bS pN2 (keptX (evsN L) 0)).map encR))) (slh_set (v := .d (.sl 1 24 ((matchesX bS pN3 (keptX (evsN L) 0)).map encR))) (slh_set (v := .d (.sl 3 48 ((evsN L).map encE))) (slh_no _ _) (by rfl) rfl) (by rfl) rfl) (by rfl) rfl) (by rfl) rfl) (by exact (congrArg (fun z : Nat => AV.d (int (z : Int))) (show wantN L i = wantN L i + (i + 1 - (i + 1)) by omega))) rfl) (by show AV.d (.lit (.int .i64 (IntKind.i64.wrap ((i : Int) + 1)))) = _; rw [wrap_succ (by omega)]; rfl) rfl) (hlh_no _ _)) fun ⟨j, hij, hj, hrun, hti⟩ => ?_
        refine CW_seq ?_
        refine CW_seq ?_
        refine CW_region ?_
        refine OW_run' hE.ok 5 rfl ?_
        refine OW_split' 81 rfl (fun h4 => ?_) (fun h4 => ?_)
        · skip
          have hjl : j < L.length := by have := h4; rw [List.length_map, evsN_len] at this; simp at this; omega
          refine OW_run' hE.ok 2 rfl ?_
          refine OW_loc' hE (loc_indexAddr hE rfl rfl rfl rfl rfl (by omega) (x := encE (evN (L.getD i 0) i)) (by rw [Int.toNat_natCast, List.getElem?_map, evsN_get hlt]; rfl)) rfl rfl rfl ?_
          refine OW_run' hE.ok 2 rfl ?_
          refine OW_run' hE.ok 1 rfl ?_
          refine OW_as' 87 (.d (boo (isT L i))) (by exact congrArg (fun z => AV.d (boo z)) (nt_t (L.getD i 0) i)) ?_
          refine OW_run' hE.ok 1 rfl ?_
          refine OW_end rfl ?_
          refine CW_cond _ rfl (fun h5 => ?_) (fun h5 => ?_)
          · skip
            have htt : isT L i = true := h5
            refine CW_skip ?_
            refine CW_seq ?_
            refine CW_block ?_
            refine CW_seq ?_
            refine CW_seq ?_
            refine CW_region ?_
            refine OW_run' hE.ok 2 rfl ?_
            refine OW_loc' hE (loc_indexAddr hE rfl rfl rfl rfl rfl (by omega) (x := encE (evN (L.getD j 0) j)) (by rw [Int.toNat_natCast, List.getElem?_map, evsN_get hjl]; rfl)) rfl rfl rfl ?_
            refine OW_run' hE.ok 2 rfl ?_
            refine OW_run' hE.ok 1 rfl ?_
            refine OW_as' 96 (.d (boo (!isT L j))) (by exact congrArg (fun z => AV.d (boo z)) (nt_u (L.getD j 0) j)) ?_
            refine OW_end rfl ?_
            refine CW_cond _ rfl (fun h6 => ?_) (fun h6 => ?_)
            · skip
              have htj : isT L j = false := by have h0 : (!isT L j) = true := h6; simpa using h0
              refine CW_exit ?_
              show CW _ _ _ _
              refine CW_region ?_
              refine OW_run' hE.ok 3 rfl ?_
              refine OW_end rfl ?_
              refine ⟨⟨i + 1, by omega⟩, LE_sh (slh_set (v := .d (int ((i + 1 : Nat) : Int))) (slh_set (v := .d (int (((wantN L (i + 1) : Nat) : Int)))) (slh_set (v := .d (.sl 1 24 ((matchesX bS pN2 (keptX (evsN L) 0)).map encR))) (slh_set (v := .d (.sl 1 24 ((matchesX bS pN3 (keptX (evsN L) 0)).map encR))) (slh_set (v := .d (.sl 3 48 ((evsN L).map encE))) (slh_no _ _) (by rfl) rfl) (by rfl) rfl) (by rfl) rfl) (by exact (congrArg (fun z : Nat => AV.d (int (z : Int))) (show wantN L i + (j - (i + 1)) = wantN L (i + 1) by rw [want_succ, cnt_run htt hij (by omega) hrun (.inr htj)]))) rfl) (by show AV.d (.lit (.int .i64 (IntKind.i64.wrap ((i : Int) + 1)))) = _; rw [wrap_succ (by omega)]; rfl) rfl) (hlh_no _ _), by show L.length - (i + 1) < L.length - i; omega⟩
            · skip
              have htj : isT L j = true := by have h0 : (!isT L j) = false := h6; simpa using h0
              refine CW_skip ?_
              refine CW_region ?_
              refine OW_run' hE.ok 3 rfl ?_
              refine OW_end rfl ?_
              refine CW_region ?_
              refine OW_run' hE.ok 3 rfl ?_
              refine OW_end rfl ?_
              refine ⟨⟨j + 1, by omega, by omega, fun k hk hk' => by rcases Nat.lt_or_ge k j with h | h; exact hrun k hk h; rw [show k = j by omega]; exact htj, fun _ => htt⟩, LE_sh (slh_set (v := .d (int ((j + 1 : Nat) : Int))) (slh_set (v := .d (int (((wantN L i + ((j + 1) - (i + 1)) : Nat) : Int)))) (slh_set (v := .d (int ((i : Nat) : Int))) (slh_set (v := .d (.sl 1 24 ((matchesX bS pN2 (keptX (evsN L) 0)).map encR))) (slh_set (v := .d (.sl 1 24 ((matchesX bS pN3 (keptX (evsN L) 0)).map encR))) (slh_set (v := .d (.sl 3 48 ((evsN L).map encE))) (slh_no _ _) (by rfl) rfl) (by rfl) rfl) (by rfl) rfl) (by rfl) rfl) (by show AV.d (.lit (.int .i64 (IntKind.i64.wrap (((wantN L i + (j - (i + 1)) : Nat) : Int) + 1)))) = _; rw [wrap_succ (by omega), show wantN L i + (j - (i + 1)) + 1 = wantN L i + (j + 1 - (i + 1)) by omega]; rfl) rfl) (by show AV.d (.lit (.int .i64 (IntKind.i64.wrap ((j : Int) + 1)))) = _; rw [wrap_succ (by omega)]; rfl) rfl) (hlh_no _ _), by show L.length - (j + 1) < L.length - j; omega⟩
          · skip
            have htf : isT L i = false := h5
            refine CW_exit ?_
            show CW _ _ _ _
            refine CW_region ?_
            refine OW_run' hE.ok 3 rfl ?_
            refine OW_end rfl ?_
            refine ⟨⟨i + 1, by omega⟩, LE_sh (slh_set (v := .d (int ((i + 1 : Nat) : Int))) (slh_set (v := .d (int (((wantN L (i + 1) : Nat) : Int)))) (slh_set (v := .d (.sl 1 24 ((matchesX bS pN2 (keptX (evsN L) 0)).map encR))) (slh_set (v := .d (.sl 1 24 ((matchesX bS pN3 (keptX (evsN L) 0)).map encR))) (slh_set (v := .d (.sl 3 48 ((evsN L).map encE))) (slh_no _ _) (by rfl) rfl) (by rfl) rfl) (by rfl) rfl) (by exact (congrArg (fun z : Nat => AV.d (int (z : Int))) (show wantN L i + (j - (i + 1)) = wantN L (i + 1) by rw [want_succ, cnt_none htf, show j = i + 1 by rcases Nat.lt_or_ge (i + 1) j with h | h; exact absurd (hti h) (by rw [htf]; exact Bool.false_ne_true); omega, Nat.sub_self]))) rfl) (by show AV.d (.lit (.int .i64 (IntKind.i64.wrap ((i : Int) + 1)))) = _; rw [wrap_succ (by omega)]; rfl) rfl) (hlh_no _ _), by show L.length - (i + 1) < L.length - i; omega⟩
        · skip
          have hjg : L.length ≤ j := by have := h4; rw [List.length_map, evsN_len] at this; simp at this; omega
          have hend := cntN_end hij (by omega) hrun hti
          refine OW_run' hE.ok 7 rfl ?_
          refine OW_end rfl ?_
          refine CW_false rfl ?_
          refine CW_exit ?_
          show CW _ _ _ _
          refine CW_region ?_
          refine OW_run' hE.ok 3 rfl ?_
          refine OW_end rfl ?_
          refine ⟨⟨i + 1, by omega⟩, LE_sh (slh_set (v := .d (int ((i + 1 : Nat) : Int))) (slh_set (v := .d (int (((wantN L (i + 1) : Nat) : Int)))) (slh_set (v := .d (.sl 1 24 ((matchesX bS pN2 (keptX (evsN L) 0)).map encR))) (slh_set (v := .d (.sl 1 24 ((matchesX bS pN3 (keptX (evsN L) 0)).map encR))) (slh_set (v := .d (.sl 3 48 ((evsN L).map encE))) (slh_no _ _) (by rfl) rfl) (by rfl) rfl) (by rfl) rfl) (by exact (congrArg (fun z : Nat => AV.d (int (z : Int))) (show wantN L i + (j - (i + 1)) = wantN L (i + 1) by rw [want_succ, ← hend]))) rfl) (by show AV.d (.lit (.int .i64 (IntKind.i64.wrap ((i : Int) + 1)))) = _; rw [wrap_succ (by omega)]; rfl) rfl) (hlh_no _ _), by show L.length - (i + 1) < L.length - i; omega⟩
      · skip
        have hge : i = L.length := by have := h3; rw [List.length_map, evsN_len] at this; simp at this; omega
        refine CW_exit ?_
        show CW _ _ _ _
        refine CW_seq ?_
        refine CW_region ?_
        refine OW_run' hE.ok 3 rfl ?_
        refine OW_run' hE.ok 1 rfl ?_
        refine OW_as' 102 (.d (boo true)) (by refine congrArg (fun z => AV.d (boo z)) (show (((((matchesX bS pN3 (keptX (evsN L) 0)).map encR).length : Nat) : Int) == ((wantN L i : Nat) : Int)) = true from ?_); rw [List.length_map, nots_len3 hl10, hge]; exact beq_self_eq_true _) ?_
        refine OW_run' hE.ok 5 rfl ?_
        refine OW_run' hE.ok 1 rfl ?_
        refine OW_as' 108 (.d (boo true)) (by refine congrArg (fun z => AV.d (boo z)) (show decide (((((matchesX bS pN2 (keptX (evsN L) 0)).map encR).length : Nat) : Int) ≥ ((((matchesX bS pN3 (keptX (evsN L) 0)).map encR).length : Nat) : Int)) = true from decide_eq_true ?_); rw [List.length_map, List.length_map]; have := nots_more hl10; omega) ?_
        refine OW_run' hE.ok 2 rfl ?_
        refine OW_end rfl ?_
        refine CW_ret ?_
        refine ⟨.inr rfl, rfl, ⟨[.d (boo true)], rfl, rfl, ?_⟩, rfl⟩
        exact AVle.refl _
end Go.Proofs.Ytojnicnbmgiplaa
