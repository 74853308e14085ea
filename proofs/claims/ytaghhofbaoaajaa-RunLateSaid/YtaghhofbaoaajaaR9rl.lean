/- Parts of an abstract logic over the kit's walks, and walks in it: R9rl. -/
import Derived.Test.YtaghhofbaoaajaaRxe
import Derived.Test.YtaghhofbaoaajaaDe
import Derived.Test.YtaghhofbaoaajaaAg
namespace Go.Proofs.Ytaghhofbaoaajaa
open Go Go.AL
set_option linter.unusedVariables false
set_option linter.unusedSimpArgs false
set_option maxHeartbeats 4000000
theorem runLateOk (l : List UInt8) (wi at1 : UInt8) : Does Try.prog 3 [.d (.sl 1 1 (bytesD l)), .d (.lit (.int .u8 (wi.toNat : Int))), .d (.lit (.int .u8 (at1.toNat : Int)))] noHeap (.d (boo true)) := by
  refine Does_of T_ok mixed (N := 94) Try.func3 rfl rfl rfl (by rfl) fun F n Z hE hF J => ?_
  refine CW_seq ?_
  refine CW_region ?_
  refine OW_run' hE.ok 1 rfl ?_
  refine OW_end rfl ?_
  refine CW_seq ?_
  refine CW_seq ?_
  refine CW_region ?_
  refine OW_call' hE (known15Ok) rfl rfl rfl rfl rfl rfl rfl ?_
  refine OW_run' hE.ok 1 rfl ?_
  refine OW_end rfl ?_
  refine CW_false rfl ?_
  refine CW_skip ?_
  refine CW_seq ?_
  refine CW_seq ?_
  refine CW_region ?_
  refine OW_run' hE.ok 4 rfl ?_
  refine OW_split' 21 rfl (fun h1 => ?_) (fun h1 => ?_)
  · skip
    skip
    refine OW_run' hE.ok 4 rfl ?_
    refine OW_end rfl ?_
    refine CW_true rfl ?_
    refine CW_seq ?_
    refine CW_region ?_
    refine OW_run' hE.ok 1 rfl ?_
    refine OW_end rfl ?_
    refine CW_ret ?_
    refine ⟨.inr rfl, rfl, ⟨[.d (boo true)], rfl, rfl, ?_⟩, rfl⟩
    exact AVle.refl _
  · skip
    have hlo : 2 ≤ l.length := by have := h1; simp [bytesD_length] at this; omega
    refine OW_run' hE.ok 4 rfl ?_
    refine OW_end rfl ?_
    refine CW_cond _ rfl (fun h2 => ?_) (fun h2 => ?_)
    · skip
      skip
      refine CW_seq ?_
      refine CW_region ?_
      refine OW_run' hE.ok 1 rfl ?_
      refine OW_end rfl ?_
      refine CW_ret ?_
      refine ⟨.inr rfl, rfl, ⟨[.d (boo true)], rfl, rfl, ?_⟩, rfl⟩
      exact AVle.refl _
    · skip
      have hhi : l.length ≤ 12 := by have := h2; simp [bytesD_length] at this; omega
      refine CW_skip ?_
      refine CW_seq ?_
      refine CW_region ?_
      refine OW_run' hE.ok 1 rfl ?_
      refine OW.le (LE_nilSlot 7 50 27 3 rfl rfl) ?_
      refine OW_end rfl ?_
      refine CW_seq ?_
      refine CW_region ?_
      refine OW_run' hE.ok 1 rfl ?_
      refine OW_end rfl ?_
      refine CW_seq ?_
      refine CW_seq ?_
      refine CW_region ?_
      refine OW_run' hE.ok 1 rfl ?_
      refine OW_end rfl ?_
      refine CW_block ?_
      refine CW_loop (σ := {q : Nat // q ≤ l.length}) (fun q => ⟨J, (sset (sset (sset (sset (sset (sset noSlots 0 (.d (.sl 1 1 (bytesD l)))) 1 (.d (.lit (.int .u8 (wi.toNat : Int))))) 2 (.d (.lit (.int .u8 (at1.toNat : Int))))) 7 (.row 50)) 8 (.d (int ((nowX (l.map UInt8.toNat) q.1 : Nat) : Int)))) 9 (.d (int ((q.1 : Nat) : Int)))), (hset noHeap 50 (some (.row 27 3 (((evsX (l.map UInt8.toNat)).take q.1).map encE))))⟩) (fun q => l.length - q.1) ⟨0, Nat.zero_le _⟩ (LE_sh (slh_set (slh_set (slh_set (slh_set (slh_set (slh_set (slh_no _ _) rfl rfl) rfl rfl) rfl rfl) rfl rfl) rfl rfl) rfl rfl) (hlh_set (hlh_no _ _) (congrArg (fun z => some (Ent.row 27 3 z)) (rfl)) rfl)) fun ⟨i, hi⟩ => ?_
      refine CW_seq ?_
      refine CW_seq ?_
      refine CW_region ?_
      refine OW_run' hE.ok 4 rfl ?_
      refine OW_end rfl ?_
      refine CW_cond _ rfl (fun h3 => ?_) (fun h3 => ?_)
      · skip
        have hlt : i < l.length := by have := h3; simp [bytesD_length] at this; omega
        obtain ⟨u, hu⟩ : ∃ u, l[i]? = some u := ⟨_, List.getElem?_eq_getElem hlt⟩
        have hT : (l.map UInt8.toNat)[i]? = some u.toNat := by simp [hu]
        have hul := u.toNat_lt
        have hnl := now_le (l.map UInt8.toNat) i
        have hel := evs_len (l.map UInt8.toNat)
        rw [List.length_map] at hel
        refine CW_skip ?_
        refine CW_seq ?_
        refine CW_block ?_
        refine CW_seq ?_
        refine CW_region ?_
        refine OW_run' hE.ok 3 rfl ?_
        refine OW_loc' hE (loc_indexAddr hE rfl rfl rfl rfl rfl (by omega) (x := [.lit (.int .u8 (u.toNat : Int))]) (by simp [bytesD, hu])) rfl rfl rfl ?_
        refine OW_run' hE.ok 4 rfl ?_
        refine OW_as' 39 (.d (int ((nowX (l.map UInt8.toNat) i + u.toNat % 20 : Nat) : Int))) (by show AV.d (.lit (.int .i64 (IntKind.i64.wrap (((nowX (l.map UInt8.toNat) i : Nat) : Int) + IntKind.i64.wrap ((u.toNat % 20 : Nat) : Int))))) = _; rw [wrapN (by omega), show (((nowX (l.map UInt8.toNat) i : Nat) : Int) + ((u.toNat % 20 : Nat) : Int)) = ((nowX (l.map UInt8.toNat) i + u.toNat % 20 : Nat) : Int) by omega, wrapN (by omega)]; rfl) ?_
        refine OW_run' hE.ok 1 rfl ?_
        refine OW_end rfl ?_
        refine CW_region ?_
        refine OW_run' hE.ok 2 rfl ?_
        refine OW_call' hE (evOf ((nowX (l.map UInt8.toNat) i + u.toNat % 20 : Nat) : Int) 0) rfl rfl rfl rfl rfl rfl rfl ?_
        refine OW_loc' hE (loc_lits hE (t := 24) (len := 1) (parts := #[(0, .tmp 42)]) rfl rfl rfl rfl rfl rfl rfl rfl (xs := [encE (evT ((nowX (l.map UInt8.toNat) i + u.toNat % 20 : Nat) : Int) 0)]) rfl) rfl rfl rfl ?_
        refine OW_append' hE (key := 50) rfl rfl rfl rfl rfl rfl rfl rfl (.inl rfl) (by simp; omega) (by simp; omega) rfl ?_
        refine OW_run' hE.ok 1 rfl ?_
        refine OW_end rfl ?_
        refine CW_region ?_
        refine OW_run' hE.ok 3 rfl ?_
        refine OW_end rfl ?_
        refine ⟨⟨i + 1, by omega⟩, LE_sh (slh_set (v := .d (int ((i + 1 : Nat) : Int))) (slh_set (v := .d (int ((nowX (l.map UInt8.toNat) (i + 1) : Nat) : Int))) (slh_set (v := .row 50) (slh_set (v := .d (.lit (.int .u8 (at1.toNat : Int)))) (slh_set (v := .d (.lit (.int .u8 (wi.toNat : Int)))) (slh_set (v := .d (.sl 1 1 (bytesD l))) (slh_no _ _) (by rfl) rfl) (by rfl) rfl) (by rfl) rfl) (by rfl) rfl) (by exact (congrArg (fun z : Nat => AV.d (int (z : Int))) (now_succ hT).symm)) rfl) (by show AV.d (.lit (.int .i64 (IntKind.i64.wrap ((i : Int) + 1)))) = _; rw [wrap_succ (by omega)]; rfl) rfl) (hlh_set (hlh_no _ _) (congrArg (fun z => some (Ent.row 27 3 z)) (by rw [evs_snoc hT, List.map_append]; rfl)) rfl), by show l.length - (i + 1) < l.length - i; omega⟩
      · skip
        have hge : i = l.length := by have := h3; simp [bytesD_length] at this; omega
        subst hge
        have hel := evs_len (l.map UInt8.toNat)
        rw [List.length_map] at hel
        have hnl := now_le (l.map UInt8.toNat) l.length
        refine CW_exit ?_
        show CW _ _ _ _
        refine CW_seq ?_
        refine CW.le (LE_freeze 50 48 rfl (by simp; omega)) ?_
        refine CW.le (show LE _ _ ⟨J, (sset (sset (sset (sset (sset noSlots 0 (.d (.sl 1 1 (bytesD l)))) 1 (.d (.lit (.int .u8 (wi.toNat : Int))))) 2 (.d (.lit (.int .u8 (at1.toNat : Int))))) 7 (.d (.sl 3 48 ((evsX (l.map UInt8.toNat)).map encE)))) 8 (.d (int ((nowX (l.map UInt8.toNat) l.length : Nat) : Int)))), noHeap⟩ from LE_sh (slh_set (v := .d (int ((nowX (l.map UInt8.toNat) l.length : Nat) : Int))) (slh_set (v := .d (.sl 3 48 ((evsX (l.map UInt8.toNat)).map encE))) (slh_set (v := .d (.lit (.int .u8 (at1.toNat : Int)))) (slh_set (v := .d (.lit (.int .u8 (wi.toNat : Int)))) (slh_set (v := .d (.sl 1 1 (bytesD l))) (slh_no _ _) (by rfl) rfl) (by rfl) rfl) (by rfl) rfl) (by exact (congrArg (fun z : List Ev => AV.d (.sl 3 48 (z.map encE))) (List.take_of_length_le (by rw [evs_len, List.length_map]; exact Nat.le_refl _)))) rfl) (by rfl) rfl) (hlh_no _ _)) ?_
        have qS := streamOk (evsX (l.map UInt8.toNat)) 5 (by omega) (by decide)
        rw [evs_stream (by rw [List.length_map]; exact hhi)] at qS
        refine CW_region ?_
        refine OW_run' hE.ok 1 rfl ?_
        refine OW_callOwn' hE 78 qS rfl rfl rfl rfl rfl rfl rfl ?_
        refine OW_run' hE.ok 5 rfl ?_
        refine OW.le (LE_freeze 78 64 rfl (by rw [List.length_map, kept_len]; omega)) ?_
        refine OW_end rfl ?_
        refine CW_seq ?_
        obtain ⟨i, hi⟩ : ∃ i, at1.toNat % (l.length - 1) = i := ⟨_, rfl⟩
        have hil : i < l.length - 1 := hi ▸ Nat.mod_lt _ (by omega)
        have hal := at1.toNat_lt
        refine CW_region ?_
        refine OW_run' hE.ok 5 rfl ?_
        refine OW_as' 51 (.d (int ((at1.toNat : Nat) : Int))) (by show AV.d (.lit (.int .i64 (IntKind.i64.wrap ((at1.toNat : Nat) : Int)))) = _; rw [wrapN (by omega)]; rfl) ?_
        refine OW_as' 54 (.d (int ((l.length - 1 : Nat) : Int))) (by show AV.d (.lit (.int .i64 (IntKind.i64.wrap (((bytesD l).length : Int) - 1)))) = _; rw [bytesD_length, show ((l.length : Int) - 1) = ((l.length - 1 : Nat) : Int) by omega, wrapN (by omega)]; rfl) ?_
        refine OW_loc' hE (loc_rem hE rfl rfl rfl (by omega)) rfl rfl rfl ?_
        refine OW_as' 55 (.d (int ((i : Nat) : Int))) (by rw [← hi]; rfl) ?_
        refine OW_run' hE.ok 1 rfl ?_
        refine OW_end rfl ?_
        refine CW_seq ?_
        refine CW_region ?_
        refine OW_call' hE (elOf (ch 97) (ch 116)) rfl rfl rfl rfl rfl rfl rfl ?_
        refine OW_call' hE (elOf (ch 98) (ch 116)) rfl rfl rfl rfl rfl rfl rfl ?_
        refine OW_loc' hE (loc_lits hE (t := 41) (len := 2) (parts := #[(0, .tmp 56), (1, .tmp 57)]) rfl rfl rfl rfl rfl rfl rfl rfl (xs := [encL (eL (ch 97)), encL (eL (ch 98))]) rfl) rfl rfl rfl ?_
        refine OW_run' hE.ok 2 rfl ?_
        refine OW_as' 60 (.d (int ((wi.toNat : Nat) : Int))) (by have hwl := wi.toNat_lt; show AV.d (.lit (.int .i64 (IntKind.i64.wrap ((wi.toNat : Nat) : Int)))) = _; rw [wrapN (by omega)]; rfl) ?_
        refine OW_build' hE rfl rfl rfl rfl rfl ?_
        refine OW_alloc' hE 1 rfl rfl rfl rfl rfl rfl rfl ?_
        refine OW_store' hE rfl rfl rfl rfl rfl rfl rfl rfl rfl rfl rfl rfl ?_
        refine OW.le (LE_freezeBox 1 (ds := encP (pL ((wi.toNat : Nat) : Int))) rfl rfl) ?_
        refine OW_end rfl ?_
        refine CW_seq ?_
        refine CW_region ?_
        refine OW_run' hE.ok 2 rfl ?_
        refine OW_as' 63 (.d (int ((5 + i : Nat) : Int))) (by show AV.d (.lit (.int .i64 (IntKind.i64.wrap (5 + ((i : Nat) : Int))))) = _; rw [show (5 + ((i : Nat) : Int)) = ((5 + i : Nat) : Int) by omega, wrapN (by omega)]; rfl) ?_
        refine OW_build' hE rfl rfl rfl rfl rfl ?_
        refine OW_loc' hE (loc_lits hE (t := 46) (len := 1) (parts := #[(0, .tmp 64)]) rfl rfl rfl rfl rfl rfl rfl rfl (xs := [encBd ⟨0, ((5 + i : Nat) : Int)⟩]) rfl) rfl rfl rfl ?_
        refine OW_build' hE rfl rfl rfl rfl rfl ?_
        refine OW_alloc' hE 2 rfl rfl rfl rfl rfl rfl rfl ?_
        refine OW_store' hE rfl rfl rfl rfl rfl rfl rfl rfl rfl rfl rfl rfl ?_
        refine OW.le (LE_freezeBox 2 (ds := [SBd [⟨0, ((5 + i : Nat) : Int)⟩]]) rfl rfl) ?_
        refine OW_end rfl ?_
        refine CW_seq ?_
        have hT2 : 2 ≤ (l.map UInt8.toNat).length := by rw [List.length_map]; exact hlo
        have hTi : i < (l.map UInt8.toNat).length - 1 := by rw [List.length_map]; exact hil
        have hTK := law_take (w := ((wi.toNat : Nat) : Int)) hT2 hTi
        have qL := lateOk (pL ((wi.toNat : Nat) : Int)) (keptX (evsX (l.map UInt8.toNat)) 5) [⟨0, ((5 + i : Nat) : Int)⟩] (by rw [kept_len]; omega)
        rw [law_late hT2 hTi] at qL
        obtain ⟨L, hL⟩ : ∃ L, decide (wr (((nowX (l.map UInt8.toNat) (l.map UInt8.toNat).length : Nat) : Int) - ((nowX (l.map UInt8.toNat) (i + 1) : Nat) : Int)) > ((wi.toNat : Nat) : Int)) = L := ⟨_, rfl⟩
        rw [hL] at hTK qL
        rw [List.length_map] at hL
        have qT := takeOk bS (pL ((wi.toNat : Nat) : Int)) (keptX (evsX (l.map UInt8.toNat)) 5) [⟨0, ((5 + i : Nat) : Int)⟩] (kept_rises _ _) (by rw [kept_len]; omega) (by simp) (by simp [pL]) (fun _ => ⟨0, rfl, by omega⟩)
        refine CW_region ?_
        refine OW_run' hE.ok 3 rfl ?_
        refine OW_loc' hE (loc_indexAddr hE rfl rfl rfl rfl rfl (by omega) (x := encE (evT ((nowX (l.map UInt8.toNat) (i + 1) : Nat) : Int) 0)) (by rw [Int.toNat_natCast, List.getElem?_map, evs_get (show i < (l.map UInt8.toNat).length by omega)]; rfl)) rfl rfl rfl ?_
        refine OW_run' hE.ok 5 rfl ?_
        refine OW_as' 75 (.d (int ((wi.toNat : Nat) : Int))) (by have hwl := wi.toNat_lt; show AV.d (.lit (.int .i64 (IntKind.i64.wrap ((wi.toNat : Nat) : Int)))) = _; rw [wrapN (by omega)]; rfl) ?_
        refine OW_run' hE.ok 1 rfl ?_
        refine OW_as' 76 (.d (boo L)) (by exact congrArg (fun b => AV.d (boo b)) hL) ?_
        refine OW_run' hE.ok 1 rfl ?_
        refine OW_end rfl ?_
        refine CW_seq ?_
        refine CW.le (show LE _ _ ⟨J, (sset (sset (sset (sset noSlots 10 (.d (SK (keptX (evsX (l.map UInt8.toNat)) 5)))) 13 (.d (.iptr (encP (pL ((wi.toNat : Nat) : Int)))))) 14 (.d (.iptr [SBd [⟨0, ((5 + i : Nat) : Int)⟩]]))) 15 (.d (boo L))), noHeap⟩ from LE_sh (slh_set (v := .d (boo L)) (slh_set (v := .d (.iptr [SBd [⟨0, ((5 + i : Nat) : Int)⟩]])) (slh_set (v := .d (.iptr (encP (pL ((wi.toNat : Nat) : Int))))) (slh_set (v := .d (SK (keptX (evsX (l.map UInt8.toNat)) 5))) (slh_no _ _) (by rfl) rfl) (by rfl) rfl) (by rfl) rfl) (by rfl) rfl) (hlh_no _ _)) ?_
        refine CW_drawnX hE 17 ⟨[11], HA1 noHeap 11 77 (.row 48 1 ((takeX bS (pL ((wi.toNat : Nat) : Int)) (keptX (evsX (l.map UInt8.toNat)) 5) [⟨0, ((5 + i : Nat) : Int)⟩]).map encR)), []⟩ (by decide +kernel) rfl (ha1_dep (by simp)) (fun q k hm => by cases hm) (LE.refl _ _) ?_
        refine HX_run hE 3 (h0 := noHeap) (fun _ => noHeap_no) rfl rfl rfl ?_
        refine HX_call hE (qL) rfl rfl rfl rfl rfl rfl rfl rfl rfl rfl ?_
        refine HX_run hE 2 (h0 := noHeap) (fun _ => noHeap_no) rfl rfl rfl ?_
        refine HX_as 82 (.d (boo true)) (by exact congrArg (fun b => AV.d (boo b)) (by cases L <;> rfl)) ?_
        refine HX_run hE 1 (h0 := noHeap) (fun _ => noHeap_no) rfl rfl rfl ?_
        refine HX_call hE (baseOk) rfl rfl rfl rfl rfl rfl rfl rfl rfl rfl ?_
        refine HX_run hE 3 (h0 := noHeap) (fun _ => noHeap_no) rfl rfl rfl ?_
        refine HX_own hE qT rfl rfl rfl rfl rfl rfl rfl rfl ?_
        refine HX_loc2 hE rfl rfl rfl (fun b hb => loc_lenRow hE rfl rfl rfl (ha1_at (hb.2.2 11 (by kernel_rfl)))) rfl rfl rfl ?_
        refine HX_run hE 1 (h0 := noHeap) (fun _ => noHeap_no) rfl rfl rfl ?_
        refine HX_as 90 (.d (boo L)) (by refine Eq.trans (congrArg (fun z : Nat => AV.d (boo (((z : Nat) : Int) == 0))) (List.length_map ..)) ?_; exact congrArg (fun b => AV.d (boo b)) ((natEq0 _).trans hTK)) ?_
        refine HX_run hE 2 (h0 := noHeap) (fun _ => noHeap_no) rfl rfl rfl ?_
        refine HX_as 92 (.d (boo true)) (by exact congrArg (fun b => AV.d (boo b)) (by cases L <;> rfl)) ?_
        refine HX_run hE 1 (h0 := noHeap) (fun _ => noHeap_no) rfl rfl rfl ?_
        refine HX_end ?_
        refine OW_run' hE.ok 1 rfl ?_
        refine OW_end rfl ?_
        refine CW_ret ?_
        exact ⟨.inr rfl, rfl, ⟨_, rfl, rfl, AVle.refl _⟩, rfl⟩
end Go.Proofs.Ytaghhofbaoaajaa
