/- Part of an abstract logic over the kit's walks, and walks in it: E1c. -/
import Derived.Test.YtdlikopmjhfalaaE1k
namespace Go.Proofs.Ytdlikopmjhfalaa
open Go Go.AL
set_option linter.unusedVariables false
set_option linter.unusedSimpArgs false
set_option maxHeartbeats 4000000
theorem copiesOk (e : Ev) (at1 : UInt8) (n1 : Int) : Does Try.prog 6 [argE e, .d (.lit (.int .u8 (at1.toNat : Int))), .d (int n1)] noHeap (.d (boo true)) := by
  refine Does_of T_ok mixed (N := 73) Try.func6 rfl rfl rfl (by rfl) fun F n Z hE hF J => ?_
  refine CW_seq ?_
  refine CW_region ?_
  refine OW_run' hE.ok 2 rfl ?_
  refine OW_end rfl ?_
  refine CW_seq ?_
  refine CW_seq ?_
  refine CW_region ?_
  refine OW_call' hE (known3) rfl rfl rfl rfl rfl rfl rfl ?_
  refine OW_run' hE.ok 1 rfl ?_
  refine OW_end rfl ?_
  refine CW_false rfl ?_
  refine CW_skip ?_
  refine CW_seq ?_
  refine CW_seq ?_
  refine CW_region ?_
  refine OW_run' hE.ok 5 rfl ?_
  refine OW_split' 16 rfl (fun h1 => ?_) (fun h1 => ?_)
  · skip
    have h0 := h1
    refine OW_run' hE.ok 5 rfl ?_
    refine OW_end rfl ?_
    refine CW_true rfl ?_
    refine CW_seq ?_
    refine CW_region ?_
    refine OW_run' hE.ok 1 rfl ?_
    refine OW_end rfl ?_
    refine CW_ret ?_
    refine ⟨.inr rfl, rfl, ⟨[.d (boo true)], rfl, rfl, ?_⟩, rfl⟩
    exact AVle.refl _
  · skip
    have h0 : 0 < e.vals.length := by have := h1; simp at this; exact List.length_pos_iff.2 this
    refine OW_run' hE.ok 5 rfl ?_
    refine OW_end rfl ?_
    refine CW_cond _ rfl (fun h2 => ?_) (fun h2 => ?_)
    · skip
      refine CW_seq ?_
      refine CW_region ?_
      refine OW_run' hE.ok 1 rfl ?_
      refine OW_end rfl ?_
      refine CW_ret ?_
      refine ⟨.inr rfl, rfl, ⟨[.d (boo true)], rfl, rfl, ?_⟩, rfl⟩
      exact AVle.refl _
    · skip
      have h20 : e.vals.length ≤ 20 := by have := h2; simp at this; omega
      refine CW_skip ?_
      refine CW_seq ?_
      refine CW_region ?_
      refine OW_run' hE.ok 1 rfl ?_
      refine OW_callOwn' hE 77 (copyOk e) rfl rfl rfl rfl rfl rfl rfl ?_
      refine OW_alloc' hE 1 rfl rfl rfl rfl rfl rfl rfl ?_
      refine OW_store' hE rfl rfl rfl rfl rfl rfl rfl rfl rfl rfl rfl rfl ?_
      refine OW_end rfl ?_
      refine CW_seq ?_
      refine CW_seq ?_
      refine CW_region ?_
      refine OW_run' hE.ok 7 rfl ?_
      refine OW_as' 30 (.d (boo false)) (congrArg (fun b => AV.d (boo b)) (by simp)) ?_
      refine OW_end rfl ?_
      refine CW_false rfl ?_
      refine CW_skip ?_
      refine CW_seq ?_
      obtain ⟨k, hk⟩ : ∃ k, at1.toNat % e.vals.length = k := ⟨_, rfl⟩
      have hkl : k < e.vals.length := hk ▸ Nat.mod_lt _ h0
      obtain ⟨v, hv⟩ : ∃ v, e.vals[k]? = some v := ⟨_, List.getElem?_eq_getElem hkl⟩
      refine CW_region ?_
      refine OW_run' hE.ok 5 rfl ?_
      refine OW_as' 32 (.d (int ((at1.toNat : Nat) : Int))) (by show AV.d (.lit (.int .i64 (IntKind.i64.wrap (at1.toNat : Int)))) = _; rw [wrap_id _ _ (by have : IntKind.i64.min = -9223372036854775808 := rfl; omega) (by have := at1.toNat_lt; have : IntKind.i64.max = 9223372036854775807 := rfl; omega)]; rfl) ?_
      refine OW_as' 35 (.d (int ((e.vals.length : Nat) : Int))) (by show AV.d (.lit (.int .i64 ((e.vals.map encV).length : Int))) = _; rw [List.length_map]; rfl) ?_
      refine OW_loc' hE (loc_rem hE rfl rfl rfl (by omega)) rfl rfl rfl ?_
      refine OW_as' 36 (.d (int ((k : Nat) : Int))) (by rw [← hk]; rfl) ?_
      refine OW_run' hE.ok 1 rfl ?_
      refine OW_end rfl ?_
      refine CW_seq ?_
      refine CW_region ?_
      refine OW_run' hE.ok 3 rfl ?_
      refine OW_loc' hE (loc_indexAddr hE rfl rfl rfl rfl rfl (by omega) (x := encV v) (by simp [hv])) rfl rfl rfl ?_
      refine OW_run' hE.ok 1 rfl ?_
      refine OW_alloc' hE 2 rfl rfl rfl rfl rfl rfl rfl ?_
      refine OW_store' hE rfl rfl rfl rfl rfl rfl rfl rfl rfl rfl rfl rfl ?_
      refine OW_end rfl ?_
      refine CW_seq ?_
      refine CW_region ?_
      refine OW_run' hE.ok 4 rfl ?_
      refine OW_build' hE rfl rfl rfl rfl rfl ?_
      refine OW_loc' hE (loc_idxRow hE rfl rfl rfl rfl rfl (j := k) rfl (by simpa using hkl)) rfl rfl rfl ?_
      refine OW_storeRow' hE rfl rfl rfl rfl rfl rfl (j := k) (off := 0) rfl rfl (x := encV v) (by simp [hv]) (y := encV ⟨1, n1, nul⟩) rfl rfl rfl (Nat.le_refl 3) (xs' := (e.vals.set k ⟨1, n1, nul⟩).map encV) (by simp [encV, List.map_set]) ?_
      refine OW.le (LE_freeze 77 32 rfl (by simp; omega)) ?_
      refine OW_end rfl ?_
      refine CW_seq ?_
      refine CW.le (show LE _ _ ⟨J, (sset (sset (sset (sset noSlots 3 (.d (.iptr (encE e)))) 7 (.ptr 1 0)) 8 (.d (int ((k : Nat) : Int)))) 9 (.ptr 2 0)), (hset (hset noHeap 1 (some (.box 40 [.d (str e.ty), .d (int e.ts), .d (.sl 3 32 ((e.vals.set k ⟨1, n1, nul⟩).map encV))]))) 2 (some (.box 42 ((encV v).map .d))))⟩ from LE_sh (slh_set (slh_set (slh_set (slh_set (slh_no _ _) rfl rfl) rfl rfl) rfl rfl) rfl rfl) (hlh_set (hlh_set (hlh_no _ _) rfl rfl) rfl rfl)) ?_
      have hself := sameEvOk e e; rw [sameEv_refl] at hself
      refine CW_drawn' hE 23 (by decide +kernel) ?_
      refine HW_run hE 3 rfl rfl ?_
      refine HW_loc hE (loc_indexAddr hE rfl rfl rfl rfl rfl (by omega) (x := encV v) (by simp [hv])) rfl rfl rfl rfl ?_
      refine HW_run hE 2 rfl rfl ?_
      refine HW_loc hE (loc_eql rfl rfl rfl (r := sameV v v) (eqLaw_flat T_ok (t := 42) rfl (by decide +kernel) rfl (X := encV v) (Y := encV v) rfl rfl rfl)) rfl rfl rfl rfl ?_
      refine HW_as 54 (.d (boo true)) (congrArg (fun b => AV.d (boo b)) (sameV_rfl _)) ?_
      refine HW_run hE 3 rfl rfl ?_
      refine HW_call hE (hself) rfl rfl rfl rfl rfl rfl rfl rfl ?_
      refine HW_run hE 4 rfl rfl ?_
      refine HW_call hE (sameEvOk ⟨e.ty, e.ts, e.vals.set k ⟨1, n1, nul⟩⟩ e) rfl rfl rfl rfl rfl rfl rfl rfl ?_
      refine HW_run hE 4 rfl rfl ?_
      refine HW_loc hE (loc_indexAddr hE rfl rfl rfl rfl rfl (by omega) (x := encV ⟨1, n1, nul⟩) (by simp [List.getElem?_set, hkl])) rfl rfl rfl rfl ?_
      refine HW_run hE 1 rfl rfl ?_
      refine HW_loc hE (loc_eql rfl rfl rfl (r := sameV v ⟨1, n1, nul⟩) (eqLaw_flat T_ok (t := 42) rfl (by decide +kernel) rfl (X := encV v) (Y := encV ⟨1, n1, nul⟩) rfl rfl rfl)) rfl rfl rfl rfl ?_
      refine HW_end ?_
      refine OW_run' hE.ok 1 rfl ?_
      refine OW_as' 71 (.d (boo true)) (congrArg (fun b => AV.d (boo b)) (by rw [sameEv_set hv]; simp)) ?_
      refine OW_run' hE.ok 2 rfl ?_
      refine OW_end rfl ?_
      refine CW_ret ?_
      refine ⟨.inr rfl, rfl, ⟨[.d (boo true)], rfl, rfl, ?_⟩, rfl⟩
      exact AVle.refl _
end Go.Proofs.Ytdlikopmjhfalaa
