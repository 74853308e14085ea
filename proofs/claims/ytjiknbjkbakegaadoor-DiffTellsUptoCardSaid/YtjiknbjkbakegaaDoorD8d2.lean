/- Parts of an abstract logic over the kit's walks, and walks in it: D8d2. -/
import Derived.Test.YtjiknbjkbakegaaDoorD8t
import Derived.Test.YtjiknbjkbakegaaDoorDec
import Derived.Test.YtjiknbjkbakegaaDoorAe
namespace Go.Proofs.YtjiknbjkbakegaaDoor
open Go Go.AL
set_option linter.unusedVariables false
set_option linter.unusedSimpArgs false
set_option maxHeartbeats 4000000
theorem natStep (u : Nat) (hu : u < 18446744073709551616) (ih : ∀ v, v < u → Does Tryd.prog 43 [.d (.lit (.int .u64 ((v : Nat) : Int)))] noHeap (.d (str ⟨(Lib.decDigits (v)).toArray⟩))) : Does Tryd.prog 43 [.d (.lit (.int .u64 ((u : Nat) : Int)))] noHeap (.d (str ⟨(Lib.decDigits (u)).toArray⟩)) := by
  refine Does_of T_ok mixed (N := 20) Tryd.func43 rfl rfl rfl (by rfl) fun F n Z hE hF J => ?_
  refine CW_seq ?_
  refine CW_region ?_
  refine OW_run' hE.ok 1 rfl ?_
  refine OW_end rfl ?_
  refine CW_seq ?_
  refine CW_seq ?_
  refine CW_region ?_
  refine OW_run' hE.ok 2 rfl ?_
  refine OW_end rfl ?_
  refine CW_cond _ rfl (fun h1 => ?_) (fun h1 => ?_)
  · skip
    have h10 : u < 10 := by have h0 : ((u : Nat) : Int) < 10 := of_decide_eq_true h1; omega
    refine CW_seq ?_
    refine CW_region ?_
    refine OW_run' hE.ok 2 rfl ?_
    refine OW_as' 6 (.d (.lit (.int .u64 ((48 + u : Nat) : Int)))) (by show AV.d (.lit (.int .u64 (IntKind.u64.wrap (48 + ((u : Nat) : Int))))) = _; rw [show (48 + ((u : Nat) : Int)) = ((48 + u : Nat) : Int) by omega, wrapU (by omega)]) ?_
    refine OW_run' hE.ok 1 rfl ?_
    refine OW_as' 7 (.d (.lit (.int .u8 ((UInt8.ofNat (48 + u)).toNat : Int)))) (by show AV.d (.lit (.int .u8 (IntKind.u8.wrap ((48 + u : Nat) : Int)))) = _; rw [wrapB (by omega)]) ?_
    refine OW_litsOwn' hE 53 rfl rfl rfl rfl rfl rfl rfl rfl rfl rfl rfl rfl ?_
    refine OW_bytesString' hE (key := 53) (bs := [UInt8.ofNat (48 + u)]) rfl rfl rfl rfl rfl rfl rfl rfl rfl rfl ?_
    refine OW_run' hE.ok 1 rfl ?_
    refine OW_end rfl ?_
    refine CW_ret ?_
    refine ⟨.inr rfl, rfl, ⟨_, rfl, rfl, ?_⟩, rfl⟩
    exact AVle.of (congrArg (fun b => AV.d (str b)) (by rw [decD_small h10]))
  · skip
    have h10 : ¬ u < 10 := by have h0 : ¬ ((u : Nat) : Int) < 10 := of_decide_eq_false h1; omega
    refine CW_skip ?_
    refine CW_seq ?_
    refine CW_drawn' hE 9 (by decide +kernel) ?_
    refine HW_run hE 1 rfl rfl ?_
    refine HW_loc hE (loc_quoU hE rfl (n := u) (m := 10) rfl rfl (by decide)) rfl rfl rfl rfl ?_
    refine HW_call hE (ih (u / 10) (by omega)) rfl rfl rfl rfl rfl rfl rfl rfl ?_
    refine HW_run hE 1 rfl rfl ?_
    refine HW_loc hE (loc_rem hE rfl rfl rfl (by decide)) rfl rfl rfl rfl ?_
    refine HW_as 14 (.d (.lit (.int .u64 ((u % 10 : Nat) : Int)))) (by rfl) ?_
    refine HW_run hE 1 rfl rfl ?_
    refine HW_as 15 (.d (.lit (.int .u64 ((48 + u % 10 : Nat) : Int)))) (by show AV.d (.lit (.int .u64 (IntKind.u64.wrap (48 + ((u % 10 : Nat) : Int))))) = _; rw [show (48 + ((u % 10 : Nat) : Int)) = ((48 + u % 10 : Nat) : Int) by omega, wrapU (by omega)]) ?_
    refine HW_run hE 1 rfl rfl ?_
    refine HW_as 16 (.d (.lit (.int .u8 ((UInt8.ofNat (48 + u % 10)).toNat : Int)))) (by show AV.d (.lit (.int .u8 (IntKind.u8.wrap ((48 + u % 10 : Nat) : Int)))) = _; rw [wrapB (by omega)]) ?_
    refine HW_loc hE (loc_lits hE (t := 73) (len := 1) (parts := #[(0, .tmp 16)]) rfl rfl rfl rfl rfl rfl rfl rfl (xs := [[.lit (.int .u8 ((UInt8.ofNat (48 + u % 10)).toNat : Int))]]) rfl) rfl rfl rfl rfl ?_
    refine HW_loc hE (loc_bytesD hE rfl rfl rfl rfl (bs := [UInt8.ofNat (48 + u % 10)]) rfl rfl) rfl rfl rfl rfl ?_
    refine HW_end ?_
    refine OW_loc' hE (loc_concat hE rfl rfl rfl (by have := decD_few (u := u / 10) (by omega); show (Lib.decDigits (u / 10)).toArray.size + 1 ≤ _; simp; omega)) rfl rfl rfl ?_
    refine OW_run' hE.ok 1 rfl ?_
    refine OW_end rfl ?_
    refine CW_ret ?_
    refine ⟨.inr rfl, rfl, ⟨_, rfl, rfl, ?_⟩, rfl⟩
    exact AVle.of (congrArg (fun b => AV.d (str b)) (by rw [decD_big h10, bytes_append]))

theorem natOk : ∀ (u : Nat), u < 18446744073709551616 → Does Tryd.prog 43 [.d (.lit (.int .u64 ((u : Nat) : Int)))] noHeap (.d (str ⟨(Lib.decDigits (u)).toArray⟩)) := fun u => by
  induction u using Nat.strongRecOn with
  | _ u ih => exact fun hu => natStep u hu fun v hv => ih v hv (by omega)

theorem decOk (z : Int) (hn : -9223372036854775808 ≤ z ∧ z ≤ 9223372036854775807) : Does Tryd.prog 27 [.d (int z)] noHeap (.d (str ⟨(Lib.itoa z).toArray⟩)) := by
  refine Does_of T_ok mixed (N := 15) Tryd.func27 rfl rfl rfl (by rfl) fun F n Z hE hF J => ?_
  refine CW_seq ?_
  refine CW_region ?_
  refine OW_run' hE.ok 1 rfl ?_
  refine OW_end rfl ?_
  refine CW_seq ?_
  refine CW_seq ?_
  refine CW_region ?_
  refine OW_run' hE.ok 2 rfl ?_
  refine OW_end rfl ?_
  refine CW_cond _ rfl (fun h1 => ?_) (fun h1 => ?_)
  · skip
    have hneg : z < 0 := of_decide_eq_true h1
    obtain ⟨k, hk, hk2⟩ : ∃ k : Nat, z = -((k + 1 : Nat) : Int) ∧ k < 9223372036854775808 := ⟨(-z - 1).toNat, by omega, by omega⟩
    refine CW_seq ?_
    refine CW_region ?_
    refine OW_run' hE.ok 2 rfl ?_
    refine OW_as' 6 (.d (int (-((k : Nat) : Int)))) (by show AV.d (.lit (.int .i64 (IntKind.i64.wrap (z + 1)))) = _; rw [hk, show (-((k + 1 : Nat) : Int) + 1) = -((k : Nat) : Int) by omega, wrap_id _ _ (by have : IntKind.i64.min = -9223372036854775808 := rfl; omega) (by have : IntKind.i64.max = 9223372036854775807 := rfl; omega)]; rfl) ?_
    refine OW_run' hE.ok 1 rfl ?_
    refine OW_as' 7 (.d (int ((k : Nat) : Int))) (by show AV.d (.lit (.int .i64 (IntKind.i64.wrap (0 - (-((k : Nat) : Int)))))) = _; rw [show (0 - (-((k : Nat) : Int))) = ((k : Nat) : Int) by omega, wrap_id _ _ (by have : IntKind.i64.min = -9223372036854775808 := rfl; omega) (by have : IntKind.i64.max = 9223372036854775807 := rfl; omega)]; rfl) ?_
    refine OW_run' hE.ok 1 rfl ?_
    refine OW_as' 8 (.d (.lit (.int .u64 ((k : Nat) : Int)))) (by show AV.d (.lit (.int .u64 (IntKind.u64.wrap ((k : Nat) : Int)))) = _; rw [wrapU (by omega)]) ?_
    refine OW_run' hE.ok 1 rfl ?_
    refine OW_as' 9 (.d (.lit (.int .u64 ((k + 1 : Nat) : Int)))) (by show AV.d (.lit (.int .u64 (IntKind.u64.wrap (((k : Nat) : Int) + 1)))) = _; rw [show (((k : Nat) : Int) + 1) = ((k + 1 : Nat) : Int) by omega, wrapU (by omega)]) ?_
    refine OW_call' hE (natOk (k + 1) (by omega)) rfl rfl rfl rfl rfl rfl rfl ?_
    refine OW_loc' hE (loc_concat hE rfl rfl rfl (by have := decD_few (u := k + 1) (by omega); show 1 + (Lib.decDigits (k + 1)).toArray.size ≤ _; simp; omega)) rfl rfl rfl ?_
    refine OW_run' hE.ok 1 rfl ?_
    refine OW_end rfl ?_
    refine CW_ret ?_
    refine ⟨.inr rfl, rfl, ⟨_, rfl, rfl, ?_⟩, rfl⟩
    exact AVle.of (congrArg (fun b => AV.d (str b)) (by rw [Lib.itoa, if_pos hneg, show z.natAbs = k + 1 by omega]; exact bytes_append [45] _))
  · skip
    have hneg : ¬ z < 0 := of_decide_eq_false h1
    obtain ⟨k, hk⟩ : ∃ k : Nat, z = (k : Int) := ⟨z.toNat, by omega⟩
    refine CW_skip ?_
    refine CW_seq ?_
    refine CW_region ?_
    refine OW_run' hE.ok 2 rfl ?_
    refine OW_as' 13 (.d (.lit (.int .u64 ((k : Nat) : Int)))) (by show AV.d (.lit (.int .u64 (IntKind.u64.wrap z))) = _; rw [hk, wrapU (by omega)]) ?_
    refine OW_call' hE (natOk k (by omega)) rfl rfl rfl rfl rfl rfl rfl ?_
    refine OW_run' hE.ok 1 rfl ?_
    refine OW_end rfl ?_
    refine CW_ret ?_
    refine ⟨.inr rfl, rfl, ⟨_, rfl, rfl, ?_⟩, rfl⟩
    exact AVle.of (congrArg (fun b => AV.d (str b)) (by rw [Lib.itoa, if_neg hneg, show z.toNat = k by omega]))
end Go.Proofs.YtjiknbjkbakegaaDoor
