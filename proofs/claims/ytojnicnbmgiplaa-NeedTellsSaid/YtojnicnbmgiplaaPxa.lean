/- Parts of an abstract logic over the kit's walks, and walks in it: P4t, P4a, P4b, P4n, P4s, P4c, P4e. -/
import Derived.Test.YtojnicnbmgiplaaAb
import Derived.Test.YtojnicnbmgiplaaProg
import Derived.Test.YtojnicnbmgiplaaBa
namespace Go.Proofs.Ytojnicnbmgiplaa
open Go.AL
def Tl : List (Nat × TI) := [
  (2, ⟨(.int .i64), 1, 8, [.int .i64 0]⟩),
  (3, ⟨(.int .i64), 1, 8, [.int .i64 0]⟩),
  (4, ⟨.bool, 1, 1, [.bool false]⟩),
  (5, ⟨(.int .u8), 1, 1, [.int .u8 0]⟩),
  (9, ⟨.str, 1, 16, [.string ⟨#[]⟩]⟩),
  (22, ⟨(.slice 80), 1, 24, [.slice none 0 0]⟩),
  (24, ⟨(.struct [(22, 0)]), 1, 24, [.slice none 0 0]⟩),
  (25, ⟨(.slice 66), 1, 24, [.slice none 0 0]⟩),
  (27, ⟨(.struct [(25, 0), (3, 1), (9, 2), (4, 3)]), 4, 56, [.slice none 0 0, .int .i64 0, .string ⟨#[]⟩, .bool false]⟩),
  (28, ⟨(.slice 61), 1, 24, [.slice none 0 0]⟩),
  (30, ⟨(.struct [(9, 0), (3, 1), (28, 2)]), 3, 48, [.string ⟨#[]⟩, .int .i64 0, .slice none 0 0]⟩),
  (32, ⟨(.struct [(9, 0), (9, 1)]), 2, 32, [.string ⟨#[]⟩, .string ⟨#[]⟩]⟩),
  (37, ⟨(.slice 32), 1, 24, [.slice none 0 0]⟩),
  (44, ⟨(.slice 30), 1, 24, [.slice none 0 0]⟩),
  (46, ⟨(.slice 48), 1, 24, [.slice none 0 0]⟩),
  (48, ⟨(.struct [(3, 0), (30, 1)]), 4, 56, [.int .i64 0, .string ⟨#[]⟩, .int .i64 0, .slice none 0 0]⟩),
  (50, ⟨(.slice 107), 1, 24, [.slice none 0 0]⟩),
  (54, ⟨(.slice 5), 1, 24, [.slice none 0 0]⟩),
  (56, ⟨(.array 2 9), 2, 32, [.string ⟨#[]⟩, .string ⟨#[]⟩]⟩),
  (59, ⟨(.slice 9), 1, 24, [.slice none 0 0]⟩),
  (61, ⟨(.struct [(3, 0), (2, 1), (9, 2)]), 3, 32, [.int .i64 0, .int .i64 0, .string ⟨#[]⟩]⟩),
  (62, ⟨(.slice 64), 1, 24, [.slice none 0 0]⟩),
  (64, ⟨(.struct [(3, 0), (61, 1), (9, 4), (9, 5), (62, 6)]), 7, 96, [.int .i64 0, .int .i64 0, .int .i64 0, .string ⟨#[]⟩, .string ⟨#[]⟩, .string ⟨#[]⟩, .slice none 0 0]⟩),
  (66, ⟨(.struct [(9, 0), (59, 1), (4, 2), (4, 3), (64, 4)]), 11, 144, [.string ⟨#[]⟩, .slice none 0 0, .bool false, .bool false, .int .i64 0, .int .i64 0, .int .i64 0, .string ⟨#[]⟩, .string ⟨#[]⟩, .string ⟨#[]⟩, .slice none 0 0]⟩),
  (69, ⟨(.int .u64), 1, 8, [.int .u64 0]⟩),
  (72, ⟨.iface, 1, 16, [.nilIface]⟩),
  (78, ⟨(.slice 83), 1, 24, [.slice none 0 0]⟩),
  (80, ⟨(.struct [(9, 0), (78, 1)]), 2, 40, [.string ⟨#[]⟩, .slice none 0 0]⟩),
  (83, ⟨(.struct [(9, 0), (3, 1)]), 2, 24, [.string ⟨#[]⟩, .int .i64 0]⟩),
  (98, ⟨.other, 1, 8, [.nilFunc]⟩),
  (105, ⟨(.slice 110), 1, 24, [.slice none 0 0]⟩),
  (107, ⟨(.struct [(105, 0)]), 1, 24, [.slice none 0 0]⟩),
  (110, ⟨(.struct [(3, 0), (3, 1)]), 2, 16, [.int .i64 0, .int .i64 0]⟩),
  (112, ⟨(.slice 105), 1, 24, [.slice none 0 0]⟩),
  (116, ⟨.other, 1, 8, [.nilFunc]⟩),
  (121, ⟨.other, 1, 8, [.nilFunc]⟩),
  (122, ⟨(.int .i64), 1, 8, [.int .i64 0]⟩),
  (124, ⟨.other, 1, 8, [.nilFunc]⟩),
  (125, ⟨.other, 1, 8, [.nilFunc]⟩),
  (130, ⟨(.slice 3), 1, 24, [.slice none 0 0]⟩),
  (136, ⟨.other, 1, 8, [.nilFunc]⟩),
  (140, ⟨(.array 2 3), 2, 16, [.int .i64 0, .int .i64 0]⟩),
  (150, ⟨.other, 1, 8, [.nilFunc]⟩),
  (154, ⟨.other, 1, 8, [.nilFunc]⟩),
  (163, ⟨.other, 1, 8, [.nilFunc]⟩),
  (166, ⟨(.slice 169), 1, 24, [.slice none 0 0]⟩),
  (169, ⟨(.struct [(9, 0), (30, 1)]), 4, 64, [.string ⟨#[]⟩, .string ⟨#[]⟩, .int .i64 0, .slice none 0 0]⟩),
  (173, ⟨(.int .i64), 1, 8, [.int .i64 0]⟩),
  (180, ⟨(.int .u32), 1, 4, [.int .u32 0]⟩),
  (182, ⟨(.int .u64), 1, 8, [.int .u64 0]⟩),
  (196, ⟨(.int .u64), 1, 8, [.int .u64 0]⟩),
  (200, ⟨(.ptr 3), 1, 8, [.pointer none]⟩),
  (209, ⟨.other, 1, 8, [.nilFunc]⟩)]
noncomputable def T : Nat → Option TI := tableOf Tl
theorem T_ok : TOk Try.prog T := TOk_of (by decide +kernel)
theorem mixed : Try.prog.follows .mixedOrders = true := by decide +kernel
end Go.Proofs.Ytojnicnbmgiplaa
namespace Go.Proofs.Ytojnicnbmgiplaa
open Go Go.AL
set_option linter.unusedVariables false
set_option linter.unusedSimpArgs false
set_option maxHeartbeats 4000000
end Go.Proofs.Ytojnicnbmgiplaa
namespace Go.Proofs.Ytojnicnbmgiplaa
open Go Go.AL
set_option linter.unusedVariables false
set_option linter.unusedSimpArgs false
set_option maxHeartbeats 4000000
end Go.Proofs.Ytojnicnbmgiplaa
namespace Go.Proofs.Ytojnicnbmgiplaa
open Go Go.AL
set_option linter.unusedVariables false
set_option linter.unusedSimpArgs false
set_option maxHeartbeats 4000000
theorem nodesFn (x : Exp) (a : Int) : Does Try.prog 109 [argX x, .d (int a)] noHeap (.d (.fn (.func 135) [] [.iptr (encX x), .iptr [int a]])) := by
  refine Does_of T_ok mixed (N := 6) Try.func109 rfl rfl rfl (by rfl) fun F n Z hE hF J => ?_
  obtain ⟨o1, v1, c1, f1, k1⟩ := x
  refine CW_seq ?_
  refine CW_region ?_
  refine OW_run' hE.ok 3 rfl ?_
  refine OW_end rfl ?_
  refine CW_seq ?_
  refine CW_region ?_
  refine OW_run' hE.ok 2 rfl ?_
  refine OW_end rfl ?_
  refine CW_ret ?_
  refine ⟨.inr rfl, rfl, ⟨_, rfl, rfl, ?_⟩, rfl⟩
  exact AVle.refl _

theorem nodesStep (op : Int) (v : Vl) (al fi : ByteArray) (ks : List Exp) (a1 : Nat) (ha : a1 ≤ 21) (ih : ∀ k ∈ ks, ∀ a : Nat, a ≤ 21 → Iter Try.prog 135 [] [.d (.iptr (encX k)), .d (.iptr [int ((a : Nat) : Int)])] (ysX (nodesX k a))) : Iter Try.prog 135 [] [.d (.iptr (encX (.mk op v al fi ks))), .d (.iptr [int ((a1 : Nat) : Int)])] (ysX (nodesX (.mk op v al fi ks) a1)) := by
  refine Iter_of T_ok mixed (N := 37) Try.func135 rfl rfl rfl (by rfl) fun F n Z hE hF l C X hC hX hy => ?_
  refine CW_seq ?_
  refine CW_region ?_
  refine OW_run' hE.ok 1 rfl ?_
  refine OW_end rfl ?_
  refine CW_seq ?_
  refine CW_seq ?_
  refine CW_region ?_
  refine OW_run' hE.ok 4 rfl ?_
  refine OW_split' 10 rfl (fun h1 => ?_) (fun h1 => ?_)
  · skip
    have h0 : (op == 0 || decide ((a1 : Int) > 20)) = true := by have := h1; simp_all
    refine OW_run' hE.ok 9 rfl ?_
    refine OW_end rfl ?_
    refine CW_true rfl ?_
    exact CW_ret ⟨.inr rfl, .inl (by show C 0 = C _; rw [nodesX_no h0]; rfl), _, rfl⟩
  · skip
    refine OW_run' hE.ok 4 rfl ?_
    refine OW_split' 14 rfl (fun h2 => ?_) (fun h2 => ?_)
    · skip
      have h0 : (op == 0 || decide ((a1 : Int) > 20)) = true := by have := h2; simp_all
      refine OW_run' hE.ok 5 rfl ?_
      refine OW_end rfl ?_
      refine CW_true rfl ?_
      exact CW_ret ⟨.inr rfl, .inl (by show C 0 = C _; rw [nodesX_no h0]; rfl), _, rfl⟩
    · skip
      have h0 : (op == 0 || decide ((a1 : Int) > 20)) = false := by have := h2; simp_all
      have ha20 : a1 ≤ 20 := by simp at h0; omega
      refine OW_run' hE.ok 2 rfl ?_
      refine OW_yield' hE hy hC hX (Wrap.id _) (0) rfl rfl rfl rfl rfl rfl (ysX_get (node0 h0)) rfl rfl rfl ?_ ?_
      · skip
        refine OW_run' hE.ok 2 rfl ?_
        refine OW_end rfl ?_
        refine CW_false rfl ?_
        refine CW_skip ?_
        refine CW_seq ?_
        refine CW_region ?_
        refine OW_run' hE.ok 4 rfl ?_
        refine OW_end rfl ?_
        refine CW_block ?_
        refine CW_know (know_sl (d := 21) rfl) fun hlen => ?_
        rw [encXs_length] at hlen
        refine CW_loop (σ := {i : Nat // i ≤ ks.length}) (fun i => ⟨C (1 + (nodesXs (ks.take i.1) (a1 + 1)).length), (sset (sset (sset (sset (sset noSlots 2 (.d (.iptr [int ((a1 : Nat) : Int)]))) 3 (.d (.iptr [.fn (.yield l) [] []]))) 21 (.d (.sl 7 96 (encXs ks)))) 22 (.d (int ((ks.length : Nat) : Int)))) 23 (.d (int ((i.1 : Nat) : Int)))), noHeap⟩) (fun i => ks.length - i.1) ⟨0, Nat.zero_le _⟩ (LE_sh (slh_set (slh_set (slh_set (slh_set (slh_set (slh_no _ _) rfl rfl) rfl rfl) rfl rfl) (by show AV.d (.lit (.int .i64 ((encXs ks).length : Int))) = _; rw [encXs_length]; rfl) rfl) rfl rfl) (hlh_no _ _)) fun ⟨i, hi⟩ => ?_
        refine CW_seq ?_
        refine CW_region ?_
        refine OW_run' hE.ok 1 rfl ?_
        refine OW_end rfl ?_
        refine CW_seq ?_
        refine CW_cond _ rfl (fun h3 => ?_) (fun h3 => ?_)
        · skip
          have hlt : i < ks.length := by have := h3; simp at this; omega
          obtain ⟨k, hk⟩ : ∃ k, ks[i]? = some k := ⟨_, List.getElem?_eq_getElem hlt⟩
          have hI := ih k (List.mem_of_getElem? hk) (a1 + 1) (by omega)
          obtain ⟨o1, v1, c1, f1, k1, rfl⟩ := Exp.shape k
          refine CW_skip ?_
          refine CW_seq ?_
          refine CW_block ?_
          refine CW_seq ?_
          refine CW_region ?_
          refine OW_loc' hE (loc_indexAddr hE rfl rfl rfl rfl rfl (by omega) (x := encX (.mk o1 v1 c1 f1 k1)) (encXs_get (by simpa using hk))) rfl rfl rfl ?_
          refine OW_run' hE.ok 1 rfl ?_
          refine OW_alloc' hE 1 rfl rfl rfl rfl rfl rfl rfl ?_
          refine OW_store' hE rfl rfl rfl rfl rfl rfl rfl rfl rfl rfl rfl rfl ?_
          refine OW_end rfl ?_
          refine CW_seq ?_
          refine CW_region ?_
          refine OW_run' hE.ok 3 rfl ?_
          refine OW_as' 29 (.d (int ((a1 + 1 : Nat) : Int))) (by show AV.d (.lit (.int .i64 (IntKind.i64.wrap ((a1 : Int) + 1)))) = _; rw [wrap_succ (by omega)]; rfl) ?_
          refine OW_call' hE (nodesFn (.mk o1 v1 c1 f1 k1) ((a1 + 1 : Nat) : Int)) rfl rfl rfl rfl rfl rfl rfl ?_
          obtain ⟨S0, hS0⟩ : ∃ S0 : Slots, S0 = (sset (sset (sset (sset (sset (sset noSlots 2 (.d (.iptr [int ((a1 : Nat) : Int)]))) 3 (.d (.iptr [.fn (.yield l) [] []]))) 21 (.d (.sl 7 96 (encXs ks)))) 22 (.d (int ((ks.length : Nat) : Int)))) 23 (.d (int ((i : Nat) : Int)))) 30 (.d (.fn (.func 135) [] [.iptr (encX (.mk o1 v1 c1 f1 k1)), .iptr [int ((a1 + 1 : Nat) : Int)]]))) := ⟨_, rfl⟩
          refine OW.le (show LE _ _ ⟨C (1 + (nodesXs (ks.take i) (a1 + 1)).length), (sset (sset (sset (sset (sset (sset noSlots 2 (.d (.iptr [int ((a1 : Nat) : Int)]))) 3 (.d (.iptr [.fn (.yield l) [] []]))) 21 (.d (.sl 7 96 (encXs ks)))) 22 (.d (int ((ks.length : Nat) : Int)))) 23 (.d (int ((i : Nat) : Int)))) 30 (.d (.fn (.func 135) [] [.iptr (encX (.mk o1 v1 c1 f1 k1)), .iptr [int ((a1 + 1 : Nat) : Int)]]))), noHeap⟩ from LE_sh (slh_set (slh_set (slh_set (slh_set (slh_set (slh_set (slh_no _ _) rfl rfl) rfl rfl) rfl rfl) rfl rfl) rfl rfl) rfl rfl) (hlh_no _ _)) ?_
          refine OW_end rfl ?_
          refine CW_block ?_
          refine CW_rangeFunc (st := ⟨C (1 + (nodesXs (ks.take i) (a1 + 1)).length), (sset (sset (sset (sset (sset (sset noSlots 2 (.d (.iptr [int ((a1 : Nat) : Int)]))) 3 (.d (.iptr [.fn (.yield l) [] []]))) 21 (.d (.sl 7 96 (encXs ks)))) 22 (.d (int ((ks.length : Nat) : Int)))) 23 (.d (int ((i : Nat) : Int)))) 30 (.d (.fn (.func 135) [] [.iptr (encX (.mk o1 v1 c1 f1 k1)), .iptr [int ((a1 + 1 : Nat) : Int)]]))), noHeap⟩) hE hF hI rfl rfl rfl (ysX_kf _) rfl 9 rfl (fun vs q J' h' => J' = C ((1 + (nodesXs (ks.take i) (a1 + 1)).length) + q) ∧ h' = hset noHeap 9 (some (.ghost (slotsL 37 (sset (sset (sset (sset (sset (sset noSlots 2 (.d (.iptr [int ((a1 : Nat) : Int)]))) 3 (.d (.iptr [.fn (.yield l) [] []]))) 21 (.d (.sl 7 96 (encXs ks)))) 22 (.d (int ((ks.length : Nat) : Int)))) 23 (.d (int ((i : Nat) : Int)))) 30 (.d (.fn (.func 135) [] [.iptr (encX (.mk o1 v1 c1 f1 k1)), .iptr [int ((a1 + 1 : Nat) : Int)]])))) vs))) (by rintro vs q J' h' ⟨rfl, rfl⟩; exact ⟨fun _ => hC _, hset_same _ _ _⟩) (fun vs => ⟨rfl, rfl⟩) (fun F' n' Z' Br Bb hE hB vs q J' h' args hargs hInv => ?_) ?_
          · skip
            obtain ⟨rfl, rfl⟩ := hInv
            obtain ⟨y, hy2, rfl⟩ := ysX_of hargs
            obtain ⟨o2, v2, c2, f2, k2, rfl⟩ := Exp.shape y
            refine CW_region ?_
            refine OW_alloc' hE 2 rfl rfl rfl rfl rfl rfl rfl ?_
            refine OW_store' hE rfl rfl rfl rfl rfl rfl rfl rfl rfl rfl rfl rfl ?_
            refine OW_end rfl ?_
            refine ⟨rfl, rfl, ?_⟩
            refine CW_block ?_
            refine CW_seq ?_
            refine CW_region ?_
            refine OW_run' hE.ok 2 rfl ?_
            refine OW_yield' hE hy hC hX (hB _ (Wrap.id _)) ((1 + (nodesXs (ks.take i) (a1 + 1)).length) + q) rfl rfl rfl rfl rfl rfl (ysX_get (node_at h0 hk hy2)) rfl rfl rfl ?_ ?_
            · skip
              refine OW_run' hE.ok 1 rfl ?_
              refine OW_end rfl ?_
              refine CW_false rfl ?_
              refine CW_skip ?_
              exact ⟨⟨Bb (C ((1 + (nodesXs (ks.take i) (a1 + 1)).length) + (q + 1))), noSlots, hset noHeap 9 (some (.ghost _ vs))⟩, LE_sh (slh_no _ _) (hlh_set (hlh_no _ _) rfl rfl), C ((1 + (nodesXs (ks.take i) (a1 + 1)).length) + (q + 1)), rfl, rfl, rfl⟩
            · skip
              refine OW_run' hE.ok 1 rfl ?_
              refine OW_end rfl ?_
              refine CW_true rfl ?_
              refine CW_ret ⟨_, LE.refl _ _, X, _, fun _ => hX, rfl, rfl, ?_⟩
              exact ⟨.inr rfl, .inr rfl, _, rfl⟩
          · skip
            rintro vs J' h' ⟨rfl, rfl⟩
            have hJ : (1 + (nodesXs (ks.take i) (a1 + 1)).length) + (ysX (nodesX (.mk o1 v1 c1 f1 k1) (a1 + 1))).length = 1 + (nodesXs (ks.take (i + 1)) (a1 + 1)).length := by rw [nodesXs_snoc _ hk, List.length_append, ysX_length]; omega
            rw [hJ]
            refine CW_region ?_
            refine OW_run' hE.ok 2 rfl ?_
            refine OW_end rfl ?_
            exact ⟨⟨i + 1, by omega⟩, LE_sh (slh_set (slh_set (slh_set (slh_set (slh_set (slh_no _ _) rfl rfl) rfl rfl) rfl rfl) rfl rfl) (by show AV.d (.lit (.int .i64 (IntKind.i64.wrap (↑i + 1)))) = _; rw [wrap_succ (by omega)]; rfl) rfl) (hlh_no _ _), by show ks.length - (i + 1) < ks.length - i; omega⟩
        · skip
          have hge : ks.length ≤ i := by have := h3; simp at this; omega
          refine CW_exit ?_
          show RetI _ _ _ _ .normal _
          exact ⟨.inl rfl, .inl (by show C _ = C _; rw [ysX_length, nodesX_len h0, List.take_of_length_le hge]), _, rfl⟩
      · skip
        refine OW_run' hE.ok 2 rfl ?_
        refine OW_end rfl ?_
        refine CW_true rfl ?_
        exact CW_ret ⟨.inr rfl, .inr rfl, _, rfl⟩

theorem nodesAll : ∀ (n : Nat) (x : Exp), SizeOf.sizeOf x < n → ∀ a : Nat, a ≤ 21 → Iter Try.prog 135 [] [.d (.iptr (encX x)), .d (.iptr [int ((a : Nat) : Int)])] (ysX (nodesX x a))
  | 0, x, h => by omega
  | n + 1, .mk op v al fi ks, h => fun a ha => nodesStep op v al fi ks a ha fun k hk => nodesAll n k (by have := List.sizeOf_lt_of_mem hk; simp at h; omega)
theorem nodesIt (x : Exp) : Iter Try.prog 135 [] [.d (.iptr (encX x)), .d (.iptr [int ((1 : Nat) : Int)])] (ysX (nodesX x 1)) := nodesAll _ x (Nat.lt_succ_self _) 1 (by omega)
end Go.Proofs.Ytojnicnbmgiplaa
namespace Go.Proofs.Ytojnicnbmgiplaa
open Go Go.AL
set_option linter.unusedVariables false
set_option linter.unusedSimpArgs false
set_option maxHeartbeats 4000000
end Go.Proofs.Ytojnicnbmgiplaa
namespace Go.Proofs.Ytojnicnbmgiplaa
open Go Go.AL
set_option linter.unusedVariables false
set_option linter.unusedSimpArgs false
set_option maxHeartbeats 4000000
theorem appendSeqOk (l : List Exp) (hlen : l.length ≤ 1000) (g : Nat) (cap : List D) (hI : Iter Try.prog g [] (cap.map .d) (ysX l)) : Does Try.prog 134 [.d (.lit (.slice none 0 0)), .d (.fn (.func g) [] cap)] noHeap (.d (.sl 7 96 (encXs l))) := by
  refine Does_of T_ok mixed (N := 15) Try.func134 rfl rfl rfl (by rfl) fun F n Z hE hF J => ?_
  refine CW_seq ?_
  refine CW_region ?_
  refine OW_box' hE 1 rfl rfl rfl rfl rfl rfl ?_
  refine OW_run' hE.ok 1 rfl ?_
  refine OW_end rfl ?_
  refine CW_seq ?_
  refine CW_seq ?_
  refine CW.le (LE_nilRow 1 50 64 7 rfl rfl) ?_
  rw [hset_comm _ (by omega : (50 : Nat) ≠ 1), hset_hset, hset_comm _ (by omega : (1 : Nat) ≠ 50)]
  refine CW_region ?_
  refine OW_run' hE.ok 1 rfl ?_
  refine OW_end rfl ?_
  refine CW_block ?_
  rw [hset_comm _ (by omega : (50 : Nat) ≠ 1)]
  refine CW_rangeH hE hF hI rfl rfl (kfs_d cap) (ysX_kf l) rfl 9 (fun i => (hset (hset noHeap 1 (some (.box 62 [.row 50]))) 50 (some (.row 64 7 (encXs (l.take i))))))
    (fun i => True) rfl (fun _ => rfl) trivial (fun F' n' Z' Br Bb hE hB vs i args hargs hp => ?_) (fun hp vs => ?_)
  · skip
    obtain ⟨y, hy2, rfl⟩ := ysX_of hargs
    have hil : i < l.length := (List.getElem?_eq_some_iff.1 hy2).1
    obtain ⟨o2, v2, c2, f2, k2, rfl⟩ := Exp.shape y
    refine CW_region ?_
    refine OW_alloc' hE 2 rfl rfl rfl rfl rfl rfl rfl ?_
    refine OW_store' hE rfl rfl rfl rfl rfl rfl rfl rfl rfl rfl rfl rfl ?_
    refine OW_end rfl ?_
    refine ⟨rfl, rfl, ?_⟩
    refine CW_block ?_
    refine CW_fork hE 4 (by decide +kernel) ?_
    refine HW_run hE 3 rfl rfl ?_
    refine HW_loc hE (loc_litAgg hE rfl rfl rfl rfl rfl rfl rfl rfl) rfl rfl rfl rfl ?_
    refine HW_end ?_
    have hxs : (encXs (l.take i) ++ [[int 0, int 0, int 0, str nul, str nul, str nul, .lit (.slice none 0 0)]]).set i (([int 0, int 0, int 0, str nul, str nul, str nul, .lit (.slice none 0 0)] : List D).take 0 ++ encX (.mk o2 v2 c2 f2 k2) ++ ([int 0, int 0, int 0, str nul, str nul, str nul, .lit (.slice none 0 0)] : List D).drop (0 + 7)) = encXs (l.take (i + 1)) := by
      rw [List.set_append_right _ _ (by rw [encXs_length, List.length_take]; omega), encXs_length, List.length_take, Nat.min_eq_left (by omega), Nat.sub_self, encXs_eq, encXs_eq, List.take_add_one, hy2]; simp
    refine AW_one (i := 4) (by decide +kernel) rfl rfl ?_
    refine OW_append' hE (key := 50) rfl rfl rfl rfl rfl rfl rfl rfl (.inl rfl) (by simp [encXs_length]; omega) (by simp [encXs_length]; omega) rfl ?_
    refine OW_end rfl ⟨rfl, ?_⟩
    refine AW_two (i := 5) (j := 7) (by decide +kernel) rfl rfl rfl rfl ?_ ?_
    · skip
      refine OW_as' 10 (.d (int ((i : Nat) : Int))) (by show AV.d (.lit (.int .i64 ((encXs (l.take i)).length : Int))) = _; rw [encXs_length, List.length_take, Nat.min_eq_left (by omega)]; rfl) ?_
      refine OW_loc' hE (loc_idxRow hE rfl rfl rfl rfl rfl (j := i) rfl (by simp [encXs_length]; omega)) rfl rfl rfl ?_
      refine OW_end rfl ⟨rfl, ?_⟩
      refine AW_two (i := 6) (j := 7) (by decide +kernel) rfl rfl rfl rfl ?_ ?_
      · skip
        refine OW_storeRow' hE rfl rfl rfl rfl rfl rfl (j := i) (off := 0) rfl rfl (x := [int 0, int 0, int 0, str nul, str nul, str nul, .lit (.slice none 0 0)]) (by rw [List.getElem?_append_right (by rw [encXs_length, List.length_take]; omega), encXs_length, List.length_take, Nat.min_eq_left (by omega), Nat.sub_self]; rfl) (y := encX (.mk o2 v2 c2 f2 k2)) rfl rfl rfl (Nat.le_refl 7) (xs' := encXs (l.take (i + 1))) hxs ?_
        refine OW_end rfl ⟨rfl, ?_⟩
        refine AW_one (i := 7) (by decide +kernel) rfl rfl ?_
        refine OW_store' hE rfl rfl rfl rfl rfl rfl rfl rfl rfl rfl rfl rfl ?_
        refine OW_end rfl ⟨rfl, ?_⟩
        refine AW_end (by decide +kernel) ?_
        exact ⟨⟨Bb J, noSlots, (hset (hset (hset noHeap 1 (some (.box 62 [.row 50]))) 50 (some (.row 64 7 (encXs (l.take (i + 1)))))) 9 (some (.ghost _ vs)))⟩, LE_sh (slh_no _ _) (hlh_set (hlh_set (hlh_set (hlh_no _ _) rfl rfl) rfl rfl) rfl rfl), J, rfl, rfl, rfl, trivial⟩
      · skip
        refine OW_store' hE rfl rfl rfl rfl rfl rfl rfl rfl rfl rfl rfl rfl ?_
        refine OW_end rfl ⟨rfl, ?_⟩
        refine AW_one (i := 6) (by decide +kernel) rfl rfl ?_
        refine OW_storeRow' hE rfl rfl rfl rfl rfl rfl (j := i) (off := 0) rfl rfl (x := [int 0, int 0, int 0, str nul, str nul, str nul, .lit (.slice none 0 0)]) (by rw [List.getElem?_append_right (by rw [encXs_length, List.length_take]; omega), encXs_length, List.length_take, Nat.min_eq_left (by omega), Nat.sub_self]; rfl) (y := encX (.mk o2 v2 c2 f2 k2)) rfl rfl rfl (Nat.le_refl 7) (xs' := encXs (l.take (i + 1))) hxs ?_
        refine OW_end rfl ⟨rfl, ?_⟩
        refine AW_end (by decide +kernel) ?_
        exact ⟨⟨Bb J, noSlots, (hset (hset (hset noHeap 1 (some (.box 62 [.row 50]))) 50 (some (.row 64 7 (encXs (l.take (i + 1)))))) 9 (some (.ghost _ vs)))⟩, LE_sh (slh_no _ _) (hlh_set (hlh_set (hlh_set (hlh_no _ _) rfl rfl) rfl rfl) rfl rfl), J, rfl, rfl, rfl, trivial⟩
    · skip
      refine OW_store' hE rfl rfl rfl rfl rfl rfl rfl rfl rfl rfl rfl rfl ?_
      refine OW_end rfl ⟨rfl, ?_⟩
      refine AW_one (i := 5) (by decide +kernel) rfl rfl ?_
      refine OW_as' 10 (.d (int ((i : Nat) : Int))) (by show AV.d (.lit (.int .i64 ((encXs (l.take i)).length : Int))) = _; rw [encXs_length, List.length_take, Nat.min_eq_left (by omega)]; rfl) ?_
      refine OW_loc' hE (loc_idxRow hE rfl rfl rfl rfl rfl (j := i) rfl (by simp [encXs_length]; omega)) rfl rfl rfl ?_
      refine OW_end rfl ⟨rfl, ?_⟩
      refine AW_one (i := 6) (by decide +kernel) rfl rfl ?_
      refine OW_storeRow' hE rfl rfl rfl rfl rfl rfl (j := i) (off := 0) rfl rfl (x := [int 0, int 0, int 0, str nul, str nul, str nul, .lit (.slice none 0 0)]) (by rw [List.getElem?_append_right (by rw [encXs_length, List.length_take]; omega), encXs_length, List.length_take, Nat.min_eq_left (by omega), Nat.sub_self]; rfl) (y := encX (.mk o2 v2 c2 f2 k2)) rfl rfl rfl (Nat.le_refl 7) (xs' := encXs (l.take (i + 1))) hxs ?_
      refine OW_end rfl ⟨rfl, ?_⟩
      refine AW_end (by decide +kernel) ?_
      exact ⟨⟨Bb J, noSlots, (hset (hset (hset noHeap 1 (some (.box 62 [.row 50]))) 50 (some (.row 64 7 (encXs (l.take (i + 1)))))) 9 (some (.ghost _ vs)))⟩, LE_sh (slh_no _ _) (hlh_set (hlh_set (hlh_set (hlh_no _ _) rfl rfl) rfl rfl) rfl rfl), J, rfl, rfl, rfl, trivial⟩
  · skip
    refine CW_seq ?_
    refine CW_region ?_
    refine OW_run' hE.ok 2 rfl ?_
    refine OW.le (LE_freeze 50 96 rfl (by simp [encXs_length]; omega)) ?_
    refine OW_end rfl ?_
    refine CW_ret ?_
    refine ⟨.inr rfl, rfl, ⟨_, rfl, rfl, ?_⟩, rfl⟩
    rw [show encXs l = encXs (l.take (ysX l).length) by rw [ysX_length, List.take_length]]
    exact AVle.refl _

theorem collectOk (l : List Exp) (hlen : l.length ≤ 1000) (g : Nat) (cap : List D) (hI : Iter Try.prog g [] (cap.map .d) (ysX l)) : Does Try.prog 108 [.d (.fn (.func g) [] cap)] noHeap (.d (.sl 7 96 (encXs l))) := by
  refine Does_of T_ok mixed (N := 5) Try.func108 rfl rfl rfl (by rfl) fun F n Z hE hF J => ?_
  refine CW_seq ?_
  refine CW_region ?_
  refine OW_run' hE.ok 1 rfl ?_
  refine OW_end rfl ?_
  refine CW_seq ?_
  refine CW_region ?_
  refine OW_run' hE.ok 1 rfl ?_
  refine OW_call' hE (appendSeqOk l hlen g cap hI) rfl rfl rfl rfl rfl rfl rfl ?_
  refine OW_run' hE.ok 1 rfl ?_
  refine OW_end rfl ?_
  refine CW_ret ?_
  refine ⟨.inr rfl, rfl, ⟨_, rfl, rfl, ?_⟩, rfl⟩
  exact AVle.refl _

theorem nodesOk (x : Exp) (hlen : (nodesX x 1).length ≤ 1000) : Does Try.prog 81 [argX x] noHeap (.d (.sl 7 96 (encXs (nodesX x 1)))) := by
  refine Does_of T_ok mixed (N := 6) Try.func81 rfl rfl rfl (by rfl) fun F n Z hE hF J => ?_
  have hI := nodesIt x
  obtain ⟨op, v, al, fi, ks, rfl⟩ := Exp.shape x
  refine CW_seq ?_
  refine CW_region ?_
  refine OW_run' hE.ok 2 rfl ?_
  refine OW_end rfl ?_
  refine CW_seq ?_
  refine CW_region ?_
  refine OW_run' hE.ok 1 rfl ?_
  refine OW_call' hE (nodesFn (.mk op v al fi ks) 1) rfl rfl rfl rfl rfl rfl rfl ?_
  refine OW_call' hE (collectOk (nodesX (.mk op v al fi ks) 1) hlen 135 [.iptr (encX (.mk op v al fi ks)), .iptr [int 1]] hI) rfl rfl rfl rfl rfl rfl rfl ?_
  refine OW_run' hE.ok 1 rfl ?_
  refine OW_end rfl ?_
  refine CW_ret ?_
  refine ⟨.inr rfl, rfl, ⟨_, rfl, rfl, ?_⟩, rfl⟩
  exact AVle.refl _

end Go.Proofs.Ytojnicnbmgiplaa
namespace Go.Proofs.Ytojnicnbmgiplaa
open Go Go.AL
set_option linter.unusedVariables false
set_option linter.unusedSimpArgs false
set_option maxHeartbeats 4000000
theorem find1 (t : Ty) (nm : ByteArray) : Does Try.prog 91 [argT t, .d (.iptr [str nm])] noHeap (.d (boo (same t.name nm))) := by
  refine Does_of T_ok mixed (N := 8) Try.func91 rfl rfl rfl (by rfl) fun F n Z hE hF J => ?_
  refine CW_seq ?_
  refine CW_region ?_
  refine OW_run' hE.ok 2 rfl ?_
  refine OW_end rfl ?_
  refine CW_seq ?_
  refine CW_region ?_
  refine OW_run' hE.ok 5 rfl ?_
  refine OW_end rfl ?_
  refine CW_ret ?_
  refine ⟨.inr rfl, rfl, ⟨_, rfl, rfl, ?_⟩, rfl⟩
  exact AVle.refl _

theorem indexT (l : List Ty) (k : Nat) (first cap : List D) (p : Ty → Bool) (hc : ∀ a ∈ l, Does Try.prog k (first.map .d ++ [.agg ((encT a).map .d)] ++ cap.map .d) noHeap (.d (boo (p a)))) : Does Try.prog 90 [.d (.sl 2 40 (l.map encT)), .d (.fn (.func k) first cap)] noHeap (.d (int (idx p l))) := by
  refine Does_of T_ok mixed (N := 19) Try.func90 rfl rfl rfl (by rfl) fun F n Z hE hF J => ?_
  refine CW_know (know_sl (d := 0) rfl) fun hlen => ?_
  rw [List.length_map] at hlen
  refine CW_seq ?_
  refine CW_region ?_
  refine OW_run' hE.ok 1 rfl ?_
  refine OW_end rfl ?_
  refine CW_seq ?_
  refine CW_seq ?_
  refine CW_region ?_
  refine OW_run' hE.ok 3 rfl ?_
  refine OW_end rfl ?_
  refine CW_block ?_
  refine CW_loop (σ := {i : Nat // i ≤ l.length ∧ ∀ j a, j < i → l[j]? = some a → p a = false})
    (fun i => ⟨J, (sset (sset (sset (sset noSlots 0 (.d (.sl 2 40 (l.map encT)))) 1 (.d (.fn (.func k) first cap))) 7 (.d (.lit (.int .i64 l.length)))) 8 (.d (.lit (.int .i64 i.1)))), noHeap⟩) (fun i => l.length - i.1) ⟨0, Nat.zero_le _, by omega⟩ (LE_s (sle_set (sle_set (sle_set (sle_set (sle_no _) rfl) rfl) (by show AV.d (.lit (.int .i64 ((l.map encT).length : Int))) = _; rw [List.length_map])) rfl)) fun ⟨i, hi, hp⟩ => ?_
  refine CW_seq ?_
  refine CW_region ?_
  refine OW_run' hE.ok 1 rfl ?_
  refine OW_end rfl ?_
  refine CW_seq ?_
  refine CW_cond _ rfl (fun h1 => ?_) (fun h1 => ?_)
  · skip
    have hlt : i < l.length := by have := h1; simp at this; omega
    obtain ⟨a, ha⟩ : ∃ a, l[i]? = some a := ⟨_, List.getElem?_eq_getElem hlt⟩
    have hcall := hc a (List.mem_of_getElem? ha)
    refine CW_skip ?_
    refine CW_seq ?_
    refine CW_block ?_
    refine CW_seq ?_
    refine CW_region ?_
    refine OW_run' hE.ok 2 rfl ?_
    refine OW_end rfl ?_
    refine CW_seq ?_
    refine CW_region ?_
    refine OW_run' hE.ok 3 rfl ?_
    refine OW_loc' hE (loc_indexAddr hE rfl rfl rfl rfl rfl (by omega) (x := encT a) (by simp [ha])) rfl rfl rfl ?_
    refine OW_run' hE.ok 1 rfl ?_
    refine OW_call' hE (hcall) rfl rfl rfl rfl (kfs_fn rfl) rfl rfl ?_
    refine OW_end rfl ?_
    refine CW_cond _ rfl (fun h2 => ?_) (fun h2 => ?_)
    · skip
      refine CW_seq ?_
      refine CW_region ?_
      refine OW_run' hE.ok 2 rfl ?_
      refine OW_end rfl ?_
      refine CW_ret ?_
      refine ⟨.inr rfl, rfl, ⟨_, rfl, rfl, ?_⟩, rfl⟩
      rw [idx_some ha h2 hp]
      exact AVle.refl _
    · skip
      refine CW_skip ?_
      refine CW_region ?_
      refine OW_run' hE.ok 2 rfl ?_
      refine OW_end rfl ?_
      refine ⟨⟨i + 1, hlt, fun j b hj hb => ?_⟩, LE_s (sle_set (sle_set (sle_set (sle_set (sle_no _) rfl) rfl) rfl) (by show AV.d (.lit (.int .i64 (IntKind.i64.wrap (↑i + 1)))) = _; rw [wrap_succ (by omega)])), by show l.length - (i + 1) < l.length - i; omega⟩
      by_cases hji : j = i
      · subst hji; rw [ha] at hb; cases hb; exact h2
      · exact hp j b (by omega) hb
  · skip
    have hge : ¬ i < l.length := by have := h1; simp at this; omega
    refine CW_exit ?_
    show CW _ _ _ _
    refine CW_seq ?_
    refine CW_region ?_
    refine OW_run' hE.ok 1 rfl ?_
    refine OW_end rfl ?_
    refine CW_ret ?_
    refine ⟨.inr rfl, rfl, ⟨_, rfl, rfl, ?_⟩, rfl⟩
    rw [idx_none (fun j b hj => hp j b (by omega))]
    exact AVle.refl _

theorem findOk (s : List Ty) (nm : ByteArray) : Does Try.prog 54 [argS s, .d (str nm)] noHeap (.tup [argT (findT s nm).1, .d (boo (findT s nm).2)]) := by
  refine Does_of T_ok mixed (N := 19) Try.func54 rfl rfl rfl (by rfl) fun F n Z hE hF J => ?_
  refine CW_seq ?_
  refine CW_region ?_
  refine OW_run' hE.ok 2 rfl ?_
  refine OW_alloc' hE 1 rfl rfl rfl rfl rfl rfl rfl ?_
  refine OW_run' hE.ok 1 rfl ?_
  refine OW_end rfl ?_
  refine CW_seq ?_
  refine CW_region ?_
  refine OW_run' hE.ok 3 rfl ?_
  refine OW_call' hE (indexT s 91 [] [.iptr [str nm]] (fun t => same t.name nm) (fun a _ => find1 a nm)) rfl rfl rfl rfl rfl rfl rfl ?_
  refine OW_run' hE.ok 1 rfl ?_
  refine OW_end rfl ?_
  refine CW_seq ?_
  refine CW_seq ?_
  refine CW_region ?_
  refine OW_run' hE.ok 2 rfl ?_
  refine OW_end rfl ?_
  refine CW_cond _ rfl (fun h1 => ?_) (fun h1 => ?_)
  · skip
    have hn := find_neg h1
    refine CW_seq ?_
    refine CW_region ?_
    refine OW_build' hE rfl rfl rfl rfl rfl ?_
    refine OW_store' hE rfl rfl rfl rfl rfl rfl rfl rfl rfl rfl rfl rfl ?_
    refine OW_run' hE.ok 1 rfl ?_
    refine OW_end rfl ?_
    refine CW_ret ?_
    refine ⟨.inr rfl, rfl, ⟨_, rfl, rfl, ?_⟩, rfl⟩
    rw [hn]
    exact AVle.tup (.cons (.agg (.cons (.refl _) (.cons (.nilSl 2 24) .nil))) (.cons (.refl _) .nil))
  · skip
    obtain ⟨i, a, hi, ha, hr⟩ := find_pos h1
    refine CW_skip ?_
    refine CW_seq ?_
    refine CW_as' 6 (.d (int (i : Nat))) (congrArg (fun z => AV.d (int z)) hi) ?_
    refine CW_region ?_
    refine OW_run' hE.ok 3 rfl ?_
    refine OW_loc' hE (loc_indexAddr hE rfl rfl rfl rfl rfl (by omega) (x := encT a) (by simp [ha])) rfl rfl rfl ?_
    refine OW_run' hE.ok 1 rfl ?_
    refine OW_store' hE rfl rfl rfl rfl rfl rfl rfl rfl rfl rfl rfl rfl ?_
    refine OW_run' hE.ok 1 rfl ?_
    refine OW_end rfl ?_
    refine CW_ret ?_
    refine ⟨.inr rfl, rfl, ⟨_, rfl, rfl, ?_⟩, rfl⟩
    rw [hr]
    exact AVle.refl _

end Go.Proofs.Ytojnicnbmgiplaa
