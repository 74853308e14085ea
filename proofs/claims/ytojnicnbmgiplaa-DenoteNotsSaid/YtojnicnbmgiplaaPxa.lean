/- Parts of an abstract logic over the kit's walks, and walks in it: P4t, P4a, P4b, P4n, P4s, P4c, P4e. -/
import Derived.Test.YtojnicnbmgiplaaAb
import Derived.Test.YtojnicnbmgiplaaProg
import Derived.Test.YtojnicnbmgiplaaBa
namespace Go.Proofs.Ytojnicnbmgiplaa
open Go.AL
def Tl : List (Nat × TI) := [
  (2, ⟨(.int .i64), 1, 8, [.int .i64 0]⟩),
  (3, ⟨(.int .i64), 1, 8, [.int .i64 0]⟩),
  (4, ⟨.bool, 1, 1, [.bool false]⟩),
  (5, ⟨(.int .u8), 1, 1, [.int .u8 0]⟩),
  (9, ⟨.str, 1, 16, [.string ⟨#[]⟩]⟩),
  (22, ⟨(.slice 80), 1, 24, [.slice none 0 0]⟩),
  (24, ⟨(.struct [(22, 0)]), 1, 24, [.slice none 0 0]⟩),
  (25, ⟨(.slice 66), 1, 24, [.slice none 0 0]⟩),
  (27, ⟨(.struct [(25, 0), (3, 1), (9, 2), (4, 3)]), 4, 56, [.slice none 0 0, .int .i64 0, .string ⟨#[]⟩, .bool false]⟩),
  (28, ⟨(.slice 61), 1, 24, [.slice none 0 0]⟩),
  (30, ⟨(.struct [(9, 0), (3, 1), (28, 2)]), 3, 48, [.string ⟨#[]⟩, .int .i64 0, .slice none 0 0]⟩),
  (32, ⟨(.struct [(9, 0), (9, 1)]), 2, 32, [.string ⟨#[]⟩, .string ⟨#[]⟩]⟩),
  (37, ⟨(.slice 32), 1, 24, [.slice none 0 0]⟩),
  (44, ⟨(.slice 30), 1, 24, [.slice none 0 0]⟩),
  (46, ⟨(.slice 48), 1, 24, [.slice none 0 0]⟩),
  (48, ⟨(.struct [(3, 0), (30, 1)]), 4, 56, [.int .i64 0, .string ⟨#[]⟩, .int .i64 0, .slice none 0 0]⟩),
  (50, ⟨(.slice 107), 1, 24, [.slice none 0 0]⟩),
  (54, ⟨(.slice 5), 1, 24, [.slice none 0 0]⟩),
  (56, ⟨(.array 2 9), 2, 32, [.string ⟨#[]⟩, .string ⟨#[]⟩]⟩),
  (59, ⟨(.slice 9), 1, 24, [.slice none 0 0]⟩),
  (61, ⟨(.struct [(3, 0), (2, 1), (9, 2)]), 3, 32, [.int .i64 0, .int .i64 0, .string ⟨#[]⟩]⟩),
  (62, ⟨(.slice 64), 1, 24, [.slice none 0 0]⟩),
  (64, ⟨(.struct [(3, 0), (61, 1), (9, 4), (9, 5), (62, 6)]), 7, 96, [.int .i64 0, .int .i64 0, .int .i64 0, .string ⟨#[]⟩, .string ⟨#[]⟩, .string ⟨#[]⟩, .slice none 0 0]⟩),
  (66, ⟨(.struct [(9, 0), (59, 1), (4, 2), (4, 3), (64, 4)]), 11, 144, [.string ⟨#[]⟩, .slice none 0 0, .bool false, .bool false, .int .i64 0, .int .i64 0, .int .i64 0, .string ⟨#[]⟩, .string ⟨#[]⟩, .string ⟨#[]⟩, .slice none 0 0]⟩),
  (69, ⟨(.int .u64), 1, 8, [.int .u64 0]⟩),
  (72, ⟨.iface, 1, 16, [.nilIface]⟩),
  (78, ⟨(.slice 83), 1, 24, [.slice none 0 0]⟩),
  (80, ⟨(.struct [(9, 0), (78, 1)]), 2, 40, [.string ⟨#[]⟩, .slice none 0 0]⟩),
  (83, ⟨(.struct [(9, 0), (3, 1)]), 2, 24, [.string ⟨#[]⟩, .int .i64 0]⟩),
  (98, ⟨.other, 1, 8, [.nilFunc]⟩),
  (105, ⟨(.slice 110), 1, 24, [.slice none 0 0]⟩),
  (107, ⟨(.struct [(105, 0)]), 1, 24, [.slice none 0 0]⟩),
  (110, ⟨(.struct [(3, 0), (3, 1)]), 2, 16, [.int .i64 0, .int .i64 0]⟩),
  (112, ⟨(.slice 105), 1, 24, [.slice none 0 0]⟩),
  (116, ⟨.other, 1, 8, [.nilFunc]⟩),
  (121, ⟨.other, 1, 8, [.nilFunc]⟩),
  (122, ⟨(.int .i64), 1, 8, [.int .i64 0]⟩),
  (124, ⟨.other, 1, 8, [.nilFunc]⟩),
  (125, ⟨.other, 1, 8, [.nilFunc]⟩),
  (130, ⟨(.slice 3), 1, 24, [.slice none 0 0]⟩),
  (136, ⟨.other, 1, 8, [.nilFunc]⟩),
  (140, ⟨(.array 2 3), 2, 16, [.int .i64 0, .int .i64 0]⟩),
  (150, ⟨.other, 1, 8, [.nilFunc]⟩),
  (154, ⟨.other, 1, 8, [.nilFunc]⟩),
  (163, ⟨.other, 1, 8, [.nilFunc]⟩),
  (166, ⟨(.slice 169), 1, 24, [.slice none 0 0]⟩),
  (169, ⟨(.struct [(9, 0), (30, 1)]), 4, 64, [.string ⟨#[]⟩, .string ⟨#[]⟩, .int .i64 0, .slice none 0 0]⟩),
  (173, ⟨(.int .i64), 1, 8, [.int .i64 0]⟩),
  (180, ⟨(.int .u32), 1, 4, [.int .u32 0]⟩),
  (182, ⟨(.int .u64), 1, 8, [.int .u64 0]⟩),
  (196, ⟨(.int .u64), 1, 8, [.int .u64 0]⟩),
  (200, ⟨(.ptr 3), 1, 8, [.pointer none]⟩),
  (209, ⟨.other, 1, 8, [.nilFunc]⟩)]
noncomputable def T : Nat → Option TI := tableOf Tl
theorem T_ok : TOk Try.prog T := TOk_of (by decide +kernel)
theorem mixed : Try.prog.follows .mixedOrders = true := by decide +kernel
end Go.Proofs.Ytojnicnbmgiplaa
namespace Go.Proofs.Ytojnicnbmgiplaa
open Go Go.AL
set_option linter.unusedVariables false
set_option linter.unusedSimpArgs false
set_option maxHeartbeats 4000000
theorem nameOk (s : ByteArray) : Does Try.prog 185 [.d (str s)] noHeap (.d (boo (isName s))) := by
  refine Does_of T_ok mixed (N := 27) Try.func185 rfl rfl rfl (by rfl) fun F n Z hE hF J => ?_
  refine CW_know (know_str (d := 0) rfl) fun hlen => ?_
  refine CW_seq ?_
  refine CW_region ?_
  refine OW_run' hE.ok 1 rfl ?_
  refine OW_end rfl ?_
  refine CW_seq ?_
  refine CW_seq ?_
  refine CW_region ?_
  refine OW_run' hE.ok 3 rfl ?_
  refine OW_end rfl ?_
  refine CW_block ?_
  refine CW_loop (σ := {i : Nat // i ≤ s.size ∧ ∀ j c, j < i → s.data.toList[j]? = some c → small c = true})
    (fun i => ⟨J, (sset (sset (sset noSlots 0 (.d (str s))) 5 (.d (.lit (.int .i64 s.size)))) 6 (.d (.lit (.int .i64 i.1)))), noHeap⟩) (fun i => s.size - i.1) ⟨0, Nat.zero_le _, by omega⟩ (LE_s (sle_set (sle_set (sle_set (sle_no _) rfl) rfl) rfl)) fun ⟨i, hi, hp⟩ => ?_
  refine CW_seq ?_
  refine CW_region ?_
  refine OW_run' hE.ok 1 rfl ?_
  refine OW_end rfl ?_
  refine CW_seq ?_
  refine CW_cond _ rfl (fun h1 => ?_) (fun h1 => ?_)
  · skip
    have hlt : i < s.size := by have := h1; simp at this; omega
    obtain ⟨c, ha⟩ : ∃ c, s.data.toList[i]? = some c := ⟨_, List.getElem?_eq_getElem (by simpa using hlt)⟩
    refine CW_skip ?_
    refine CW_seq ?_
    refine CW_block ?_
    refine CW_seq ?_
    refine CW_region ?_
    refine OW_run' hE.ok 2 rfl ?_
    refine OW_end rfl ?_
    refine CW_seq ?_
    refine CW_region ?_
    refine OW_run' hE.ok 2 rfl ?_
    refine OW_loc' hE (loc_index hE rfl rfl rfl rfl (by omega) (by simpa using ha)) rfl rfl rfl ?_
    refine OW_run' hE.ok 2 rfl ?_
    refine OW_split' 13 rfl (fun h2 => ?_) (fun h2 => ?_)
    · skip
      have hbad : small c = false := small_lo h2
      refine OW_run' hE.ok 5 rfl ?_
      refine OW_end rfl ?_
      refine CW_true rfl ?_
      refine CW_seq ?_
      refine CW_region ?_
      refine OW_run' hE.ok 1 rfl ?_
      refine OW_end rfl ?_
      refine CW_ret ?_
      refine ⟨.inr rfl, rfl, ⟨_, rfl, rfl, ?_⟩, rfl⟩
      exact AVle.of (congrArg (fun b => AV.d (boo b)) (by rw [isName_bad ha hbad]))
    · skip
      refine OW_run' hE.ok 2 rfl ?_
      refine OW_loc' hE (loc_index hE rfl rfl rfl rfl (by omega) (by simpa using ha)) rfl rfl rfl ?_
      refine OW_run' hE.ok 2 rfl ?_
      refine OW_end rfl ?_
      refine CW_cond _ rfl (fun h3 => ?_) (fun h3 => ?_)
      · skip
        have hbad : small c = false := small_hi h3
        refine CW_seq ?_
        refine CW_region ?_
        refine OW_run' hE.ok 1 rfl ?_
        refine OW_end rfl ?_
        refine CW_ret ?_
        refine ⟨.inr rfl, rfl, ⟨_, rfl, rfl, ?_⟩, rfl⟩
        exact AVle.of (congrArg (fun b => AV.d (boo b)) (by rw [isName_bad ha hbad]))
      · skip
        have hsmall : small c = true := small_ok h2 h3
        refine CW_skip ?_
        refine CW_region ?_
        refine OW_run' hE.ok 2 rfl ?_
        refine OW_end rfl ?_
        refine ⟨⟨i + 1, hlt, fun j x hj hx => ?_⟩, LE_s (sle_set (sle_set (sle_set (sle_no _) rfl) rfl) (by show AV.d (.lit (.int .i64 (IntKind.i64.wrap (↑i + 1)))) = _; rw [wrap_succ (by omega)])), by show s.size - (i + 1) < s.size - i; omega⟩
        by_cases hji : j = i
        · subst hji; rw [ha] at hx; cases hx; exact hsmall
        · exact hp j x (by omega) hx
  · skip
    have hge : ¬ i < s.size := by have := h1; simp at this; omega
    have hall := all_small hi hge hp
    refine CW_exit ?_
    show CW _ _ _ _
    refine CW_seq ?_
    refine CW_region ?_
    refine OW_run' hE.ok 3 rfl ?_
    refine OW_split' 22 rfl (fun h4 => ?_) (fun h4 => ?_)
    · skip
      refine OW_run' hE.ok 5 rfl ?_
      refine OW_end rfl ?_
      refine CW_ret ?_
      refine ⟨.inr rfl, rfl, ⟨_, rfl, rfl, ?_⟩, rfl⟩
      exact AVle.of (congrArg (fun b => AV.d (boo b)) (by rw [name_end hall, h4]; rfl))
    · skip
      refine OW_run' hE.ok 5 rfl ?_
      refine OW_end rfl ?_
      refine CW_ret ?_
      refine ⟨.inr rfl, rfl, ⟨_, rfl, rfl, ?_⟩, rfl⟩
      exact AVle.of (congrArg (fun b => AV.d (boo b)) (by rw [name_end hall, h4]; rfl))

theorem isTextOk (s : ByteArray) : Does Try.prog 191 [.d (str s)] noHeap (.d (boo (isText s))) := by
  refine Does_of T_ok mixed (N := 23) Try.func191 rfl rfl rfl (by rfl) fun F n Z hE hF J => ?_
  refine CW_know (know_str (d := 0) rfl) fun hlen => ?_
  refine CW_seq ?_
  refine CW_region ?_
  refine OW_run' hE.ok 1 rfl ?_
  refine OW_end rfl ?_
  refine CW_seq ?_
  refine CW_seq ?_
  refine CW_region ?_
  refine OW_run' hE.ok 3 rfl ?_
  refine OW_end rfl ?_
  refine CW_block ?_
  refine CW_loop (σ := {i : Nat // i ≤ s.size ∧ ∀ j c, j < i → s.data.toList[j]? = some c → shownC c = true})
    (fun i => ⟨J, (sset (sset (sset noSlots 0 (.d (str s))) 5 (.d (.lit (.int .i64 s.size)))) 6 (.d (.lit (.int .i64 i.1)))), noHeap⟩) (fun i => s.size - i.1) ⟨0, Nat.zero_le _, by omega⟩ (LE_s (sle_set (sle_set (sle_set (sle_no _) rfl) rfl) rfl)) fun ⟨i, hi, hp⟩ => ?_
  refine CW_seq ?_
  refine CW_region ?_
  refine OW_run' hE.ok 1 rfl ?_
  refine OW_end rfl ?_
  refine CW_seq ?_
  refine CW_cond _ rfl (fun h1 => ?_) (fun h1 => ?_)
  · skip
    have hlt : i < s.size := by have := h1; simp at this; omega
    obtain ⟨c, ha⟩ : ∃ c, s.data.toList[i]? = some c := ⟨_, List.getElem?_eq_getElem (by simpa using hlt)⟩
    refine CW_skip ?_
    refine CW_seq ?_
    refine CW_block ?_
    refine CW_seq ?_
    refine CW_region ?_
    refine OW_run' hE.ok 2 rfl ?_
    refine OW_end rfl ?_
    refine CW_seq ?_
    refine CW_region ?_
    refine OW_run' hE.ok 2 rfl ?_
    refine OW_loc' hE (loc_index hE rfl rfl rfl rfl (by omega) (by simpa using ha)) rfl rfl rfl ?_
    refine OW_run' hE.ok 2 rfl ?_
    refine OW_split' 13 rfl (fun h2 => ?_) (fun h2 => ?_)
    · skip
      have hbad : shownC c = false := shown_lo h2
      refine OW_run' hE.ok 5 rfl ?_
      refine OW_end rfl ?_
      refine CW_true rfl ?_
      refine CW_seq ?_
      refine CW_region ?_
      refine OW_run' hE.ok 1 rfl ?_
      refine OW_end rfl ?_
      refine CW_ret ?_
      refine ⟨.inr rfl, rfl, ⟨_, rfl, rfl, ?_⟩, rfl⟩
      exact AVle.of (congrArg (fun b => AV.d (boo b)) (by rw [isText_bad ha hbad]))
    · skip
      refine OW_run' hE.ok 2 rfl ?_
      refine OW_loc' hE (loc_index hE rfl rfl rfl rfl (by omega) (by simpa using ha)) rfl rfl rfl ?_
      refine OW_run' hE.ok 2 rfl ?_
      refine OW_end rfl ?_
      refine CW_cond _ rfl (fun h3 => ?_) (fun h3 => ?_)
      · skip
        have hbad : shownC c = false := shown_hi h3
        refine CW_seq ?_
        refine CW_region ?_
        refine OW_run' hE.ok 1 rfl ?_
        refine OW_end rfl ?_
        refine CW_ret ?_
        refine ⟨.inr rfl, rfl, ⟨_, rfl, rfl, ?_⟩, rfl⟩
        exact AVle.of (congrArg (fun b => AV.d (boo b)) (by rw [isText_bad ha hbad]))
      · skip
        have hgood : shownC c = true := shown_ok h2 h3
        refine CW_skip ?_
        refine CW_region ?_
        refine OW_run' hE.ok 2 rfl ?_
        refine OW_end rfl ?_
        refine ⟨⟨i + 1, hlt, fun j x hj hx => ?_⟩, LE_s (sle_set (sle_set (sle_set (sle_no _) rfl) rfl) (by show AV.d (.lit (.int .i64 (IntKind.i64.wrap (↑i + 1)))) = _; rw [wrap_succ (by omega)])), by show s.size - (i + 1) < s.size - i; omega⟩
        by_cases hji : j = i
        · subst hji; rw [ha] at hx; cases hx; exact hgood
        · exact hp j x (by omega) hx
  · skip
    have hge : ¬ i < s.size := by have := h1; simp at this; omega
    have hall := allShown hi hge hp
    refine CW_exit ?_
    show CW _ _ _ _
    refine CW_seq ?_
    refine CW_region ?_
    refine OW_run' hE.ok 4 rfl ?_
    refine OW_end rfl ?_
    refine CW_ret ?_
    refine ⟨.inr rfl, rfl, ⟨_, rfl, rfl, ?_⟩, rfl⟩
    exact AVle.of (congrArg (fun b => AV.d (boo b)) (by rw [text_end hall]))

theorem isValOk (v : Vl) : Does Try.prog 184 [argV v] noHeap (.d (boo (isVal v))) := by
  refine Does_of T_ok mixed (N := 35) Try.func184 rfl rfl rfl (by rfl) fun F n Z hE hF J => ?_
  refine CW_seq ?_
  refine CW_region ?_
  refine OW_run' hE.ok 2 rfl ?_
  refine OW_end rfl ?_
  refine CW_seq ?_
  refine CW_seq ?_
  refine CW_region ?_
  refine OW_run' hE.ok 2 rfl ?_
  refine OW_end rfl ?_
  refine CW_block ?_
  refine CW_seq ?_
  refine CW_region ?_
  refine OW_run' hE.ok 2 rfl ?_
  refine OW_end rfl ?_
  refine CW_cond _ rfl (fun h1 => ?_) (fun h1 => ?_)
  · skip
    refine CW_seq ?_
    refine CW_region ?_
    refine OW_run' hE.ok 4 rfl ?_
    refine OW_end rfl ?_
    refine CW_ret ?_
    refine ⟨.inr rfl, rfl, ⟨_, rfl, rfl, ?_⟩, rfl⟩
    exact AVle.of (congrArg (fun b => AV.d (boo b)) (by simp_all [isVal, same, nul]))
  · skip
    refine CW_seq ?_
    refine CW_region ?_
    refine OW_run' hE.ok 2 rfl ?_
    refine OW_end rfl ?_
    refine CW_cond _ rfl (fun h2 => ?_) (fun h2 => ?_)
    · skip
      refine CW_seq ?_
      refine CW_region ?_
      refine OW_run' hE.ok 4 rfl ?_
      refine OW_split' 15 rfl (fun h3 => ?_) (fun h3 => ?_)
      · skip
        refine OW_run' hE.ok 2 rfl ?_
        refine OW_call' hE (isTextOk _) rfl rfl rfl rfl rfl rfl rfl ?_
        refine OW_run' hE.ok 2 rfl ?_
        refine OW_end rfl ?_
        refine CW_ret ?_
        refine ⟨.inr rfl, rfl, ⟨_, rfl, rfl, ?_⟩, rfl⟩
        exact AVle.of (congrArg (fun b => AV.d (boo b)) (by simp_all [isVal, same, nul]))
      · skip
        refine OW_run' hE.ok 5 rfl ?_
        refine OW_end rfl ?_
        refine CW_ret ?_
        refine ⟨.inr rfl, rfl, ⟨_, rfl, rfl, ?_⟩, rfl⟩
        exact AVle.of (congrArg (fun b => AV.d (boo b)) (by simp_all [isVal, same, nul]))
    · skip
      refine CW_seq ?_
      refine CW_region ?_
      refine OW_run' hE.ok 2 rfl ?_
      refine OW_end rfl ?_
      refine CW_cond _ rfl (fun h4 => ?_) (fun h4 => ?_)
      · skip
        refine CW_seq ?_
        refine CW_region ?_
        refine OW_run' hE.ok 4 rfl ?_
        refine OW_split' 25 rfl (fun h5 => ?_) (fun h5 => ?_)
        · skip
          refine OW_run' hE.ok 10 rfl ?_
          refine OW_end rfl ?_
          refine CW_ret ?_
          refine ⟨.inr rfl, rfl, ⟨_, rfl, rfl, ?_⟩, rfl⟩
          exact AVle.of (congrArg (fun b => AV.d (boo b)) (by simp_all [isVal, same, nul]))
        · skip
          refine OW_run' hE.ok 5 rfl ?_
          refine OW_split' 30 rfl (fun h6 => ?_) (fun h6 => ?_)
          · skip
            refine OW_run' hE.ok 5 rfl ?_
            refine OW_end rfl ?_
            refine CW_ret ?_
            refine ⟨.inr rfl, rfl, ⟨_, rfl, rfl, ?_⟩, rfl⟩
            exact AVle.of (congrArg (fun b => AV.d (boo b)) (by simp_all [isVal, same, nul]))
          · skip
            refine OW_run' hE.ok 5 rfl ?_
            refine OW_end rfl ?_
            refine CW_ret ?_
            refine ⟨.inr rfl, rfl, ⟨_, rfl, rfl, ?_⟩, rfl⟩
            exact AVle.of (congrArg (fun b => AV.d (boo b)) (by simp_all [isVal, same, nul]))
      · skip
        refine CW_skip ?_
        refine CW_seq ?_
        refine CW_region ?_
        refine OW_run' hE.ok 1 rfl ?_
        refine OW_end rfl ?_
        refine CW_ret ?_
        refine ⟨.inr rfl, rfl, ⟨_, rfl, rfl, ?_⟩, rfl⟩
        exact AVle.of (congrArg (fun b => AV.d (boo b)) (by simp_all [isVal, same, nul]))
end Go.Proofs.Ytojnicnbmgiplaa
namespace Go.Proofs.Ytojnicnbmgiplaa
open Go Go.AL
set_option linter.unusedVariables false
set_option linter.unusedSimpArgs false
set_option maxHeartbeats 4000000
theorem kidsOk (op : Int) : Does Try.prog 181 [.d (int op)] noHeap (.d (int (kidsN op))) := by
  refine Does_of T_ok mixed (N := 13) Try.func181 rfl rfl rfl (by rfl) fun F n Z hE hF J => ?_
  refine CW_seq ?_
  refine CW_region ?_
  refine OW_run' hE.ok 1 rfl ?_
  refine OW_end rfl ?_
  refine CW_seq ?_
  refine CW_block ?_
  refine CW_seq ?_
  refine CW_region ?_
  refine OW_run' hE.ok 3 rfl ?_
  refine OW_end rfl ?_
  refine CW_cond _ rfl (fun h1 => ?_) (fun h1 => ?_)
  · skip
    refine CW_seq ?_
    refine CW_region ?_
    refine OW_run' hE.ok 1 rfl ?_
    refine OW_end rfl ?_
    refine CW_ret ?_
    refine ⟨.inr rfl, rfl, ⟨_, rfl, rfl, ?_⟩, rfl⟩
    rw [show kidsN op = 1 by unfold kidsN; rw [h1]; rfl]
    exact AVle.refl _
  · skip
    refine CW_seq ?_
    refine CW_region ?_
    refine OW_run' hE.ok 3 rfl ?_
    refine OW_split' 9 rfl (fun h2 => ?_) (fun h2 => ?_)
    · skip
      refine OW_run' hE.ok 4 rfl ?_
      refine OW_end rfl ?_
      refine CW_cond _ rfl (fun h3 => ?_) (fun h3 => ?_)
      · skip
        refine CW_seq ?_
        refine CW_region ?_
        refine OW_run' hE.ok 1 rfl ?_
        refine OW_end rfl ?_
        refine CW_ret ?_
        refine ⟨.inr rfl, rfl, ⟨_, rfl, rfl, ?_⟩, rfl⟩
        rw [show kidsN op = 2 by unfold kidsN; rw [h1, h2, h3]; rfl]
        exact AVle.refl _
      · skip
        refine CW_skip ?_
        refine CW_seq ?_
        refine CW_region ?_
        refine OW_run' hE.ok 1 rfl ?_
        refine OW_end rfl ?_
        refine CW_ret ?_
        refine ⟨.inr rfl, rfl, ⟨_, rfl, rfl, ?_⟩, rfl⟩
        rw [show kidsN op = 0 by unfold kidsN; rw [h1, h2, h3]; rfl]
        exact AVle.refl _
    · skip
      refine OW_run' hE.ok 4 rfl ?_
      refine OW_end rfl ?_
      refine CW_false rfl ?_
      refine CW_skip ?_
      refine CW_seq ?_
      refine CW_region ?_
      refine OW_run' hE.ok 1 rfl ?_
      refine OW_end rfl ?_
      refine CW_ret ?_
      refine ⟨.inr rfl, rfl, ⟨_, rfl, rfl, ?_⟩, rfl⟩
      rw [show kidsN op = 0 by unfold kidsN; rw [h1, h2]; rfl]
      exact AVle.refl _

theorem isN1 (k : Exp) : Does Try.prog 183 [argX k] noHeap (.d (boo (k.op == 0))) := by
  refine Does_of T_ok mixed (N := 6) Try.func183 rfl rfl rfl (by rfl) fun F n Z hE hF J => ?_
  obtain ⟨o1, v1, a1, f1, k1⟩ := k
  refine CW_seq ?_
  refine CW_region ?_
  refine OW_run' hE.ok 2 rfl ?_
  refine OW_end rfl ?_
  refine CW_seq ?_
  refine CW_region ?_
  refine OW_run' hE.ok 4 rfl ?_
  refine OW_end rfl ?_
  refine CW_ret ?_
  refine ⟨.inr rfl, rfl, ⟨_, rfl, rfl, ?_⟩, rfl⟩
  exact AVle.refl _

theorem indexX (l : List Exp) (k : Nat) (first cap : List D) (p : Exp → Bool) (hc : ∀ a ∈ l, Does Try.prog k (first.map .d ++ [.agg ((encX a).map .d)] ++ cap.map .d) noHeap (.d (boo (p a)))) : Does Try.prog 190 [.d (.sl 7 96 (l.map encX)), .d (.fn (.func k) first cap)] noHeap (.d (int (idx p l))) := by
  refine Does_of T_ok mixed (N := 19) Try.func190 rfl rfl rfl (by rfl) fun F n Z hE hF J => ?_
  refine CW_know (know_sl (d := 0) rfl) fun hlen => ?_
  rw [List.length_map] at hlen
  refine CW_seq ?_
  refine CW_region ?_
  refine OW_run' hE.ok 1 rfl ?_
  refine OW_end rfl ?_
  refine CW_seq ?_
  refine CW_seq ?_
  refine CW_region ?_
  refine OW_run' hE.ok 3 rfl ?_
  refine OW_end rfl ?_
  refine CW_block ?_
  refine CW_loop (σ := {i : Nat // i ≤ l.length ∧ ∀ j a, j < i → l[j]? = some a → p a = false})
    (fun i => ⟨J, (sset (sset (sset (sset noSlots 0 (.d (.sl 7 96 (l.map encX)))) 1 (.d (.fn (.func k) first cap))) 7 (.d (.lit (.int .i64 l.length)))) 8 (.d (.lit (.int .i64 i.1)))), noHeap⟩) (fun i => l.length - i.1) ⟨0, Nat.zero_le _, by omega⟩ (LE_s (sle_set (sle_set (sle_set (sle_set (sle_no _) rfl) rfl) (by show AV.d (.lit (.int .i64 ((l.map encX).length : Int))) = _; rw [List.length_map])) rfl)) fun ⟨i, hi, hp⟩ => ?_
  refine CW_seq ?_
  refine CW_region ?_
  refine OW_run' hE.ok 1 rfl ?_
  refine OW_end rfl ?_
  refine CW_seq ?_
  refine CW_cond _ rfl (fun h1 => ?_) (fun h1 => ?_)
  · skip
    have hlt : i < l.length := by have := h1; simp at this; omega
    obtain ⟨a, ha⟩ : ∃ a, l[i]? = some a := ⟨_, List.getElem?_eq_getElem hlt⟩
    have hcall := hc a (List.mem_of_getElem? ha)
    obtain ⟨o1, v1, c1, f1, k1, rfl⟩ := Exp.shape a
    refine CW_skip ?_
    refine CW_seq ?_
    refine CW_block ?_
    refine CW_seq ?_
    refine CW_region ?_
    refine OW_run' hE.ok 2 rfl ?_
    refine OW_end rfl ?_
    refine CW_seq ?_
    refine CW_region ?_
    refine OW_run' hE.ok 3 rfl ?_
    refine OW_loc' hE (loc_indexAddr hE rfl rfl rfl rfl rfl (by omega) (x := encX (.mk o1 v1 c1 f1 k1)) (by simp [ha])) rfl rfl rfl ?_
    refine OW_run' hE.ok 1 rfl ?_
    refine OW_call' hE (hcall) rfl rfl rfl rfl (kfs_fn rfl) rfl rfl ?_
    refine OW_end rfl ?_
    refine CW_cond _ rfl (fun h2 => ?_) (fun h2 => ?_)
    · skip
      refine CW_seq ?_
      refine CW_region ?_
      refine OW_run' hE.ok 2 rfl ?_
      refine OW_end rfl ?_
      refine CW_ret ?_
      refine ⟨.inr rfl, rfl, ⟨_, rfl, rfl, ?_⟩, rfl⟩
      rw [idx_some ha h2 hp]
      exact AVle.refl _
    · skip
      refine CW_skip ?_
      refine CW_region ?_
      refine OW_run' hE.ok 2 rfl ?_
      refine OW_end rfl ?_
      refine ⟨⟨i + 1, hlt, fun j b hj hb => ?_⟩, LE_s (sle_set (sle_set (sle_set (sle_set (sle_no _) rfl) rfl) rfl) (by show AV.d (.lit (.int .i64 (IntKind.i64.wrap (↑i + 1)))) = _; rw [wrap_succ (by omega)])), by show l.length - (i + 1) < l.length - i; omega⟩
      by_cases hji : j = i
      · subst hji; rw [ha] at hb; cases hb; exact h2
      · exact hp j b (by omega) hb
  · skip
    have hge : ¬ i < l.length := by have := h1; simp at this; omega
    refine CW_exit ?_
    show CW _ _ _ _
    refine CW_seq ?_
    refine CW_region ?_
    refine OW_run' hE.ok 1 rfl ?_
    refine OW_end rfl ?_
    refine CW_ret ?_
    refine ⟨.inr rfl, rfl, ⟨_, rfl, rfl, ?_⟩, rfl⟩
    rw [idx_none (fun j b hj => hp j b (by omega))]
    exact AVle.refl _

theorem containsX (l : List Exp) (k : Nat) (first cap : List D) (p : Exp → Bool) (hc : ∀ a ∈ l, Does Try.prog k (first.map .d ++ [.agg ((encX a).map .d)] ++ cap.map .d) noHeap (.d (boo (p a)))) : Does Try.prog 182 [.d (.sl 7 96 (l.map encX)), .d (.fn (.func k) first cap)] noHeap (.d (boo (l.any p))) := by
  refine Does_of T_ok mixed (N := 9) Try.func182 rfl rfl rfl (by rfl) fun F n Z hE hF J => ?_
  refine CW_seq ?_
  refine CW_region ?_
  refine OW_run' hE.ok 1 rfl ?_
  refine OW_end rfl ?_
  refine CW_seq ?_
  refine CW_region ?_
  refine OW_run' hE.ok 2 rfl ?_
  refine OW_call' hE (indexX l k first cap p hc) rfl rfl rfl rfl rfl rfl rfl ?_
  refine OW_run' hE.ok 2 rfl ?_
  refine OW_end rfl ?_
  refine CW_ret ?_
  refine ⟨.inr rfl, rfl, ⟨_, rfl, rfl, ?_⟩, rfl⟩
  exact AVle.of (congrArg (fun b => AV.d (boo b)) (by exact any_idxX))

theorem depthStep (op : Int) (v : Vl) (al fi : ByteArray) (ks : List Exp) (a1 : Nat) (ha : a1 ≤ 21) (ih : ∀ k ∈ ks, ∀ a, a ≤ 21 → Does Try.prog 180 [argX k, .d (int ((a : Nat) : Int))] noHeap (.d (int (depthX k a)))) : Does Try.prog 180 [argX (.mk op v al fi ks), .d (int ((a1 : Nat) : Int))] noHeap (.d (int (depthX (.mk op v al fi ks) a1))) := by
  refine Does_of T_ok mixed (N := 31) Try.func180 rfl rfl rfl (by rfl) fun F n Z hE hF J => ?_
  refine CW_seq ?_
  refine CW_region ?_
  refine OW_run' hE.ok 2 rfl ?_
  refine OW_end rfl ?_
  refine CW_seq ?_
  refine CW_seq ?_
  refine CW_region ?_
  refine OW_run' hE.ok 4 rfl ?_
  refine OW_split' 11 rfl (fun h1 => ?_) (fun h1 => ?_)
  · skip
    have h0 : (op == 0 || decide ((a1 : Int) > 20)) = true := by have := h1; simp_all
    refine OW_run' hE.ok 3 rfl ?_
    refine OW_end rfl ?_
    refine CW_true rfl ?_
    refine CW_seq ?_
    refine CW_region ?_
    refine OW_run' hE.ok 1 rfl ?_
    refine OW_end rfl ?_
    refine CW_ret ?_
    refine ⟨.inr rfl, rfl, ⟨_, rfl, rfl, ?_⟩, rfl⟩
    unfold depthX; rw [h0]
    exact AVle.refl _
  · skip
    refine OW_run' hE.ok 3 rfl ?_
    refine OW_end rfl ?_
    refine CW_cond _ rfl (fun h2 => ?_) (fun h2 => ?_)
    · skip
      have h0 : (op == 0 || decide ((a1 : Int) > 20)) = true := by have := h2; simp_all
      refine CW_seq ?_
      refine CW_region ?_
      refine OW_run' hE.ok 1 rfl ?_
      refine OW_end rfl ?_
      refine CW_ret ?_
      refine ⟨.inr rfl, rfl, ⟨_, rfl, rfl, ?_⟩, rfl⟩
      unfold depthX; rw [h0]
      exact AVle.refl _
    · skip
      have h0 : (op == 0 || decide ((a1 : Int) > 20)) = false := by have := h2; simp_all
      have ha20 : a1 ≤ 20 := by simp at h0; omega
      refine CW_skip ?_
      refine CW_seq ?_
      refine CW_region ?_
      refine OW_run' hE.ok 1 rfl ?_
      refine OW_end rfl ?_
      refine CW_seq ?_
      refine CW_seq ?_
      refine CW_region ?_
      refine OW_run' hE.ok 4 rfl ?_
      refine OW_end rfl ?_
      refine CW_block ?_
      refine CW_know (know_sl (d := 16) rfl) fun hlen => ?_
      rw [encXs_length] at hlen
      refine CW_loop (σ := {i : Nat // i ≤ ks.length}) (fun i => ⟨J, (sset (sset (sset (sset (sset noSlots 1 (.d (int ((a1 : Nat) : Int)))) 16 (.d (.sl 7 96 (encXs ks)))) 17 (.d (int ((ks.length : Nat) : Int)))) 5 (.d (int (depthXs (ks.take i.1) (a1 + 1) 0)))) 18 (.d (int ((i.1 : Nat) : Int)))), noHeap⟩) (fun i => ks.length - i.1) ⟨0, Nat.zero_le _⟩ (LE_sh (slh_set (slh_set (slh_set (slh_set (slh_set (slh_no _ _) rfl rfl) rfl rfl) (by show AV.d (.lit (.int .i64 ((encXs ks).length : Int))) = _; rw [encXs_length]; rfl) rfl) rfl rfl) rfl rfl) (hlh_no _ _)) fun ⟨i, hi⟩ => ?_
      refine CW_seq ?_
      refine CW_region ?_
      refine OW_run' hE.ok 1 rfl ?_
      refine OW_end rfl ?_
      refine CW_seq ?_
      refine CW_cond _ rfl (fun h3 => ?_) (fun h3 => ?_)
      · skip
        have hlt : i < ks.length := by have := h3; simp at this; omega
        obtain ⟨k, hk⟩ : ∃ k, ks[i]? = some k := ⟨_, List.getElem?_eq_getElem hlt⟩
        have hmem := List.mem_of_getElem? hk
        have hcall := ih k hmem (a1 + 1) (by omega)
        obtain ⟨o1, v1, c1, f1, k1, rfl⟩ := Exp.shape k
        refine CW_skip ?_
        refine CW_seq ?_
        refine CW_block ?_
        refine CW_seq ?_
        refine CW_region ?_
        refine OW_loc' hE (loc_indexAddr hE rfl rfl rfl rfl rfl (by omega) (x := encX (.mk o1 v1 c1 f1 k1)) (encXs_get (by simpa using hk))) rfl rfl rfl ?_
        refine OW_run' hE.ok 1 rfl ?_
        refine OW_alloc' hE 1 rfl rfl rfl rfl rfl rfl rfl ?_
        refine OW_store' hE rfl rfl rfl rfl rfl rfl rfl rfl rfl rfl rfl rfl ?_
        refine OW_end rfl ?_
        refine CW_region ?_
        refine OW_run' hE.ok 4 rfl ?_
        refine OW_as' 25 (.d (int ((a1 + 1 : Nat) : Int))) (by show AV.d (.lit (.int .i64 (IntKind.i64.wrap ((a1 : Int) + 1)))) = _; rw [wrap_succ (by omega)]; rfl) ?_
        refine OW_call' hE (hcall) rfl rfl rfl rfl rfl rfl rfl ?_
        refine OW_loc' hE (loc_max hE rfl rfl rfl rfl) rfl rfl rfl ?_
        refine OW_run' hE.ok 1 rfl ?_
        refine OW_end rfl ?_
        refine CW_region ?_
        refine OW_run' hE.ok 2 rfl ?_
        refine OW_end rfl ?_
        exact ⟨⟨i + 1, by omega⟩, LE_sh (slh_set (slh_set (slh_set (slh_set (slh_set (slh_no _ _) rfl rfl) rfl rfl) rfl rfl) (by show AV.d (.lit (.int .i64 (max (depthXs (ks.take i) (a1 + 1) 0) (depthX (.mk o1 v1 c1 f1 k1) (a1 + 1))))) = _; rw [← depthXs_snoc _ _ hk]; rfl) rfl) (by show AV.d (.lit (.int .i64 (IntKind.i64.wrap (↑i + 1)))) = _; rw [wrap_succ (by omega)]; rfl) rfl) (hlh_no _ _), by show ks.length - (i + 1) < ks.length - i; omega⟩
      · skip
        have hge : ks.length ≤ i := by have := h3; simp at this; omega
        refine CW_exit ?_
        show CW _ _ _ _
        refine CW_seq ?_
        refine CW_region ?_
        refine OW_run' hE.ok 3 rfl ?_
        refine OW_end rfl ?_
        refine CW_ret ?_
        refine ⟨.inr rfl, rfl, ⟨_, rfl, rfl, ?_⟩, rfl⟩
        unfold depthX; rw [h0]
        have hb := depthXs_le ks (a1 + 1) 0 (Int.le_refl 0) (by omega)
        exact AVle.of (congrArg (fun z => AV.d (int z)) (by show IntKind.i64.wrap (depthXs (ks.take i) (a1 + 1) 0 + 1) = depthXs ks (a1 + 1) 0 + 1; rw [List.take_of_length_le hge, wrap_id _ _ (by have : IntKind.i64.min = -9223372036854775808 := rfl; omega) (by have : IntKind.i64.max = 9223372036854775807 := rfl; omega)]))

theorem depthAll : ∀ (n : Nat) (x : Exp), SizeOf.sizeOf x < n → ∀ a : Nat, a ≤ 21 → Does Try.prog 180 [argX x, .d (int ((a : Nat) : Int))] noHeap (.d (int (depthX x a)))
  | 0, x, h => by omega
  | n + 1, .mk op v al fi ks, h => fun a ha => depthStep op v al fi ks a ha fun k hk => depthAll n k (by have := List.sizeOf_lt_of_mem hk; simp at h; omega)
theorem depthOk (x : Exp) (a : Nat) (ha : a ≤ 21) : Does Try.prog 180 [argX x, .d (int ((a : Nat) : Int))] noHeap (.d (int (depthX x a))) := depthAll _ x (Nat.lt_succ_self _) a ha

theorem depthXOk (x : Exp) : Does Try.prog 174 [argX x] noHeap (.d (int (depthX x 1))) := by
  refine Does_of T_ok mixed (N := 5) Try.func174 rfl rfl rfl (by rfl) fun F n Z hE hF J => ?_
  obtain ⟨o1, v1, a1, f1, k1⟩ := x
  have hd := depthOk (.mk o1 v1 a1 f1 k1) 1 (by omega)
  refine CW_seq ?_
  refine CW_region ?_
  refine OW_run' hE.ok 2 rfl ?_
  refine OW_end rfl ?_
  refine CW_seq ?_
  refine CW_region ?_
  refine OW_run' hE.ok 1 rfl ?_
  refine OW_call' hE (hd) rfl rfl rfl rfl rfl rfl rfl ?_
  refine OW_run' hE.ok 1 rfl ?_
  refine OW_end rfl ?_
  refine CW_ret ?_
  refine ⟨.inr rfl, rfl, ⟨_, rfl, rfl, ?_⟩, rfl⟩
  exact AVle.refl _
end Go.Proofs.Ytojnicnbmgiplaa
namespace Go.Proofs.Ytojnicnbmgiplaa
open Go Go.AL
set_option linter.unusedVariables false
set_option linter.unusedSimpArgs false
set_option maxHeartbeats 4000000
theorem nodesFn (x : Exp) (a : Int) : Does Try.prog 109 [argX x, .d (int a)] noHeap (.d (.fn (.func 135) [] [.iptr (encX x), .iptr [int a]])) := by
  refine Does_of T_ok mixed (N := 6) Try.func109 rfl rfl rfl (by rfl) fun F n Z hE hF J => ?_
  obtain ⟨o1, v1, c1, f1, k1⟩ := x
  refine CW_seq ?_
  refine CW_region ?_
  refine OW_run' hE.ok 3 rfl ?_
  refine OW_end rfl ?_
  refine CW_seq ?_
  refine CW_region ?_
  refine OW_run' hE.ok 2 rfl ?_
  refine OW_end rfl ?_
  refine CW_ret ?_
  refine ⟨.inr rfl, rfl, ⟨_, rfl, rfl, ?_⟩, rfl⟩
  exact AVle.refl _

theorem nodesStep (op : Int) (v : Vl) (al fi : ByteArray) (ks : List Exp) (a1 : Nat) (ha : a1 ≤ 21) (ih : ∀ k ∈ ks, ∀ a : Nat, a ≤ 21 → Iter Try.prog 135 [] [.d (.iptr (encX k)), .d (.iptr [int ((a : Nat) : Int)])] (ysX (nodesX k a))) : Iter Try.prog 135 [] [.d (.iptr (encX (.mk op v al fi ks))), .d (.iptr [int ((a1 : Nat) : Int)])] (ysX (nodesX (.mk op v al fi ks) a1)) := by
  refine Iter_of T_ok mixed (N := 37) Try.func135 rfl rfl rfl (by rfl) fun F n Z hE hF l C X hC hX hy => ?_
  refine CW_seq ?_
  refine CW_region ?_
  refine OW_run' hE.ok 1 rfl ?_
  refine OW_end rfl ?_
  refine CW_seq ?_
  refine CW_seq ?_
  refine CW_region ?_
  refine OW_run' hE.ok 4 rfl ?_
  refine OW_split' 10 rfl (fun h1 => ?_) (fun h1 => ?_)
  · skip
    have h0 : (op == 0 || decide ((a1 : Int) > 20)) = true := by have := h1; simp_all
    refine OW_run' hE.ok 9 rfl ?_
    refine OW_end rfl ?_
    refine CW_true rfl ?_
    exact CW_ret ⟨.inr rfl, .inl (by show C 0 = C _; rw [nodesX_no h0]; rfl), _, rfl⟩
  · skip
    refine OW_run' hE.ok 4 rfl ?_
    refine OW_split' 14 rfl (fun h2 => ?_) (fun h2 => ?_)
    · skip
      have h0 : (op == 0 || decide ((a1 : Int) > 20)) = true := by have := h2; simp_all
      refine OW_run' hE.ok 5 rfl ?_
      refine OW_end rfl ?_
      refine CW_true rfl ?_
      exact CW_ret ⟨.inr rfl, .inl (by show C 0 = C _; rw [nodesX_no h0]; rfl), _, rfl⟩
    · skip
      have h0 : (op == 0 || decide ((a1 : Int) > 20)) = false := by have := h2; simp_all
      have ha20 : a1 ≤ 20 := by simp at h0; omega
      refine OW_run' hE.ok 2 rfl ?_
      refine OW_yield' hE hy hC hX (Wrap.id _) (0) rfl rfl rfl rfl rfl rfl (ysX_get (node0 h0)) rfl rfl rfl ?_ ?_
      · skip
        refine OW_run' hE.ok 2 rfl ?_
        refine OW_end rfl ?_
        refine CW_false rfl ?_
        refine CW_skip ?_
        refine CW_seq ?_
        refine CW_region ?_
        refine OW_run' hE.ok 4 rfl ?_
        refine OW_end rfl ?_
        refine CW_block ?_
        refine CW_know (know_sl (d := 21) rfl) fun hlen => ?_
        rw [encXs_length] at hlen
        refine CW_loop (σ := {i : Nat // i ≤ ks.length}) (fun i => ⟨C (1 + (nodesXs (ks.take i.1) (a1 + 1)).length), (sset (sset (sset (sset (sset noSlots 2 (.d (.iptr [int ((a1 : Nat) : Int)]))) 3 (.d (.iptr [.fn (.yield l) [] []]))) 21 (.d (.sl 7 96 (encXs ks)))) 22 (.d (int ((ks.length : Nat) : Int)))) 23 (.d (int ((i.1 : Nat) : Int)))), noHeap⟩) (fun i => ks.length - i.1) ⟨0, Nat.zero_le _⟩ (LE_sh (slh_set (slh_set (slh_set (slh_set (slh_set (slh_no _ _) rfl rfl) rfl rfl) rfl rfl) (by show AV.d (.lit (.int .i64 ((encXs ks).length : Int))) = _; rw [encXs_length]; rfl) rfl) rfl rfl) (hlh_no _ _)) fun ⟨i, hi⟩ => ?_
        refine CW_seq ?_
        refine CW_region ?_
        refine OW_run' hE.ok 1 rfl ?_
        refine OW_end rfl ?_
        refine CW_seq ?_
        refine CW_cond _ rfl (fun h3 => ?_) (fun h3 => ?_)
        · skip
          have hlt : i < ks.length := by have := h3; simp at this; omega
          obtain ⟨k, hk⟩ : ∃ k, ks[i]? = some k := ⟨_, List.getElem?_eq_getElem hlt⟩
          have hI := ih k (List.mem_of_getElem? hk) (a1 + 1) (by omega)
          obtain ⟨o1, v1, c1, f1, k1, rfl⟩ := Exp.shape k
          refine CW_skip ?_
          refine CW_seq ?_
          refine CW_block ?_
          refine CW_seq ?_
          refine CW_region ?_
          refine OW_loc' hE (loc_indexAddr hE rfl rfl rfl rfl rfl (by omega) (x := encX (.mk o1 v1 c1 f1 k1)) (encXs_get (by simpa using hk))) rfl rfl rfl ?_
          refine OW_run' hE.ok 1 rfl ?_
          refine OW_alloc' hE 1 rfl rfl rfl rfl rfl rfl rfl ?_
          refine OW_store' hE rfl rfl rfl rfl rfl rfl rfl rfl rfl rfl rfl rfl ?_
          refine OW_end rfl ?_
          refine CW_seq ?_
          refine CW_region ?_
          refine OW_run' hE.ok 3 rfl ?_
          refine OW_as' 29 (.d (int ((a1 + 1 : Nat) : Int))) (by show AV.d (.lit (.int .i64 (IntKind.i64.wrap ((a1 : Int) + 1)))) = _; rw [wrap_succ (by omega)]; rfl) ?_
          refine OW_call' hE (nodesFn (.mk o1 v1 c1 f1 k1) ((a1 + 1 : Nat) : Int)) rfl rfl rfl rfl rfl rfl rfl ?_
          obtain ⟨S0, hS0⟩ : ∃ S0 : Slots, S0 = (sset (sset (sset (sset (sset (sset noSlots 2 (.d (.iptr [int ((a1 : Nat) : Int)]))) 3 (.d (.iptr [.fn (.yield l) [] []]))) 21 (.d (.sl 7 96 (encXs ks)))) 22 (.d (int ((ks.length : Nat) : Int)))) 23 (.d (int ((i : Nat) : Int)))) 30 (.d (.fn (.func 135) [] [.iptr (encX (.mk o1 v1 c1 f1 k1)), .iptr [int ((a1 + 1 : Nat) : Int)]]))) := ⟨_, rfl⟩
          refine OW.le (show LE _ _ ⟨C (1 + (nodesXs (ks.take i) (a1 + 1)).length), (sset (sset (sset (sset (sset (sset noSlots 2 (.d (.iptr [int ((a1 : Nat) : Int)]))) 3 (.d (.iptr [.fn (.yield l) [] []]))) 21 (.d (.sl 7 96 (encXs ks)))) 22 (.d (int ((ks.length : Nat) : Int)))) 23 (.d (int ((i : Nat) : Int)))) 30 (.d (.fn (.func 135) [] [.iptr (encX (.mk o1 v1 c1 f1 k1)), .iptr [int ((a1 + 1 : Nat) : Int)]]))), noHeap⟩ from LE_sh (slh_set (slh_set (slh_set (slh_set (slh_set (slh_set (slh_no _ _) rfl rfl) rfl rfl) rfl rfl) rfl rfl) rfl rfl) rfl rfl) (hlh_no _ _)) ?_
          refine OW_end rfl ?_
          refine CW_block ?_
          refine CW_rangeFunc (st := ⟨C (1 + (nodesXs (ks.take i) (a1 + 1)).length), (sset (sset (sset (sset (sset (sset noSlots 2 (.d (.iptr [int ((a1 : Nat) : Int)]))) 3 (.d (.iptr [.fn (.yield l) [] []]))) 21 (.d (.sl 7 96 (encXs ks)))) 22 (.d (int ((ks.length : Nat) : Int)))) 23 (.d (int ((i : Nat) : Int)))) 30 (.d (.fn (.func 135) [] [.iptr (encX (.mk o1 v1 c1 f1 k1)), .iptr [int ((a1 + 1 : Nat) : Int)]]))), noHeap⟩) hE hF hI rfl rfl rfl (ysX_kf _) rfl 9 rfl (fun vs q J' h' => J' = C ((1 + (nodesXs (ks.take i) (a1 + 1)).length) + q) ∧ h' = hset noHeap 9 (some (.ghost (slotsL 37 (sset (sset (sset (sset (sset (sset noSlots 2 (.d (.iptr [int ((a1 : Nat) : Int)]))) 3 (.d (.iptr [.fn (.yield l) [] []]))) 21 (.d (.sl 7 96 (encXs ks)))) 22 (.d (int ((ks.length : Nat) : Int)))) 23 (.d (int ((i : Nat) : Int)))) 30 (.d (.fn (.func 135) [] [.iptr (encX (.mk o1 v1 c1 f1 k1)), .iptr [int ((a1 + 1 : Nat) : Int)]])))) vs))) (by rintro vs q J' h' ⟨rfl, rfl⟩; exact ⟨fun _ => hC _, hset_same _ _ _⟩) (fun vs => ⟨rfl, rfl⟩) (fun F' n' Z' Br Bb hE hB vs q J' h' args hargs hInv => ?_) ?_
          · skip
            obtain ⟨rfl, rfl⟩ := hInv
            obtain ⟨y, hy2, rfl⟩ := ysX_of hargs
            obtain ⟨o2, v2, c2, f2, k2, rfl⟩ := Exp.shape y
            refine CW_region ?_
            refine OW_alloc' hE 2 rfl rfl rfl rfl rfl rfl rfl ?_
            refine OW_store' hE rfl rfl rfl rfl rfl rfl rfl rfl rfl rfl rfl rfl ?_
            refine OW_end rfl ?_
            refine ⟨rfl, rfl, ?_⟩
            refine CW_block ?_
            refine CW_seq ?_
            refine CW_region ?_
            refine OW_run' hE.ok 2 rfl ?_
            refine OW_yield' hE hy hC hX (hB _ (Wrap.id _)) ((1 + (nodesXs (ks.take i) (a1 + 1)).length) + q) rfl rfl rfl rfl rfl rfl (ysX_get (node_at h0 hk hy2)) rfl rfl rfl ?_ ?_
            · skip
              refine OW_run' hE.ok 1 rfl ?_
              refine OW_end rfl ?_
              refine CW_false rfl ?_
              refine CW_skip ?_
              exact ⟨⟨Bb (C ((1 + (nodesXs (ks.take i) (a1 + 1)).length) + (q + 1))), noSlots, hset noHeap 9 (some (.ghost _ vs))⟩, LE_sh (slh_no _ _) (hlh_set (hlh_no _ _) rfl rfl), C ((1 + (nodesXs (ks.take i) (a1 + 1)).length) + (q + 1)), rfl, rfl, rfl⟩
            · skip
              refine OW_run' hE.ok 1 rfl ?_
              refine OW_end rfl ?_
              refine CW_true rfl ?_
              refine CW_ret ⟨_, LE.refl _ _, X, _, fun _ => hX, rfl, rfl, ?_⟩
              exact ⟨.inr rfl, .inr rfl, _, rfl⟩
          · skip
            rintro vs J' h' ⟨rfl, rfl⟩
            have hJ : (1 + (nodesXs (ks.take i) (a1 + 1)).length) + (ysX (nodesX (.mk o1 v1 c1 f1 k1) (a1 + 1))).length = 1 + (nodesXs (ks.take (i + 1)) (a1 + 1)).length := by rw [nodesXs_snoc _ hk, List.length_append, ysX_length]; omega
            rw [hJ]
            refine CW_region ?_
            refine OW_run' hE.ok 2 rfl ?_
            refine OW_end rfl ?_
            exact ⟨⟨i + 1, by omega⟩, LE_sh (slh_set (slh_set (slh_set (slh_set (slh_set (slh_no _ _) rfl rfl) rfl rfl) rfl rfl) rfl rfl) (by show AV.d (.lit (.int .i64 (IntKind.i64.wrap (↑i + 1)))) = _; rw [wrap_succ (by omega)]; rfl) rfl) (hlh_no _ _), by show ks.length - (i + 1) < ks.length - i; omega⟩
        · skip
          have hge : ks.length ≤ i := by have := h3; simp at this; omega
          refine CW_exit ?_
          show RetI _ _ _ _ .normal _
          exact ⟨.inl rfl, .inl (by show C _ = C _; rw [ysX_length, nodesX_len h0, List.take_of_length_le hge]), _, rfl⟩
      · skip
        refine OW_run' hE.ok 2 rfl ?_
        refine OW_end rfl ?_
        refine CW_true rfl ?_
        exact CW_ret ⟨.inr rfl, .inr rfl, _, rfl⟩

theorem nodesAll : ∀ (n : Nat) (x : Exp), SizeOf.sizeOf x < n → ∀ a : Nat, a ≤ 21 → Iter Try.prog 135 [] [.d (.iptr (encX x)), .d (.iptr [int ((a : Nat) : Int)])] (ysX (nodesX x a))
  | 0, x, h => by omega
  | n + 1, .mk op v al fi ks, h => fun a ha => nodesStep op v al fi ks a ha fun k hk => nodesAll n k (by have := List.sizeOf_lt_of_mem hk; simp at h; omega)
theorem nodesIt (x : Exp) : Iter Try.prog 135 [] [.d (.iptr (encX x)), .d (.iptr [int ((1 : Nat) : Int)])] (ysX (nodesX x 1)) := nodesAll _ x (Nat.lt_succ_self _) 1 (by omega)
end Go.Proofs.Ytojnicnbmgiplaa
namespace Go.Proofs.Ytojnicnbmgiplaa
open Go Go.AL
set_option linter.unusedVariables false
set_option linter.unusedSimpArgs false
set_option maxHeartbeats 4000000
theorem isNodeOk (x : Exp) : Does Try.prog 175 [argX x] noHeap (.d (boo (isNodeX x))) := by
  refine Does_of T_ok mixed (N := 72) Try.func175 rfl rfl rfl (by rfl) fun F n Z hE hF J => ?_
  obtain ⟨op, v, al, fi, ks, rfl⟩ := Exp.shape x
  obtain ⟨FD, hFD⟩ : ∃ FD, FD = (!(same al nul) || !(same fi nul)) := ⟨_, rfl⟩
  have hany : (encXs ks).length = ks.length := encXs_length ks
  have hcon := containsX ks 183 [] [] (fun k => k.op == 0) (fun k _ => isN1 k)
  rw [← encXs_eq] at hcon
  refine CW_seq ?_
  refine CW_region ?_
  refine OW_run' hE.ok 2 rfl ?_
  refine OW_end rfl ?_
  refine CW_cutE (fun fd : Bool => ⟨J, (sset (sset (sset noSlots 1 (.d (.iptr (encX (.mk op v al fi ks))))) 3 (.d (boo (!(sameV v ⟨0, 0, nul⟩))))) 4 (.d (boo fd))), noHeap⟩) (fun fd => fd = FD) ?_ ?_
  · skip
    refine CW_drawn' hE 13 (by decide +kernel) ?_
    refine HW_run hE 2 rfl rfl ?_
    refine HW_loc hE (loc_build hE rfl rfl) rfl rfl rfl rfl ?_
    refine HW_loc hE (loc_neq rfl rfl rfl (r := sameV v ⟨0, 0, nul⟩) (eqLaw_flat T_ok (t := 61) rfl (by decide +kernel) rfl (X := encV v) (Y := encV ⟨0, 0, nul⟩) rfl rfl rfl)) rfl rfl rfl rfl ?_
    refine HW_run hE 4 rfl rfl ?_
    refine HW_split 12 rfl (fun h1 => ?_) (fun h1 => ?_)
    · skip
      have g12 := h1
      refine HW_run hE 5 rfl rfl ?_
      refine HW_end ?_
      refine OW_run' hE.ok 1 rfl ?_
      refine OW_end rfl ?_
      exact ⟨true, by rw [hFD, show (!(same al nul)) = true from g12]; rfl, LE_sh (slh_set (slh_set (slh_set (slh_no _ _) rfl rfl) rfl rfl) rfl rfl) (hlh_no _ _)⟩
    · skip
      have g12 := h1
      refine HW_run hE 5 rfl rfl ?_
      refine HW_end ?_
      refine OW_run' hE.ok 1 rfl ?_
      refine OW_end rfl ?_
      exact ⟨(!(same fi nul)), by rw [hFD, show (!(same al nul)) = false from g12]; rfl, LE_sh (slh_set (slh_set (slh_set (slh_no _ _) rfl rfl) rfl rfl) rfl rfl) (hlh_no _ _)⟩
  · skip
    rintro fd rfl
    refine CW_seq ?_
    refine CW_block ?_
    refine CW_seq ?_
    refine CW_drawn' hE 15 (by decide +kernel) ?_
    refine HW_run hE 4 rfl rfl ?_
    refine HW_split 21 rfl (fun h2 => ?_) (fun h2 => ?_)
    · skip
      have g1 := h2
      refine HW_run hE 11 rfl rfl ?_
      refine HW_end ?_
      refine OW_run' hE.ok 3 rfl ?_
      refine OW_end rfl ?_
      refine CW_true rfl ?_
      refine CW_seq ?_
      refine CW_region ?_
      refine OW_run' hE.ok 1 rfl ?_
      refine OW_end rfl ?_
      refine CW_ret ?_
      refine ⟨.inr rfl, rfl, ⟨_, rfl, rfl, ?_⟩, rfl⟩
      exact AVle.of (congrArg (fun b => AV.d (boo b)) (by unfold isNodeX; dsimp only; rw [g1]; rfl))
    · skip
      have g1 := h2
      refine HW_run hE 5 rfl rfl ?_
      refine HW_split 26 rfl (fun h3 => ?_) (fun h3 => ?_)
      · skip
        have g2 := h3
        refine HW_run hE 6 rfl rfl ?_
        refine HW_end ?_
        refine OW_run' hE.ok 3 rfl ?_
        refine OW_end rfl ?_
        refine CW_true rfl ?_
        refine CW_seq ?_
        refine CW_region ?_
        refine OW_run' hE.ok 1 rfl ?_
        refine OW_end rfl ?_
        refine CW_ret ?_
        refine ⟨.inr rfl, rfl, ⟨_, rfl, rfl, ?_⟩, rfl⟩
        exact AVle.of (congrArg (fun b => AV.d (boo b)) (by unfold isNodeX; dsimp only; rw [g1, g2]; rfl))
      · skip
        have g2 := h3
        refine HW_run hE 5 rfl rfl ?_
        refine HW_call hE (kidsOk _) rfl rfl rfl rfl rfl rfl rfl rfl ?_
        refine HW_end ?_
        refine OW_as' 29 (.d (int ((ks.length : Nat) : Int))) (by show AV.d (.lit (.int .i64 ((encXs ks).length : Int))) = _; rw [hany]; rfl) ?_
        refine OW_run' hE.ok 1 rfl ?_
        refine OW_run' hE.ok 2 rfl ?_
        refine OW_end rfl ?_
        refine CW_cond _ rfl (fun h4 => ?_) (fun h4 => ?_)
        · skip
          have g3 := h4
          refine CW_seq ?_
          refine CW_region ?_
          refine OW_run' hE.ok 1 rfl ?_
          refine OW_end rfl ?_
          refine CW_ret ?_
          refine ⟨.inr rfl, rfl, ⟨_, rfl, rfl, ?_⟩, rfl⟩
          exact AVle.of (congrArg (fun b => AV.d (boo b)) (by unfold isNodeX; dsimp only; rw [g1, g2, g3]; rfl))
        · skip
          have g3 := h4
          refine CW_seq ?_
          refine CW_region ?_
          refine OW_run' hE.ok 2 rfl ?_
          refine OW_call' hE (hcon) rfl rfl rfl rfl rfl rfl rfl ?_
          refine OW_run' hE.ok 1 rfl ?_
          refine OW_end rfl ?_
          refine CW_cond _ rfl (fun h5 => ?_) (fun h5 => ?_)
          · skip
            have g4 := h5
            refine CW_seq ?_
            refine CW_region ?_
            refine OW_run' hE.ok 1 rfl ?_
            refine OW_end rfl ?_
            refine CW_ret ?_
            refine ⟨.inr rfl, rfl, ⟨_, rfl, rfl, ?_⟩, rfl⟩
            exact AVle.of (congrArg (fun b => AV.d (boo b)) (by unfold isNodeX; dsimp only; rw [g1, g2, g3, g4]; rfl))
          · skip
            have g4 := h5
            refine CW_seq ?_
            refine CW_region ?_
            refine OW_run' hE.ok 4 rfl ?_
            refine OW_end rfl ?_
            refine CW_cond _ rfl (fun h6 => ?_) (fun h6 => ?_)
            · skip
              have g5 := h6
              refine CW_seq ?_
              refine CW_region ?_
              refine OW_run' hE.ok 2 rfl ?_
              refine OW_call' hE (isValOk _) rfl rfl rfl rfl rfl rfl rfl ?_
              refine OW_run' hE.ok 1 rfl ?_
              refine OW_split' 46 rfl (fun h7 => ?_) (fun h7 => ?_)
              · skip
                have g6 := h7
                refine OW_run' hE.ok 4 rfl ?_
                refine OW_end rfl ?_
                refine CW_ret ?_
                refine ⟨.inr rfl, rfl, ⟨_, rfl, rfl, ?_⟩, rfl⟩
                exact AVle.of (congrArg (fun b => AV.d (boo b)) (by unfold isNodeX; dsimp only; rw [g1, g2, g3, g4, g5, g6, hFD]; rfl))
              · skip
                have g6 := h7
                refine OW_run' hE.ok 4 rfl ?_
                refine OW_end rfl ?_
                refine CW_ret ?_
                refine ⟨.inr rfl, rfl, ⟨_, rfl, rfl, ?_⟩, rfl⟩
                exact AVle.of (congrArg (fun b => AV.d (boo b)) (by unfold isNodeX; dsimp only; rw [g1, g2, g3, g4, g5, g6]; rfl))
            · skip
              have g5 := h6
              refine CW_seq ?_
              refine CW_region ?_
              refine OW_run' hE.ok 4 rfl ?_
              refine OW_end rfl ?_
              refine CW_cond _ rfl (fun h8 => ?_) (fun h8 => ?_)
              · skip
                have g7 := h8
                refine CW_seq ?_
                refine CW_region ?_
                refine OW_run' hE.ok 3 rfl ?_
                refine OW_split' 56 rfl (fun h9 => ?_) (fun h9 => ?_)
                · skip
                  have g8 := h9
                  refine OW_run' hE.ok 2 rfl ?_
                  refine OW_call' hE (nameOk _) rfl rfl rfl rfl rfl rfl rfl ?_
                  refine OW_run' hE.ok 2 rfl ?_
                  refine OW_split' 61 rfl (fun h10 => ?_) (fun h10 => ?_)
                  · skip
                    have g9 := h10
                    refine OW_run' hE.ok 2 rfl ?_
                    refine OW_call' hE (nameOk _) rfl rfl rfl rfl rfl rfl rfl ?_
                    refine OW_run' hE.ok 2 rfl ?_
                    refine OW_end rfl ?_
                    refine CW_ret ?_
                    refine ⟨.inr rfl, rfl, ⟨_, rfl, rfl, ?_⟩, rfl⟩
                    exact AVle.of (congrArg (fun b => AV.d (boo b)) (by unfold isNodeX; dsimp only; rw [g1, g2, g3, g4, g5, g7, g8, g9]; rfl))
                  · skip
                    have g9 := h10
                    refine OW_run' hE.ok 5 rfl ?_
                    refine OW_end rfl ?_
                    refine CW_ret ?_
                    refine ⟨.inr rfl, rfl, ⟨_, rfl, rfl, ?_⟩, rfl⟩
                    exact AVle.of (congrArg (fun b => AV.d (boo b)) (by unfold isNodeX; dsimp only; rw [g1, g2, g3, g4, g5, g7, g8, g9]; rfl))
                · skip
                  have g8 := h9
                  refine OW_run' hE.ok 10 rfl ?_
                  refine OW_end rfl ?_
                  refine CW_ret ?_
                  refine ⟨.inr rfl, rfl, ⟨_, rfl, rfl, ?_⟩, rfl⟩
                  exact AVle.of (congrArg (fun b => AV.d (boo b)) (by unfold isNodeX; dsimp only; rw [g1, g2, g3, g4, g5, g7, g8]; rfl))
              · skip
                have g7 := h8
                refine CW_skip ?_
                refine CW_seq ?_
                refine CW_region ?_
                refine OW_run' hE.ok 3 rfl ?_
                refine OW_split' 68 rfl (fun h11 => ?_) (fun h11 => ?_)
                · skip
                  have g10 := h11
                  refine OW_run' hE.ok 4 rfl ?_
                  refine OW_end rfl ?_
                  refine CW_ret ?_
                  refine ⟨.inr rfl, rfl, ⟨_, rfl, rfl, ?_⟩, rfl⟩
                  exact AVle.of (congrArg (fun b => AV.d (boo b)) (by unfold isNodeX; dsimp only; rw [g1, g2, g3, g4, g5, g7, g10, hFD]; rfl))
                · skip
                  have g10 := h11
                  refine OW_run' hE.ok 4 rfl ?_
                  refine OW_end rfl ?_
                  refine CW_ret ?_
                  refine ⟨.inr rfl, rfl, ⟨_, rfl, rfl, ?_⟩, rfl⟩
                  exact AVle.of (congrArg (fun b => AV.d (boo b)) (by unfold isNodeX; dsimp only; rw [g1, g2, g3, g4, g5, g7, g10]; rfl))

theorem equalX (l r : List Exp) (k : Nat) (first cap : List D) (p : Exp → Exp → Bool) (hc : ∀ a ∈ l, ∀ b, Does Try.prog k (first.map .d ++ [.agg ((encX a).map .d), .agg ((encX b).map .d)] ++ cap.map .d) noHeap (.d (boo (p a b)))) : Does Try.prog 164 [.d (.sl 7 96 (l.map encX)), .d (.sl 7 96 (r.map encX)), .d (.fn (.func k) first cap)] noHeap (.d (boo (allSame p l r))) := by
  refine Does_of T_ok mixed (N := 32) Try.func164 rfl rfl rfl (by rfl) fun F n Z hE hF J => ?_
  refine CW_know (know_sl (d := 0) rfl) fun hlen => ?_
  rw [List.length_map] at hlen
  refine CW_seq ?_
  refine CW_region ?_
  refine OW_run' hE.ok 1 rfl ?_
  refine OW_end rfl ?_
  refine CW_seq ?_
  refine CW_seq ?_
  refine CW_region ?_
  refine OW_run' hE.ok 5 rfl ?_
  refine OW_end rfl ?_
  refine CW_cond _ rfl (fun h1 => ?_) (fun h1 => ?_)
  · skip
    have hne : l.length ≠ r.length := by have := h1; simp at this; omega
    refine CW_seq ?_
    refine CW_region ?_
    refine OW_run' hE.ok 1 rfl ?_
    refine OW_end rfl ?_
    refine CW_ret ?_
    refine ⟨.inr rfl, rfl, ⟨_, rfl, rfl, ?_⟩, rfl⟩
    exact AVle.of (congrArg (fun b => AV.d (boo b)) (by rw [allSame_len hne]))
  · skip
    have hll : l.length = r.length := by have := h1; simp at this; omega
    refine CW_skip ?_
    refine CW_seq ?_
    refine CW_seq ?_
    refine CW_region ?_
    refine OW_run' hE.ok 3 rfl ?_
    refine OW_end rfl ?_
    refine CW_block ?_
    refine CW_loop (σ := {i : Nat // i ≤ l.length ∧ ∀ j a b, j < i → l[j]? = some a → r[j]? = some b → p a b = true})
      (fun i => ⟨J, (sset (sset (sset (sset (sset (sset noSlots 0 (.d (.sl 7 96 (l.map encX)))) 1 (.d (.sl 7 96 (r.map encX)))) 2 (.d (.fn (.func k) first cap))) 15 (.d (.sl 7 96 (l.map encX)))) 16 (.d (.lit (.int .i64 l.length)))) 17 (.d (.lit (.int .i64 i.1)))), noHeap⟩) (fun i => l.length - i.1) ⟨0, Nat.zero_le _, by omega⟩ (LE_sh (slh_set (slh_set (slh_set (slh_set (slh_set (slh_set (slh_no _ _) rfl rfl) rfl rfl) rfl rfl) rfl rfl) (by show AV.d (.lit (.int .i64 ((l.map encX).length : Int))) = _; rw [List.length_map]) rfl) rfl rfl) (hlh_no _ _)) fun ⟨i, hi, hp⟩ => ?_
    refine CW_seq ?_
    refine CW_region ?_
    refine OW_run' hE.ok 1 rfl ?_
    refine OW_end rfl ?_
    refine CW_seq ?_
    refine CW_cond _ rfl (fun h2 => ?_) (fun h2 => ?_)
    · skip
      have hlt : i < l.length := by have := h2; simp at this; omega
      obtain ⟨a, ha⟩ : ∃ a, l[i]? = some a := ⟨_, List.getElem?_eq_getElem hlt⟩
      obtain ⟨b, hb⟩ : ∃ b, r[i]? = some b := ⟨_, List.getElem?_eq_getElem (by omega)⟩
      have hcall := hc a (List.mem_of_getElem? ha) b
      obtain ⟨o1, v1, c1, f1, k1, rfl⟩ := Exp.shape a
      obtain ⟨o2, v2, c2, f2, k2, rfl⟩ := Exp.shape b
      refine CW_skip ?_
      refine CW_seq ?_
      refine CW_block ?_
      refine CW_seq ?_
      refine CW_region ?_
      refine OW_run' hE.ok 1 rfl ?_
      refine OW_loc' hE (loc_indexAddr hE rfl rfl rfl rfl rfl (by omega) (x := encX (.mk o1 v1 c1 f1 k1)) (by simp [ha])) rfl rfl rfl ?_
      refine OW_run' hE.ok 1 rfl ?_
      refine OW_alloc' hE 1 rfl rfl rfl rfl rfl rfl rfl ?_
      refine OW_run' hE.ok 1 rfl ?_
      refine OW_store' hE rfl rfl rfl rfl rfl rfl rfl rfl rfl rfl rfl rfl ?_
      refine OW_end rfl ?_
      refine CW_seq ?_
      refine CW_region ?_
      refine OW_run' hE.ok 2 rfl ?_
      refine OW_loc' hE (loc_indexAddr hE rfl rfl rfl rfl rfl (by omega) (x := encX (.mk o2 v2 c2 f2 k2)) (by simp [hb])) rfl rfl rfl ?_
      refine OW_run' hE.ok 1 rfl ?_
      refine OW_alloc' hE 2 rfl rfl rfl rfl rfl rfl rfl ?_
      refine OW_store' hE rfl rfl rfl rfl rfl rfl rfl rfl rfl rfl rfl rfl ?_
      refine OW_end rfl ?_
      refine CW_seq ?_
      refine CW_region ?_
      refine OW_run' hE.ok 3 rfl ?_
      refine OW_call' hE (hcall) rfl rfl rfl rfl (kfs_fn rfl) rfl rfl ?_
      refine OW_run' hE.ok 1 rfl ?_
      refine OW_end rfl ?_
      refine CW_cond _ rfl (fun h3 => ?_) (fun h3 => ?_)
      · skip
        have hdiff : p (.mk o1 v1 c1 f1 k1) (.mk o2 v2 c2 f2 k2) = false := by simpa using h3
        refine CW_seq ?_
        refine CW_region ?_
        refine OW_run' hE.ok 1 rfl ?_
        refine OW_end rfl ?_
        refine CW_ret ?_
        refine ⟨.inr rfl, rfl, ⟨_, rfl, rfl, ?_⟩, rfl⟩
        exact AVle.of (congrArg (fun b => AV.d (boo b)) (by rw [allSame_ne ha hb hdiff]))
      · skip
        have hsame : p (.mk o1 v1 c1 f1 k1) (.mk o2 v2 c2 f2 k2) = true := by simpa using h3
        refine CW_skip ?_
        refine CW_region ?_
        refine OW_run' hE.ok 2 rfl ?_
        refine OW_end rfl ?_
        refine ⟨⟨i + 1, hlt, fun j x y hj hx hy => ?_⟩, LE_sh (slh_set (slh_set (slh_set (slh_set (slh_set (slh_set (slh_no _ _) rfl rfl) rfl rfl) rfl rfl) rfl rfl) rfl rfl) (by show AV.d (.lit (.int .i64 (IntKind.i64.wrap (↑i + 1)))) = _; rw [wrap_succ (by omega)]) rfl) (hlh_no _ _), by show l.length - (i + 1) < l.length - i; omega⟩
        by_cases hji : j = i
        · subst hji; rw [ha] at hx; rw [hb] at hy; cases hx; cases hy; exact hsame
        · exact hp j x y (by omega) hx hy
    · skip
      have hge : ¬ i < l.length := by have := h2; simp at this; omega
      refine CW_exit ?_
      show CW _ _ _ _
      refine CW_seq ?_
      refine CW_region ?_
      refine OW_run' hE.ok 1 rfl ?_
      refine OW_end rfl ?_
      refine CW_ret ?_
      refine ⟨.inr rfl, rfl, ⟨_, rfl, rfl, ?_⟩, rfl⟩
      exact AVle.of (congrArg (fun b => AV.d (boo b)) (by rw [allSame_all hll (fun j a b hj => hp j a b (by omega))]))

theorem sameStep (op : Int) (v : Vl) (al fi : ByteArray) (ks : List Exp) (o2 : Int) (v2 : Vl) (al2 fi2 : ByteArray) (ks2 : List Exp) (ih : ∀ a ∈ ks, ∀ b, Does Try.prog 148 [argX a, argX b] noHeap (.d (boo (sameX a b)))) : Does Try.prog 148 [argX (.mk op v al fi ks), argX (.mk o2 v2 al2 fi2 ks2)] noHeap (.d (boo (sameX (.mk op v al fi ks) (.mk o2 v2 al2 fi2 ks2)))) := by
  refine Does_of T_ok mixed (N := 38) Try.func148 rfl rfl rfl (by rfl) fun F n Z hE hF J => ?_
  have hcall := equalX ks ks2 148 [] [] sameX (fun a ha b => ih a ha b)
  rw [← encXs_eq, ← encXs_eq] at hcall
  refine CW_seq ?_
  refine CW_region ?_
  refine OW_run' hE.ok 3 rfl ?_
  refine OW_end rfl ?_
  refine CW_seq ?_
  refine CW_region ?_
  refine OW_run' hE.ok 6 rfl ?_
  refine OW_split' 10 rfl (fun h1 => ?_) (fun h1 => ?_)
  · skip
    refine OW_run' hE.ok 4 rfl ?_
    refine OW_loc' hE (loc_eql rfl rfl rfl (r := sameV v v2) (eqLaw_flat T_ok (t := 61) rfl (by decide +kernel) rfl (X := encV v) (Y := encV v2) rfl rfl rfl)) rfl rfl rfl ?_
    refine OW_run' hE.ok 2 rfl ?_
    refine OW_split' 17 rfl (fun h2 => ?_) (fun h2 => ?_)
    · skip
      refine OW_run' hE.ok 7 rfl ?_
      refine OW_split' 24 rfl (fun h3 => ?_) (fun h3 => ?_)
      · skip
        refine OW_run' hE.ok 7 rfl ?_
        refine OW_split' 31 rfl (fun h4 => ?_) (fun h4 => ?_)
        · skip
          refine OW_run' hE.ok 4 rfl ?_
          refine OW_call' hE (hcall) rfl rfl rfl rfl rfl rfl rfl ?_
          refine OW_run' hE.ok 2 rfl ?_
          refine OW_end rfl ?_
          refine CW_ret ?_
          refine ⟨.inr rfl, rfl, ⟨_, rfl, rfl, ?_⟩, rfl⟩
          exact AVle.of (congrArg (fun b => AV.d (boo b)) (by unfold sameX; simp_all [same, sameXs_eq]))
        · skip
          refine OW_run' hE.ok 7 rfl ?_
          refine OW_end rfl ?_
          refine CW_ret ?_
          refine ⟨.inr rfl, rfl, ⟨_, rfl, rfl, ?_⟩, rfl⟩
          exact AVle.of (congrArg (fun b => AV.d (boo b)) (by unfold sameX; simp_all [same, sameXs_eq]))
      · skip
        refine OW_run' hE.ok 14 rfl ?_
        refine OW_end rfl ?_
        refine CW_ret ?_
        refine ⟨.inr rfl, rfl, ⟨_, rfl, rfl, ?_⟩, rfl⟩
        exact AVle.of (congrArg (fun b => AV.d (boo b)) (by unfold sameX; simp_all [same, sameXs_eq]))
    · skip
      refine OW_run' hE.ok 21 rfl ?_
      refine OW_end rfl ?_
      refine CW_ret ?_
      refine ⟨.inr rfl, rfl, ⟨_, rfl, rfl, ?_⟩, rfl⟩
      exact AVle.of (congrArg (fun b => AV.d (boo b)) (by unfold sameX; simp_all [same, sameXs_eq]))
  · skip
    refine OW_run' hE.ok 28 rfl ?_
    refine OW_end rfl ?_
    refine CW_ret ?_
    refine ⟨.inr rfl, rfl, ⟨_, rfl, rfl, ?_⟩, rfl⟩
    exact AVle.of (congrArg (fun b => AV.d (boo b)) (by unfold sameX; simp_all [same, sameXs_eq]))

theorem sameAll : ∀ (n : Nat) (x : Exp), SizeOf.sizeOf x < n → ∀ y : Exp, Does Try.prog 148 [argX x, argX y] noHeap (.d (boo (sameX x y)))
  | 0, x, h => by omega
  | n + 1, .mk op v al fi ks, h => fun | .mk o2 v2 al2 fi2 ks2 => sameStep op v al fi ks o2 v2 al2 fi2 ks2 fun k hk => sameAll n k (by have := List.sizeOf_lt_of_mem hk; simp at h; omega)
theorem sameXOk (x y : Exp) : Does Try.prog 148 [argX x, argX y] noHeap (.d (boo (sameX x y))) := sameAll _ x (Nat.lt_succ_self _) y
end Go.Proofs.Ytojnicnbmgiplaa
namespace Go.Proofs.Ytojnicnbmgiplaa
open Go Go.AL
set_option linter.unusedVariables false
set_option linter.unusedSimpArgs false
set_option maxHeartbeats 4000000
theorem isXOk (x : Exp) : Does Try.prog 165 [argX x] noHeap (.d (boo (isX x))) := by
  refine Does_of T_ok mixed (N := 22) Try.func165 rfl rfl rfl (by rfl) fun F n Z hE hF J => ?_
  have hI := nodesIt x
  have hd := depthXOk x
  obtain ⟨nx, hnx⟩ : ∃ nx, nodesX x 1 = nx := ⟨_, rfl⟩
  rw [hnx] at hI
  obtain ⟨dx, hdx⟩ : ∃ dx, depthX x 1 = dx := ⟨_, rfl⟩
  rw [hdx] at hd
  have hisx : isX x = (decide (dx ≤ 5) && (decide (nx.length ≤ 24) && (nx.all isNodeX && decide (0 < nx.length)))) := by unfold isX; rw [hnx, hdx]
  rw [hisx]
  clear hisx hnx hdx
  obtain ⟨op, v, al, fi, ks, rfl⟩ := Exp.shape x
  refine CW_seq ?_
  refine CW_region ?_
  refine OW_run' hE.ok 1 rfl ?_
  refine OW_alloc' hE 1 rfl rfl rfl rfl rfl rfl rfl ?_
  refine OW_end rfl ?_
  refine CW_seq ?_
  refine CW_seq ?_
  refine CW_region ?_
  refine OW_run' hE.ok 1 rfl ?_
  refine OW_call' hE (hd) rfl rfl rfl rfl rfl rfl rfl ?_
  refine OW_run' hE.ok 1 rfl ?_
  refine OW_end rfl ?_
  refine CW_cond _ rfl (fun h1 => ?_) (fun h1 => ?_)
  · skip
    have hdeep : decide (dx ≤ 5) = false := by have := h1; simp at this ⊢; omega
    refine CW_seq ?_
    refine CW_region ?_
    refine OW_store' hE rfl rfl rfl rfl rfl rfl rfl rfl rfl rfl rfl rfl ?_
    refine OW_end rfl ?_
    refine CW_ret ?_
    refine ⟨.inr rfl, rfl, ⟨_, rfl, rfl, ?_⟩, rfl⟩
    exact AVle.of (congrArg (fun b => AV.d (boo b)) (by rw [hdeep]; rfl))
  · skip
    have hdeep : decide (dx ≤ 5) = true := by have := h1; simp at this ⊢; omega
    refine CW_skip ?_
    refine CW_seq ?_
    refine CW_region ?_
    refine OW_alloc' hE 2 rfl rfl rfl rfl rfl rfl rfl ?_
    refine OW_store' hE rfl rfl rfl rfl rfl rfl rfl rfl rfl rfl rfl rfl ?_
    refine OW_end rfl ?_
    refine CW_seq ?_
    refine CW_seq ?_
    rw [hset_hset]
    refine CW_region ?_
    refine OW_run' hE.ok 1 rfl ?_
    refine OW_call' hE (nodesFn (.mk op v al fi ks) 1) rfl rfl rfl rfl rfl rfl rfl ?_
    refine OW_end rfl ?_
    refine CW_block ?_
    refine CW_rangeH hE hF hI rfl rfl rfl (ysX_kf nx) rfl 9 (fun i => (hset (hset noHeap 1 (some (.box 4 [.d (boo false)]))) 2 (some (.box 3 [.d (int ((i : Nat) : Int))]))))
      (fun i => i ≤ 24 ∧ ∀ j y, j < i → nx[j]? = some y → isNodeX y = true) rfl (fun _ => rfl) ⟨by omega, fun j y hj => by omega⟩ (fun F' n' Z' Br Bb hE hB vs i args hargs hp => ?_) (fun hp vs => ?_)
    · skip
      obtain ⟨y, hy2, rfl⟩ := ysX_of hargs
      have hil : i < nx.length := (List.getElem?_eq_some_iff.1 hy2).1
      have hnode := isNodeOk y
      obtain ⟨nd, hnd⟩ : ∃ nd, isNodeX y = nd := ⟨_, rfl⟩
      rw [hnd] at hnode
      obtain ⟨o2, v2, c2, f2, k2, rfl⟩ := Exp.shape y
      refine CW_region ?_
      refine OW_alloc' hE 3 rfl rfl rfl rfl rfl rfl rfl ?_
      refine OW_store' hE rfl rfl rfl rfl rfl rfl rfl rfl rfl rfl rfl rfl ?_
      refine OW_end rfl ?_
      refine ⟨rfl, rfl, ?_⟩
      refine CW_block ?_
      refine CW_seq ?_
      refine CW_region ?_
      refine OW_run' hE.ok 1 rfl ?_
      refine OW_run' hE.ok 1 rfl ?_
      refine OW_store' hE rfl rfl rfl rfl rfl rfl rfl rfl rfl rfl rfl rfl ?_
      refine OW_end rfl ?_
      refine CW_seq ?_
      refine CW_region ?_
      refine OW_run' hE.ok 3 rfl ?_
      refine OW_split' 15 rfl (fun h2 => ?_) (fun h2 => ?_)
      · skip
        have hbad : (decide (nx.length ≤ 24) && (nx.all isNodeX && decide (0 < nx.length))) = false := by have h24 := h2; have : decide (nx.length ≤ 24) = false := big24 hil h24; rw [this]; rfl
        refine OW_run' hE.ok 4 rfl ?_
        refine OW_end rfl ?_
        refine CW_true rfl ?_
        refine CW_seq ?_
        refine CW_region ?_
        refine OW_store' hE rfl rfl rfl rfl rfl rfl rfl rfl rfl rfl rfl rfl ?_
        refine OW_end rfl ?_
        refine CW_ret ⟨_, LE.refl _ _, J, _, fun h => h, rfl, rfl, ?_⟩
        refine ⟨.inr rfl, rfl, ⟨_, rfl, rfl, ?_⟩, rfl⟩
        exact AVle.of (congrArg (fun b => AV.d (boo b)) (by rw [hbad]; simp))
      · skip
        have h24 := lt24 (show i ≤ 24 from hp.1) h2
        refine OW_run' hE.ok 1 rfl ?_
        refine OW_call' hE (hnode) rfl rfl rfl rfl rfl rfl rfl ?_
        refine OW_run' hE.ok 2 rfl ?_
        refine OW_end rfl ?_
        refine CW_cond _ rfl (fun h3 => ?_) (fun h3 => ?_)
        · skip
          have hbad : (decide (nx.length ≤ 24) && (nx.all isNodeX && decide (0 < nx.length))) = false := by have : nx.all isNodeX = false := (by rw [List.all_eq_false]; exact ⟨_, List.mem_of_getElem? hy2, by rw [hnd]; have := h3; simpa using this⟩); rw [this]; simp
          refine CW_seq ?_
          refine CW_region ?_
          refine OW_store' hE rfl rfl rfl rfl rfl rfl rfl rfl rfl rfl rfl rfl ?_
          refine OW_end rfl ?_
          refine CW_ret ⟨_, LE.refl _ _, J, _, fun h => h, rfl, rfl, ?_⟩
          refine ⟨.inr rfl, rfl, ⟨_, rfl, rfl, ?_⟩, rfl⟩
          exact AVle.of (congrArg (fun b => AV.d (boo b)) (by rw [hbad]; simp))
        · skip
          have hgood : nd = true := by have := h3; simpa using this
          refine CW_skip ?_
          refine ⟨⟨Bb J, noSlots, (hset (hset (hset noHeap 1 (some (.box 4 [.d (boo false)]))) 2 (some (.box 3 [.d (int (((i + 1) : Nat) : Int))]))) 9 (some (.ghost _ vs)))⟩, LE_sh (slh_no _ _) (hlh_set (hlh_set (hlh_set (hlh_no _ _) rfl rfl) (congrArg (fun z : Int => some (Ent.box 3 [.d (int z)])) (by show IntKind.i64.wrap ((i : Int) + 1) = _; rw [wrap_succ (by omega)])) rfl) rfl rfl), J, rfl, rfl, rfl, by omega, fun j z hj hz => ?_⟩
          by_cases hji : j = i
          · subst hji; rw [hy2] at hz; cases hz; rw [hnd]; exact hgood
          · exact hp.2 j z (by omega) hz
    · skip
      rw [ysX_length] at hp
      have hall : nx.all isNodeX = true := all_of fun j y hj hy => hp.2 j y hj hy
      refine CW_seq ?_
      refine CW_region ?_
      refine OW_run' hE.ok 2 rfl ?_
      refine OW_store' hE rfl rfl rfl rfl rfl rfl rfl rfl rfl rfl rfl rfl ?_
      refine OW_end rfl ?_
      refine CW_ret ?_
      refine ⟨.inr rfl, rfl, ⟨_, rfl, rfl, ?_⟩, rfl⟩
      exact AVle.of (congrArg (fun b => AV.d (boo b)) (by rw [hdeep, hall, decide_eq_true hp.1, ysX_length]; simp))
end Go.Proofs.Ytojnicnbmgiplaa
namespace Go.Proofs.Ytojnicnbmgiplaa
open Go Go.AL
set_option linter.unusedVariables false
set_option linter.unusedSimpArgs false
set_option maxHeartbeats 4000000
theorem find1 (t : Ty) (nm : ByteArray) : Does Try.prog 91 [argT t, .d (.iptr [str nm])] noHeap (.d (boo (same t.name nm))) := by
  refine Does_of T_ok mixed (N := 8) Try.func91 rfl rfl rfl (by rfl) fun F n Z hE hF J => ?_
  refine CW_seq ?_
  refine CW_region ?_
  refine OW_run' hE.ok 2 rfl ?_
  refine OW_end rfl ?_
  refine CW_seq ?_
  refine CW_region ?_
  refine OW_run' hE.ok 5 rfl ?_
  refine OW_end rfl ?_
  refine CW_ret ?_
  refine ⟨.inr rfl, rfl, ⟨_, rfl, rfl, ?_⟩, rfl⟩
  exact AVle.refl _

theorem field1 (f : Fld) (nm : ByteArray) : Does Try.prog 168 [argF f, .d (.iptr [str nm])] noHeap (.d (boo (same f.name nm))) := by
  refine Does_of T_ok mixed (N := 8) Try.func168 rfl rfl rfl (by rfl) fun F n Z hE hF J => ?_
  refine CW_seq ?_
  refine CW_region ?_
  refine OW_run' hE.ok 2 rfl ?_
  refine OW_end rfl ?_
  refine CW_seq ?_
  refine CW_region ?_
  refine OW_run' hE.ok 5 rfl ?_
  refine OW_end rfl ?_
  refine CW_ret ?_
  refine ⟨.inr rfl, rfl, ⟨_, rfl, rfl, ?_⟩, rfl⟩
  exact AVle.refl _

theorem indexT (l : List Ty) (k : Nat) (first cap : List D) (p : Ty → Bool) (hc : ∀ a ∈ l, Does Try.prog k (first.map .d ++ [.agg ((encT a).map .d)] ++ cap.map .d) noHeap (.d (boo (p a)))) : Does Try.prog 90 [.d (.sl 2 40 (l.map encT)), .d (.fn (.func k) first cap)] noHeap (.d (int (idx p l))) := by
  refine Does_of T_ok mixed (N := 19) Try.func90 rfl rfl rfl (by rfl) fun F n Z hE hF J => ?_
  refine CW_know (know_sl (d := 0) rfl) fun hlen => ?_
  rw [List.length_map] at hlen
  refine CW_seq ?_
  refine CW_region ?_
  refine OW_run' hE.ok 1 rfl ?_
  refine OW_end rfl ?_
  refine CW_seq ?_
  refine CW_seq ?_
  refine CW_region ?_
  refine OW_run' hE.ok 3 rfl ?_
  refine OW_end rfl ?_
  refine CW_block ?_
  refine CW_loop (σ := {i : Nat // i ≤ l.length ∧ ∀ j a, j < i → l[j]? = some a → p a = false})
    (fun i => ⟨J, (sset (sset (sset (sset noSlots 0 (.d (.sl 2 40 (l.map encT)))) 1 (.d (.fn (.func k) first cap))) 7 (.d (.lit (.int .i64 l.length)))) 8 (.d (.lit (.int .i64 i.1)))), noHeap⟩) (fun i => l.length - i.1) ⟨0, Nat.zero_le _, by omega⟩ (LE_s (sle_set (sle_set (sle_set (sle_set (sle_no _) rfl) rfl) (by show AV.d (.lit (.int .i64 ((l.map encT).length : Int))) = _; rw [List.length_map])) rfl)) fun ⟨i, hi, hp⟩ => ?_
  refine CW_seq ?_
  refine CW_region ?_
  refine OW_run' hE.ok 1 rfl ?_
  refine OW_end rfl ?_
  refine CW_seq ?_
  refine CW_cond _ rfl (fun h1 => ?_) (fun h1 => ?_)
  · skip
    have hlt : i < l.length := by have := h1; simp at this; omega
    obtain ⟨a, ha⟩ : ∃ a, l[i]? = some a := ⟨_, List.getElem?_eq_getElem hlt⟩
    have hcall := hc a (List.mem_of_getElem? ha)
    refine CW_skip ?_
    refine CW_seq ?_
    refine CW_block ?_
    refine CW_seq ?_
    refine CW_region ?_
    refine OW_run' hE.ok 2 rfl ?_
    refine OW_end rfl ?_
    refine CW_seq ?_
    refine CW_region ?_
    refine OW_run' hE.ok 3 rfl ?_
    refine OW_loc' hE (loc_indexAddr hE rfl rfl rfl rfl rfl (by omega) (x := encT a) (by simp [ha])) rfl rfl rfl ?_
    refine OW_run' hE.ok 1 rfl ?_
    refine OW_call' hE (hcall) rfl rfl rfl rfl (kfs_fn rfl) rfl rfl ?_
    refine OW_end rfl ?_
    refine CW_cond _ rfl (fun h2 => ?_) (fun h2 => ?_)
    · skip
      refine CW_seq ?_
      refine CW_region ?_
      refine OW_run' hE.ok 2 rfl ?_
      refine OW_end rfl ?_
      refine CW_ret ?_
      refine ⟨.inr rfl, rfl, ⟨_, rfl, rfl, ?_⟩, rfl⟩
      rw [idx_some ha h2 hp]
      exact AVle.refl _
    · skip
      refine CW_skip ?_
      refine CW_region ?_
      refine OW_run' hE.ok 2 rfl ?_
      refine OW_end rfl ?_
      refine ⟨⟨i + 1, hlt, fun j b hj hb => ?_⟩, LE_s (sle_set (sle_set (sle_set (sle_set (sle_no _) rfl) rfl) rfl) (by show AV.d (.lit (.int .i64 (IntKind.i64.wrap (↑i + 1)))) = _; rw [wrap_succ (by omega)])), by show l.length - (i + 1) < l.length - i; omega⟩
      by_cases hji : j = i
      · subst hji; rw [ha] at hb; cases hb; exact h2
      · exact hp j b (by omega) hb
  · skip
    have hge : ¬ i < l.length := by have := h1; simp at this; omega
    refine CW_exit ?_
    show CW _ _ _ _
    refine CW_seq ?_
    refine CW_region ?_
    refine OW_run' hE.ok 1 rfl ?_
    refine OW_end rfl ?_
    refine CW_ret ?_
    refine ⟨.inr rfl, rfl, ⟨_, rfl, rfl, ?_⟩, rfl⟩
    rw [idx_none (fun j b hj => hp j b (by omega))]
    exact AVle.refl _

theorem indexF (l : List Fld) (k : Nat) (first cap : List D) (p : Fld → Bool) (hc : ∀ a ∈ l, Does Try.prog k (first.map .d ++ [.agg ((encF a).map .d)] ++ cap.map .d) noHeap (.d (boo (p a)))) : Does Try.prog 167 [.d (.sl 2 24 (l.map encF)), .d (.fn (.func k) first cap)] noHeap (.d (int (idx p l))) := by
  refine Does_of T_ok mixed (N := 19) Try.func167 rfl rfl rfl (by rfl) fun F n Z hE hF J => ?_
  refine CW_know (know_sl (d := 0) rfl) fun hlen => ?_
  rw [List.length_map] at hlen
  refine CW_seq ?_
  refine CW_region ?_
  refine OW_run' hE.ok 1 rfl ?_
  refine OW_end rfl ?_
  refine CW_seq ?_
  refine CW_seq ?_
  refine CW_region ?_
  refine OW_run' hE.ok 3 rfl ?_
  refine OW_end rfl ?_
  refine CW_block ?_
  refine CW_loop (σ := {i : Nat // i ≤ l.length ∧ ∀ j a, j < i → l[j]? = some a → p a = false})
    (fun i => ⟨J, (sset (sset (sset (sset noSlots 0 (.d (.sl 2 24 (l.map encF)))) 1 (.d (.fn (.func k) first cap))) 7 (.d (.lit (.int .i64 l.length)))) 8 (.d (.lit (.int .i64 i.1)))), noHeap⟩) (fun i => l.length - i.1) ⟨0, Nat.zero_le _, by omega⟩ (LE_s (sle_set (sle_set (sle_set (sle_set (sle_no _) rfl) rfl) (by show AV.d (.lit (.int .i64 ((l.map encF).length : Int))) = _; rw [List.length_map])) rfl)) fun ⟨i, hi, hp⟩ => ?_
  refine CW_seq ?_
  refine CW_region ?_
  refine OW_run' hE.ok 1 rfl ?_
  refine OW_end rfl ?_
  refine CW_seq ?_
  refine CW_cond _ rfl (fun h1 => ?_) (fun h1 => ?_)
  · skip
    have hlt : i < l.length := by have := h1; simp at this; omega
    obtain ⟨a, ha⟩ : ∃ a, l[i]? = some a := ⟨_, List.getElem?_eq_getElem hlt⟩
    have hcall := hc a (List.mem_of_getElem? ha)
    refine CW_skip ?_
    refine CW_seq ?_
    refine CW_block ?_
    refine CW_seq ?_
    refine CW_region ?_
    refine OW_run' hE.ok 2 rfl ?_
    refine OW_end rfl ?_
    refine CW_seq ?_
    refine CW_region ?_
    refine OW_run' hE.ok 3 rfl ?_
    refine OW_loc' hE (loc_indexAddr hE rfl rfl rfl rfl rfl (by omega) (x := encF a) (by simp [ha])) rfl rfl rfl ?_
    refine OW_run' hE.ok 1 rfl ?_
    refine OW_call' hE (hcall) rfl rfl rfl rfl (kfs_fn rfl) rfl rfl ?_
    refine OW_end rfl ?_
    refine CW_cond _ rfl (fun h2 => ?_) (fun h2 => ?_)
    · skip
      refine CW_seq ?_
      refine CW_region ?_
      refine OW_run' hE.ok 2 rfl ?_
      refine OW_end rfl ?_
      refine CW_ret ?_
      refine ⟨.inr rfl, rfl, ⟨_, rfl, rfl, ?_⟩, rfl⟩
      rw [idx_some ha h2 hp]
      exact AVle.refl _
    · skip
      refine CW_skip ?_
      refine CW_region ?_
      refine OW_run' hE.ok 2 rfl ?_
      refine OW_end rfl ?_
      refine ⟨⟨i + 1, hlt, fun j b hj hb => ?_⟩, LE_s (sle_set (sle_set (sle_set (sle_set (sle_no _) rfl) rfl) rfl) (by show AV.d (.lit (.int .i64 (IntKind.i64.wrap (↑i + 1)))) = _; rw [wrap_succ (by omega)])), by show l.length - (i + 1) < l.length - i; omega⟩
      by_cases hji : j = i
      · subst hji; rw [ha] at hb; cases hb; exact h2
      · exact hp j b (by omega) hb
  · skip
    have hge : ¬ i < l.length := by have := h1; simp at this; omega
    refine CW_exit ?_
    show CW _ _ _ _
    refine CW_seq ?_
    refine CW_region ?_
    refine OW_run' hE.ok 1 rfl ?_
    refine OW_end rfl ?_
    refine CW_ret ?_
    refine ⟨.inr rfl, rfl, ⟨_, rfl, rfl, ?_⟩, rfl⟩
    rw [idx_none (fun j b hj => hp j b (by omega))]
    exact AVle.refl _

theorem fieldOk (t : Ty) (nm : ByteArray) : Does Try.prog 151 [argT t, .d (str nm)] noHeap (.d (int (fieldAt t nm))) := by
  refine Does_of T_ok mixed (N := 9) Try.func151 rfl rfl rfl (by rfl) fun F n Z hE hF J => ?_
  refine CW_seq ?_
  refine CW_region ?_
  refine OW_run' hE.ok 3 rfl ?_
  refine OW_end rfl ?_
  refine CW_seq ?_
  refine CW_region ?_
  refine OW_run' hE.ok 3 rfl ?_
  refine OW_call' hE (indexF t.fields 168 [] [.iptr [str nm]] (fun f => same f.name nm) (fun a _ => field1 a nm)) rfl rfl rfl rfl rfl rfl rfl ?_
  refine OW_run' hE.ok 1 rfl ?_
  refine OW_end rfl ?_
  refine CW_ret ?_
  refine ⟨.inr rfl, rfl, ⟨_, rfl, rfl, ?_⟩, rfl⟩
  exact AVle.refl _

theorem findOk (s : List Ty) (nm : ByteArray) : Does Try.prog 54 [argS s, .d (str nm)] noHeap (.tup [argT (findT s nm).1, .d (boo (findT s nm).2)]) := by
  refine Does_of T_ok mixed (N := 19) Try.func54 rfl rfl rfl (by rfl) fun F n Z hE hF J => ?_
  refine CW_seq ?_
  refine CW_region ?_
  refine OW_run' hE.ok 2 rfl ?_
  refine OW_alloc' hE 1 rfl rfl rfl rfl rfl rfl rfl ?_
  refine OW_run' hE.ok 1 rfl ?_
  refine OW_end rfl ?_
  refine CW_seq ?_
  refine CW_region ?_
  refine OW_run' hE.ok 3 rfl ?_
  refine OW_call' hE (indexT s 91 [] [.iptr [str nm]] (fun t => same t.name nm) (fun a _ => find1 a nm)) rfl rfl rfl rfl rfl rfl rfl ?_
  refine OW_run' hE.ok 1 rfl ?_
  refine OW_end rfl ?_
  refine CW_seq ?_
  refine CW_seq ?_
  refine CW_region ?_
  refine OW_run' hE.ok 2 rfl ?_
  refine OW_end rfl ?_
  refine CW_cond _ rfl (fun h1 => ?_) (fun h1 => ?_)
  · skip
    have hn := find_neg h1
    refine CW_seq ?_
    refine CW_region ?_
    refine OW_build' hE rfl rfl rfl rfl rfl ?_
    refine OW_store' hE rfl rfl rfl rfl rfl rfl rfl rfl rfl rfl rfl rfl ?_
    refine OW_run' hE.ok 1 rfl ?_
    refine OW_end rfl ?_
    refine CW_ret ?_
    refine ⟨.inr rfl, rfl, ⟨_, rfl, rfl, ?_⟩, rfl⟩
    rw [hn]
    exact AVle.tup (.cons (.agg (.cons (.refl _) (.cons (.nilSl 2 24) .nil))) (.cons (.refl _) .nil))
  · skip
    obtain ⟨i, a, hi, ha, hr⟩ := find_pos h1
    refine CW_skip ?_
    refine CW_seq ?_
    refine CW_as' 6 (.d (int (i : Nat))) (congrArg (fun z => AV.d (int z)) hi) ?_
    refine CW_region ?_
    refine OW_run' hE.ok 3 rfl ?_
    refine OW_loc' hE (loc_indexAddr hE rfl rfl rfl rfl rfl (by omega) (x := encT a) (by simp [ha])) rfl rfl rfl ?_
    refine OW_run' hE.ok 1 rfl ?_
    refine OW_store' hE rfl rfl rfl rfl rfl rfl rfl rfl rfl rfl rfl rfl ?_
    refine OW_run' hE.ok 1 rfl ?_
    refine OW_end rfl ?_
    refine CW_ret ?_
    refine ⟨.inr rfl, rfl, ⟨_, rfl, rfl, ?_⟩, rfl⟩
    rw [hr]
    exact AVle.refl _

theorem getOk (s : List Ty) (e : Ev) (nm : ByteArray) : Does Try.prog 121 [argS s, argE e, .d (str nm)] noHeap (.tup [argV (getV s e nm).1, .d (boo (getV s e nm).2)]) := by
  refine Does_of T_ok mixed (N := 40) Try.func121 rfl rfl rfl (by rfl) fun F n Z hE hF J => ?_
  obtain ⟨t, th⟩ : ∃ t, findT s e.ty = t := ⟨_, rfl⟩
  refine CW_seq ?_
  refine CW_region ?_
  refine OW_run' hE.ok 2 rfl ?_
  refine OW_alloc' hE 1 rfl rfl rfl rfl rfl rfl rfl ?_
  refine OW_run' hE.ok 1 rfl ?_
  refine OW_end rfl ?_
  refine CW_seq ?_
  refine CW_region ?_
  refine OW_run' hE.ok 3 rfl ?_
  refine OW_call' hE (findOk _ _) rfl rfl rfl rfl rfl rfl rfl ?_
  refine OW_run' hE.ok 3 rfl ?_
  refine OW_alloc' hE 2 rfl rfl rfl rfl rfl rfl rfl ?_
  refine OW_store' hE rfl rfl rfl rfl rfl rfl rfl rfl rfl rfl rfl rfl ?_
  refine OW_run' hE.ok 1 rfl ?_
  refine OW_end rfl ?_
  refine CW_seq ?_
  refine CW_region ?_
  refine OW_run' hE.ok 2 rfl ?_
  refine OW_call' hE (fieldOk _ _) rfl rfl rfl rfl rfl rfl rfl ?_
  refine OW_run' hE.ok 1 rfl ?_
  refine OW_end rfl ?_
  refine CW_seq ?_
  refine CW_seq ?_
  refine CW_region ?_
  refine OW_run' hE.ok 3 rfl ?_
  refine OW_split' 23 rfl (fun h1 => ?_) (fun h1 => ?_)
  · skip
    have hn : getV s e nm = (⟨0, 0, nul⟩, false) := getV_no (by have := h1; simp_all)
    refine OW_run' hE.ok 10 rfl ?_
    refine OW_end rfl ?_
    refine CW_true rfl ?_
    refine CW_seq ?_
    refine CW_region ?_
    refine OW_build' hE rfl rfl rfl rfl rfl ?_
    refine OW_store' hE rfl rfl rfl rfl rfl rfl rfl rfl rfl rfl rfl rfl ?_
    refine OW_run' hE.ok 1 rfl ?_
    refine OW_end rfl ?_
    refine CW_ret ?_
    refine ⟨.inr rfl, rfl, ⟨_, rfl, rfl, ?_⟩, rfl⟩
    rw [hn]
    exact AVle.refl _
  · skip
    have g1 : (findT s e.ty).2 = true := by simpa using h1
    refine OW_run' hE.ok 4 rfl ?_
    refine OW_split' 27 rfl (fun h2 => ?_) (fun h2 => ?_)
    · skip
      have hn : getV s e nm = (⟨0, 0, nul⟩, false) := getV_no (by have := h2; simp_all)
      refine OW_run' hE.ok 6 rfl ?_
      refine OW_end rfl ?_
      refine CW_true rfl ?_
      refine CW_seq ?_
      refine CW_region ?_
      refine OW_build' hE rfl rfl rfl rfl rfl ?_
      refine OW_store' hE rfl rfl rfl rfl rfl rfl rfl rfl rfl rfl rfl rfl ?_
      refine OW_run' hE.ok 1 rfl ?_
      refine OW_end rfl ?_
      refine CW_ret ?_
      refine ⟨.inr rfl, rfl, ⟨_, rfl, rfl, ?_⟩, rfl⟩
      rw [hn]
      exact AVle.refl _
    · skip
      have g2 := h2
      refine OW_run' hE.ok 6 rfl ?_
      refine OW_end rfl ?_
      refine CW_cond _ rfl (fun h3 => ?_) (fun h3 => ?_)
      · skip
        have hn : getV s e nm = (⟨0, 0, nul⟩, false) := getV_no (by have := h3; simp_all)
        refine CW_seq ?_
        refine CW_region ?_
        refine OW_build' hE rfl rfl rfl rfl rfl ?_
        refine OW_store' hE rfl rfl rfl rfl rfl rfl rfl rfl rfl rfl rfl rfl ?_
        refine OW_run' hE.ok 1 rfl ?_
        refine OW_end rfl ?_
        refine CW_ret ?_
        refine ⟨.inr rfl, rfl, ⟨_, rfl, rfl, ?_⟩, rfl⟩
        rw [hn]
        exact AVle.refl _
      · skip
        obtain ⟨i, v, hi, hv, hg⟩ := getV_in (s := s) (e := e) (nm := nm) g1 g2 (by have := h3; rw [List.length_map] at this; exact this)
        refine CW_skip ?_
        refine CW_seq ?_
        refine CW_region ?_
        refine OW_run' hE.ok 3 rfl ?_
        refine OW_as' 37 (.d (int (i : Nat))) (congrArg (fun z => AV.d (int z)) hi) ?_
        refine OW_loc' hE (loc_indexAddr hE rfl rfl rfl rfl rfl (by omega) (x := encV v) (by simp [hv])) rfl rfl rfl ?_
        refine OW_run' hE.ok 1 rfl ?_
        refine OW_store' hE rfl rfl rfl rfl rfl rfl rfl rfl rfl rfl rfl rfl ?_
        refine OW_run' hE.ok 1 rfl ?_
        refine OW_end rfl ?_
        refine CW_ret ?_
        refine ⟨.inr rfl, rfl, ⟨_, rfl, rfl, ?_⟩, rfl⟩
        rw [hg]
        exact AVle.refl _
end Go.Proofs.Ytojnicnbmgiplaa
