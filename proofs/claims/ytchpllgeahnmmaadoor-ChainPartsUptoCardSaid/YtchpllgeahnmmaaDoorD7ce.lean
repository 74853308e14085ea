/- Parts of an abstract logic over the kit's walks, and walks in it: D7ce. -/
import Derived.Test.YtchpllgeahnmmaaDoorD7cb
import Derived.Test.YtchpllgeahnmmaaDoorD7m
import Derived.Test.YtchpllgeahnmmaaDoorCh
import Derived.Test.YtchpllgeahnmmaaDoorAf
namespace Go.Proofs.YtchpllgeahnmmaaDoor
open Go Go.AL
set_option linter.unusedVariables false
set_option linter.unusedSimpArgs false
set_option maxHeartbeats 4000000
theorem nowD (ss : List (List Ty)) (cs : List Chg) : Does Tryd.prog 32 [argCh ss cs] noHeap (.d (int ((cs.length : Nat) : Int))) := by
  refine Does_of T_ok mixed (N := 8) Tryd.func32 rfl rfl rfl (by rfl) fun F n Z hE hF J => ?_
  refine CW_seq ?_
  refine CW_region ?_
  refine OW_run' hE.ok 1 rfl ?_
  refine OW_end rfl ?_
  refine CW_seq ?_
  refine CW_region ?_
  refine OW_run' hE.ok 5 rfl ?_
  refine OW_as' 7 (.d (int ((cs.length : Nat) : Int))) (by show AV.d (.lit (.int .i64 ((cs.map encC).length : Int))) = _; rw [List.length_map]; rfl) ?_
  refine OW_run' hE.ok 1 rfl ?_
  refine OW_end rfl ?_
  refine CW_ret ?_
  refine ⟨.inr rfl, rfl, ⟨_, rfl, rfl, ?_⟩, rfl⟩
  exact AVle.refl _

theorem isD (ss : List (List Ty)) (cs : List Chg) (i : Int) : Does Tryd.prog 67 [argCh ss cs, .d (int i)] noHeap (.d (boo (isIn cs i))) := by
  refine Does_of T_ok mixed (N := 13) Tryd.func67 rfl rfl rfl (by rfl) fun F n Z hE hF J => ?_
  refine CW_seq ?_
  refine CW_region ?_
  refine OW_run' hE.ok 1 rfl ?_
  refine OW_end rfl ?_
  refine CW_seq ?_
  refine CW_region ?_
  refine OW_run' hE.ok 3 rfl ?_
  refine OW_split' 7 rfl (fun h1 => ?_) (fun h1 => ?_)
  · skip
    have g1 : decide (i ≥ 0) = true := h1
    refine OW_run' hE.ok 2 rfl ?_
    refine OW_call' hE (nowD ss cs) rfl rfl rfl rfl rfl rfl rfl ?_
    refine OW_run' hE.ok 3 rfl ?_
    refine OW_end rfl ?_
    refine CW_ret ?_
    refine ⟨.inr rfl, rfl, ⟨_, rfl, rfl, ?_⟩, rfl⟩
    exact AVle.of (congrArg (fun b => AV.d (boo b)) (by unfold isIn; rw [g1]; rfl))
  · skip
    have g1 : decide (i ≥ 0) = false := h1
    refine OW_run' hE.ok 6 rfl ?_
    refine OW_end rfl ?_
    refine CW_ret ?_
    refine ⟨.inr rfl, rfl, ⟨_, rfl, rfl, ?_⟩, rfl⟩
    exact AVle.of (congrArg (fun b => AV.d (boo b)) (by unfold isIn; rw [g1]; rfl))

theorem cloneCd (l : List Chg) : Does Tryd.prog 87 [.d (.sl 7 88 (l.map encC))] noHeap (.d (.sl 7 88 (l.map encC))) := by
  refine Does_of T_ok mixed (N := 8) Tryd.func87 rfl rfl rfl (by rfl) fun F n Z hE hF J => ?_
  refine CW_know (know_sl (d := 0) rfl) fun hlen => ?_
  rw [List.length_map] at hlen
  refine CW_seq ?_
  refine CW_region ?_
  refine OW_run' hE.ok 1 rfl ?_
  refine OW_end rfl ?_
  refine CW_seq ?_
  refine CW_seq ?_
  refine CW_region ?_
  refine OW_run' hE.ok 1 rfl ?_
  refine OW_eqNil' hE rfl rfl rfl rfl rfl rfl rfl rfl (fun b hb => ?_)
  refine OW_end rfl ?_
  refine CW_cond _ rfl (fun h1 => ?_) (fun h1 => ?_)
  · skip
    refine CW_seq ?_
    refine CW_region ?_
    refine OW_run' hE.ok 1 rfl ?_
    refine OW_end rfl ?_
    refine CW_ret ⟨.inr rfl, rfl, ⟨_, rfl, rfl, ?_⟩, rfl⟩
    rw [hb h1]
    exact AVle.nilSl 7 88
  · skip
    refine CW_skip ?_
    refine CW_seq ?_
    refine CW_region ?_
    refine OW_litsOwn' hE 7 rfl rfl rfl rfl rfl rfl rfl rfl rfl rfl rfl rfl ?_
    refine OW_run' hE.ok 1 rfl ?_
    refine OW_append' hE (key := 7) rfl rfl rfl rfl rfl rfl rfl rfl (.inl rfl) (by simp; omega) (by simp; omega) rfl ?_
    refine OW_run' hE.ok 1 rfl ?_
    refine OW_end rfl ?_
    refine CW.le (LE_freeze 7 88 rfl (by simp; omega)) ?_
    exact CW_ret ⟨.inr rfl, rfl, ⟨_, rfl, rfl, AVle.refl _⟩, rfl⟩

theorem changesD (ss : List (List Ty)) (cs : List Chg) : Does Tryd.prog 62 [argCh ss cs] noHeap (.d (.sl 7 88 (cs.map encC))) := by
  refine Does_of T_ok mixed (N := 8) Tryd.func62 rfl rfl rfl (by rfl) fun F n Z hE hF J => ?_
  refine CW_seq ?_
  refine CW_region ?_
  refine OW_run' hE.ok 1 rfl ?_
  refine OW_end rfl ?_
  refine CW_seq ?_
  refine CW_region ?_
  refine OW_run' hE.ok 4 rfl ?_
  refine OW_call' hE (cloneCd cs) rfl rfl rfl rfl rfl rfl rfl ?_
  refine OW_run' hE.ok 1 rfl ?_
  refine OW_end rfl ?_
  refine CW_ret ?_
  refine ⟨.inr rfl, rfl, ⟨_, rfl, rfl, ?_⟩, rfl⟩
  exact AVle.refl _

theorem atD (ss : List (List Ty)) (cs : List Chg) (i : Nat) (s : List Ty) (hl : ss.length = cs.length + 1) (hi : ss[i]? = some s) : Does Tryd.prog 30 [argCh ss cs, .d (int ((i : Nat) : Int))] noHeap (.tup [argS s, .d (boo true)]) := by
  refine Does_of T_ok mixed (N := 19) Tryd.func30 rfl rfl rfl (by rfl) fun F n Z hE hF J => ?_
  have hlt := (List.getElem?_eq_some_iff.1 hi).1
  refine CW_seq ?_
  refine CW_region ?_
  refine OW_alloc' hE 1 rfl rfl rfl rfl rfl rfl rfl ?_
  refine OW_run' hE.ok 1 rfl ?_
  refine OW_end rfl ?_
  refine CW_seq ?_
  refine CW_seq ?_
  refine CW_region ?_
  refine OW_run' hE.ok 2 rfl ?_
  refine OW_call' hE ((by have hq := isD ss cs (i : Int); rw [isIn_of (by omega)] at hq; exact hq)) rfl rfl rfl rfl rfl rfl rfl ?_
  refine OW_run' hE.ok 1 rfl ?_
  refine OW_end rfl ?_
  refine CW_false rfl ?_
  refine CW_skip ?_
  refine CW_seq ?_
  refine CW_region ?_
  refine OW_run' hE.ok 5 rfl ?_
  refine OW_loc' hE (loc_indexAddr hE rfl rfl rfl rfl rfl (by omega) (x := encS1 s) (by simp [hi])) rfl rfl rfl ?_
  refine OW_run' hE.ok 1 rfl ?_
  refine OW_call' hE (ccopyOk s) rfl rfl rfl rfl rfl rfl rfl ?_
  refine OW_store' hE rfl rfl rfl rfl rfl rfl rfl rfl rfl rfl rfl rfl ?_
  refine OW_run' hE.ok 1 rfl ?_
  refine OW_end rfl ?_
  refine CW_ret ?_
  refine ⟨.inr rfl, rfl, ⟨_, rfl, rfl, ?_⟩, rfl⟩
  exact AVle.refl _

theorem moveD (ss : List (List Ty)) (cs : List Chg) (e : Ev) (i j : Int) (hok : ChainOk ss cs) : Does Tryd.prog 34 [argCh ss cs, argE e, .d (int i), .d (int j)] noHeap (.tup [argE (mvAt ss cs e i j).1, .d (errC 74 (mvAt ss cs e i j).2)]) := by
  refine Does_of T_ok mixed (N := 68) Tryd.func34 rfl rfl rfl (by rfl) fun F n Z hE hF J => ?_
  refine CW_seq ?_
  refine CW_region ?_
  refine OW_run' hE.ok 1 rfl ?_
  refine OW_alloc' hE 1 rfl rfl rfl rfl rfl rfl rfl ?_
  refine OW_run' hE.ok 1 rfl ?_
  refine OW_end rfl ?_
  refine CW_seq ?_
  refine CW_seq ?_
  refine CW_region ?_
  refine OW_run' hE.ok 2 rfl ?_
  refine OW_call' hE (isD ss cs i) rfl rfl rfl rfl rfl rfl rfl ?_
  refine OW_run' hE.ok 2 rfl ?_
  refine OW_split' 17 rfl (fun h1 => ?_) (fun h1 => ?_)
  · skip
    have g1 : (!isIn cs i) = true := h1
    refine OW_run' hE.ok 10 rfl ?_
    refine OW_end rfl ?_
    refine CW_true rfl ?_
    refine CW_seq ?_
    refine CW_region ?_
    refine OW_build' hE rfl rfl rfl rfl rfl ?_
    refine OW_run' hE.ok 1 rfl ?_
    refine OW_store' hE rfl rfl rfl rfl rfl rfl rfl rfl rfl rfl rfl rfl ?_
    refine OW_run' hE.ok 1 rfl ?_
    refine OW_end rfl ?_
    refine CW_ret ?_
    refine ⟨.inr rfl, rfl, ⟨_, rfl, rfl, ?_⟩, rfl⟩
    rw [mv_bad (bad_1 (by simpa using g1))]
    exact AVle.tup (.cons (AVle.agg (.cons (.refl _) (.cons (.refl _) (.cons (.nilSl 3 32) .nil)))) (.cons (.refl _) .nil))
  · skip
    have g1 : (!isIn cs i) = false := h1
    refine OW_run' hE.ok 2 rfl ?_
    refine OW_call' hE (isD ss cs j) rfl rfl rfl rfl rfl rfl rfl ?_
    refine OW_run' hE.ok 3 rfl ?_
    refine OW_split' 23 rfl (fun h2 => ?_) (fun h2 => ?_)
    · skip
      have g2 : (!isIn cs j) = true := h2
      refine OW_run' hE.ok 4 rfl ?_
      refine OW_end rfl ?_
      refine CW_true rfl ?_
      refine CW_seq ?_
      refine CW_region ?_
      refine OW_build' hE rfl rfl rfl rfl rfl ?_
      refine OW_run' hE.ok 1 rfl ?_
      refine OW_store' hE rfl rfl rfl rfl rfl rfl rfl rfl rfl rfl rfl rfl ?_
      refine OW_run' hE.ok 1 rfl ?_
      refine OW_end rfl ?_
      refine CW_ret ?_
      refine ⟨.inr rfl, rfl, ⟨_, rfl, rfl, ?_⟩, rfl⟩
      rw [mv_bad (bad_2 (by simpa using g2))]
      exact AVle.tup (.cons (AVle.agg (.cons (.refl _) (.cons (.refl _) (.cons (.nilSl 3 32) .nil)))) (.cons (.refl _) .nil))
    · skip
      have g2 : (!isIn cs j) = false := h2
      refine OW_run' hE.ok 4 rfl ?_
      refine OW_end rfl ?_
      refine CW_cond _ rfl (fun h3 => ?_) (fun h3 => ?_)
      · skip
        have g3 : decide (i > j) = true := h3
        refine CW_seq ?_
        refine CW_region ?_
        refine OW_build' hE rfl rfl rfl rfl rfl ?_
        refine OW_run' hE.ok 1 rfl ?_
        refine OW_store' hE rfl rfl rfl rfl rfl rfl rfl rfl rfl rfl rfl rfl ?_
        refine OW_run' hE.ok 1 rfl ?_
        refine OW_end rfl ?_
        refine CW_ret ?_
        refine ⟨.inr rfl, rfl, ⟨_, rfl, rfl, ?_⟩, rfl⟩
        rw [mv_bad (bad_3 g3)]
        exact AVle.tup (.cons (AVle.agg (.cons (.refl _) (.cons (.refl _) (.cons (.nilSl 3 32) .nil)))) (.cons (.refl _) .nil))
      · skip
        have g3 : decide (i > j) = false := h3
        refine CW_skip ?_
        refine CW_seq ?_
        refine CW_seq ?_
        have b1 : isIn cs i = true := by simpa using g1
        have b2 : isIn cs j = true := by simpa using g2
        have hgood := good_3 b1 b2 g3
        obtain ⟨a, rfl, ha⟩ := isIn_at b1
        obtain ⟨b, rfl, hb⟩ := isIn_at b2
        have hab : a ≤ b := by have := g3; simp at this; omega
        obtain ⟨s, hs, hsr⟩ := hok.at ha
        have hlen := hok.len
        have hfew := hok.few
        refine CW_drawn' hE 8 (by decide +kernel) ?_
        refine HW_run hE 5 rfl rfl ?_
        refine HW_loc hE (loc_indexAddr hE rfl rfl rfl rfl rfl (by omega) (x := encS1 s) (by simp [hs])) rfl rfl rfl rfl ?_
        refine HW_run hE 2 rfl rfl ?_
        refine HW_end ?_
        refine OW_call' hE (isEvC s e) rfl rfl rfl rfl rfl rfl rfl ?_
        refine OW_run' hE.ok 1 rfl ?_
        refine OW_end rfl ?_
        refine CW_seq ?_
        refine CW_region ?_
        refine OW_run' hE.ok 1 rfl ?_
        refine OW_loc' hE (loc_errNe hE rfl rfl rfl) rfl rfl rfl ?_
        refine OW_end rfl ?_
        refine CW_cond _ rfl (fun h4 => ?_) (fun h4 => ?_)
        · skip
          have he : (evtR s e != 0) = true := h4
          refine CW_seq ?_
          refine CW_region ?_
          refine OW_build' hE rfl rfl rfl rfl rfl ?_
          refine OW_run' hE.ok 1 rfl ?_
          refine OW_store' hE rfl rfl rfl rfl rfl rfl rfl rfl rfl rfl rfl rfl ?_
          refine OW_run' hE.ok 1 rfl ?_
          refine OW_end rfl ?_
          refine CW_ret ?_
          refine ⟨.inr rfl, rfl, ⟨_, rfl, rfl, ?_⟩, rfl⟩
          rw [mv_err hgood hs he]
          exact AVle.tup (.cons (AVle.agg (.cons (.refl _) (.cons (.refl _) (.cons (.nilSl 3 32) .nil)))) (.cons (.refl _) .nil))
        · skip
          have he : (evtR s e != 0) = false := h4
          refine CW_skip ?_
          refine CW_seq ?_
          have he0 : evtR s e = 0 := by simpa using he
          have hv5 := evt_few hsr he0
          refine CW_region ?_
          refine OW_run' hE.ok 1 rfl ?_
          refine OW_callOwn' hE 77 (copyOk e) rfl rfl rfl rfl rfl rfl rfl ?_
          refine OW_alloc' hE 2 rfl rfl rfl rfl rfl rfl rfl ?_
          refine OW_store' hE rfl rfl rfl rfl rfl rfl rfl rfl rfl rfl rfl rfl ?_
          refine OW_end rfl ?_
          refine CW_seq ?_
          refine CW_seq ?_
          refine CW.le (LE_freeze 77 32 rfl (by simp; omega)) ?_
          refine CW_region ?_
          refine OW_run' hE.ok 2 rfl ?_
          refine OW_end rfl ?_
          refine CW_block ?_
          refine CW.le (show LE _ _ ⟨J, (sset (sset (sset (sset (sset noSlots 0 (.d (.iptr (encCh ss cs)))) 3 (.d (int ((b : Nat) : Int)))) 8 (.ptr 1 0)) 11 (.ptr 2 0)) 12 (.d (int (((a + 0 : Nat)) : Int)))), (hset (hset noHeap 1 (some (.box 27 [.d (str nul), .d (int 0), .d (.lit (.slice none 0 0))]))) 2 (some (.box 27 ((encE (chM ss cs e a (0))).map .d))))⟩ from LE_sh (slh_set (slh_set (slh_set (slh_set (slh_set (slh_no _ _) rfl rfl) rfl rfl) rfl rfl) rfl rfl) rfl rfl) (hlh_set (hlh_set (hlh_no _ _) rfl rfl) rfl rfl)) ?_
          refine CW_loop (σ := {q : Nat // a + q ≤ b}) (fun q => ⟨J, (sset (sset (sset (sset (sset noSlots 0 (.d (.iptr (encCh ss cs)))) 3 (.d (int ((b : Nat) : Int)))) 8 (.ptr 1 0)) 11 (.ptr 2 0)) 12 (.d (int (((a + q.1 : Nat)) : Int)))), (hset (hset noHeap 1 (some (.box 27 [.d (str nul), .d (int 0), .d (.lit (.slice none 0 0))]))) 2 (some (.box 27 ((encE (chM ss cs e a (q.1))).map .d))))⟩) (fun q => b - a - q.1) ⟨0, hab⟩ (LE.refl _ _) fun ⟨q, hq⟩ => ?_
          refine CW_seq ?_
          refine CW_seq ?_
          refine CW_region ?_
          refine OW_run' hE.ok 3 rfl ?_
          refine OW_end rfl ?_
          refine CW_cond _ rfl (fun h5 => ?_) (fun h5 => ?_)
          · skip
            have hlt : a + q < b := by have := h5; simp at this; omega
            obtain ⟨s1, hs1, hr1⟩ := chM_right hok hs he0 q (by omega)
            have hsr1 := hok.right s1 (List.mem_of_getElem? hs1)
            obtain ⟨d, hd⟩ : ∃ d, cs[a + q]? = some d := ⟨_, List.getElem?_eq_getElem (by omega)⟩
            have hvq := evt_few hsr1 hr1
            refine CW_skip ?_
            refine CW_seq ?_
            refine CW_block ?_
            refine CW_drawn' hE 15 (by decide +kernel) ?_
            refine HW_run hE 5 rfl rfl ?_
            refine HW_loc hE (loc_indexAddr hE rfl rfl rfl rfl rfl (by omega) (x := encS1 s1) (by rw [Int.toNat_natCast, List.getElem?_map, hs1]; rfl)) rfl rfl rfl rfl ?_
            refine HW_run hE 6 rfl rfl ?_
            refine HW_loc hE (loc_indexAddr hE rfl rfl rfl rfl rfl (by omega) (x := encC d) (by rw [Int.toNat_natCast, List.getElem?_map, hd]; rfl)) rfl rfl rfl rfl ?_
            refine HW_run hE 2 rfl rfl ?_
            refine HW_end ?_
            refine OW_call' hE ((by have hq := moveOk s1 d (chM ss cs e a q) hsr1 (by omega); rw [← chM_succ hs1 hd] at hq; exact hq)) rfl rfl rfl rfl rfl rfl rfl ?_
            refine OW_store' hE rfl rfl rfl rfl rfl rfl rfl rfl rfl rfl rfl rfl ?_
            refine OW_end rfl ?_
            refine CW_region ?_
            refine OW_run' hE.ok 3 rfl ?_
            refine OW_end rfl ?_
            refine ⟨⟨q + 1, by omega⟩, LE_sh (slh_set (v := .d (int (((a + (q + 1) : Nat)) : Int))) (slh_set (v := .ptr 2 0) (slh_set (v := .ptr 1 0) (slh_set (v := .d (int ((b : Nat) : Int))) (slh_set (v := .d (.iptr (encCh ss cs))) (slh_no _ _) (by rfl) rfl) (by rfl) rfl) (by rfl) rfl) (by rfl) rfl) (by show AV.d (.lit (.int .i64 (IntKind.i64.wrap (((a + q : Nat) : Int) + 1)))) = _; rw [wrap_succ (by omega)]; rfl) rfl) (hlh_set (hlh_set (hlh_no _ _) rfl rfl) rfl rfl), by show b - a - (q + 1) < b - a - q; omega⟩
          · skip
            have hge : a + q = b := by have := h5; simp at this; omega
            have hqe : b - a = q := by omega
            refine CW_exit ?_
            show CW _ _ _ _
            refine CW_seq ?_
            refine CW_region ?_
            refine OW_run' hE.ok 1 rfl ?_
            refine OW_store' hE rfl rfl rfl rfl rfl rfl rfl rfl rfl rfl rfl rfl ?_
            refine OW_run' hE.ok 1 rfl ?_
            refine OW_end rfl ?_
            refine CW_ret ?_
            refine ⟨.inr rfl, rfl, ⟨_, rfl, rfl, ?_⟩, rfl⟩
            rw [mv_ok hgood hs he]
            show AVle _ (.tup [argE (chM ss cs e a (b - a)), _])
            rw [hqe]
            exact AVle.refl _

theorem last1 (ss : List (List Ty)) (cs : List Chg) (i j : Nat) (hij : i ≤ j) (hj : j ≤ cs.length) (hfew : cs.length ≤ 20) : Iter Tryd.prog 97 [] [.d (.iptr [int ((j : Nat) : Int)]), .d (.iptr [int ((i : Nat) : Int)]), .d (.iptr [.iptr (encCh ss cs)])] (ysL (lastX cs i j)) := by
  refine Iter_of T_ok mixed (N := 23) Tryd.func97 rfl rfl rfl (by rfl) fun F n Z hE hF l C X hC hX hy => ?_
  refine CW_seq ?_
  refine CW_region ?_
  refine OW_run' hE.ok 3 rfl ?_
  refine OW_end rfl ?_
  refine CW_block ?_
  refine CW.le (show LE _ _ ⟨C 0, (sset (sset (sset (sset noSlots 0 (.d (.fn (.yield l) [] []))) 2 (.d (.iptr [int ((i : Nat) : Int)]))) 3 (.d (.iptr [.iptr (encCh ss cs)]))) 5 (.d (int (((j : Nat) : Int) - 1 - (0 : Nat))))), noHeap⟩ from LE_sh (slh_set (v := .d (int (((j : Nat) : Int) - 1 - (0 : Nat)))) (slh_set (v := .d (.iptr [.iptr (encCh ss cs)])) (slh_set (v := .d (.iptr [int ((i : Nat) : Int)])) (slh_set (v := .d (.fn (.yield l) [] [])) (slh_no _ _) (by rfl) rfl) (by rfl) rfl) (by rfl) rfl) (by show AV.d (.lit (.int .i64 (IntKind.i64.wrap ((j : Int) - 1)))) = _; rw [wrap_sm (by omega) (by omega)]; simp [int]) rfl) (hlh_no _ _)) ?_
  refine CW_loop (σ := {q : Nat // q ≤ j - i}) (fun q => ⟨C q.1, (sset (sset (sset (sset noSlots 0 (.d (.fn (.yield l) [] []))) 2 (.d (.iptr [int ((i : Nat) : Int)]))) 3 (.d (.iptr [.iptr (encCh ss cs)]))) 5 (.d (int (((j : Nat) : Int) - 1 - (q.1 : Nat))))), noHeap⟩) (fun q => j - i - q.1) ⟨0, Nat.zero_le _⟩ (LE.refl _ _) fun ⟨q, hq⟩ => ?_
  refine CW_seq ?_
  refine CW_seq ?_
  refine CW_region ?_
  refine OW_run' hE.ok 3 rfl ?_
  refine OW_end rfl ?_
  refine CW_cond _ rfl (fun h1 => ?_) (fun h1 => ?_)
  · skip
    have hlt : q < j - i := by have := h1; simp at this; omega
    obtain ⟨d, hd⟩ : ∃ d, cs[j - 1 - q]? = some d := ⟨_, List.getElem?_eq_getElem (by omega)⟩
    have hld : (lastX cs i j)[q]? = some d := by rw [lastX_get hj hlt]; exact hd
    have hje : (j : Int) - 1 - (q : Nat) = ((j - 1 - q : Nat) : Int) := by omega
    refine CW_skip ?_
    refine CW_seq ?_
    refine CW_block ?_
    refine CW_seq ?_
    refine CW_region ?_
    refine OW_run' hE.ok 6 rfl ?_
    refine OW_as' 18 (.d (int ((j - 1 - q : Nat) : Int))) (by exact congrArg (fun z => AV.d (int z)) hje) ?_
    refine OW_loc' hE (loc_indexAddr hE rfl rfl rfl rfl rfl (by omega) (x := encC d) (by simp [hd])) rfl rfl rfl ?_
    refine OW_run' hE.ok 1 rfl ?_
    refine OW_yield' hE hy hC hX (Wrap.id _) (q) rfl rfl rfl rfl rfl rfl (ysL_get hld) rfl rfl rfl ?_ ?_
    · skip
      refine OW_run' hE.ok 1 rfl ?_
      refine OW_end rfl ?_
      refine CW_false rfl ?_
      refine CW_skip ?_
      refine CW_region ?_
      refine OW_run' hE.ok 3 rfl ?_
      refine OW_end rfl ?_
      exact ⟨⟨q + 1, by omega⟩, LE_sh (slh_set (v := .d (int (((j : Nat) : Int) - 1 - (q + 1 : Nat)))) (slh_set (v := .d (.iptr [.iptr (encCh ss cs)])) (slh_set (v := .d (.iptr [int ((i : Nat) : Int)])) (slh_set (v := .d (.fn (.yield l) [] [])) (slh_no _ _) (by rfl) rfl) (by rfl) rfl) (by rfl) rfl) (by show AV.d (.lit (.int .i64 (IntKind.i64.wrap (((j : Nat) : Int) - 1 - (q : Nat) - 1)))) = _; rw [wrap_sm (by omega) (by omega)]; simp [int]; omega) rfl) (hlh_no _ _), by show j - i - (q + 1) < j - i - q; omega⟩
    · skip
      refine OW_run' hE.ok 1 rfl ?_
      refine OW_end rfl ?_
      refine CW_true rfl ?_
      exact CW_ret ⟨.inr rfl, .inr rfl, _, rfl⟩
  · skip
    have hge : ¬ q < j - i := by have := h1; simp at this; omega
    refine CW_exit ?_
    have hN : q = (ysL (lastX cs i j)).length := by rw [ysL_length, lastX_len hj]; omega
    show RetI _ _ _ _ .normal _
    exact ⟨.inl rfl, .inl (by show C q = _; rw [← hN]), _, rfl⟩

theorem lastD (ss : List (List Ty)) (cs : List Chg) (i j : Nat) : Does Tryd.prog 86 [argCh ss cs, .d (int ((i : Nat) : Int)), .d (int ((j : Nat) : Int))] noHeap (.d (.fn (.func 97) [] [.iptr [int ((j : Nat) : Int)], .iptr [int ((i : Nat) : Int)], .iptr [.iptr (encCh ss cs)]])) := by
  refine Does_of T_ok mixed (N := 8) Tryd.func86 rfl rfl rfl (by rfl) fun F n Z hE hF J => ?_
  refine CW_seq ?_
  refine CW_region ?_
  refine OW_run' hE.ok 4 rfl ?_
  refine OW_end rfl ?_
  refine CW_seq ?_
  refine CW_region ?_
  refine OW_run' hE.ok 2 rfl ?_
  refine OW_end rfl ?_
  refine CW_ret ?_
  refine ⟨.inr rfl, rfl, ⟨_, rfl, rfl, ?_⟩, rfl⟩
  exact AVle.refl _
end Go.Proofs.YtchpllgeahnmmaaDoor
