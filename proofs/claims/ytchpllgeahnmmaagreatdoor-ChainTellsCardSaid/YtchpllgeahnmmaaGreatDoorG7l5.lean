/- Parts of an abstract logic over the kit's walks, and walks in it: G7l5. -/
import Derived.Test.YtchpllgeahnmmaaGreatDoorGxg
import Derived.Test.YtchpllgeahnmmaaGreatDoorGxf
import Derived.Test.YtchpllgeahnmmaaGreatDoorG7co
import Derived.Test.YtchpllgeahnmmaaGreatDoorGxb
import Derived.Test.YtchpllgeahnmmaaGreatDoorGxe
import Derived.Test.YtchpllgeahnmmaaGreatDoorAg
namespace Go.Proofs.YtchpllgeahnmmaaGreatDoor
open Go Go.AL
set_option linter.unusedVariables false
set_option linter.unusedSimpArgs false
set_option maxHeartbeats 4000000
theorem rAtNo (ss : List (List Ty)) (cs : List Chg) (i : Int) (hl : ss.length = cs.length + 1) (hi : isIn cs i = false) : Does Tryz.prog 17 [argCh ss cs, .d (int i)] noHeap (.tup [argS [], .d (boo false)]) := by
 refine Does_of T_ok mixed (N := 25) Tryz.func17 rfl rfl rfl (by rfl) fun F n Z hE hF J => ?_
 refine CW_seq ?_
 refine CW_region ?_
 refine OW_alloc' hE 1 rfl rfl rfl rfl rfl rfl rfl ?_
 refine OW_run' hE.ok 1 rfl ?_
 refine OW_end rfl ?_
 refine CW_seq ?_
 refine CW_seq ?_
 refine CW_region ?_
 refine OW_run' hE.ok 3 rfl ?_
 refine OW_split' 8 rfl (fun h1 => ?_) (fun h1 => ?_)
 ·
  have g1 : decide (i < 0) = true := h1
  refine OW_run' hE.ok 8 rfl ?_
  refine OW_end rfl ?_
  refine CW_true rfl ?_
  refine CW_seq ?_
  refine CW_region ?_
  refine OW_build' hE rfl rfl rfl rfl rfl ?_
  refine OW_store' hE rfl rfl rfl rfl rfl rfl rfl rfl rfl rfl rfl rfl ?_
  refine OW_run' hE.ok 1 rfl ?_
  refine OW_end rfl ?_
  refine CW_ret ?_
  refine ⟨.inr rfl, rfl, ⟨_, rfl, rfl, ?_⟩, rfl⟩
  exact AVle.tup (.cons (AVle.agg (.cons (.nilSl 2 40) .nil)) (.cons (.refl _) .nil))
 ·
  have g1 : decide (i < 0) = false := h1
  refine OW_run' hE.ok 8 rfl ?_
  refine OW_end rfl ?_
  refine CW_cond _ rfl (fun h2 => ?_) (fun h2 => ?_)
  ·
   skip
   refine CW_seq ?_
   refine CW_region ?_
   refine OW_build' hE rfl rfl rfl rfl rfl ?_
   refine OW_store' hE rfl rfl rfl rfl rfl rfl rfl rfl rfl rfl rfl rfl ?_
   refine OW_run' hE.ok 1 rfl ?_
   refine OW_end rfl ?_
   refine CW_ret ?_
   refine ⟨.inr rfl, rfl, ⟨_, rfl, rfl, ?_⟩, rfl⟩
   exact AVle.tup (.cons (AVle.agg (.cons (.nilSl 2 40) .nil)) (.cons (.refl _) .nil))
  ·
   exfalso
   have g2 : decide (i ≥ ((ss.length : Nat) : Int)) = false := by have := h2; rw [List.length_map] at this; exact this
   have hb := rg_ok hl g1 g2 (show decide (i > i) = false by simp)
   rw [hi] at hb; exact absurd hb.1 (by simp)
theorem rNewNil (s : List Ty) (hs : isSchema s = true) : DoesM Tryz.prog 7 [] [argS s, .d (.lit (.slice none 0 0))] (.tup [.ptr 41 0, .d (int 0)]) [(41, .box 49 [.d (.sl 1 24 ((chF s [] 0).1.map encS1)), .d (.sl 7 88 ((chF s [] 0).2.map encC))])] [] :=
 (rNewOk s [] hs rfl).args rfl (AVles.cons (.refl _) (.cons (.nilSl 7 88) .nil))
theorem tellsLaw5 (s : List Ty) (l : List Chg) (e : Ev) (a b : Int) (ty f : ByteArray) : DoesW Tryz.prog Tab 3 [argS s, .d (.sl 7 88 (l.map encC)), argE e, .d (int a), .d (int b), .d (str ty), .d (str f)] (.d (boo true)) := by
 refine DoesW_of tab_grew T_ok mixed (N := 210) Tryz.func3 rfl rfl rfl (by rfl) fun F n Z hE hF J hJ => ?_
 refine CW_seq ?_
 refine CW_region ?_
 refine OW_run' hE.ok 3 rfl ?_
 refine OW_end rfl ?_
 refine CW_seq ?_
 refine CW_seq ?_
 refine CW_region ?_
 refine OW_call' hE (known5) rfl rfl rfl rfl rfl rfl rfl ?_
 refine OW_run' hE.ok 1 rfl ?_
 refine OW_end rfl ?_
 refine CW_false rfl ?_
 refine CW_skip ?_
 refine CW_seq ?_
 refine CW_seq ?_
 refine CW.le (show LE _ _ ⟨J, (sset (sset (sset (sset (sset (sset (sset noSlots 1 (.d (.sl 7 88 (l.map encC)))) 3 (.d (int a))) 4 (.d (int b))) 5 (.d (str ty))) 6 (.d (str f))) 7 (.d (.iptr [encS s]))) 9 (.d (.iptr (encE e)))), noHeap⟩ from LE_sh (slh_set (v := .d (.iptr (encE e))) (slh_set (v := .d (.iptr [encS s])) (slh_set (v := .d (str f)) (slh_set (v := .d (str ty)) (slh_set (v := .d (int b)) (slh_set (v := .d (int a)) (slh_set (v := .d (.sl 7 88 (l.map encC))) (slh_no _ _) (by rfl) rfl) (by rfl) rfl) (by rfl) rfl) (by rfl) rfl) (by rfl) rfl) (by rfl) rfl) (by rfl) rfl) (hlh_no _ _)) ?_
 refine CW_region ?_
 refine OW_run' hE.ok 1 rfl ?_
 refine OW_call' hE (refIsSOk s) rfl rfl rfl rfl rfl rfl rfl ?_
 refine OW_run' hE.ok 2 rfl ?_
 refine OW_split' 37 rfl (fun h1 => ?_) (fun h1 => ?_)
 ·
  have w1 : (!isSchema s) = true := h1
  refine OW.le (show LE _ _ ⟨J, (sset (sset (sset (sset (sset (sset (sset (sset noSlots 1 (.d (.sl 7 88 (l.map encC)))) 3 (.d (int a))) 4 (.d (int b))) 5 (.d (str ty))) 6 (.d (str f))) 7 (.d (.iptr [encS s]))) 9 (.d (.iptr (encE e)))) 37 (.d (.lit (.bool true)))), noHeap⟩ from LE_sh (slh_set (v := .d (.lit (.bool true))) (slh_set (v := .d (.iptr (encE e))) (slh_set (v := .d (.iptr [encS s])) (slh_set (v := .d (str f)) (slh_set (v := .d (str ty)) (slh_set (v := .d (int b)) (slh_set (v := .d (int a)) (slh_set (v := .d (.sl 7 88 (l.map encC))) (slh_no _ _) (by rfl) rfl) (by rfl) rfl) (by rfl) rfl) (by rfl) rfl) (by rfl) rfl) (by rfl) rfl) (by rfl) rfl) (by rfl) rfl) (hlh_no _ _)) ?_
  refine OW_run' hE.ok 10 rfl ?_
  refine OW_end rfl ?_
  refine CW_true rfl ?_
  refine CW_seq ?_
  refine CW.le (show LE _ _ ⟨J, noSlots, noHeap⟩ from LE_sh (slh_no _ _) (hlh_no _ _)) ?_
  refine CW_region ?_
  refine OW_run' hE.ok 1 rfl ?_
  refine OW_end rfl ?_
  refine CW_ret ?_
  refine ⟨.inr rfl, rfl, ⟨_, rfl, rfl, ?_⟩, rfl⟩
  exact AVle.refl _
 ·
  have w1 : (!isSchema s) = false := h1
  refine OW.le (show LE _ _ ⟨J, (sset (sset (sset (sset (sset (sset (sset (sset noSlots 1 (.d (.sl 7 88 (l.map encC)))) 3 (.d (int a))) 4 (.d (int b))) 5 (.d (str ty))) 6 (.d (str f))) 7 (.d (.iptr [encS s]))) 9 (.d (.iptr (encE e)))) 37 (.d (.lit (.bool false)))), noHeap⟩ from LE_sh (slh_set (v := .d (.lit (.bool false))) (slh_set (v := .d (.iptr (encE e))) (slh_set (v := .d (.iptr [encS s])) (slh_set (v := .d (str f)) (slh_set (v := .d (str ty)) (slh_set (v := .d (int b)) (slh_set (v := .d (int a)) (slh_set (v := .d (.sl 7 88 (l.map encC))) (slh_no _ _) (by rfl) rfl) (by rfl) rfl) (by rfl) rfl) (by rfl) rfl) (by rfl) rfl) (by rfl) rfl) (by rfl) rfl) (by rfl) rfl) (hlh_no _ _)) ?_
  refine OW_run' hE.ok 5 rfl ?_
  refine OW_split' 42 rfl (fun h2 => ?_) (fun h2 => ?_)
  ·
   refine OW.le (show LE _ _ ⟨J, (sset (sset (sset (sset (sset (sset (sset (sset noSlots 1 (.d (.sl 7 88 (l.map encC)))) 3 (.d (int a))) 4 (.d (int b))) 5 (.d (str ty))) 6 (.d (str f))) 7 (.d (.iptr [encS s]))) 9 (.d (.iptr (encE e)))) 42 (.d (.lit (.bool true)))), noHeap⟩ from LE_sh (slh_set (v := .d (.lit (.bool true))) (slh_set (v := .d (.iptr (encE e))) (slh_set (v := .d (.iptr [encS s])) (slh_set (v := .d (str f)) (slh_set (v := .d (str ty)) (slh_set (v := .d (int b)) (slh_set (v := .d (int a)) (slh_set (v := .d (.sl 7 88 (l.map encC))) (slh_no _ _) (by rfl) rfl) (by rfl) rfl) (by rfl) rfl) (by rfl) rfl) (by rfl) rfl) (by rfl) rfl) (by rfl) rfl) (by rfl) rfl) (hlh_no _ _)) ?_
   refine OW_run' hE.ok 5 rfl ?_
   refine OW_end rfl ?_
   refine CW_true rfl ?_
   refine CW_seq ?_
   refine CW.le (show LE _ _ ⟨J, noSlots, noHeap⟩ from LE_sh (slh_no _ _) (hlh_no _ _)) ?_
   refine CW_region ?_
   refine OW_run' hE.ok 1 rfl ?_
   refine OW_end rfl ?_
   refine CW_ret ?_
   refine ⟨.inr rfl, rfl, ⟨_, rfl, rfl, ?_⟩, rfl⟩
   exact AVle.refl _
  ·
   have hll : l.length ≤ 30 := by have := h2; rw [List.length_map] at this; simp at this; omega
   refine OW.le (show LE _ _ ⟨J, (sset (sset (sset (sset (sset (sset (sset (sset noSlots 1 (.d (.sl 7 88 (l.map encC)))) 3 (.d (int a))) 4 (.d (int b))) 5 (.d (str ty))) 6 (.d (str f))) 7 (.d (.iptr [encS s]))) 9 (.d (.iptr (encE e)))) 42 (.d (.lit (.bool false)))), noHeap⟩ from LE_sh (slh_set (v := .d (.lit (.bool false))) (slh_set (v := .d (.iptr (encE e))) (slh_set (v := .d (.iptr [encS s])) (slh_set (v := .d (str f)) (slh_set (v := .d (str ty)) (slh_set (v := .d (int b)) (slh_set (v := .d (int a)) (slh_set (v := .d (.sl 7 88 (l.map encC))) (slh_no _ _) (by rfl) rfl) (by rfl) rfl) (by rfl) rfl) (by rfl) rfl) (by rfl) rfl) (by rfl) rfl) (by rfl) rfl) (by rfl) rfl) (hlh_no _ _)) ?_
   refine OW_run' hE.ok 5 rfl ?_
   refine OW_end rfl ?_
   refine CW_cond _ rfl (fun h3 => ?_) (fun h3 => ?_)
   ·
    skip
    refine CW_seq ?_
    refine CW.le (show LE _ _ ⟨J, noSlots, noHeap⟩ from LE_sh (slh_no _ _) (hlh_no _ _)) ?_
    refine CW_region ?_
    refine OW_run' hE.ok 1 rfl ?_
    refine OW_end rfl ?_
    refine CW_ret ?_
    refine ⟨.inr rfl, rfl, ⟨_, rfl, rfl, ?_⟩, rfl⟩
    exact AVle.refl _
   ·
    have hv : e.vals.length ≤ 20 := by have := h3; rw [List.length_map] at this; simp at this; omega
    refine CW_skip ?_
    refine CW_seq ?_
    have hs : isSchema s = true := by simpa using w1
    refine CW.le (show LE _ _ ⟨J, (sset (sset (sset (sset (sset (sset (sset noSlots 1 (.d (.sl 7 88 (l.map encC)))) 3 (.d (int a))) 4 (.d (int b))) 5 (.d (str ty))) 6 (.d (str f))) 7 (.d (.iptr [encS s]))) 9 (.d (.iptr (encE e)))), noHeap⟩ from LE_sh (slh_set (v := .d (.iptr (encE e))) (slh_set (v := .d (.iptr [encS s])) (slh_set (v := .d (str f)) (slh_set (v := .d (str ty)) (slh_set (v := .d (int b)) (slh_set (v := .d (int a)) (slh_set (v := .d (.sl 7 88 (l.map encC))) (slh_no _ _) (by rfl) rfl) (by rfl) rfl) (by rfl) rfl) (by rfl) rfl) (by rfl) rfl) (by rfl) rfl) (by rfl) rfl) (hlh_no _ _)) ?_
    refine CW_region ?_
    refine OW_run' hE.ok 1 rfl ?_
    refine OW_callM' hE (tr []) (newNil s hs) rfl rfl rfl rfl rfl trivial rfl rfl ?_
    refine OW_run' hE.ok 5 rfl ?_
    refine OW_end rfl ?_
    refine CW_seq ?_
    refine CW.le (show LE _ _ ⟨J, (sset (sset (sset (sset (sset (sset (sset (sset (sset noSlots 1 (.d (.sl 7 88 (l.map encC)))) 3 (.d (int a))) 4 (.d (int b))) 5 (.d (str ty))) 6 (.d (str f))) 7 (.d (.iptr [encS s]))) 9 (.d (.iptr (encE e)))) 15 (.ptr 40 0)) 16 (.d (errC 68 0))), (hset (hset (hset noHeap 40 (some (.box 73 [.row 50, .row 51]))) 50 (some (.row 24 1 ((chF s l (0)).1.map encS1)))) 51 (some (.row 42 7 ((chF s l (0)).2.map encC))))⟩ from LE_sh (slh_set (v := .d (errC 68 0)) (slh_set (v := .ptr 40 0) (slh_set (v := .d (.iptr (encE e))) (slh_set (v := .d (.iptr [encS s])) (slh_set (v := .d (str f)) (slh_set (v := .d (str ty)) (slh_set (v := .d (int b)) (slh_set (v := .d (int a)) (slh_set (v := .d (.sl 7 88 (l.map encC))) (slh_no _ _) (by rfl) rfl) (by rfl) rfl) (by rfl) rfl) (by rfl) rfl) (by rfl) rfl) (by rfl) rfl) (by rfl) rfl) (by rfl) rfl) (by rfl) rfl) (hlh_set (hlh_set (hlh_set (hlh_no _ _) rfl rfl) rfl rfl) rfl rfl)) ?_
    refine CW_region ?_
    refine OW_run' hE.ok 1 rfl ?_
    refine OW_callM' hE (tr []) (rNewNil s hs) rfl rfl rfl rfl rfl trivial rfl rfl ?_
    refine OW_run' hE.ok 5 rfl ?_
    refine OW_end rfl ?_
    refine CW_seq ?_
    refine CW_seq ?_
    refine CW.le (show LE _ _ ⟨J, (sset (sset (sset (sset (sset (sset (sset (sset (sset (sset (sset noSlots 1 (.d (.sl 7 88 (l.map encC)))) 3 (.d (int a))) 4 (.d (int b))) 5 (.d (str ty))) 6 (.d (str f))) 7 (.d (.iptr [encS s]))) 9 (.d (.iptr (encE e)))) 15 (.ptr 40 0)) 16 (.d (errC 68 0))) 17 (.ptr 41 0)) 18 (.d (int 0))), (hset (hset (hset (hset noHeap 41 (some (.box 49 [.d (.sl 1 24 ((chF s l (0)).1.map encS1)), .d (.sl 7 88 ((chF s l (0)).2.map encC))]))) 51 (some (.row 42 7 ((chF s l (0)).2.map encC)))) 50 (some (.row 24 1 ((chF s l (0)).1.map encS1)))) 40 (some (.box 73 [.row 50, .row 51])))⟩ from LE_sh (slh_set (v := .d (int 0)) (slh_set (v := .ptr 41 0) (slh_set (v := .d (errC 68 0)) (slh_set (v := .ptr 40 0) (slh_set (v := .d (.iptr (encE e))) (slh_set (v := .d (.iptr [encS s])) (slh_set (v := .d (str f)) (slh_set (v := .d (str ty)) (slh_set (v := .d (int b)) (slh_set (v := .d (int a)) (slh_set (v := .d (.sl 7 88 (l.map encC))) (slh_no _ _) (by rfl) rfl) (by rfl) rfl) (by rfl) rfl) (by rfl) rfl) (by rfl) rfl) (by rfl) rfl) (by rfl) rfl) (by rfl) rfl) (by rfl) rfl) (by rfl) rfl) (by rfl) rfl) (hlh_set (hlh_set (hlh_set (hlh_set (hlh_no _ _) rfl rfl) rfl rfl) rfl rfl) rfl rfl)) ?_
    refine CW_region ?_
    refine OW_run' hE.ok 1 rfl ?_
    refine OW_loc' hE (loc_errNe hE rfl rfl (EN := 68) (z := 0) rfl) rfl rfl rfl ?_
    refine OW_run' hE.ok 2 rfl ?_
    refine OW_run' hE.ok 1 rfl ?_
    refine OW_as' 62 (.d (boo false)) (by rfl) ?_
    refine OW_run' hE.ok 3 rfl ?_
    refine OW_loc' hE (loc_ptrNil hE rfl rfl (k := 40) (off := 0) rfl) rfl rfl rfl ?_
    refine OW_run' hE.ok 1 rfl ?_
    refine OW_end rfl ?_
    refine CW_false rfl ?_
    refine CW_skip ?_
    refine CW_seq ?_
    refine CW_seq ?_
    refine CW_region ?_
    refine OW_run' hE.ok 1 rfl ?_
    refine OW_end rfl ?_
    refine CW_block ?_
    refine CW_loop (σ := {i : Nat // i ≤ l.length}) (fun i => ⟨J, (sset (sset (sset (sset (sset (sset (sset (sset (sset noSlots 1 (.d (.sl 7 88 (l.map encC)))) 3 (.d (int a))) 4 (.d (int b))) 5 (.d (str ty))) 6 (.d (str f))) 9 (.d (.iptr (encE e)))) 15 (.ptr 40 0)) 17 (.ptr 41 0)) 19 (.d (int ((i.1 : Nat) : Int)))), (hset (hset (hset (hset noHeap 41 (some (.box 49 [.d (.sl 1 24 ((chF s l (i.1)).1.map encS1)), .d (.sl 7 88 ((chF s l (i.1)).2.map encC))]))) 51 (some (.row 42 7 ((chF s l (i.1)).2.map encC)))) 50 (some (.row 24 1 ((chF s l (i.1)).1.map encS1)))) 40 (some (.box 73 [.row 50, .row 51])))⟩) (fun i => l.length - i.1) ⟨0, Nat.zero_le _⟩ (LE_sh (slh_set (slh_set (slh_set (slh_set (slh_set (slh_set (slh_set (slh_set (slh_set (slh_no _ _) rfl rfl) rfl rfl) rfl rfl) rfl rfl) rfl rfl) rfl rfl) rfl rfl) rfl rfl) rfl rfl) (hlh_set (hlh_set (hlh_set (hlh_set (hlh_no _ _) rfl rfl) rfl rfl) rfl rfl) rfl rfl)) fun ⟨i, hi⟩ => ?_
    refine CW_seq ?_
    refine CW_seq ?_
    refine CW_region ?_
    refine OW_run' hE.ok 4 rfl ?_
    refine OW_end rfl ?_
    refine CW_cond _ rfl (fun h4 => ?_) (fun h4 => ?_)
    ·
     have hlt : i < l.length := by have := h4; rw [List.length_map] at this; simp at this; omega
     obtain ⟨c, hc⟩ : ∃ c, l[i]? = some c := ⟨_, List.getElem?_eq_getElem hlt⟩
     refine CW.le (show LE _ _ ⟨J, (sset (sset (sset (sset (sset (sset (sset (sset (sset noSlots 1 (.d (.sl 7 88 (l.map encC)))) 3 (.d (int a))) 4 (.d (int b))) 5 (.d (str ty))) 6 (.d (str f))) 9 (.d (.iptr (encE e)))) 15 (.ptr 40 0)) 17 (.ptr 41 0)) 19 (.d (int ((i : Nat) : Int)))), (hset (hset (hset (hset noHeap 41 (some (.box 49 [.d (.sl 1 24 ((chF s l (i)).1.map encS1)), .d (.sl 7 88 ((chF s l (i)).2.map encC))]))) 51 (some (.row 42 7 ((chF s l (i)).2.map encC)))) 50 (some (.row 24 1 ((chF s l (i)).1.map encS1)))) 40 (some (.box 73 [.row 50, .row 51])))⟩ from LE_sh (slh_set (v := .d (int ((i : Nat) : Int))) (slh_set (v := .ptr 41 0) (slh_set (v := .ptr 40 0) (slh_set (v := .d (.iptr (encE e))) (slh_set (v := .d (str f)) (slh_set (v := .d (str ty)) (slh_set (v := .d (int b)) (slh_set (v := .d (int a)) (slh_set (v := .d (.sl 7 88 (l.map encC))) (slh_no _ _) (by rfl) rfl) (by rfl) rfl) (by rfl) rfl) (by rfl) rfl) (by rfl) rfl) (by rfl) rfl) (by rfl) rfl) (by rfl) rfl) (by rfl) rfl) (hlh_set (hlh_set (hlh_set (hlh_set (hlh_no _ _) rfl rfl) rfl rfl) rfl rfl) rfl rfl)) ?_
     refine CW_skip ?_
     refine CW_seq ?_
     refine CW_block ?_
     refine CW_seq ?_
     refine CW_seq ?_
     refine CW_region ?_
     refine OW_run' hE.ok 2 rfl ?_
     refine OW_loc' hE (loc_indexAddr hE rfl rfl rfl rfl rfl (by omega) (x := encC c) (by simp [hc])) rfl rfl rfl ?_
     refine OW_run' hE.ok 5 rfl ?_
     refine OW_split' 81 rfl (fun h5 => ?_) (fun h5 => ?_)
     ·
      refine OW.le (show LE _ _ ⟨J, (sset (sset (sset (sset (sset (sset (sset (sset (sset (sset noSlots 1 (.d (.sl 7 88 (l.map encC)))) 3 (.d (int a))) 4 (.d (int b))) 5 (.d (str ty))) 6 (.d (str f))) 9 (.d (.iptr (encE e)))) 15 (.ptr 40 0)) 17 (.ptr 41 0)) 19 (.d (int ((i : Nat) : Int)))) 81 (.d (.lit (.bool true)))), (hset (hset (hset (hset noHeap 41 (some (.box 49 [.d (.sl 1 24 ((chF s l (i)).1.map encS1)), .d (.sl 7 88 ((chF s l (i)).2.map encC))]))) 51 (some (.row 42 7 ((chF s l (i)).2.map encC)))) 50 (some (.row 24 1 ((chF s l (i)).1.map encS1)))) 40 (some (.box 73 [.row 50, .row 51])))⟩ from LE_sh (slh_set (v := .d (.lit (.bool true))) (slh_set (v := .d (int ((i : Nat) : Int))) (slh_set (v := .ptr 41 0) (slh_set (v := .ptr 40 0) (slh_set (v := .d (.iptr (encE e))) (slh_set (v := .d (str f)) (slh_set (v := .d (str ty)) (slh_set (v := .d (int b)) (slh_set (v := .d (int a)) (slh_set (v := .d (.sl 7 88 (l.map encC))) (slh_no _ _) (by rfl) rfl) (by rfl) rfl) (by rfl) rfl) (by rfl) rfl) (by rfl) rfl) (by rfl) rfl) (by rfl) rfl) (by rfl) rfl) (by rfl) rfl) (by rfl) rfl) (hlh_set (hlh_set (hlh_set (hlh_set (hlh_no _ _) rfl rfl) rfl rfl) rfl rfl) rfl rfl)) ?_
      refine OW_run' hE.ok 18 rfl ?_
      refine OW_end rfl ?_
      refine CW_true rfl ?_
      refine CW_seq ?_
      refine CW.le (show LE _ _ ⟨J, noSlots, noHeap⟩ from LE_sh (slh_no _ _) (hlh_no _ _)) ?_
      refine CW_region ?_
      refine OW_run' hE.ok 1 rfl ?_
      refine OW_end rfl ?_
      refine CW_ret ?_
      refine ⟨.inr rfl, rfl, ⟨_, rfl, rfl, ?_⟩, rfl⟩
      exact AVle.refl _
     ·
      refine OW.le (show LE _ _ ⟨J, (sset (sset (sset (sset (sset (sset (sset (sset (sset (sset noSlots 1 (.d (.sl 7 88 (l.map encC)))) 3 (.d (int a))) 4 (.d (int b))) 5 (.d (str ty))) 6 (.d (str f))) 9 (.d (.iptr (encE e)))) 15 (.ptr 40 0)) 17 (.ptr 41 0)) 19 (.d (int ((i : Nat) : Int)))) 81 (.d (.lit (.bool false)))), (hset (hset (hset (hset noHeap 41 (some (.box 49 [.d (.sl 1 24 ((chF s l (i)).1.map encS1)), .d (.sl 7 88 ((chF s l (i)).2.map encC))]))) 51 (some (.row 42 7 ((chF s l (i)).2.map encC)))) 50 (some (.row 24 1 ((chF s l (i)).1.map encS1)))) 40 (some (.box 73 [.row 50, .row 51])))⟩ from LE_sh (slh_set (v := .d (.lit (.bool false))) (slh_set (v := .d (int ((i : Nat) : Int))) (slh_set (v := .ptr 41 0) (slh_set (v := .ptr 40 0) (slh_set (v := .d (.iptr (encE e))) (slh_set (v := .d (str f)) (slh_set (v := .d (str ty)) (slh_set (v := .d (int b)) (slh_set (v := .d (int a)) (slh_set (v := .d (.sl 7 88 (l.map encC))) (slh_no _ _) (by rfl) rfl) (by rfl) rfl) (by rfl) rfl) (by rfl) rfl) (by rfl) rfl) (by rfl) rfl) (by rfl) rfl) (by rfl) rfl) (by rfl) rfl) (by rfl) rfl) (hlh_set (hlh_set (hlh_set (hlh_set (hlh_no _ _) rfl rfl) rfl rfl) rfl rfl) rfl rfl)) ?_
      refine OW_run' hE.ok 2 rfl ?_
      refine OW_loc' hE (loc_indexAddr hE rfl rfl rfl rfl rfl (by omega) (x := encC c) (by simp [hc])) rfl rfl rfl ?_
      refine OW_run' hE.ok 6 rfl ?_
      refine OW_split' 90 rfl (fun h6 => ?_) (fun h6 => ?_)
      ·
       refine OW.le (show LE _ _ ⟨J, (sset (sset (sset (sset (sset (sset (sset (sset (sset (sset noSlots 1 (.d (.sl 7 88 (l.map encC)))) 3 (.d (int a))) 4 (.d (int b))) 5 (.d (str ty))) 6 (.d (str f))) 9 (.d (.iptr (encE e)))) 15 (.ptr 40 0)) 17 (.ptr 41 0)) 19 (.d (int ((i : Nat) : Int)))) 90 (.d (.lit (.bool true)))), (hset (hset (hset (hset noHeap 41 (some (.box 49 [.d (.sl 1 24 ((chF s l (i)).1.map encS1)), .d (.sl 7 88 ((chF s l (i)).2.map encC))]))) 51 (some (.row 42 7 ((chF s l (i)).2.map encC)))) 50 (some (.row 24 1 ((chF s l (i)).1.map encS1)))) 40 (some (.box 73 [.row 50, .row 51])))⟩ from LE_sh (slh_set (v := .d (.lit (.bool true))) (slh_set (v := .d (int ((i : Nat) : Int))) (slh_set (v := .ptr 41 0) (slh_set (v := .ptr 40 0) (slh_set (v := .d (.iptr (encE e))) (slh_set (v := .d (str f)) (slh_set (v := .d (str ty)) (slh_set (v := .d (int b)) (slh_set (v := .d (int a)) (slh_set (v := .d (.sl 7 88 (l.map encC))) (slh_no _ _) (by rfl) rfl) (by rfl) rfl) (by rfl) rfl) (by rfl) rfl) (by rfl) rfl) (by rfl) rfl) (by rfl) rfl) (by rfl) rfl) (by rfl) rfl) (by rfl) rfl) (hlh_set (hlh_set (hlh_set (hlh_set (hlh_no _ _) rfl rfl) rfl rfl) rfl rfl) rfl rfl)) ?_
       refine OW_run' hE.ok 9 rfl ?_
       refine OW_end rfl ?_
       refine CW_true rfl ?_
       refine CW_seq ?_
       refine CW.le (show LE _ _ ⟨J, noSlots, noHeap⟩ from LE_sh (slh_no _ _) (hlh_no _ _)) ?_
       refine CW_region ?_
       refine OW_run' hE.ok 1 rfl ?_
       refine OW_end rfl ?_
       refine CW_ret ?_
       refine ⟨.inr rfl, rfl, ⟨_, rfl, rfl, ?_⟩, rfl⟩
       exact AVle.refl _
      ·
       refine OW.le (show LE _ _ ⟨J, (sset (sset (sset (sset (sset (sset (sset (sset (sset (sset noSlots 1 (.d (.sl 7 88 (l.map encC)))) 3 (.d (int a))) 4 (.d (int b))) 5 (.d (str ty))) 6 (.d (str f))) 9 (.d (.iptr (encE e)))) 15 (.ptr 40 0)) 17 (.ptr 41 0)) 19 (.d (int ((i : Nat) : Int)))) 90 (.d (.lit (.bool false)))), (hset (hset (hset (hset noHeap 41 (some (.box 49 [.d (.sl 1 24 ((chF s l (i)).1.map encS1)), .d (.sl 7 88 ((chF s l (i)).2.map encC))]))) 51 (some (.row 42 7 ((chF s l (i)).2.map encC)))) 50 (some (.row 24 1 ((chF s l (i)).1.map encS1)))) 40 (some (.box 73 [.row 50, .row 51])))⟩ from LE_sh (slh_set (v := .d (.lit (.bool false))) (slh_set (v := .d (int ((i : Nat) : Int))) (slh_set (v := .ptr 41 0) (slh_set (v := .ptr 40 0) (slh_set (v := .d (.iptr (encE e))) (slh_set (v := .d (str f)) (slh_set (v := .d (str ty)) (slh_set (v := .d (int b)) (slh_set (v := .d (int a)) (slh_set (v := .d (.sl 7 88 (l.map encC))) (slh_no _ _) (by rfl) rfl) (by rfl) rfl) (by rfl) rfl) (by rfl) rfl) (by rfl) rfl) (by rfl) rfl) (by rfl) rfl) (by rfl) rfl) (by rfl) rfl) (by rfl) rfl) (hlh_set (hlh_set (hlh_set (hlh_set (hlh_no _ _) rfl rfl) rfl rfl) rfl rfl) rfl rfl)) ?_
       refine OW_run' hE.ok 2 rfl ?_
       refine OW_loc' hE (loc_indexAddr hE rfl rfl rfl rfl rfl (by omega) (x := encC c) (by simp [hc])) rfl rfl rfl ?_
       refine OW_run' hE.ok 6 rfl ?_
       refine OW_end rfl ?_
       refine CW_cond _ rfl (fun h7 => ?_) (fun h7 => ?_)
       ·
        skip
        refine CW_seq ?_
        refine CW.le (show LE _ _ ⟨J, noSlots, noHeap⟩ from LE_sh (slh_no _ _) (hlh_no _ _)) ?_
        refine CW_region ?_
        refine OW_run' hE.ok 1 rfl ?_
        refine OW_end rfl ?_
        refine CW_ret ?_
        refine ⟨.inr rfl, rfl, ⟨_, rfl, rfl, ?_⟩, rfl⟩
        exact AVle.refl _
       ·
        skip
        refine CW_skip ?_
        refine CW_seq ?_
        refine CW.le (show LE _ _ ⟨J, (sset (sset (sset (sset (sset (sset (sset (sset (sset noSlots 1 (.d (.sl 7 88 (l.map encC)))) 3 (.d (int a))) 4 (.d (int b))) 5 (.d (str ty))) 6 (.d (str f))) 9 (.d (.iptr (encE e)))) 15 (.ptr 40 0)) 17 (.ptr 41 0)) 19 (.d (int ((i : Nat) : Int)))), (hset (hset (hset (hset noHeap 41 (some (.box 49 [.d (.sl 1 24 ((chF s l (i)).1.map encS1)), .d (.sl 7 88 ((chF s l (i)).2.map encC))]))) 51 (some (.row 42 7 ((chF s l (i)).2.map encC)))) 50 (some (.row 24 1 ((chF s l (i)).1.map encS1)))) 40 (some (.box 73 [.row 50, .row 51])))⟩ from LE_sh (slh_set (v := .d (int ((i : Nat) : Int))) (slh_set (v := .ptr 41 0) (slh_set (v := .ptr 40 0) (slh_set (v := .d (.iptr (encE e))) (slh_set (v := .d (str f)) (slh_set (v := .d (str ty)) (slh_set (v := .d (int b)) (slh_set (v := .d (int a)) (slh_set (v := .d (.sl 7 88 (l.map encC))) (slh_no _ _) (by rfl) rfl) (by rfl) rfl) (by rfl) rfl) (by rfl) rfl) (by rfl) rfl) (by rfl) rfl) (by rfl) rfl) (by rfl) rfl) (by rfl) rfl) (hlh_set (hlh_set (hlh_set (hlh_set (hlh_no _ _) rfl rfl) rfl rfl) rfl rfl) rfl rfl)) ?_
        have nk50 : ∀ j, nokey 50 ((sset (sset (sset (sset (sset (sset (sset (sset (sset noSlots 1 (.d (.sl 7 88 (l.map encC)))) 3 (.d (int a))) 4 (.d (int b))) 5 (.d (str ty))) 6 (.d (str f))) 9 (.d (.iptr (encE e)))) 15 (.ptr 40 0)) 17 (.ptr 41 0)) 19 (.d (int ((i : Nat) : Int)))) j) = true := by repeat (first | exact nokeyS_no _ | refine nokeyS_set ?_ rfl)
        have nk51 : ∀ j, nokey 51 ((sset (sset (sset (sset (sset (sset (sset (sset (sset noSlots 1 (.d (.sl 7 88 (l.map encC)))) 3 (.d (int a))) 4 (.d (int b))) 5 (.d (str ty))) 6 (.d (str f))) 9 (.d (.iptr (encE e)))) 15 (.ptr 40 0)) 17 (.ptr 41 0)) 19 (.d (int ((i : Nat) : Int)))) j) = true := by repeat (first | exact nokeyS_no _ | refine nokeyS_set ?_ rfl)
        have cM : ∀ (b : Nat → Bool) (p : Nat → Bool) j e, heapOf [(40, .box 73 [.row 50, .row 51]), (50, .row 24 1 ((addS (chF s l i).1 (chF s l i).2 c).map encS1)), (51, .row 42 7 ((addC (chF s l i).1 (chF s l i).2 c).map encC))] j = none → Tc.H (⟨[(40, .box 73 [.row 50, .row 51]), (50, .row 24 1 ((chF s l (i)).1.map encS1)), (51, .row 42 7 ((chF s l (i)).2.map encC))], [(40, .box 73 [.row 50, .row 51]), (50, .row 24 1 ((addS (chF s l i).1 (chF s l i).2 c).map encS1)), (51, .row 42 7 ((addC (chF s l i).1 (chF s l i).2 c).map encC))], [(41, .box 49 [.d (.sl 1 24 ((chF s l (i)).1.map encS1)), .d (.sl 7 88 ((chF s l (i)).2.map encC))])], [(41, .box 49 [.d (.sl 1 24 ((addS (chF s l i).1 (chF s l i).2 c).map encS1)), .d (.sl 7 88 ((addC (chF s l i).1 (chF s l i).2 c).map encC))])], 5, 12⟩ : Tc) b j = some e → unPE p e = e := fun b p => Tc.clean (t := (⟨[(40, .box 73 [.row 50, .row 51]), (50, .row 24 1 ((chF s l (i)).1.map encS1)), (51, .row 42 7 ((chF s l (i)).2.map encC))], [(40, .box 73 [.row 50, .row 51]), (50, .row 24 1 ((addS (chF s l i).1 (chF s l i).2 c).map encS1)), (51, .row 42 7 ((addC (chF s l i).1 (chF s l i).2 c).map encC))], [(41, .box 49 [.d (.sl 1 24 ((chF s l (i)).1.map encS1)), .d (.sl 7 88 ((chF s l (i)).2.map encC))])], [(41, .box 49 [.d (.sl 1 24 ((addS (chF s l i).1 (chF s l i).2 c).map encS1)), .d (.sl 7 88 ((addC (chF s l i).1 (chF s l i).2 c).map encC))])], 5, 12⟩ : Tc)) rfl (fun p x hx => by simp at hx; subst hx; exact unPE_box p 49 [.sl 1 24 ((chF s l (i)).1.map encS1), .sl 7 88 ((chF s l (i)).2.map encC)]) (fun p x hx => by simp at hx; subst hx; exact unPE_box p 49 [.sl 1 24 ((addS (chF s l i).1 (chF s l i).2 c).map encS1), .sl 7 88 ((addC (chF s l i).1 (chF s l i).2 c).map encC)]) p
        refine CW_drawnX hE 22 ⟨[5, 12, 16], Tc.H (⟨[(40, .box 73 [.row 50, .row 51]), (50, .row 24 1 ((chF s l (i)).1.map encS1)), (51, .row 42 7 ((chF s l (i)).2.map encC))], [(40, .box 73 [.row 50, .row 51]), (50, .row 24 1 ((addS (chF s l i).1 (chF s l i).2 c).map encS1)), (51, .row 42 7 ((addC (chF s l i).1 (chF s l i).2 c).map encC))], [(41, .box 49 [.d (.sl 1 24 ((chF s l (i)).1.map encS1)), .d (.sl 7 88 ((chF s l (i)).2.map encC))])], [(41, .box 49 [.d (.sl 1 24 ((addS (chF s l i).1 (chF s l i).2 c).map encS1)), .d (.sl 7 88 ((addC (chF s l i).1 (chF s l i).2 c).map encC))])], 5, 12⟩ : Tc), [(5, 50), (5, 51)]⟩ (by decide +kernel) rfl (fun b b' hb => Tc.dep (hb 5 (by simp)) (hb 12 (by simp))) (fun q k hm _ j => by simp at hm; rcases hm with ⟨rfl, rfl⟩ | ⟨rfl, rfl⟩ <;> first | exact nk50 j | exact nk51 j) (LE_eq (show _ = ov [(40, .box 73 [.row 50, .row 51]), (50, .row 24 1 ((chF s l (i)).1.map encS1)), (51, .row 42 7 ((chF s l (i)).2.map encC))] (heapOf [(41, .box 49 [.d (.sl 1 24 ((chF s l (i)).1.map encS1)), .d (.sl 7 88 ((chF s l (i)).2.map encC))])]) by rw [ov_cons, ov_cons, ov_cons, ov_nil]; rfl)) ?_
        refine HX_run hE 3 (h0 := noHeap) (fun _ => noHeap_no) rfl rfl rfl ?_
        refine HX_loc2 hE rfl rfl rfl (fun b _ => loc_indexAddr hE rfl rfl rfl rfl rfl (by omega) (x := encC c) (by simp [hc])) rfl rfl rfl ?_
        refine HX_run hE 1 (h0 := noHeap) (fun _ => noHeap_no) rfl rfl rfl ?_
        refine HX_callM hE (addOk (chF s l i).1 (chF s l i).2 c (chF_ok hs i)) rfl rfl rfl rfl rfl rfl (fun k hk => by have h1 : k ∈ [40, 50, 51] := (lost_mem hk).1; have h2 := (lost_mem hk).2; simp at h1; rcases h1 with rfl | rfl | rfl; exact absurd h2 (by decide); simp; simp) rfl rfl rfl (fun b hb => Tc.ent1 (t := (⟨[(40, .box 73 [.row 50, .row 51]), (50, .row 24 1 ((chF s l (i)).1.map encS1)), (51, .row 42 7 ((chF s l (i)).2.map encC))], [(40, .box 73 [.row 50, .row 51]), (50, .row 24 1 ((addS (chF s l i).1 (chF s l i).2 c).map encS1)), (51, .row 42 7 ((addC (chF s l i).1 (chF s l i).2 c).map encC))], [(41, .box 49 [.d (.sl 1 24 ((chF s l (i)).1.map encS1)), .d (.sl 7 88 ((chF s l (i)).2.map encC))])], [(41, .box 49 [.d (.sl 1 24 ((addS (chF s l i).1 (chF s l i).2 c).map encS1)), .d (.sl 7 88 ((addC (chF s l i).1 (chF s l i).2 c).map encC))])], 5, 12⟩ : Tc)) (by show [40, 50, 51].Nodup; decide) hb.2.1) (fun b hb => freshL_self _ _ (by intro x hx; simp at hx; rcases hx with rfl | rfl | rfl <;> rfl)) (fun b hb => cM b _) rfl (fun b hb => Tc.put1 (t := (⟨[(40, .box 73 [.row 50, .row 51]), (50, .row 24 1 ((chF s l (i)).1.map encS1)), (51, .row 42 7 ((chF s l (i)).2.map encC))], [(40, .box 73 [.row 50, .row 51]), (50, .row 24 1 ((addS (chF s l i).1 (chF s l i).2 c).map encS1)), (51, .row 42 7 ((addC (chF s l i).1 (chF s l i).2 c).map encC))], [(41, .box 49 [.d (.sl 1 24 ((chF s l (i)).1.map encS1)), .d (.sl 7 88 ((chF s l (i)).2.map encC))])], [(41, .box 49 [.d (.sl 1 24 ((addS (chF s l i).1 (chF s l i).2 c).map encS1)), .d (.sl 7 88 ((addC (chF s l i).1 (chF s l i).2 c).map encC))])], 5, 12⟩ : Tc)) rfl (by show (5 : Nat) ≠ 12; decide)) ?_
        refine HX_callW hE (code8Ok _) hJ rfl rfl rfl rfl rfl rfl rfl rfl rfl rfl ?_
        refine HX_run hE 3 (h0 := noHeap) (fun _ => noHeap_no) rfl rfl rfl ?_
        refine HX_loc2 hE rfl rfl rfl (fun b _ => loc_indexAddr hE rfl rfl rfl rfl rfl (by omega) (x := encC c) (by simp [hc])) rfl rfl rfl ?_
        refine HX_run hE 1 (h0 := noHeap) (fun _ => noHeap_no) rfl rfl rfl ?_
        refine HX_callM hE (rAddOk (chF s l i).1 (chF s l i).2 c (chF_ok hs i)) rfl rfl rfl rfl rfl rfl (fun k hk => by have h1 : k ∈ [41] := (lost_mem hk).1; have h2 := (lost_mem hk).2; simp at h1; subst h1; exact absurd h2 (by decide)) rfl rfl rfl (fun b hb => Tc.ent2 (t := (⟨[(40, .box 73 [.row 50, .row 51]), (50, .row 24 1 ((chF s l (i)).1.map encS1)), (51, .row 42 7 ((chF s l (i)).2.map encC))], [(40, .box 73 [.row 50, .row 51]), (50, .row 24 1 ((addS (chF s l i).1 (chF s l i).2 c).map encS1)), (51, .row 42 7 ((addC (chF s l i).1 (chF s l i).2 c).map encC))], [(41, .box 49 [.d (.sl 1 24 ((chF s l (i)).1.map encS1)), .d (.sl 7 88 ((chF s l (i)).2.map encC))])], [(41, .box 49 [.d (.sl 1 24 ((addS (chF s l i).1 (chF s l i).2 c).map encS1)), .d (.sl 7 88 ((addC (chF s l i).1 (chF s l i).2 c).map encC))])], 5, 12⟩ : Tc)) (by show [41].Nodup; decide) rfl (by show ∀ k ∈ [41], k ∉ [40, 50, 51]; decide) hb.2.1) (fun b hb => freshL_self _ _ (by intro x hx; simp at hx; subst hx; rfl)) (fun b hb j e _ _ => by rw [show lostP (tr []) [(41, .box 49 [.d (.sl 1 24 ((chF s l (i)).1.map encS1)), .d (.sl 7 88 ((chF s l (i)).2.map encC))])] [41] = fun _ => false from lostP_all [(41, .box 49 [.d (.sl 1 24 ((chF s l (i)).1.map encS1)), .d (.sl 7 88 ((chF s l (i)).2.map encC))])]]; exact unPE_false e) rfl (fun b hb => Tc.put2 (t := (⟨[(40, .box 73 [.row 50, .row 51]), (50, .row 24 1 ((chF s l (i)).1.map encS1)), (51, .row 42 7 ((chF s l (i)).2.map encC))], [(40, .box 73 [.row 50, .row 51]), (50, .row 24 1 ((addS (chF s l i).1 (chF s l i).2 c).map encS1)), (51, .row 42 7 ((addC (chF s l i).1 (chF s l i).2 c).map encC))], [(41, .box 49 [.d (.sl 1 24 ((chF s l (i)).1.map encS1)), .d (.sl 7 88 ((chF s l (i)).2.map encC))])], [(41, .box 49 [.d (.sl 1 24 ((addS (chF s l i).1 (chF s l i).2 c).map encS1)), .d (.sl 7 88 ((addC (chF s l i).1 (chF s l i).2 c).map encC))])], 5, 12⟩ : Tc)) rfl rfl (by show ∀ k ∈ [40, 50, 51], k ∉ [41]; decide) (by show (5 : Nat) ≠ 12; decide)) ?_
        refine HX_run hE 1 (h0 := noHeap) (fun _ => noHeap_no) rfl rfl rfl ?_
        refine HX_as 113 (.d (boo false)) (congrArg (fun b => AV.d (boo b)) (by simp)) ?_
        refine HX_run hE 2 (h0 := noHeap) (fun _ => noHeap_no) rfl rfl rfl ?_
        refine HX_callRG hE (nowOk (addS (chF s l i).1 (chF s l i).2 c) (addC (chF s l i).1 (chF s l i).2 c)) rfl rfl rfl rfl rfl rfl rfl rfl rfl (fun b hb => by have b14 := hb.2.2 14 (by kernel_rfl); have b13 := hb.1 14 _ rfl b14 13 (by kernel_rfl); have b12 := hb.1 13 _ rfl b13 12 (by kernel_rfl); have b6 := hb.1 13 _ rfl b13 6 (by kernel_rfl); have b5 := hb.1 6 _ rfl b6 5 (by kernel_rfl); exact allE_self (by show [40, 50, 51].Nodup; decide) fun k x hk => by show (match heapOf (bif b 5 then [(40, .box 73 [.row 50, .row 51]), (50, .row 24 1 ((addS (chF s l i).1 (chF s l i).2 c).map encS1)), (51, .row 42 7 ((addC (chF s l i).1 (chF s l i).2 c).map encC))] else [(40, .box 73 [.row 50, .row 51]), (50, .row 24 1 ((chF s l (i)).1.map encS1)), (51, .row 42 7 ((chF s l (i)).2.map encC))]) k with | some e => some e | none => _) = _; rw [b5]; show (match heapOf [(40, .box 73 [.row 50, .row 51]), (50, .row 24 1 ((addS (chF s l i).1 (chF s l i).2 c).map encS1)), (51, .row 42 7 ((addC (chF s l i).1 (chF s l i).2 c).map encC))] k with | some e => some e | none => _) = _; rw [hk]) (fun b hb => freshL_self _ _ (by intro x hx; simp at hx; rcases hx with rfl | rfl | rfl <;> rfl)) rfl (fun b hb => Tc.dep (bset_at b 16 5 rfl).symm (bset_at b 16 12 rfl).symm) ?_
        refine HX_run hE 3 (h0 := noHeap) (fun _ => noHeap_no) rfl rfl rfl ?_
        refine HX_loc2 hE rfl rfl rfl (fun b hb => loc_loadBox hE rfl rfl rfl (by have b14 := hb.2.2 14 (by kernel_rfl); have b13 := hb.1 14 _ rfl b14 13 (by kernel_rfl); have b12 := hb.1 13 _ rfl b13 12 (by kernel_rfl); have b6 := hb.1 13 _ rfl b13 6 (by kernel_rfl); have b5 := hb.1 6 _ rfl b6 5 (by kernel_rfl); show ov (bif b 5 then [(40, .box 73 [.row 50, .row 51]), (50, .row 24 1 ((addS (chF s l i).1 (chF s l i).2 c).map encS1)), (51, .row 42 7 ((addC (chF s l i).1 (chF s l i).2 c).map encC))] else [(40, .box 73 [.row 50, .row 51]), (50, .row 24 1 ((chF s l (i)).1.map encS1)), (51, .row 42 7 ((chF s l (i)).2.map encC))]) (heapOf (bif b 12 then [(41, .box 49 [.d (.sl 1 24 ((addS (chF s l i).1 (chF s l i).2 c).map encS1)), .d (.sl 7 88 ((addC (chF s l i).1 (chF s l i).2 c).map encC))])] else [(41, .box 49 [.d (.sl 1 24 ((chF s l (i)).1.map encS1)), .d (.sl 7 88 ((chF s l (i)).2.map encC))])])) 41 = some (Ent.box 49 [.d (.sl 1 24 ((addS (chF s l i).1 (chF s l i).2 c).map encS1)), .d (.sl 7 88 ((addC (chF s l i).1 (chF s l i).2 c).map encC))]); rw [b5, b12]; rfl) rfl) rfl rfl rfl ?_
        refine HX_run hE 1 (h0 := noHeap) (fun _ => noHeap_no) rfl rfl rfl ?_
        refine HX_end ?_
        refine OW.le (LE_eq (show Tc.H (⟨[(40, .box 73 [.row 50, .row 51]), (50, .row 24 1 ((chF s l (i)).1.map encS1)), (51, .row 42 7 ((chF s l (i)).2.map encC))], [(40, .box 73 [.row 50, .row 51]), (50, .row 24 1 ((addS (chF s l i).1 (chF s l i).2 c).map encS1)), (51, .row 42 7 ((addC (chF s l i).1 (chF s l i).2 c).map encC))], [(41, .box 49 [.d (.sl 1 24 ((chF s l (i)).1.map encS1)), .d (.sl 7 88 ((chF s l (i)).2.map encC))])], [(41, .box 49 [.d (.sl 1 24 ((addS (chF s l i).1 (chF s l i).2 c).map encS1)), .d (.sl 7 88 ((addC (chF s l i).1 (chF s l i).2 c).map encC))])], 5, 12⟩ : Tc) (fun _ => true) = (hset (hset (hset (hset noHeap 41 (some (.box 49 [.d (.sl 1 24 ((addS (chF s l i).1 (chF s l i).2 c).map encS1)), .d (.sl 7 88 ((addC (chF s l i).1 (chF s l i).2 c).map encC))]))) 51 (some (.row 42 7 ((addC (chF s l i).1 (chF s l i).2 c).map encC)))) 50 (some (.row 24 1 ((addS (chF s l i).1 (chF s l i).2 c).map encS1)))) 40 (some (.box 73 [.row 50, .row 51]))) by show ov [(40, .box 73 [.row 50, .row 51]), (50, .row 24 1 ((addS (chF s l i).1 (chF s l i).2 c).map encS1)), (51, .row 42 7 ((addC (chF s l i).1 (chF s l i).2 c).map encC))] (heapOf [(41, .box 49 [.d (.sl 1 24 ((addS (chF s l i).1 (chF s l i).2 c).map encS1)), .d (.sl 7 88 ((addC (chF s l i).1 (chF s l i).2 c).map encC))])]) = _; rw [ov_cons, ov_cons, ov_cons, ov_nil]; rfl)) ?_
        refine OW_run' hE.ok 1 rfl ?_
        refine OW_as' 122 (.d (boo false)) (by exact congrArg (fun b => AV.d (boo b)) (by rw [List.length_map]; simp)) ?_
        refine OW_run' hE.ok 1 rfl ?_
        refine OW_end rfl ?_
        refine CW_false rfl ?_
        refine CW_skip ?_
        refine CW_region ?_
        refine OW_run' hE.ok 3 rfl ?_
        refine OW_end rfl ?_
        refine ⟨⟨i + 1, hlt⟩, LE_sh (slh_set (v := .d (int ((i + 1 : Nat) : Int))) (slh_set (v := .ptr 41 0) (slh_set (v := .ptr 40 0) (slh_set (v := .d (.iptr (encE e))) (slh_set (v := .d (str f)) (slh_set (v := .d (str ty)) (slh_set (v := .d (int b)) (slh_set (v := .d (int a)) (slh_set (v := .d (.sl 7 88 (l.map encC))) (slh_no _ _) (by rfl) rfl) (by rfl) rfl) (by rfl) rfl) (by rfl) rfl) (by rfl) rfl) (by rfl) rfl) (by rfl) rfl) (by rfl) rfl) (by show AV.d (.lit (.int .i64 (IntKind.i64.wrap ((i : Int) + 1)))) = _; rw [wrap_succ (by omega)]; rfl) rfl) (hlh_set (hlh_set (hlh_set (hlh_set (hlh_no _ _) (by exact congrArg (fun z : List (List Ty) × List Chg => some (Ent.box 49 [.d (.sl 1 24 (z.1.map encS1)), .d (.sl 7 88 (z.2.map encC))])) (chF_succ hc).symm) rfl) (by exact congrArg (fun z : List (List Ty) × List Chg => some (Ent.row 42 7 (z.2.map encC))) (chF_succ hc).symm) rfl) (by exact congrArg (fun z : List (List Ty) × List Chg => some (Ent.row 24 1 (z.1.map encS1))) (chF_succ hc).symm) rfl) rfl rfl), by show l.length - (i + 1) < l.length - i; omega⟩
    ·
     have hge : i = l.length := by have := h4; rw [List.length_map] at this; simp at this; omega
     refine CW_exit ?_
     show CW _ _ _ _
     refine CW_seq ?_
     refine CW.le (show LE _ _ ⟨J, (sset (sset (sset (sset (sset (sset (sset (sset noSlots 1 (.d (.sl 7 88 (l.map encC)))) 3 (.d (int a))) 4 (.d (int b))) 5 (.d (str ty))) 6 (.d (str f))) 9 (.d (.iptr (encE e)))) 15 (.ptr 40 0)) 17 (.ptr 41 0)), (hset (hset (hset (hset noHeap 41 (some (.box 49 [.d (.sl 1 24 ((chF s l (l.length)).1.map encS1)), .d (.sl 7 88 ((chF s l (l.length)).2.map encC))]))) 51 (some (.row 42 7 ((chF s l (l.length)).2.map encC)))) 50 (some (.row 24 1 ((chF s l (l.length)).1.map encS1)))) 40 (some (.box 73 [.row 50, .row 51])))⟩ from LE_sh (slh_set (v := .ptr 41 0) (slh_set (v := .ptr 40 0) (slh_set (v := .d (.iptr (encE e))) (slh_set (v := .d (str f)) (slh_set (v := .d (str ty)) (slh_set (v := .d (int b)) (slh_set (v := .d (int a)) (slh_set (v := .d (.sl 7 88 (l.map encC))) (slh_no _ _) (by rfl) rfl) (by rfl) rfl) (by rfl) rfl) (by rfl) rfl) (by rfl) rfl) (by rfl) rfl) (by rfl) rfl) (by rfl) rfl) (hlh_set (hlh_set (hlh_set (hlh_set (hlh_no _ _) (by exact congrArg (fun z : Nat => some (Ent.box 49 [.d (.sl 1 24 ((chF s l (z)).1.map encS1)), .d (.sl 7 88 ((chF s l (z)).2.map encC))])) hge) rfl) (by exact congrArg (fun z : Nat => some (Ent.row 42 7 ((chF s l (z)).2.map encC))) hge) rfl) (by exact congrArg (fun z : Nat => some (Ent.row 24 1 ((chF s l (z)).1.map encS1))) hge) rfl) rfl rfl)) ?_
     have hok := chF_ok (l := l) hs l.length
     have hcl := hok.few
     have hsl := hok.len
     refine CW.le (LE_freeze 50 24 rfl (by simp <;> omega)) ?_
     refine CW.le (LE_freeze 51 88 rfl (by simp <;> omega)) ?_
     refine CW.le (LE_freezeBox 40 (ds := encCh (chF s l l.length).1 (chF s l l.length).2) rfl rfl) ?_
     refine CW.le (LE_freezeBox 41 (ds := encCh (chF s l l.length).1 (chF s l l.length).2) rfl rfl) ?_
     refine CW.le (show LE _ _ ⟨J, (sset (sset (sset (sset (sset (sset (sset noSlots 3 (.d (int a))) 4 (.d (int b))) 5 (.d (str ty))) 6 (.d (str f))) 9 (.d (.iptr (encE e)))) 15 (.d (.iptr (encCh (chF s l l.length).1 (chF s l l.length).2)))) 17 (.d (.iptr (encCh (chF s l l.length).1 (chF s l l.length).2)))), noHeap⟩ from LE_sh (slh_set (v := .d (.iptr (encCh (chF s l l.length).1 (chF s l l.length).2))) (slh_set (v := .d (.iptr (encCh (chF s l l.length).1 (chF s l l.length).2))) (slh_set (v := .d (.iptr (encE e))) (slh_set (v := .d (str f)) (slh_set (v := .d (str ty)) (slh_set (v := .d (int b)) (slh_set (v := .d (int a)) (slh_no _ _) (by rfl) rfl) (by rfl) rfl) (by rfl) rfl) (by rfl) rfl) (by rfl) rfl) (by rfl) rfl) (by rfl) rfl) (hlh_no _ _)) ?_
     refine CW_region ?_
     refine OW_run' hE.ok 4 rfl ?_
     refine OW_call' hE (moveD (chF s l l.length).1 (chF s l l.length).2 e a b hok) rfl rfl rfl rfl rfl rfl rfl ?_
     refine OW_run' hE.ok 3 rfl ?_
     refine OW_alloc' hE 1 rfl rfl rfl rfl rfl rfl rfl ?_
     refine OW_store' hE rfl rfl rfl rfl rfl rfl rfl rfl rfl rfl rfl rfl ?_
     refine OW_run' hE.ok 1 rfl ?_
     refine OW_end rfl ?_
     refine CW_seq ?_
     refine CW.le (show LE _ _ ⟨J, (sset (sset (sset (sset (sset (sset (sset (sset (sset noSlots 3 (.d (int a))) 4 (.d (int b))) 5 (.d (str ty))) 6 (.d (str f))) 9 (.d (.iptr (encE e)))) 15 (.d (.iptr (encCh (chF s l l.length).1 (chF s l l.length).2)))) 17 (.d (.iptr (encCh (chF s l l.length).1 (chF s l l.length).2)))) 20 (.ptr 1 0)) 21 (.d (errC 68 (mvAt (chF s l l.length).1 (chF s l l.length).2 e a b).2))), (hset noHeap 1 (some (.box 28 ((encE (mvAt (chF s l l.length).1 (chF s l l.length).2 e a b).1).map .d))))⟩ from LE_sh (slh_set (v := .d (errC 68 (mvAt (chF s l l.length).1 (chF s l l.length).2 e a b).2)) (slh_set (v := .ptr 1 0) (slh_set (v := .d (.iptr (encCh (chF s l l.length).1 (chF s l l.length).2))) (slh_set (v := .d (.iptr (encCh (chF s l l.length).1 (chF s l l.length).2))) (slh_set (v := .d (.iptr (encE e))) (slh_set (v := .d (str f)) (slh_set (v := .d (str ty)) (slh_set (v := .d (int b)) (slh_set (v := .d (int a)) (slh_no _ _) (by rfl) rfl) (by rfl) rfl) (by rfl) rfl) (by rfl) rfl) (by rfl) rfl) (by rfl) rfl) (by rfl) rfl) (by rfl) rfl) (by rfl) rfl) (hlh_set (hlh_no _ _) rfl rfl)) ?_
     refine CW_region ?_
     refine OW_run' hE.ok 4 rfl ?_
     refine OW_call' hE (rMoveD (chF s l l.length).1 (chF s l l.length).2 e a b hok) rfl rfl rfl rfl rfl rfl rfl ?_
     refine OW_run' hE.ok 3 rfl ?_
     refine OW_alloc' hE 2 rfl rfl rfl rfl rfl rfl rfl ?_
     refine OW_store' hE rfl rfl rfl rfl rfl rfl rfl rfl rfl rfl rfl rfl ?_
     refine OW_run' hE.ok 1 rfl ?_
     refine OW_end rfl ?_
     refine CW_seq ?_
     refine CW.le (show LE _ _ ⟨J, (sset (sset (sset (sset (sset (sset (sset (sset (sset (sset (sset noSlots 3 (.d (int a))) 4 (.d (int b))) 5 (.d (str ty))) 6 (.d (str f))) 9 (.d (.iptr (encE e)))) 15 (.d (.iptr (encCh (chF s l l.length).1 (chF s l l.length).2)))) 17 (.d (.iptr (encCh (chF s l l.length).1 (chF s l l.length).2)))) 20 (.ptr 1 0)) 21 (.d (errC 68 (mvAt (chF s l l.length).1 (chF s l l.length).2 e a b).2))) 22 (.ptr 2 0)) 23 (.d (int (mvAt (chF s l l.length).1 (chF s l l.length).2 e a b).2))), (hset (hset noHeap 1 (some (.box 28 ((encE (mvAt (chF s l l.length).1 (chF s l l.length).2 e a b).1).map .d)))) 2 (some (.box 28 ((encE (mvAt (chF s l l.length).1 (chF s l l.length).2 e a b).1).map .d))))⟩ from LE_sh (slh_set (v := .d (int (mvAt (chF s l l.length).1 (chF s l l.length).2 e a b).2)) (slh_set (v := .ptr 2 0) (slh_set (v := .d (errC 68 (mvAt (chF s l l.length).1 (chF s l l.length).2 e a b).2)) (slh_set (v := .ptr 1 0) (slh_set (v := .d (.iptr (encCh (chF s l l.length).1 (chF s l l.length).2))) (slh_set (v := .d (.iptr (encCh (chF s l l.length).1 (chF s l l.length).2))) (slh_set (v := .d (.iptr (encE e))) (slh_set (v := .d (str f)) (slh_set (v := .d (str ty)) (slh_set (v := .d (int b)) (slh_set (v := .d (int a)) (slh_no _ _) (by rfl) rfl) (by rfl) rfl) (by rfl) rfl) (by rfl) rfl) (by rfl) rfl) (by rfl) rfl) (by rfl) rfl) (by rfl) rfl) (by rfl) rfl) (by rfl) rfl) (by rfl) rfl) (hlh_set (hlh_set (hlh_no _ _) rfl rfl) rfl rfl)) ?_
     refine CW_region ?_
     refine OW_run' hE.ok 5 rfl ?_
     refine OW_call' hE (backD (chF s l l.length).1 (chF s l l.length).2 ty f a b hok) rfl rfl rfl rfl rfl rfl rfl ?_
     refine OW_run' hE.ok 5 rfl ?_
     refine OW_end rfl ?_
     refine CW_cutE (fun _ : Unit => ⟨J, (sset (sset (sset (sset (sset (sset (sset (sset (sset (sset (sset (sset (sset (sset (sset noSlots 3 (.d (int a))) 4 (.d (int b))) 5 (.d (str ty))) 6 (.d (str f))) 9 (.d (.iptr (encE e)))) 15 (.d (.iptr (encCh (chF s l l.length).1 (chF s l l.length).2)))) 17 (.d (.iptr (encCh (chF s l l.length).1 (chF s l l.length).2)))) 20 (.ptr 1 0)) 21 (.d (errC 68 (mvAt (chF s l l.length).1 (chF s l l.length).2 e a b).2))) 22 (.ptr 2 0)) 23 (.d (int (mvAt (chF s l l.length).1 (chF s l l.length).2 e a b).2))) 24 (.d (str (backAt (chF s l l.length).1 (chF s l l.length).2 ty f a b).1))) 25 (.d (boo (backAt (chF s l l.length).1 (chF s l l.length).2 ty f a b).2))) 26 (.d (str (backAt (chF s l l.length).1 (chF s l l.length).2 ty f a b).1))) 27 (.d (boo (backAt (chF s l l.length).1 (chF s l l.length).2 ty f a b).2))), (hset (hset noHeap 1 (some (.box 28 ((encE (mvAt (chF s l l.length).1 (chF s l l.length).2 e a b).1).map .d)))) 2 (some (.box 28 ((encE (mvAt (chF s l l.length).1 (chF s l l.length).2 e a b).1).map .d))))⟩) (fun _ => True) ?_ ?_
     ·
      refine CW.le (show LE _ _ ⟨J, (sset (sset (sset (sset (sset (sset (sset (sset (sset (sset (sset (sset (sset noSlots 3 (.d (int a))) 4 (.d (int b))) 5 (.d (str ty))) 6 (.d (str f))) 9 (.d (.iptr (encE e)))) 15 (.d (.iptr (encCh (chF s l l.length).1 (chF s l l.length).2)))) 17 (.d (.iptr (encCh (chF s l l.length).1 (chF s l l.length).2)))) 20 (.ptr 1 0)) 21 (.d (errC 68 (mvAt (chF s l l.length).1 (chF s l l.length).2 e a b).2))) 22 (.ptr 2 0)) 23 (.d (int (mvAt (chF s l l.length).1 (chF s l l.length).2 e a b).2))) 24 (.d (str (backAt (chF s l l.length).1 (chF s l l.length).2 ty f a b).1))) 25 (.d (boo (backAt (chF s l l.length).1 (chF s l l.length).2 ty f a b).2))), (hset (hset noHeap 1 (some (.box 28 ((encE (mvAt (chF s l l.length).1 (chF s l l.length).2 e a b).1).map .d)))) 2 (some (.box 28 ((encE (mvAt (chF s l l.length).1 (chF s l l.length).2 e a b).1).map .d))))⟩ from LE_sh (slh_set (v := .d (boo (backAt (chF s l l.length).1 (chF s l l.length).2 ty f a b).2)) (slh_set (v := .d (str (backAt (chF s l l.length).1 (chF s l l.length).2 ty f a b).1)) (slh_set (v := .d (int (mvAt (chF s l l.length).1 (chF s l l.length).2 e a b).2)) (slh_set (v := .ptr 2 0) (slh_set (v := .d (errC 68 (mvAt (chF s l l.length).1 (chF s l l.length).2 e a b).2)) (slh_set (v := .ptr 1 0) (slh_set (v := .d (.iptr (encCh (chF s l l.length).1 (chF s l l.length).2))) (slh_set (v := .d (.iptr (encCh (chF s l l.length).1 (chF s l l.length).2))) (slh_set (v := .d (.iptr (encE e))) (slh_set (v := .d (str f)) (slh_set (v := .d (str ty)) (slh_set (v := .d (int b)) (slh_set (v := .d (int a)) (slh_no _ _) (by rfl) rfl) (by rfl) rfl) (by rfl) rfl) (by rfl) rfl) (by rfl) rfl) (by rfl) rfl) (by rfl) rfl) (by rfl) rfl) (by rfl) rfl) (by rfl) rfl) (by rfl) rfl) (by rfl) rfl) (by rfl) rfl) (hlh_set (hlh_set (hlh_no _ _) rfl rfl) rfl rfl)) ?_
      refine CW_region ?_
      refine OW_run' hE.ok 5 rfl ?_
      refine OW_call' hE (rBackD (chF s l l.length).1 (chF s l l.length).2 ty f a b hok) rfl rfl rfl rfl rfl rfl rfl ?_
      refine OW_run' hE.ok 5 rfl ?_
      refine OW_end rfl ?_
      exact ⟨(), trivial, LE_sh (slh_set (v := .d (boo (backAt (chF s l l.length).1 (chF s l l.length).2 ty f a b).2)) (slh_set (v := .d (str (backAt (chF s l l.length).1 (chF s l l.length).2 ty f a b).1)) (slh_set (v := .d (boo (backAt (chF s l l.length).1 (chF s l l.length).2 ty f a b).2)) (slh_set (v := .d (str (backAt (chF s l l.length).1 (chF s l l.length).2 ty f a b).1)) (slh_set (v := .d (int (mvAt (chF s l l.length).1 (chF s l l.length).2 e a b).2)) (slh_set (v := .ptr 2 0) (slh_set (v := .d (errC 68 (mvAt (chF s l l.length).1 (chF s l l.length).2 e a b).2)) (slh_set (v := .ptr 1 0) (slh_set (v := .d (.iptr (encCh (chF s l l.length).1 (chF s l l.length).2))) (slh_set (v := .d (.iptr (encCh (chF s l l.length).1 (chF s l l.length).2))) (slh_set (v := .d (.iptr (encE e))) (slh_set (v := .d (str f)) (slh_set (v := .d (str ty)) (slh_set (v := .d (int b)) (slh_set (v := .d (int a)) (slh_no _ _) (by rfl) rfl) (by rfl) rfl) (by rfl) rfl) (by rfl) rfl) (by rfl) rfl) (by rfl) rfl) (by rfl) rfl) (by rfl) rfl) (by rfl) rfl) (by rfl) rfl) (by rfl) rfl) (by rfl) rfl) (by rfl) rfl) (by rfl) rfl) (by rfl) rfl) (hlh_set (hlh_set (hlh_no _ _) rfl rfl) rfl rfl)⟩
     ·
      rintro _ _
      have hok := chF_ok (l := l) hs l.length
      have hcl := hok.few
      have hsl := hok.len
      have hcs : isIn (chF s l l.length).2 b = false ∨ ∃ (k : Nat) (t : List Ty), b = (k : Int) ∧ (chF s l l.length).1[k]? = some t := by
       cases hb : isIn (chF s l l.length).2 b with
       | false => exact .inl rfl
       | true => exact .inr (by obtain ⟨k, e1, hk⟩ := isIn_at hb; obtain ⟨t, ht, _⟩ := hok.at hk; exact ⟨k, t, e1, ht⟩)
      rcases hcs with hb | ⟨kb, t, hbk, ht⟩
      ·
       skip
       refine CW_seq ?_
       refine CW_region ?_
       refine OW_run' hE.ok 2 rfl ?_
       refine OW_call' hE (atNo (chF s l l.length).1 (chF s l l.length).2 b hb) rfl rfl rfl rfl rfl rfl rfl ?_
       refine OW_run' hE.ok 3 rfl ?_
       refine OW_alloc' hE 3 rfl rfl rfl rfl rfl rfl rfl ?_
       refine OW_store' hE rfl rfl rfl rfl rfl rfl rfl rfl rfl rfl rfl rfl ?_
       refine OW_run' hE.ok 1 rfl ?_
       refine OW_end rfl ?_
       refine CW_seq ?_
       refine CW.le (show LE _ _ ⟨J, (sset (sset (sset (sset (sset (sset (sset (sset (sset (sset (sset (sset (sset (sset (sset (sset (sset noSlots 3 (.d (int a))) 4 (.d (int b))) 5 (.d (str ty))) 6 (.d (str f))) 9 (.d (.iptr (encE e)))) 15 (.d (.iptr (encCh (chF s l l.length).1 (chF s l l.length).2)))) 17 (.d (.iptr (encCh (chF s l l.length).1 (chF s l l.length).2)))) 20 (.ptr 1 0)) 21 (.d (errC 68 (mvAt (chF s l l.length).1 (chF s l l.length).2 e a b).2))) 22 (.ptr 2 0)) 23 (.d (int (mvAt (chF s l l.length).1 (chF s l l.length).2 e a b).2))) 24 (.d (str (backAt (chF s l l.length).1 (chF s l l.length).2 ty f a b).1))) 25 (.d (boo (backAt (chF s l l.length).1 (chF s l l.length).2 ty f a b).2))) 26 (.d (str (backAt (chF s l l.length).1 (chF s l l.length).2 ty f a b).1))) 27 (.d (boo (backAt (chF s l l.length).1 (chF s l l.length).2 ty f a b).2))) 28 (.ptr 3 0)) 29 (.d (boo false))), (hset (hset (hset noHeap 1 (some (.box 28 ((encE (mvAt (chF s l l.length).1 (chF s l l.length).2 e a b).1).map .d)))) 2 (some (.box 28 ((encE (mvAt (chF s l l.length).1 (chF s l l.length).2 e a b).1).map .d)))) 3 (some (.box 24 [.d (encS ([] : List Ty))])))⟩ from LE_sh (slh_set (v := .d (boo false)) (slh_set (v := .ptr 3 0) (slh_set (v := .d (boo (backAt (chF s l l.length).1 (chF s l l.length).2 ty f a b).2)) (slh_set (v := .d (str (backAt (chF s l l.length).1 (chF s l l.length).2 ty f a b).1)) (slh_set (v := .d (boo (backAt (chF s l l.length).1 (chF s l l.length).2 ty f a b).2)) (slh_set (v := .d (str (backAt (chF s l l.length).1 (chF s l l.length).2 ty f a b).1)) (slh_set (v := .d (int (mvAt (chF s l l.length).1 (chF s l l.length).2 e a b).2)) (slh_set (v := .ptr 2 0) (slh_set (v := .d (errC 68 (mvAt (chF s l l.length).1 (chF s l l.length).2 e a b).2)) (slh_set (v := .ptr 1 0) (slh_set (v := .d (.iptr (encCh (chF s l l.length).1 (chF s l l.length).2))) (slh_set (v := .d (.iptr (encCh (chF s l l.length).1 (chF s l l.length).2))) (slh_set (v := .d (.iptr (encE e))) (slh_set (v := .d (str f)) (slh_set (v := .d (str ty)) (slh_set (v := .d (int b)) (slh_set (v := .d (int a)) (slh_no _ _) (by rfl) rfl) (by rfl) rfl) (by rfl) rfl) (by rfl) rfl) (by rfl) rfl) (by rfl) rfl) (by rfl) rfl) (by rfl) rfl) (by rfl) rfl) (by rfl) rfl) (by rfl) rfl) (by rfl) rfl) (by rfl) rfl) (by rfl) rfl) (by rfl) rfl) (by rfl) rfl) (by rfl) rfl) (hlh_set (hlh_set (hlh_set (hlh_no _ _) rfl rfl) rfl rfl) rfl rfl)) ?_
       refine CW_region ?_
       refine OW_run' hE.ok 2 rfl ?_
       refine OW_call' hE (rAtNo (chF s l l.length).1 (chF s l l.length).2 b hsl hb) rfl rfl rfl rfl rfl rfl rfl ?_
       refine OW_run' hE.ok 3 rfl ?_
       refine OW_alloc' hE 4 rfl rfl rfl rfl rfl rfl rfl ?_
       refine OW_store' hE rfl rfl rfl rfl rfl rfl rfl rfl rfl rfl rfl rfl ?_
       refine OW_run' hE.ok 1 rfl ?_
       refine OW_end rfl ?_
       refine CW_seq ?_
       refine CW.le (show LE _ _ ⟨J, (sset (sset (sset (sset (sset (sset (sset (sset (sset (sset (sset (sset (sset (sset (sset (sset (sset (sset (sset noSlots 3 (.d (int a))) 4 (.d (int b))) 5 (.d (str ty))) 6 (.d (str f))) 9 (.d (.iptr (encE e)))) 15 (.d (.iptr (encCh (chF s l l.length).1 (chF s l l.length).2)))) 17 (.d (.iptr (encCh (chF s l l.length).1 (chF s l l.length).2)))) 20 (.ptr 1 0)) 21 (.d (errC 68 (mvAt (chF s l l.length).1 (chF s l l.length).2 e a b).2))) 22 (.ptr 2 0)) 23 (.d (int (mvAt (chF s l l.length).1 (chF s l l.length).2 e a b).2))) 24 (.d (str (backAt (chF s l l.length).1 (chF s l l.length).2 ty f a b).1))) 25 (.d (boo (backAt (chF s l l.length).1 (chF s l l.length).2 ty f a b).2))) 26 (.d (str (backAt (chF s l l.length).1 (chF s l l.length).2 ty f a b).1))) 27 (.d (boo (backAt (chF s l l.length).1 (chF s l l.length).2 ty f a b).2))) 28 (.ptr 3 0)) 29 (.d (boo false))) 30 (.ptr 4 0)) 31 (.d (boo false))), (hset (hset (hset (hset noHeap 1 (some (.box 28 ((encE (mvAt (chF s l l.length).1 (chF s l l.length).2 e a b).1).map .d)))) 2 (some (.box 28 ((encE (mvAt (chF s l l.length).1 (chF s l l.length).2 e a b).1).map .d)))) 3 (some (.box 24 [.d (encS ([] : List Ty))]))) 4 (some (.box 24 [.d (encS ([] : List Ty))])))⟩ from LE_sh (slh_set (v := .d (boo false)) (slh_set (v := .ptr 4 0) (slh_set (v := .d (boo false)) (slh_set (v := .ptr 3 0) (slh_set (v := .d (boo (backAt (chF s l l.length).1 (chF s l l.length).2 ty f a b).2)) (slh_set (v := .d (str (backAt (chF s l l.length).1 (chF s l l.length).2 ty f a b).1)) (slh_set (v := .d (boo (backAt (chF s l l.length).1 (chF s l l.length).2 ty f a b).2)) (slh_set (v := .d (str (backAt (chF s l l.length).1 (chF s l l.length).2 ty f a b).1)) (slh_set (v := .d (int (mvAt (chF s l l.length).1 (chF s l l.length).2 e a b).2)) (slh_set (v := .ptr 2 0) (slh_set (v := .d (errC 68 (mvAt (chF s l l.length).1 (chF s l l.length).2 e a b).2)) (slh_set (v := .ptr 1 0) (slh_set (v := .d (.iptr (encCh (chF s l l.length).1 (chF s l l.length).2))) (slh_set (v := .d (.iptr (encCh (chF s l l.length).1 (chF s l l.length).2))) (slh_set (v := .d (.iptr (encE e))) (slh_set (v := .d (str f)) (slh_set (v := .d (str ty)) (slh_set (v := .d (int b)) (slh_set (v := .d (int a)) (slh_no _ _) (by rfl) rfl) (by rfl) rfl) (by rfl) rfl) (by rfl) rfl) (by rfl) rfl) (by rfl) rfl) (by rfl) rfl) (by rfl) rfl) (by rfl) rfl) (by rfl) rfl) (by rfl) rfl) (by rfl) rfl) (by rfl) rfl) (by rfl) rfl) (by rfl) rfl) (by rfl) rfl) (by rfl) rfl) (by rfl) rfl) (by rfl) rfl) (hlh_set (hlh_set (hlh_set (hlh_set (hlh_no _ _) rfl rfl) rfl rfl) rfl rfl) rfl rfl)) ?_
       refine CW_drawn' hE 38 (by decide +kernel) ?_
       refine HW_run hE 1 rfl rfl ?_
       refine HW_callW hE (code8Ok _) hJ rfl rfl rfl rfl rfl rfl rfl rfl ?_
       refine HW_run hE 1 rfl rfl ?_
       refine HW_run hE 1 rfl rfl ?_
       refine HW_as 173 (.d (boo true)) (congrArg (fun b => AV.d (boo b)) (by simp)) ?_
       refine HW_run hE 3 rfl rfl ?_
       refine HW_call hE ((by have hq := refSameEOk (mvAt (chF s l l.length).1 (chF s l l.length).2 e a b).1 (mvAt (chF s l l.length).1 (chF s l l.length).2 e a b).1; rw [sameEv_refl] at hq; exact hq)) rfl rfl rfl rfl rfl rfl rfl rfl ?_
       refine HW_fgt (s' := (sset (sset (sset (sset (sset (sset (sset (sset (sset (sset (sset (sset noSlots 15 (.d (.iptr (encCh (chF s l l.length).1 (chF s l l.length).2)))) 17 (.d (.iptr (encCh (chF s l l.length).1 (chF s l l.length).2)))) 28 (.ptr 3 0)) 30 (.ptr 4 0)) 29 (.d (boo false))) 31 (.d (boo false))) 25 (.d (boo (backAt (chF s l l.length).1 (chF s l l.length).2 ty f a b).2))) 27 (.d (boo (backAt (chF s l l.length).1 (chF s l l.length).2 ty f a b).2))) 24 (.d (str (backAt (chF s l l.length).1 (chF s l l.length).2 ty f a b).1))) 26 (.d (str (backAt (chF s l l.length).1 (chF s l l.length).2 ty f a b).1))) 174 (.d (.lit (.bool true)))) 177 (.d (.lit (.bool true))))) (fgt_set (fgt_set (fgt_set (fgt_set (fgt_set (fgt_set (fgt_set (fgt_set (fgt_set (fgt_set (fgt_set (fgt_set (fgt_no _) (by rfl)) (by rfl)) (by rfl)) (by rfl)) (by rfl)) (by rfl)) (by rfl)) (by rfl)) (by rfl)) (by rfl)) (by rfl)) (by rfl)) ?_
       refine HW_run hE 4 rfl rfl ?_
       refine HW_run hE 1 rfl rfl ?_
       refine HW_as 182 (.d (boo true)) (congrArg (fun b => AV.d (boo b)) (same_refl _)) ?_
       refine HW_fgt (s' := (sset (sset (sset (sset (sset (sset (sset (sset (sset (sset noSlots 15 (.d (.iptr (encCh (chF s l l.length).1 (chF s l l.length).2)))) 17 (.d (.iptr (encCh (chF s l l.length).1 (chF s l l.length).2)))) 28 (.ptr 3 0)) 30 (.ptr 4 0)) 29 (.d (boo false))) 31 (.d (boo false))) 25 (.d (boo (backAt (chF s l l.length).1 (chF s l l.length).2 ty f a b).2))) 27 (.d (boo (backAt (chF s l l.length).1 (chF s l l.length).2 ty f a b).2))) 179 (.d (.lit (.bool true)))) 182 (.d (.lit (.bool true))))) (fgt_set (fgt_set (fgt_set (fgt_set (fgt_set (fgt_set (fgt_set (fgt_set (fgt_set (fgt_set (fgt_no _) (by rfl)) (by rfl)) (by rfl)) (by rfl)) (by rfl)) (by rfl)) (by rfl)) (by rfl)) (by rfl)) (by rfl)) ?_
       refine HW_run hE 4 rfl rfl ?_
       refine HW_run hE 1 rfl rfl ?_
       refine HW_as 187 (.d (boo true)) (congrArg (fun b => AV.d (boo b)) (by simp)) ?_
       refine HW_fgt (s' := (sset (sset (sset (sset (sset (sset (sset (sset noSlots 15 (.d (.iptr (encCh (chF s l l.length).1 (chF s l l.length).2)))) 17 (.d (.iptr (encCh (chF s l l.length).1 (chF s l l.length).2)))) 28 (.ptr 3 0)) 30 (.ptr 4 0)) 29 (.d (boo false))) 31 (.d (boo false))) 184 (.d (.lit (.bool true)))) 187 (.d (.lit (.bool true))))) (fgt_set (fgt_set (fgt_set (fgt_set (fgt_set (fgt_set (fgt_set (fgt_set (fgt_no _) (by rfl)) (by rfl)) (by rfl)) (by rfl)) (by rfl)) (by rfl)) (by rfl)) (by rfl)) ?_
       refine HW_run hE 4 rfl rfl ?_
       refine HW_run hE 1 rfl rfl ?_
       refine HW_as 192 (.d (boo true)) (congrArg (fun b => AV.d (boo b)) (by simp)) ?_
       refine HW_fgt (s' := (sset (sset (sset (sset (sset (sset noSlots 15 (.d (.iptr (encCh (chF s l l.length).1 (chF s l l.length).2)))) 17 (.d (.iptr (encCh (chF s l l.length).1 (chF s l l.length).2)))) 28 (.ptr 3 0)) 30 (.ptr 4 0)) 189 (.d (.lit (.bool true)))) 192 (.d (.lit (.bool true))))) (fgt_set (fgt_set (fgt_set (fgt_set (fgt_set (fgt_set (fgt_no _) (by rfl)) (by rfl)) (by rfl)) (by rfl)) (by rfl)) (by rfl)) ?_
       refine HW_run hE 4 rfl rfl ?_
       refine HW_call hE ((by have hq := refSameSOk ([] : List Ty) ([] : List Ty); rw [sS_refl] at hq; exact hq)) rfl rfl rfl rfl rfl rfl rfl rfl ?_
       refine HW_fgt (s' := (sset (sset (sset (sset noSlots 15 (.d (.iptr (encCh (chF s l l.length).1 (chF s l l.length).2)))) 17 (.d (.iptr (encCh (chF s l l.length).1 (chF s l l.length).2)))) 194 (.d (.lit (.bool true)))) 197 (.d (.lit (.bool true))))) (fgt_set (fgt_set (fgt_set (fgt_set (fgt_no _) (by rfl)) (by rfl)) (by rfl)) (by rfl)) ?_
       refine HW_run hE 3 rfl rfl ?_
       refine HW_call hE (changesD (chF s l l.length).1 (chF s l l.length).2) rfl rfl rfl rfl rfl rfl rfl rfl ?_
       refine HW_fgt (s' := (sset (sset (sset noSlots 17 (.d (.iptr (encCh (chF s l l.length).1 (chF s l l.length).2)))) 199 (.d (.lit (.bool true)))) 201 (.d (.sl 7 88 ((chF s l l.length).2.map encC))))) (fgt_set (fgt_set (fgt_set (fgt_no _) (by rfl)) (by rfl)) (by rfl)) ?_
       refine HW_run hE 6 rfl rfl ?_
       refine HW_end ?_
       refine OW_run' hE.ok 1 rfl ?_
       refine OW_as' 208 (.d (boo true)) (by exact congrArg (fun b => AV.d (boo b)) (by simp)) ?_
       refine OW_run' hE.ok 2 rfl ?_
       refine OW_end rfl ?_
       refine CW_ret ?_
       refine ⟨.inr rfl, rfl, ⟨_, rfl, rfl, ?_⟩, rfl⟩
       exact AVle.refl _
      ·
       skip
       refine CW_seq ?_
       refine CW_region ?_
       refine OW_run' hE.ok 2 rfl ?_
       refine OW_call' hE ((by have hq := atD (chF s l l.length).1 (chF s l l.length).2 kb t hsl ht; rw [← hbk] at hq; exact hq)) rfl rfl rfl rfl rfl rfl rfl ?_
       refine OW_run' hE.ok 3 rfl ?_
       refine OW_alloc' hE 3 rfl rfl rfl rfl rfl rfl rfl ?_
       refine OW_store' hE rfl rfl rfl rfl rfl rfl rfl rfl rfl rfl rfl rfl ?_
       refine OW_run' hE.ok 1 rfl ?_
       refine OW_end rfl ?_
       refine CW_seq ?_
       refine CW.le (show LE _ _ ⟨J, (sset (sset (sset (sset (sset (sset (sset (sset (sset (sset (sset (sset (sset (sset (sset (sset (sset noSlots 3 (.d (int a))) 4 (.d (int b))) 5 (.d (str ty))) 6 (.d (str f))) 9 (.d (.iptr (encE e)))) 15 (.d (.iptr (encCh (chF s l l.length).1 (chF s l l.length).2)))) 17 (.d (.iptr (encCh (chF s l l.length).1 (chF s l l.length).2)))) 20 (.ptr 1 0)) 21 (.d (errC 68 (mvAt (chF s l l.length).1 (chF s l l.length).2 e a b).2))) 22 (.ptr 2 0)) 23 (.d (int (mvAt (chF s l l.length).1 (chF s l l.length).2 e a b).2))) 24 (.d (str (backAt (chF s l l.length).1 (chF s l l.length).2 ty f a b).1))) 25 (.d (boo (backAt (chF s l l.length).1 (chF s l l.length).2 ty f a b).2))) 26 (.d (str (backAt (chF s l l.length).1 (chF s l l.length).2 ty f a b).1))) 27 (.d (boo (backAt (chF s l l.length).1 (chF s l l.length).2 ty f a b).2))) 28 (.ptr 3 0)) 29 (.d (boo true))), (hset (hset (hset noHeap 1 (some (.box 28 ((encE (mvAt (chF s l l.length).1 (chF s l l.length).2 e a b).1).map .d)))) 2 (some (.box 28 ((encE (mvAt (chF s l l.length).1 (chF s l l.length).2 e a b).1).map .d)))) 3 (some (.box 24 [.d (encS t)])))⟩ from LE_sh (slh_set (v := .d (boo true)) (slh_set (v := .ptr 3 0) (slh_set (v := .d (boo (backAt (chF s l l.length).1 (chF s l l.length).2 ty f a b).2)) (slh_set (v := .d (str (backAt (chF s l l.length).1 (chF s l l.length).2 ty f a b).1)) (slh_set (v := .d (boo (backAt (chF s l l.length).1 (chF s l l.length).2 ty f a b).2)) (slh_set (v := .d (str (backAt (chF s l l.length).1 (chF s l l.length).2 ty f a b).1)) (slh_set (v := .d (int (mvAt (chF s l l.length).1 (chF s l l.length).2 e a b).2)) (slh_set (v := .ptr 2 0) (slh_set (v := .d (errC 68 (mvAt (chF s l l.length).1 (chF s l l.length).2 e a b).2)) (slh_set (v := .ptr 1 0) (slh_set (v := .d (.iptr (encCh (chF s l l.length).1 (chF s l l.length).2))) (slh_set (v := .d (.iptr (encCh (chF s l l.length).1 (chF s l l.length).2))) (slh_set (v := .d (.iptr (encE e))) (slh_set (v := .d (str f)) (slh_set (v := .d (str ty)) (slh_set (v := .d (int b)) (slh_set (v := .d (int a)) (slh_no _ _) (by rfl) rfl) (by rfl) rfl) (by rfl) rfl) (by rfl) rfl) (by rfl) rfl) (by rfl) rfl) (by rfl) rfl) (by rfl) rfl) (by rfl) rfl) (by rfl) rfl) (by rfl) rfl) (by rfl) rfl) (by rfl) rfl) (by rfl) rfl) (by rfl) rfl) (by rfl) rfl) (by rfl) rfl) (hlh_set (hlh_set (hlh_set (hlh_no _ _) rfl rfl) rfl rfl) rfl rfl)) ?_
       refine CW_region ?_
       refine OW_run' hE.ok 2 rfl ?_
       refine OW_call' hE ((by have hq := rAtD (chF s l l.length).1 (chF s l l.length).2 kb t ht; rw [← hbk] at hq; exact hq)) rfl rfl rfl rfl rfl rfl rfl ?_
       refine OW_run' hE.ok 3 rfl ?_
       refine OW_alloc' hE 4 rfl rfl rfl rfl rfl rfl rfl ?_
       refine OW_store' hE rfl rfl rfl rfl rfl rfl rfl rfl rfl rfl rfl rfl ?_
       refine OW_run' hE.ok 1 rfl ?_
       refine OW_end rfl ?_
       refine CW_seq ?_
       refine CW.le (show LE _ _ ⟨J, (sset (sset (sset (sset (sset (sset (sset (sset (sset (sset (sset (sset (sset (sset (sset (sset (sset (sset (sset noSlots 3 (.d (int a))) 4 (.d (int b))) 5 (.d (str ty))) 6 (.d (str f))) 9 (.d (.iptr (encE e)))) 15 (.d (.iptr (encCh (chF s l l.length).1 (chF s l l.length).2)))) 17 (.d (.iptr (encCh (chF s l l.length).1 (chF s l l.length).2)))) 20 (.ptr 1 0)) 21 (.d (errC 68 (mvAt (chF s l l.length).1 (chF s l l.length).2 e a b).2))) 22 (.ptr 2 0)) 23 (.d (int (mvAt (chF s l l.length).1 (chF s l l.length).2 e a b).2))) 24 (.d (str (backAt (chF s l l.length).1 (chF s l l.length).2 ty f a b).1))) 25 (.d (boo (backAt (chF s l l.length).1 (chF s l l.length).2 ty f a b).2))) 26 (.d (str (backAt (chF s l l.length).1 (chF s l l.length).2 ty f a b).1))) 27 (.d (boo (backAt (chF s l l.length).1 (chF s l l.length).2 ty f a b).2))) 28 (.ptr 3 0)) 29 (.d (boo true))) 30 (.ptr 4 0)) 31 (.d (boo true))), (hset (hset (hset (hset noHeap 1 (some (.box 28 ((encE (mvAt (chF s l l.length).1 (chF s l l.length).2 e a b).1).map .d)))) 2 (some (.box 28 ((encE (mvAt (chF s l l.length).1 (chF s l l.length).2 e a b).1).map .d)))) 3 (some (.box 24 [.d (encS t)]))) 4 (some (.box 24 [.d (encS t)])))⟩ from LE_sh (slh_set (v := .d (boo true)) (slh_set (v := .ptr 4 0) (slh_set (v := .d (boo true)) (slh_set (v := .ptr 3 0) (slh_set (v := .d (boo (backAt (chF s l l.length).1 (chF s l l.length).2 ty f a b).2)) (slh_set (v := .d (str (backAt (chF s l l.length).1 (chF s l l.length).2 ty f a b).1)) (slh_set (v := .d (boo (backAt (chF s l l.length).1 (chF s l l.length).2 ty f a b).2)) (slh_set (v := .d (str (backAt (chF s l l.length).1 (chF s l l.length).2 ty f a b).1)) (slh_set (v := .d (int (mvAt (chF s l l.length).1 (chF s l l.length).2 e a b).2)) (slh_set (v := .ptr 2 0) (slh_set (v := .d (errC 68 (mvAt (chF s l l.length).1 (chF s l l.length).2 e a b).2)) (slh_set (v := .ptr 1 0) (slh_set (v := .d (.iptr (encCh (chF s l l.length).1 (chF s l l.length).2))) (slh_set (v := .d (.iptr (encCh (chF s l l.length).1 (chF s l l.length).2))) (slh_set (v := .d (.iptr (encE e))) (slh_set (v := .d (str f)) (slh_set (v := .d (str ty)) (slh_set (v := .d (int b)) (slh_set (v := .d (int a)) (slh_no _ _) (by rfl) rfl) (by rfl) rfl) (by rfl) rfl) (by rfl) rfl) (by rfl) rfl) (by rfl) rfl) (by rfl) rfl) (by rfl) rfl) (by rfl) rfl) (by rfl) rfl) (by rfl) rfl) (by rfl) rfl) (by rfl) rfl) (by rfl) rfl) (by rfl) rfl) (by rfl) rfl) (by rfl) rfl) (by rfl) rfl) (by rfl) rfl) (hlh_set (hlh_set (hlh_set (hlh_set (hlh_no _ _) rfl rfl) rfl rfl) rfl rfl) rfl rfl)) ?_
       refine CW_drawn' hE 38 (by decide +kernel) ?_
       refine HW_run hE 1 rfl rfl ?_
       refine HW_callW hE (code8Ok _) hJ rfl rfl rfl rfl rfl rfl rfl rfl ?_
       refine HW_run hE 1 rfl rfl ?_
       refine HW_run hE 1 rfl rfl ?_
       refine HW_as 173 (.d (boo true)) (congrArg (fun b => AV.d (boo b)) (by simp)) ?_
       refine HW_run hE 3 rfl rfl ?_
       refine HW_call hE ((by have hq := refSameEOk (mvAt (chF s l l.length).1 (chF s l l.length).2 e a b).1 (mvAt (chF s l l.length).1 (chF s l l.length).2 e a b).1; rw [sameEv_refl] at hq; exact hq)) rfl rfl rfl rfl rfl rfl rfl rfl ?_
       refine HW_fgt (s' := (sset (sset (sset (sset (sset (sset (sset (sset (sset (sset (sset (sset noSlots 15 (.d (.iptr (encCh (chF s l l.length).1 (chF s l l.length).2)))) 17 (.d (.iptr (encCh (chF s l l.length).1 (chF s l l.length).2)))) 28 (.ptr 3 0)) 30 (.ptr 4 0)) 29 (.d (boo true))) 31 (.d (boo true))) 25 (.d (boo (backAt (chF s l l.length).1 (chF s l l.length).2 ty f a b).2))) 27 (.d (boo (backAt (chF s l l.length).1 (chF s l l.length).2 ty f a b).2))) 24 (.d (str (backAt (chF s l l.length).1 (chF s l l.length).2 ty f a b).1))) 26 (.d (str (backAt (chF s l l.length).1 (chF s l l.length).2 ty f a b).1))) 174 (.d (.lit (.bool true)))) 177 (.d (.lit (.bool true))))) (fgt_set (fgt_set (fgt_set (fgt_set (fgt_set (fgt_set (fgt_set (fgt_set (fgt_set (fgt_set (fgt_set (fgt_set (fgt_no _) (by rfl)) (by rfl)) (by rfl)) (by rfl)) (by rfl)) (by rfl)) (by rfl)) (by rfl)) (by rfl)) (by rfl)) (by rfl)) (by rfl)) ?_
       refine HW_run hE 4 rfl rfl ?_
       refine HW_run hE 1 rfl rfl ?_
       refine HW_as 182 (.d (boo true)) (congrArg (fun b => AV.d (boo b)) (same_refl _)) ?_
       refine HW_fgt (s' := (sset (sset (sset (sset (sset (sset (sset (sset (sset (sset noSlots 15 (.d (.iptr (encCh (chF s l l.length).1 (chF s l l.length).2)))) 17 (.d (.iptr (encCh (chF s l l.length).1 (chF s l l.length).2)))) 28 (.ptr 3 0)) 30 (.ptr 4 0)) 29 (.d (boo true))) 31 (.d (boo true))) 25 (.d (boo (backAt (chF s l l.length).1 (chF s l l.length).2 ty f a b).2))) 27 (.d (boo (backAt (chF s l l.length).1 (chF s l l.length).2 ty f a b).2))) 179 (.d (.lit (.bool true)))) 182 (.d (.lit (.bool true))))) (fgt_set (fgt_set (fgt_set (fgt_set (fgt_set (fgt_set (fgt_set (fgt_set (fgt_set (fgt_set (fgt_no _) (by rfl)) (by rfl)) (by rfl)) (by rfl)) (by rfl)) (by rfl)) (by rfl)) (by rfl)) (by rfl)) (by rfl)) ?_
       refine HW_run hE 4 rfl rfl ?_
       refine HW_run hE 1 rfl rfl ?_
       refine HW_as 187 (.d (boo true)) (congrArg (fun b => AV.d (boo b)) (by simp)) ?_
       refine HW_fgt (s' := (sset (sset (sset (sset (sset (sset (sset (sset noSlots 15 (.d (.iptr (encCh (chF s l l.length).1 (chF s l l.length).2)))) 17 (.d (.iptr (encCh (chF s l l.length).1 (chF s l l.length).2)))) 28 (.ptr 3 0)) 30 (.ptr 4 0)) 29 (.d (boo true))) 31 (.d (boo true))) 184 (.d (.lit (.bool true)))) 187 (.d (.lit (.bool true))))) (fgt_set (fgt_set (fgt_set (fgt_set (fgt_set (fgt_set (fgt_set (fgt_set (fgt_no _) (by rfl)) (by rfl)) (by rfl)) (by rfl)) (by rfl)) (by rfl)) (by rfl)) (by rfl)) ?_
       refine HW_run hE 4 rfl rfl ?_
       refine HW_run hE 1 rfl rfl ?_
       refine HW_as 192 (.d (boo true)) (congrArg (fun b => AV.d (boo b)) (by simp)) ?_
       refine HW_fgt (s' := (sset (sset (sset (sset (sset (sset noSlots 15 (.d (.iptr (encCh (chF s l l.length).1 (chF s l l.length).2)))) 17 (.d (.iptr (encCh (chF s l l.length).1 (chF s l l.length).2)))) 28 (.ptr 3 0)) 30 (.ptr 4 0)) 189 (.d (.lit (.bool true)))) 192 (.d (.lit (.bool true))))) (fgt_set (fgt_set (fgt_set (fgt_set (fgt_set (fgt_set (fgt_no _) (by rfl)) (by rfl)) (by rfl)) (by rfl)) (by rfl)) (by rfl)) ?_
       refine HW_run hE 4 rfl rfl ?_
       refine HW_call hE ((by have hq := refSameSOk t t; rw [sS_refl] at hq; exact hq)) rfl rfl rfl rfl rfl rfl rfl rfl ?_
       refine HW_fgt (s' := (sset (sset (sset (sset noSlots 15 (.d (.iptr (encCh (chF s l l.length).1 (chF s l l.length).2)))) 17 (.d (.iptr (encCh (chF s l l.length).1 (chF s l l.length).2)))) 194 (.d (.lit (.bool true)))) 197 (.d (.lit (.bool true))))) (fgt_set (fgt_set (fgt_set (fgt_set (fgt_no _) (by rfl)) (by rfl)) (by rfl)) (by rfl)) ?_
       refine HW_run hE 3 rfl rfl ?_
       refine HW_call hE (changesD (chF s l l.length).1 (chF s l l.length).2) rfl rfl rfl rfl rfl rfl rfl rfl ?_
       refine HW_fgt (s' := (sset (sset (sset noSlots 17 (.d (.iptr (encCh (chF s l l.length).1 (chF s l l.length).2)))) 199 (.d (.lit (.bool true)))) 201 (.d (.sl 7 88 ((chF s l l.length).2.map encC))))) (fgt_set (fgt_set (fgt_set (fgt_no _) (by rfl)) (by rfl)) (by rfl)) ?_
       refine HW_run hE 6 rfl rfl ?_
       refine HW_end ?_
       refine OW_run' hE.ok 1 rfl ?_
       refine OW_as' 208 (.d (boo true)) (by exact congrArg (fun b => AV.d (boo b)) (by simp)) ?_
       refine OW_run' hE.ok 2 rfl ?_
       refine OW_end rfl ?_
       refine CW_ret ?_
       refine ⟨.inr rfl, rfl, ⟨_, rfl, rfl, ?_⟩, rfl⟩
       exact AVle.refl _
end Go.Proofs.YtchpllgeahnmmaaGreatDoor
