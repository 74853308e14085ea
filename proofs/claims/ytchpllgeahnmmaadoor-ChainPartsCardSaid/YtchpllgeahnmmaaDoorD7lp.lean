/- Parts of an abstract logic over the kit's walks, and walks in it: D7lp. -/
import Derived.Test.YtchpllgeahnmmaaDoorDxf
import Derived.Test.YtchpllgeahnmmaaDoorDxh
import Derived.Test.YtchpllgeahnmmaaDoorD7co
import Derived.Test.YtchpllgeahnmmaaDoorDxa
import Derived.Test.YtchpllgeahnmmaaDoorDxb
import Derived.Test.YtchpllgeahnmmaaDoorCh
import Derived.Test.YtchpllgeahnmmaaDoorAg
namespace Go.Proofs.YtchpllgeahnmmaaDoor
open Go Go.AL
set_option linter.unusedVariables false
set_option linter.unusedSimpArgs false
set_option maxHeartbeats 4000000
theorem partsLaw (s : List Ty) (l : List Chg) (e : Ev) (u : UInt8) : DoesW Tryd.prog Tab 6 [argS s, .d (.sl 7 88 (l.map encC)), argE e, .d (.lit (.int .u8 (u.toNat : Int)))] (.d (boo true)) := by
 refine DoesW_of tab_grew T_ok mixed (N := 123) Tryd.func6 rfl rfl rfl (by rfl) fun F n Z hE hF J hJ => ?_
 refine CW_seq ?_
 refine CW_region ?_
 refine OW_run' hE.ok 3 rfl ?_
 refine OW_end rfl ?_
 refine CW_seq ?_
 refine CW_seq ?_
 refine CW_region ?_
 refine OW_call' hE (known5) rfl rfl rfl rfl rfl rfl rfl ?_
 refine OW_run' hE.ok 1 rfl ?_
 refine OW_end rfl ?_
 refine CW_false rfl ?_
 refine CW_skip ?_
 refine CW_cutE (fun _ : Unit => ⟨J, (sset (sset (sset (sset noSlots 1 (.d (.sl 7 88 (l.map encC)))) 3 (.d (.lit (.int .u8 (u.toNat : Int))))) 4 (.d (.iptr [encS s]))) 6 (.d (.iptr (encE e)))), noHeap⟩) (fun _ => l.length ≤ 20 ∧ e.vals.length ≤ 20) ?_ ?_
 ·
  refine CW_seq ?_
  refine CW_region ?_
  refine OW_run' hE.ok 4 rfl ?_
  refine OW_split' 27 rfl (fun h1 => ?_) (fun h1 => ?_)
  ·
   refine OW.le (show LE _ _ ⟨J, (sset (sset (sset (sset (sset noSlots 1 (.d (.sl 7 88 (l.map encC)))) 3 (.d (.lit (.int .u8 (u.toNat : Int))))) 4 (.d (.iptr [encS s]))) 6 (.d (.iptr (encE e)))) 27 (.d (.lit (.bool true)))), noHeap⟩ from LE_sh (slh_set (v := .d (.lit (.bool true))) (slh_set (v := .d (.iptr (encE e))) (slh_set (v := .d (.iptr [encS s])) (slh_set (v := .d (.lit (.int .u8 (u.toNat : Int)))) (slh_set (v := .d (.sl 7 88 (l.map encC))) (slh_no _ _) (by rfl) rfl) (by rfl) rfl) (by rfl) rfl) (by rfl) rfl) (by rfl) rfl) (hlh_no _ _)) ?_
   refine OW_run' hE.ok 5 rfl ?_
   refine OW_end rfl ?_
   refine CW_true rfl ?_
   refine CW_seq ?_
   refine CW_region ?_
   refine OW_run' hE.ok 1 rfl ?_
   refine OW_end rfl ?_
   refine CW_ret ?_
   refine ⟨.inr rfl, rfl, ⟨_, rfl, rfl, ?_⟩, rfl⟩
   exact AVle.refl _
  ·
   have hll : l.length ≤ 20 := by have := h1; rw [List.length_map] at this; simp at this; omega
   refine OW.le (show LE _ _ ⟨J, (sset (sset (sset (sset (sset noSlots 1 (.d (.sl 7 88 (l.map encC)))) 3 (.d (.lit (.int .u8 (u.toNat : Int))))) 4 (.d (.iptr [encS s]))) 6 (.d (.iptr (encE e)))) 27 (.d (.lit (.bool false)))), noHeap⟩ from LE_sh (slh_set (v := .d (.lit (.bool false))) (slh_set (v := .d (.iptr (encE e))) (slh_set (v := .d (.iptr [encS s])) (slh_set (v := .d (.lit (.int .u8 (u.toNat : Int)))) (slh_set (v := .d (.sl 7 88 (l.map encC))) (slh_no _ _) (by rfl) rfl) (by rfl) rfl) (by rfl) rfl) (by rfl) rfl) (by rfl) rfl) (hlh_no _ _)) ?_
   refine OW_run' hE.ok 5 rfl ?_
   refine OW_end rfl ?_
   refine CW_cond _ rfl (fun h2 => ?_) (fun h2 => ?_)
   ·
    skip
    refine CW_seq ?_
    refine CW_region ?_
    refine OW_run' hE.ok 1 rfl ?_
    refine OW_end rfl ?_
    refine CW_ret ?_
    refine ⟨.inr rfl, rfl, ⟨_, rfl, rfl, ?_⟩, rfl⟩
    exact AVle.refl _
   ·
    have hv : e.vals.length ≤ 20 := by have := h2; rw [List.length_map] at this; simp at this; omega
    refine CW_skip ?_
    exact ⟨(), ⟨hll, hv⟩, LE_sh (slh_set (v := .d (.iptr (encE e))) (slh_set (v := .d (.iptr [encS s])) (slh_set (v := .d (.lit (.int .u8 (u.toNat : Int)))) (slh_set (v := .d (.sl 7 88 (l.map encC))) (slh_no _ _) (by rfl) rfl) (by rfl) rfl) (by rfl) rfl) (by rfl) rfl) (hlh_no _ _)⟩
 ·
  rintro _ ⟨hll, hv⟩
  rcases Bool.eq_false_or_eq_true (isSchema s) with hs | hs
  ·
   skip
   refine CW_seq ?_
   refine CW_region ?_
   refine OW_run' hE.ok 1 rfl ?_
   refine OW_callM' hE (tr []) (newNil s hs) rfl rfl rfl rfl rfl trivial rfl rfl ?_
   refine OW_run' hE.ok 5 rfl ?_
   refine OW_end rfl ?_
   refine CW_seq ?_
   refine CW_seq ?_
   refine CW_region ?_
   refine OW_run' hE.ok 1 rfl ?_
   refine OW_loc' hE (loc_errNe hE rfl rfl (EN := 74) (z := 0) rfl) rfl rfl rfl ?_
   refine OW_run' hE.ok 2 rfl ?_
   refine OW_loc' hE (loc_ptrNil hE rfl rfl (k := 40) (off := 0) rfl) rfl rfl rfl ?_
   refine OW_run' hE.ok 1 rfl ?_
   refine OW_end rfl ?_
   refine CW_false rfl ?_
   refine CW_skip ?_
   refine CW_seq ?_
   refine CW_seq ?_
   refine CW_region ?_
   refine OW_run' hE.ok 1 rfl ?_
   refine OW_end rfl ?_
   refine CW_block ?_
   refine CW_loop (σ := {i : Nat // i ≤ l.length}) (fun i => ⟨J, (sset (sset (sset (sset (sset (sset noSlots 1 (.d (.sl 7 88 (l.map encC)))) 3 (.d (.lit (.int .u8 (u.toNat : Int))))) 4 (.d (.iptr [encS s]))) 6 (.d (.iptr (encE e)))) 9 (.ptr 40 0)) 11 (.d (int ((i.1 : Nat) : Int)))), (hset (hset (hset noHeap 40 (some (.box 102 [.row 50, .row 51]))) 50 (some (.row 24 1 ((chF s l (i.1)).1.map encS1)))) 51 (some (.row 43 7 ((chF s l (i.1)).2.map encC))))⟩) (fun i => l.length - i.1) ⟨0, Nat.zero_le _⟩ (LE_sh (slh_set (slh_set (slh_set (slh_set (slh_set (slh_set (slh_no _ _) rfl rfl) rfl rfl) rfl rfl) rfl rfl) rfl rfl) rfl rfl) (hlh_set (hlh_set (hlh_set (hlh_no _ _) rfl rfl) rfl rfl) rfl rfl)) fun ⟨i, hi⟩ => ?_
   refine CW_seq ?_
   refine CW_seq ?_
   refine CW_region ?_
   refine OW_run' hE.ok 4 rfl ?_
   refine OW_end rfl ?_
   refine CW_cond _ rfl (fun h3 => ?_) (fun h3 => ?_)
   ·
    have hlt : i < l.length := by have := h3; rw [List.length_map] at this; simp at this; omega
    obtain ⟨c, hc⟩ : ∃ c, l[i]? = some c := ⟨_, List.getElem?_eq_getElem hlt⟩
    refine CW_skip ?_
    refine CW_seq ?_
    refine CW_block ?_
    refine CW_region ?_
    refine OW_run' hE.ok 3 rfl ?_
    refine OW_loc' hE (loc_indexAddr hE rfl rfl rfl rfl rfl (by omega) (x := encC c) (by simp [hc])) rfl rfl rfl ?_
    refine OW_run' hE.ok 1 rfl ?_
    refine OW_callM' hE (tr []) (addOk (chF s l i).1 (chF s l i).2 c (chF_ok hs i)) rfl rfl rfl rfl rfl ⟨rfl, rfl, rfl, trivial⟩ rfl rfl ?_
    refine OW_end rfl ?_
    refine CW_region ?_
    refine OW_run' hE.ok 3 rfl ?_
    refine OW_end rfl ?_
    refine ⟨⟨i + 1, hlt⟩, LE_sh (slh_set (v := .d (int ((i + 1 : Nat) : Int))) (slh_set (v := .ptr 40 0) (slh_set (v := .d (.iptr (encE e))) (slh_set (v := .d (.iptr [encS s])) (slh_set (v := .d (.lit (.int .u8 (u.toNat : Int)))) (slh_set (v := .d (.sl 7 88 (l.map encC))) (slh_no _ _) (by rfl) rfl) (by rfl) rfl) (by rfl) rfl) (by rfl) rfl) (by rfl) rfl) (by show AV.d (.lit (.int .i64 (IntKind.i64.wrap ((i : Int) + 1)))) = _; rw [wrap_succ (by omega)]; rfl) rfl) (hlh_set (hlh_set (hlh_set (hlh_no _ _) rfl rfl) (by exact congrArg (fun z : List (List Ty) × List Chg => some (Ent.row 24 1 (z.1.map encS1))) (chF_succ hc).symm) rfl) (by exact congrArg (fun z : List (List Ty) × List Chg => some (Ent.row 43 7 (z.2.map encC))) (chF_succ hc).symm) rfl), by show l.length - (i + 1) < l.length - i; omega⟩
   ·
    have hge : i = l.length := by have := h3; rw [List.length_map] at this; simp at this; omega
    refine CW_exit ?_
    show CW _ _ _ _
    refine CW_seq ?_
    refine CW.le (show LE _ _ ⟨J, (sset (sset (sset (sset (sset noSlots 1 (.d (.sl 7 88 (l.map encC)))) 3 (.d (.lit (.int .u8 (u.toNat : Int))))) 4 (.d (.iptr [encS s]))) 6 (.d (.iptr (encE e)))) 9 (.ptr 40 0)), (hset (hset (hset noHeap 40 (some (.box 102 [.row 50, .row 51]))) 50 (some (.row 24 1 ((chF s l (l.length)).1.map encS1)))) 51 (some (.row 43 7 ((chF s l (l.length)).2.map encC))))⟩ from LE_sh (slh_set (v := .ptr 40 0) (slh_set (v := .d (.iptr (encE e))) (slh_set (v := .d (.iptr [encS s])) (slh_set (v := .d (.lit (.int .u8 (u.toNat : Int)))) (slh_set (v := .d (.sl 7 88 (l.map encC))) (slh_no _ _) (by rfl) rfl) (by rfl) rfl) (by rfl) rfl) (by rfl) rfl) (by rfl) rfl) (hlh_set (hlh_set (hlh_set (hlh_no _ _) rfl rfl) (by exact congrArg (fun z : Nat => some (Ent.row 24 1 ((chF s l z).1.map encS1))) hge) rfl) (by exact congrArg (fun z : Nat => some (Ent.row 43 7 ((chF s l z).2.map encC))) hge) rfl)) ?_
    have hok := chF_ok (l := l) hs l.length
    have hcl := hok.few
    have hsl := hok.len
    refine CW.le (LE_freeze 50 24 rfl (by simp <;> omega)) ?_
    refine CW.le (LE_freeze 51 88 rfl (by simp <;> omega)) ?_
    refine CW.le (LE_freezeBox 40 (ds := encCh (chF s l l.length).1 (chF s l l.length).2) rfl rfl) ?_
    refine CW.le (show LE _ _ ⟨J, (sset (sset (sset (sset noSlots 1 (.d (.sl 7 88 (l.map encC)))) 3 (.d (.lit (.int .u8 (u.toNat : Int))))) 6 (.d (.iptr (encE e)))) 9 (.d (.iptr (encCh (chF s l l.length).1 (chF s l l.length).2)))), noHeap⟩ from LE_sh (slh_set (v := .d (.iptr (encCh (chF s l l.length).1 (chF s l l.length).2))) (slh_set (v := .d (.iptr (encE e))) (slh_set (v := .d (.lit (.int .u8 (u.toNat : Int)))) (slh_set (v := .d (.sl 7 88 (l.map encC))) (slh_no _ _) (by rfl) rfl) (by rfl) rfl) (by rfl) rfl) (by rfl) rfl) (hlh_no _ _)) ?_
    refine CW_region ?_
    refine OW_run' hE.ok 1 rfl ?_
    refine OW_call' hE (nowD (chF s l l.length).1 (chF s l l.length).2) rfl rfl rfl rfl rfl rfl rfl ?_
    refine OW_run' hE.ok 1 rfl ?_
    refine OW_end rfl ?_
    refine CW_seq ?_
    refine CW_region ?_
    refine OW_run' hE.ok 1 rfl ?_
    refine OW_end rfl ?_
    refine CW_cutE (fun k : {k : Nat // k ≤ ((chF s l l.length).2.length : Nat)} => ⟨J, (sset (sset (sset (sset (sset (sset noSlots 1 (.d (.sl 7 88 (l.map encC)))) 3 (.d (.lit (.int .u8 (u.toNat : Int))))) 6 (.d (.iptr (encE e)))) 9 (.d (.iptr (encCh (chF s l l.length).1 (chF s l l.length).2)))) 12 (.d (int ((((chF s l l.length).2.length : Nat) : Nat) : Int)))) 13 (.d (int ((k.1 : Nat) : Int)))), noHeap⟩) (fun _ => True) ?_ ?_
    ·
     refine CW_seq ?_
     refine CW.le (show LE _ _ ⟨J, (sset (sset (sset (sset (sset (sset noSlots 1 (.d (.sl 7 88 (l.map encC)))) 3 (.d (.lit (.int .u8 (u.toNat : Int))))) 6 (.d (.iptr (encE e)))) 9 (.d (.iptr (encCh (chF s l l.length).1 (chF s l l.length).2)))) 12 (.d (int ((((chF s l l.length).2.length : Nat) : Nat) : Int)))) 13 (.d (int ((0 : Nat) : Int)))), noHeap⟩ from LE_sh (slh_set (v := .d (int ((0 : Nat) : Int))) (slh_set (v := .d (int ((((chF s l l.length).2.length : Nat) : Nat) : Int))) (slh_set (v := .d (.iptr (encCh (chF s l l.length).1 (chF s l l.length).2))) (slh_set (v := .d (.iptr (encE e))) (slh_set (v := .d (.lit (.int .u8 (u.toNat : Int)))) (slh_set (v := .d (.sl 7 88 (l.map encC))) (slh_no _ _) (by rfl) rfl) (by rfl) rfl) (by rfl) rfl) (by rfl) rfl) (by rfl) rfl) (by rfl) rfl) (hlh_no _ _)) ?_
     refine CW_region ?_
     refine OW_run' hE.ok 2 rfl ?_
     refine OW_end rfl ?_
     refine CW_cond _ rfl (fun h4 => ?_) (fun h4 => ?_)
     ·
      have gn : decide ((((((chF s l l.length).2.length : Nat) : Nat) : Int) : Int) > 0) = true := h4
      refine CW_region ?_
      refine OW_run' hE.ok 1 rfl ?_
      refine OW_run' hE.ok 1 rfl ?_
      refine OW_as' 64 (.d (int ((u.toNat : Nat) : Int))) (by show AV.d (.lit (.int .i64 (IntKind.i64.wrap ((u.toNat : Nat) : Int)))) = _; rw [wrapN (by have := u.toNat_lt; omega)]; rfl) ?_
      refine OW_run' hE.ok 1 rfl ?_
      refine OW_run' hE.ok 1 rfl ?_
      refine OW_as' 66 (.d (int ((((chF s l l.length).2.length : Nat) + 1 : Nat) : Int))) (by show AV.d (.lit (.int .i64 (IntKind.i64.wrap ((((((chF s l l.length).2.length : Nat) : Nat) : Int) : Int) + 1)))) = _; rw [wrap_succ (by omega)]; rfl) ?_
      refine OW_loc' hE (loc_rem hE rfl rfl rfl (by omega)) rfl rfl rfl ?_
      refine OW_as' 67 (.d (int ((u.toNat % (((chF s l l.length).2.length : Nat) + 1) : Nat) : Int))) (by rfl) ?_
      refine OW_run' hE.ok 1 rfl ?_
      refine OW_end rfl ?_
      exact ⟨⟨u.toNat % (((chF s l l.length).2.length : Nat) + 1), by have := Nat.mod_lt u.toNat (show 0 < ((chF s l l.length).2.length : Nat) + 1 by omega); omega⟩, trivial, LE_sh (slh_set (v := .d (int ((u.toNat % (((chF s l l.length).2.length : Nat) + 1) : Nat) : Int))) (slh_set (v := .d (int ((((chF s l l.length).2.length : Nat) : Nat) : Int))) (slh_set (v := .d (.iptr (encCh (chF s l l.length).1 (chF s l l.length).2))) (slh_set (v := .d (.iptr (encE e))) (slh_set (v := .d (.lit (.int .u8 (u.toNat : Int)))) (slh_set (v := .d (.sl 7 88 (l.map encC))) (slh_no _ _) (by rfl) rfl) (by rfl) rfl) (by rfl) rfl) (by rfl) rfl) (by rfl) rfl) (by rfl) rfl) (hlh_no _ _)⟩
     ·
      have gn : decide ((((((chF s l l.length).2.length : Nat) : Nat) : Int) : Int) > 0) = false := h4
      refine CW_skip ?_
      exact ⟨⟨0, Nat.zero_le _⟩, trivial, LE_sh (slh_set (v := .d (int ((0 : Nat) : Int))) (slh_set (v := .d (int ((((chF s l l.length).2.length : Nat) : Nat) : Int))) (slh_set (v := .d (.iptr (encCh (chF s l l.length).1 (chF s l l.length).2))) (slh_set (v := .d (.iptr (encE e))) (slh_set (v := .d (.lit (.int .u8 (u.toNat : Int)))) (slh_set (v := .d (.sl 7 88 (l.map encC))) (slh_no _ _) (by rfl) rfl) (by rfl) rfl) (by rfl) rfl) (by rfl) rfl) (by rfl) rfl) (by rfl) rfl) (hlh_no _ _)⟩
    ·
     rintro ⟨k, hk⟩ _
     refine CW_seq ?_
     refine CW_region ?_
     refine OW_run' hE.ok 3 rfl ?_
     refine OW_call' hE (moveD (chF s l l.length).1 (chF s l l.length).2 e 0 ((((chF s l l.length).2.length : Nat) : Nat) : Int) hok) rfl rfl rfl rfl rfl rfl rfl ?_
     refine OW_run' hE.ok 3 rfl ?_
     refine OW_alloc' hE 1 rfl rfl rfl rfl rfl rfl rfl ?_
     refine OW_store' hE rfl rfl rfl rfl rfl rfl rfl rfl rfl rfl rfl rfl ?_
     refine OW_run' hE.ok 1 rfl ?_
     refine OW_end rfl ?_
     refine CW_seq ?_
     refine CW.le (show LE _ _ ⟨J, (sset (sset (sset (sset (sset (sset (sset (sset noSlots 1 (.d (.sl 7 88 (l.map encC)))) 3 (.d (.lit (.int .u8 (u.toNat : Int))))) 6 (.d (.iptr (encE e)))) 9 (.d (.iptr (encCh (chF s l l.length).1 (chF s l l.length).2)))) 12 (.d (int ((((chF s l l.length).2.length : Nat) : Nat) : Int)))) 13 (.d (int ((k : Nat) : Int)))) 14 (.ptr 1 0)) 15 (.d (errC 74 (mvAt (chF s l l.length).1 (chF s l l.length).2 e 0 ((((chF s l l.length).2.length : Nat) : Nat) : Int)).2))), (hset noHeap 1 (some (.box 27 ((encE (mvAt (chF s l l.length).1 (chF s l l.length).2 e 0 ((((chF s l l.length).2.length : Nat) : Nat) : Int)).1).map .d))))⟩ from LE_sh (slh_set (v := .d (errC 74 (mvAt (chF s l l.length).1 (chF s l l.length).2 e 0 ((((chF s l l.length).2.length : Nat) : Nat) : Int)).2)) (slh_set (v := .ptr 1 0) (slh_set (v := .d (int ((k : Nat) : Int))) (slh_set (v := .d (int ((((chF s l l.length).2.length : Nat) : Nat) : Int))) (slh_set (v := .d (.iptr (encCh (chF s l l.length).1 (chF s l l.length).2))) (slh_set (v := .d (.iptr (encE e))) (slh_set (v := .d (.lit (.int .u8 (u.toNat : Int)))) (slh_set (v := .d (.sl 7 88 (l.map encC))) (slh_no _ _) (by rfl) rfl) (by rfl) rfl) (by rfl) rfl) (by rfl) rfl) (by rfl) rfl) (by rfl) rfl) (by rfl) rfl) (by rfl) rfl) (hlh_set (hlh_no _ _) rfl rfl)) ?_
     refine CW_region ?_
     refine OW_run' hE.ok 3 rfl ?_
     refine OW_call' hE (moveD (chF s l l.length).1 (chF s l l.length).2 e 0 ((k : Nat) : Int) hok) rfl rfl rfl rfl rfl rfl rfl ?_
     refine OW_run' hE.ok 3 rfl ?_
     refine OW_alloc' hE 2 rfl rfl rfl rfl rfl rfl rfl ?_
     refine OW_store' hE rfl rfl rfl rfl rfl rfl rfl rfl rfl rfl rfl rfl ?_
     refine OW_run' hE.ok 1 rfl ?_
     refine OW_end rfl ?_
     refine CW_seq ?_
     refine CW_seq ?_
     refine CW.le (show LE _ _ ⟨J, (sset (sset (sset (sset (sset (sset (sset (sset (sset (sset noSlots 1 (.d (.sl 7 88 (l.map encC)))) 3 (.d (.lit (.int .u8 (u.toNat : Int))))) 6 (.d (.iptr (encE e)))) 9 (.d (.iptr (encCh (chF s l l.length).1 (chF s l l.length).2)))) 12 (.d (int ((((chF s l l.length).2.length : Nat) : Nat) : Int)))) 13 (.d (int ((k : Nat) : Int)))) 14 (.ptr 1 0)) 15 (.d (errC 74 (mvAt (chF s l l.length).1 (chF s l l.length).2 e 0 ((((chF s l l.length).2.length : Nat) : Nat) : Int)).2))) 16 (.ptr 2 0)) 17 (.d (errC 74 (mvAt (chF s l l.length).1 (chF s l l.length).2 e 0 ((k : Nat) : Int)).2))), (hset (hset noHeap 1 (some (.box 27 ((encE (mvAt (chF s l l.length).1 (chF s l l.length).2 e 0 ((((chF s l l.length).2.length : Nat) : Nat) : Int)).1).map .d)))) 2 (some (.box 27 ((encE (mvAt (chF s l l.length).1 (chF s l l.length).2 e 0 ((k : Nat) : Int)).1).map .d))))⟩ from LE_sh (slh_set (v := .d (errC 74 (mvAt (chF s l l.length).1 (chF s l l.length).2 e 0 ((k : Nat) : Int)).2)) (slh_set (v := .ptr 2 0) (slh_set (v := .d (errC 74 (mvAt (chF s l l.length).1 (chF s l l.length).2 e 0 ((((chF s l l.length).2.length : Nat) : Nat) : Int)).2)) (slh_set (v := .ptr 1 0) (slh_set (v := .d (int ((k : Nat) : Int))) (slh_set (v := .d (int ((((chF s l l.length).2.length : Nat) : Nat) : Int))) (slh_set (v := .d (.iptr (encCh (chF s l l.length).1 (chF s l l.length).2))) (slh_set (v := .d (.iptr (encE e))) (slh_set (v := .d (.lit (.int .u8 (u.toNat : Int)))) (slh_set (v := .d (.sl 7 88 (l.map encC))) (slh_no _ _) (by rfl) rfl) (by rfl) rfl) (by rfl) rfl) (by rfl) rfl) (by rfl) rfl) (by rfl) rfl) (by rfl) rfl) (by rfl) rfl) (by rfl) rfl) (by rfl) rfl) (hlh_set (hlh_set (hlh_no _ _) rfl rfl) rfl rfl)) ?_
     refine CW_region ?_
     refine OW_run' hE.ok 1 rfl ?_
     refine OW_loc' hE (loc_errNe hE rfl rfl rfl) rfl rfl rfl ?_
     refine OW_end rfl ?_
     refine CW_cond _ rfl (fun h5 => ?_) (fun h5 => ?_)
     ·
      have hg : ((mvAt (chF s l l.length).1 (chF s l l.length).2 e 0 ((k : Nat) : Int)).2 != 0) = true := h5
      refine CW_seq ?_
      refine CW_region ?_
      refine OW_run' hE.ok 1 rfl ?_
      refine OW_callW' hE (code29Ok _) hJ rfl rfl rfl rfl rfl rfl rfl ?_
      refine OW_run' hE.ok 1 rfl ?_
      refine OW_callW' hE (code29Ok _) hJ rfl rfl rfl rfl rfl rfl rfl ?_
      refine OW_run' hE.ok 1 rfl ?_
      refine OW_as' 88 (.d (boo true)) (by exact congrArg (fun b => AV.d (boo b)) (by rw [part_err hok hk hg]; simp)) ?_
      refine OW_run' hE.ok 1 rfl ?_
      refine OW_end rfl ?_
      refine CW_ret ?_
      refine ⟨.inr rfl, rfl, ⟨_, rfl, rfl, ?_⟩, rfl⟩
      exact AVle.refl _
     ·
      have hg : ((mvAt (chF s l l.length).1 (chF s l l.length).2 e 0 ((k : Nat) : Int)).2 != 0) = false := h5
      refine CW_skip ?_
      refine CW_seq ?_
      obtain ⟨p1, p2, p3, t, ht, hte⟩ := part_ok hok hk hg
      refine CW_region ?_
      refine OW_run' hE.ok 4 rfl ?_
      refine OW_call' hE (moveD (chF s l l.length).1 (chF s l l.length).2 (mvAt (chF s l l.length).1 (chF s l l.length).2 e 0 ((k : Nat) : Int)).1 ((k : Nat) : Int) ((((chF s l l.length).2.length : Nat) : Nat) : Int) hok) rfl rfl rfl rfl rfl rfl rfl ?_
      refine OW_run' hE.ok 3 rfl ?_
      refine OW_alloc' hE 3 rfl rfl rfl rfl rfl rfl rfl ?_
      refine OW_store' hE rfl rfl rfl rfl rfl rfl rfl rfl rfl rfl rfl rfl ?_
      refine OW_run' hE.ok 1 rfl ?_
      refine OW_end rfl ?_
      refine CW_seq ?_
      refine CW.le (show LE _ _ ⟨J, (sset (sset (sset (sset (sset (sset (sset (sset (sset (sset noSlots 1 (.d (.sl 7 88 (l.map encC)))) 3 (.d (.lit (.int .u8 (u.toNat : Int))))) 6 (.d (.iptr (encE e)))) 9 (.d (.iptr (encCh (chF s l l.length).1 (chF s l l.length).2)))) 12 (.d (int ((((chF s l l.length).2.length : Nat) : Nat) : Int)))) 13 (.d (int ((k : Nat) : Int)))) 14 (.ptr 1 0)) 15 (.d (errC 74 (mvAt (chF s l l.length).1 (chF s l l.length).2 e 0 ((((chF s l l.length).2.length : Nat) : Nat) : Int)).2))) 18 (.ptr 3 0)) 19 (.d (errC 74 (mvAt (chF s l l.length).1 (chF s l l.length).2 (mvAt (chF s l l.length).1 (chF s l l.length).2 e 0 ((k : Nat) : Int)).1 ((k : Nat) : Int) ((((chF s l l.length).2.length : Nat) : Nat) : Int)).2))), (hset (hset noHeap 1 (some (.box 27 ((encE (mvAt (chF s l l.length).1 (chF s l l.length).2 e 0 ((((chF s l l.length).2.length : Nat) : Nat) : Int)).1).map .d)))) 3 (some (.box 27 ((encE (mvAt (chF s l l.length).1 (chF s l l.length).2 (mvAt (chF s l l.length).1 (chF s l l.length).2 e 0 ((k : Nat) : Int)).1 ((k : Nat) : Int) ((((chF s l l.length).2.length : Nat) : Nat) : Int)).1).map .d))))⟩ from LE_sh (slh_set (v := .d (errC 74 (mvAt (chF s l l.length).1 (chF s l l.length).2 (mvAt (chF s l l.length).1 (chF s l l.length).2 e 0 ((k : Nat) : Int)).1 ((k : Nat) : Int) ((((chF s l l.length).2.length : Nat) : Nat) : Int)).2)) (slh_set (v := .ptr 3 0) (slh_set (v := .d (errC 74 (mvAt (chF s l l.length).1 (chF s l l.length).2 e 0 ((((chF s l l.length).2.length : Nat) : Nat) : Int)).2)) (slh_set (v := .ptr 1 0) (slh_set (v := .d (int ((k : Nat) : Int))) (slh_set (v := .d (int ((((chF s l l.length).2.length : Nat) : Nat) : Int))) (slh_set (v := .d (.iptr (encCh (chF s l l.length).1 (chF s l l.length).2))) (slh_set (v := .d (.iptr (encE e))) (slh_set (v := .d (.lit (.int .u8 (u.toNat : Int)))) (slh_set (v := .d (.sl 7 88 (l.map encC))) (slh_no _ _) (by rfl) rfl) (by rfl) rfl) (by rfl) rfl) (by rfl) rfl) (by rfl) rfl) (by rfl) rfl) (by rfl) rfl) (by rfl) rfl) (by rfl) rfl) (by rfl) rfl) (hlh_set (hlh_set (hlh_no _ _) rfl rfl) rfl rfl)) ?_
      refine CW_region ?_
      refine OW_run' hE.ok 2 rfl ?_
      refine OW_call' hE (atD (chF s l l.length).1 (chF s l l.length).2 ((chF s l l.length).2.length : Nat) t hsl ht) rfl rfl rfl rfl rfl rfl rfl ?_
      refine OW_run' hE.ok 3 rfl ?_
      refine OW_alloc' hE 4 rfl rfl rfl rfl rfl rfl rfl ?_
      refine OW_store' hE rfl rfl rfl rfl rfl rfl rfl rfl rfl rfl rfl rfl ?_
      refine OW_run' hE.ok 1 rfl ?_
      refine OW_end rfl ?_
      refine CW_seq ?_
      refine CW.le (show LE _ _ ⟨J, (sset (sset (sset (sset (sset (sset noSlots 14 (.ptr 1 0)) 15 (.d (errC 74 0))) 18 (.ptr 3 0)) 19 (.d (errC 74 0))) 20 (.ptr 4 0)) 21 (.d (.lit (.bool true)))), (hset (hset (hset noHeap 1 (some (.box 27 ((encE (mvAt (chF s l l.length).1 (chF s l l.length).2 e 0 ((((chF s l l.length).2.length : Nat) : Nat) : Int)).1).map .d)))) 3 (some (.box 27 ((encE (mvAt (chF s l l.length).1 (chF s l l.length).2 (mvAt (chF s l l.length).1 (chF s l l.length).2 e 0 ((k : Nat) : Int)).1 ((k : Nat) : Int) ((((chF s l l.length).2.length : Nat) : Nat) : Int)).1).map .d)))) 4 (some (.box 24 [.d (encS t)])))⟩ from LE_sh (slh_set (v := .d (.lit (.bool true))) (slh_set (v := .ptr 4 0) (slh_set (v := .d (errC 74 0)) (slh_set (v := .ptr 3 0) (slh_set (v := .d (errC 74 0)) (slh_set (v := .ptr 1 0) (slh_no _ _) (by rfl) rfl) (by exact (congrArg (fun z => AV.d (errC 74 z)) p1)) rfl) (by rfl) rfl) (by exact (congrArg (fun z => AV.d (errC 74 z)) p2)) rfl) (by rfl) rfl) (by rfl) rfl) (hlh_set (hlh_set (hlh_set (hlh_no _ _) rfl rfl) rfl rfl) rfl rfl)) ?_
      refine CW_region ?_
      refine OW_run' hE.ok 1 rfl ?_
      refine OW_loc' hE (loc_errEq hE rfl rfl (EN := 74) (z := 0) rfl) rfl rfl rfl ?_
      refine OW_run' hE.ok 2 rfl ?_
      refine OW_loc' hE (loc_errEq hE rfl rfl (EN := 74) (z := 0) rfl) rfl rfl rfl ?_
      refine OW_run' hE.ok 7 rfl ?_
      refine OW_call' hE ((by have hq := refSameEOk (mvAt (chF s l l.length).1 (chF s l l.length).2 e 0 ((((chF s l l.length).2.length : Nat) : Nat) : Int)).1 (mvAt (chF s l l.length).1 (chF s l l.length).2 (mvAt (chF s l l.length).1 (chF s l l.length).2 e 0 ((k : Nat) : Int)).1 ((k : Nat) : Int) ((((chF s l l.length).2.length : Nat) : Nat) : Int)).1; rw [p3, sameEv_refl] at hq; rw [p3]; exact hq)) rfl rfl rfl rfl rfl rfl rfl ?_
      refine OW_run' hE.ok 4 rfl ?_
      refine OW_call' hE ((by have hq := refIsEOk t (mvAt (chF s l l.length).1 (chF s l l.length).2 e 0 ((((chF s l l.length).2.length : Nat) : Nat) : Int)).1; rw [hte] at hq; exact hq)) rfl rfl rfl rfl rfl rfl rfl ?_
      refine OW_run' hE.ok 3 rfl ?_
      refine OW_end rfl ?_
      refine CW_ret ?_
      refine ⟨.inr rfl, rfl, ⟨_, rfl, rfl, ?_⟩, rfl⟩
      exact AVle.refl _
  ·
   skip
   refine CW_seq ?_
   refine CW_region ?_
   refine OW_run' hE.ok 1 rfl ?_
   refine OW_call' hE (newBadNil s hs) rfl rfl rfl rfl rfl rfl rfl ?_
   refine OW_run' hE.ok 5 rfl ?_
   refine OW_end rfl ?_
   refine CW_seq ?_
   refine CW_seq ?_
   refine CW_region ?_
   refine OW_run' hE.ok 1 rfl ?_
   refine OW_loc' hE (loc_errNe hE rfl rfl (EN := 74) (z := 10) rfl) rfl rfl rfl ?_
   refine OW_run' hE.ok 4 rfl ?_
   refine OW_end rfl ?_
   refine CW_true rfl ?_
   refine CW_seq ?_
   refine CW_region ?_
   refine OW_run' hE.ok 1 rfl ?_
   refine OW_call' hE ((by have hq := refIsSOk s; rw [hs] at hq; exact hq)) rfl rfl rfl rfl rfl rfl rfl ?_
   refine OW_run' hE.ok 2 rfl ?_
   refine OW_end rfl ?_
   refine CW_ret ?_
   refine ⟨.inr rfl, rfl, ⟨_, rfl, rfl, ?_⟩, rfl⟩
   exact AVle.refl _
end Go.Proofs.YtchpllgeahnmmaaDoor
