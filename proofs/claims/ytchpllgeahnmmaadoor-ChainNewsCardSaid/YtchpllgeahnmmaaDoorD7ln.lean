/- Parts of an abstract logic over the kit's walks, and walks in it: D7ln. -/
import Derived.Test.YtchpllgeahnmmaaDoorDxg
import Derived.Test.YtchpllgeahnmmaaDoorDxh
import Derived.Test.YtchpllgeahnmmaaDoorDxf
import Derived.Test.YtchpllgeahnmmaaDoorD7co
import Derived.Test.YtchpllgeahnmmaaDoorDxe
import Derived.Test.YtchpllgeahnmmaaDoorAg
namespace Go.Proofs.YtchpllgeahnmmaaDoor
open Go Go.AL
set_option linter.unusedVariables false
set_option linter.unusedSimpArgs false
set_option maxHeartbeats 4000000
theorem newsLaw (s : List Ty) (l : List Chg) : DoesW Tryd.prog Tab 5 [argS s, .d (.sl 7 88 (l.map encC))] (.d (boo true)) := by
 refine DoesW_of tab_grew T_ok mixed (N := 76) Tryd.func5 rfl rfl rfl (by rfl) fun F n Z hE hF J hJ => ?_
 refine CW_seq ?_
 refine CW_region ?_
 refine OW_run' hE.ok 2 rfl ?_
 refine OW_end rfl ?_
 refine CW_seq ?_
 refine CW_seq ?_
 refine CW_region ?_
 refine OW_call' hE (known5) rfl rfl rfl rfl rfl rfl rfl ?_
 refine OW_run' hE.ok 1 rfl ?_
 refine OW_end rfl ?_
 refine CW_false rfl ?_
 refine CW_skip ?_
 refine CW_cutE (fun _ : Unit => ⟨J, (sset (sset noSlots 1 (.d (.sl 7 88 (l.map encC)))) 2 (.d (.iptr [encS s]))), noHeap⟩) (fun _ => l.length ≤ 30) ?_ ?_
 ·
  refine CW_seq ?_
  refine CW_region ?_
  refine OW_run' hE.ok 3 rfl ?_
  refine OW_end rfl ?_
  refine CW_cond _ rfl (fun h1 => ?_) (fun h1 => ?_)
  ·
   skip
   refine CW_seq ?_
   refine CW_region ?_
   refine OW_run' hE.ok 1 rfl ?_
   refine OW_end rfl ?_
   refine CW_ret ?_
   refine ⟨.inr rfl, rfl, ⟨_, rfl, rfl, ?_⟩, rfl⟩
   exact AVle.refl _
  ·
   have hll : l.length ≤ 30 := by have := h1; rw [List.length_map] at this; simp at this; omega
   refine CW_skip ?_
   exact ⟨(), hll, LE_sh (slh_set (v := .d (.iptr [encS s])) (slh_set (v := .d (.sl 7 88 (l.map encC))) (slh_no _ _) (by rfl) rfl) (by rfl) rfl) (hlh_no _ _)⟩
 ·
  rintro _ hll
  have hcs : isSchema s = false ∨ (isSchema s = true ∧ newE s l ≠ 0) ∨ (isSchema s = true ∧ newE s l = 0) := by
   cases isSchema s with
   | false => exact .inl rfl
   | true => by_cases h : newE s l = 0 <;> simp [h]
  rcases hcs with hs | ⟨hs, hz⟩ | ⟨hs, hz⟩
  ·
   skip
   refine CW_seq ?_
   refine CW_region ?_
   refine OW_run' hE.ok 2 rfl ?_
   refine OW_call' hE (newBad s l hs) rfl rfl rfl rfl rfl rfl rfl ?_
   refine OW_run' hE.ok 5 rfl ?_
   refine OW_end rfl ?_
   refine CW_seq ?_
   refine CW_region ?_
   refine OW_run' hE.ok 2 rfl ?_
   refine OW_call' hE (rNewBad s l hs) rfl rfl rfl rfl rfl rfl rfl ?_
   refine OW_run' hE.ok 5 rfl ?_
   refine OW_end rfl ?_
   refine CW_seq ?_
   refine CW_seq ?_
   refine CW.le (show LE _ _ ⟨J, (sset (sset (sset (sset (sset (sset noSlots 1 (.d (.sl 7 88 (l.map encC)))) 2 (.d (.iptr [encS s]))) 5 (.d (.lit (.pointer none)))) 6 (.d (errC 74 10))) 7 (.d (.lit (.pointer none)))) 8 (.d (int 10))), noHeap⟩ from LE_sh (slh_set (v := .d (int 10)) (slh_set (v := .d (.lit (.pointer none))) (slh_set (v := .d (errC 74 10)) (slh_set (v := .d (.lit (.pointer none))) (slh_set (v := .d (.iptr [encS s])) (slh_set (v := .d (.sl 7 88 (l.map encC))) (slh_no _ _) (by rfl) rfl) (by rfl) rfl) (by rfl) rfl) (by rfl) rfl) (by rfl) rfl) (by rfl) rfl) (hlh_no _ _)) ?_
   refine CW_region ?_
   refine OW_run' hE.ok 1 rfl ?_
   refine OW_callW' hE (code29Ok _) hJ rfl rfl rfl rfl rfl rfl rfl ?_
   refine OW_run' hE.ok 1 rfl ?_
   refine OW_run' hE.ok 1 rfl ?_
   refine OW_as' 34 (.d (boo false)) (by exact congrArg (fun b => AV.d (boo b)) (by simp)) ?_
   refine OW_run' hE.ok 2 rfl ?_
   refine OW_loc' hE (loc_nilNil hE rfl rfl rfl) rfl rfl rfl ?_
   refine OW_run' hE.ok 1 rfl ?_
   refine OW_loc' hE (loc_nilNil hE rfl rfl rfl) rfl rfl rfl ?_
   refine OW_run' hE.ok 2 rfl ?_
   refine OW_end rfl ?_
   refine CW_false rfl ?_
   refine CW_skip ?_
   refine CW_seq ?_
   refine CW_seq ?_
   refine CW_region ?_
   refine OW_run' hE.ok 1 rfl ?_
   refine OW_loc' hE (loc_nilNil hE rfl rfl rfl) rfl rfl rfl ?_
   refine OW_end rfl ?_
   refine CW_true rfl ?_
   refine CW_seq ?_
   refine CW_region ?_
   refine OW_run' hE.ok 1 rfl ?_
   refine OW_end rfl ?_
   refine CW_ret ?_
   refine ⟨.inr rfl, rfl, ⟨_, rfl, rfl, ?_⟩, rfl⟩
   exact AVle.refl _
  ·
   skip
   refine CW_seq ?_
   refine CW_region ?_
   refine OW_run' hE.ok 2 rfl ?_
   refine OW_call' hE (newErr s l hs hz) rfl rfl rfl rfl rfl rfl rfl ?_
   refine OW_run' hE.ok 5 rfl ?_
   refine OW_end rfl ?_
   refine CW_seq ?_
   refine CW_region ?_
   refine OW_run' hE.ok 2 rfl ?_
   refine OW_call' hE (rNewErr s l hs hz) rfl rfl rfl rfl rfl rfl rfl ?_
   refine OW_run' hE.ok 5 rfl ?_
   refine OW_end rfl ?_
   refine CW_seq ?_
   refine CW_seq ?_
   refine CW.le (show LE _ _ ⟨J, (sset (sset (sset (sset (sset (sset noSlots 1 (.d (.sl 7 88 (l.map encC)))) 2 (.d (.iptr [encS s]))) 5 (.d (.lit (.pointer none)))) 6 (.d (errC 74 (newE s l)))) 7 (.d (.lit (.pointer none)))) 8 (.d (int (newE s l)))), noHeap⟩ from LE_sh (slh_set (v := .d (int (newE s l))) (slh_set (v := .d (.lit (.pointer none))) (slh_set (v := .d (errC 74 (newE s l))) (slh_set (v := .d (.lit (.pointer none))) (slh_set (v := .d (.iptr [encS s])) (slh_set (v := .d (.sl 7 88 (l.map encC))) (slh_no _ _) (by rfl) rfl) (by rfl) rfl) (by rfl) rfl) (by rfl) rfl) (by rfl) rfl) (by rfl) rfl) (hlh_no _ _)) ?_
   refine CW_region ?_
   refine OW_run' hE.ok 1 rfl ?_
   refine OW_callW' hE (code29Ok _) hJ rfl rfl rfl rfl rfl rfl rfl ?_
   refine OW_run' hE.ok 1 rfl ?_
   refine OW_run' hE.ok 1 rfl ?_
   refine OW_as' 34 (.d (boo false)) (by exact congrArg (fun b => AV.d (boo b)) (by simp)) ?_
   refine OW_run' hE.ok 2 rfl ?_
   refine OW_loc' hE (loc_nilNil hE rfl rfl rfl) rfl rfl rfl ?_
   refine OW_run' hE.ok 1 rfl ?_
   refine OW_loc' hE (loc_nilNil hE rfl rfl rfl) rfl rfl rfl ?_
   refine OW_run' hE.ok 2 rfl ?_
   refine OW_end rfl ?_
   refine CW_false rfl ?_
   refine CW_skip ?_
   refine CW_seq ?_
   refine CW_seq ?_
   refine CW_region ?_
   refine OW_run' hE.ok 1 rfl ?_
   refine OW_loc' hE (loc_nilNil hE rfl rfl rfl) rfl rfl rfl ?_
   refine OW_end rfl ?_
   refine CW_true rfl ?_
   refine CW_seq ?_
   refine CW_region ?_
   refine OW_run' hE.ok 1 rfl ?_
   refine OW_end rfl ?_
   refine CW_ret ?_
   refine ⟨.inr rfl, rfl, ⟨_, rfl, rfl, ?_⟩, rfl⟩
   exact AVle.refl _
  ·
   skip
   refine CW_seq ?_
   refine CW_region ?_
   refine OW_run' hE.ok 2 rfl ?_
   refine OW_callM' hE (tr []) (newOk s l hs (new_all hz)) rfl rfl rfl rfl rfl trivial rfl rfl ?_
   refine OW_run' hE.ok 5 rfl ?_
   refine OW_end rfl ?_
   refine CW_seq ?_
   refine CW.le (show LE _ _ ⟨J, (sset (sset (sset (sset noSlots 1 (.d (.sl 7 88 (l.map encC)))) 2 (.d (.iptr [encS s]))) 5 (.ptr 40 0)) 6 (.d (errC 74 0))), (hset (hset (hset noHeap 40 (some (.box 102 [.row 50, .row 51]))) 50 (some (.row 24 1 ((chF s l l.length).1.map encS1)))) 51 (some (.row 43 7 ((chF s l l.length).2.map encC))))⟩ from LE_sh (slh_set (v := .d (errC 74 0)) (slh_set (v := .ptr 40 0) (slh_set (v := .d (.iptr [encS s])) (slh_set (v := .d (.sl 7 88 (l.map encC))) (slh_no _ _) (by rfl) rfl) (by rfl) rfl) (by rfl) rfl) (by rfl) rfl) (hlh_set (hlh_set (hlh_set (hlh_no _ _) rfl rfl) rfl rfl) rfl rfl)) ?_
   refine CW_region ?_
   refine OW_run' hE.ok 2 rfl ?_
   refine OW_callM' hE (tr []) (rNewOk s l hs hz) rfl rfl rfl rfl rfl trivial rfl rfl ?_
   refine OW_run' hE.ok 5 rfl ?_
   refine OW_end rfl ?_
   refine CW_seq ?_
   refine CW_seq ?_
   refine CW.le (show LE _ _ ⟨J, (sset (sset (sset (sset (sset (sset noSlots 1 (.d (.sl 7 88 (l.map encC)))) 2 (.d (.iptr [encS s]))) 5 (.ptr 40 0)) 6 (.d (errC 74 0))) 7 (.ptr 41 0)) 8 (.d (int 0))), (hset (hset (hset (hset noHeap 40 (some (.box 102 [.row 50, .row 51]))) 50 (some (.row 24 1 ((chF s l l.length).1.map encS1)))) 51 (some (.row 43 7 ((chF s l l.length).2.map encC)))) 41 (some (.box 107 [.d (.sl 1 24 ((chF s l l.length).1.map encS1)), .d (.sl 7 88 ((chF s l l.length).2.map encC))])))⟩ from LE_sh (slh_set (v := .d (int 0)) (slh_set (v := .ptr 41 0) (slh_set (v := .d (errC 74 0)) (slh_set (v := .ptr 40 0) (slh_set (v := .d (.iptr [encS s])) (slh_set (v := .d (.sl 7 88 (l.map encC))) (slh_no _ _) (by rfl) rfl) (by rfl) rfl) (by rfl) rfl) (by rfl) rfl) (by rfl) rfl) (by rfl) rfl) (hlh_set (hlh_set (hlh_set (hlh_set (hlh_no _ _) rfl rfl) rfl rfl) rfl rfl) rfl rfl)) ?_
   refine CW_region ?_
   refine OW_run' hE.ok 1 rfl ?_
   refine OW_callW' hE (code29Ok _) hJ rfl rfl rfl rfl rfl rfl rfl ?_
   refine OW_run' hE.ok 1 rfl ?_
   refine OW_run' hE.ok 1 rfl ?_
   refine OW_as' 34 (.d (boo false)) (by rfl) ?_
   refine OW_run' hE.ok 2 rfl ?_
   refine OW_loc' hE (loc_ptrNil hE rfl rfl (k := 40) (off := 0) rfl) rfl rfl rfl ?_
   refine OW_run' hE.ok 1 rfl ?_
   refine OW_loc' hE (loc_ptrNil hE rfl rfl (k := 41) (off := 0) rfl) rfl rfl rfl ?_
   refine OW_run' hE.ok 2 rfl ?_
   refine OW_end rfl ?_
   refine CW_false rfl ?_
   refine CW_skip ?_
   refine CW_seq ?_
   refine CW_seq ?_
   refine CW_region ?_
   refine OW_run' hE.ok 1 rfl ?_
   refine OW_loc' hE (loc_ptrNil hE rfl rfl (k := 40) (off := 0) rfl) rfl rfl rfl ?_
   refine OW_end rfl ?_
   refine CW_false rfl ?_
   refine CW_skip ?_
   refine CW_seq ?_
   refine CW_seq ?_
   have hok := chF_ok (l := l) hs l.length
   have hcl := hok.few
   have hsl := hok.len
   have hcn := chF_len (new_all hz) l.length (Nat.le_refl _)
   refine CW.le (LE_freeze 50 24 rfl (by simp <;> omega)) ?_
   refine CW.le (LE_freeze 51 88 rfl (by simp <;> omega)) ?_
   refine CW.le (LE_freezeBox 40 (ds := encCh (chF s l l.length).1 (chF s l l.length).2) rfl rfl) ?_
   refine CW.le (LE_freezeBox 41 (ds := encCh (chF s l l.length).1 (chF s l l.length).2) rfl rfl) ?_
   refine CW.le (show LE _ _ ⟨J, (sset (sset (sset noSlots 1 (.d (.sl 7 88 (l.map encC)))) 5 (.d (.iptr (encCh (chF s l l.length).1 (chF s l l.length).2)))) 7 (.d (.iptr (encCh (chF s l l.length).1 (chF s l l.length).2)))), noHeap⟩ from LE_sh (slh_set (v := .d (.iptr (encCh (chF s l l.length).1 (chF s l l.length).2))) (slh_set (v := .d (.iptr (encCh (chF s l l.length).1 (chF s l l.length).2))) (slh_set (v := .d (.sl 7 88 (l.map encC))) (slh_no _ _) (by rfl) rfl) (by rfl) rfl) (by rfl) rfl) (hlh_no _ _)) ?_
   refine CW_region ?_
   refine OW_run' hE.ok 1 rfl ?_
   refine OW_end rfl ?_
   refine CW_block ?_
   refine CW_loop (σ := {i : Nat // i ≤ l.length + 1}) (fun i => ⟨J, (sset (sset (sset (sset noSlots 1 (.d (.sl 7 88 (l.map encC)))) 5 (.d (.iptr (encCh (chF s l l.length).1 (chF s l l.length).2)))) 7 (.d (.iptr (encCh (chF s l l.length).1 (chF s l l.length).2)))) 9 (.d (int ((i.1 : Nat) : Int)))), noHeap⟩) (fun i => l.length + 1 - i.1) ⟨0, Nat.zero_le _⟩ (LE_sh (slh_set (slh_set (slh_set (slh_set (slh_no _ _) rfl rfl) rfl rfl) rfl rfl) rfl rfl) (hlh_no _ _)) fun ⟨i, hi⟩ => ?_
   refine CW_seq ?_
   refine CW_seq ?_
   refine CW_region ?_
   refine OW_run' hE.ok 4 rfl ?_
   refine OW_end rfl ?_
   refine CW_cond _ rfl (fun h2 => ?_) (fun h2 => ?_)
   ·
    have hlt : i ≤ l.length := by have := h2; rw [List.length_map] at this; simp at this; omega
    obtain ⟨t, ht, _⟩ := hok.at (show i ≤ (chF s l l.length).2.length by omega)
    refine CW_skip ?_
    refine CW_seq ?_
    refine CW_block ?_
    refine CW_seq ?_
    refine CW_region ?_
    refine OW_run' hE.ok 2 rfl ?_
    refine OW_call' hE (atD (chF s l l.length).1 (chF s l l.length).2 i t hsl ht) rfl rfl rfl rfl rfl rfl rfl ?_
    refine OW_run' hE.ok 3 rfl ?_
    refine OW_alloc' hE 1 rfl rfl rfl rfl rfl rfl rfl ?_
    refine OW_store' hE rfl rfl rfl rfl rfl rfl rfl rfl rfl rfl rfl rfl ?_
    refine OW_run' hE.ok 1 rfl ?_
    refine OW_end rfl ?_
    refine CW_seq ?_
    refine CW_region ?_
    refine OW_run' hE.ok 2 rfl ?_
    refine OW_call' hE (rAtD (chF s l l.length).1 (chF s l l.length).2 i t ht) rfl rfl rfl rfl rfl rfl rfl ?_
    refine OW_run' hE.ok 3 rfl ?_
    refine OW_alloc' hE 2 rfl rfl rfl rfl rfl rfl rfl ?_
    refine OW_store' hE rfl rfl rfl rfl rfl rfl rfl rfl rfl rfl rfl rfl ?_
    refine OW_run' hE.ok 1 rfl ?_
    refine OW_end rfl ?_
    refine CW_seq ?_
    refine CW_region ?_
    refine OW_run' hE.ok 2 rfl ?_
    refine OW_run' hE.ok 1 rfl ?_
    refine OW_run' hE.ok 3 rfl ?_
    refine OW_call' hE ((by have hq := refSameSOk t t; rw [sS_refl] at hq; exact hq)) rfl rfl rfl rfl rfl rfl rfl ?_
    refine OW_run' hE.ok 2 rfl ?_
    refine OW_end rfl ?_
    refine CW_false rfl ?_
    refine CW_skip ?_
    refine CW_region ?_
    refine OW_run' hE.ok 3 rfl ?_
    refine OW_end rfl ?_
    refine ⟨⟨i + 1, by omega⟩, LE_sh (slh_set (v := .d (int ((i + 1 : Nat) : Int))) (slh_set (v := .d (.iptr (encCh (chF s l l.length).1 (chF s l l.length).2))) (slh_set (v := .d (.iptr (encCh (chF s l l.length).1 (chF s l l.length).2))) (slh_set (v := .d (.sl 7 88 (l.map encC))) (slh_no _ _) (by rfl) rfl) (by rfl) rfl) (by rfl) rfl) (by show AV.d (.lit (.int .i64 (IntKind.i64.wrap ((i : Int) + 1)))) = _; rw [wrap_succ (by omega)]; rfl) rfl) (hlh_no _ _), by show l.length + 1 - (i + 1) < l.length + 1 - i; omega⟩
   ·
    skip
    refine CW_exit ?_
    show CW _ _ _ _
    refine CW_seq ?_
    refine CW_region ?_
    refine OW_run' hE.ok 1 rfl ?_
    refine OW_call' hE (nowD (chF s l l.length).1 (chF s l l.length).2) rfl rfl rfl rfl rfl rfl rfl ?_
    refine OW_run' hE.ok 2 rfl ?_
    refine OW_run' hE.ok 1 rfl ?_
    refine OW_as' 75 (.d (boo true)) (by exact congrArg (fun b => AV.d (boo b)) (by rw [List.length_map, hcn]; simp)) ?_
    refine OW_run' hE.ok 1 rfl ?_
    refine OW_end rfl ?_
    refine CW_ret ?_
    refine ⟨.inr rfl, rfl, ⟨_, rfl, rfl, ?_⟩, rfl⟩
    exact AVle.refl _
end Go.Proofs.YtchpllgeahnmmaaDoor
