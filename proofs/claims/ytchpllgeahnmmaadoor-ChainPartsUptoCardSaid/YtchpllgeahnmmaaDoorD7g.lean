/- Parts of an abstract logic over the kit's walks, and walks in it: D7g. -/
import Derived.Test.YtchpllgeahnmmaaDoorD7c
import Derived.Test.YtchpllgeahnmmaaDoorD7e
import Derived.Test.YtchpllgeahnmmaaDoorD7j
import Derived.Test.YtchpllgeahnmmaaDoorCp
namespace Go.Proofs.YtchpllgeahnmmaaDoor
open Go Go.AL
set_option linter.unusedVariables false
set_option linter.unusedSimpArgs false
set_option maxHeartbeats 4000000
theorem copiedAll (s : List Ty) : DoesM Tryd.prog 56 [] [argS s] (.agg [.row 50]) [(50, .rowA 72 2 s.length ((s.map encT).flatten.map .d))] [] := by
  have h := copiedOk s s.length
  rw [copL_none] at h
  exact h

theorem addsOk (s : List Ty) (c : Chg) : Does Tryd.prog 53 [argS s, argC c] noHeap (.tup [argS (addX s c.ty).1, .d (errC 74 (addX s c.ty).2)]) := by
  refine Does_of T_ok mixed (N := 56) Tryd.func53 rfl rfl rfl (by rfl) fun F n Z hE hF J => ?_
  refine CW_seq ?_
  refine CW_region ?_
  refine OW_run' hE.ok 2 rfl ?_
  refine OW_alloc' hE 1 rfl rfl rfl rfl rfl rfl rfl ?_
  refine OW_run' hE.ok 1 rfl ?_
  refine OW_end rfl ?_
  refine CW_seq ?_
  refine CW_seq ?_
  refine CW_region ?_
  refine OW_run' hE.ok 3 rfl ?_
  refine OW_call' hE (findOk s c.ty) rfl rfl rfl rfl rfl rfl rfl ?_
  refine OW_run' hE.ok 3 rfl ?_
  refine OW_alloc' hE 2 rfl rfl rfl rfl rfl rfl rfl ?_
  refine OW_store' hE rfl rfl rfl rfl rfl rfl rfl rfl rfl rfl rfl rfl ?_
  refine OW_run' hE.ok 1 rfl ?_
  refine OW_end rfl ?_
  refine CW_seq ?_
  refine CW_region ?_
  refine OW_run' hE.ok 1 rfl ?_
  refine OW_end rfl ?_
  refine CW_cond _ rfl (fun h1 => ?_) (fun h1 => ?_)
  · skip
    have f1 : (findT s c.ty).2 = true := h1
    refine CW_seq ?_
    refine CW_region ?_
    refine OW_run' hE.ok 2 rfl ?_
    refine OW_store' hE rfl rfl rfl rfl rfl rfl rfl rfl rfl rfl rfl rfl ?_
    refine OW_run' hE.ok 1 rfl ?_
    refine OW_end rfl ?_
    refine CW_ret ?_
    refine ⟨.inr rfl, rfl, ⟨_, rfl, rfl, ?_⟩, rfl⟩
    rw [ad_1 f1]
    exact AVle.refl _
  · skip
    have f1 : (findT s c.ty).2 = false := h1
    refine CW_skip ?_
    refine CW_seq ?_
    refine CW_seq ?_
    refine CW_region ?_
    refine OW_run' hE.ok 4 rfl ?_
    refine OW_end rfl ?_
    refine CW_cond _ rfl (fun h2 => ?_) (fun h2 => ?_)
    · skip
      have f2 : decide ((s.length : Int) ≥ 5) = true := by have := h2; rw [List.length_map] at this; exact this
      refine CW_seq ?_
      refine CW_region ?_
      refine OW_run' hE.ok 2 rfl ?_
      refine OW_store' hE rfl rfl rfl rfl rfl rfl rfl rfl rfl rfl rfl rfl ?_
      refine OW_run' hE.ok 1 rfl ?_
      refine OW_end rfl ?_
      refine CW_ret ?_
      refine ⟨.inr rfl, rfl, ⟨_, rfl, rfl, ?_⟩, rfl⟩
      rw [ad_2 f1 f2]
      exact AVle.refl _
    · skip
      have f2 : decide ((s.length : Int) ≥ 5) = false := by have := h2; rw [List.length_map] at this; exact this
      have hl5 : s.length < 5 := by have := f2; simp at this; omega
      refine CW_skip ?_
      refine CW_seq ?_
      refine CW_region ?_
      refine OW_run' hE.ok 1 rfl ?_
      refine OW_callM' hE (tr []) (copiedAll s) rfl rfl rfl rfl rfl trivial rfl rfl ?_
      refine OW_alloc' hE 3 rfl rfl rfl rfl rfl rfl rfl ?_
      refine OW_store' hE rfl rfl rfl rfl rfl rfl rfl rfl rfl rfl rfl rfl ?_
      refine OW_end rfl ?_
      refine CW_seq ?_
      refine CW.le (LE_rowD 50 (xs := s.map encT) rfl (by simp) (rnAs_dd _ _) (enc_two s)) ?_
      refine CW.le (show LE _ _ ⟨J, (sset (sset (sset noSlots 3 (.d (.iptr (encC c)))) 4 (.ptr 1 0)) 8 (.ptr 3 0)), (hset (hset (hset noHeap 1 (some (.box 24 [.d (.lit (.slice none 0 0))]))) 3 (some (.box 24 [.row 50]))) 50 (some (.row 72 2 (s.map encT))))⟩ from LE_sh (slh_set (v := .ptr 3 0) (slh_set (v := .ptr 1 0) (slh_set (v := .d (.iptr (encC c))) (slh_no _ _) (by rfl) rfl) (by rfl) rfl) (by rfl) rfl) (hlh_set (hlh_set (hlh_set (hlh_no _ _) rfl rfl) rfl rfl) rfl rfl)) ?_
      refine CW_region ?_
      refine OW_run' hE.ok 1 rfl ?_
      refine OW_end rfl ?_
      refine CW_cutE (fun _ : Unit => ⟨J, (sset (sset (sset (sset noSlots 3 (.d (.iptr (encC c)))) 4 (.ptr 1 0)) 8 (.ptr 3 0)) 9 (.d (int ((posX s c.ty : Nat) : Int)))), (hset (hset (hset noHeap 1 (some (.box 24 [.d (.lit (.slice none 0 0))]))) 3 (some (.box 24 [.row 50]))) 50 (some (.row 72 2 (s.map encT))))⟩) (fun _ => True) ?_ ?_
      · skip
        refine CW_block ?_
        refine CW_loop (σ := {i : Nat // i ≤ s.length ∧ ∀ (j : Nat) (a : Ty), j < i → s[j]? = some a → less a.name c.ty = true}) (fun i => ⟨J, (sset (sset (sset (sset noSlots 3 (.d (.iptr (encC c)))) 4 (.ptr 1 0)) 8 (.ptr 3 0)) 9 (.d (int ((i.1 : Nat) : Int)))), (hset (hset (hset noHeap 1 (some (.box 24 [.d (.lit (.slice none 0 0))]))) 3 (some (.box 24 [.row 50]))) 50 (some (.row 72 2 (s.map encT))))⟩) (fun i => s.length - i.1) ⟨0, Nat.zero_le _, fun j a hj => by omega⟩ (LE_sh (slh_set (slh_set (slh_set (slh_set (slh_no _ _) rfl rfl) rfl rfl) rfl rfl) rfl rfl) (hlh_set (hlh_set (hlh_set (hlh_no _ _) rfl rfl) rfl rfl) rfl rfl)) fun ⟨i, hi, hp⟩ => ?_
        refine CW_seq ?_
        refine CW_seq ?_
        refine CW_drawn' hE 14 (by decide +kernel) ?_
        refine HW_run hE 6 rfl rfl ?_
        refine HW_split 33 rfl (fun h3 => ?_) (fun h3 => ?_)
        · skip
          have hlt : i < s.length := by have := h3; rw [List.length_map] at this; simp at this; omega
          obtain ⟨a, ha⟩ : ∃ a, s[i]? = some a := ⟨_, List.getElem?_eq_getElem hlt⟩
          refine HW_run hE 3 rfl rfl ?_
          refine HW_loc hE (loc_idxRow hE rfl rfl rfl rfl rfl (j := i) rfl (by rw [List.length_map]; exact hlt)) rfl rfl rfl rfl ?_
          refine HW_run hE 1 rfl rfl ?_
          refine HW_loc hE (loc_loadRow hE rfl rfl rfl (j := i) (off := 0) rfl rfl (x := encT a) (by simp [ha]) (Nat.zero_le _) rfl) rfl rfl rfl rfl ?_
          refine HW_run hE 2 rfl rfl ?_
          refine HW_end ?_
          refine OW_run' hE.ok 2 rfl ?_
          refine OW_end rfl ?_
          refine CW_cond _ rfl (fun h4 => ?_) (fun h4 => ?_)
          · skip
            have hles : less a.name c.ty = true := h4
            refine CW_skip ?_
            refine CW_block ?_
            refine CW_region ?_
            refine OW_run' hE.ok 3 rfl ?_
            refine OW_end rfl ?_
            refine ⟨⟨i + 1, by omega, fun j x hj hx => ?_⟩, LE_sh (slh_set (v := .d (int ((i + 1 : Nat) : Int))) (slh_set (v := .ptr 3 0) (slh_set (v := .ptr 1 0) (slh_set (v := .d (.iptr (encC c))) (slh_no _ _) (by rfl) rfl) (by rfl) rfl) (by rfl) rfl) (by show AV.d (.lit (.int .i64 (IntKind.i64.wrap ((i : Int) + 1)))) = _; rw [wrap_succ (by omega)]; rfl) rfl) (hlh_set (hlh_set (hlh_set (hlh_no _ _) rfl rfl) rfl rfl) rfl rfl), by show s.length - (i + 1) < s.length - i; omega⟩
            by_cases hji : j = i
            · subst hji; rw [ha] at hx; cases hx; exact hles
            · exact hp j x (by omega) hx
          · skip
            have hles : less a.name c.ty = false := h4
            refine CW_exit ?_
            have hpos : posX s c.ty = i := posX_at hi hp (.inr ⟨a, ha, hles⟩)
            exact ⟨(), trivial, LE_sh (slh_set (v := .d (int ((posX s c.ty : Nat) : Int))) (slh_set (v := .ptr 3 0) (slh_set (v := .ptr 1 0) (slh_set (v := .d (.iptr (encC c))) (slh_no _ _) (by rfl) rfl) (by rfl) rfl) (by rfl) rfl) (by exact (congrArg (fun z : Nat => AV.d (int (z : Int))) hpos.symm)) rfl) (hlh_set (hlh_set (hlh_set (hlh_no _ _) rfl rfl) rfl rfl) rfl rfl)⟩
        · skip
          have hge : i = s.length := by have := h3; rw [List.length_map] at this; simp at this; omega
          refine HW_run hE 8 rfl rfl ?_
          refine HW_end ?_
          refine OW_run' hE.ok 2 rfl ?_
          refine OW_end rfl ?_
          refine CW_false rfl ?_
          refine CW_exit ?_
          have hpos : posX s c.ty = i := posX_at hi hp (.inl hge)
          exact ⟨(), trivial, LE_sh (slh_set (v := .d (int ((posX s c.ty : Nat) : Int))) (slh_set (v := .ptr 3 0) (slh_set (v := .ptr 1 0) (slh_set (v := .d (.iptr (encC c))) (slh_no _ _) (by rfl) rfl) (by rfl) rfl) (by rfl) rfl) (by exact (congrArg (fun z : Nat => AV.d (int (z : Int))) hpos.symm)) rfl) (hlh_set (hlh_set (hlh_set (hlh_no _ _) rfl rfl) rfl rfl) rfl rfl)⟩
      · skip
        rintro _ _
        have hpl := posX_le s c.ty
        refine CW_seq ?_
        refine CW_region ?_
        refine OW_run' hE.ok 5 rfl ?_
        refine OW_build' hE rfl rfl rfl rfl rfl ?_
        refine OW_litsOwn' hE 51 rfl rfl rfl rfl rfl rfl rfl rfl rfl rfl rfl rfl ?_
        refine OW_insert' hE (key := 50) (key2 := 51) insT rfl rfl rfl rfl rfl rfl rfl rfl rfl (j := posX s c.ty) rfl (by simpa using hpl) (by simp) (by simp; omega) (by simp; omega) rfl ?_
        refine OW_run' hE.ok 1 rfl ?_
        refine OW_store' hE rfl rfl rfl rfl rfl rfl rfl rfl rfl rfl rfl rfl ?_
        refine OW_end rfl ?_
        refine CW_seq ?_
        refine CW.le (LE_rowLe 50 (xs' := (insX s c.ty).map encT) rfl (by simp [insX_len, hpl]; omega) (fun _ => ins_two s c.ty) (ins_dles s c.ty)) ?_
        refine CW.le (LE_freeze 50 40 rfl (by simp [insX_len]; omega)) ?_
        refine CW_region ?_
        refine OW_run' hE.ok 1 rfl ?_
        refine OW_store' hE rfl rfl rfl rfl rfl rfl rfl rfl rfl rfl rfl rfl ?_
        refine OW_run' hE.ok 1 rfl ?_
        refine OW_end rfl ?_
        refine CW_ret ?_
        refine ⟨.inr rfl, rfl, ⟨_, rfl, rfl, ?_⟩, rfl⟩
        rw [ad_3 f1 f2]
        exact AVle.refl _
end Go.Proofs.YtchpllgeahnmmaaDoor
