/- Parts of an abstract logic over the kit's walks, and walks in it: D7rc, D7n, D7ra, D7rm, D7rh, D7rn. -/
import Derived.Test.YtchpllgeahnmmaaDoorDxa
import Derived.Test.YtchpllgeahnmmaaDoorRp
import Derived.Test.YtchpllgeahnmmaaDoorAg
import Derived.Test.YtchpllgeahnmmaaDoorEz
import Derived.Test.YtchpllgeahnmmaaDoorAe
import Derived.Test.YtchpllgeahnmmaaDoorCh
import Derived.Test.YtchpllgeahnmmaaDoorAf
namespace Go.Proofs.YtchpllgeahnmmaaDoor
open Go Go.AL
set_option linter.unusedVariables false
set_option linter.unusedSimpArgs false
set_option maxHeartbeats 4000000
theorem enc_twoF (t : Ty) : ∀ y ∈ t.fields.map encF, y.length = 2 := fun y hy => by
 obtain ⟨f, _, rfl⟩ := List.mem_map.1 hy
 rfl
theorem refCopiedOk (s : List Ty) (q : Nat) (hs : isSchema s = true) : DoesM Tryd.prog 58 [] [argS s] (.agg [.row 50]) (copL 72 69 s q) [] := by
 refine DoesM_of T_ok mixed (N := 32) Tryd.func58 rfl rfl rfl (by rfl) rfl rfl (copL_closed _ _ _ _) rfl (copL_in _ _ _ _) rfl fun F n Z hE hF J V => ?_
 have hsl := right_len hs
 refine CW_seq ?_
 refine CW_region ?_
 refine OW_run' hE.ok 1 rfl ?_
 refine OW_alloc' hE 1 rfl rfl rfl rfl rfl rfl rfl ?_
 refine OW_end rfl ?_
 refine CW_seq ?_
 refine CW_region ?_
 refine OW_alloc' hE 2 rfl rfl rfl rfl rfl rfl rfl ?_
 refine OW_end rfl ?_
 refine CW_seq ?_
 refine CW_seq ?_
 refine CW_region ?_
 refine OW_run' hE.ok 1 rfl ?_
 refine OW_end rfl ?_
 refine CW_block ?_
 refine CW.le (LE_nilBox 2 50 72 2 (i := 0) rfl rfl rfl) ?_
 refine CW.le (LE_rowA 50 (n := 0) (cs := []) rfl rfl rfl) ?_
 refine CW_loop (σ := {i : Nat // i ≤ s.length}) (fun i => ⟨J, (sset (sset (sset (sset noSlots 1 (.d (.iptr [encS s]))) 2 (.ptr 1 0)) 3 (.ptr 2 0)) 4 (.d (int ((i.1 : Nat) : Int)))), (hR 24 72 69 s V q (i.1))⟩) (fun i => s.length - i.1) ⟨0, Nat.zero_le _⟩ (LE_sh (slh_set (slh_set (slh_set (slh_set (slh_no _ _) rfl rfl) rfl rfl) rfl rfl) rfl rfl) (hR_hlh rfl rfl rfl (o70_no (Nat.zero_le _)).symm rfl (Nat.zero_le _) rfl (.inl (Nat.zero_le _)))) fun ⟨i, hi⟩ => ?_
 by_cases hiq : i = q
 ·
  subst hiq
  refine CW.le (show LE _ _ ⟨J, (sset (sset (sset (sset noSlots 1 (.d (.iptr [encS s]))) 2 (.ptr 1 0)) 3 (.ptr 2 0)) 4 (.d (int ((i : Nat) : Int)))), (hRn 24 72 s V i i)⟩ from LE_sh (slh_set (v := .d (int ((i : Nat) : Int))) (slh_set (v := .ptr 2 0) (slh_set (v := .ptr 1 0) (slh_set (v := .d (.iptr [encS s])) (slh_no _ _) (by rfl) rfl) (by rfl) rfl) (by rfl) rfl) (by rfl) rfl) (hRn_hlh rfl rfl rfl rfl rfl (Nat.le_refl _))) ?_
  refine CW_seq ?_
  refine CW_seq ?_
  refine CW_region ?_
  refine OW_run' hE.ok 5 rfl ?_
  refine OW_end rfl ?_
  refine CW_cond _ rfl (fun h1 => ?_) (fun h1 => ?_)
  ·
   have hlt : i < s.length := by have := h1; rw [List.length_map] at this; simp at this; omega
   obtain ⟨t, ht⟩ : ∃ t, s[i]? = some t := ⟨_, List.getElem?_eq_getElem hlt⟩
   have hfew := right_fields hs ht
   refine CW_skip ?_
   refine CW_seq ?_
   refine CW_block ?_
   refine CW_drawnG hE 17 [(14, 70, .row 69 2 (t.fields.map encF)), (16, 51, .rowA 72 2 1 [.d (str t.name), .row 70])] (by decide +kernel) rfl ?_
   refine HG_run hE 5 rfl rfl rfl rfl ?_
   refine HG_loc hE (fun b => loc_indexAddr hE rfl rfl rfl rfl rfl (by omega) (x := encT t) (by simp [ht])) rfl rfl rfl rfl rfl ?_
   refine HG_run hE 5 rfl rfl rfl rfl ?_
   refine HG_loc hE (fun b => loc_indexAddr hE rfl rfl rfl rfl rfl (by omega) (x := encT t) (by simp [ht])) rfl rfl rfl rfl rfl ?_
   refine HG_run hE 2 rfl rfl rfl rfl ?_
   refine HG_appendNil hE rfl rfl rfl rfl rfl rfl rfl rfl rfl rfl (by simp; omega) (by simp; omega) rfl ?_
   refine HG_loc hE (fun b => loc_build hE rfl rfl) rfl rfl rfl rfl rfl ?_
   refine HG_litsA hE rfl rfl rfl rfl rfl rfl rfl rfl rfl rfl rfl rfl rfl rfl rfl ?_
   refine HG_end ?_
   refine OW_appendA' hE (key := 50) (key2 := 51) rfl rfl rfl rfl rfl rfl rfl rfl rfl rfl rfl (by rw [finC_len]; simp; omega) rfl (by show i + 1 ≤ _; omega) (by show (i + 1) * 40 ≤ _; omega) (zs := finC i 0 (s.take (i + 1))) (by rw [finC_next ht (by rw [if_pos rfl]), finC_unk (by decide)]) rfl ?_
   refine OW_run' hE.ok 1 rfl ?_
   refine OW_store' hE rfl rfl rfl rfl rfl rfl rfl rfl rfl rfl rfl rfl ?_
   refine OW_end rfl ?_
   refine CW_region ?_
   refine OW_run' hE.ok 3 rfl ?_
   refine OW_end rfl ?_
   exact ⟨⟨i + 1, hlt⟩, LE_sh (slh_set (v := .d (int ((i + 1 : Nat) : Int))) (slh_set (v := .ptr 2 0) (slh_set (v := .ptr 1 0) (slh_set (v := .d (.iptr [encS s])) (slh_no _ _) (by rfl) rfl) (by rfl) rfl) (by rfl) rfl) (by show AV.d (.lit (.int .i64 (IntKind.i64.wrap ((i : Int) + 1)))) = _; rw [wrap_succ (by omega)]; rfl) rfl) (hR_hlh rfl rfl rfl ((o70_at ht).symm) rfl hlt rfl (hR_70 (tS := 24) (tT := 72) (tF := 69) (V := V) hlt)), by show s.length - (i + 1) < s.length - i; omega⟩
  ·
   have hge : i = s.length := by have := h1; rw [List.length_map] at this; simp at this; omega
   refine CW_exit ?_
   show CW _ _ _ _
   refine CW_seq ?_
   refine CW_region ?_
   refine OW_run' hE.ok 1 rfl ?_
   refine OW_store' hE rfl rfl rfl rfl rfl rfl rfl rfl rfl rfl rfl rfl ?_
   refine OW_end rfl ?_
   exact CW_ret ⟨.inr rfl, rfl, ⟨_, rfl, AVle.refl _⟩, copR_all hge rfl (o70_no (Nat.le_refl _)).symm, rfl⟩
 ·
  skip
  refine CW_seq ?_
  refine CW_seq ?_
  refine CW_region ?_
  refine OW_run' hE.ok 5 rfl ?_
  refine OW_end rfl ?_
  refine CW_cond _ rfl (fun h2 => ?_) (fun h2 => ?_)
  ·
   have hlt : i < s.length := by have := h2; rw [List.length_map] at this; simp at this; omega
   obtain ⟨t, ht⟩ : ∃ t, s[i]? = some t := ⟨_, List.getElem?_eq_getElem hlt⟩
   have hfew := right_fields hs ht
   refine CW_skip ?_
   refine CW_seq ?_
   refine CW_block ?_
   refine CW_drawnG hE 17 [(16, 51, .rowA 72 2 1 [.d (str t.name), fldD t])] (by decide +kernel) rfl ?_
   refine HG_run hE 5 rfl rfl rfl rfl ?_
   refine HG_loc hE (fun b => loc_indexAddr hE rfl rfl rfl rfl rfl (by omega) (x := encT t) (by simp [ht])) rfl rfl rfl rfl rfl ?_
   refine HG_run hE 5 rfl rfl rfl rfl ?_
   refine HG_loc hE (fun b => loc_indexAddr hE rfl rfl rfl rfl rfl (by omega) (x := encT t) (by simp [ht])) rfl rfl rfl rfl rfl ?_
   refine HG_run hE 2 rfl rfl rfl rfl ?_
   refine HG_loc hE (fun b => loc_appendNil hE rfl rfl rfl rfl rfl rfl (by simp; omega) (by simp; omega) (enc_twoF t)) rfl rfl rfl rfl rfl ?_
   refine HG_loc hE (fun b => loc_build hE rfl rfl) rfl rfl rfl rfl rfl ?_
   refine HG_litsA hE rfl rfl rfl rfl rfl rfl rfl rfl rfl rfl rfl rfl rfl rfl rfl ?_
   refine HG_end ?_
   refine OW_appendA' hE (key := 50) (key2 := 51) rfl rfl rfl rfl rfl rfl rfl rfl rfl rfl rfl (by rw [finC_len]; simp; omega) rfl (by show i + 1 ≤ _; omega) (by show (i + 1) * 40 ≤ _; omega) (zs := finC q 0 (s.take (i + 1))) (by rw [finC_next ht (by rw [if_neg hiq]), finC_unk (by decide)]) rfl ?_
   refine OW_run' hE.ok 1 rfl ?_
   refine OW_store' hE rfl rfl rfl rfl rfl rfl rfl rfl rfl rfl rfl rfl ?_
   refine OW_end rfl ?_
   refine CW_region ?_
   refine OW_run' hE.ok 3 rfl ?_
   refine OW_end rfl ?_
   exact ⟨⟨i + 1, hlt⟩, LE_sh (slh_set (v := .d (int ((i + 1 : Nat) : Int))) (slh_set (v := .ptr 2 0) (slh_set (v := .ptr 1 0) (slh_set (v := .d (.iptr [encS s])) (slh_no _ _) (by rfl) rfl) (by rfl) rfl) (by rfl) rfl) (by show AV.d (.lit (.int .i64 (IntKind.i64.wrap ((i : Int) + 1)))) = _; rw [wrap_succ (by omega)]; rfl) rfl) (hR_hlh rfl rfl rfl ((o70_unk (k := 50)).trans (o70_ne hiq).symm) rfl hlt rfl (hR_70 (tS := 24) (tT := 72) (tF := 69) (V := V) hlt)), by show s.length - (i + 1) < s.length - i; omega⟩
  ·
   have hge : i = s.length := by have := h2; rw [List.length_map] at this; simp at this; omega
   refine CW_exit ?_
   show CW _ _ _ _
   refine CW_seq ?_
   refine CW_region ?_
   refine OW_run' hE.ok 1 rfl ?_
   refine OW_store' hE rfl rfl rfl rfl rfl rfl rfl rfl rfl rfl rfl rfl ?_
   refine OW_end rfl ?_
   exact CW_ret ⟨.inr rfl, rfl, ⟨_, rfl, AVle.refl _⟩, copR_all hge rfl rfl, rfl⟩
end Go.Proofs.YtchpllgeahnmmaaDoor
namespace Go.Proofs.YtchpllgeahnmmaaDoor
open Go Go.AL
set_option linter.unusedVariables false
set_option linter.unusedSimpArgs false
set_option maxHeartbeats 4000000
theorem refAddOk (t : Ty) (c : Chg) (k : Int) : Does Tryd.prog 59 [argT t, argC c, .d (int k)] noHeap (.d (int (bif !isName c.fld || !isVal c.dv then 10 else bif decide (k ≥ 0) then 13 else bif decide ((t.fields.length : Int) ≥ 5) then 12 else (0 : Int)))) := by
 refine Does_of T_ok mixed (N := 26) Tryd.func59 rfl rfl rfl (by rfl) fun F n Z hE hF J => ?_
 refine CW_seq ?_
 refine CW_region ?_
 refine OW_run' hE.ok 3 rfl ?_
 refine OW_end rfl ?_
 refine CW_seq ?_
 refine CW_block ?_
 refine CW_seq ?_
 refine CW_region ?_
 refine OW_run' hE.ok 2 rfl ?_
 refine OW_call' hE (refNameOk c.fld) rfl rfl rfl rfl rfl rfl rfl ?_
 refine OW_run' hE.ok 2 rfl ?_
 refine OW_split' 12 rfl (fun h1 => ?_) (fun h1 => ?_)
 ·
  have a1 : (!isName c.fld) = true := h1
  refine OW_run' hE.ok 6 rfl ?_
  refine OW_end rfl ?_
  refine CW_true rfl ?_
  refine CW_seq ?_
  refine CW_region ?_
  refine OW_run' hE.ok 1 rfl ?_
  refine OW_end rfl ?_
  refine CW_ret ?_
  refine ⟨.inr rfl, rfl, ⟨_, rfl, rfl, ?_⟩, rfl⟩
  exact AVle.of (congrArg (fun b => AV.d (int b)) (by rw [a1]; rfl))
 ·
  have a1 : (!isName c.fld) = false := h1
  refine OW_run' hE.ok 2 rfl ?_
  refine OW_call' hE (refIsValOk c.dv) rfl rfl rfl rfl rfl rfl rfl ?_
  refine OW_run' hE.ok 3 rfl ?_
  refine OW_end rfl ?_
  refine CW_cond _ rfl (fun h2 => ?_) (fun h2 => ?_)
  ·
   have a2 : (!isVal c.dv) = true := h2
   refine CW_seq ?_
   refine CW_region ?_
   refine OW_run' hE.ok 1 rfl ?_
   refine OW_end rfl ?_
   refine CW_ret ?_
   refine ⟨.inr rfl, rfl, ⟨_, rfl, rfl, ?_⟩, rfl⟩
   exact AVle.of (congrArg (fun b => AV.d (int b)) (by rw [a1, a2]; rfl))
  ·
   have a2 : (!isVal c.dv) = false := h2
   refine CW_seq ?_
   refine CW_region ?_
   refine OW_run' hE.ok 3 rfl ?_
   refine OW_end rfl ?_
   refine CW_cond _ rfl (fun h3 => ?_) (fun h3 => ?_)
   ·
    have a3 : decide (k ≥ 0) = true := h3
    refine CW_seq ?_
    refine CW_region ?_
    refine OW_run' hE.ok 1 rfl ?_
    refine OW_end rfl ?_
    refine CW_ret ?_
    refine ⟨.inr rfl, rfl, ⟨_, rfl, rfl, ?_⟩, rfl⟩
    exact AVle.of (congrArg (fun b => AV.d (int b)) (by rw [a1, a2, a3]; rfl))
   ·
    have a3 : decide (k ≥ 0) = false := h3
    refine CW_seq ?_
    refine CW_region ?_
    refine OW_run' hE.ok 5 rfl ?_
    refine OW_end rfl ?_
    refine CW_cond _ rfl (fun h4 => ?_) (fun h4 => ?_)
    ·
     have a4 : decide ((t.fields.length : Int) ≥ 5) = true := by have := h4; rw [List.length_map] at this; exact this
     refine CW_seq ?_
     refine CW_region ?_
     refine OW_run' hE.ok 1 rfl ?_
     refine OW_end rfl ?_
     refine CW_ret ?_
     refine ⟨.inr rfl, rfl, ⟨_, rfl, rfl, ?_⟩, rfl⟩
     exact AVle.of (congrArg (fun b => AV.d (int b)) (by rw [a1, a2, a3, a4]; rfl))
    ·
     have a4 : decide ((t.fields.length : Int) ≥ 5) = false := by have := h4; rw [List.length_map] at this; exact this
     refine CW_skip ?_
     refine CW_seq ?_
     refine CW_region ?_
     refine OW_run' hE.ok 1 rfl ?_
     refine OW_end rfl ?_
     refine CW_ret ?_
     refine ⟨.inr rfl, rfl, ⟨_, rfl, rfl, ?_⟩, rfl⟩
     exact AVle.of (congrArg (fun b => AV.d (int b)) (by rw [a1, a2, a3, a4]; rfl))
end Go.Proofs.YtchpllgeahnmmaaDoor
namespace Go.Proofs.YtchpllgeahnmmaaDoor
open Go Go.AL
set_option linter.unusedVariables false
set_option linter.unusedSimpArgs false
set_option maxHeartbeats 4000000
theorem refCopiedAt (s : List Ty) (i : Nat) (t : Ty) (hs : isSchema s = true) (ht : s[i]? = some t) : DoesM Tryd.prog 58 [] [argS s] (.agg [.row 50]) [(50, .rowA 72 2 s.length (cX (preD s i) (postD s i) t.name (.row 70))), (70, .row 69 2 (t.fields.map encF))] [] := by
 have h := refCopiedOk s i hs
 rw [copL_at ht] at h
 exact h
theorem refCopiedAll (s : List Ty) (hs : isSchema s = true) : DoesM Tryd.prog 58 [] [argS s] (.agg [.row 50]) [(50, .rowA 72 2 s.length ((s.map encT).flatten.map .d))] [] := by
 have h := refCopiedOk s s.length hs
 rw [copL_none] at h
 exact h
theorem refAddR (t : Ty) (c : Chg) (k : Int) : Does Tryd.prog 59 [argT t, argC c, .d (int k)] noHeap (.d (int (addR t c k))) := refAddOk t c k
theorem refApplyOk (s : List Ty) (c : Chg) (hs : isSchema s = true) : Does Tryd.prog 19 [argS s, argC c] noHeap (.tup [argS (applyX s c).1, .d (int (applyX s c).2)]) := by
 refine Does_of T_ok mixed (N := 224) Tryd.func19 rfl rfl rfl (by rfl) fun F n Z hE hF J => ?_
 have hsl := right_len hs
 refine CW_seq ?_
 refine CW_region ?_
 refine OW_run' hE.ok 2 rfl ?_
 refine OW_alloc' hE 1 rfl rfl rfl rfl rfl rfl rfl ?_
 refine OW_run' hE.ok 1 rfl ?_
 refine OW_end rfl ?_
 refine CW_cutE (fun _ : Unit => ⟨J, (sset (sset (sset noSlots 2 (.d (.iptr [encS s]))) 3 (.d (.iptr (encC c)))) 4 (.ptr 1 0)), (hset noHeap 1 (some (.box 24 [.d (.lit (.slice none 0 0))])))⟩) (fun _ => badC c = false) ?_ ?_
 ·
  refine CW_seq ?_
  refine CW_region ?_
  refine OW_run' hE.ok 4 rfl ?_
  refine OW_split' 16 rfl (fun h1 => ?_) (fun h1 => ?_)
  ·
   have q1 : decide (c.kind < 1) = true := h1
   refine OW.le (show LE _ _ ⟨J, (sset (sset (sset (sset noSlots 2 (.d (.iptr [encS s]))) 3 (.d (.iptr (encC c)))) 4 (.ptr 1 0)) 16 (.d (.lit (.bool true)))), (hset noHeap 1 (some (.box 24 [.d (.lit (.slice none 0 0))])))⟩ from LE_sh (slh_set (v := .d (.lit (.bool true))) (slh_set (v := .ptr 1 0) (slh_set (v := .d (.iptr (encC c))) (slh_set (v := .d (.iptr [encS s])) (slh_no _ _) (by rfl) rfl) (by rfl) rfl) (by rfl) rfl) (by rfl) rfl) (hlh_set (hlh_no _ _) rfl rfl)) ?_
   refine OW_run' hE.ok 41 rfl ?_
   refine OW_end rfl ?_
   refine CW_true rfl ?_
   refine CW_seq ?_
   refine CW_region ?_
   refine OW_run' hE.ok 1 rfl ?_
   refine OW_store' hE rfl rfl rfl rfl rfl rfl rfl rfl rfl rfl rfl rfl ?_
   refine OW_run' hE.ok 1 rfl ?_
   refine OW_end rfl ?_
   refine CW_ret ?_
   refine ⟨.inr rfl, rfl, ⟨_, rfl, rfl, ?_⟩, rfl⟩
   rw [ap_bad (bc_1 q1)]
   exact AVle.refl _
  ·
   have q1 : decide (c.kind < 1) = false := h1
   refine OW.le (show LE _ _ ⟨J, (sset (sset (sset (sset noSlots 2 (.d (.iptr [encS s]))) 3 (.d (.iptr (encC c)))) 4 (.ptr 1 0)) 16 (.d (.lit (.bool false)))), (hset noHeap 1 (some (.box 24 [.d (.lit (.slice none 0 0))])))⟩ from LE_sh (slh_set (v := .d (.lit (.bool false))) (slh_set (v := .ptr 1 0) (slh_set (v := .d (.iptr (encC c))) (slh_set (v := .d (.iptr [encS s])) (slh_no _ _) (by rfl) rfl) (by rfl) rfl) (by rfl) rfl) (by rfl) rfl) (hlh_set (hlh_no _ _) rfl rfl)) ?_
   refine OW_run' hE.ok 5 rfl ?_
   refine OW_split' 21 rfl (fun h2 => ?_) (fun h2 => ?_)
   ·
    have q2 : decide (c.kind > 5) = true := h2
    refine OW.le (show LE _ _ ⟨J, (sset (sset (sset (sset noSlots 2 (.d (.iptr [encS s]))) 3 (.d (.iptr (encC c)))) 4 (.ptr 1 0)) 21 (.d (.lit (.bool true)))), (hset noHeap 1 (some (.box 24 [.d (.lit (.slice none 0 0))])))⟩ from LE_sh (slh_set (v := .d (.lit (.bool true))) (slh_set (v := .ptr 1 0) (slh_set (v := .d (.iptr (encC c))) (slh_set (v := .d (.iptr [encS s])) (slh_no _ _) (by rfl) rfl) (by rfl) rfl) (by rfl) rfl) (by rfl) rfl) (hlh_set (hlh_no _ _) rfl rfl)) ?_
    refine OW_run' hE.ok 36 rfl ?_
    refine OW_end rfl ?_
    refine CW_true rfl ?_
    refine CW_seq ?_
    refine CW_region ?_
    refine OW_run' hE.ok 1 rfl ?_
    refine OW_store' hE rfl rfl rfl rfl rfl rfl rfl rfl rfl rfl rfl rfl ?_
    refine OW_run' hE.ok 1 rfl ?_
    refine OW_end rfl ?_
    refine CW_ret ?_
    refine ⟨.inr rfl, rfl, ⟨_, rfl, rfl, ?_⟩, rfl⟩
    rw [ap_bad (bc_2 q2)]
    exact AVle.refl _
   ·
    have q2 : decide (c.kind > 5) = false := h2
    refine OW.le (show LE _ _ ⟨J, (sset (sset (sset (sset noSlots 2 (.d (.iptr [encS s]))) 3 (.d (.iptr (encC c)))) 4 (.ptr 1 0)) 21 (.d (.lit (.bool false)))), (hset noHeap 1 (some (.box 24 [.d (.lit (.slice none 0 0))])))⟩ from LE_sh (slh_set (v := .d (.lit (.bool false))) (slh_set (v := .ptr 1 0) (slh_set (v := .d (.iptr (encC c))) (slh_set (v := .d (.iptr [encS s])) (slh_no _ _) (by rfl) rfl) (by rfl) rfl) (by rfl) rfl) (by rfl) rfl) (hlh_set (hlh_no _ _) rfl rfl)) ?_
    refine OW_run' hE.ok 2 rfl ?_
    refine OW_call' hE (refNameOk c.ty) rfl rfl rfl rfl rfl rfl rfl ?_
    refine OW_run' hE.ok 3 rfl ?_
    refine OW_split' 27 rfl (fun h3 => ?_) (fun h3 => ?_)
    ·
     have q3 : (!isName c.ty) = true := h3
     refine OW.le (show LE _ _ ⟨J, (sset (sset (sset (sset noSlots 2 (.d (.iptr [encS s]))) 3 (.d (.iptr (encC c)))) 4 (.ptr 1 0)) 27 (.d (.lit (.bool true)))), (hset noHeap 1 (some (.box 24 [.d (.lit (.slice none 0 0))])))⟩ from LE_sh (slh_set (v := .d (.lit (.bool true))) (slh_set (v := .ptr 1 0) (slh_set (v := .d (.iptr (encC c))) (slh_set (v := .d (.iptr [encS s])) (slh_no _ _) (by rfl) rfl) (by rfl) rfl) (by rfl) rfl) (by rfl) rfl) (hlh_set (hlh_no _ _) rfl rfl)) ?_
     refine OW_run' hE.ok 30 rfl ?_
     refine OW_end rfl ?_
     refine CW_true rfl ?_
     refine CW_seq ?_
     refine CW_region ?_
     refine OW_run' hE.ok 1 rfl ?_
     refine OW_store' hE rfl rfl rfl rfl rfl rfl rfl rfl rfl rfl rfl rfl ?_
     refine OW_run' hE.ok 1 rfl ?_
     refine OW_end rfl ?_
     refine CW_ret ?_
     refine ⟨.inr rfl, rfl, ⟨_, rfl, rfl, ?_⟩, rfl⟩
     rw [ap_bad (bc_3 q3)]
     exact AVle.refl _
    ·
     have q3 : (!isName c.ty) = false := h3
     refine OW.le (show LE _ _ ⟨J, (sset (sset (sset (sset noSlots 2 (.d (.iptr [encS s]))) 3 (.d (.iptr (encC c)))) 4 (.ptr 1 0)) 27 (.d (.lit (.bool false)))), (hset noHeap 1 (some (.box 24 [.d (.lit (.slice none 0 0))])))⟩ from LE_sh (slh_set (v := .d (.lit (.bool false))) (slh_set (v := .ptr 1 0) (slh_set (v := .d (.iptr (encC c))) (slh_set (v := .d (.iptr [encS s])) (slh_no _ _) (by rfl) rfl) (by rfl) rfl) (by rfl) rfl) (by rfl) rfl) (hlh_set (hlh_no _ _) rfl rfl)) ?_
     refine OW_run' hE.ok 4 rfl ?_
     refine OW_split' 31 rfl (fun h4 => ?_) (fun h4 => ?_)
     ·
      have b1 : (c.kind != 1) = true := h4
      refine OW.le (show LE _ _ ⟨J, (sset (sset (sset (sset (sset noSlots 2 (.d (.iptr [encS s]))) 3 (.d (.iptr (encC c)))) 4 (.ptr 1 0)) 27 (.d (.lit (.bool false)))) 31 (.d (.lit (.bool true)))), (hset noHeap 1 (some (.box 24 [.d (.lit (.slice none 0 0))])))⟩ from LE_sh (slh_set (v := .d (.lit (.bool true))) (slh_set (v := .d (.lit (.bool false))) (slh_set (v := .ptr 1 0) (slh_set (v := .d (.iptr (encC c))) (slh_set (v := .d (.iptr [encS s])) (slh_no _ _) (by rfl) rfl) (by rfl) rfl) (by rfl) rfl) (by rfl) rfl) (by rfl) rfl) (hlh_set (hlh_no _ _) rfl rfl)) ?_
      refine OW_run' hE.ok 2 rfl ?_
      refine OW_build' hE rfl rfl rfl rfl rfl ?_
      refine OW_loc' hE (loc_neq rfl rfl rfl (r := sameV c.dv voidV) (eqLaw_flat T_ok (t := 31) rfl (by decide +kernel) rfl (X := encV c.dv) (Y := encV voidV) rfl rfl rfl)) rfl rfl rfl ?_
      refine OW_run' hE.ok 3 rfl ?_
      refine OW_split' 38 rfl (fun h5 => ?_) (fun h5 => ?_)
      ·
       have b2 : (!sameV c.dv voidV) = true := h5
       refine OW.le (show LE _ _ ⟨J, (sset (sset (sset (sset noSlots 2 (.d (.iptr [encS s]))) 3 (.d (.iptr (encC c)))) 4 (.ptr 1 0)) 38 (.d (.lit (.bool true)))), (hset noHeap 1 (some (.box 24 [.d (.lit (.slice none 0 0))])))⟩ from LE_sh (slh_set (v := .d (.lit (.bool true))) (slh_set (v := .ptr 1 0) (slh_set (v := .d (.iptr (encC c))) (slh_set (v := .d (.iptr [encS s])) (slh_no _ _) (by rfl) rfl) (by rfl) rfl) (by rfl) rfl) (by rfl) rfl) (hlh_set (hlh_no _ _) rfl rfl)) ?_
       refine OW_run' hE.ok 19 rfl ?_
       refine OW_end rfl ?_
       refine CW_true rfl ?_
       refine CW_seq ?_
       refine CW_region ?_
       refine OW_run' hE.ok 1 rfl ?_
       refine OW_store' hE rfl rfl rfl rfl rfl rfl rfl rfl rfl rfl rfl rfl ?_
       refine OW_run' hE.ok 1 rfl ?_
       refine OW_end rfl ?_
       refine CW_ret ?_
       refine ⟨.inr rfl, rfl, ⟨_, rfl, rfl, ?_⟩, rfl⟩
       rw [ap_bad (rb_1 q1 q2 b1 b2)]
       exact AVle.refl _
      ·
       have b2 : (!sameV c.dv voidV) = false := h5
       have p1 : (c.kind != 1) = false ∨ (!sameV c.dv voidV) = false := .inr b2
       refine OW.le (show LE _ _ ⟨J, (sset (sset (sset (sset noSlots 2 (.d (.iptr [encS s]))) 3 (.d (.iptr (encC c)))) 4 (.ptr 1 0)) 38 (.d (.lit (.bool false)))), (hset noHeap 1 (some (.box 24 [.d (.lit (.slice none 0 0))])))⟩ from LE_sh (slh_set (v := .d (.lit (.bool false))) (slh_set (v := .ptr 1 0) (slh_set (v := .d (.iptr (encC c))) (slh_set (v := .d (.iptr [encS s])) (slh_no _ _) (by rfl) rfl) (by rfl) rfl) (by rfl) rfl) (by rfl) rfl) (hlh_set (hlh_no _ _) rfl rfl)) ?_
       refine OW_run' hE.ok 4 rfl ?_
       refine OW_split' 42 rfl (fun h6 => ?_) (fun h6 => ?_)
       ·
        have b3 : (c.kind != 3) = true := h6
        refine OW.le (show LE _ _ ⟨J, (sset (sset (sset (sset (sset noSlots 2 (.d (.iptr [encS s]))) 3 (.d (.iptr (encC c)))) 4 (.ptr 1 0)) 38 (.d (.lit (.bool false)))) 42 (.d (.lit (.bool true)))), (hset noHeap 1 (some (.box 24 [.d (.lit (.slice none 0 0))])))⟩ from LE_sh (slh_set (v := .d (.lit (.bool true))) (slh_set (v := .d (.lit (.bool false))) (slh_set (v := .ptr 1 0) (slh_set (v := .d (.iptr (encC c))) (slh_set (v := .d (.iptr [encS s])) (slh_no _ _) (by rfl) rfl) (by rfl) rfl) (by rfl) rfl) (by rfl) rfl) (by rfl) rfl) (hlh_set (hlh_no _ _) rfl rfl)) ?_
        refine OW_run' hE.ok 6 rfl ?_
        refine OW_split' 48 rfl (fun h7 => ?_) (fun h7 => ?_)
        ·
         have b4 : (!(c.to.toList == nul.toList)) = true := h7
         refine OW.le (show LE _ _ ⟨J, (sset (sset (sset (sset noSlots 2 (.d (.iptr [encS s]))) 3 (.d (.iptr (encC c)))) 4 (.ptr 1 0)) 48 (.d (.lit (.bool true)))), (hset noHeap 1 (some (.box 24 [.d (.lit (.slice none 0 0))])))⟩ from LE_sh (slh_set (v := .d (.lit (.bool true))) (slh_set (v := .ptr 1 0) (slh_set (v := .d (.iptr (encC c))) (slh_set (v := .d (.iptr [encS s])) (slh_no _ _) (by rfl) rfl) (by rfl) rfl) (by rfl) rfl) (by rfl) rfl) (hlh_set (hlh_no _ _) rfl rfl)) ?_
         refine OW_run' hE.ok 9 rfl ?_
         refine OW_end rfl ?_
         refine CW_true rfl ?_
         refine CW_seq ?_
         refine CW_region ?_
         refine OW_run' hE.ok 1 rfl ?_
         refine OW_store' hE rfl rfl rfl rfl rfl rfl rfl rfl rfl rfl rfl rfl ?_
         refine OW_run' hE.ok 1 rfl ?_
         refine OW_end rfl ?_
         refine CW_ret ?_
         refine ⟨.inr rfl, rfl, ⟨_, rfl, rfl, ?_⟩, rfl⟩
         rw [ap_bad (rb_2 q1 q2 b3 b4)]
         exact AVle.refl _
        ·
         have b4 : (!(c.to.toList == nul.toList)) = false := h7
         have p2 : (c.kind != 3) = false ∨ (!(c.to.toList == nul.toList)) = false := .inr b4
         refine OW.le (show LE _ _ ⟨J, (sset (sset (sset (sset noSlots 2 (.d (.iptr [encS s]))) 3 (.d (.iptr (encC c)))) 4 (.ptr 1 0)) 48 (.d (.lit (.bool false)))), (hset noHeap 1 (some (.box 24 [.d (.lit (.slice none 0 0))])))⟩ from LE_sh (slh_set (v := .d (.lit (.bool false))) (slh_set (v := .ptr 1 0) (slh_set (v := .d (.iptr (encC c))) (slh_set (v := .d (.iptr [encS s])) (slh_no _ _) (by rfl) rfl) (by rfl) rfl) (by rfl) rfl) (by rfl) rfl) (hlh_set (hlh_no _ _) rfl rfl)) ?_
         refine OW_run' hE.ok 4 rfl ?_
         refine OW_split' 52 rfl (fun h8 => ?_) (fun h8 => ?_)
         ·
          have b5 : (c.kind == 5) = true := h8
          refine OW.le (show LE _ _ ⟨J, (sset (sset (sset (sset (sset noSlots 2 (.d (.iptr [encS s]))) 3 (.d (.iptr (encC c)))) 4 (.ptr 1 0)) 48 (.d (.lit (.bool false)))) 52 (.d (.lit (.bool true)))), (hset noHeap 1 (some (.box 24 [.d (.lit (.slice none 0 0))])))⟩ from LE_sh (slh_set (v := .d (.lit (.bool true))) (slh_set (v := .d (.lit (.bool false))) (slh_set (v := .ptr 1 0) (slh_set (v := .d (.iptr (encC c))) (slh_set (v := .d (.iptr [encS s])) (slh_no _ _) (by rfl) rfl) (by rfl) rfl) (by rfl) rfl) (by rfl) rfl) (by rfl) rfl) (hlh_set (hlh_no _ _) rfl rfl)) ?_
          refine OW_run' hE.ok 5 rfl ?_
          refine OW_end rfl ?_
          refine CW_cond _ rfl (fun h9 => ?_) (fun h9 => ?_)
          ·
           have b6 : (!(c.fld.toList == nul.toList)) = true := h9
           refine CW_seq ?_
           refine CW_region ?_
           refine OW_run' hE.ok 1 rfl ?_
           refine OW_store' hE rfl rfl rfl rfl rfl rfl rfl rfl rfl rfl rfl rfl ?_
           refine OW_run' hE.ok 1 rfl ?_
           refine OW_end rfl ?_
           refine CW_ret ?_
           refine ⟨.inr rfl, rfl, ⟨_, rfl, rfl, ?_⟩, rfl⟩
           rw [ap_bad (rb_3 q1 q2 b5 b6)]
           exact AVle.refl _
          ·
           have b6 : (!(c.fld.toList == nul.toList)) = false := h9
           have p3 : (c.kind == 5) = false ∨ (!(c.fld.toList == nul.toList)) = false := .inr b6
           refine CW_skip ?_
           exact ⟨(), rb_no q1 q2 q3 p1 p2 p3, LE_sh (slh_set (v := .ptr 1 0) (slh_set (v := .d (.iptr (encC c))) (slh_set (v := .d (.iptr [encS s])) (slh_no _ _) (by rfl) rfl) (by rfl) rfl) (by rfl) rfl) (hlh_set (hlh_no _ _) rfl rfl)⟩
         ·
          have b5 : (c.kind == 5) = false := h8
          have p3 : (c.kind == 5) = false ∨ (!(c.fld.toList == nul.toList)) = false := .inl b5
          refine OW.le (show LE _ _ ⟨J, (sset (sset (sset (sset (sset noSlots 2 (.d (.iptr [encS s]))) 3 (.d (.iptr (encC c)))) 4 (.ptr 1 0)) 48 (.d (.lit (.bool false)))) 52 (.d (.lit (.bool false)))), (hset noHeap 1 (some (.box 24 [.d (.lit (.slice none 0 0))])))⟩ from LE_sh (slh_set (v := .d (.lit (.bool false))) (slh_set (v := .d (.lit (.bool false))) (slh_set (v := .ptr 1 0) (slh_set (v := .d (.iptr (encC c))) (slh_set (v := .d (.iptr [encS s])) (slh_no _ _) (by rfl) rfl) (by rfl) rfl) (by rfl) rfl) (by rfl) rfl) (by rfl) rfl) (hlh_set (hlh_no _ _) rfl rfl)) ?_
          refine OW_run' hE.ok 5 rfl ?_
          refine OW_end rfl ?_
          refine CW_false rfl ?_
          refine CW_skip ?_
          exact ⟨(), rb_no q1 q2 q3 p1 p2 p3, LE_sh (slh_set (v := .ptr 1 0) (slh_set (v := .d (.iptr (encC c))) (slh_set (v := .d (.iptr [encS s])) (slh_no _ _) (by rfl) rfl) (by rfl) rfl) (by rfl) rfl) (hlh_set (hlh_no _ _) rfl rfl)⟩
       ·
        have b3 : (c.kind != 3) = false := h6
        have p2 : (c.kind != 3) = false ∨ (!(c.to.toList == nul.toList)) = false := .inl b3
        refine OW.le (show LE _ _ ⟨J, (sset (sset (sset (sset (sset noSlots 2 (.d (.iptr [encS s]))) 3 (.d (.iptr (encC c)))) 4 (.ptr 1 0)) 38 (.d (.lit (.bool false)))) 42 (.d (.lit (.bool false)))), (hset noHeap 1 (some (.box 24 [.d (.lit (.slice none 0 0))])))⟩ from LE_sh (slh_set (v := .d (.lit (.bool false))) (slh_set (v := .d (.lit (.bool false))) (slh_set (v := .ptr 1 0) (slh_set (v := .d (.iptr (encC c))) (slh_set (v := .d (.iptr [encS s])) (slh_no _ _) (by rfl) rfl) (by rfl) rfl) (by rfl) rfl) (by rfl) rfl) (by rfl) rfl) (hlh_set (hlh_no _ _) rfl rfl)) ?_
        refine OW_run' hE.ok 10 rfl ?_
        refine OW_split' 52 rfl (fun h10 => ?_) (fun h10 => ?_)
        ·
         have b5 : (c.kind == 5) = true := h10
         refine OW.le (show LE _ _ ⟨J, (sset (sset (sset (sset (sset noSlots 2 (.d (.iptr [encS s]))) 3 (.d (.iptr (encC c)))) 4 (.ptr 1 0)) 48 (.d (.lit (.bool false)))) 52 (.d (.lit (.bool true)))), (hset noHeap 1 (some (.box 24 [.d (.lit (.slice none 0 0))])))⟩ from LE_sh (slh_set (v := .d (.lit (.bool true))) (slh_set (v := .d (.lit (.bool false))) (slh_set (v := .ptr 1 0) (slh_set (v := .d (.iptr (encC c))) (slh_set (v := .d (.iptr [encS s])) (slh_no _ _) (by rfl) rfl) (by rfl) rfl) (by rfl) rfl) (by rfl) rfl) (by rfl) rfl) (hlh_set (hlh_no _ _) rfl rfl)) ?_
         refine OW_run' hE.ok 5 rfl ?_
         refine OW_end rfl ?_
         refine CW_cond _ rfl (fun h11 => ?_) (fun h11 => ?_)
         ·
          have b6 : (!(c.fld.toList == nul.toList)) = true := h11
          refine CW_seq ?_
          refine CW_region ?_
          refine OW_run' hE.ok 1 rfl ?_
          refine OW_store' hE rfl rfl rfl rfl rfl rfl rfl rfl rfl rfl rfl rfl ?_
          refine OW_run' hE.ok 1 rfl ?_
          refine OW_end rfl ?_
          refine CW_ret ?_
          refine ⟨.inr rfl, rfl, ⟨_, rfl, rfl, ?_⟩, rfl⟩
          rw [ap_bad (rb_3 q1 q2 b5 b6)]
          exact AVle.refl _
         ·
          have b6 : (!(c.fld.toList == nul.toList)) = false := h11
          have p3 : (c.kind == 5) = false ∨ (!(c.fld.toList == nul.toList)) = false := .inr b6
          refine CW_skip ?_
          exact ⟨(), rb_no q1 q2 q3 p1 p2 p3, LE_sh (slh_set (v := .ptr 1 0) (slh_set (v := .d (.iptr (encC c))) (slh_set (v := .d (.iptr [encS s])) (slh_no _ _) (by rfl) rfl) (by rfl) rfl) (by rfl) rfl) (hlh_set (hlh_no _ _) rfl rfl)⟩
        ·
         have b5 : (c.kind == 5) = false := h10
         have p3 : (c.kind == 5) = false ∨ (!(c.fld.toList == nul.toList)) = false := .inl b5
         refine OW.le (show LE _ _ ⟨J, (sset (sset (sset (sset (sset noSlots 2 (.d (.iptr [encS s]))) 3 (.d (.iptr (encC c)))) 4 (.ptr 1 0)) 48 (.d (.lit (.bool false)))) 52 (.d (.lit (.bool false)))), (hset noHeap 1 (some (.box 24 [.d (.lit (.slice none 0 0))])))⟩ from LE_sh (slh_set (v := .d (.lit (.bool false))) (slh_set (v := .d (.lit (.bool false))) (slh_set (v := .ptr 1 0) (slh_set (v := .d (.iptr (encC c))) (slh_set (v := .d (.iptr [encS s])) (slh_no _ _) (by rfl) rfl) (by rfl) rfl) (by rfl) rfl) (by rfl) rfl) (by rfl) rfl) (hlh_set (hlh_no _ _) rfl rfl)) ?_
         refine OW_run' hE.ok 5 rfl ?_
         refine OW_end rfl ?_
         refine CW_false rfl ?_
         refine CW_skip ?_
         exact ⟨(), rb_no q1 q2 q3 p1 p2 p3, LE_sh (slh_set (v := .ptr 1 0) (slh_set (v := .d (.iptr (encC c))) (slh_set (v := .d (.iptr [encS s])) (slh_no _ _) (by rfl) rfl) (by rfl) rfl) (by rfl) rfl) (hlh_set (hlh_no _ _) rfl rfl)⟩
     ·
      have b1 : (c.kind != 1) = false := h4
      have p1 : (c.kind != 1) = false ∨ (!sameV c.dv voidV) = false := .inl b1
      refine OW.le (show LE _ _ ⟨J, (sset (sset (sset (sset (sset noSlots 2 (.d (.iptr [encS s]))) 3 (.d (.iptr (encC c)))) 4 (.ptr 1 0)) 27 (.d (.lit (.bool false)))) 31 (.d (.lit (.bool false)))), (hset noHeap 1 (some (.box 24 [.d (.lit (.slice none 0 0))])))⟩ from LE_sh (slh_set (v := .d (.lit (.bool false))) (slh_set (v := .d (.lit (.bool false))) (slh_set (v := .ptr 1 0) (slh_set (v := .d (.iptr (encC c))) (slh_set (v := .d (.iptr [encS s])) (slh_no _ _) (by rfl) rfl) (by rfl) rfl) (by rfl) rfl) (by rfl) rfl) (by rfl) rfl) (hlh_set (hlh_no _ _) rfl rfl)) ?_
      refine OW_run' hE.ok 11 rfl ?_
      refine OW_split' 42 rfl (fun h12 => ?_) (fun h12 => ?_)
      ·
       have b3 : (c.kind != 3) = true := h12
       refine OW.le (show LE _ _ ⟨J, (sset (sset (sset (sset (sset noSlots 2 (.d (.iptr [encS s]))) 3 (.d (.iptr (encC c)))) 4 (.ptr 1 0)) 38 (.d (.lit (.bool false)))) 42 (.d (.lit (.bool true)))), (hset noHeap 1 (some (.box 24 [.d (.lit (.slice none 0 0))])))⟩ from LE_sh (slh_set (v := .d (.lit (.bool true))) (slh_set (v := .d (.lit (.bool false))) (slh_set (v := .ptr 1 0) (slh_set (v := .d (.iptr (encC c))) (slh_set (v := .d (.iptr [encS s])) (slh_no _ _) (by rfl) rfl) (by rfl) rfl) (by rfl) rfl) (by rfl) rfl) (by rfl) rfl) (hlh_set (hlh_no _ _) rfl rfl)) ?_
       refine OW_run' hE.ok 6 rfl ?_
       refine OW_split' 48 rfl (fun h13 => ?_) (fun h13 => ?_)
       ·
        have b4 : (!(c.to.toList == nul.toList)) = true := h13
        refine OW.le (show LE _ _ ⟨J, (sset (sset (sset (sset noSlots 2 (.d (.iptr [encS s]))) 3 (.d (.iptr (encC c)))) 4 (.ptr 1 0)) 48 (.d (.lit (.bool true)))), (hset noHeap 1 (some (.box 24 [.d (.lit (.slice none 0 0))])))⟩ from LE_sh (slh_set (v := .d (.lit (.bool true))) (slh_set (v := .ptr 1 0) (slh_set (v := .d (.iptr (encC c))) (slh_set (v := .d (.iptr [encS s])) (slh_no _ _) (by rfl) rfl) (by rfl) rfl) (by rfl) rfl) (by rfl) rfl) (hlh_set (hlh_no _ _) rfl rfl)) ?_
        refine OW_run' hE.ok 9 rfl ?_
        refine OW_end rfl ?_
        refine CW_true rfl ?_
        refine CW_seq ?_
        refine CW_region ?_
        refine OW_run' hE.ok 1 rfl ?_
        refine OW_store' hE rfl rfl rfl rfl rfl rfl rfl rfl rfl rfl rfl rfl ?_
        refine OW_run' hE.ok 1 rfl ?_
        refine OW_end rfl ?_
        refine CW_ret ?_
        refine ⟨.inr rfl, rfl, ⟨_, rfl, rfl, ?_⟩, rfl⟩
        rw [ap_bad (rb_2 q1 q2 b3 b4)]
        exact AVle.refl _
       ·
        have b4 : (!(c.to.toList == nul.toList)) = false := h13
        have p2 : (c.kind != 3) = false ∨ (!(c.to.toList == nul.toList)) = false := .inr b4
        refine OW.le (show LE _ _ ⟨J, (sset (sset (sset (sset noSlots 2 (.d (.iptr [encS s]))) 3 (.d (.iptr (encC c)))) 4 (.ptr 1 0)) 48 (.d (.lit (.bool false)))), (hset noHeap 1 (some (.box 24 [.d (.lit (.slice none 0 0))])))⟩ from LE_sh (slh_set (v := .d (.lit (.bool false))) (slh_set (v := .ptr 1 0) (slh_set (v := .d (.iptr (encC c))) (slh_set (v := .d (.iptr [encS s])) (slh_no _ _) (by rfl) rfl) (by rfl) rfl) (by rfl) rfl) (by rfl) rfl) (hlh_set (hlh_no _ _) rfl rfl)) ?_
        refine OW_run' hE.ok 4 rfl ?_
        refine OW_split' 52 rfl (fun h14 => ?_) (fun h14 => ?_)
        ·
         have b5 : (c.kind == 5) = true := h14
         refine OW.le (show LE _ _ ⟨J, (sset (sset (sset (sset (sset noSlots 2 (.d (.iptr [encS s]))) 3 (.d (.iptr (encC c)))) 4 (.ptr 1 0)) 48 (.d (.lit (.bool false)))) 52 (.d (.lit (.bool true)))), (hset noHeap 1 (some (.box 24 [.d (.lit (.slice none 0 0))])))⟩ from LE_sh (slh_set (v := .d (.lit (.bool true))) (slh_set (v := .d (.lit (.bool false))) (slh_set (v := .ptr 1 0) (slh_set (v := .d (.iptr (encC c))) (slh_set (v := .d (.iptr [encS s])) (slh_no _ _) (by rfl) rfl) (by rfl) rfl) (by rfl) rfl) (by rfl) rfl) (by rfl) rfl) (hlh_set (hlh_no _ _) rfl rfl)) ?_
         refine OW_run' hE.ok 5 rfl ?_
         refine OW_end rfl ?_
         refine CW_cond _ rfl (fun h15 => ?_) (fun h15 => ?_)
         ·
          have b6 : (!(c.fld.toList == nul.toList)) = true := h15
          refine CW_seq ?_
          refine CW_region ?_
          refine OW_run' hE.ok 1 rfl ?_
          refine OW_store' hE rfl rfl rfl rfl rfl rfl rfl rfl rfl rfl rfl rfl ?_
          refine OW_run' hE.ok 1 rfl ?_
          refine OW_end rfl ?_
          refine CW_ret ?_
          refine ⟨.inr rfl, rfl, ⟨_, rfl, rfl, ?_⟩, rfl⟩
          rw [ap_bad (rb_3 q1 q2 b5 b6)]
          exact AVle.refl _
         ·
          have b6 : (!(c.fld.toList == nul.toList)) = false := h15
          have p3 : (c.kind == 5) = false ∨ (!(c.fld.toList == nul.toList)) = false := .inr b6
          refine CW_skip ?_
          exact ⟨(), rb_no q1 q2 q3 p1 p2 p3, LE_sh (slh_set (v := .ptr 1 0) (slh_set (v := .d (.iptr (encC c))) (slh_set (v := .d (.iptr [encS s])) (slh_no _ _) (by rfl) rfl) (by rfl) rfl) (by rfl) rfl) (hlh_set (hlh_no _ _) rfl rfl)⟩
        ·
         have b5 : (c.kind == 5) = false := h14
         have p3 : (c.kind == 5) = false ∨ (!(c.fld.toList == nul.toList)) = false := .inl b5
         refine OW.le (show LE _ _ ⟨J, (sset (sset (sset (sset (sset noSlots 2 (.d (.iptr [encS s]))) 3 (.d (.iptr (encC c)))) 4 (.ptr 1 0)) 48 (.d (.lit (.bool false)))) 52 (.d (.lit (.bool false)))), (hset noHeap 1 (some (.box 24 [.d (.lit (.slice none 0 0))])))⟩ from LE_sh (slh_set (v := .d (.lit (.bool false))) (slh_set (v := .d (.lit (.bool false))) (slh_set (v := .ptr 1 0) (slh_set (v := .d (.iptr (encC c))) (slh_set (v := .d (.iptr [encS s])) (slh_no _ _) (by rfl) rfl) (by rfl) rfl) (by rfl) rfl) (by rfl) rfl) (by rfl) rfl) (hlh_set (hlh_no _ _) rfl rfl)) ?_
         refine OW_run' hE.ok 5 rfl ?_
         refine OW_end rfl ?_
         refine CW_false rfl ?_
         refine CW_skip ?_
         exact ⟨(), rb_no q1 q2 q3 p1 p2 p3, LE_sh (slh_set (v := .ptr 1 0) (slh_set (v := .d (.iptr (encC c))) (slh_set (v := .d (.iptr [encS s])) (slh_no _ _) (by rfl) rfl) (by rfl) rfl) (by rfl) rfl) (hlh_set (hlh_no _ _) rfl rfl)⟩
      ·
       have b3 : (c.kind != 3) = false := h12
       have p2 : (c.kind != 3) = false ∨ (!(c.to.toList == nul.toList)) = false := .inl b3
       refine OW.le (show LE _ _ ⟨J, (sset (sset (sset (sset (sset noSlots 2 (.d (.iptr [encS s]))) 3 (.d (.iptr (encC c)))) 4 (.ptr 1 0)) 38 (.d (.lit (.bool false)))) 42 (.d (.lit (.bool false)))), (hset noHeap 1 (some (.box 24 [.d (.lit (.slice none 0 0))])))⟩ from LE_sh (slh_set (v := .d (.lit (.bool false))) (slh_set (v := .d (.lit (.bool false))) (slh_set (v := .ptr 1 0) (slh_set (v := .d (.iptr (encC c))) (slh_set (v := .d (.iptr [encS s])) (slh_no _ _) (by rfl) rfl) (by rfl) rfl) (by rfl) rfl) (by rfl) rfl) (by rfl) rfl) (hlh_set (hlh_no _ _) rfl rfl)) ?_
       refine OW_run' hE.ok 10 rfl ?_
       refine OW_split' 52 rfl (fun h16 => ?_) (fun h16 => ?_)
       ·
        have b5 : (c.kind == 5) = true := h16
        refine OW.le (show LE _ _ ⟨J, (sset (sset (sset (sset (sset noSlots 2 (.d (.iptr [encS s]))) 3 (.d (.iptr (encC c)))) 4 (.ptr 1 0)) 48 (.d (.lit (.bool false)))) 52 (.d (.lit (.bool true)))), (hset noHeap 1 (some (.box 24 [.d (.lit (.slice none 0 0))])))⟩ from LE_sh (slh_set (v := .d (.lit (.bool true))) (slh_set (v := .d (.lit (.bool false))) (slh_set (v := .ptr 1 0) (slh_set (v := .d (.iptr (encC c))) (slh_set (v := .d (.iptr [encS s])) (slh_no _ _) (by rfl) rfl) (by rfl) rfl) (by rfl) rfl) (by rfl) rfl) (by rfl) rfl) (hlh_set (hlh_no _ _) rfl rfl)) ?_
        refine OW_run' hE.ok 5 rfl ?_
        refine OW_end rfl ?_
        refine CW_cond _ rfl (fun h17 => ?_) (fun h17 => ?_)
        ·
         have b6 : (!(c.fld.toList == nul.toList)) = true := h17
         refine CW_seq ?_
         refine CW_region ?_
         refine OW_run' hE.ok 1 rfl ?_
         refine OW_store' hE rfl rfl rfl rfl rfl rfl rfl rfl rfl rfl rfl rfl ?_
         refine OW_run' hE.ok 1 rfl ?_
         refine OW_end rfl ?_
         refine CW_ret ?_
         refine ⟨.inr rfl, rfl, ⟨_, rfl, rfl, ?_⟩, rfl⟩
         rw [ap_bad (rb_3 q1 q2 b5 b6)]
         exact AVle.refl _
        ·
         have b6 : (!(c.fld.toList == nul.toList)) = false := h17
         have p3 : (c.kind == 5) = false ∨ (!(c.fld.toList == nul.toList)) = false := .inr b6
         refine CW_skip ?_
         exact ⟨(), rb_no q1 q2 q3 p1 p2 p3, LE_sh (slh_set (v := .ptr 1 0) (slh_set (v := .d (.iptr (encC c))) (slh_set (v := .d (.iptr [encS s])) (slh_no _ _) (by rfl) rfl) (by rfl) rfl) (by rfl) rfl) (hlh_set (hlh_no _ _) rfl rfl)⟩
       ·
        have b5 : (c.kind == 5) = false := h16
        have p3 : (c.kind == 5) = false ∨ (!(c.fld.toList == nul.toList)) = false := .inl b5
        refine OW.le (show LE _ _ ⟨J, (sset (sset (sset (sset (sset noSlots 2 (.d (.iptr [encS s]))) 3 (.d (.iptr (encC c)))) 4 (.ptr 1 0)) 48 (.d (.lit (.bool false)))) 52 (.d (.lit (.bool false)))), (hset noHeap 1 (some (.box 24 [.d (.lit (.slice none 0 0))])))⟩ from LE_sh (slh_set (v := .d (.lit (.bool false))) (slh_set (v := .d (.lit (.bool false))) (slh_set (v := .ptr 1 0) (slh_set (v := .d (.iptr (encC c))) (slh_set (v := .d (.iptr [encS s])) (slh_no _ _) (by rfl) rfl) (by rfl) rfl) (by rfl) rfl) (by rfl) rfl) (by rfl) rfl) (hlh_set (hlh_no _ _) rfl rfl)) ?_
        refine OW_run' hE.ok 5 rfl ?_
        refine OW_end rfl ?_
        refine CW_false rfl ?_
        refine CW_skip ?_
        exact ⟨(), rb_no q1 q2 q3 p1 p2 p3, LE_sh (slh_set (v := .ptr 1 0) (slh_set (v := .d (.iptr (encC c))) (slh_set (v := .d (.iptr [encS s])) (slh_no _ _) (by rfl) rfl) (by rfl) rfl) (by rfl) rfl) (hlh_set (hlh_no _ _) rfl rfl)⟩
 ·
  rintro _ hgood
  refine CW_seq ?_
  refine CW_region ?_
  refine OW_run' hE.ok 1 rfl ?_
  refine OW_end rfl ?_
  refine CW_cutE (fun _ : Unit => ⟨J, (sset (sset (sset (sset noSlots 2 (.d (.iptr [encS s]))) 3 (.d (.iptr (encC c)))) 4 (.ptr 1 0)) 6 (.d (int (typeIdx s c.ty)))), (hset noHeap 1 (some (.box 24 [.d (.lit (.slice none 0 0))])))⟩) (fun _ => True) ?_ ?_
  ·
   refine CW_seq ?_
   refine CW_region ?_
   refine OW_run' hE.ok 1 rfl ?_
   refine OW_end rfl ?_
   refine CW_block ?_
   refine CW_loop (σ := {i : Nat // i ≤ s.length}) (fun i => ⟨J, (sset (sset (sset (sset (sset noSlots 2 (.d (.iptr [encS s]))) 3 (.d (.iptr (encC c)))) 4 (.ptr 1 0)) 6 (.d (int (atX s c.ty i.1)))) 7 (.d (int ((i.1 : Nat) : Int)))), (hset noHeap 1 (some (.box 24 [.d (.lit (.slice none 0 0))])))⟩) (fun i => s.length - i.1) ⟨0, Nat.zero_le _⟩ (LE_sh (slh_set (slh_set (slh_set (slh_set (slh_set (slh_no _ _) rfl rfl) rfl rfl) rfl rfl) (congrArg (fun z => AV.d (int z)) (atX_0 s c.ty).symm) rfl) rfl rfl) (hlh_set (hlh_no _ _) rfl rfl)) fun ⟨i, hi⟩ => ?_
   refine CW_seq ?_
   refine CW_seq ?_
   refine CW_region ?_
   refine OW_run' hE.ok 5 rfl ?_
   refine OW_end rfl ?_
   refine CW_cond _ rfl (fun h18 => ?_) (fun h18 => ?_)
   ·
    have hlt : i < s.length := by have := h18; rw [List.length_map] at this; simp at this; omega
    obtain ⟨t, ht⟩ : ∃ t, s[i]? = some t := ⟨_, List.getElem?_eq_getElem hlt⟩
    refine CW_skip ?_
    refine CW_seq ?_
    refine CW_block ?_
    refine CW_seq ?_
    refine CW_drawn' hE 8 (by decide +kernel) ?_
    refine HW_run hE 3 rfl rfl ?_
    refine HW_loc hE (loc_indexAddr hE rfl rfl rfl rfl rfl (by omega) (x := encT t) (by simp [ht])) rfl rfl rfl rfl ?_
    refine HW_run hE 4 rfl rfl ?_
    refine HW_end ?_
    refine OW_run' hE.ok 1 rfl ?_
    refine OW_end rfl ?_
    refine CW_cond _ rfl (fun h19 => ?_) (fun h19 => ?_)
    ·
     have hn : same t.name c.ty = true := h19
     refine CW_region ?_
     refine OW_run' hE.ok 2 rfl ?_
     refine OW_end rfl ?_
     refine CW_region ?_
     refine OW_run' hE.ok 3 rfl ?_
     refine OW_end rfl ?_
     refine ⟨⟨i + 1, hlt⟩, LE_sh (slh_set (v := .d (int ((i + 1 : Nat) : Int))) (slh_set (v := .d (int (atX s c.ty (i + 1)))) (slh_set (v := .ptr 1 0) (slh_set (v := .d (.iptr (encC c))) (slh_set (v := .d (.iptr [encS s])) (slh_no _ _) (by rfl) rfl) (by rfl) rfl) (by rfl) rfl) (by exact (congrArg (fun z => AV.d (int z)) ((atX_yes hs ht hn).symm))) rfl) (by show AV.d (.lit (.int .i64 (IntKind.i64.wrap ((i : Int) + 1)))) = _; rw [wrap_succ (by omega)]; rfl) rfl) (hlh_set (hlh_no _ _) rfl rfl), by show s.length - (i + 1) < s.length - i; omega⟩
    ·
     have hn : same t.name c.ty = false := h19
     refine CW_skip ?_
     refine CW_region ?_
     refine OW_run' hE.ok 3 rfl ?_
     refine OW_end rfl ?_
     refine ⟨⟨i + 1, hlt⟩, LE_sh (slh_set (v := .d (int ((i + 1 : Nat) : Int))) (slh_set (v := .d (int (atX s c.ty (i + 1)))) (slh_set (v := .ptr 1 0) (slh_set (v := .d (.iptr (encC c))) (slh_set (v := .d (.iptr [encS s])) (slh_no _ _) (by rfl) rfl) (by rfl) rfl) (by rfl) rfl) (by exact (congrArg (fun z => AV.d (int z)) ((atX_no ht hn).symm))) rfl) (by show AV.d (.lit (.int .i64 (IntKind.i64.wrap ((i : Int) + 1)))) = _; rw [wrap_succ (by omega)]; rfl) rfl) (hlh_set (hlh_no _ _) rfl rfl), by show s.length - (i + 1) < s.length - i; omega⟩
   ·
    have hge : i = s.length := by have := h18; rw [List.length_map] at this; simp at this; omega
    refine CW_exit ?_
    exact ⟨(), trivial, LE_sh (slh_set (v := .d (int (typeIdx s c.ty))) (slh_set (v := .ptr 1 0) (slh_set (v := .d (.iptr (encC c))) (slh_set (v := .d (.iptr [encS s])) (slh_no _ _) (by rfl) rfl) (by rfl) rfl) (by rfl) rfl) (by exact (congrArg (fun z => AV.d (int z)) (by show atX s c.ty i = _; rw [hge]; exact atX_end s c.ty))) rfl) (hlh_set (hlh_no _ _) rfl rfl)⟩
  ·
   rintro _ _
   have hcs : (c.kind == 5) = true ∨ ((c.kind == 5) = false ∧ decide (typeIdx s c.ty < 0) = true) ∨ ((c.kind == 5) = false ∧ ∃ (i : Nat) (t : Ty), typeIdx s c.ty = (i : Int) ∧ s[i]? = some t) := by
    cases k5 : (c.kind == 5) with
    | true => exact .inl rfl
    | false =>
     cases k6 : decide (typeIdx s c.ty < 0) with
     | true => exact .inr (.inl ⟨rfl, rfl⟩)
     | false => exact .inr (.inr ⟨rfl, typeX_at (by simpa using k6)⟩)
   rcases hcs with k5 | ⟨k5, k6⟩ | ⟨k5, i, t, hix, ht⟩
   ·
    skip
    refine CW_seq ?_
    refine CW_region ?_
    refine OW_run' hE.ok 1 rfl ?_
    refine OW_callM' hE (tr []) (refCopiedAll s hs) rfl rfl rfl rfl rfl trivial rfl rfl ?_
    refine OW_alloc' hE 2 rfl rfl rfl rfl rfl rfl rfl ?_
    refine OW_store' hE rfl rfl rfl rfl rfl rfl rfl rfl rfl rfl rfl rfl ?_
    refine OW_end rfl ?_
    refine CW_seq ?_
    refine CW_seq ?_
    refine CW.le (LE_rowD 50 (xs := s.map encT) rfl (by simp) (rnAs_dd _ _) (enc_two s)) ?_
    refine CW.le (LE_freeze 50 40 rfl (by simp; omega)) ?_
    refine CW.le (show LE _ _ ⟨J, (sset (sset (sset (sset (sset noSlots 2 (.d (.iptr [encS s]))) 3 (.d (.iptr (encC c)))) 4 (.ptr 1 0)) 6 (.d (int (typeIdx s c.ty)))) 8 (.ptr 2 0)), (hset (hset noHeap 1 (some (.box 24 [.d (.lit (.slice none 0 0))]))) 2 (some (.box 24 [.d (.sl 2 40 (s.map encT))])))⟩ from LE_sh (slh_set (v := .ptr 2 0) (slh_set (v := .d (int (typeIdx s c.ty))) (slh_set (v := .ptr 1 0) (slh_set (v := .d (.iptr (encC c))) (slh_set (v := .d (.iptr [encS s])) (slh_no _ _) (by rfl) rfl) (by rfl) rfl) (by rfl) rfl) (by rfl) rfl) (by rfl) rfl) (hlh_set (hlh_set (hlh_no _ _) rfl rfl) rfl rfl)) ?_
    refine CW_region ?_
    refine OW_run' hE.ok 3 rfl ?_
    refine OW_as' 80 (.d (boo true)) (congrArg (fun b => AV.d (boo b)) k5) ?_
    refine OW_end rfl ?_
    refine CW_true rfl ?_
    refine CW_seq ?_
    refine CW_seq ?_
    refine CW_region ?_
    refine OW_run' hE.ok 2 rfl ?_
    refine OW_end rfl ?_
    refine CW_cond _ rfl (fun h20 => ?_) (fun h20 => ?_)
    ·
     have f1 : (findT s c.ty).2 = true := by rw [typeIdx_find]; exact h20
     refine CW_seq ?_
     refine CW_region ?_
     refine OW_run' hE.ok 1 rfl ?_
     refine OW_store' hE rfl rfl rfl rfl rfl rfl rfl rfl rfl rfl rfl rfl ?_
     refine OW_run' hE.ok 1 rfl ?_
     refine OW_end rfl ?_
     refine CW_ret ?_
     refine ⟨.inr rfl, rfl, ⟨_, rfl, rfl, ?_⟩, rfl⟩
     rw [ap_5 hgood k5, ad_1 f1]
     exact AVle.refl _
    ·
     have f1 : (findT s c.ty).2 = false := by rw [typeIdx_find]; exact h20
     refine CW_skip ?_
     refine CW_seq ?_
     refine CW_seq ?_
     refine CW_region ?_
     refine OW_run' hE.ok 4 rfl ?_
     refine OW_end rfl ?_
     refine CW_cond _ rfl (fun h21 => ?_) (fun h21 => ?_)
     ·
      have f2 : decide ((s.length : Int) ≥ 5) = true := by have := h21; rw [List.length_map] at this; exact this
      refine CW_seq ?_
      refine CW_region ?_
      refine OW_run' hE.ok 1 rfl ?_
      refine OW_store' hE rfl rfl rfl rfl rfl rfl rfl rfl rfl rfl rfl rfl ?_
      refine OW_run' hE.ok 1 rfl ?_
      refine OW_end rfl ?_
      refine CW_ret ?_
      refine ⟨.inr rfl, rfl, ⟨_, rfl, rfl, ?_⟩, rfl⟩
      rw [ap_5 hgood k5, ad_2 f1 f2]
      exact AVle.refl _
     ·
      have f2 : decide ((s.length : Int) ≥ 5) = false := by have := h21; rw [List.length_map] at this; exact this
      refine CW_skip ?_
      refine CW_seq ?_
      refine CW_region ?_
      refine OW_run' hE.ok 1 rfl ?_
      refine OW_end rfl ?_
      refine CW_cutE (fun _ : Unit => ⟨J, (sset (sset (sset (sset noSlots 3 (.d (.iptr (encC c)))) 4 (.ptr 1 0)) 8 (.ptr 2 0)) 9 (.d (int ((posX s c.ty : Nat) : Int)))), (hset (hset noHeap 1 (some (.box 24 [.d (.lit (.slice none 0 0))]))) 2 (some (.box 24 [.d (.sl 2 40 (s.map encT))])))⟩) (fun _ => True) ?_ ?_
      ·
       refine CW_block ?_
       refine CW_loop (σ := {k : Nat // k ≤ s.length ∧ ∀ (j : Nat) (a : Ty), j < k → s[j]? = some a → less a.name c.ty = true}) (fun k => ⟨J, (sset (sset (sset (sset (sset (sset noSlots 2 (.d (.iptr [encS s]))) 3 (.d (.iptr (encC c)))) 4 (.ptr 1 0)) 6 (.d (int (typeIdx s c.ty)))) 8 (.ptr 2 0)) 9 (.d (int ((k.1 : Nat) : Int)))), (hset (hset noHeap 1 (some (.box 24 [.d (.lit (.slice none 0 0))]))) 2 (some (.box 24 [.d (.sl 2 40 (s.map encT))])))⟩) (fun k => s.length - k.1) ⟨0, Nat.zero_le _, fun j a hj => by omega⟩ (LE_sh (slh_set (slh_set (slh_set (slh_set (slh_set (slh_set (slh_no _ _) rfl rfl) rfl rfl) rfl rfl) rfl rfl) rfl rfl) rfl rfl) (hlh_set (hlh_set (hlh_no _ _) rfl rfl) rfl rfl)) fun ⟨k, hk, hp⟩ => ?_
       refine CW_seq ?_
       refine CW_seq ?_
       refine CW_drawn' hE 14 (by decide +kernel) ?_
       refine HW_run hE 6 rfl rfl ?_
       refine HW_split 94 rfl (fun h22 => ?_) (fun h22 => ?_)
       ·
        have hlt : k < s.length := by have := h22; rw [List.length_map] at this; simp at this; omega
        obtain ⟨a, ha⟩ : ∃ a, s[k]? = some a := ⟨_, List.getElem?_eq_getElem hlt⟩
        refine HW_run hE 3 rfl rfl ?_
        refine HW_loc hE (loc_indexAddr hE rfl rfl rfl rfl rfl (by omega) (x := encT a) (by simp [ha])) rfl rfl rfl rfl ?_
        refine HW_run hE 4 rfl rfl ?_
        refine HW_end ?_
        refine OW_run' hE.ok 2 rfl ?_
        refine OW_end rfl ?_
        refine CW_cond _ rfl (fun h23 => ?_) (fun h23 => ?_)
        ·
         have hles : less a.name c.ty = true := h23
         refine CW_skip ?_
         refine CW_block ?_
         refine CW_region ?_
         refine OW_run' hE.ok 3 rfl ?_
         refine OW_end rfl ?_
         refine ⟨⟨k + 1, by omega, fun j x hj hx => ?_⟩, LE_sh (slh_set (v := .d (int ((k + 1 : Nat) : Int))) (slh_set (v := .ptr 2 0) (slh_set (v := .d (int (typeIdx s c.ty))) (slh_set (v := .ptr 1 0) (slh_set (v := .d (.iptr (encC c))) (slh_set (v := .d (.iptr [encS s])) (slh_no _ _) (by rfl) rfl) (by rfl) rfl) (by rfl) rfl) (by rfl) rfl) (by rfl) rfl) (by show AV.d (.lit (.int .i64 (IntKind.i64.wrap ((k : Int) + 1)))) = _; rw [wrap_succ (by omega)]; rfl) rfl) (hlh_set (hlh_set (hlh_no _ _) rfl rfl) rfl rfl), by show s.length - (k + 1) < s.length - k; omega⟩
         by_cases hji : j = k
         · subst hji; rw [ha] at hx; cases hx; exact hles
         · exact hp j x (by omega) hx
        ·
         have hles : less a.name c.ty = false := h23
         refine CW_exit ?_
         have hkp : k = posX s c.ty := (posX_at (by omega) hp (.inr ⟨a, ha, hles⟩)).symm
         exact ⟨(), trivial, LE_sh (slh_set (v := .d (int ((posX s c.ty : Nat) : Int))) (slh_set (v := .ptr 2 0) (slh_set (v := .ptr 1 0) (slh_set (v := .d (.iptr (encC c))) (slh_no _ _) (by rfl) rfl) (by rfl) rfl) (by rfl) rfl) (by exact (congrArg (fun z : Nat => AV.d (int ((z : Nat) : Int))) hkp)) rfl) (hlh_set (hlh_set (hlh_no _ _) rfl rfl) rfl rfl)⟩
       ·
        have hkge : k = s.length := by have := h22; rw [List.length_map] at this; simp at this; omega
        refine HW_run hE 8 rfl rfl ?_
        refine HW_end ?_
        refine OW_run' hE.ok 2 rfl ?_
        refine OW_end rfl ?_
        refine CW_false rfl ?_
        refine CW_exit ?_
        have hkp : k = posX s c.ty := (posX_at (by omega) hp (.inl hkge)).symm
        exact ⟨(), trivial, LE_sh (slh_set (v := .d (int ((posX s c.ty : Nat) : Int))) (slh_set (v := .ptr 2 0) (slh_set (v := .ptr 1 0) (slh_set (v := .d (.iptr (encC c))) (slh_no _ _) (by rfl) rfl) (by rfl) rfl) (by rfl) rfl) (by exact (congrArg (fun z : Nat => AV.d (int ((z : Nat) : Int))) hkp)) rfl) (hlh_set (hlh_set (hlh_no _ _) rfl rfl) rfl rfl)⟩
      ·
       rintro _ _
       have hpl := posX_le s c.ty
       refine CW_seq ?_
       refine CW_drawn3 hE 14 4 9 61 (by decide +kernel) (ys1 := ((s.map encT).take (posX s c.ty)).drop 0) (ys2 := [[str c.ty, .lit (.slice none 0 0)]]) rfl rfl rfl rfl rfl rfl rfl rfl rfl rfl rfl (by intro h; cases h) (by decide +kernel) rfl rfl rfl rfl rfl (by simp; omega) (by simp; omega) ?_
       refine H3_oneB hE (grow_more (kb := 2) rfl rfl rfl) rfl rfl rfl rfl rfl rfl ?_
       refine H3_oneB hE (grow_more (kb := 2) rfl rfl rfl) rfl rfl rfl rfl rfl rfl ?_
       refine H3_one hE rfl rfl rfl rfl rfl rfl ?_
       refine H3_loc hE (fun _ => loc_slice hE (lo := none) (hi := some (.tmp 109)) rfl rfl rfl rfl (l := 0) (u := posX s c.ty) rfl ⟨.i64, rfl⟩ (by omega) (by simp; omega)) rfl rfl rfl rfl rfl ?_
       refine H3_begin rfl rfl rfl rfl ?_
       refine H3_one hE rfl rfl rfl rfl rfl rfl ?_
       refine H3_one hE rfl rfl rfl rfl rfl rfl ?_
       refine H3_loc hE (fun _ => loc_build hE rfl rfl) rfl rfl rfl rfl rfl ?_
       refine H3_loc hE (fun _ => loc_lits hE (t := 22) (len := 1) (parts := #[(0, .tmp 114)]) rfl rfl rfl rfl rfl rfl rfl rfl rfl) rfl rfl rfl rfl rfl ?_
       refine H3_more rfl rfl rfl rfl ?_
       refine H3_oneB hE (grow_more (kb := 2) rfl rfl rfl) rfl rfl rfl rfl rfl rfl ?_
       refine H3_oneB hE (grow_more (kb := 2) rfl rfl rfl) rfl rfl rfl rfl rfl rfl ?_
       refine H3_one hE rfl rfl rfl rfl rfl rfl ?_
       refine H3_loc hE (fun _ => loc_slice hE (lo := some (.tmp 119)) (hi := none) rfl rfl rfl rfl (l := posX s c.ty) (u := (s.map encT).length) ⟨.i64, rfl⟩ rfl (by simp; omega) (by simp)) rfl rfl rfl rfl rfl ?_
       refine H3_end ?_
       refine OW_append' hE (key := 61) rfl rfl rfl rfl rfl rfl rfl rfl (.inl rfl) (by simp; omega) (by simp; omega) rfl ?_
       refine OW_run' hE.ok 1 rfl ?_
       refine OW_store' hE rfl rfl rfl rfl rfl rfl rfl rfl rfl rfl rfl rfl ?_
       refine OW_end rfl ?_
       refine CW_seq ?_
       refine CW.le (LE_rowLe 61 (xs' := (insX s c.ty).map encT) rfl (by simp [insX_len]; omega) (fun _ => ins_two s c.ty) (ins_dles3 s c.ty rfl)) ?_
       refine CW.le (LE_freeze 61 40 rfl (by simp [insX_len]; omega)) ?_
       refine CW_region ?_
       refine OW_run' hE.ok 1 rfl ?_
       refine OW_store' hE rfl rfl rfl rfl rfl rfl rfl rfl rfl rfl rfl rfl ?_
       refine OW_run' hE.ok 1 rfl ?_
       refine OW_end rfl ?_
       refine CW_ret ?_
       refine ⟨.inr rfl, rfl, ⟨_, rfl, rfl, ?_⟩, rfl⟩
       rw [ap_5 hgood k5, ad_3 f1 f2]
       exact AVle.refl _
   ·
    skip
    refine CW_seq ?_
    refine CW_region ?_
    refine OW_run' hE.ok 1 rfl ?_
    refine OW_callM' hE (tr []) (refCopiedAll s hs) rfl rfl rfl rfl rfl trivial rfl rfl ?_
    refine OW_alloc' hE 2 rfl rfl rfl rfl rfl rfl rfl ?_
    refine OW_store' hE rfl rfl rfl rfl rfl rfl rfl rfl rfl rfl rfl rfl ?_
    refine OW_end rfl ?_
    refine CW_seq ?_
    refine CW_seq ?_
    refine CW.le (LE_rowD 50 (xs := s.map encT) rfl (by simp) (rnAs_dd _ _) (enc_two s)) ?_
    refine CW.le (LE_freeze 50 40 rfl (by simp; omega)) ?_
    refine CW.le (show LE _ _ ⟨J, (sset (sset (sset (sset (sset noSlots 2 (.d (.iptr [encS s]))) 3 (.d (.iptr (encC c)))) 4 (.ptr 1 0)) 6 (.d (int (typeIdx s c.ty)))) 8 (.ptr 2 0)), (hset (hset noHeap 1 (some (.box 24 [.d (.lit (.slice none 0 0))]))) 2 (some (.box 24 [.d (.sl 2 40 (s.map encT))])))⟩ from LE_sh (slh_set (v := .ptr 2 0) (slh_set (v := .d (int (typeIdx s c.ty))) (slh_set (v := .ptr 1 0) (slh_set (v := .d (.iptr (encC c))) (slh_set (v := .d (.iptr [encS s])) (slh_no _ _) (by rfl) rfl) (by rfl) rfl) (by rfl) rfl) (by rfl) rfl) (by rfl) rfl) (hlh_set (hlh_set (hlh_no _ _) rfl rfl) rfl rfl)) ?_
    refine CW_region ?_
    refine OW_run' hE.ok 3 rfl ?_
    refine OW_as' 80 (.d (boo false)) (congrArg (fun b => AV.d (boo b)) k5) ?_
    refine OW_end rfl ?_
    refine CW_false rfl ?_
    refine CW_skip ?_
    refine CW_seq ?_
    refine CW_seq ?_
    refine CW_region ?_
    refine OW_run' hE.ok 2 rfl ?_
    refine OW_as' 125 (.d (boo true)) (congrArg (fun b => AV.d (boo b)) k6) ?_
    refine OW_end rfl ?_
    refine CW_true rfl ?_
    refine CW_seq ?_
    refine CW_region ?_
    refine OW_run' hE.ok 1 rfl ?_
    refine OW_store' hE rfl rfl rfl rfl rfl rfl rfl rfl rfl rfl rfl rfl ?_
    refine OW_run' hE.ok 1 rfl ?_
    refine OW_end rfl ?_
    refine CW_ret ?_
    refine ⟨.inr rfl, rfl, ⟨_, rfl, rfl, ?_⟩, rfl⟩
    rw [ap_no hgood k5 k6]
    exact AVle.refl _
   ·
    have hfew := right_fields hs ht
    have hil := (List.getElem?_eq_some_iff.1 ht).1
    refine CW_as' 6 (.d (int ((i : Nat) : Int))) (congrArg (fun z => AV.d (int z)) hix) ?_
    refine CW_seq ?_
    refine CW_region ?_
    refine OW_run' hE.ok 1 rfl ?_
    refine OW_callM' hE (tr []) (refCopiedAt s i t hs ht) rfl rfl rfl rfl rfl trivial rfl rfl ?_
    refine OW_alloc' hE 2 rfl rfl rfl rfl rfl rfl rfl ?_
    refine OW_store' hE rfl rfl rfl rfl rfl rfl rfl rfl rfl rfl rfl rfl ?_
    refine OW_end rfl ?_
    refine CW_seq ?_
    refine CW_seq ?_
    refine CW.le (show LE _ _ ⟨J, (sset (sset (sset (sset (sset noSlots 2 (.d (.iptr [encS s]))) 3 (.d (.iptr (encC c)))) 4 (.ptr 1 0)) 6 (.d (int ((i : Nat) : Int)))) 8 (.ptr 2 0)), (hset (hset (hset (hset noHeap 1 (some (.box 24 [.d (.lit (.slice none 0 0))]))) 2 (some (.box 24 [.row 50]))) 50 (some (.rowA 72 2 s.length (cX (preD s i) (postD s i) t.name (.row 70))))) 70 (some (.row 69 2 (t.fields.map encF))))⟩ from LE_sh (slh_set (v := .ptr 2 0) (slh_set (v := .d (int ((i : Nat) : Int))) (slh_set (v := .ptr 1 0) (slh_set (v := .d (.iptr (encC c))) (slh_set (v := .d (.iptr [encS s])) (slh_no _ _) (by rfl) rfl) (by rfl) rfl) (by rfl) rfl) (by rfl) rfl) (by rfl) rfl) (hlh_set (hlh_set (hlh_set (hlh_set (hlh_no _ _) rfl rfl) rfl rfl) (by exact congrArg (fun z => some (Ent.rowA 72 2 s.length z)) (cX_rn _ _ _ _ _)) (by exact cX_in rfl)) rfl rfl)) ?_
    refine CW_region ?_
    refine OW_run' hE.ok 3 rfl ?_
    refine OW_as' 80 (.d (boo false)) (congrArg (fun b => AV.d (boo b)) k5) ?_
    refine OW_end rfl ?_
    refine CW_false rfl ?_
    refine CW_skip ?_
    refine CW_seq ?_
    refine CW_seq ?_
    refine CW_region ?_
    refine OW_run' hE.ok 2 rfl ?_
    refine OW_as' 125 (.d (boo false)) (congrArg (fun b => AV.d (boo b)) (by simp)) ?_
    refine OW_end rfl ?_
    refine CW_false rfl ?_
    refine CW_skip ?_
    refine CW_seq ?_
    refine CW_region ?_
    refine OW_run' hE.ok 3 rfl ?_
    refine OW_loc' hE (loc_idxRowA hE rfl rfl rfl rfl rfl (j := i) rfl hil) rfl rfl rfl ?_
    refine OW_loc' hE (loc_loadRowA hE rfl rfl rfl (q := i * 2) rfl (by exact cX_ty (preD_len ht))) rfl rfl rfl ?_
    refine OW_alloc' hE 3 rfl rfl rfl rfl rfl rfl rfl ?_
    refine OW_store' hE rfl rfl rfl rfl rfl rfl rfl rfl rfl rfl rfl rfl ?_
    refine OW_end rfl ?_
    refine CW_seq ?_
    refine CW_region ?_
    refine OW_run' hE.ok 3 rfl ?_
    refine OW_callLend' hE (LE_freeze 70 24 rfl (by simp; omega)) (refFieldOk t c.fld) rfl rfl rfl rfl rfl rfl ?_
    refine OW_run' hE.ok 1 rfl ?_
    refine OW_end rfl ?_
    refine CW_seq ?_
    refine CW_region ?_
    refine OW_run' hE.ok 1 rfl ?_
    refine OW_end rfl ?_
    refine CW_cutE (fun _ : Unit => ⟨J, (sset (sset (sset (sset (sset (sset noSlots 2 (.d (.iptr [encS s]))) 4 (.ptr 1 0)) 6 (.d (int ((i : Nat) : Int)))) 8 (.ptr 2 0)) 10 (.ptr 3 0)) 12 (.d (int (changeT t c).2))), (hset (hset (hset (hset (hset noHeap 1 (some (.box 24 [.d (.lit (.slice none 0 0))]))) 2 (some (.box 24 [.row 50]))) 50 (some (.rowA 72 2 s.length (cX (preD s i) (postD s i) t.name .any)))) 3 (some (.box 72 [.d (str t.name), .row 70]))) 70 (some (.row 69 2 ((changeT t c).1.fields.map encF))))⟩) (fun _ => True) ?_ ?_
    ·
     refine CW_seq ?_
     refine CW_region ?_
     refine OW_run' hE.ok 2 rfl ?_
     refine OW_end rfl ?_
     refine CW_block ?_
     refine CW_seq ?_
     refine CW.le (LE_rowAle 50 (cs' := (cX (preD s i) (postD s i) t.name .any)) rfl (cX_any _ _ _ _)) ?_
     refine CW_region ?_
     refine OW_run' hE.ok 2 rfl ?_
     refine OW_end rfl ?_
     refine CW_cond _ rfl (fun h24 => ?_) (fun h24 => ?_)
     ·
      have k1 : (c.kind == 1) = true := h24
      refine CW_seq ?_
      refine CW_region ?_
      refine OW_run' hE.ok 3 rfl ?_
      refine OW_callLend' hE (LE_freeze 70 24 rfl (by simp; omega)) (refAddR t c (fieldAt t c.fld)) rfl rfl rfl rfl rfl rfl ?_
      refine OW_run' hE.ok 1 rfl ?_
      refine OW_end rfl ?_
      refine CW_seq ?_
      refine CW_region ?_
      refine OW_run' hE.ok 2 rfl ?_
      refine OW_end rfl ?_
      refine CW_cond _ rfl (fun h25 => ?_) (fun h25 => ?_)
      ·
       have k0 : (addR t c (fieldAt t c.fld) == 0) = true := h25
       refine CW_region ?_
       refine OW_run' hE.ok 7 rfl ?_
       refine OW_build' hE rfl rfl rfl rfl rfl ?_
       refine OW_lits' hE rfl rfl rfl rfl rfl rfl rfl rfl rfl rfl rfl rfl ?_
       refine OW_append' hE (key := 70) rfl rfl rfl rfl rfl rfl rfl rfl (.inl rfl) (by simp; omega) (by simp; omega) rfl ?_
       refine OW_run' hE.ok 1 rfl ?_
       refine OW_store' hE rfl rfl rfl rfl rfl rfl rfl rfl rfl rfl rfl rfl ?_
       refine OW_end rfl ?_
       have hch := ch_add0 k1 k0
       exact ⟨(), trivial, LE_sh (slh_set (v := .d (int (changeT t c).2)) (slh_set (v := .ptr 3 0) (slh_set (v := .ptr 2 0) (slh_set (v := .d (int ((i : Nat) : Int))) (slh_set (v := .ptr 1 0) (slh_set (v := .d (.iptr [encS s])) (slh_no _ _) (by rfl) rfl) (by rfl) rfl) (by rfl) rfl) (by rfl) rfl) (by rfl) rfl) (by exact (congrArg (fun z => AV.d (int z)) (by rw [hch]; exact eq_zero_of k0))) rfl) (hlh_set (hlh_set (hlh_set (hlh_set (hlh_set (hlh_no _ _) rfl rfl) rfl rfl) (by first | rfl | exact congrArg (fun z => some (Ent.rowA 72 2 s.length z)) (cX_unk _ _ _ _ _)) (by exact cX_in rfl)) rfl rfl) (by exact congrArg (fun z => some (Ent.row 69 2 z)) (by rw [hch, List.map_append]; rfl)) rfl)⟩
      ·
       have k0 : (addR t c (fieldAt t c.fld) == 0) = false := h25
       refine CW_skip ?_
       have hch := ch_add (t := t) k1
       exact ⟨(), trivial, LE_sh (slh_set (v := .d (int (changeT t c).2)) (slh_set (v := .ptr 3 0) (slh_set (v := .ptr 2 0) (slh_set (v := .d (int ((i : Nat) : Int))) (slh_set (v := .ptr 1 0) (slh_set (v := .d (.iptr [encS s])) (slh_no _ _) (by rfl) rfl) (by rfl) rfl) (by rfl) rfl) (by rfl) rfl) (by rfl) rfl) (by exact (congrArg (fun z => AV.d (int z)) (by rw [hch]))) rfl) (hlh_set (hlh_set (hlh_set (hlh_set (hlh_set (hlh_no _ _) rfl rfl) rfl rfl) (by first | rfl | exact congrArg (fun z => some (Ent.rowA 72 2 s.length z)) (cX_unk _ _ _ _ _)) (by exact cX_in rfl)) rfl rfl) (by exact congrArg (fun z => some (Ent.row 69 2 z)) (by rw [ch_err (by rw [ch_add k1]; exact ne_zero_of k0)])) rfl)⟩
     ·
      have k1 : (c.kind == 1) = false := h24
      refine CW_seq ?_
      refine CW_region ?_
      refine OW_run' hE.ok 2 rfl ?_
      refine OW_end rfl ?_
      refine CW_cond _ rfl (fun h26 => ?_) (fun h26 => ?_)
      ·
       have k2 : (c.kind == 2) = true := h26
       refine CW_seq ?_
       refine CW_seq ?_
       refine CW_region ?_
       refine OW_run' hE.ok 2 rfl ?_
       refine OW_end rfl ?_
       refine CW_cond _ rfl (fun h27 => ?_) (fun h27 => ?_)
       ·
        have k3 : decide (fieldAt t c.fld < 0) = true := h27
        refine CW_seq ?_
        refine CW_region ?_
        refine OW_run' hE.ok 1 rfl ?_
        refine OW_store' hE rfl rfl rfl rfl rfl rfl rfl rfl rfl rfl rfl rfl ?_
        refine OW_run' hE.ok 1 rfl ?_
        refine OW_end rfl ?_
        refine CW_ret ?_
        refine ⟨.inr rfl, rfl, ⟨_, rfl, rfl, ?_⟩, rfl⟩
        rw [ap_err hgood k5 hix ht (by rw [ch_b1 k1 k3]; rfl), ch_b1 k1 k3]
        exact AVle.refl _
       ·
        have k3 : decide (fieldAt t c.fld < 0) = false := h27
        obtain ⟨k, f, hk, hf, _⟩ := fieldAt_yes (t := t) (nm := c.fld) (by simpa using k3)
        have hkl := (List.getElem?_eq_some_iff.1 hf).1
        refine CW_as' 11 (.d (int ((k : Nat) : Int))) (congrArg (fun z => AV.d (int z)) hk) ?_
        refine CW_skip ?_
        refine CW_drawn' hE 9 (by decide +kernel) ?_
        refine HW_run hE 3 rfl rfl ?_
        refine HW_loc hE (loc_headRow hE rfl rfl rfl rfl rfl rfl (by simp; omega) (by simp; omega)) rfl rfl rfl rfl ?_
        refine HW_run hE 3 rfl rfl ?_
        refine HW_run hE 1 rfl rfl ?_
        refine HW_as 169 (.d (int ((k + 1 : Nat) : Int))) (by show AV.d (.lit (.int .i64 (IntKind.i64.wrap ((k : Int) + 1)))) = _; rw [wrap_succ (by omega)]; rfl) ?_
        refine HW_loc hE (loc_tailRow hE rfl rfl rfl rfl rfl rfl rfl (by simp; omega)) rfl rfl rfl rfl ?_
        refine HW_end ?_
        refine OW_appendTail' hE rfl rfl rfl rfl rfl rfl rfl rfl (Nat.le_succ k) (by simp; omega) (by simp; omega) rfl ?_
        refine OW.le (LE_viewRow 171 rfl rfl (by rw [delX_len (Nat.le_succ k) (by simp; omega)]; simp; omega) (by rw [delX_len (Nat.le_succ k) (by simp; omega)]; simp; omega) (xs' := (t.fields.eraseIdx k).map encF) (del_whole hkl)) ?_
        refine OW_run' hE.ok 1 rfl ?_
        refine OW_store' hE rfl rfl rfl rfl rfl rfl rfl rfl rfl rfl rfl rfl ?_
        refine OW_end rfl ?_
        have hch := ch_drop k1 k3 hk k2
        exact ⟨(), trivial, LE_sh (slh_set (v := .d (int (changeT t c).2)) (slh_set (v := .ptr 3 0) (slh_set (v := .ptr 2 0) (slh_set (v := .d (int ((i : Nat) : Int))) (slh_set (v := .ptr 1 0) (slh_set (v := .d (.iptr [encS s])) (slh_no _ _) (by rfl) rfl) (by rfl) rfl) (by rfl) rfl) (by rfl) rfl) (by rfl) rfl) (by exact (congrArg (fun z => AV.d (int z)) (by rw [hch]))) rfl) (hlh_set (hlh_set (hlh_set (hlh_set (hlh_set (hlh_no _ _) rfl rfl) rfl rfl) (by first | rfl | exact congrArg (fun z => some (Ent.rowA 72 2 s.length z)) (cX_unk _ _ _ _ _)) (by exact cX_in rfl)) rfl rfl) (by exact congrArg (fun z => some (Ent.row 69 2 z)) (by rw [hch])) rfl)⟩
      ·
       have k2 : (c.kind == 2) = false := h26
       refine CW_seq ?_
       refine CW_region ?_
       refine OW_run' hE.ok 2 rfl ?_
       refine OW_end rfl ?_
       refine CW_cond _ rfl (fun h28 => ?_) (fun h28 => ?_)
       ·
        have k4 : (c.kind == 3) = true := h28
        refine CW_block ?_
        refine CW_seq ?_
        refine CW_region ?_
        refine OW_run' hE.ok 3 rfl ?_
        refine OW_end rfl ?_
        refine CW_cond _ rfl (fun h29 => ?_) (fun h29 => ?_)
        ·
         have k5a : decide (fieldAt t c.fld < 0) = true := h29
         refine CW_region ?_
         refine OW_run' hE.ok 1 rfl ?_
         refine OW_end rfl ?_
         have hch := ch_b1 k1 k5a
         exact ⟨(), trivial, LE_sh (slh_set (v := .d (int (changeT t c).2)) (slh_set (v := .ptr 3 0) (slh_set (v := .ptr 2 0) (slh_set (v := .d (int ((i : Nat) : Int))) (slh_set (v := .ptr 1 0) (slh_set (v := .d (.iptr [encS s])) (slh_no _ _) (by rfl) rfl) (by rfl) rfl) (by rfl) rfl) (by rfl) rfl) (by rfl) rfl) (by exact (congrArg (fun z => AV.d (int z)) (by rw [hch]))) rfl) (hlh_set (hlh_set (hlh_set (hlh_set (hlh_set (hlh_no _ _) rfl rfl) rfl rfl) (by first | rfl | exact congrArg (fun z => some (Ent.rowA 72 2 s.length z)) (cX_unk _ _ _ _ _)) (by exact cX_in rfl)) rfl rfl) (by exact congrArg (fun z => some (Ent.row 69 2 z)) (by rw [hch])) rfl)⟩
        ·
         have k5a : decide (fieldAt t c.fld < 0) = false := h29
         obtain ⟨k, f, hk, hf, _⟩ := fieldAt_yes (t := t) (nm := c.fld) (by simpa using k5a)
         have hkl := (List.getElem?_eq_some_iff.1 hf).1
         refine CW_as' 11 (.d (int ((k : Nat) : Int))) (congrArg (fun z => AV.d (int z)) hk) ?_
         refine CW_seq ?_
         refine CW_region ?_
         refine OW_run' hE.ok 2 rfl ?_
         refine OW_call' hE (refNameOk c.to) rfl rfl rfl rfl rfl rfl rfl ?_
         refine OW_run' hE.ok 2 rfl ?_
         refine OW_end rfl ?_
         refine CW_cond _ rfl (fun h30 => ?_) (fun h30 => ?_)
         ·
          have n1 : (!isName c.to) = true := h30
          refine CW_region ?_
          refine OW_run' hE.ok 1 rfl ?_
          refine OW_end rfl ?_
          have hch := ch_r1 k1 k5a k2 k4 n1
          exact ⟨(), trivial, LE_sh (slh_set (v := .d (int (changeT t c).2)) (slh_set (v := .ptr 3 0) (slh_set (v := .ptr 2 0) (slh_set (v := .d (int ((i : Nat) : Int))) (slh_set (v := .ptr 1 0) (slh_set (v := .d (.iptr [encS s])) (slh_no _ _) (by rfl) rfl) (by rfl) rfl) (by rfl) rfl) (by rfl) rfl) (by rfl) rfl) (by exact (congrArg (fun z => AV.d (int z)) (by rw [hch]))) rfl) (hlh_set (hlh_set (hlh_set (hlh_set (hlh_set (hlh_no _ _) rfl rfl) rfl rfl) (by first | rfl | exact congrArg (fun z => some (Ent.rowA 72 2 s.length z)) (cX_unk _ _ _ _ _)) (by exact cX_in rfl)) rfl rfl) (by exact congrArg (fun z => some (Ent.row 69 2 z)) (by rw [hch])) rfl)⟩
         ·
          have n1 : (!isName c.to) = false := h30
          refine CW_seq ?_
          refine CW_region ?_
          refine OW_run' hE.ok 3 rfl ?_
          refine OW_callLend' hE (LE_freeze 70 24 rfl (by simp; omega)) (refFieldOk t c.to) rfl rfl rfl rfl rfl rfl ?_
          refine OW_run' hE.ok 2 rfl ?_
          refine OW_end rfl ?_
          refine CW_cond _ rfl (fun h31 => ?_) (fun h31 => ?_)
          ·
           have n2 : decide (fieldAt t c.to ≥ 0) = true := h31
           refine CW_region ?_
           refine OW_run' hE.ok 1 rfl ?_
           refine OW_end rfl ?_
           have hch := ch_r2 k1 k5a k2 k4 n1 n2
           exact ⟨(), trivial, LE_sh (slh_set (v := .d (int (changeT t c).2)) (slh_set (v := .ptr 3 0) (slh_set (v := .ptr 2 0) (slh_set (v := .d (int ((i : Nat) : Int))) (slh_set (v := .ptr 1 0) (slh_set (v := .d (.iptr [encS s])) (slh_no _ _) (by rfl) rfl) (by rfl) rfl) (by rfl) rfl) (by rfl) rfl) (by rfl) rfl) (by exact (congrArg (fun z => AV.d (int z)) (by rw [hch]))) rfl) (hlh_set (hlh_set (hlh_set (hlh_set (hlh_set (hlh_no _ _) rfl rfl) rfl rfl) (by first | rfl | exact congrArg (fun z => some (Ent.rowA 72 2 s.length z)) (cX_unk _ _ _ _ _)) (by exact cX_in rfl)) rfl rfl) (by exact congrArg (fun z => some (Ent.row 69 2 z)) (by rw [hch])) rfl)⟩
          ·
           have n2 : decide (fieldAt t c.to ≥ 0) = false := h31
           refine CW_region ?_
           refine OW_run' hE.ok 5 rfl ?_
           refine OW_loc' hE (loc_idxRow hE rfl rfl rfl rfl rfl (j := k) rfl (by rw [List.length_map]; exact hkl)) rfl rfl rfl ?_
           refine OW_run' hE.ok 1 rfl ?_
           refine OW_storeRow' hE rfl rfl rfl rfl rfl (j := k) (off := 0) rfl rfl rfl (x := encF f) (by simp [hf]) (y := [str c.to]) rfl rfl rfl (by show 0 + 1 ≤ 2; omega) (xs' := (t.fields.set k ⟨c.to, f.kind⟩).map encF) (by rw [List.map_set]; rfl) ?_
           refine OW_end rfl ?_
           have hch := ch_r3 k1 k5a k2 k4 n1 n2 hk hf
           exact ⟨(), trivial, LE_sh (slh_set (v := .d (int (changeT t c).2)) (slh_set (v := .ptr 3 0) (slh_set (v := .ptr 2 0) (slh_set (v := .d (int ((i : Nat) : Int))) (slh_set (v := .ptr 1 0) (slh_set (v := .d (.iptr [encS s])) (slh_no _ _) (by rfl) rfl) (by rfl) rfl) (by rfl) rfl) (by rfl) rfl) (by rfl) rfl) (by exact (congrArg (fun z => AV.d (int z)) (by rw [hch]))) rfl) (hlh_set (hlh_set (hlh_set (hlh_set (hlh_set (hlh_no _ _) rfl rfl) rfl rfl) (by first | rfl | exact congrArg (fun z => some (Ent.rowA 72 2 s.length z)) (cX_unk _ _ _ _ _)) (by exact cX_in rfl)) rfl rfl) (by exact congrArg (fun z => some (Ent.row 69 2 z)) (by rw [hch])) rfl)⟩
       ·
        have k4 : (c.kind == 3) = false := h28
        refine CW_seq ?_
        refine CW_region ?_
        refine OW_run' hE.ok 2 rfl ?_
        refine OW_end rfl ?_
        refine CW_cond _ rfl (fun h32 => ?_) (fun h32 => ?_)
        ·
         have k6 : (c.kind == 4) = true := h32
         refine CW_block ?_
         refine CW_seq ?_
         refine CW_region ?_
         refine OW_run' hE.ok 3 rfl ?_
         refine OW_end rfl ?_
         refine CW_cond _ rfl (fun h33 => ?_) (fun h33 => ?_)
         ·
          have k5b : decide (fieldAt t c.fld < 0) = true := h33
          refine CW_region ?_
          refine OW_run' hE.ok 1 rfl ?_
          refine OW_end rfl ?_
          have hch := ch_b1 k1 k5b
          exact ⟨(), trivial, LE_sh (slh_set (v := .d (int (changeT t c).2)) (slh_set (v := .ptr 3 0) (slh_set (v := .ptr 2 0) (slh_set (v := .d (int ((i : Nat) : Int))) (slh_set (v := .ptr 1 0) (slh_set (v := .d (.iptr [encS s])) (slh_no _ _) (by rfl) rfl) (by rfl) rfl) (by rfl) rfl) (by rfl) rfl) (by rfl) rfl) (by exact (congrArg (fun z => AV.d (int z)) (by rw [hch]))) rfl) (hlh_set (hlh_set (hlh_set (hlh_set (hlh_set (hlh_no _ _) rfl rfl) rfl rfl) (by first | rfl | exact congrArg (fun z => some (Ent.rowA 72 2 s.length z)) (cX_unk _ _ _ _ _)) (by exact cX_in rfl)) rfl rfl) (by exact congrArg (fun z => some (Ent.row 69 2 z)) (by rw [hch])) rfl)⟩
         ·
          have k5b : decide (fieldAt t c.fld < 0) = false := h33
          obtain ⟨k, f, hk, hf, _⟩ := fieldAt_yes (t := t) (nm := c.fld) (by simpa using k5b)
          have hkl := (List.getElem?_eq_some_iff.1 hf).1
          refine CW_as' 11 (.d (int ((k : Nat) : Int))) (congrArg (fun z => AV.d (int z)) hk) ?_
          refine CW_seq ?_
          refine CW_region ?_
          refine OW_run' hE.ok 3 rfl ?_
          refine OW_loc' hE (loc_idxRow hE rfl rfl rfl rfl rfl (j := k) rfl (by rw [List.length_map]; exact hkl)) rfl rfl rfl ?_
          refine OW_run' hE.ok 1 rfl ?_
          refine OW_loc' hE (loc_loadRow hE rfl rfl rfl (j := k) (off := 1) rfl rfl (x := encF f) (by simp [hf]) (by show 1 ≤ 2; omega) rfl) rfl rfl rfl ?_
          refine OW_run' hE.ok 2 rfl ?_
          refine OW_end rfl ?_
          refine CW_cond _ rfl (fun h34 => ?_) (fun h34 => ?_)
          ·
           have k7 : (f.kind != 3) = true := h34
           refine CW_region ?_
           refine OW_run' hE.ok 1 rfl ?_
           refine OW_end rfl ?_
           have hch := ch_w1 k1 k5b k2 k4 k6 hk hf k7
           exact ⟨(), trivial, LE_sh (slh_set (v := .d (int (changeT t c).2)) (slh_set (v := .ptr 3 0) (slh_set (v := .ptr 2 0) (slh_set (v := .d (int ((i : Nat) : Int))) (slh_set (v := .ptr 1 0) (slh_set (v := .d (.iptr [encS s])) (slh_no _ _) (by rfl) rfl) (by rfl) rfl) (by rfl) rfl) (by rfl) rfl) (by rfl) rfl) (by exact (congrArg (fun z => AV.d (int z)) (by rw [hch]))) rfl) (hlh_set (hlh_set (hlh_set (hlh_set (hlh_set (hlh_no _ _) rfl rfl) rfl rfl) (by first | rfl | exact congrArg (fun z => some (Ent.rowA 72 2 s.length z)) (cX_unk _ _ _ _ _)) (by exact cX_in rfl)) rfl rfl) (by exact congrArg (fun z => some (Ent.row 69 2 z)) (by rw [hch])) rfl)⟩
          ·
           have k7 : (f.kind != 3) = false := h34
           refine CW_region ?_
           refine OW_run' hE.ok 3 rfl ?_
           refine OW_loc' hE (loc_idxRow hE rfl rfl rfl rfl rfl (j := k) rfl (by rw [List.length_map]; exact hkl)) rfl rfl rfl ?_
           refine OW_run' hE.ok 1 rfl ?_
           refine OW_storeRow' hE rfl rfl rfl rfl rfl (j := k) (off := 1) rfl rfl rfl (x := encF f) (by simp [hf]) (y := [int 1]) rfl rfl rfl (by show 1 + 1 ≤ 2; omega) (xs' := (t.fields.set k ⟨f.name, 1⟩).map encF) (by rw [List.map_set]; rfl) ?_
           refine OW_end rfl ?_
           have hch := ch_w2 k1 k5b k2 k4 k6 hk hf k7
           exact ⟨(), trivial, LE_sh (slh_set (v := .d (int (changeT t c).2)) (slh_set (v := .ptr 3 0) (slh_set (v := .ptr 2 0) (slh_set (v := .d (int ((i : Nat) : Int))) (slh_set (v := .ptr 1 0) (slh_set (v := .d (.iptr [encS s])) (slh_no _ _) (by rfl) rfl) (by rfl) rfl) (by rfl) rfl) (by rfl) rfl) (by rfl) rfl) (by exact (congrArg (fun z => AV.d (int z)) (by rw [hch]))) rfl) (hlh_set (hlh_set (hlh_set (hlh_set (hlh_set (hlh_no _ _) rfl rfl) rfl rfl) (by first | rfl | exact congrArg (fun z => some (Ent.rowA 72 2 s.length z)) (cX_unk _ _ _ _ _)) (by exact cX_in rfl)) rfl rfl) (by exact congrArg (fun z => some (Ent.row 69 2 z)) (by rw [hch])) rfl)⟩
        ·
         have k6 : (c.kind == 4) = false := h32
         refine CW_skip ?_
         exact (rb_kinds hgood k5 k1 k2 k4 k6).elim
    ·
     rintro _ _
     have hcf := change_few t c
     refine CW_seq ?_
     refine CW_seq ?_
     refine CW_region ?_
     refine OW_run' hE.ok 2 rfl ?_
     refine OW_end rfl ?_
     refine CW_cond _ rfl (fun h35 => ?_) (fun h35 => ?_)
     ·
      have he : ((changeT t c).2 != 0) = true := h35
      refine CW_seq ?_
      refine CW_region ?_
      refine OW_run' hE.ok 2 rfl ?_
      refine OW_store' hE rfl rfl rfl rfl rfl rfl rfl rfl rfl rfl rfl rfl ?_
      refine OW_run' hE.ok 1 rfl ?_
      refine OW_end rfl ?_
      refine CW_ret ?_
      refine ⟨.inr rfl, rfl, ⟨_, rfl, rfl, ?_⟩, rfl⟩
      rw [ap_err hgood k5 hix ht he]
      exact AVle.refl _
     ·
      have he : ((changeT t c).2 != 0) = false := h35
      refine CW_skip ?_
      refine CW_seq ?_
      refine CW_region ?_
      refine OW_run' hE.ok 4 rfl ?_
      refine OW_loc' hE (loc_idxRowA hE rfl rfl rfl rfl rfl (j := i) rfl hil) rfl rfl rfl ?_
      refine OW_storeRowA' hE rfl rfl rfl rfl rfl (q := i * 2) rfl rfl rfl rfl rfl rfl (by rw [cX_len, preD_len ht]; show i * 2 + 2 ≤ _; omega) (cX_put (y := .row 70) (preD_len ht)) ?_
      refine OW_end rfl ?_
      refine CW_seq ?_
      refine CW.le (LE_freeze 70 24 rfl (by simp; omega)) ?_
      refine CW.le (show LE _ _ ⟨J, (sset (sset noSlots 4 (.ptr 1 0)) 8 (.ptr 2 0)), (hset (hset (hset noHeap 1 (some (.box 24 [.d (.lit (.slice none 0 0))]))) 2 (some (.box 24 [.row 50]))) 50 (some (.rowA 72 2 s.length (cX (preD s i) (postD s i) t.name (.d (.sl 2 24 ((changeT t c).1.fields.map encF)))))))⟩ from LE_sh (slh_set (v := .ptr 2 0) (slh_set (v := .ptr 1 0) (slh_no _ _) (by rfl) rfl) (by rfl) rfl) (hlh_set (hlh_set (hlh_set (hlh_no _ _) rfl rfl) rfl rfl) (by exact congrArg (fun z => some (Ent.rowA 72 2 s.length z)) (cX_fz _ _ _ _ _ _)) (by exact cX_in rfl))) ?_
      rw [cX_set ht (change_name t c)]
      refine CW.le (LE_rowD 50 (xs := (s.set i (changeT t c).1).map encT) rfl (by simp) rfl (enc_two _)) ?_
      refine CW.le (LE_freeze 50 40 rfl (by simp; omega)) ?_
      refine CW_region ?_
      refine OW_run' hE.ok 1 rfl ?_
      refine OW_store' hE rfl rfl rfl rfl rfl rfl rfl rfl rfl rfl rfl rfl ?_
      refine OW_run' hE.ok 1 rfl ?_
      refine OW_end rfl ?_
      refine CW_ret ?_
      refine ⟨.inr rfl, rfl, ⟨_, rfl, rfl, ?_⟩, rfl⟩
      rw [ap_ok hgood k5 hix ht he]
      exact AVle.refl _
end Go.Proofs.YtchpllgeahnmmaaDoor
namespace Go.Proofs.YtchpllgeahnmmaaDoor
open Go Go.AL
set_option linter.unusedVariables false
set_option linter.unusedSimpArgs false
set_option maxHeartbeats 4000000
theorem refMoveOk (s : List Ty) (c : Chg) (e : Ev) (hs : isSchema s = true) (hv : e.vals.length ≤ 1000) : Does Tryd.prog 25 [argS s, argC c, argE e] noHeap (argE (moveX s c e)) := by
 refine Does_of T_ok mixed (N := 96) Tryd.func25 rfl rfl rfl (by rfl) fun F n Z hE hF J => ?_
 refine CW_seq ?_
 refine CW_region ?_
 refine OW_run' hE.ok 3 rfl ?_
 refine OW_alloc' hE 1 rfl rfl rfl rfl rfl rfl rfl ?_
 refine OW_end rfl ?_
 refine CW_seq ?_
 refine CW_region ?_
 refine OW_run' hE.ok 3 rfl ?_
 refine OW_call' hE (refFindOk s e.ty) rfl rfl rfl rfl rfl rfl rfl ?_
 refine OW_run' hE.ok 3 rfl ?_
 refine OW_alloc' hE 2 rfl rfl rfl rfl rfl rfl rfl ?_
 refine OW_store' hE rfl rfl rfl rfl rfl rfl rfl rfl rfl rfl rfl rfl ?_
 refine OW_run' hE.ok 1 rfl ?_
 refine OW_end rfl ?_
 refine CW_seq ?_
 refine CW_seq ?_
 refine CW_region ?_
 refine OW_run' hE.ok 2 rfl ?_
 refine OW_call' hE (refApplyOk s c hs) rfl rfl rfl rfl rfl rfl rfl ?_
 refine OW_run' hE.ok 3 rfl ?_
 refine OW_alloc' hE 3 rfl rfl rfl rfl rfl rfl rfl ?_
 refine OW_store' hE rfl rfl rfl rfl rfl rfl rfl rfl rfl rfl rfl rfl ?_
 refine OW_run' hE.ok 1 rfl ?_
 refine OW_end rfl ?_
 refine CW_seq ?_
 refine CW.le (show LE _ _ ⟨J, (sset (sset (sset (sset (sset (sset (sset noSlots 3 (.d (.iptr [encS s]))) 4 (.d (.iptr (encC c)))) 5 (.d (.iptr (encE e)))) 6 (.ptr 1 0)) 7 (.ptr 2 0)) 8 (.d (boo (findT s e.ty).2))) 10 (.d (int (applyX s c).2))), (hset (hset noHeap 1 (some (.box 27 [.d (str nul), .d (int 0), .d (.lit (.slice none 0 0))]))) 2 (some (.box 72 ((encT (findT s e.ty).1).map .d))))⟩ from LE_sh (slh_set (v := .d (int (applyX s c).2)) (slh_set (v := .d (boo (findT s e.ty).2)) (slh_set (v := .ptr 2 0) (slh_set (v := .ptr 1 0) (slh_set (v := .d (.iptr (encE e))) (slh_set (v := .d (.iptr (encC c))) (slh_set (v := .d (.iptr [encS s])) (slh_no _ _) (by rfl) rfl) (by rfl) rfl) (by rfl) rfl) (by rfl) rfl) (by rfl) rfl) (by rfl) rfl) (by rfl) rfl) (hlh_set (hlh_set (hlh_no _ _) rfl rfl) rfl rfl)) ?_
 refine CW_region ?_
 refine OW_run' hE.ok 3 rfl ?_
 refine OW_split' 28 rfl (fun h1 => ?_) (fun h1 => ?_)
 ·
  have m0 : (!(findT s e.ty).2) = true := h1
  refine OW.le (show LE _ _ ⟨J, (sset (sset (sset (sset (sset (sset (sset (sset noSlots 3 (.d (.iptr [encS s]))) 4 (.d (.iptr (encC c)))) 5 (.d (.iptr (encE e)))) 6 (.ptr 1 0)) 7 (.ptr 2 0)) 8 (.d (boo (findT s e.ty).2))) 10 (.d (int (applyX s c).2))) 28 (.d (.lit (.bool true)))), (hset (hset noHeap 1 (some (.box 27 [.d (str nul), .d (int 0), .d (.lit (.slice none 0 0))]))) 2 (some (.box 72 ((encT (findT s e.ty).1).map .d))))⟩ from LE_sh (slh_set (v := .d (.lit (.bool true))) (slh_set (v := .d (int (applyX s c).2)) (slh_set (v := .d (boo (findT s e.ty).2)) (slh_set (v := .ptr 2 0) (slh_set (v := .ptr 1 0) (slh_set (v := .d (.iptr (encE e))) (slh_set (v := .d (.iptr (encC c))) (slh_set (v := .d (.iptr [encS s])) (slh_no _ _) (by rfl) rfl) (by rfl) rfl) (by rfl) rfl) (by rfl) rfl) (by rfl) rfl) (by rfl) rfl) (by rfl) rfl) (by rfl) rfl) (hlh_set (hlh_set (hlh_no _ _) rfl rfl) rfl rfl)) ?_
  refine OW_run' hE.ok 16 rfl ?_
  refine OW_end rfl ?_
  refine CW_true rfl ?_
  refine CW_seq ?_
  refine CW_region ?_
  refine OW_run' hE.ok 1 rfl ?_
  refine OW_store' hE rfl rfl rfl rfl rfl rfl rfl rfl rfl rfl rfl rfl ?_
  refine OW_end rfl ?_
  refine CW_ret ?_
  refine ⟨.inr rfl, rfl, ⟨_, rfl, rfl, ?_⟩, rfl⟩
  rw [mv_0 (.inr (.inl (rm_find (by simpa using m0))))]
  exact AVle.refl _
 ·
  have m0 : (!(findT s e.ty).2) = false := h1
  refine OW.le (show LE _ _ ⟨J, (sset (sset (sset (sset (sset (sset (sset (sset noSlots 3 (.d (.iptr [encS s]))) 4 (.d (.iptr (encC c)))) 5 (.d (.iptr (encE e)))) 6 (.ptr 1 0)) 7 (.ptr 2 0)) 8 (.d (boo (findT s e.ty).2))) 10 (.d (int (applyX s c).2))) 28 (.d (.lit (.bool false)))), (hset (hset noHeap 1 (some (.box 27 [.d (str nul), .d (int 0), .d (.lit (.slice none 0 0))]))) 2 (some (.box 72 ((encT (findT s e.ty).1).map .d))))⟩ from LE_sh (slh_set (v := .d (.lit (.bool false))) (slh_set (v := .d (int (applyX s c).2)) (slh_set (v := .d (boo (findT s e.ty).2)) (slh_set (v := .ptr 2 0) (slh_set (v := .ptr 1 0) (slh_set (v := .d (.iptr (encE e))) (slh_set (v := .d (.iptr (encC c))) (slh_set (v := .d (.iptr [encS s])) (slh_no _ _) (by rfl) rfl) (by rfl) rfl) (by rfl) rfl) (by rfl) rfl) (by rfl) rfl) (by rfl) rfl) (by rfl) rfl) (by rfl) rfl) (hlh_set (hlh_set (hlh_no _ _) rfl rfl) rfl rfl)) ?_
  refine OW_run' hE.ok 4 rfl ?_
  refine OW_split' 32 rfl (fun h2 => ?_) (fun h2 => ?_)
  ·
   have m1 : ((applyX s c).2 != 0) = true := h2
   refine OW.le (show LE _ _ ⟨J, (sset (sset (sset (sset (sset (sset (sset (sset noSlots 3 (.d (.iptr [encS s]))) 4 (.d (.iptr (encC c)))) 5 (.d (.iptr (encE e)))) 6 (.ptr 1 0)) 7 (.ptr 2 0)) 8 (.d (boo (findT s e.ty).2))) 10 (.d (int (applyX s c).2))) 32 (.d (.lit (.bool true)))), (hset (hset noHeap 1 (some (.box 27 [.d (str nul), .d (int 0), .d (.lit (.slice none 0 0))]))) 2 (some (.box 72 ((encT (findT s e.ty).1).map .d))))⟩ from LE_sh (slh_set (v := .d (.lit (.bool true))) (slh_set (v := .d (int (applyX s c).2)) (slh_set (v := .d (boo (findT s e.ty).2)) (slh_set (v := .ptr 2 0) (slh_set (v := .ptr 1 0) (slh_set (v := .d (.iptr (encE e))) (slh_set (v := .d (.iptr (encC c))) (slh_set (v := .d (.iptr [encS s])) (slh_no _ _) (by rfl) rfl) (by rfl) rfl) (by rfl) rfl) (by rfl) rfl) (by rfl) rfl) (by rfl) rfl) (by rfl) rfl) (by rfl) rfl) (hlh_set (hlh_set (hlh_no _ _) rfl rfl) rfl rfl)) ?_
   refine OW_run' hE.ok 12 rfl ?_
   refine OW_end rfl ?_
   refine CW_true rfl ?_
   refine CW_seq ?_
   refine CW_region ?_
   refine OW_run' hE.ok 1 rfl ?_
   refine OW_store' hE rfl rfl rfl rfl rfl rfl rfl rfl rfl rfl rfl rfl ?_
   refine OW_end rfl ?_
   refine CW_ret ?_
   refine ⟨.inr rfl, rfl, ⟨_, rfl, rfl, ?_⟩, rfl⟩
   rw [mv_0 (.inl m1)]
   exact AVle.refl _
  ·
   have m1 : ((applyX s c).2 != 0) = false := h2
   refine OW.le (show LE _ _ ⟨J, (sset (sset (sset (sset (sset (sset (sset (sset noSlots 3 (.d (.iptr [encS s]))) 4 (.d (.iptr (encC c)))) 5 (.d (.iptr (encE e)))) 6 (.ptr 1 0)) 7 (.ptr 2 0)) 8 (.d (boo (findT s e.ty).2))) 10 (.d (int (applyX s c).2))) 32 (.d (.lit (.bool false)))), (hset (hset noHeap 1 (some (.box 27 [.d (str nul), .d (int 0), .d (.lit (.slice none 0 0))]))) 2 (some (.box 72 ((encT (findT s e.ty).1).map .d))))⟩ from LE_sh (slh_set (v := .d (.lit (.bool false))) (slh_set (v := .d (int (applyX s c).2)) (slh_set (v := .d (boo (findT s e.ty).2)) (slh_set (v := .ptr 2 0) (slh_set (v := .ptr 1 0) (slh_set (v := .d (.iptr (encE e))) (slh_set (v := .d (.iptr (encC c))) (slh_set (v := .d (.iptr [encS s])) (slh_no _ _) (by rfl) rfl) (by rfl) rfl) (by rfl) rfl) (by rfl) rfl) (by rfl) rfl) (by rfl) rfl) (by rfl) rfl) (by rfl) rfl) (hlh_set (hlh_set (hlh_no _ _) rfl rfl) rfl rfl)) ?_
   refine OW_run' hE.ok 7 rfl ?_
   refine OW_split' 39 rfl (fun h3 => ?_) (fun h3 => ?_)
   ·
    have m3 : (!(e.ty.toList == c.ty.toList)) = true := h3
    refine OW.le (show LE _ _ ⟨J, (sset (sset (sset (sset (sset (sset (sset (sset noSlots 3 (.d (.iptr [encS s]))) 4 (.d (.iptr (encC c)))) 5 (.d (.iptr (encE e)))) 6 (.ptr 1 0)) 7 (.ptr 2 0)) 8 (.d (boo (findT s e.ty).2))) 10 (.d (int (applyX s c).2))) 39 (.d (.lit (.bool true)))), (hset (hset noHeap 1 (some (.box 27 [.d (str nul), .d (int 0), .d (.lit (.slice none 0 0))]))) 2 (some (.box 72 ((encT (findT s e.ty).1).map .d))))⟩ from LE_sh (slh_set (v := .d (.lit (.bool true))) (slh_set (v := .d (int (applyX s c).2)) (slh_set (v := .d (boo (findT s e.ty).2)) (slh_set (v := .ptr 2 0) (slh_set (v := .ptr 1 0) (slh_set (v := .d (.iptr (encE e))) (slh_set (v := .d (.iptr (encC c))) (slh_set (v := .d (.iptr [encS s])) (slh_no _ _) (by rfl) rfl) (by rfl) rfl) (by rfl) rfl) (by rfl) rfl) (by rfl) rfl) (by rfl) rfl) (by rfl) rfl) (by rfl) rfl) (hlh_set (hlh_set (hlh_no _ _) rfl rfl) rfl rfl)) ?_
    refine OW_run' hE.ok 5 rfl ?_
    refine OW_end rfl ?_
    refine CW_true rfl ?_
    refine CW_seq ?_
    refine CW_region ?_
    refine OW_run' hE.ok 1 rfl ?_
    refine OW_store' hE rfl rfl rfl rfl rfl rfl rfl rfl rfl rfl rfl rfl ?_
    refine OW_end rfl ?_
    refine CW_ret ?_
    refine ⟨.inr rfl, rfl, ⟨_, rfl, rfl, ?_⟩, rfl⟩
    rw [mv_0 (.inr (.inr (.inl m3)))]
    exact AVle.refl _
   ·
    have m3 : (!(e.ty.toList == c.ty.toList)) = false := h3
    refine OW.le (show LE _ _ ⟨J, (sset (sset (sset (sset (sset (sset (sset (sset noSlots 3 (.d (.iptr [encS s]))) 4 (.d (.iptr (encC c)))) 5 (.d (.iptr (encE e)))) 6 (.ptr 1 0)) 7 (.ptr 2 0)) 8 (.d (boo (findT s e.ty).2))) 10 (.d (int (applyX s c).2))) 39 (.d (.lit (.bool false)))), (hset (hset noHeap 1 (some (.box 27 [.d (str nul), .d (int 0), .d (.lit (.slice none 0 0))]))) 2 (some (.box 72 ((encT (findT s e.ty).1).map .d))))⟩ from LE_sh (slh_set (v := .d (.lit (.bool false))) (slh_set (v := .d (int (applyX s c).2)) (slh_set (v := .d (boo (findT s e.ty).2)) (slh_set (v := .ptr 2 0) (slh_set (v := .ptr 1 0) (slh_set (v := .d (.iptr (encE e))) (slh_set (v := .d (.iptr (encC c))) (slh_set (v := .d (.iptr [encS s])) (slh_no _ _) (by rfl) rfl) (by rfl) rfl) (by rfl) rfl) (by rfl) rfl) (by rfl) rfl) (by rfl) rfl) (by rfl) rfl) (by rfl) rfl) (hlh_set (hlh_set (hlh_no _ _) rfl rfl) rfl rfl)) ?_
    refine OW_run' hE.ok 2 rfl ?_
    refine OW_call' hE (refIsEOk s e) rfl rfl rfl rfl rfl rfl rfl ?_
    refine OW_run' hE.ok 2 rfl ?_
    refine OW_end rfl ?_
    refine CW_cond _ rfl (fun h4 => ?_) (fun h4 => ?_)
    ·
     have m2 : (evtR s e != 0) = true := h4
     refine CW_seq ?_
     refine CW_region ?_
     refine OW_run' hE.ok 1 rfl ?_
     refine OW_store' hE rfl rfl rfl rfl rfl rfl rfl rfl rfl rfl rfl rfl ?_
     refine OW_end rfl ?_
     refine CW_ret ?_
     refine ⟨.inr rfl, rfl, ⟨_, rfl, rfl, ?_⟩, rfl⟩
     rw [mv_0 (.inr (.inl m2))]
     exact AVle.refl _
    ·
     have m2 : (evtR s e != 0) = false := h4
     refine CW_skip ?_
     refine CW_seq ?_
     have he0 : evtR s e = 0 := by simpa using m2
     have hA := apply_ok_iff s c (by simpa using m1)
     have hty : same e.ty c.ty = true := by show (e.ty.toList == c.ty.toList) = true; simpa using m3
     obtain ⟨hk5, hmv⟩ := rm_to hA he0 hty
     refine CW_region ?_
     refine OW_run' hE.ok 3 rfl ?_
     refine OW_call' hE (refFieldOk (findT s e.ty).1 c.fld) rfl rfl rfl rfl rfl rfl rfl ?_
     refine OW_run' hE.ok 1 rfl ?_
     refine OW_end rfl ?_
     refine CW_seq ?_
     refine CW.le (show LE _ _ ⟨J, (sset (sset (sset (sset noSlots 4 (.d (.iptr (encC c)))) 5 (.d (.iptr (encE e)))) 6 (.ptr 1 0)) 11 (.d (int (fieldAt (findT s e.ty).1 c.fld)))), (hset noHeap 1 (some (.box 27 [.d (str nul), .d (int 0), .d (.lit (.slice none 0 0))])))⟩ from LE_sh (slh_set (v := .d (int (fieldAt (findT s e.ty).1 c.fld))) (slh_set (v := .ptr 1 0) (slh_set (v := .d (.iptr (encE e))) (slh_set (v := .d (.iptr (encC c))) (slh_no _ _) (by rfl) rfl) (by rfl) rfl) (by rfl) rfl) (by rfl) rfl) (hlh_set (hlh_no _ _) rfl rfl)) ?_
     refine CW_drawnG hE 9 [(6, 77, .row 31 3 (e.vals.map encV)), (8, 12, .box 27 [.d (str nul), .d (int 0), .d (.lit (.slice none 0 0))])] (by decide +kernel) rfl ?_
     refine HG_run hE 6 rfl rfl rfl rfl ?_
     refine HG_appendNil hE rfl rfl rfl rfl rfl rfl rfl rfl rfl rfl (by simp; omega) (by simp; omega) rfl ?_
     refine HG_loc hE (fun b => loc_build hE rfl rfl) rfl rfl rfl rfl rfl ?_
     refine HG_alloc hE rfl rfl rfl rfl rfl rfl rfl rfl ?_
     refine HG_end ?_
     refine OW_store' hE rfl rfl rfl rfl rfl rfl rfl rfl rfl rfl rfl rfl ?_
     refine OW_end rfl ?_
     refine CW_cutE (fun _ : Unit => ⟨J, (sset (sset noSlots 6 (.ptr 1 0)) 12 (.ptr 12 0)), (hset (hset (hset noHeap 1 (some (.box 27 [.d (str nul), .d (int 0), .d (.lit (.slice none 0 0))]))) 12 (some (.box 27 [.d (str e.ty), .d (int e.ts), .row 77]))) 77 (some (.row 31 3 ((valsX (findT s e.ty).1 c e.vals).map encV))))⟩) (fun _ => True) ?_ ?_
     ·
      refine CW_seq ?_
      refine CW.le (show LE _ _ ⟨J, (sset (sset (sset (sset (sset noSlots 4 (.d (.iptr (encC c)))) 5 (.d (.iptr (encE e)))) 6 (.ptr 1 0)) 11 (.d (int (fieldAt (findT s e.ty).1 c.fld)))) 12 (.ptr 12 0)), (hset (hset (hset noHeap 1 (some (.box 27 [.d (str nul), .d (int 0), .d (.lit (.slice none 0 0))]))) 12 (some (.box 27 [.d (str e.ty), .d (int e.ts), .row 77]))) 77 (some (.row 31 3 (e.vals.map encV))))⟩ from LE_sh (slh_set (v := .ptr 12 0) (slh_set (v := .d (int (fieldAt (findT s e.ty).1 c.fld))) (slh_set (v := .ptr 1 0) (slh_set (v := .d (.iptr (encE e))) (slh_set (v := .d (.iptr (encC c))) (slh_no _ _) (by rfl) rfl) (by rfl) rfl) (by rfl) rfl) (by rfl) rfl) (by rfl) rfl) (hlh_set (hlh_set (hlh_set (hlh_no _ _) rfl rfl) rfl rfl) rfl rfl)) ?_
      refine CW_region ?_
      refine OW_run' hE.ok 2 rfl ?_
      refine OW_end rfl ?_
      refine CW_block ?_
      refine CW_seq ?_
      refine CW_region ?_
      refine OW_run' hE.ok 2 rfl ?_
      refine OW_end rfl ?_
      refine CW_cond _ rfl (fun h5 => ?_) (fun h5 => ?_)
      ·
       have k1 : (c.kind == 1) = true := h5
       refine CW_region ?_
       refine OW_run' hE.ok 4 rfl ?_
       refine OW_lits' hE rfl rfl rfl rfl rfl rfl rfl rfl rfl rfl rfl rfl ?_
       refine OW_append' hE (key := 77) rfl rfl rfl rfl rfl rfl rfl rfl (.inl rfl) (by simp; omega) (by simp; omega) rfl ?_
       refine OW_run' hE.ok 1 rfl ?_
       refine OW_store' hE rfl rfl rfl rfl rfl rfl rfl rfl rfl rfl rfl rfl ?_
       refine OW_end rfl ?_
       exact ⟨(), trivial, LE_sh (slh_set (v := .ptr 12 0) (slh_set (v := .ptr 1 0) (slh_no _ _) (by rfl) rfl) (by rfl) rfl) (hlh_set (hlh_set (hlh_set (hlh_no _ _) rfl rfl) rfl rfl) (by exact congrArg (fun z => some (Ent.row 31 3 z)) (by rw [vl_1 k1, List.map_append]; rfl)) rfl)⟩
      ·
       have k1 : (c.kind == 1) = false := h5
       refine CW_seq ?_
       refine CW_region ?_
       refine OW_run' hE.ok 2 rfl ?_
       refine OW_end rfl ?_
       refine CW_cond _ rfl (fun h6 => ?_) (fun h6 => ?_)
       ·
        have k2 : (c.kind == 2) = true := h6
        obtain ⟨k, v, hk, hvk⟩ := rm_place hA he0 hty (by first | exact .inl (by simpa using k2) | exact .inr (by simpa using k2))
        have hkl := (List.getElem?_eq_some_iff.1 hvk).1
        have g2 : decide (fieldAt (findT s e.ty).1 c.fld < 0) = false := by rw [hk]; simp
        have g3 : decide (fieldAt (findT s e.ty).1 c.fld ≥ (e.vals.length : Int)) = false := by rw [hk]; simp; omega
        refine CW_as' 11 (.d (int ((k : Nat) : Int))) (congrArg (fun z => AV.d (int z)) hk) ?_
        refine CW_drawn' hE 9 (by decide +kernel) ?_
        refine HW_run hE 3 rfl rfl ?_
        refine HW_loc hE (loc_headRow hE rfl rfl rfl rfl rfl rfl (by simp; omega) (by simp; omega)) rfl rfl rfl rfl ?_
        refine HW_run hE 3 rfl rfl ?_
        refine HW_run hE 1 rfl rfl ?_
        refine HW_as 78 (.d (int ((k + 1 : Nat) : Int))) (by show AV.d (.lit (.int .i64 (IntKind.i64.wrap ((k : Int) + 1)))) = _; rw [wrap_succ (by omega)]; rfl) ?_
        refine HW_loc hE (loc_tailRow hE rfl rfl rfl rfl rfl rfl rfl (by simp; omega)) rfl rfl rfl rfl ?_
        refine HW_end ?_
        refine OW_appendTail' hE rfl rfl rfl rfl rfl rfl rfl rfl (Nat.le_succ k) (by simp; omega) (by simp; omega) rfl ?_
        refine OW.le (LE_viewRow 80 rfl rfl (by rw [delX_len (Nat.le_succ k) (by simp; omega)]; simp; omega) (by rw [delX_len (Nat.le_succ k) (by simp; omega)]; simp; omega) (xs' := (e.vals.eraseIdx k).map encV) (del_wholeV hkl)) ?_
        refine OW_run' hE.ok 1 rfl ?_
        refine OW_store' hE rfl rfl rfl rfl rfl rfl rfl rfl rfl rfl rfl rfl ?_
        refine OW_end rfl ?_
        exact ⟨(), trivial, LE_sh (slh_set (v := .ptr 12 0) (slh_set (v := .ptr 1 0) (slh_no _ _) (by rfl) rfl) (by rfl) rfl) (hlh_set (hlh_set (hlh_set (hlh_no _ _) rfl rfl) rfl rfl) (by exact congrArg (fun z => some (Ent.row 31 3 z)) (by rw [vl_3 k1 g2 g3 hk k2])) rfl)⟩
       ·
        have k2 : (c.kind == 2) = false := h6
        refine CW_seq ?_
        refine CW_region ?_
        refine OW_run' hE.ok 2 rfl ?_
        refine OW_end rfl ?_
        refine CW_cond _ rfl (fun h7 => ?_) (fun h7 => ?_)
        ·
         have k4 : (c.kind == 4) = true := h7
         obtain ⟨k, v, hk, hvk⟩ := rm_place hA he0 hty (by first | exact .inl (by simpa using k4) | exact .inr (by simpa using k4))
         have hkl := (List.getElem?_eq_some_iff.1 hvk).1
         have g2 : decide (fieldAt (findT s e.ty).1 c.fld < 0) = false := by rw [hk]; simp
         have g3 : decide (fieldAt (findT s e.ty).1 c.fld ≥ (e.vals.length : Int)) = false := by rw [hk]; simp; omega
         refine CW_as' 11 (.d (int ((k : Nat) : Int))) (congrArg (fun z => AV.d (int z)) hk) ?_
         refine CW_drawn' hE 10 (by decide +kernel) ?_
         refine HW_run hE 6 rfl rfl ?_
         refine HW_loc hE (loc_indexAddr hE rfl rfl rfl rfl rfl (by omega) (x := encV v) (by simp [hvk])) rfl rfl rfl rfl ?_
         refine HW_run hE 2 rfl rfl ?_
         refine HW_loc hE (loc_build hE rfl rfl) rfl rfl rfl rfl ?_
         refine HW_end ?_
         refine OW_loc' hE (loc_idxRow hE rfl rfl rfl rfl rfl (j := k) rfl (by rw [List.length_map]; exact hkl)) rfl rfl rfl ?_
         refine OW_storeRow' hE rfl rfl rfl rfl rfl (j := k) (off := 0) rfl rfl rfl (x := encV v) (by simp [hvk]) (y := encV ⟨1, v.n, nul⟩) rfl rfl rfl (Nat.le_refl 3) (xs' := (e.vals.set k ⟨1, v.n, nul⟩).map encV) (by simp [encV, List.map_set]) ?_
         refine OW_end rfl ?_
         exact ⟨(), trivial, LE_sh (slh_set (v := .ptr 12 0) (slh_set (v := .ptr 1 0) (slh_no _ _) (by rfl) rfl) (by rfl) rfl) (hlh_set (hlh_set (hlh_set (hlh_no _ _) rfl rfl) rfl rfl) (by exact congrArg (fun z => some (Ent.row 31 3 z)) (by rw [vl_4 k1 g2 g3 hk hvk k2 k4])) rfl)⟩
        ·
         have k4 : (c.kind == 4) = false := h7
         refine CW_skip ?_
         exact ⟨(), trivial, LE_sh (slh_set (v := .ptr 12 0) (slh_set (v := .ptr 1 0) (slh_no _ _) (by rfl) rfl) (by rfl) rfl) (hlh_set (hlh_set (hlh_set (hlh_no _ _) rfl rfl) rfl rfl) (by exact congrArg (fun z => some (Ent.row 31 3 z)) (by rw [vl_00 k1 k2 k4])) rfl)⟩
     ·
      rintro _ _
      have hvl := vl_len (t := (findT s e.ty).1) (c := c) (vs := e.vals)
      rw [hmv]
      refine CW_seq ?_
      refine CW.le (LE_freeze 77 32 rfl (by simp; omega)) ?_
      refine CW_region ?_
      refine OW_run' hE.ok 1 rfl ?_
      refine OW_store' hE rfl rfl rfl rfl rfl rfl rfl rfl rfl rfl rfl rfl ?_
      refine OW_end rfl ?_
      refine CW_ret ?_
      refine ⟨.inr rfl, rfl, ⟨_, rfl, rfl, ?_⟩, rfl⟩
      exact AVle.refl _
end Go.Proofs.YtchpllgeahnmmaaDoor
namespace Go.Proofs.YtchpllgeahnmmaaDoor
open Go Go.AL
set_option linter.unusedVariables false
set_option linter.unusedSimpArgs false
set_option maxHeartbeats 4000000
theorem rLastOk (ss : List (List Ty)) (cs : List Chg) (s : List Ty) (hl : ss.length = cs.length + 1) (hcl : cs.length ≤ 20) (hs : ss[cs.length]? = some s) : DoesM Tryd.prog 91 [(41, .box 107 [.d (.sl 1 24 (ss.map encS1)), .d (.sl 7 88 (cs.map encC))])] [.ptr 41 0] (argS s) [(41, .box 107 [.d (.sl 1 24 (ss.map encS1)), .d (.sl 7 88 (cs.map encC))])] [41] := by
 refine DoesM_of T_ok mixed (N := 15) Tryd.func91 rfl rfl rfl (by rfl) rfl rfl rfl rfl rfl rfl fun F n Z hE hF J V => ?_
 refine CW_seq ?_
 refine CW_region ?_
 refine OW_alloc' hE 1 rfl rfl rfl rfl rfl rfl rfl ?_
 refine OW_end rfl ?_
 refine CW_seq ?_
 refine CW_drawn' hE 12 (by decide +kernel) ?_
 refine HW_run hE 9 rfl rfl ?_
 refine HW_run hE 1 rfl rfl ?_
 refine HW_as 12 (.d (int ((cs.length : Nat) : Int))) (by show AV.d (.lit (.int .i64 (IntKind.i64.wrap (((ss.map encS1).length : Int) - 1)))) = _; rw [List.length_map, hl, show (((cs.length + 1 : Nat) : Int) - 1) = ((cs.length : Nat) : Int) by omega, wrapN (by omega)]; rfl) ?_
 refine HW_loc hE (loc_indexAddr hE rfl rfl rfl rfl rfl (by omega) (x := encS1 s) (by simp [hs])) rfl rfl rfl rfl ?_
 refine HW_run hE 1 rfl rfl ?_
 refine HW_end ?_
 refine OW_store' hE rfl rfl rfl rfl rfl rfl rfl rfl rfl rfl rfl rfl ?_
 refine OW_end rfl ?_
 exact CW_ret ⟨.inr rfl, rfl, ⟨_, rfl, AVle.refl _⟩, ⟨rfl, trivial⟩, rfl⟩
theorem rAddOk (ss : List (List Ty)) (cs : List Chg) (c : Chg) (hok : ChainOk ss cs) : DoesM Tryd.prog 66 [(41, .box 107 [.d (.sl 1 24 (ss.map encS1)), .d (.sl 7 88 (cs.map encC))])] [.ptr 41 0, argC c] (.d (int (addE ss cs c))) [(41, .box 107 [.d (.sl 1 24 ((addS ss cs c).map encS1)), .d (.sl 7 88 ((addC ss cs c).map encC))])] [41] := by
 refine DoesM_of T_ok mixed (N := 45) Tryd.func66 rfl rfl rfl (by rfl) rfl rfl rfl rfl rfl rfl fun F n Z hE hF J V => ?_
 refine CW_seq ?_
 refine CW_region ?_
 refine OW_run' hE.ok 2 rfl ?_
 refine OW_end rfl ?_
 refine CW_seq ?_
 refine CW_seq ?_
 refine CW_region ?_
 refine OW_run' hE.ok 6 rfl ?_
 refine OW_end rfl ?_
 refine CW_cond _ rfl (fun h1 => ?_) (fun h1 => ?_)
 ·
  have a1 : decide ((cs.length : Int) ≥ 20) = true := by have := h1; rw [List.length_map] at this; exact this
  refine CW_seq ?_
  refine CW_region ?_
  refine OW_run' hE.ok 1 rfl ?_
  refine OW_end rfl ?_
  rw [(add_full a1).1, (add_full a1).2.1, (add_full a1).2.2]
  exact CW_ret ⟨.inr rfl, rfl, ⟨_, rfl, AVle.refl _⟩, ⟨rfl, trivial⟩, rfl⟩
 ·
  have a1 : decide ((cs.length : Int) ≥ 20) = false := by have := h1; rw [List.length_map] at this; exact this
  have hl20 : cs.length < 20 := by have := a1; simp at this; omega
  obtain ⟨s, hts, hsr⟩ := hok.at (Nat.le_refl _)
  have hlen := hok.len
  refine CW_skip ?_
  refine CW_seq ?_
  refine CW.le (show LE _ _ ⟨J, (sset (sset noSlots 0 (.ptr 41 0)) 3 (.d (.iptr (encC c)))), (hset (hset noHeap 41 (some (.box 107 [.d (.sl 1 24 (ss.map encS1)), .d (.sl 7 88 (cs.map encC))]))) 99 (some (.ghost [.row 41] V)))⟩ from LE_sh (slh_set (v := .d (.iptr (encC c))) (slh_set (v := .ptr 41 0) (slh_no _ _) (by rfl) rfl) (by rfl) rfl) (hlh_set (hlh_set (hlh_no _ _) rfl rfl) rfl rfl)) ?_
  refine CW_drawnX hE 9 ⟨[1, 7, 8], HAS (hset (hset noHeap 41 (some (.box 107 [.d (.sl 1 24 (ss.map encS1)), .d (.sl 7 88 (cs.map encC))]))) 99 (some (.ghost [.row 41] V))) 7 8 3 (.box 24 [.d (.lit (.slice none 0 0))]) (.box 24 [.d (encS (applyX s c).1)]), []⟩ (by decide +kernel) rfl (has_dep (by simp) (by simp)) (fun q k hm => by cases hm) (LE.refl _ _) ?_
  refine HX_run hE 1 (h0 := (hset (hset noHeap 41 (some (.box 107 [.d (.sl 1 24 (ss.map encS1)), .d (.sl 7 88 (cs.map encC))]))) 99 (some (.ghost [.row 41] V)))) (has_more rfl) rfl rfl rfl ?_
  refine HX_callRA hE (rLastOk ss cs s hlen (by omega) hts) rfl rfl rfl rfl rfl rfl rfl rfl rfl (fun b _ => has_allE rfl b ⟨rfl, trivial⟩) (fun b _ => freshL_own _) rfl (fun b _ => has_other (by decide) (by decide) b) ?_
  refine HX_run hE 1 (h0 := (hset (hset noHeap 41 (some (.box 107 [.d (.sl 1 24 (ss.map encS1)), .d (.sl 7 88 (cs.map encC))]))) 99 (some (.ghost [.row 41] V)))) (has_more rfl) rfl rfl rfl ?_
  refine HX_call hE (refApplyOk s c hsr) rfl rfl rfl rfl rfl rfl rfl rfl rfl rfl ?_
  refine HX_run hE 3 (h0 := (hset (hset noHeap 41 (some (.box 107 [.d (.sl 1 24 (ss.map encS1)), .d (.sl 7 88 (cs.map encC))]))) 99 (some (.ghost [.row 41] V)))) (has_more rfl) rfl rfl rfl ?_
  refine HX_alloc hE (k := 3) rfl rfl rfl rfl rfl rfl rfl rfl rfl (fun b hb => has_free rfl (by kernel_rfl) rfl hb) (fun b hb => has_alloc (by decide) rfl (by kernel_rfl) hb) ?_
  refine HX_store hE rfl rfl rfl rfl rfl rfl rfl rfl (fun b hb => has_at (by kernel_rfl) hb) rfl rfl rfl rfl rfl (fun b hb => has_store (by kernel_rfl) hb) ?_
  refine HX_end ?_
  refine OW_run' hE.ok 1 rfl ?_
  refine OW_end rfl ?_
  refine CW_seq ?_
  refine CW_seq ?_
  refine CW_region ?_
  refine OW_run' hE.ok 2 rfl ?_
  refine OW_end rfl ?_
  refine CW_cond _ rfl (fun h2 => ?_) (fun h2 => ?_)
  ·
   have he : ((applyX s c).2 != 0) = true := h2
   refine CW_seq ?_
   refine CW_region ?_
   refine OW_run' hE.ok 2 rfl ?_
   refine OW_end rfl ?_
   rw [(add_err a1 hts he).1, (add_err a1 hts he).2.1, (add_err a1 hts he).2.2]
   exact CW_ret ⟨.inr rfl, rfl, ⟨_, rfl, AVle.refl _⟩, ⟨rfl, trivial⟩, rfl⟩
  ·
   have he : ((applyX s c).2 != 0) = false := h2
   refine CW_skip ?_
   refine CW_seq ?_
   obtain ⟨W, hW⟩ : ∃ W : Tw, W = (⟨[(3, .box 24 [.d (encS (applyX s c).1)]), (99, .ghost [.row 41] V)], ⟨6, 9, 60, 24, 1, ss.map encS1, [encS1 (applyX s c).1]⟩, ⟨14, 17, 61, 43, 7, cs.map encC, [encC c]⟩, 41, 20, .box 107 [.d (.sl 1 24 (ss.map encS1)), .d (.sl 7 88 (cs.map encC))], .box 107 [.row 60, .d (.sl 7 88 (cs.map encC))]⟩ : Tw) := ⟨_, rfl⟩
   have okW : W.Ok := by rw [hW]; exact ⟨by show (60 : Nat) ≠ 61; decide, by show (60 : Nat) ≠ 41; decide, by show (61 : Nat) ≠ 41; decide, rfl, rfl, rfl, rfl, rfl⟩
   have ndW : W.qs.Nodup := by rw [hW]; show ([6, 9, 14, 17, 20] : List Nat).Nodup; decide
   have moW : ∀ (b : Nat → Bool) j e, heapOf [(3, .box 24 [.d (encS (applyX s c).1)]), (99, .ghost [.row 41] V)] j = some e → W.H b j = some e := by rw [hW]; refine Tw.more (t := (⟨[(3, .box 24 [.d (encS (applyX s c).1)]), (99, .ghost [.row 41] V)], ⟨6, 9, 60, 24, 1, ss.map encS1, [encS1 (applyX s c).1]⟩, ⟨14, 17, 61, 43, 7, cs.map encC, [encC c]⟩, 41, 20, .box 107 [.d (.sl 1 24 (ss.map encS1)), .d (.sl 7 88 (cs.map encC))], .box 107 [.row 60, .d (.sl 7 88 (cs.map encC))]⟩ : Tw)) ?_; show ∀ x ∈ [(3, Ent.box 24 [.d (encS (applyX s c).1)]), (99, Ent.ghost [.row 41] V)], x.1 ≠ 60 ∧ x.1 ≠ 61 ∧ x.1 ≠ 41; simp
   have e0 : W.H (fun _ => false) = (hset (hset (hset noHeap 99 (some (.ghost [.row 41] V))) 3 (some (.box 24 [.d (encS (applyX s c).1)]))) 41 (some (.box 107 [.d (.sl 1 24 (ss.map encS1)), .d (.sl 7 88 (cs.map encC))]))) := by rw [Tw.start okW (by rw [hW]; rfl) (by rw [hW]; rfl), hW]; rfl
   have aW : W.g1 = ⟨6, 9, 60, 24, 1, ss.map encS1, [encS1 (applyX s c).1]⟩ ∧ W.g2 = ⟨14, 17, 61, 43, 7, cs.map encC, [encC c]⟩ ∧ W.kb = 41 ∧ W.q3 = 20 ∧ W.e0 = .box 107 [.d (.sl 1 24 (ss.map encS1)), .d (.sl 7 88 (cs.map encC))] ∧ W.e1 = .box 107 [.row 60, .d (.sl 7 88 (cs.map encC))] := by rw [hW]; exact ⟨rfl, rfl, rfl, rfl, rfl, rfl⟩
   refine CW.le (show LE _ _ ⟨J, (sset (sset (sset noSlots 0 (.ptr 41 0)) 3 (.d (.iptr (encC c)))) 5 (.ptr 3 0)), (hset (hset (hset noHeap 99 (some (.ghost [.row 41] V))) 3 (some (.box 24 [.d (encS (applyX s c).1)]))) 41 (some (.box 107 [.d (.sl 1 24 (ss.map encS1)), .d (.sl 7 88 (cs.map encC))])))⟩ from LE_sh (slh_set (v := .ptr 3 0) (slh_set (v := .d (.iptr (encC c))) (slh_set (v := .ptr 41 0) (slh_no _ _) (by rfl) rfl) (by rfl) rfl) (by rfl) rfl) (hlh_set (hlh_set (hlh_set (hlh_no _ _) rfl rfl) rfl rfl) rfl rfl)) ?_
   subst hW
   have nk60 : ∀ j, nokey 60 ((sset (sset (sset noSlots 0 (.ptr 41 0)) 3 (.d (.iptr (encC c)))) 5 (.ptr 3 0)) j) = true := by repeat (first | exact nokeyS_no _ | refine nokeyS_set ?_ rfl)
   have nk61 : ∀ j, nokey 61 ((sset (sset (sset noSlots 0 (.ptr 41 0)) 3 (.d (.iptr (encC c)))) 5 (.ptr 3 0)) j) = true := by repeat (first | exact nokeyS_no _ | refine nokeyS_set ?_ rfl)
   refine CW_drawnY hE 21 ⟨[6, 9, 14, 17, 20], Tw.H (⟨[(3, .box 24 [.d (encS (applyX s c).1)]), (99, .ghost [.row 41] V)], ⟨6, 9, 60, 24, 1, ss.map encS1, [encS1 (applyX s c).1]⟩, ⟨14, 17, 61, 43, 7, cs.map encC, [encC c]⟩, 41, 20, .box 107 [.d (.sl 1 24 (ss.map encS1)), .d (.sl 7 88 (cs.map encC))], .box 107 [.row 60, .d (.sl 7 88 (cs.map encC))]⟩ : Tw), [(9, 60), (17, 61)], [(9, 29), (17, 37)]⟩ (by decide +kernel) (by kernel_rfl) rfl (fun b b' hb => Tw.dep (hb 6 (by simp)) (hb 9 (by simp)) (hb 14 (by simp)) (hb 17 (by simp)) (hb 20 (by simp))) (fun q k hm _ j _ => by simp at hm; rcases hm with ⟨rfl, rfl⟩ | ⟨rfl, rfl⟩ <;> first | exact nk60 j | exact nk61 j) (LE_eq e0.symm) ?_
   refine HY_run hE 5 (h0 := noHeap) (fun _ => noHeap_no) rfl rfl rfl ?_
   refine HY_loc2 hE rfl rfl rfl (fun b hb => loc_loadBox hE rfl rfl rfl (Tw.atb0 (t := (⟨[(3, .box 24 [.d (encS (applyX s c).1)]), (99, .ghost [.row 41] V)], ⟨6, 9, 60, 24, 1, ss.map encS1, [encS1 (applyX s c).1]⟩, ⟨14, 17, 61, 43, 7, cs.map encC, [encC c]⟩, 41, 20, .box 107 [.d (.sl 1 24 (ss.map encS1)), .d (.sl 7 88 (cs.map encC))], .box 107 [.row 60, .d (.sl 7 88 (cs.map encC))]⟩ : Tw)) (not_yet hb rfl (by kernel_rfl))) rfl) rfl rfl rfl ?_
   refine HY_appendNil hE 60 rfl rfl rfl rfl rfl rfl rfl rfl rfl rfl (.inl rfl) (by simp; omega) (by simp; omega) rfl (fun b hb => (Tw.new1 okW ndW hb rfl (by kernel_rfl)).1) (fun b hb => (Tw.new1 okW ndW hb rfl (by kernel_rfl)).2) ?_
   refine HY_run hE 1 (h0 := heapOf [(3, .box 24 [.d (encS (applyX s c).1)]), (99, .ghost [.row 41] V)]) moW rfl rfl rfl ?_
   refine HY_loc2 hE rfl rfl rfl (fun b hb => loc_lits hE (t := 100) (len := 1) (parts := #[(0, .tmp 30)]) rfl rfl rfl rfl rfl rfl rfl rfl (xs := [encS1 (applyX s c).1]) rfl) rfl rfl rfl ?_
   refine HY_append hE (key := 60) rfl rfl rfl rfl rfl rfl rfl rfl rfl rfl rfl (.inl rfl) (by simp; omega) (by simp; omega) rfl (fun b hb => (Tw.more1 okW ndW hb (by kernel_rfl) rfl (by kernel_rfl)).1) (fun b hb => (Tw.more1 okW ndW hb (by kernel_rfl) rfl (by kernel_rfl)).2) ?_
   refine HY_run hE 3 (h0 := noHeap) (fun _ => noHeap_no) rfl rfl rfl ?_
   refine HY_loc2 hE rfl rfl rfl (fun b hb => by
   rcases Bool.eq_false_or_eq_true (b 20) with hq | hq
   · exact loc_loadBox hE rfl rfl rfl (Tw.atb1 (t := (⟨[(3, .box 24 [.d (encS (applyX s c).1)]), (99, .ghost [.row 41] V)], ⟨6, 9, 60, 24, 1, ss.map encS1, [encS1 (applyX s c).1]⟩, ⟨14, 17, 61, 43, 7, cs.map encC, [encC c]⟩, 41, 20, .box 107 [.d (.sl 1 24 (ss.map encS1)), .d (.sl 7 88 (cs.map encC))], .box 107 [.row 60, .d (.sl 7 88 (cs.map encC))]⟩ : Tw)) hq) rfl
   · exact loc_loadBox hE rfl rfl rfl (Tw.atb0 (t := (⟨[(3, .box 24 [.d (encS (applyX s c).1)]), (99, .ghost [.row 41] V)], ⟨6, 9, 60, 24, 1, ss.map encS1, [encS1 (applyX s c).1]⟩, ⟨14, 17, 61, 43, 7, cs.map encC, [encC c]⟩, 41, 20, .box 107 [.d (.sl 1 24 (ss.map encS1)), .d (.sl 7 88 (cs.map encC))], .box 107 [.row 60, .d (.sl 7 88 (cs.map encC))]⟩ : Tw)) hq) rfl) rfl rfl rfl ?_
   refine HY_appendNil hE 61 rfl rfl rfl rfl rfl rfl rfl rfl rfl rfl (.inl rfl) (by simp; omega) (by simp; omega) rfl (fun b hb => (Tw.new2 okW ndW hb rfl (by kernel_rfl)).1) (fun b hb => (Tw.new2 okW ndW hb rfl (by kernel_rfl)).2) ?_
   refine HY_run hE 1 (h0 := noHeap) (fun _ => noHeap_no) rfl rfl rfl ?_
   refine HY_loc2 hE rfl rfl rfl (fun b hb => loc_lits hE (t := 53) (len := 1) (parts := #[(0, .tmp 38)]) rfl rfl rfl rfl rfl rfl rfl rfl (xs := [encC c]) rfl) rfl rfl rfl ?_
   refine HY_append hE (key := 61) rfl rfl rfl rfl rfl rfl rfl rfl rfl rfl rfl (.inl rfl) (by simp; omega) (by simp; omega) rfl (fun b hb => (Tw.more2 okW ndW hb (by kernel_rfl)).1) (fun b hb => (Tw.more2 okW ndW hb (by kernel_rfl)).2) ?_
   refine HY_run hE 2 (h0 := noHeap) (fun _ => noHeap_no) rfl rfl rfl ?_
   refine HY_store hE rfl rfl rfl rfl rfl rfl rfl rfl (cs := fun _ => [.d (.sl 1 24 (ss.map encS1)), .d (.sl 7 88 (cs.map encC))]) (fun b hb => (Tw.put ndW hb).1) rfl rfl rfl rfl (fun _ => rfl) (fun b hb => (Tw.put ndW hb).2) ?_
   refine HY_end ?_
   refine OW.le (show LE _ _ ⟨J, (sset (sset (sset noSlots 0 (.ptr 41 0)) 24 (.ptr 41 0)) 40 (.row 61)), (hset (hset (hset (hset noHeap 60 (some (.row 24 1 (ss.map encS1 ++ [encS1 (applyX s c).1])))) 61 (some (.row 43 7 (cs.map encC ++ [encC c])))) 41 (some (.box 107 [.row 60, .d (.sl 7 88 (cs.map encC))]))) 99 (some (.ghost [.row 41] V)))⟩ from LE_sh (slh_set (v := .row 61) (slh_set (v := .ptr 41 0) (slh_set (v := .ptr 41 0) (slh_no _ _) (by rfl) rfl) (by rfl) rfl) (by rfl) rfl) (hlh_set (hlh_set (hlh_set (hlh_set (hlh_no _ _) rfl rfl) rfl rfl) rfl rfl) rfl rfl)) ?_
   refine OW_run' hE.ok 2 rfl ?_
   refine OW_store' hE rfl rfl rfl rfl rfl rfl rfl rfl rfl rfl rfl rfl ?_
   refine OW_end rfl ?_
   refine CW_seq ?_
   refine CW.le (LE_freeze 60 24 rfl (by simp <;> omega)) ?_
   refine CW.le (LE_freeze 61 88 rfl (by simp <;> omega)) ?_
   refine CW_region ?_
   refine OW_run' hE.ok 1 rfl ?_
   refine OW_end rfl ?_
   rw [(add_ok a1 hts he).1, (add_ok a1 hts he).2.1, (add_ok a1 hts he).2.2, List.map_append, List.map_append]
   exact CW_ret ⟨.inr rfl, rfl, ⟨_, rfl, AVle.refl _⟩, ⟨rfl, trivial⟩, rfl⟩
end Go.Proofs.YtchpllgeahnmmaaDoor
namespace Go.Proofs.YtchpllgeahnmmaaDoor
open Go Go.AL
set_option linter.unusedVariables false
set_option linter.unusedSimpArgs false
set_option maxHeartbeats 4000000
theorem rAtD (ss : List (List Ty)) (cs : List Chg) (i : Nat) (s : List Ty) (hs : ss[i]? = some s) : Does Tryd.prog 31 [argCh ss cs, .d (int ((i : Nat) : Int))] noHeap (.tup [argS s, .d (boo true)]) := by
 refine Does_of T_ok mixed (N := 25) Tryd.func31 rfl rfl rfl (by rfl) fun F n Z hE hF J => ?_
 have hil := (List.getElem?_eq_some_iff.1 hs).1
 refine CW_seq ?_
 refine CW_region ?_
 refine OW_alloc' hE 1 rfl rfl rfl rfl rfl rfl rfl ?_
 refine OW_run' hE.ok 1 rfl ?_
 refine OW_end rfl ?_
 refine CW_seq ?_
 refine CW_seq ?_
 refine CW_region ?_
 refine OW_run' hE.ok 1 rfl ?_
 refine OW_run' hE.ok 1 rfl ?_
 refine OW_as' 7 (.d (boo false)) (by exact congrArg (fun b => AV.d (boo b)) (by simp)) ?_
 refine OW_run' hE.ok 7 rfl ?_
 refine OW_run' hE.ok 1 rfl ?_
 refine OW_as' 15 (.d (boo false)) (by exact congrArg (fun b => AV.d (boo b)) (by rw [List.length_map]; simp; omega)) ?_
 refine OW_run' hE.ok 1 rfl ?_
 refine OW_end rfl ?_
 refine CW_false rfl ?_
 refine CW_skip ?_
 refine CW_seq ?_
 refine CW_region ?_
 refine OW_run' hE.ok 5 rfl ?_
 refine OW_loc' hE (loc_indexAddr hE rfl rfl rfl rfl rfl (by omega) (x := encS1 s) (by simp [hs])) rfl rfl rfl ?_
 refine OW_run' hE.ok 1 rfl ?_
 refine OW_store' hE rfl rfl rfl rfl rfl rfl rfl rfl rfl rfl rfl rfl ?_
 refine OW_run' hE.ok 1 rfl ?_
 refine OW_end rfl ?_
 refine CW_ret ?_
 refine ⟨.inr rfl, rfl, ⟨_, rfl, rfl, ?_⟩, rfl⟩
 exact AVle.refl _
theorem rNewBad (s : List Ty) (l : List Chg) (hs : isSchema s = false) : Does Tryd.prog 28 [argS s, .d (.sl 7 88 (l.map encC))] noHeap (.tup [(.d (.lit (.pointer none))), .d (int 10)]) := by
 refine Does_of T_ok mixed (N := 33) Tryd.func28 rfl rfl rfl (by rfl) fun F n Z hE hF J => ?_
 refine CW_seq ?_
 refine CW_region ?_
 refine OW_run' hE.ok 3 rfl ?_
 refine OW_end rfl ?_
 refine CW_seq ?_
 refine CW_seq ?_
 refine CW_region ?_
 refine OW_run' hE.ok 1 rfl ?_
 refine OW_call' hE ((by have hq := refIsSOk s; rw [hs] at hq; exact hq)) rfl rfl rfl rfl rfl rfl rfl ?_
 refine OW_run' hE.ok 1 rfl ?_
 refine OW_end rfl ?_
 refine CW_true rfl ?_
 refine CW_seq ?_
 refine CW_region ?_
 refine OW_run' hE.ok 2 rfl ?_
 refine OW_end rfl ?_
 refine CW_ret ?_
 refine ⟨.inr rfl, rfl, ⟨_, rfl, rfl, ?_⟩, rfl⟩
 exact AVle.refl _
theorem rNewErr (s : List Ty) (l : List Chg) (hs : isSchema s = true) (hz : newE s l ≠ 0) : Does Tryd.prog 28 [argS s, .d (.sl 7 88 (l.map encC))] noHeap (.tup [(.d (.lit (.pointer none))), .d (int (newE s l))]) := by
 refine Does_of T_ok mixed (N := 33) Tryd.func28 rfl rfl rfl (by rfl) fun F n Z hE hF J => ?_
 have hsl := right_len hs
 refine CW_know (know_sl (d := 1) rfl) fun hlen => ?_
 rw [List.length_map] at hlen
 refine CW_seq ?_
 refine CW_region ?_
 refine OW_run' hE.ok 3 rfl ?_
 refine OW_end rfl ?_
 refine CW_seq ?_
 refine CW_seq ?_
 refine CW_region ?_
 refine OW_run' hE.ok 1 rfl ?_
 refine OW_call' hE ((by have hq := refIsSOk s; rw [hs] at hq; exact hq)) rfl rfl rfl rfl rfl rfl rfl ?_
 refine OW_run' hE.ok 1 rfl ?_
 refine OW_end rfl ?_
 refine CW_false rfl ?_
 refine CW_skip ?_
 refine CW_seq ?_
 refine CW_region ?_
 refine OW_run' hE.ok 1 rfl ?_
 refine OW_callM' hE (tr []) (refCopiedAll s hs) rfl rfl rfl rfl rfl trivial rfl rfl ?_
 refine OW.le (LE_rowD 50 (xs := s.map encT) rfl (by simp) (rnAs_dd _ _) (enc_two s)) ?_
 refine OW.le (LE_freeze 50 40 rfl (by simp; omega)) ?_
 refine OW_lits' hE rfl rfl rfl rfl rfl rfl rfl rfl rfl rfl rfl rfl ?_
 refine OW_build' hE rfl rfl rfl rfl rfl ?_
 refine OW_box' hE 41 rfl rfl rfl rfl rfl rfl ?_
 refine OW.le (LE_boxLe 41 (cs' := [.d (.sl 1 24 [encS1 s]), .d (.sl 7 88 [])]) rfl (AVles.cons (AVle.refl _) (.cons (AVle.nilSl 7 88) .nil))) ?_
 refine OW_run' hE.ok 1 rfl ?_
 refine OW_end rfl ?_
 refine CW_seq ?_
 refine CW_seq ?_
 refine CW_region ?_
 refine OW_run' hE.ok 1 rfl ?_
 refine OW_end rfl ?_
 refine CW_block ?_
 refine CW_loop (σ := {i : Nat // i ≤ l.length ∧ newX s l i = 0}) (fun i => ⟨J, (sset (sset (sset noSlots 1 (.d (.sl 7 88 (l.map encC)))) 6 (.ptr 41 0)) 7 (.d (int ((i.1 : Nat) : Int)))), (hset noHeap 41 (some (.box 107 [.d (.sl 1 24 ((chF s l (i.1)).1.map encS1)), .d (.sl 7 88 ((chF s l (i.1)).2.map encC))])))⟩) (fun i => l.length - i.1) ⟨0, Nat.zero_le _, rfl⟩ (LE_sh (slh_set (slh_set (slh_set (slh_no _ _) rfl rfl) rfl rfl) rfl rfl) (hlh_set (hlh_no _ _) rfl rfl)) fun ⟨i, hi, hx⟩ => ?_
 refine CW_seq ?_
 refine CW_seq ?_
 refine CW_region ?_
 refine OW_run' hE.ok 4 rfl ?_
 refine OW_end rfl ?_
 refine CW_cond _ rfl (fun h1 => ?_) (fun h1 => ?_)
 ·
  have hlt : i < l.length := by have := h1; rw [List.length_map] at this; simp at this; omega
  obtain ⟨c, hc⟩ : ∃ c, l[i]? = some c := ⟨_, List.getElem?_eq_getElem hlt⟩
  refine CW_skip ?_
  refine CW_seq ?_
  refine CW_block ?_
  refine CW_seq ?_
  refine CW_region ?_
  refine OW_run' hE.ok 3 rfl ?_
  refine OW_loc' hE (loc_indexAddr hE rfl rfl rfl rfl rfl (by omega) (x := encC c) (by simp [hc])) rfl rfl rfl ?_
  refine OW_run' hE.ok 1 rfl ?_
  refine OW_callM' hE (tr []) (rAddOk (chF s l i).1 (chF s l i).2 c (chF_ok hs i)) rfl rfl rfl rfl rfl ⟨rfl, trivial⟩ rfl rfl ?_
  refine OW_run' hE.ok 1 rfl ?_
  refine OW_end rfl ?_
  refine CW_seq ?_
  refine CW_region ?_
  refine OW_run' hE.ok 2 rfl ?_
  refine OW_end rfl ?_
  refine CW_cond _ rfl (fun h2 => ?_) (fun h2 => ?_)
  ·
   have he : (addE (chF s l i).1 (chF s l i).2 c != 0) = true := h2
   refine CW_seq ?_
   refine CW_region ?_
   refine OW_run' hE.ok 3 rfl ?_
   refine OW_end rfl ?_
   refine CW_ret ?_
   refine ⟨.inr rfl, rfl, ⟨_, rfl, rfl, ?_⟩, rfl⟩
   rw [newX_ret hx hc he]
   exact AVle.refl _
  ·
   have he : (addE (chF s l i).1 (chF s l i).2 c != 0) = false := h2
   refine CW_skip ?_
   refine CW_region ?_
   refine OW_run' hE.ok 3 rfl ?_
   refine OW_end rfl ?_
   refine ⟨⟨i + 1, hlt, newX_go hx hc he⟩, LE_sh (slh_set (v := .d (int ((i + 1 : Nat) : Int))) (slh_set (v := .ptr 41 0) (slh_set (v := .d (.sl 7 88 (l.map encC))) (slh_no _ _) (by rfl) rfl) (by rfl) rfl) (by show AV.d (.lit (.int .i64 (IntKind.i64.wrap ((i : Int) + 1)))) = _; rw [wrap_succ (by omega)]; rfl) rfl) (hlh_set (hlh_no _ _) (by exact congrArg (fun z : List (List Ty) × List Chg => some (Ent.box 107 [.d (.sl 1 24 (z.1.map encS1)), .d (.sl 7 88 (z.2.map encC))])) (chF_succ hc).symm) rfl), by show l.length - (i + 1) < l.length - i; omega⟩
 ·
  have hge : i = l.length := by have := h1; rw [List.length_map] at this; simp at this; omega
  refine CW_exit ?_
  show CW _ _ _ _
  refine CW_seq ?_
  refine CW_region ?_
  refine OW_run' hE.ok 3 rfl ?_
  refine OW_end rfl ?_
  exact absurd (show newE s l = 0 by rw [hge] at hx; exact hx) hz
theorem rNewOk (s : List Ty) (l : List Chg) (hs : isSchema s = true) (hz : newE s l = 0) : DoesM Tryd.prog 28 [] [argS s, .d (.sl 7 88 (l.map encC))] (.tup [.ptr 41 0, .d (int 0)]) [(41, .box 107 [.d (.sl 1 24 ((chF s l (l.length)).1.map encS1)), .d (.sl 7 88 ((chF s l (l.length)).2.map encC))])] [] := by
 refine DoesM_of T_ok mixed (N := 33) Tryd.func28 rfl rfl rfl (by rfl) rfl rfl rfl rfl rfl rfl fun F n Z hE hF J V => ?_
 have hsl := right_len hs
 have hall := new_all hz
 refine CW_know (know_sl (d := 1) rfl) fun hlen => ?_
 rw [List.length_map] at hlen
 refine CW_seq ?_
 refine CW_region ?_
 refine OW_run' hE.ok 3 rfl ?_
 refine OW_end rfl ?_
 refine CW_seq ?_
 refine CW_seq ?_
 refine CW_region ?_
 refine OW_run' hE.ok 1 rfl ?_
 refine OW_call' hE ((by have hq := refIsSOk s; rw [hs] at hq; exact hq)) rfl rfl rfl rfl rfl rfl rfl ?_
 refine OW_run' hE.ok 1 rfl ?_
 refine OW_end rfl ?_
 refine CW_false rfl ?_
 refine CW_skip ?_
 refine CW_seq ?_
 refine CW_region ?_
 refine OW_run' hE.ok 1 rfl ?_
 refine OW_callM' hE (tr []) (refCopiedAll s hs) rfl rfl rfl rfl rfl trivial rfl rfl ?_
 refine OW.le (LE_rowD 50 (xs := s.map encT) rfl (by simp) (rnAs_dd _ _) (enc_two s)) ?_
 refine OW.le (LE_freeze 50 40 rfl (by simp; omega)) ?_
 refine OW_lits' hE rfl rfl rfl rfl rfl rfl rfl rfl rfl rfl rfl rfl ?_
 refine OW_build' hE rfl rfl rfl rfl rfl ?_
 refine OW_box' hE 41 rfl rfl rfl rfl rfl rfl ?_
 refine OW.le (LE_boxLe 41 (cs' := [.d (.sl 1 24 [encS1 s]), .d (.sl 7 88 [])]) rfl (AVles.cons (AVle.refl _) (.cons (AVle.nilSl 7 88) .nil))) ?_
 refine OW_run' hE.ok 1 rfl ?_
 refine OW_end rfl ?_
 refine CW_seq ?_
 refine CW_seq ?_
 refine CW_region ?_
 refine OW_run' hE.ok 1 rfl ?_
 refine OW_end rfl ?_
 refine CW_block ?_
 refine CW_loop (σ := {i : Nat // i ≤ l.length}) (fun i => ⟨J, (sset (sset (sset noSlots 1 (.d (.sl 7 88 (l.map encC)))) 6 (.ptr 41 0)) 7 (.d (int ((i.1 : Nat) : Int)))), (hset (hset noHeap 41 (some (.box 107 [.d (.sl 1 24 ((chF s l (i.1)).1.map encS1)), .d (.sl 7 88 ((chF s l (i.1)).2.map encC))]))) 99 (some (.ghost [] V)))⟩) (fun i => l.length - i.1) ⟨0, Nat.zero_le _⟩ (LE_sh (slh_set (slh_set (slh_set (slh_no _ _) rfl rfl) rfl rfl) rfl rfl) (hlh_set (hlh_set (hlh_no _ _) rfl rfl) rfl rfl)) fun ⟨i, hi⟩ => ?_
 refine CW_seq ?_
 refine CW_seq ?_
 refine CW_region ?_
 refine OW_run' hE.ok 4 rfl ?_
 refine OW_end rfl ?_
 refine CW_cond _ rfl (fun h1 => ?_) (fun h1 => ?_)
 ·
  have hlt : i < l.length := by have := h1; rw [List.length_map] at this; simp at this; omega
  obtain ⟨c, hc⟩ : ∃ c, l[i]? = some c := ⟨_, List.getElem?_eq_getElem hlt⟩
  refine CW_skip ?_
  refine CW_seq ?_
  refine CW_block ?_
  refine CW_seq ?_
  refine CW_region ?_
  refine OW_run' hE.ok 3 rfl ?_
  refine OW_loc' hE (loc_indexAddr hE rfl rfl rfl rfl rfl (by omega) (x := encC c) (by simp [hc])) rfl rfl rfl ?_
  refine OW_run' hE.ok 1 rfl ?_
  refine OW_callM' hE (tr []) (rAddOk (chF s l i).1 (chF s l i).2 c (chF_ok hs i)) rfl rfl rfl rfl rfl ⟨rfl, trivial⟩ rfl rfl ?_
  refine OW_run' hE.ok 1 rfl ?_
  refine OW_end rfl ?_
  refine CW_seq ?_
  refine CW_region ?_
  refine OW_run' hE.ok 1 rfl ?_
  refine OW_run' hE.ok 1 rfl ?_
  refine OW_as' 30 (.d (boo false)) (by exact congrArg (fun b => AV.d (boo b)) (show (addE (chF s l i).1 (chF s l i).2 c != 0) = false by rw [hall i c hc]; rfl)) ?_
  refine OW_end rfl ?_
  refine CW_false rfl ?_
  refine CW_skip ?_
  refine CW_region ?_
  refine OW_run' hE.ok 3 rfl ?_
  refine OW_end rfl ?_
  refine ⟨⟨i + 1, hlt⟩, LE_sh (slh_set (v := .d (int ((i + 1 : Nat) : Int))) (slh_set (v := .ptr 41 0) (slh_set (v := .d (.sl 7 88 (l.map encC))) (slh_no _ _) (by rfl) rfl) (by rfl) rfl) (by show AV.d (.lit (.int .i64 (IntKind.i64.wrap ((i : Int) + 1)))) = _; rw [wrap_succ (by omega)]; rfl) rfl) (hlh_set (hlh_set (hlh_no _ _) (by exact congrArg (fun z : List (List Ty) × List Chg => some (Ent.box 107 [.d (.sl 1 24 (z.1.map encS1)), .d (.sl 7 88 (z.2.map encC))])) (chF_succ hc).symm) rfl) rfl rfl), by show l.length - (i + 1) < l.length - i; omega⟩
 ·
  have hge : i = l.length := by have := h1; rw [List.length_map] at this; simp at this; omega
  refine CW_exit ?_
  show CW _ _ _ _
  refine CW_seq ?_
  refine CW_region ?_
  refine OW_run' hE.ok 3 rfl ?_
  refine OW_end rfl ?_
  exact CW_ret ⟨.inr rfl, rfl, ⟨_, rfl, AVle.refl _⟩, ⟨by exact congrArg (fun z => some (Ent.box 107 [.d (.sl 1 24 ((chF s l z).1.map encS1)), .d (.sl 7 88 ((chF s l z).2.map encC))])) hge, trivial⟩, rfl⟩
end Go.Proofs.YtchpllgeahnmmaaDoor
