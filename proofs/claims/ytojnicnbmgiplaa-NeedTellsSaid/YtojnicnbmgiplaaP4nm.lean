/- Parts of an abstract logic over the kit's walks, and walks in it: P4nm. -/
import Derived.Test.YtojnicnbmgiplaaPxa
import Derived.Test.YtojnicnbmgiplaaP4nh
import Derived.Test.YtojnicnbmgiplaaNeed2
import Derived.Test.YtojnicnbmgiplaaAd
namespace Go.Proofs.Ytojnicnbmgiplaa
open Go Go.AL
set_option linter.unusedVariables false
set_option linter.unusedSimpArgs false
set_option maxHeartbeats 4000000
theorem cloneV (l : List Vl) : Does Try.prog 89 [.d (.sl 3 32 (l.map encV))] (oneRow 61 3 (l.map encV)) (.row 0) := by
  refine Does_ofRow T_ok mixed (N := 8) Try.func89 rfl rfl rfl (by rfl) fun F n Z hE hF J => ?_
  refine CW_know (know_sl (d := 0) rfl) fun hlen => ?_
  rw [List.length_map] at hlen
  refine CW_seq ?_
  refine CW_region ?_
  refine OW_run' hE.ok 1 rfl ?_
  refine OW_end rfl ?_
  refine CW_seq ?_
  refine CW_seq ?_
  refine CW_region ?_
  refine OW_run' hE.ok 1 rfl ?_
  refine OW_eqNil' hE rfl rfl rfl rfl rfl rfl rfl rfl (fun b hb => ?_)
  refine OW_end rfl ?_
  refine CW_cond _ rfl (fun h1 => ?_) (fun h1 => ?_)
  · skip
    refine CW_seq ?_
    refine CW_region ?_
    refine OW_run' hE.ok 1 rfl ?_
    refine OW.le (LE_nilSlot 2 7 61 3 rfl rfl) ?_
    refine OW_end rfl ?_
    refine CW_ret ⟨.inr rfl, rfl, 7, rfl, ?_⟩
    rw [hb h1]
    rfl
  · skip
    refine CW_skip ?_
    refine CW_seq ?_
    refine CW_region ?_
    refine OW_litsOwn' hE 7 rfl rfl rfl rfl rfl rfl rfl rfl rfl rfl rfl rfl ?_
    refine OW_run' hE.ok 1 rfl ?_
    refine OW_append' hE (key := 7) rfl rfl rfl rfl rfl rfl rfl rfl (.inl rfl) (by simp; omega) (by simp; omega) rfl ?_
    refine OW_run' hE.ok 1 rfl ?_
    refine OW_end rfl ?_
    exact CW_ret ⟨.inr rfl, rfl, 7, rfl, rfl⟩

theorem copyOk (e : Ev) : Does Try.prog 53 [argE e] (oneRow 61 3 (e.vals.map encV)) (.agg [.d (str e.ty), .d (int e.ts), .row 0]) := by
  refine Does_ofOwn T_ok mixed (N := 8) Try.func53 rfl rfl rfl (by rfl) fun F n Z hE hF J => ?_
  refine CW_seq ?_
  refine CW_region ?_
  refine OW_box' hE 1 rfl rfl rfl rfl rfl rfl ?_
  refine OW_alloc' hE 2 rfl rfl rfl rfl rfl rfl rfl ?_
  refine OW_end rfl ?_
  refine CW_seq ?_
  refine CW_region ?_
  refine OW_run' hE.ok 2 rfl ?_
  refine OW_callRow' hE 7 (cloneV e.vals) rfl rfl rfl rfl rfl rfl rfl ?_
  refine OW_run' hE.ok 1 rfl ?_
  refine OW_store' hE rfl rfl rfl rfl rfl rfl rfl rfl rfl rfl rfl rfl ?_
  refine OW_end rfl ?_
  refine CW_seq ?_
  refine CW_region ?_
  refine OW_run' hE.ok 1 rfl ?_
  refine OW_store' hE rfl rfl rfl rfl rfl rfl rfl rfl rfl rfl rfl rfl ?_
  refine OW_end rfl ?_
  exact CW_ret ⟨.inr rfl, rfl, 7, _, rfl, rfl, AVle.refl _⟩

theorem zeroOk (k : Int) : Does Try.prog 55 [.d (int k)] noHeap (argV (zeroV k)) := by
  refine Does_of T_ok mixed (N := 12) Try.func55 rfl rfl rfl (by rfl) fun F n Z hE hF J => ?_
  refine CW_seq ?_
  refine CW_region ?_
  refine OW_alloc' hE 1 rfl rfl rfl rfl rfl rfl rfl ?_
  refine OW_end rfl ?_
  refine CW_seq ?_
  refine CW_seq ?_
  refine CW_region ?_
  refine OW_run' hE.ok 3 rfl ?_
  refine OW_split' 5 rfl (fun h1 => ?_) (fun h1 => ?_)
  · skip
    refine OW_run' hE.ok 3 rfl ?_
    refine OW_end rfl ?_
    refine CW_true rfl ?_
    refine CW_seq ?_
    refine CW_region ?_
    refine OW_build' hE rfl rfl rfl rfl rfl ?_
    refine OW_store' hE rfl rfl rfl rfl rfl rfl rfl rfl rfl rfl rfl rfl ?_
    refine OW_end rfl ?_
    refine CW_ret ?_
    refine ⟨.inr rfl, rfl, ⟨_, rfl, rfl, ?_⟩, rfl⟩
    rw [zeroV_lo h1]
    exact AVle.refl _
  · skip
    refine OW_run' hE.ok 3 rfl ?_
    refine OW_end rfl ?_
    refine CW_cond _ rfl (fun h2 => ?_) (fun h2 => ?_)
    · skip
      refine CW_seq ?_
      refine CW_region ?_
      refine OW_build' hE rfl rfl rfl rfl rfl ?_
      refine OW_store' hE rfl rfl rfl rfl rfl rfl rfl rfl rfl rfl rfl rfl ?_
      refine OW_end rfl ?_
      refine CW_ret ?_
      refine ⟨.inr rfl, rfl, ⟨_, rfl, rfl, ?_⟩, rfl⟩
      rw [zeroV_hi h1 h2]
      exact AVle.refl _
    · skip
      refine CW_skip ?_
      refine CW_seq ?_
      refine CW_region ?_
      refine OW_run' hE.ok 1 rfl ?_
      refine OW_build' hE rfl rfl rfl rfl rfl ?_
      refine OW_store' hE rfl rfl rfl rfl rfl rfl rfl rfl rfl rfl rfl rfl ?_
      refine OW_end rfl ?_
      refine CW_ret ?_
      refine ⟨.inr rfl, rfl, ⟨_, rfl, rfl, ?_⟩, rfl⟩
      rw [zeroV_in h1 h2]
      exact AVle.refl _

theorem refZeroOk (k : Int) : Does Try.prog 56 [.d (int k)] noHeap (argV (zeroV k)) := by
  refine Does_of T_ok mixed (N := 12) Try.func56 rfl rfl rfl (by rfl) fun F n Z hE hF J => ?_
  refine CW_seq ?_
  refine CW_region ?_
  refine OW_alloc' hE 1 rfl rfl rfl rfl rfl rfl rfl ?_
  refine OW_end rfl ?_
  refine CW_seq ?_
  refine CW_seq ?_
  refine CW_region ?_
  refine OW_run' hE.ok 3 rfl ?_
  refine OW_split' 5 rfl (fun h1 => ?_) (fun h1 => ?_)
  · skip
    refine OW_run' hE.ok 3 rfl ?_
    refine OW_end rfl ?_
    refine CW_true rfl ?_
    refine CW_seq ?_
    refine CW_region ?_
    refine OW_build' hE rfl rfl rfl rfl rfl ?_
    refine OW_store' hE rfl rfl rfl rfl rfl rfl rfl rfl rfl rfl rfl rfl ?_
    refine OW_end rfl ?_
    refine CW_ret ?_
    refine ⟨.inr rfl, rfl, ⟨_, rfl, rfl, ?_⟩, rfl⟩
    rw [zeroV_lo h1]
    exact AVle.refl _
  · skip
    refine OW_run' hE.ok 3 rfl ?_
    refine OW_end rfl ?_
    refine CW_cond _ rfl (fun h2 => ?_) (fun h2 => ?_)
    · skip
      refine CW_seq ?_
      refine CW_region ?_
      refine OW_build' hE rfl rfl rfl rfl rfl ?_
      refine OW_store' hE rfl rfl rfl rfl rfl rfl rfl rfl rfl rfl rfl rfl ?_
      refine OW_end rfl ?_
      refine CW_ret ?_
      refine ⟨.inr rfl, rfl, ⟨_, rfl, rfl, ?_⟩, rfl⟩
      rw [zeroV_hi h1 h2]
      exact AVle.refl _
    · skip
      refine CW_skip ?_
      refine CW_seq ?_
      refine CW_region ?_
      refine OW_run' hE.ok 1 rfl ?_
      refine OW_build' hE rfl rfl rfl rfl rfl ?_
      refine OW_store' hE rfl rfl rfl rfl rfl rfl rfl rfl rfl rfl rfl rfl ?_
      refine OW_end rfl ?_
      refine CW_ret ?_
      refine ⟨.inr rfl, rfl, ⟨_, rfl, rfl, ?_⟩, rfl⟩
      rw [zeroV_in h1 h2]
      exact AVle.refl _

theorem trimOk (s : List Ty) (u : List Us) (e : Ev) : Does Try.prog 19 [argS s, .d (.sl 2 32 (u.map encU)), argE e] noHeap (argE (trimX s u e)) := by
  refine Does_of T_ok mixed (N := 53) Try.func19 rfl rfl rfl (by rfl) fun F n Z hE hF J => ?_
  refine CW_know (know_ev (e := e) (d := 2) rfl) fun hvl => ?_
  refine CW_seq ?_
  refine CW_region ?_
  refine OW_run' hE.ok 2 rfl ?_
  refine OW_alloc' hE 1 rfl rfl rfl rfl rfl rfl rfl ?_
  refine OW_end rfl ?_
  refine CW_seq ?_
  refine CW_region ?_
  refine OW_run' hE.ok 1 rfl ?_
  refine OW_callOwn' hE 77 (copyOk e) rfl rfl rfl rfl rfl rfl rfl ?_
  refine OW_alloc' hE 2 rfl rfl rfl rfl rfl rfl rfl ?_
  refine OW_store' hE rfl rfl rfl rfl rfl rfl rfl rfl rfl rfl rfl rfl ?_
  refine OW_end rfl ?_
  refine CW_seq ?_
  refine CW_region ?_
  refine OW_run' hE.ok 3 rfl ?_
  refine OW_call' hE (findOk s e.ty) rfl rfl rfl rfl rfl rfl rfl ?_
  refine OW_run' hE.ok 3 rfl ?_
  refine OW_alloc' hE 3 rfl rfl rfl rfl rfl rfl rfl ?_
  refine OW_store' hE rfl rfl rfl rfl rfl rfl rfl rfl rfl rfl rfl rfl ?_
  refine OW_run' hE.ok 1 rfl ?_
  refine OW.le (LE_freezeBox 3 (ds := encT (findT s e.ty).1) rfl rfl) ?_
  refine OW_end rfl ?_
  refine CW_seq ?_
  refine CW_seq ?_
  refine CW_region ?_
  refine OW_run' hE.ok 4 rfl ?_
  refine OW_end rfl ?_
  refine CW_block ?_
  refine CW_know (know_sl (d := 22) rfl) fun hlen => ?_
  rw [List.length_map] at hlen
  refine CW_loop (σ := {i : Nat // i ≤ (findT s e.ty).1.fields.length}) (fun i => ⟨J, (sset (sset (sset (sset (sset (sset (sset noSlots 1 (.d (.sl 2 32 (u.map encU)))) 5 (.d (.iptr (encE e)))) 6 (.ptr 1 0)) 7 (.ptr 2 0)) 22 (.d (.sl 2 24 ((findT s e.ty).1.fields.map encF)))) 23 (.d (int (((findT s e.ty).1.fields.length : Nat) : Int)))) 24 (.d (int ((i.1 : Nat) : Int)))), (hset (hset (hset noHeap 1 (some (.box 30 [.d (str nul), .d (int 0), .d (.lit (.slice none 0 0))]))) 2 (some (.box 30 [.d (str e.ty), .d (int e.ts), .row 77]))) 77 (some (.row 61 3 ((trimV u e.ty (findT s e.ty).1.fields i.1 e.vals).map encV))))⟩) (fun i => (findT s e.ty).1.fields.length - i.1) ⟨0, Nat.zero_le _⟩ (LE_sh (slh_set (slh_set (slh_set (slh_set (slh_set (slh_set (slh_set (slh_no _ _) rfl rfl) rfl rfl) rfl rfl) rfl rfl) rfl rfl) (by show AV.d (.lit (.int .i64 (((findT s e.ty).1.fields.map encF).length : Int))) = _; rw [List.length_map]; rfl) rfl) rfl rfl) (hlh_set (hlh_set (hlh_set (hlh_no _ _) rfl rfl) rfl rfl) (congrArg (fun z : List Vl => some (Ent.row 61 3 (z.map encV))) (trimV_zero.symm)) rfl)) fun ⟨i, hi⟩ => ?_
  refine CW_seq ?_
  refine CW_region ?_
  refine OW_run' hE.ok 1 rfl ?_
  refine OW_end rfl ?_
  refine CW_seq ?_
  refine CW_cond _ rfl (fun h1 => ?_) (fun h1 => ?_)
  · skip
    have hlt : i < (findT s e.ty).1.fields.length := by have h9 : ((i : Nat) : Int) < (((findT s e.ty).1.fields.length : Nat) : Int) := of_decide_eq_true h1; omega
    obtain ⟨f, hf⟩ : ∃ f, (findT s e.ty).1.fields[i]? = some f := ⟨_, List.getElem?_eq_getElem hlt⟩
    refine CW_skip ?_
    refine CW_seq ?_
    refine CW_block ?_
    refine CW_seq ?_
    refine CW_region ?_
    refine OW_run' hE.ok 1 rfl ?_
    refine OW_loc' hE (loc_indexAddr hE rfl rfl rfl rfl rfl (by omega) (x := encF f) (by simp [hf])) rfl rfl rfl ?_
    refine OW_run' hE.ok 1 rfl ?_
    refine OW_alloc' hE 4 rfl rfl rfl rfl rfl rfl rfl ?_
    refine OW_run' hE.ok 1 rfl ?_
    refine OW_store' hE rfl rfl rfl rfl rfl rfl rfl rfl rfl rfl rfl rfl ?_
    refine OW.le (LE_freezeBox 4 (ds := encF f) rfl rfl) ?_
    refine OW_end rfl ?_
    refine CW_seq ?_
    refine CW_region ?_
    refine OW_run' hE.ok 6 rfl ?_
    refine OW_split' 34 rfl (fun h2 => ?_) (fun h2 => ?_)
    · skip
      have g1 : i < e.vals.length := by have := h2; rw [List.length_map, trimV_len] at this; simp at this; omega
      refine OW_run' hE.ok 5 rfl ?_
      refine OW_build' hE rfl rfl rfl rfl rfl ?_
      refine OW_call' hE (hasUOk u ⟨e.ty, f.name⟩) rfl rfl rfl rfl rfl rfl rfl ?_
      refine OW_run' hE.ok 2 rfl ?_
      refine OW_end rfl ?_
      refine CW_cond _ rfl (fun h3 => ?_) (fun h3 => ?_)
      · skip
        have g2 : (hasU u ⟨e.ty, f.name⟩) = false := by have h9 : (!(hasU u ⟨e.ty, f.name⟩)) = true := h3; simpa using h9
        refine CW_drawn' hE 6 (by decide +kernel) ?_
        refine HW_run hE 5 rfl rfl ?_
        refine HW_call hE (zeroOk f.kind) rfl rfl rfl rfl rfl rfl rfl rfl ?_
        refine HW_end ?_
        refine OW_loc' hE (loc_idxRow hE rfl rfl rfl rfl rfl (j := i) rfl (by rw [List.length_map, trimV_len]; exact g1)) rfl rfl rfl ?_
        obtain ⟨w, hw⟩ : ∃ w, (trimV u e.ty (findT s e.ty).1.fields i e.vals)[i]? = some w := ⟨_, List.getElem?_eq_getElem (by rw [trimV_len]; exact g1)⟩
        refine OW_storeRow' hE rfl rfl rfl rfl rfl (j := i) (off := 0) rfl (by omega) rfl (x := encV w) (by rw [List.getElem?_map, hw]; rfl) (y := encV (zeroV f.kind)) rfl rfl rfl (by show 0 + 3 ≤ 3; omega) (xs' := ((trimV u e.ty (findT s e.ty).1.fields i e.vals).set i (zeroV f.kind)).map encV) (by rw [List.map_set]; rfl) ?_
        refine OW_end rfl ?_
        refine CW_region ?_
        refine OW_run' hE.ok 2 rfl ?_
        refine OW_end rfl ?_
        refine ⟨⟨i + 1, by omega⟩, LE_sh (slh_set (v := .d (int ((i + 1 : Nat) : Int))) (slh_set (v := .d (int (((findT s e.ty).1.fields.length : Nat) : Int))) (slh_set (v := .d (.sl 2 24 ((findT s e.ty).1.fields.map encF))) (slh_set (v := .ptr 2 0) (slh_set (v := .ptr 1 0) (slh_set (v := .d (.iptr (encE e))) (slh_set (v := .d (.sl 2 32 (u.map encU))) (slh_no _ _) (by rfl) rfl) (by rfl) rfl) (by rfl) rfl) (by rfl) rfl) (by rfl) rfl) (by rfl) rfl) (by show AV.d (.lit (.int .i64 (IntKind.i64.wrap ((i : Int) + 1)))) = _; rw [wrap_succ (by omega)]; rfl) rfl) (hlh_set (hlh_set (hlh_set (hlh_no _ _) rfl rfl) rfl rfl) (by rw [trimV_put hf g1 g2]; rfl) rfl), by show (findT s e.ty).1.fields.length - (i + 1) < (findT s e.ty).1.fields.length - i; omega⟩
      · skip
        have g2 : (hasU u ⟨e.ty, f.name⟩) = true := by have h9 : (!(hasU u ⟨e.ty, f.name⟩)) = false := h3; simpa using h9
        refine CW_skip ?_
        refine CW_region ?_
        refine OW_run' hE.ok 2 rfl ?_
        refine OW_end rfl ?_
        refine ⟨⟨i + 1, by omega⟩, LE_sh (slh_set (v := .d (int ((i + 1 : Nat) : Int))) (slh_set (v := .d (int (((findT s e.ty).1.fields.length : Nat) : Int))) (slh_set (v := .d (.sl 2 24 ((findT s e.ty).1.fields.map encF))) (slh_set (v := .ptr 2 0) (slh_set (v := .ptr 1 0) (slh_set (v := .d (.iptr (encE e))) (slh_set (v := .d (.sl 2 32 (u.map encU))) (slh_no _ _) (by rfl) rfl) (by rfl) rfl) (by rfl) rfl) (by rfl) rfl) (by rfl) rfl) (by rfl) rfl) (by show AV.d (.lit (.int .i64 (IntKind.i64.wrap ((i : Int) + 1)))) = _; rw [wrap_succ (by omega)]; rfl) rfl) (hlh_set (hlh_set (hlh_set (hlh_no _ _) rfl rfl) rfl rfl) (congrArg (fun z : List Vl => some (Ent.row 61 3 (z.map encV))) ((trimV_keep hf fun _ => g2).symm)) rfl), by show (findT s e.ty).1.fields.length - (i + 1) < (findT s e.ty).1.fields.length - i; omega⟩
    · skip
      have g1 : e.vals.length ≤ i := by have := h2; rw [List.length_map, trimV_len] at this; simp at this; omega
      refine OW_run' hE.ok 9 rfl ?_
      refine OW_end rfl ?_
      refine CW_false rfl ?_
      refine CW_skip ?_
      refine CW_region ?_
      refine OW_run' hE.ok 2 rfl ?_
      refine OW_end rfl ?_
      refine ⟨⟨i + 1, by omega⟩, LE_sh (slh_set (v := .d (int ((i + 1 : Nat) : Int))) (slh_set (v := .d (int (((findT s e.ty).1.fields.length : Nat) : Int))) (slh_set (v := .d (.sl 2 24 ((findT s e.ty).1.fields.map encF))) (slh_set (v := .ptr 2 0) (slh_set (v := .ptr 1 0) (slh_set (v := .d (.iptr (encE e))) (slh_set (v := .d (.sl 2 32 (u.map encU))) (slh_no _ _) (by rfl) rfl) (by rfl) rfl) (by rfl) rfl) (by rfl) rfl) (by rfl) rfl) (by rfl) rfl) (by show AV.d (.lit (.int .i64 (IntKind.i64.wrap ((i : Int) + 1)))) = _; rw [wrap_succ (by omega)]; rfl) rfl) (hlh_set (hlh_set (hlh_set (hlh_no _ _) rfl rfl) rfl rfl) (congrArg (fun z : List Vl => some (Ent.row 61 3 (z.map encV))) ((trimV_keep hf fun h => absurd h (by omega)).symm)) rfl), by show (findT s e.ty).1.fields.length - (i + 1) < (findT s e.ty).1.fields.length - i; omega⟩
  · skip
    have hge : i = (findT s e.ty).1.fields.length := by have h9 : ¬ ((i : Nat) : Int) < (((findT s e.ty).1.fields.length : Nat) : Int) := of_decide_eq_false h1; omega
    refine CW_exit ?_
    show CW _ _ _ _
    refine CW_seq ?_
    refine CW.le (show LE _ _ ⟨J, (sset (sset noSlots 6 (.ptr 1 0)) 7 (.ptr 2 0)), (hset (hset (hset noHeap 1 (some (.box 30 [.d (str nul), .d (int 0), .d (.lit (.slice none 0 0))]))) 2 (some (.box 30 [.d (str e.ty), .d (int e.ts), .row 77]))) 77 (some (.row 61 3 ((trimX s u e).vals.map encV))))⟩ from LE_sh (slh_set (v := .ptr 2 0) (slh_set (v := .ptr 1 0) (slh_no _ _) (by rfl) rfl) (by rfl) rfl) (hlh_set (hlh_set (hlh_set (hlh_no _ _) rfl rfl) rfl rfl) (congrArg (fun z : List Vl => some (Ent.row 61 3 (z.map encV))) (by show (trimV u e.ty (findT s e.ty).1.fields i e.vals) = (trimV u e.ty (findT s e.ty).1.fields (findT s e.ty).1.fields.length e.vals); rw [hge])) rfl)) ?_
    skip
    refine CW_region ?_
    refine OW_run' hE.ok 1 rfl ?_
    refine OW_store' hE rfl rfl rfl rfl rfl rfl rfl rfl rfl rfl rfl rfl ?_
    refine OW.le (LE_freeze 77 32 rfl (by rw [List.length_map]; show (trimV _ _ _ _ _).length * 32 ≤ _; rw [trimV_len]; exact hvl.2)) ?_
    refine OW_end rfl ?_
    refine CW_ret ?_
    refine ⟨.inr rfl, rfl, ⟨_, rfl, rfl, ?_⟩, rfl⟩
    exact AVle.refl _
end Go.Proofs.Ytojnicnbmgiplaa
