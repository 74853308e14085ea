/- Parts of an abstract logic over the kit's walks, and walks in it: N2k. -/
import Derived.Test.YthffbfjnahipcaaN2i
import Derived.Test.YthffbfjnahipcaaN2j
import Derived.Test.YthffbfjnahipcaaN2e
namespace Go.Proofs.Ythffbfjnahipcaa
open Go Go.AL
set_option linter.unusedVariables false
set_option linter.unusedSimpArgs false
set_option maxHeartbeats 4000000
theorem refEqualOk (p q : Pat) (hp : p.els.length ≤ 1000) : Does Try.prog 30 [argP p, argP q] noHeap (.d (boo (eqP p q))) := by
  refine Does_of T_ok mixed (N := 64) Try.func30 rfl rfl rfl (by rfl) fun F n Z hE hF J => ?_
  refine CW_seq ?_
  refine CW_region ?_
  refine OW_run' hE.ok 3 rfl ?_
  refine OW_end rfl ?_
  refine CW_seq ?_
  refine CW_seq ?_
  refine CW_region ?_
  refine OW_run' hE.ok 7 rfl ?_
  refine OW_end rfl ?_
  refine CW_cond _ rfl (fun h1 => ?_) (fun h1 => ?_)
  · skip
    have hne : ¬ p.els.length = q.els.length := by have := h1; simp at this; omega
    refine CW_seq ?_
    refine CW_region ?_
    refine OW_run' hE.ok 1 rfl ?_
    refine OW_end rfl ?_
    refine CW_ret ?_
    refine ⟨.inr rfl, rfl, ⟨_, rfl, rfl, ?_⟩, rfl⟩
    exact AVle.of (congrArg (fun b => AV.d (boo b)) (by unfold eqP; rw [decide_eq_false hne]; rfl))
  · skip
    have hll : p.els.length = q.els.length := by have := h1; simp at this; omega
    have hlm : ((p.els.map normL).map (renL (nm p.els q.els))).length = (q.els.map normL).length := by simp; exact hll
    refine CW_skip ?_
    refine CW_seq ?_
    refine CW_drawnG hE 6 [(1, 50, .row 41 11 ((p.els.map normL).map encL)), (4, 61, .box 37 [.d (.lit (.slice none 0 0)), .d (int 0), .d (str nul), .d (boo false)]), (5, 62, .box 37 [.d (.lit (.slice none 0 0)), .d (int 0), .d (str nul), .d (boo false)])] (by decide +kernel) rfl ?_
    refine HG_run hE 1 rfl rfl rfl rfl ?_
    refine HG_own hE (refNormOwn p hp) rfl rfl rfl rfl rfl rfl rfl rfl ?_
    refine HG_run hE 1 rfl rfl rfl rfl ?_
    refine HG_call hE (refNormPOk q (by omega)) rfl rfl rfl rfl rfl rfl rfl rfl rfl ?_
    refine HG_alloc hE rfl rfl rfl rfl rfl rfl rfl rfl ?_
    refine HG_alloc hE rfl rfl rfl rfl rfl rfl rfl rfl ?_
    refine HG_end ?_
    refine OW_store' hE rfl rfl rfl rfl rfl rfl rfl rfl rfl rfl rfl rfl ?_
    refine OW_store' hE rfl rfl rfl rfl rfl rfl rfl rfl rfl rfl rfl rfl ?_
    refine OW_end rfl ?_
    refine CW_seq ?_
    refine CW_seq ?_
    refine CW.le (show LE _ _ ⟨J, (sset (sset (sset (sset noSlots 2 (.d (.iptr (encP p)))) 3 (.d (.iptr (encP q)))) 5 (.ptr 61 0)) 6 (.ptr 62 0)), (hset (hset (hset noHeap 61 (some (.box 37 [.row 50, .d (int p.within), .d (str p.byf), .d (boo p.any)]))) 62 (some (.box 37 ((encP (normP q)).map .d)))) 50 (some (.row 41 11 ((p.els.map normL).map encL))))⟩ from LE_sh (slh_set (v := .ptr 62 0) (slh_set (v := .ptr 61 0) (slh_set (v := .d (.iptr (encP q))) (slh_set (v := .d (.iptr (encP p))) (slh_no _ _) (by rfl) rfl) (by rfl) rfl) (by rfl) rfl) (by rfl) rfl) (hlh_set (hlh_set (hlh_set (hlh_no _ _) rfl rfl) rfl rfl) rfl rfl)) ?_
    refine CW_region ?_
    refine OW_run' hE.ok 1 rfl ?_
    refine OW_end rfl ?_
    refine CW_block ?_
    refine CW_loop (σ := {i : Nat // i ≤ p.els.length}) (fun i => ⟨J, (sset (sset (sset (sset (sset noSlots 2 (.d (.iptr (encP p)))) 3 (.d (.iptr (encP q)))) 5 (.ptr 61 0)) 6 (.ptr 62 0)) 7 (.d (int ((i.1 : Nat) : Int)))), (hset (hset (hset noHeap 61 (some (.box 37 [.row 50, .d (int p.within), .d (str p.byf), .d (boo p.any)]))) 62 (some (.box 37 ((encP (normP q)).map .d)))) 50 (some (.row 41 11 ((partN (renL (nm p.els q.els)) (p.els.map normL) i.1).map encL))))⟩) (fun i => p.els.length - i.1) ⟨0, Nat.zero_le _⟩ (LE_sh (slh_set (slh_set (slh_set (slh_set (slh_set (slh_no _ _) rfl rfl) rfl rfl) rfl rfl) rfl rfl) rfl rfl) (hlh_set (hlh_set (hlh_set (hlh_no _ _) rfl rfl) rfl rfl) rfl rfl)) fun ⟨i, hi⟩ => ?_
    refine CW_seq ?_
    refine CW_seq ?_
    refine CW_region ?_
    refine OW_run' hE.ok 5 rfl ?_
    refine OW_end rfl ?_
    refine CW_cond _ rfl (fun h2 => ?_) (fun h2 => ?_)
    · skip
      have hlt : i < p.els.length := by have := h2; simp [partN_len] at this; omega
      obtain ⟨e, he⟩ : ∃ e, (p.els.map normL)[i]? = some e := ⟨_, List.getElem?_eq_getElem (by simp; exact hlt)⟩
      have hst := partN_set (g := renL (nm p.els q.els)) he
      have hgt := partN_get (g := renL (nm p.els q.els)) he
      have qn := namedOk e.cond p.els q.els
      have hn : renL (nm p.els q.els) e = { e with cond := renX (nm p.els q.els) e.cond } := rfl
      obtain ⟨o3, v3, a3, f3, k3, hN⟩ := Exp.shape (renX (nm p.els q.els) e.cond)
      rw [hN] at qn hn
      rw [hn] at hst
      obtain ⟨y1, y2, y3, y4, y5, y6, y7, y8, y9, rfl⟩ := El.shape e
      refine CW_skip ?_
      refine CW_seq ?_
      refine CW_block ?_
      refine CW_drawn' hE 14 (by decide +kernel) ?_
      refine HW_run hE 6 rfl rfl ?_
      refine HW_loc hE (loc_idxRow hE rfl rfl rfl rfl rfl (j := i) rfl (by simp [partN_len]; omega)) rfl rfl rfl rfl ?_
      refine HW_run hE 1 rfl rfl ?_
      refine HW_loc hE (loc_loadRow hE rfl rfl rfl (j := i) (off := 4) (by omega) rfl (x := encL ⟨y1, y2, y3, y4, .mk y5 y6 y7 y8 y9⟩) (by simp only [List.getElem?_map, hgt, Option.map_some]) (by simp [encL]) rfl) rfl rfl rfl rfl ?_
      refine HW_run hE 4 rfl rfl ?_
      refine HW_call hE (qn) rfl rfl rfl rfl rfl rfl rfl rfl ?_
      refine HW_end ?_
      refine OW_loc' hE (loc_idxRow hE rfl rfl rfl rfl rfl (j := i) rfl (by simp [partN_len]; omega)) rfl rfl rfl ?_
      refine OW_run' hE.ok 1 rfl ?_
      refine OW_storeRow' hE rfl rfl rfl rfl rfl (j := i) (off := 4) rfl (by omega) rfl (x := encL ⟨y1, y2, y3, y4, .mk y5 y6 y7 y8 y9⟩) (by simp only [List.getElem?_map, hgt, Option.map_some]) (y := encX (.mk o3 v3 a3 f3 k3)) rfl rfl rfl (by simp [encX]) (xs' := (partN (renL (nm p.els q.els)) (p.els.map normL) (i + 1)).map encL) (by rw [← hst, List.map_set]; rfl) ?_
      refine OW_end rfl ?_
      refine CW_region ?_
      refine OW_run' hE.ok 3 rfl ?_
      refine OW_end rfl ?_
      exact ⟨⟨i + 1, by omega⟩, LE_sh (slh_set (v := .d (int ((i + 1 : Nat) : Int))) (slh_set (v := .ptr 62 0) (slh_set (v := .ptr 61 0) (slh_set (v := .d (.iptr (encP q))) (slh_set (v := .d (.iptr (encP p))) (slh_no _ _) (by rfl) rfl) (by rfl) rfl) (by rfl) rfl) (by rfl) rfl) (by show AV.d (.lit (.int .i64 (IntKind.i64.wrap ((i : Int) + 1)))) = _; rw [wrap_succ (by omega)]; rfl) rfl) (hlh_set (hlh_set (hlh_set (hlh_no _ _) rfl rfl) rfl rfl) rfl rfl), by show p.els.length - (i + 1) < p.els.length - i; omega⟩
    · skip
      have hge : p.els.length ≤ i := by have := h2; simp [partN_len] at this; omega
      refine CW_exit ?_
      show CW _ _ _ _
      refine CW_seq ?_
      refine CW_seq ?_
      refine CW.le (show LE _ _ ⟨J, (sset (sset (sset (sset noSlots 2 (.d (.iptr (encP p)))) 3 (.d (.iptr (encP q)))) 5 (.ptr 61 0)) 6 (.ptr 62 0)), (hset (hset (hset noHeap 61 (some (.box 37 [.row 50, .d (int p.within), .d (str p.byf), .d (boo p.any)]))) 62 (some (.box 37 ((encP (normP q)).map .d)))) 50 (some (.row 41 11 (((p.els.map normL).map (renL (nm p.els q.els))).map encL))))⟩ from LE_sh (slh_set (v := .ptr 62 0) (slh_set (v := .ptr 61 0) (slh_set (v := .d (.iptr (encP q))) (slh_set (v := .d (.iptr (encP p))) (slh_no _ _) (by rfl) rfl) (by rfl) rfl) (by rfl) rfl) (by rfl) rfl) (hlh_set (hlh_set (hlh_set (hlh_no _ _) rfl rfl) rfl rfl) (congrArg (fun z : List El => some (Ent.row 41 11 (z.map encL))) (partN_all (by rw [List.length_map]; exact hge))) rfl)) ?_
      refine CW_region ?_
      refine OW_run' hE.ok 1 rfl ?_
      refine OW_end rfl ?_
      refine CW_block ?_
      refine CW_loop (σ := {i : Nat // i ≤ p.els.length}) (fun i => ⟨J, (sset (sset (sset (sset (sset noSlots 2 (.d (.iptr (encP p)))) 3 (.d (.iptr (encP q)))) 5 (.ptr 61 0)) 6 (.ptr 62 0)) 8 (.d (int ((i.1 : Nat) : Int)))), (hset (hset (hset noHeap 61 (some (.box 37 [.row 50, .d (int p.within), .d (str p.byf), .d (boo p.any)]))) 62 (some (.box 37 ((encP (normP q)).map .d)))) 50 (some (.row 41 11 ((partZ ((p.els.map normL).map (renL (nm p.els q.els))) (q.els.map normL) i.1).map encL))))⟩) (fun i => p.els.length - i.1) ⟨0, Nat.zero_le _⟩ (LE_sh (slh_set (slh_set (slh_set (slh_set (slh_set (slh_no _ _) rfl rfl) rfl rfl) rfl rfl) rfl rfl) rfl rfl) (hlh_set (hlh_set (hlh_set (hlh_no _ _) rfl rfl) rfl rfl) rfl rfl)) fun ⟨i, hi⟩ => ?_
      refine CW_seq ?_
      refine CW_seq ?_
      refine CW_region ?_
      refine OW_run' hE.ok 5 rfl ?_
      refine OW_end rfl ?_
      refine CW_cond _ rfl (fun h3 => ?_) (fun h3 => ?_)
      · skip
        have hlt : i < p.els.length := by have := h3; simp only [List.length_map, partZ_len hlm] at this; simp at this; omega
        obtain ⟨e, he⟩ : ∃ e, ((p.els.map normL).map (renL (nm p.els q.els)))[i]? = some e := ⟨_, List.getElem?_eq_getElem (by simp; exact hlt)⟩
        obtain ⟨b, hb⟩ : ∃ b, (q.els.map normL)[i]? = some b := ⟨_, List.getElem?_eq_getElem (by simp; omega)⟩
        have hst := partZ_set hlm he hb
        have hgt := partZ_get hlm he
        obtain ⟨y1, y2, y3, y4, y5, y6, y7, y8, y9, rfl⟩ := El.shape e
        refine CW_skip ?_
        refine CW_seq ?_
        refine CW_block ?_
        refine CW_drawn' hE 9 (by decide +kernel) ?_
        refine HW_run hE 6 rfl rfl ?_
        refine HW_loc hE (loc_indexAddr hE rfl rfl rfl rfl rfl (by omega) (x := encL b) (by show (List.map encL (q.els.map normL))[_]? = _; rw [Int.toNat_natCast, List.getElem?_map, hb]; rfl)) rfl rfl rfl rfl ?_
        refine HW_run hE 2 rfl rfl ?_
        refine HW_end ?_
        refine OW_loc' hE (loc_idxRow hE rfl rfl rfl rfl rfl (j := i) rfl (by simp only [List.length_map, partZ_len hlm]; omega)) rfl rfl rfl ?_
        refine OW_run' hE.ok 1 rfl ?_
        refine OW_storeRow' hE rfl rfl rfl rfl rfl (j := i) (off := 0) rfl (by omega) rfl (x := encL ⟨y1, y2, y3, y4, .mk y5 y6 y7 y8 y9⟩) (by rw [List.getElem?_map, hgt]; rfl) (y := [str b.al]) rfl rfl rfl (by simp) (xs' := (partZ ((p.els.map normL).map (renL (nm p.els q.els))) (q.els.map normL) (i + 1)).map encL) (by rw [← hst, List.map_set]; rfl) ?_
        refine OW_end rfl ?_
        refine CW_region ?_
        refine OW_run' hE.ok 3 rfl ?_
        refine OW_end rfl ?_
        exact ⟨⟨i + 1, by omega⟩, LE_sh (slh_set (v := .d (int ((i + 1 : Nat) : Int))) (slh_set (v := .ptr 62 0) (slh_set (v := .ptr 61 0) (slh_set (v := .d (.iptr (encP q))) (slh_set (v := .d (.iptr (encP p))) (slh_no _ _) (by rfl) rfl) (by rfl) rfl) (by rfl) rfl) (by rfl) rfl) (by show AV.d (.lit (.int .i64 (IntKind.i64.wrap ((i : Int) + 1)))) = _; rw [wrap_succ (by omega)]; rfl) rfl) (hlh_set (hlh_set (hlh_set (hlh_no _ _) rfl rfl) rfl rfl) rfl rfl), by show p.els.length - (i + 1) < p.els.length - i; omega⟩
      · skip
        have hgz : p.els.length ≤ i := by have := h3; simp only [List.length_map, partZ_len hlm] at this; simp at this; omega
        refine CW_exit ?_
        show CW _ _ _ _
        refine CW_seq ?_
        refine CW.le (show LE _ _ ⟨J, (sset (sset (sset (sset noSlots 2 (.d (.iptr (encP p)))) 3 (.d (.iptr (encP q)))) 5 (.ptr 61 0)) 6 (.ptr 62 0)), (hset (hset (hset noHeap 61 (some (.box 37 [.row 50, .d (int p.within), .d (str p.byf), .d (boo p.any)]))) 62 (some (.box 37 ((encP (normP q)).map .d)))) 50 (some (.row 41 11 ((List.zipWith callAs ((p.els.map normL).map (renL (nm p.els q.els))) (q.els.map normL)).map encL))))⟩ from LE_sh (slh_set (v := .ptr 62 0) (slh_set (v := .ptr 61 0) (slh_set (v := .d (.iptr (encP q))) (slh_set (v := .d (.iptr (encP p))) (slh_no _ _) (by rfl) rfl) (by rfl) rfl) (by rfl) rfl) (by rfl) rfl) (hlh_set (hlh_set (hlh_set (hlh_no _ _) rfl rfl) rfl rfl) (congrArg (fun z : List El => some (Ent.row 41 11 (z.map encL))) (partZ_all hlm (by simp; exact hgz))) rfl)) ?_
        refine CW.le (LE_freeze 50 144 rfl (by simp; omega)) ?_
        refine CW_region ?_
        refine OW_run' hE.ok 2 rfl ?_
        refine OW_call' hE (refSamePOk (asP p q) (normP q)) rfl rfl rfl rfl rfl rfl rfl ?_
        refine OW_run' hE.ok 1 rfl ?_
        refine OW_end rfl ?_
        refine CW_ret ?_
        refine ⟨.inr rfl, rfl, ⟨_, rfl, rfl, ?_⟩, rfl⟩
        exact AVle.of (congrArg (fun b => AV.d (boo b)) (by unfold eqP; rw [decide_eq_true hll]; rfl))
end Go.Proofs.Ythffbfjnahipcaa
