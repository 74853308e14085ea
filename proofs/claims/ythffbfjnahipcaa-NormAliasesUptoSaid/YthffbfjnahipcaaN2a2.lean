/- Parts of an abstract logic over the kit's walks, and walks in it: N2a2. -/
import Derived.Test.YthffbfjnahipcaaN2p
import Derived.Test.YthffbfjnahipcaaNrm3
namespace Go.Proofs.Ythffbfjnahipcaa
open Go Go.AL
set_option linter.unusedVariables false
set_option linter.unusedSimpArgs false
set_option maxHeartbeats 4000000
theorem normAliasesOk (p : Pat) (at1 ch1 : UInt8) (hp : ∀ e ∈ p.els, (nodesX e.cond 1).length ≤ 1048576) : Does Try.prog 10 [argP p, .d (.lit (.int .u8 (at1.toNat : Int))), .d (.lit (.int .u8 (ch1.toNat : Int)))] noHeap (.d (boo true)) := by
  refine Does_of T_ok mixed (N := 117) Try.func10 rfl rfl rfl (by rfl) fun F n Z hE hF J => ?_
  refine CW_seq ?_
  refine CW_region ?_
  refine OW_run' hE.ok 2 rfl ?_
  refine OW_end rfl ?_
  refine CW_seq ?_
  refine CW_seq ?_
  refine CW_region ?_
  refine OW_call' hE (known12) rfl rfl rfl rfl rfl rfl rfl ?_
  refine OW_run' hE.ok 1 rfl ?_
  refine OW_end rfl ?_
  refine CW_false rfl ?_
  refine CW_skip ?_
  refine CW_seq ?_
  refine CW_seq ?_
  refine CW_region ?_
  refine OW_run' hE.ok 1 rfl ?_
  refine OW_call' hE (wideOk p hp) rfl rfl rfl rfl rfl rfl rfl ?_
  refine OW_run' hE.ok 1 rfl ?_
  refine OW_split' 14 rfl (fun h1 => ?_) (fun h1 => ?_)
  · skip
    refine OW_run' hE.ok 4 rfl ?_
    refine OW_end rfl ?_
    refine CW_true rfl ?_
    refine CW_seq ?_
    refine CW_region ?_
    refine OW_run' hE.ok 1 rfl ?_
    refine OW_end rfl ?_
    refine CW_ret ?_
    refine ⟨.inr rfl, rfl, ⟨[.d (boo true)], rfl, rfl, ?_⟩, rfl⟩
    exact AVle.refl _
  · skip
    refine OW_run' hE.ok 1 rfl ?_
    refine OW_call' hE (refIsPatOk p) rfl rfl rfl rfl rfl rfl rfl ?_
    refine OW_run' hE.ok 2 rfl ?_
    refine OW_end rfl ?_
    refine CW_cond _ rfl (fun h2 => ?_) (fun h2 => ?_)
    · skip
      refine CW_seq ?_
      refine CW_region ?_
      refine OW_run' hE.ok 1 rfl ?_
      refine OW_end rfl ?_
      refine CW_ret ?_
      refine ⟨.inr rfl, rfl, ⟨[.d (boo true)], rfl, rfl, ?_⟩, rfl⟩
      exact AVle.refl _
    · skip
      have hip : isPat p = true := by simpa using h2
      obtain ⟨hn1, hn5, hw0, hw1⟩ := isPat_len hip
      have hat := at1.toNat_lt
      obtain ⟨k, hk⟩ : ∃ k, at1.toNat % p.els.length = k := ⟨_, rfl⟩
      have hkl : k < p.els.length := by rw [← hk]; exact Nat.mod_lt _ (by omega)
      obtain ⟨ek, hek⟩ : ∃ e, p.els[k]? = some e := ⟨_, List.getElem?_eq_getElem hkl⟩
      obtain ⟨c, hc⟩ : ∃ c, ch1.toNat % 4 = c := ⟨_, rfl⟩
      have hc4 : c < 4 := by omega
      refine CW_skip ?_
      refine CW_seq ?_
      refine CW_region ?_
      refine OW_run' hE.ok 1 rfl ?_
      refine OW_alloc' hE 1 rfl rfl rfl rfl rfl rfl rfl ?_
      refine OW_store' hE rfl rfl rfl rfl rfl rfl rfl rfl rfl rfl rfl rfl ?_
      refine OW_end rfl ?_
      refine CW_seq ?_
      refine CW_region ?_
      refine OW_run' hE.ok 2 rfl ?_
      refine OW_appendNil' hE 50 rfl rfl rfl rfl rfl rfl rfl rfl (.inl rfl) (by simp; omega) (by simp; omega) rfl ?_
      refine OW_run' hE.ok 1 rfl ?_
      refine OW_store' hE rfl rfl rfl rfl rfl rfl rfl rfl rfl rfl rfl rfl ?_
      refine OW_end rfl ?_
      refine CW_seq ?_
      refine CW_region ?_
      refine OW_run' hE.ok 5 rfl ?_
      refine OW_as' 25 (.d (int ((at1.toNat : Nat) : Int))) (by show AV.d (.lit (.int .i64 (IntKind.i64.wrap ((at1.toNat : Nat) : Int)))) = _; rw [wrapN (by omega)]; rfl) ?_
      refine OW_as' 28 (.d (int ((p.els.length : Nat) : Int))) (by show AV.d (.lit (.int .i64 (((p.els.map encL).length : Nat) : Int))) = _; rw [List.length_map]; rfl) ?_
      refine OW_loc' hE (loc_rem hE rfl rfl rfl (by omega)) rfl rfl rfl ?_
      refine OW_as' 29 (.d (int ((k : Nat) : Int))) (by rw [← hk]; rfl) ?_
      refine OW_run' hE.ok 1 rfl ?_
      refine OW_end rfl ?_
      refine CW_seq ?_
      refine CW_seq ?_
      refine CW_region ?_
      refine OW_run' hE.ok 1 rfl ?_
      refine OW_end rfl ?_
      refine CW_block ?_
      refine CW_loop (σ := {i : Nat // i ≤ p.els.length ∧ ∀ (j : Nat) (e : El), j < i → p.els[j]? = some e → same e.al frB = false ∧ namesX e.cond frB = false}) (fun i => ⟨J, (sset (sset (sset (sset (sset noSlots 2 (.d (.lit (.int .u8 (ch1.toNat : Int))))) 3 (.d (.iptr (encP p)))) 7 (.ptr 1 0)) 8 (.d (int ((k : Nat) : Int)))) 9 (.d (int ((i.1 : Nat) : Int)))), (hset (hset noHeap 1 (some (.box 37 [.row 50, .d (int p.within), .d (str p.byf), .d (boo p.any)]))) 50 (some (.row 41 11 ((partN (renL (re1 ek.al frB)) p.els i.1).map encL))))⟩) (fun i => p.els.length - i.1) ⟨0, Nat.zero_le _, fun j e hj => by omega⟩ (LE_sh (slh_set (slh_set (slh_set (slh_set (slh_set (slh_no _ _) rfl rfl) rfl rfl) rfl rfl) rfl rfl) rfl rfl) (hlh_set (hlh_set (hlh_no _ _) rfl rfl) rfl rfl)) fun ⟨i, hi, hf⟩ => ?_
      refine CW_seq ?_
      refine CW_seq ?_
      refine CW_region ?_
      refine OW_run' hE.ok 5 rfl ?_
      refine OW_end rfl ?_
      refine CW_cond _ rfl (fun h3 => ?_) (fun h3 => ?_)
      · skip
        have hlt : i < p.els.length := by have := h3; simp only [List.length_map, partN_len] at this; simp at this; omega
        obtain ⟨e, he⟩ : ∃ e, p.els[i]? = some e := ⟨_, List.getElem?_eq_getElem hlt⟩
        have hst := partN_set (g := renL (re1 ek.al frB)) he
        have hgt := partN_get (g := renL (re1 ek.al frB)) he
        have hdn := partN_done (g := renL (re1 ek.al frB)) he
        have qn := renOk12 e.cond ek.al frB
        have qm := namesOk e.cond frB (hp e (List.mem_of_getElem? he))
        have hn : renL (re1 ek.al frB) e = { e with cond := renX (re1 ek.al frB) e.cond } := rfl
        obtain ⟨o3, v3, a3, f3, k3, hN⟩ := Exp.shape (renX (re1 ek.al frB) e.cond)
        rw [hN] at qn hn
        rw [hn] at hst hdn
        obtain ⟨y1, y2, y3, y4, y5, y6, y7, y8, y9, rfl⟩ := El.shape e
        refine CW_skip ?_
        refine CW_seq ?_
        refine CW_block ?_
        refine CW_seq ?_
        refine CW_drawn' hE 16 (by decide +kernel) ?_
        refine HW_run hE 6 rfl rfl ?_
        refine HW_loc hE (loc_idxRow hE rfl rfl rfl rfl rfl (j := i) rfl (by rw [List.length_map, partN_len]; omega)) rfl rfl rfl rfl ?_
        refine HW_run hE 1 rfl rfl ?_
        refine HW_loc hE (loc_loadRow hE rfl rfl rfl (j := i) (off := 4) (by omega) rfl (x := encL ⟨y1, y2, y3, y4, .mk y5 y6 y7 y8 y9⟩) (by rw [List.getElem?_map, hgt]; rfl) (by simp [encL]) rfl) rfl rfl rfl rfl ?_
        refine HW_run hE 3 rfl rfl ?_
        refine HW_loc hE (loc_indexAddr hE rfl rfl rfl rfl rfl (by omega) (x := encL ek) (by simp [hek])) rfl rfl rfl rfl ?_
        refine HW_run hE 2 rfl rfl ?_
        refine HW_call hE (qn) rfl rfl rfl rfl rfl rfl rfl rfl ?_
        refine HW_end ?_
        refine OW_loc' hE (loc_idxRow hE rfl rfl rfl rfl rfl (j := i) rfl (by rw [List.length_map, partN_len]; omega)) rfl rfl rfl ?_
        refine OW_run' hE.ok 1 rfl ?_
        refine OW_storeRow' hE rfl rfl rfl rfl rfl (j := i) (off := 4) rfl (by omega) rfl (x := encL ⟨y1, y2, y3, y4, .mk y5 y6 y7 y8 y9⟩) (by rw [List.getElem?_map, hgt]; rfl) (y := encX (.mk o3 v3 a3 f3 k3)) rfl rfl rfl (by simp [encX]) (xs' := (partN (renL (re1 ek.al frB)) p.els (i + 1)).map encL) (by rw [← hst, List.map_set]; rfl) ?_
        refine OW_end rfl ?_
        refine CW_seq ?_
        refine CW_seq ?_
        refine CW_region ?_
        refine OW_run' hE.ok 3 rfl ?_
        refine OW_loc' hE (loc_idxRow hE rfl rfl rfl rfl rfl (j := i) rfl (by rw [List.length_map, partN_len]; omega)) rfl rfl rfl ?_
        refine OW_run' hE.ok 1 rfl ?_
        refine OW_loc' hE (loc_loadRow hE rfl rfl rfl (j := i) (off := 0) (by omega) rfl (x := encL ⟨y1, y2, y3, y4, (.mk o3 v3 a3 f3 k3)⟩) (by rw [List.getElem?_map, hdn]; rfl) (Nat.zero_le _) rfl) rfl rfl rfl ?_
        refine OW_run' hE.ok 1 rfl ?_
        refine OW_end rfl ?_
        refine CW_cond _ rfl (fun h4 => ?_) (fun h4 => ?_)
        · skip
          refine CW_seq ?_
          refine CW_region ?_
          refine OW_run' hE.ok 1 rfl ?_
          refine OW_end rfl ?_
          refine CW_ret ?_
          refine ⟨.inr rfl, rfl, ⟨[.d (boo true)], rfl, rfl, ?_⟩, rfl⟩
          exact AVle.refl _
        · skip
          have f1 : same y1 frB = false := h4
          refine CW_skip ?_
          refine CW_seq ?_
          refine CW_region ?_
          refine OW_run' hE.ok 3 rfl ?_
          refine OW_loc' hE (loc_indexAddr hE rfl rfl rfl rfl rfl (by omega) (x := encL ⟨y1, y2, y3, y4, .mk y5 y6 y7 y8 y9⟩) (by simp [he])) rfl rfl rfl ?_
          refine OW_run' hE.ok 2 rfl ?_
          refine OW_call' hE (qm) rfl rfl rfl rfl rfl rfl rfl ?_
          refine OW_end rfl ?_
          refine CW_cond _ rfl (fun h5 => ?_) (fun h5 => ?_)
          · skip
            refine CW_seq ?_
            refine CW_region ?_
            refine OW_run' hE.ok 1 rfl ?_
            refine OW_end rfl ?_
            refine CW_ret ?_
            refine ⟨.inr rfl, rfl, ⟨[.d (boo true)], rfl, rfl, ?_⟩, rfl⟩
            exact AVle.refl _
          · skip
            have f2 : namesX (.mk y5 y6 y7 y8 y9) frB = false := h5
            refine CW_skip ?_
            refine CW_region ?_
            refine OW_run' hE.ok 3 rfl ?_
            refine OW_end rfl ?_
            refine ⟨⟨i + 1, by omega, fun j x hj hx => ?_⟩, LE_sh (slh_set (v := .d (int ((i + 1 : Nat) : Int))) (slh_set (v := .d (int ((k : Nat) : Int))) (slh_set (v := .ptr 1 0) (slh_set (v := .d (.iptr (encP p))) (slh_set (v := .d (.lit (.int .u8 (ch1.toNat : Int)))) (slh_no _ _) (by rfl) rfl) (by rfl) rfl) (by rfl) rfl) (by rfl) rfl) (by show AV.d (.lit (.int .i64 (IntKind.i64.wrap ((i : Int) + 1)))) = _; rw [wrap_succ (by omega)]; rfl) rfl) (hlh_set (hlh_set (hlh_no _ _) rfl rfl) rfl rfl), by show p.els.length - (i + 1) < p.els.length - i; omega⟩
            by_cases hji : j = i
            · subst hji; rw [he] at hx; cases hx; exact ⟨f1, f2⟩
            · exact hf j x (by omega) hx
      · skip
        have hge : p.els.length ≤ i := by have := h3; simp only [List.length_map, partN_len] at this; simp at this; omega
        have hfa : ∀ (j : Nat) (e : El), p.els[j]? = some e → same e.al frB = false ∧ namesX e.cond frB = false := fun j e he => hf j e (by have := (List.getElem?_eq_some_iff.1 he).1; omega) he
        obtain ⟨q1, q2⟩ := na_eq hip hek hfa hc4
        refine CW_exit ?_
        show CW _ _ _ _
        refine CW_seq ?_
        refine CW.le (show LE _ _ ⟨J, (sset (sset (sset (sset noSlots 2 (.d (.lit (.int .u8 (ch1.toNat : Int))))) 3 (.d (.iptr (encP p)))) 7 (.ptr 1 0)) 8 (.d (int ((k : Nat) : Int)))), (hset (hset noHeap 1 (some (.box 37 [.row 50, .d (int p.within), .d (str p.byf), .d (boo p.any)]))) 50 (some (.row 41 11 ((p.els.map (renL (re1 ek.al frB))).map encL))))⟩ from LE_sh (slh_set (v := .d (int ((k : Nat) : Int))) (slh_set (v := .ptr 1 0) (slh_set (v := .d (.iptr (encP p))) (slh_set (v := .d (.lit (.int .u8 (ch1.toNat : Int)))) (slh_no _ _) (by rfl) rfl) (by rfl) rfl) (by rfl) rfl) (by rfl) rfl) (hlh_set (hlh_set (hlh_no _ _) rfl rfl) (congrArg (fun z : List El => some (Ent.row 41 11 (z.map encL))) (partN_all hge)) rfl)) ?_
        refine CW_region ?_
        refine OW_run' hE.ok 3 rfl ?_
        refine OW_loc' hE (loc_idxRow hE rfl rfl rfl rfl rfl (j := k) rfl (by simp only [List.length_map]; omega)) rfl rfl rfl ?_
        refine OW_run' hE.ok 1 rfl ?_
        refine OW_storeRow' hE rfl rfl rfl rfl rfl (j := k) (off := 0) rfl (by omega) rfl (x := encL (renL (re1 ek.al frB) ek)) (by simp only [List.getElem?_map, hek, Option.map_some]) (y := [str frB]) rfl rfl rfl (by simp) (xs' := (naEls p k ek.al).map encL) (by unfold naEls newAl; simp only [List.getElem?_map, hek, Option.map_some]; rw [List.map_set]; rfl) ?_
        refine OW_end rfl ?_
        refine CW_cutE (fun _ : Unit => ⟨J, (sset (sset (sset noSlots 2 (.d (.lit (.int .u8 (ch1.toNat : Int))))) 3 (.d (.iptr (encP p)))) 7 (.ptr 1 0)), (hset (hset noHeap 1 (some (.box 37 [.row 50, .d (int (naP p k ek.al c).within), .d (str (naP p k ek.al c).byf), .d (boo (naP p k ek.al c).any)]))) 50 (some (.row 41 11 (((naP p k ek.al c).els).map encL))))⟩) (fun _ => True) ?_ ?_
        · skip
          refine CW_seq ?_
          refine CW_region ?_
          refine OW_run' hE.ok 2 rfl ?_
          refine OW_as' 75 (.d (.lit (.int .u8 ((c : Nat) : Int)))) (by show AV.d (.lit (.int .u8 ((ch1.toNat % 4 : Nat) : Int))) = _; rw [hc]) ?_
          refine OW_end rfl ?_
          refine CW_block ?_
          refine CW_seq ?_
          refine CW_region ?_
          refine OW_run' hE.ok 2 rfl ?_
          refine OW_end rfl ?_
          refine CW_cond _ rfl (fun h6 => ?_) (fun h6 => ?_)
          · skip
            have hc : c = 1 := by have := h6; simp at this; omega
            subst hc
            refine CW_region ?_
            refine OW_run' hE.ok 4 rfl ?_
            refine OW_store' hE rfl rfl rfl rfl rfl rfl rfl rfl rfl rfl rfl rfl ?_
            refine OW_end rfl ?_
            exact ⟨(), trivial, LE_sh (slh_set (v := .ptr 1 0) (slh_set (v := .d (.iptr (encP p))) (slh_set (v := .d (.lit (.int .u8 (ch1.toNat : Int)))) (slh_no _ _) (by rfl) rfl) (by rfl) rfl) (by rfl) rfl) (hlh_set (hlh_set (hlh_no _ _) rfl rfl) rfl rfl)⟩
          · skip
            have z1 : c ≠ 1 := by have := h6; simp at this; omega
            refine CW_seq ?_
            refine CW_region ?_
            refine OW_run' hE.ok 2 rfl ?_
            refine OW_end rfl ?_
            refine CW_cond _ rfl (fun h7 => ?_) (fun h7 => ?_)
            · skip
              have hc : c = 2 := by have := h7; simp at this; omega
              subst hc
              refine CW_region ?_
              refine OW_run' hE.ok 3 rfl ?_
              refine OW_as' 86 (.d (int (p.within + 1))) (by show AV.d (.lit (.int .i64 (IntKind.i64.wrap (p.within + 1)))) = _; rw [wrap_id _ _ (by have : IntKind.i64.min = -9223372036854775808 := rfl; omega) (by have : IntKind.i64.max = 9223372036854775807 := rfl; omega)]; rfl) ?_
              refine OW_run' hE.ok 1 rfl ?_
              refine OW_run' hE.ok 1 rfl ?_
              refine OW_store' hE rfl rfl rfl rfl rfl rfl rfl rfl rfl rfl rfl rfl ?_
              refine OW_end rfl ?_
              exact ⟨(), trivial, LE_sh (slh_set (v := .ptr 1 0) (slh_set (v := .d (.iptr (encP p))) (slh_set (v := .d (.lit (.int .u8 (ch1.toNat : Int)))) (slh_no _ _) (by rfl) rfl) (by rfl) rfl) (by rfl) rfl) (hlh_set (hlh_set (hlh_no _ _) rfl rfl) rfl rfl)⟩
            · skip
              have z2 : c ≠ 2 := by have := h7; simp at this; omega
              refine CW_seq ?_
              refine CW_region ?_
              refine OW_run' hE.ok 2 rfl ?_
              refine OW_end rfl ?_
              refine CW_cond _ rfl (fun h8 => ?_) (fun h8 => ?_)
              · skip
                have hc : c = 3 := by have := h8; simp at this; omega
                subst hc
                obtain ⟨z0, hz0⟩ : ∃ z, (naEls p k ek.al)[0]? = some z := ⟨_, List.getElem?_eq_getElem (by rw [naEls_len]; omega)⟩
                refine CW_drawn' hE 8 (by decide +kernel) ?_
                refine HW_run hE 4 rfl rfl ?_
                refine HW_loc hE (loc_idxRow hE rfl rfl rfl rfl rfl (j := 0) rfl (by rw [List.length_map, naEls_len]; omega)) rfl rfl rfl rfl ?_
                refine HW_run hE 1 rfl rfl ?_
                refine HW_loc hE (loc_loadRow hE rfl rfl rfl (j := 0) (off := 2) (by omega) rfl (x := encL z0) (by rw [List.getElem?_map, hz0]; rfl) (by simp [encL]) rfl) rfl rfl rfl rfl ?_
                refine HW_run hE 1 rfl rfl ?_
                refine HW_end ?_
                refine OW_loc' hE (loc_idxRow hE rfl rfl rfl rfl rfl (j := 0) rfl (by rw [List.length_map, naEls_len]; omega)) rfl rfl rfl ?_
                refine OW_run' hE.ok 1 rfl ?_
                refine OW_storeRow' hE rfl rfl rfl rfl rfl (j := 0) (off := 2) rfl (by omega) rfl (x := encL z0) (by rw [List.getElem?_map, hz0]; rfl) (y := [boo (!z0.plus)]) rfl rfl rfl (by simp) (xs' := (flip0 (naEls p k ek.al)).map encL) (by unfold flip0; rw [hz0, List.map_set]; rfl) ?_
                refine OW_end rfl ?_
                exact ⟨(), trivial, LE_sh (slh_set (v := .ptr 1 0) (slh_set (v := .d (.iptr (encP p))) (slh_set (v := .d (.lit (.int .u8 (ch1.toNat : Int)))) (slh_no _ _) (by rfl) rfl) (by rfl) rfl) (by rfl) rfl) (hlh_set (hlh_set (hlh_no _ _) rfl rfl) rfl rfl)⟩
              · skip
                have z3 : c ≠ 3 := by have := h8; simp at this; omega
                have hc : c = 0 := by omega
                subst hc
                refine CW_skip ?_
                exact ⟨(), trivial, LE_sh (slh_set (v := .ptr 1 0) (slh_set (v := .d (.iptr (encP p))) (slh_set (v := .d (.lit (.int .u8 (ch1.toNat : Int)))) (slh_no _ _) (by rfl) rfl) (by rfl) rfl) (by rfl) rfl) (hlh_set (hlh_set (hlh_no _ _) rfl rfl) rfl rfl)⟩
        · skip
          rintro _ _
          have hnl : (naP p k ek.al c).els.length = p.els.length := by unfold naP; cases (c == 1) <;> cases (c == 2) <;> cases (c == 3) <;> simp [flip0_len, naEls_len]
          have k1 := equalOk p (naP p k ek.al c) (by omega)
          have k2 := equalOk (naP p k ek.al c) p (by omega)
          rw [q1] at k1
          rw [q2] at k2
          refine CW.le (LE_freeze 50 144 rfl (by rw [List.length_map]; omega)) ?_
          refine CW_seq ?_
          refine CW_region ?_
          refine OW_run' hE.ok 2 rfl ?_
          refine OW_call' hE (k1) rfl rfl rfl rfl rfl rfl rfl ?_
          refine OW_run' hE.ok 2 rfl ?_
          refine OW_as' 105 (.d (.lit (.int .u8 ((c : Nat) : Int)))) (by show AV.d (.lit (.int .u8 ((ch1.toNat % 4 : Nat) : Int))) = _; rw [hc]) ?_
          refine OW_run' hE.ok 1 rfl ?_
          refine OW_as' 106 (.d (boo (c == 0))) (by refine congrArg (fun b => AV.d (boo b)) ?_; show (((c : Nat) : Int) == 0) = (c == 0); rw [Bool.eq_iff_iff]; simp) ?_
          refine OW_run' hE.ok 1 rfl ?_
          refine OW_as' 107 (.d (boo true)) (by refine congrArg (fun b => AV.d (boo b)) ?_; simp) ?_
          refine OW_run' hE.ok 3 rfl ?_
          refine OW_call' hE (k2) rfl rfl rfl rfl rfl rfl rfl ?_
          refine OW_run' hE.ok 2 rfl ?_
          refine OW_as' 113 (.d (.lit (.int .u8 ((c : Nat) : Int)))) (by show AV.d (.lit (.int .u8 ((ch1.toNat % 4 : Nat) : Int))) = _; rw [hc]) ?_
          refine OW_run' hE.ok 1 rfl ?_
          refine OW_as' 114 (.d (boo (c == 0))) (by refine congrArg (fun b => AV.d (boo b)) ?_; show (((c : Nat) : Int) == 0) = (c == 0); rw [Bool.eq_iff_iff]; simp) ?_
          refine OW_run' hE.ok 1 rfl ?_
          refine OW_as' 115 (.d (boo true)) (by refine congrArg (fun b => AV.d (boo b)) ?_; simp) ?_
          refine OW_run' hE.ok 2 rfl ?_
          refine OW_end rfl ?_
          refine CW_ret ?_
          refine ⟨.inr rfl, rfl, ⟨[.d (boo true)], rfl, rfl, ?_⟩, rfl⟩
          exact AVle.refl _
end Go.Proofs.Ythffbfjnahipcaa
