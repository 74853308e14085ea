/- Parts of an abstract logic over the kit's walks, and walks in it: D8so. -/
import Derived.Test.YtjiknbjkbakegaaDoorD8y
import Derived.Test.YtjiknbjkbakegaaDoorD8w
import Derived.Test.YtjiknbjkbakegaaDoorD8e
import Derived.Test.YtjiknbjkbakegaaDoorDif3
namespace Go.Proofs.YtjiknbjkbakegaaDoor
open Go Go.AL
set_option linter.unusedVariables false
set_option linter.unusedSimpArgs false
set_option maxHeartbeats 4000000
theorem diffOneOk (p : Pat) (w1 at1 : UInt8) (hp : ∀ e ∈ p.els, (nodesX e.cond 1).length ≤ 1048576) : Does Tryd.prog 5 [argP p, .d (.lit (.int .u8 (w1.toNat : Int))), .d (.lit (.int .u8 (at1.toNat : Int)))] noHeap (.d (boo true)) := by
  refine Does_of T_ok mixed (N := 137) Tryd.func5 rfl rfl rfl (by rfl) fun F n Z hE hF J => ?_
  have hb9 : ∀ e ∈ p.els, (nodesX e.cond 1).length ≤ 1048576 := hp
  refine CW_seq ?_
  refine CW_region ?_
  refine OW_run' hE.ok 2 rfl ?_
  refine OW_end rfl ?_
  refine CW_seq ?_
  refine CW_seq ?_
  refine CW_region ?_
  refine OW_call' hE (known19) rfl rfl rfl rfl rfl rfl rfl ?_
  refine OW_run' hE.ok 1 rfl ?_
  refine OW_end rfl ?_
  refine CW_false rfl ?_
  refine CW_skip ?_
  refine CW_seq ?_
  refine CW_seq ?_
  refine CW_region ?_
  refine OW_run' hE.ok 1 rfl ?_
  refine OW_call' hE (wideOk p hp) rfl rfl rfl rfl rfl rfl rfl ?_
  refine OW_run' hE.ok 1 rfl ?_
  refine OW_split' 15 rfl (fun h1 => ?_) (fun h1 => ?_)
  · skip
    refine OW_run' hE.ok 4 rfl ?_
    refine OW_end rfl ?_
    refine CW_true rfl ?_
    refine CW_seq ?_
    refine CW_region ?_
    refine OW_run' hE.ok 1 rfl ?_
    refine OW_end rfl ?_
    refine CW_ret ?_
    refine ⟨.inr rfl, rfl, ⟨[.d (boo true)], rfl, rfl, ?_⟩, rfl⟩
    exact AVle.refl _
  · skip
    refine OW_run' hE.ok 1 rfl ?_
    refine OW_call' hE (refIsPatOk p) rfl rfl rfl rfl rfl rfl rfl ?_
    refine OW_run' hE.ok 2 rfl ?_
    refine OW_end rfl ?_
    refine CW_cond _ rfl (fun h2 => ?_) (fun h2 => ?_)
    · skip
      refine CW_seq ?_
      refine CW_region ?_
      refine OW_run' hE.ok 1 rfl ?_
      refine OW_end rfl ?_
      refine CW_ret ?_
      refine ⟨.inr rfl, rfl, ⟨[.d (boo true)], rfl, rfl, ?_⟩, rfl⟩
      exact AVle.refl _
    · skip
      have ip : isPat p = true := by have h0 : (!isPat p) = false := h2; simpa using h0
      obtain ⟨ip1, ip2, ip3, ip4⟩ := isPat_len ip
      have ipb := isPat_by ip
      have ha1 := at1.toNat_lt
      have hw1 := w1.toNat_lt
      obtain ⟨k, hk⟩ : ∃ k, at1.toNat % p.els.length = k := ⟨_, rfl⟩
      have hkl : k < p.els.length := by rw [← hk]; exact Nat.mod_lt _ (by omega)
      obtain ⟨c, hc0⟩ : ∃ c, w1.toNat % 9 + 1 = c := ⟨_, rfl⟩
      have hc1 : 1 ≤ c := by omega
      have hc9 : c ≤ 9 := by omega
      obtain ⟨x, hkx⟩ : ∃ x, p.els[k]? = some x := ⟨_, List.getElem?_eq_getElem hkl⟩
      have ips := isPat_small ip hkx
      have c6 := refNormEOk x.cond
      obtain ⟨o3, v3, a3, f3, k3, hN⟩ := Exp.shape (normE x.cond)
      rw [hN] at c6
      have c7 := refSameXOk (.mk o3 v3 a3 f3 k3) oneX
      obtain ⟨y1, y2, y3, y4, y5, y6, y7, y8, y9, rfl⟩ := El.shape x
      refine CW_skip ?_
      refine CW_seq ?_
      refine CW_region ?_
      refine OW_run' hE.ok 1 rfl ?_
      refine OW_alloc' hE 1 rfl rfl rfl rfl rfl rfl rfl ?_
      refine OW_store' hE rfl rfl rfl rfl rfl rfl rfl rfl rfl rfl rfl rfl ?_
      refine OW_end rfl ?_
      refine CW_seq ?_
      refine CW_region ?_
      refine OW_run' hE.ok 2 rfl ?_
      refine OW_appendNil' hE 50 rfl rfl rfl rfl rfl rfl rfl rfl (.inl rfl) (by simp; omega) (by simp; omega) rfl ?_
      refine OW_run' hE.ok 1 rfl ?_
      refine OW_store' hE rfl rfl rfl rfl rfl rfl rfl rfl rfl rfl rfl rfl ?_
      refine OW_end rfl ?_
      refine CW_seq ?_
      refine CW_region ?_
      refine OW_run' hE.ok 5 rfl ?_
      refine OW_as' 26 (.d (int ((at1.toNat : Nat) : Int))) (by show AV.d (.lit (.int .i64 (IntKind.i64.wrap ((at1.toNat : Nat) : Int)))) = _; rw [wrapN (by omega)]; rfl) ?_
      refine OW_as' 29 (.d (int ((p.els.length : Nat) : Int))) (by show AV.d (.lit (.int .i64 ((p.els.map encL).length : Int))) = _; rw [List.length_map]; rfl) ?_
      refine OW_loc' hE (loc_rem hE rfl rfl rfl (by omega)) rfl rfl rfl ?_
      refine OW_as' 30 (.d (int ((k : Nat) : Int))) (by rw [← hk]; rfl) ?_
      refine OW_run' hE.ok 1 rfl ?_
      refine OW_end rfl ?_
      refine CW_seq ?_
      refine CW_region ?_
      refine OW_run' hE.ok 4 rfl ?_
      refine OW_as' 34 (.d (int ((c : Nat) : Int))) (by show AV.d (.lit (.int .i64 (IntKind.i64.wrap (IntKind.i64.wrap ((w1.toNat % 9 : Nat) : Int) + 1)))) = _; rw [wrapN (by omega), wrap_succ (by omega), hc0]; rfl) ?_
      refine OW_build' hE rfl rfl rfl rfl rfl ?_
      refine OW_alloc' hE 2 rfl rfl rfl rfl rfl rfl rfl ?_
      refine OW_store' hE rfl rfl rfl rfl rfl rfl rfl rfl rfl rfl rfl rfl ?_
      refine OW_end rfl ?_
      refine CW_cutE (fun _ : Unit => ⟨J, (sset (sset (sset noSlots 3 (.d (.iptr (encP p)))) 7 (.ptr 1 0)) 9 (.ptr 2 0)), (hset (hset noHeap 1 (some (.box 24 ((encP (oneP p c k ⟨y1, y2, y3, y4, .mk y5 y6 y7 y8 y9⟩)).map .d)))) 2 (some (.box 26 ((encDl (⟨((c : Nat) : Int), bif decide (5 ≤ c) then ((k : Nat) : Int) else 0⟩ : Dl)).map .d))))⟩) (fun _ => c = 9 → sameX (normE (Exp.mk y5 y6 y7 y8 y9)) oneX = false) ?_ ?_
      · skip
        refine CW_seq ?_
        refine CW.le (show LE _ _ ⟨J, (sset (sset (sset (sset noSlots 3 (.d (.iptr (encP p)))) 7 (.ptr 1 0)) 8 (.d (int ((k : Nat) : Int)))) 9 (.ptr 2 0)), (hset (hset (hset noHeap 1 (some (.box 24 [.row 50, .d (int p.within), .d (str p.byf), .d (boo p.any)]))) 2 (some (.box 26 [.d (int ((c : Nat) : Int)), .d (int 0)]))) 50 (some (.row 43 11 (p.els.map encL))))⟩ from LE_sh (slh_set (slh_set (slh_set (slh_set (slh_no _ _) rfl rfl) rfl rfl) rfl rfl) rfl rfl) (hlh_set (hlh_set (hlh_set (hlh_no _ _) rfl rfl) rfl rfl) rfl rfl)) ?_
        refine CW_region ?_
        refine OW_run' hE.ok 2 rfl ?_
        refine OW_end rfl ?_
        refine CW_block ?_
        refine CW_seq ?_
        refine CW_region ?_
        refine OW_run' hE.ok 2 rfl ?_
        refine OW_end rfl ?_
        refine CW_cond _ rfl (fun h3 => ?_) (fun h3 => ?_)
        · skip
          have h0 : (((c : Nat) : Int) == 1) = true := h3
          obtain rfl : c = 1 := by have := eq_of_beq h0; omega
          refine CW_region ?_
          refine OW_run' hE.ok 3 rfl ?_
          refine OW_as' 94 (.d (int (p.within + 1))) (by show AV.d (.lit (.int .i64 (IntKind.i64.wrap (p.within + 1)))) = _; rw [wrap_id _ _ (by have : IntKind.i64.min = -9223372036854775808 := rfl; omega) (by have : IntKind.i64.max = 9223372036854775807 := rfl; omega)]; rfl) ?_
          refine OW_run' hE.ok 1 rfl ?_
          refine OW_store' hE rfl rfl rfl rfl rfl rfl rfl rfl rfl rfl rfl rfl ?_
          refine OW_end rfl ?_
          refine ⟨(), fun h => absurd h (by decide), ?_⟩
          refine LE.trans (LE_freeze 50 144 rfl (by simp; omega)) ?_
          exact LE_sh (slh_set (slh_set (slh_set (slh_no _ _) rfl rfl) rfl rfl) rfl rfl) (hlh_set (hlh_set (hlh_no _ _) rfl rfl) rfl rfl)
        · skip
          have h1n : c ≠ 1 := by have h0 : (((c : Nat) : Int) == 1) = false := h3; intro e; subst e; simp at h0
          refine CW_seq ?_
          refine CW_region ?_
          refine OW_run' hE.ok 2 rfl ?_
          refine OW_end rfl ?_
          refine CW_cond _ rfl (fun h4 => ?_) (fun h4 => ?_)
          · skip
            have h0 : (((c : Nat) : Int) == 2) = true := h4
            obtain rfl : c = 2 := by have := eq_of_beq h0; omega
            refine CW_region ?_
            refine OW_run' hE.ok 2 rfl ?_
            refine OW_loc' hE (loc_concat hE rfl rfl rfl (by show p.byf.size + 1 ≤ _; omega)) rfl rfl rfl ?_
            refine OW_run' hE.ok 1 rfl ?_
            refine OW_store' hE rfl rfl rfl rfl rfl rfl rfl rfl rfl rfl rfl rfl ?_
            refine OW_end rfl ?_
            refine ⟨(), fun h => absurd h (by decide), ?_⟩
            refine LE.trans (LE_freeze 50 144 rfl (by simp; omega)) ?_
            exact LE_sh (slh_set (slh_set (slh_set (slh_no _ _) rfl rfl) rfl rfl) rfl rfl) (hlh_set (hlh_set (hlh_no _ _) rfl rfl) rfl rfl)
          · skip
            have h2n : c ≠ 2 := by have h0 : (((c : Nat) : Int) == 2) = false := h4; intro e; subst e; simp at h0
            refine CW_seq ?_
            refine CW_region ?_
            refine OW_run' hE.ok 2 rfl ?_
            refine OW_end rfl ?_
            refine CW_cond _ rfl (fun h5 => ?_) (fun h5 => ?_)
            · skip
              have h0 : (((c : Nat) : Int) == 3) = true := h5
              obtain rfl : c = 3 := by have := eq_of_beq h0; omega
              refine CW_region ?_
              refine OW_run' hE.ok 4 rfl ?_
              refine OW_store' hE rfl rfl rfl rfl rfl rfl rfl rfl rfl rfl rfl rfl ?_
              refine OW_end rfl ?_
              refine ⟨(), fun h => absurd h (by decide), ?_⟩
              refine LE.trans (LE_freeze 50 144 rfl (by simp; omega)) ?_
              exact LE_sh (slh_set (slh_set (slh_set (slh_no _ _) rfl rfl) rfl rfl) rfl rfl) (hlh_set (hlh_set (hlh_no _ _) rfl rfl) rfl rfl)
            · skip
              have h3n : c ≠ 3 := by have h0 : (((c : Nat) : Int) == 3) = false := h5; intro e; subst e; simp at h0
              refine CW_seq ?_
              refine CW_region ?_
              refine OW_run' hE.ok 2 rfl ?_
              refine OW_end rfl ?_
              refine CW_cond _ rfl (fun h6 => ?_) (fun h6 => ?_)
              · skip
                have h0 : (((c : Nat) : Int) == 4) = true := h6
                obtain rfl : c = 4 := by have := eq_of_beq h0; omega
                refine CW_region ?_
                refine OW_run' hE.ok 2 rfl ?_
                refine OW_build' hE rfl rfl rfl rfl rfl ?_
                refine OW.le (LE_slot 112 (argL moreL) (AVle.agg (.cons (.refl _) (.cons (.nilSl 1 16) (.cons (.refl _) (.cons (.refl _) (.cons (.refl _) (.cons (.refl _) (.cons (.refl _) (.cons (.refl _) (.cons (.refl _) (.cons (.refl _) (.cons (.nilSl 7 96) .nil))))))))))))) ?_
                refine OW_lits' hE rfl rfl rfl rfl rfl rfl rfl rfl rfl rfl rfl rfl ?_
                refine OW_append' hE (key := 50) rfl rfl rfl rfl rfl rfl rfl rfl (.inl rfl) (by simp; omega) (by simp; omega) rfl ?_
                refine OW_run' hE.ok 1 rfl ?_
                refine OW_store' hE rfl rfl rfl rfl rfl rfl rfl rfl rfl rfl rfl rfl ?_
                refine OW_end rfl ?_
                refine ⟨(), fun h => absurd h (by decide), ?_⟩
                refine LE.trans (LE_freeze 50 144 rfl (by simp; omega)) ?_
                exact LE_sh (slh_set (slh_set (slh_set (slh_no _ _) rfl rfl) rfl rfl) rfl rfl) (hlh_set (hlh_set (hlh_no _ _) (congrArg (fun z => some (Ent.box 24 [.d (.sl 11 144 z), .d (int p.within), .d (str p.byf), .d (boo p.any)])) (show p.els.map encL ++ [encL moreL] = (p.els ++ [moreL]).map encL by simp)) rfl) rfl rfl)
              · skip
                have h4n : c ≠ 4 := by have h0 : (((c : Nat) : Int) == 4) = false := h6; intro e; subst e; simp at h0
                refine CW_seq ?_
                refine CW_region ?_
                refine OW_run' hE.ok 2 rfl ?_
                refine OW_store' hE rfl rfl rfl rfl rfl rfl rfl rfl rfl rfl rfl rfl ?_
                refine OW_end rfl ?_
                refine CW_seq ?_
                refine CW_region ?_
                refine OW_run' hE.ok 3 rfl ?_
                refine OW_loc' hE (loc_idxRow hE rfl rfl rfl rfl rfl (j := k) rfl (by simp; omega)) rfl rfl rfl ?_
                refine OW_loc' hE (loc_loadRow hE rfl rfl rfl (j := k) (off := 0) (by omega) rfl (x := encL ⟨y1, y2, y3, y4, .mk y5 y6 y7 y8 y9⟩) (by simp [hkx]) (Nat.zero_le _) rfl) rfl rfl rfl ?_
                refine OW_alloc' hE 3 rfl rfl rfl rfl rfl rfl rfl ?_
                refine OW_store' hE rfl rfl rfl rfl rfl rfl rfl rfl rfl rfl rfl rfl ?_
                refine OW_end rfl ?_
                refine CW_seq ?_
                refine CW_seq ?_
                refine CW_region ?_
                refine OW_run' hE.ok 2 rfl ?_
                refine OW_end rfl ?_
                refine CW_block ?_
                refine CW_seq ?_
                refine CW_region ?_
                refine OW_run' hE.ok 2 rfl ?_
                refine OW_end rfl ?_
                refine CW_cond _ rfl (fun h7 => ?_) (fun h7 => ?_)
                · skip
                  have h0 : (((c : Nat) : Int) == 5) = true := h7
                  obtain rfl : c = 5 := by have := eq_of_beq h0; omega
                  refine CW_region ?_
                  refine OW_run' hE.ok 2 rfl ?_
                  refine OW_loc' hE (loc_concat hE rfl rfl rfl (by show y1.size + 1 ≤ _; have := ips.1; dsimp only at this; omega)) rfl rfl rfl ?_
                  refine OW_run' hE.ok 1 rfl ?_
                  refine OW_store' hE rfl rfl rfl rfl rfl rfl rfl rfl rfl rfl rfl rfl ?_
                  refine OW_end rfl ?_
                  refine CW_region ?_
                  refine OW_run' hE.ok 4 rfl ?_
                  refine OW_as' 88 (argL (oneL 5 ⟨y1, y2, y3, y4, .mk y5 y6 y7 y8 y9⟩)) (by first | rfl | (show AV.agg [.d (str y1), .d (.sl 1 16 (y2.map encB ++ [encB kZz])), .d (boo y3), .d (boo y4), .d (int y5), .d (int y6.k), .d (int y6.n), .d (str y6.s), .d (str y7), .d (str y8), .d (.sl 7 96 (encXs y9))] = _; rw [show y2.map encB ++ [encB kZz] = (y2 ++ [kZz]).map encB by simp]; rfl)) ?_
                  refine OW_loc' hE (loc_idxRow hE rfl rfl rfl rfl rfl (j := k) rfl (by simp; omega)) rfl rfl rfl ?_
                  refine OW_storeRow' hE rfl rfl rfl rfl rfl (j := k) (off := 0) rfl (by omega) rfl (x := encL ⟨y1, y2, y3, y4, .mk y5 y6 y7 y8 y9⟩) (by simp [hkx]) (y := encL (oneL 5 ⟨y1, y2, y3, y4, .mk y5 y6 y7 y8 y9⟩)) rfl rfl rfl (Nat.le_refl 11) (xs' := (p.els.set k (oneL 5 ⟨y1, y2, y3, y4, .mk y5 y6 y7 y8 y9⟩)).map encL) (by rw [List.map_set]; rfl) ?_
                  refine OW_end rfl ?_
                  refine ⟨(), fun h => absurd h (by decide), ?_⟩
                  refine LE.trans (LE_freeze 50 144 rfl (by simp; omega)) ?_
                  exact LE_sh (slh_set (slh_set (slh_set (slh_no _ _) rfl rfl) rfl rfl) rfl rfl) (hlh_set (hlh_set (hlh_no _ _) rfl rfl) rfl rfl)
                · skip
                  have h5n : c ≠ 5 := by have h0 : (((c : Nat) : Int) == 5) = false := h7; intro e; subst e; simp at h0
                  refine CW_seq ?_
                  refine CW_region ?_
                  refine OW_run' hE.ok 2 rfl ?_
                  refine OW_end rfl ?_
                  refine CW_cond _ rfl (fun h8 => ?_) (fun h8 => ?_)
                  · skip
                    have h0 : (((c : Nat) : Int) == 6) = true := h8
                    obtain rfl : c = 6 := by have := eq_of_beq h0; omega
                    refine CW_region ?_
                    refine OW_run' hE.ok 2 rfl ?_
                    have ipt : y2.length ≤ 3 := ips.2
                    refine OW_appendNil' hE 51 rfl rfl rfl rfl rfl rfl rfl rfl (.inl rfl) (by simp; omega) (by simp; omega) rfl ?_
                    refine OW_lits' hE rfl rfl rfl rfl rfl rfl rfl rfl rfl rfl rfl rfl ?_
                    refine OW_append' hE (key := 51) rfl rfl rfl rfl rfl rfl rfl rfl (.inl rfl) (by simp; omega) (by simp; omega) rfl ?_
                    refine OW_run' hE.ok 1 rfl ?_
                    refine OW_store' hE rfl rfl rfl rfl rfl rfl rfl rfl rfl rfl rfl rfl ?_
                    refine OW.le (LE_freeze 51 16 rfl (by simp; omega)) ?_
                    refine OW_end rfl ?_
                    refine CW_region ?_
                    refine OW_run' hE.ok 4 rfl ?_
                    refine OW_as' 88 (argL (oneL 6 ⟨y1, y2, y3, y4, .mk y5 y6 y7 y8 y9⟩)) (by first | rfl | (show AV.agg [.d (str y1), .d (.sl 1 16 (y2.map encB ++ [encB kZz])), .d (boo y3), .d (boo y4), .d (int y5), .d (int y6.k), .d (int y6.n), .d (str y6.s), .d (str y7), .d (str y8), .d (.sl 7 96 (encXs y9))] = _; rw [show y2.map encB ++ [encB kZz] = (y2 ++ [kZz]).map encB by simp]; rfl)) ?_
                    refine OW_loc' hE (loc_idxRow hE rfl rfl rfl rfl rfl (j := k) rfl (by simp; omega)) rfl rfl rfl ?_
                    refine OW_storeRow' hE rfl rfl rfl rfl rfl (j := k) (off := 0) rfl (by omega) rfl (x := encL ⟨y1, y2, y3, y4, .mk y5 y6 y7 y8 y9⟩) (by simp [hkx]) (y := encL (oneL 6 ⟨y1, y2, y3, y4, .mk y5 y6 y7 y8 y9⟩)) rfl rfl rfl (Nat.le_refl 11) (xs' := (p.els.set k (oneL 6 ⟨y1, y2, y3, y4, .mk y5 y6 y7 y8 y9⟩)).map encL) (by rw [List.map_set]; rfl) ?_
                    refine OW_end rfl ?_
                    refine ⟨(), fun h => absurd h (by decide), ?_⟩
                    refine LE.trans (LE_freeze 50 144 rfl (by simp; omega)) ?_
                    exact LE_sh (slh_set (slh_set (slh_set (slh_no _ _) rfl rfl) rfl rfl) rfl rfl) (hlh_set (hlh_set (hlh_no _ _) rfl rfl) rfl rfl)
                  · skip
                    have h6n : c ≠ 6 := by have h0 : (((c : Nat) : Int) == 6) = false := h8; intro e; subst e; simp at h0
                    refine CW_seq ?_
                    refine CW_region ?_
                    refine OW_run' hE.ok 2 rfl ?_
                    refine OW_end rfl ?_
                    refine CW_cond _ rfl (fun h9 => ?_) (fun h9 => ?_)
                    · skip
                      have h0 : (((c : Nat) : Int) == 7) = true := h9
                      obtain rfl : c = 7 := by have := eq_of_beq h0; omega
                      refine CW_region ?_
                      refine OW_run' hE.ok 4 rfl ?_
                      refine OW_store' hE rfl rfl rfl rfl rfl rfl rfl rfl rfl rfl rfl rfl ?_
                      refine OW_end rfl ?_
                      refine CW_region ?_
                      refine OW_run' hE.ok 4 rfl ?_
                      refine OW_as' 88 (argL (oneL 7 ⟨y1, y2, y3, y4, .mk y5 y6 y7 y8 y9⟩)) (by first | rfl | (show AV.agg [.d (str y1), .d (.sl 1 16 (y2.map encB ++ [encB kZz])), .d (boo y3), .d (boo y4), .d (int y5), .d (int y6.k), .d (int y6.n), .d (str y6.s), .d (str y7), .d (str y8), .d (.sl 7 96 (encXs y9))] = _; rw [show y2.map encB ++ [encB kZz] = (y2 ++ [kZz]).map encB by simp]; rfl)) ?_
                      refine OW_loc' hE (loc_idxRow hE rfl rfl rfl rfl rfl (j := k) rfl (by simp; omega)) rfl rfl rfl ?_
                      refine OW_storeRow' hE rfl rfl rfl rfl rfl (j := k) (off := 0) rfl (by omega) rfl (x := encL ⟨y1, y2, y3, y4, .mk y5 y6 y7 y8 y9⟩) (by simp [hkx]) (y := encL (oneL 7 ⟨y1, y2, y3, y4, .mk y5 y6 y7 y8 y9⟩)) rfl rfl rfl (Nat.le_refl 11) (xs' := (p.els.set k (oneL 7 ⟨y1, y2, y3, y4, .mk y5 y6 y7 y8 y9⟩)).map encL) (by rw [List.map_set]; rfl) ?_
                      refine OW_end rfl ?_
                      refine ⟨(), fun h => absurd h (by decide), ?_⟩
                      refine LE.trans (LE_freeze 50 144 rfl (by simp; omega)) ?_
                      exact LE_sh (slh_set (slh_set (slh_set (slh_no _ _) rfl rfl) rfl rfl) rfl rfl) (hlh_set (hlh_set (hlh_no _ _) rfl rfl) rfl rfl)
                    · skip
                      have h7n : c ≠ 7 := by have h0 : (((c : Nat) : Int) == 7) = false := h9; intro e; subst e; simp at h0
                      refine CW_seq ?_
                      refine CW_region ?_
                      refine OW_run' hE.ok 2 rfl ?_
                      refine OW_end rfl ?_
                      refine CW_cond _ rfl (fun h10 => ?_) (fun h10 => ?_)
                      · skip
                        have h0 : (((c : Nat) : Int) == 8) = true := h10
                        obtain rfl : c = 8 := by have := eq_of_beq h0; omega
                        refine CW_region ?_
                        refine OW_run' hE.ok 4 rfl ?_
                        refine OW_store' hE rfl rfl rfl rfl rfl rfl rfl rfl rfl rfl rfl rfl ?_
                        refine OW_end rfl ?_
                        refine CW_region ?_
                        refine OW_run' hE.ok 4 rfl ?_
                        refine OW_as' 88 (argL (oneL 8 ⟨y1, y2, y3, y4, .mk y5 y6 y7 y8 y9⟩)) (by first | rfl | (show AV.agg [.d (str y1), .d (.sl 1 16 (y2.map encB ++ [encB kZz])), .d (boo y3), .d (boo y4), .d (int y5), .d (int y6.k), .d (int y6.n), .d (str y6.s), .d (str y7), .d (str y8), .d (.sl 7 96 (encXs y9))] = _; rw [show y2.map encB ++ [encB kZz] = (y2 ++ [kZz]).map encB by simp]; rfl)) ?_
                        refine OW_loc' hE (loc_idxRow hE rfl rfl rfl rfl rfl (j := k) rfl (by simp; omega)) rfl rfl rfl ?_
                        refine OW_storeRow' hE rfl rfl rfl rfl rfl (j := k) (off := 0) rfl (by omega) rfl (x := encL ⟨y1, y2, y3, y4, .mk y5 y6 y7 y8 y9⟩) (by simp [hkx]) (y := encL (oneL 8 ⟨y1, y2, y3, y4, .mk y5 y6 y7 y8 y9⟩)) rfl rfl rfl (Nat.le_refl 11) (xs' := (p.els.set k (oneL 8 ⟨y1, y2, y3, y4, .mk y5 y6 y7 y8 y9⟩)).map encL) (by rw [List.map_set]; rfl) ?_
                        refine OW_end rfl ?_
                        refine ⟨(), fun h => absurd h (by decide), ?_⟩
                        refine LE.trans (LE_freeze 50 144 rfl (by simp; omega)) ?_
                        exact LE_sh (slh_set (slh_set (slh_set (slh_no _ _) rfl rfl) rfl rfl) rfl rfl) (hlh_set (hlh_set (hlh_no _ _) rfl rfl) rfl rfl)
                      · skip
                        have h8n : c ≠ 8 := by have h0 : (((c : Nat) : Int) == 8) = false := h10; intro e; subst e; simp at h0
                        refine CW_seq ?_
                        refine CW_region ?_
                        refine OW_build' hE rfl rfl rfl rfl rfl ?_
                        refine OW.le (LE_slot 47 (argX oneX) (AVle.agg (.cons (.refl _) (.cons (.refl _) (.cons (.refl _) (.cons (.refl _) (.cons (.refl _) (.cons (.refl _) (.cons (.nilSl 7 96) .nil))))))))) ?_
                        refine OW_run' hE.ok 1 rfl ?_
                        refine OW_store' hE rfl rfl rfl rfl rfl rfl rfl rfl rfl rfl rfl rfl ?_
                        refine OW_end rfl ?_
                        refine CW_seq ?_
                        refine CW_drawn' hE 9 (by decide +kernel) ?_
                        refine HW_run hE 3 rfl rfl ?_
                        refine HW_loc hE (loc_indexAddr hE rfl rfl rfl rfl rfl (by omega) (x := encL ⟨y1, y2, y3, y4, .mk y5 y6 y7 y8 y9⟩) (by simp [hkx])) rfl rfl rfl rfl ?_
                        refine HW_run hE 2 rfl rfl ?_
                        refine HW_call hE (c6) rfl rfl rfl rfl rfl rfl rfl rfl ?_
                        refine HW_run hE 2 rfl rfl ?_
                        refine HW_end ?_
                        refine OW_call' hE (c7) rfl rfl rfl rfl rfl rfl rfl ?_
                        refine OW_end rfl ?_
                        refine CW_cond _ rfl (fun h11 => ?_) (fun h11 => ?_)
                        · skip
                          refine CW_seq ?_
                          refine CW_region ?_
                          refine OW_run' hE.ok 1 rfl ?_
                          refine OW_end rfl ?_
                          refine CW_ret ?_
                          refine ⟨.inr rfl, rfl, ⟨[.d (boo true)], rfl, rfl, ?_⟩, rfl⟩
                          exact AVle.refl _
                        · skip
                          have hX : sameX (normE (Exp.mk y5 y6 y7 y8 y9)) oneX = false := by have h0 : sameX (.mk o3 v3 a3 f3 k3) oneX = false := h11; rw [show normE (Exp.mk y5 y6 y7 y8 y9) = .mk o3 v3 a3 f3 k3 from hN]; exact h0
                          obtain rfl : c = 9 := by omega
                          refine CW_skip ?_
                          refine CW_region ?_
                          refine OW_run' hE.ok 4 rfl ?_
                          refine OW_as' 88 (argL (oneL 9 ⟨y1, y2, y3, y4, .mk y5 y6 y7 y8 y9⟩)) (by first | rfl | (show AV.agg [.d (str y1), .d (.sl 1 16 (y2.map encB ++ [encB kZz])), .d (boo y3), .d (boo y4), .d (int y5), .d (int y6.k), .d (int y6.n), .d (str y6.s), .d (str y7), .d (str y8), .d (.sl 7 96 (encXs y9))] = _; rw [show y2.map encB ++ [encB kZz] = (y2 ++ [kZz]).map encB by simp]; rfl)) ?_
                          refine OW_loc' hE (loc_idxRow hE rfl rfl rfl rfl rfl (j := k) rfl (by simp; omega)) rfl rfl rfl ?_
                          refine OW_storeRow' hE rfl rfl rfl rfl rfl (j := k) (off := 0) rfl (by omega) rfl (x := encL ⟨y1, y2, y3, y4, .mk y5 y6 y7 y8 y9⟩) (by simp [hkx]) (y := encL (oneL 9 ⟨y1, y2, y3, y4, .mk y5 y6 y7 y8 y9⟩)) rfl rfl rfl (Nat.le_refl 11) (xs' := (p.els.set k (oneL 9 ⟨y1, y2, y3, y4, .mk y5 y6 y7 y8 y9⟩)).map encL) (by rw [List.map_set]; rfl) ?_
                          refine OW_end rfl ?_
                          refine ⟨(), fun _ => hX, ?_⟩
                          refine LE.trans (LE_freeze 50 144 rfl (by simp; omega)) ?_
                          exact LE_sh (slh_set (slh_set (slh_set (slh_no _ _) rfl rfl) rfl rfl) rfl rfl) (hlh_set (hlh_set (hlh_no _ _) rfl rfl) rfl rfl)
      · skip
        rintro _ hX
        have d1 := diffOk p (oneP p c k ⟨y1, y2, y3, y4, .mk y5 y6 y7 y8 y9⟩) (by omega)
        rw [one_dif hc1 hc9 hkx hX] at d1
        have d2 := sameDsOk [(⟨((c : Nat) : Int), bif decide (5 ≤ c) then ((k : Nat) : Int) else 0⟩ : Dl)] [(⟨((c : Nat) : Int), bif decide (5 ≤ c) then ((k : Nat) : Int) else 0⟩ : Dl)]
        rw [sameD_self] at d2
        obtain ⟨s1, s2⟩ := one_shr hc1 hc9 hkx hX
        have d3 := shrOk p (oneP p c k ⟨y1, y2, y3, y4, .mk y5 y6 y7 y8 y9⟩) (by omega)
        rw [s1] at d3
        have d4 := shrOk (oneP p c k ⟨y1, y2, y3, y4, .mk y5 y6 y7 y8 y9⟩) p (by have := oneP_len (p := p) (c := c) (k := k) (x := ⟨y1, y2, y3, y4, .mk y5 y6 y7 y8 y9⟩); omega)
        rw [s2] at d4
        refine CW_seq ?_
        refine CW_drawn' hE 19 (by decide +kernel) ?_
        refine HW_run hE 2 rfl rfl ?_
        refine HW_call hE (d1) rfl rfl rfl rfl rfl rfl rfl rfl ?_
        refine HW_run hE 1 rfl rfl ?_
        refine HW_loc hE (loc_lits hE (t := 30) (len := 1) (parts := #[(0, .tmp 119)]) rfl rfl rfl rfl rfl rfl rfl rfl (xs := [encDl (⟨((c : Nat) : Int), bif decide (5 ≤ c) then ((k : Nat) : Int) else 0⟩ : Dl)]) rfl) rfl rfl rfl rfl ?_
        refine HW_call hE (d2) rfl rfl rfl rfl rfl rfl rfl rfl ?_
        refine HW_run hE 3 rfl rfl ?_
        refine HW_call hE (d3) rfl rfl rfl rfl rfl rfl rfl rfl ?_
        refine HW_run hE 5 rfl rfl ?_
        refine HW_call hE (d4) rfl rfl rfl rfl rfl rfl rfl rfl ?_
        refine HW_run hE 3 rfl rfl ?_
        refine HW_end ?_
        refine OW_run' hE.ok 1 rfl ?_
        refine OW_as' 135 (.d (boo true)) (by refine congrArg (fun b => AV.d (boo b)) ?_; show ((c == 1) == (((c : Nat) : Int) == 1)) = true; rw [c1N]; exact beq_self_eq_true _) ?_
        refine OW_run' hE.ok 2 rfl ?_
        refine OW_end rfl ?_
        refine CW_ret ?_
        refine ⟨.inr rfl, rfl, ⟨[.d (boo true)], rfl, rfl, ?_⟩, rfl⟩
        exact AVle.refl _
end Go.Proofs.YtjiknbjkbakegaaDoor
