/- Parts of an abstract logic over the kit's walks, and walks in it: N4e. -/
import Derived.Test.YthffbfjnahipcaaN4d
namespace Go.Proofs.Ythffbfjnahipcaa
open Go Go.AL
set_option linter.unusedVariables false
set_option linter.unusedSimpArgs false
set_option maxHeartbeats 4000000
theorem refEvStep (s : List Ty) (l : List Bi) (op : Int) (v : Vl) (al fi : ByteArray) (ks : List Exp) (hks : (op == 1) = false → (op == 2) = false → ∃ p rest, ks = p :: rest ∧ ((op == 12) = false → ∃ q r2, rest = q :: r2)) (ih : ∀ k ∈ ks, Does Try.prog 77 [argS s, argX k, .d (.sl 4 64 (l.map encBi))] noHeap (.tup [argV (evR s l k).1, .d (int (evR s l k).2)])) : Does Try.prog 77 [argS s, argX (.mk op v al fi ks), .d (.sl 4 64 (l.map encBi))] noHeap (.tup [argV (evR s l (.mk op v al fi ks)).1, .d (int (evR s l (.mk op v al fi ks)).2)]) := by
  refine Does_of T_ok mixed (N := 144) Try.func77 rfl rfl rfl (by rfl) fun F n Z hE hF J => ?_
  refine CW_seq ?_
  refine CW_region ?_
  refine OW_run' hE.ok 2 rfl ?_
  refine OW_alloc' hE 1 rfl rfl rfl rfl rfl rfl rfl ?_
  refine OW_run' hE.ok 1 rfl ?_
  refine OW_end rfl ?_
  refine CW_seq ?_
  refine CW_seq ?_
  refine CW_region ?_
  refine OW_run' hE.ok 3 rfl ?_
  refine OW_end rfl ?_
  refine CW_cond _ rfl (fun h1 => ?_) (fun h1 => ?_)
  · skip
    have w1 : (op == 1) = true := h1
    refine CW_seq ?_
    refine CW_region ?_
    refine OW_run' hE.ok 2 rfl ?_
    refine OW_store' hE rfl rfl rfl rfl rfl rfl rfl rfl rfl rfl rfl rfl ?_
    refine OW_run' hE.ok 1 rfl ?_
    refine OW_end rfl ?_
    refine CW_ret ?_
    refine ⟨.inr rfl, rfl, ⟨_, rfl, rfl, ?_⟩, rfl⟩
    rw [evR_lit w1]
    exact AVle.refl _
  · skip
    have w1 : (op == 1) = false := h1
    refine CW_skip ?_
    refine CW_seq ?_
    refine CW_seq ?_
    refine CW_region ?_
    refine OW_run' hE.ok 3 rfl ?_
    refine OW_end rfl ?_
    refine CW_cond _ rfl (fun h2 => ?_) (fun h2 => ?_)
    · skip
      have w2 : (op == 2) = true := h2
      refine CW_know (know_sl (d := 2) rfl) fun hlen => ?_
      rw [List.length_map] at hlen
      refine CW_seq ?_
      refine CW_seq ?_
      refine CW_region ?_
      refine OW_run' hE.ok 4 rfl ?_
      refine OW_end rfl ?_
      refine CW_block ?_
      refine CW_loop (σ := {i : Nat // i ≤ l.length ∧ ∀ (j : Nat) (c : Bi), j < i → l.reverse[j]? = some c → same c.al al = false}) (fun i => ⟨J, (sset (sset (sset (sset (sset noSlots 2 (.d (.sl 4 64 (l.map encBi)))) 3 (.d (.iptr [encS s]))) 4 (.d (.iptr (encX (.mk op v al fi ks))))) 6 (.ptr 1 0)) 8 (.d (int (((l.length : Nat) : Int) - 1 - ((i.1 : Nat) : Int))))), (hset noHeap 1 (some (.box 24 [.d (int 0), .d (int 0), .d (str nul)])))⟩) (fun i => l.length - i.1) ⟨0, Nat.zero_le _, fun j a hj => by omega⟩ (LE_sh (slh_set (slh_set (slh_set (slh_set (slh_set (slh_no _ _) rfl rfl) rfl rfl) rfl rfl) rfl rfl) (by show AV.d (.lit (.int .i64 (IntKind.i64.wrap (((l.map encBi).length : Int) - 1)))) = _; rw [List.length_map, wrap_id _ _ (by have : IntKind.i64.min = -9223372036854775808 := rfl; omega) (by have : IntKind.i64.max = 9223372036854775807 := rfl; omega)]; exact congrArg (fun z => AV.d (int z)) (by show ((l.length : Nat) : Int) - 1 = ((l.length : Nat) : Int) - 1 - ((0 : Nat) : Int); omega)) rfl) (hlh_set (hlh_no _ _) rfl rfl)) fun ⟨i, hi, hp⟩ => ?_
      refine CW_seq ?_
      refine CW_seq ?_
      refine CW_region ?_
      refine OW_run' hE.ok 2 rfl ?_
      refine OW_end rfl ?_
      refine CW_cond _ rfl (fun h3 => ?_) (fun h3 => ?_)
      · skip
        have hlt : i < l.length := by have := h3; simp at this; omega
        obtain ⟨b, hb⟩ : ∃ b, l[l.length - 1 - i]? = some b := ⟨_, List.getElem?_eq_getElem (by omega)⟩
        have hbr : l.reverse[i]? = some b := by rw [List.getElem?_reverse hlt]; exact hb
        obtain ⟨bal, bty, bts, bvals, rfl⟩ := Bi.shape b
        refine CW_as' 8 (.d (int ((l.length - 1 - i : Nat) : Int))) (congrArg (fun z => AV.d (int z)) (by show ((l.length : Nat) : Int) - 1 - ((i : Nat) : Int) = ((l.length - 1 - i : Nat) : Int); omega)) ?_
        refine CW_skip ?_
        refine CW_seq ?_
        refine CW_block ?_
        refine CW_seq ?_
        refine CW_drawn' hE 7 (by decide +kernel) ?_
        refine HW_run hE 2 rfl rfl ?_
        refine HW_loc hE (loc_indexAddr hE rfl rfl rfl rfl rfl (by omega) (x := encBi ⟨bal, ⟨bty, bts, bvals⟩⟩) (by simp [hb])) rfl rfl rfl rfl ?_
        refine HW_run hE 4 rfl rfl ?_
        refine HW_end ?_
        refine OW_run' hE.ok 1 rfl ?_
        refine OW_end rfl ?_
        refine CW_cond _ rfl (fun h4 => ?_) (fun h4 => ?_)
        · skip
          have gs : same bal al = true := h4
          refine CW_seq ?_
          refine CW_drawn2 hE 14 12 13 2 (by decide +kernel) (V := (encV (getV s ⟨bty, bts, bvals⟩ fi).1).map .d) rfl rfl rfl rfl rfl rfl rfl rfl rfl (by decide +kernel) rfl rfl rfl rfl rfl ?_
          refine H2_run hE 3 rfl rfl rfl rfl rfl ?_
          refine H2_loc hE (fun b => loc_indexAddr hE rfl rfl rfl rfl rfl (by omega) (x := encBi ⟨bal, ⟨bty, bts, bvals⟩⟩) (by simp [hb])) rfl rfl rfl rfl rfl ?_
          refine H2_run hE 4 rfl rfl rfl rfl rfl ?_
          refine H2_call hE (refGetOk s ⟨bty, bts, bvals⟩ fi) rfl rfl rfl rfl rfl rfl rfl rfl rfl ?_
          refine H2_run hE 3 rfl rfl rfl rfl rfl ?_
          refine H2_alloc rfl rfl rfl ?_
          refine H2_store rfl rfl rfl rfl rfl rfl rfl rfl ?_
          refine H2_end ?_
          refine OW_run' hE.ok 1 rfl ?_
          refine OW_end rfl ?_
          refine CW_seq ?_
          refine CW_seq ?_
          refine CW_region ?_
          refine OW_run' hE.ok 2 rfl ?_
          refine OW_end rfl ?_
          refine CW_cond _ rfl (fun h5 => ?_) (fun h5 => ?_)
          · skip
            have gg : (getV s ⟨bty, bts, bvals⟩ fi).2 = false := by have := h5; simpa using this
            refine CW_seq ?_
            refine CW_region ?_
            refine OW_build' hE rfl rfl rfl rfl rfl ?_
            refine OW_store' hE rfl rfl rfl rfl rfl rfl rfl rfl rfl rfl rfl rfl ?_
            refine OW_run' hE.ok 1 rfl ?_
            refine OW_end rfl ?_
            refine CW_ret ?_
            refine ⟨.inr rfl, rfl, ⟨_, rfl, rfl, ?_⟩, rfl⟩
            rw [evR_field w1 w2, fieldV_no (lastB_some hbr hp gs) gg]
            exact AVle.refl _
          · skip
            have gg : (getV s ⟨bty, bts, bvals⟩ fi).2 = true := by have := h5; simpa using this
            refine CW_skip ?_
            refine CW_seq ?_
            refine CW_region ?_
            refine OW_run' hE.ok 1 rfl ?_
            refine OW_store' hE rfl rfl rfl rfl rfl rfl rfl rfl rfl rfl rfl rfl ?_
            refine OW_run' hE.ok 1 rfl ?_
            refine OW_end rfl ?_
            refine CW_ret ?_
            refine ⟨.inr rfl, rfl, ⟨_, rfl, rfl, ?_⟩, rfl⟩
            rw [evR_field w1 w2, fieldV_ok (lastB_some hbr hp gs) gg]
            exact AVle.refl _
        · skip
          have gs : same bal al = false := h4
          refine CW_skip ?_
          refine CW_region ?_
          refine OW_run' hE.ok 3 rfl ?_
          refine OW_end rfl ?_
          refine ⟨⟨i + 1, by omega, fun j c hj hc => ?_⟩, LE_sh (slh_set (v := .d (int (((l.length : Nat) : Int) - 1 - ((i + 1 : Nat) : Int)))) (slh_set (v := .ptr 1 0) (slh_set (v := .d (.iptr (encX (.mk op v al fi ks)))) (slh_set (v := .d (.iptr [encS s])) (slh_set (v := .d (.sl 4 64 (l.map encBi))) (slh_no _ _) (by rfl) rfl) (by rfl) rfl) (by rfl) rfl) (by rfl) rfl) (by show AV.d (.lit (.int .i64 (IntKind.i64.wrap (((l.length - 1 - i : Nat) : Int) - 1)))) = AV.d (int (((l.length : Nat) : Int) - 1 - ((i + 1 : Nat) : Int))); rw [wrap_id _ _ (by have : IntKind.i64.min = -9223372036854775808 := rfl; omega) (by have : IntKind.i64.max = 9223372036854775807 := rfl; omega)]; exact congrArg (fun z => AV.d (int z)) (by omega)) rfl) (hlh_set (hlh_no _ _) rfl rfl), by show l.length - (i + 1) < l.length - i; omega⟩
          by_cases hji : j = i
          · subst hji; rw [hbr] at hc; cases hc; exact gs
          · exact hp j c (by omega) hc
      · skip
        have hge : l.length ≤ i := by have := h3; simp at this; omega
        refine CW_exit ?_
        show CW _ _ _ _
        refine CW_seq ?_
        refine CW_region ?_
        refine OW_build' hE rfl rfl rfl rfl rfl ?_
        refine OW_store' hE rfl rfl rfl rfl rfl rfl rfl rfl rfl rfl rfl rfl ?_
        refine OW_run' hE.ok 1 rfl ?_
        refine OW_end rfl ?_
        refine CW_ret ?_
        refine ⟨.inr rfl, rfl, ⟨_, rfl, rfl, ?_⟩, rfl⟩
        rw [evR_field w1 w2, fieldV_none (lastB_none fun j c hj hc => hp j c (by omega) hc)]
        exact AVle.refl _
    · skip
      have w2 : (op == 2) = false := h2
      refine CW_skip ?_
      refine CW_seq ?_
      obtain ⟨px, rest, rfl, hrest⟩ := hks w1 w2
      obtain ⟨r, hr⟩ : ∃ z, evR s l px = z := ⟨_, rfl⟩
      have hIr := ih px (by simp)
      rw [hr] at hIr
      obtain ⟨o1, v1, a1, f1, k1, rfl⟩ := Exp.shape px
      refine CW_drawn2 hE 12 10 11 3 (by decide +kernel) (V := (encV r.1).map .d) rfl rfl rfl rfl rfl rfl rfl rfl rfl (by decide +kernel) rfl rfl rfl rfl rfl ?_
      refine H2_run hE 3 rfl rfl rfl rfl rfl ?_
      refine H2_loc hE (fun b => loc_indexAddr hE rfl rfl rfl rfl rfl (by omega) (x := encX (.mk o1 v1 a1 f1 k1)) rfl) rfl rfl rfl rfl rfl ?_
      refine H2_run hE 2 rfl rfl rfl rfl rfl ?_
      refine H2_call hE (hIr) rfl rfl rfl rfl rfl rfl rfl rfl rfl ?_
      refine H2_run hE 3 rfl rfl rfl rfl rfl ?_
      refine H2_alloc rfl rfl rfl ?_
      refine H2_store rfl rfl rfl rfl rfl rfl rfl rfl ?_
      refine H2_end ?_
      refine OW_run' hE.ok 1 rfl ?_
      refine OW_end rfl ?_
      refine CW_seq ?_
      refine CW_seq ?_
      refine CW_region ?_
      refine OW_run' hE.ok 2 rfl ?_
      refine OW_end rfl ?_
      refine CW_cond _ rfl (fun h6 => ?_) (fun h6 => ?_)
      · skip
        have gz : (r.2 != 0) = true := h6
        refine CW_seq ?_
        refine CW_region ?_
        refine OW_build' hE rfl rfl rfl rfl rfl ?_
        refine OW_run' hE.ok 1 rfl ?_
        refine OW_store' hE rfl rfl rfl rfl rfl rfl rfl rfl rfl rfl rfl rfl ?_
        refine OW_run' hE.ok 1 rfl ?_
        refine OW_end rfl ?_
        refine CW_ret ?_
        refine ⟨.inr rfl, rfl, ⟨_, rfl, rfl, ?_⟩, rfl⟩
        rw [evR_one w1 w2, hr, finR_e1 gz]
        exact AVle.refl _
      · skip
        have gz : (r.2 != 0) = false := h6
        refine CW_skip ?_
        refine CW_seq ?_
        refine CW_cutE (fun _ : Unit => ⟨J, (sset (sset (sset (sset (sset (sset (sset noSlots 2 (.d (.sl 4 64 (l.map encBi)))) 3 (.d (.iptr [encS s]))) 4 (.d (.iptr (encX (.mk op v al fi ((.mk o1 v1 a1 f1 k1) :: rest)))))) 6 (.ptr 1 0)) 11 (.ptr 3 0)) 12 (.d (int r.2))) 77 (.d (boo ((op == 10) || (op == 11))))), (hset (hset noHeap 1 (some (.box 24 [.d (int 0), .d (int 0), .d (str nul)]))) 3 (some (.box 24 ((encV r.1).map .d))))⟩) (fun _ => True) ?_ ?_
        · skip
          refine CW_region ?_
          refine OW_run' hE.ok 4 rfl ?_
          refine OW_split' 73 rfl (fun h7 => ?_) (fun h7 => ?_)
          · skip
            have g10 : (op == 10) = true := h7
            refine OW_run' hE.ok 4 rfl ?_
            refine OW_end rfl ?_
            exact ⟨(), trivial, LE_sh (slh_set (v := .d (boo ((op == 10) || (op == 11)))) (slh_set (v := .d (int r.2)) (slh_set (v := .ptr 3 0) (slh_set (v := .ptr 1 0) (slh_set (v := .d (.iptr (encX (.mk op v al fi ((.mk o1 v1 a1 f1 k1) :: rest))))) (slh_set (v := .d (.iptr [encS s])) (slh_set (v := .d (.sl 4 64 (l.map encBi))) (slh_no _ _) (by rfl) rfl) (by rfl) rfl) (by rfl) rfl) (by rfl) rfl) (by rfl) rfl) (by rfl) rfl) (by exact (congrArg (fun b => AV.d (boo b)) (by rw [g10]; rfl))) rfl) (hlh_set (hlh_set (hlh_no _ _) rfl rfl) rfl rfl)⟩
          · skip
            have g10 : (op == 10) = false := h7
            refine OW_run' hE.ok 4 rfl ?_
            refine OW_end rfl ?_
            exact ⟨(), trivial, LE_sh (slh_set (v := .d (boo ((op == 10) || (op == 11)))) (slh_set (v := .d (int r.2)) (slh_set (v := .ptr 3 0) (slh_set (v := .ptr 1 0) (slh_set (v := .d (.iptr (encX (.mk op v al fi ((.mk o1 v1 a1 f1 k1) :: rest))))) (slh_set (v := .d (.iptr [encS s])) (slh_set (v := .d (.sl 4 64 (l.map encBi))) (slh_no _ _) (by rfl) rfl) (by rfl) rfl) (by rfl) rfl) (by rfl) rfl) (by rfl) rfl) (by rfl) rfl) (by exact (congrArg (fun b => AV.d (boo b)) (by rw [g10]; rfl))) rfl) (hlh_set (hlh_set (hlh_no _ _) rfl rfl) rfl rfl)⟩
        · skip
          rintro _ _
          refine CW_cond _ rfl (fun h8 => ?_) (fun h8 => ?_)
          · skip
            have gch : ((op == 10) || (op == 11)) = true := h8
            refine CW_seq ?_
            refine CW_seq ?_
            refine CW_region ?_
            refine OW_run' hE.ok 3 rfl ?_
            refine OW_end rfl ?_
            refine CW_cond _ rfl (fun h9 => ?_) (fun h9 => ?_)
            · skip
              have gb : (r.1.k != 3) = true := h9
              refine CW_seq ?_
              refine CW_region ?_
              refine OW_build' hE rfl rfl rfl rfl rfl ?_
              refine OW_store' hE rfl rfl rfl rfl rfl rfl rfl rfl rfl rfl rfl rfl ?_
              refine OW_run' hE.ok 1 rfl ?_
              refine OW_end rfl ?_
              refine CW_ret ?_
              refine ⟨.inr rfl, rfl, ⟨_, rfl, rfl, ?_⟩, rfl⟩
              rw [evR_one w1 w2, hr, finR_cb gz gch gb]
              exact AVle.refl _
            · skip
              have gb : (r.1.k != 3) = false := h9
              refine CW_skip ?_
              refine CW_seq ?_
              refine CW_seq ?_
              refine CW_region ?_
              refine OW_run' hE.ok 7 rfl ?_
              refine OW_end rfl ?_
              refine CW_cond _ rfl (fun h10 => ?_) (fun h10 => ?_)
              · skip
                have gst : ((r.1.n == 1) == (op == 11)) = true := h10
                refine CW_seq ?_
                refine CW_region ?_
                refine OW_run' hE.ok 1 rfl ?_
                refine OW_store' hE rfl rfl rfl rfl rfl rfl rfl rfl rfl rfl rfl rfl ?_
                refine OW_run' hE.ok 1 rfl ?_
                refine OW_end rfl ?_
                refine CW_ret ?_
                refine ⟨.inr rfl, rfl, ⟨_, rfl, rfl, ?_⟩, rfl⟩
                rw [evR_one w1 w2, hr, finR_cs gz gch gb gst]
                exact AVle.refl _
              · skip
                have gst : ((r.1.n == 1) == (op == 11)) = false := h10
                refine CW_skip ?_
                refine CW_seq ?_
                obtain ⟨qx, r2, rfl⟩ := hrest (by have := gch; simp at this ⊢; omega)
                obtain ⟨rq, hrq⟩ : ∃ z, evR s l qx = z := ⟨_, rfl⟩
                have hIrq := ih qx (by simp)
                rw [hrq] at hIrq
                obtain ⟨o2, v2, a2, f2, k2, rfl⟩ := Exp.shape qx
                obtain ⟨c, hc⟩ : ∃ c, (bif (rq.2 == 0) && (rq.1.k != 3) then 14 else rq.2) = c := ⟨_, rfl⟩
                refine CW_drawn2 hE 12 10 11 4 (by decide +kernel) (V := (encV rq.1).map .d) rfl rfl rfl rfl rfl rfl rfl rfl rfl (by decide +kernel) rfl rfl rfl rfl rfl ?_
                refine H2_run hE 3 rfl rfl rfl rfl rfl ?_
                refine H2_loc hE (fun b => loc_indexAddr hE rfl rfl rfl rfl rfl (by omega) (x := encX (.mk o2 v2 a2 f2 k2)) rfl) rfl rfl rfl rfl rfl ?_
                refine H2_run hE 2 rfl rfl rfl rfl rfl ?_
                refine H2_call hE (hIrq) rfl rfl rfl rfl rfl rfl rfl rfl rfl ?_
                refine H2_run hE 3 rfl rfl rfl rfl rfl ?_
                refine H2_alloc rfl rfl rfl ?_
                refine H2_store rfl rfl rfl rfl rfl rfl rfl rfl ?_
                refine H2_end ?_
                refine OW_run' hE.ok 1 rfl ?_
                refine OW_end rfl ?_
                refine CW_cutE (fun _ : Unit => ⟨J, (sset (sset (sset noSlots 6 (.ptr 1 0)) 13 (.ptr 4 0)) 14 (.d (int c))), (hset (hset noHeap 1 (some (.box 24 [.d (int 0), .d (int 0), .d (str nul)]))) 4 (some (.box 24 ((encV rq.1).map .d))))⟩) (fun _ => True) ?_ ?_
                · skip
                  refine CW_seq ?_
                  refine CW_region ?_
                  refine OW_run' hE.ok 3 rfl ?_
                  refine OW_split' 102 rfl (fun h11 => ?_) (fun h11 => ?_)
                  · skip
                    have gq0 : (rq.2 == 0) = true := h11
                    refine OW_run' hE.ok 4 rfl ?_
                    refine OW_end rfl ?_
                    refine CW_cond _ rfl (fun h12 => ?_) (fun h12 => ?_)
                    · skip
                      have gq3 : (rq.1.k != 3) = true := h12
                      refine CW_region ?_
                      refine OW_run' hE.ok 1 rfl ?_
                      refine OW_end rfl ?_
                      exact ⟨(), trivial, LE_sh (slh_set (v := .d (int c)) (slh_set (v := .ptr 4 0) (slh_set (v := .ptr 1 0) (slh_no _ _) (by rfl) rfl) (by rfl) rfl) (by exact (congrArg (fun b => AV.d (int b)) (by rw [← hc, gq0, gq3]; rfl))) rfl) (hlh_set (hlh_set (hlh_no _ _) rfl rfl) rfl rfl)⟩
                    · skip
                      have gq3 : (rq.1.k != 3) = false := h12
                      refine CW_skip ?_
                      exact ⟨(), trivial, LE_sh (slh_set (v := .d (int c)) (slh_set (v := .ptr 4 0) (slh_set (v := .ptr 1 0) (slh_no _ _) (by rfl) rfl) (by rfl) rfl) (by exact (congrArg (fun b => AV.d (int b)) (by rw [← hc, gq0, gq3]; rfl))) rfl) (hlh_set (hlh_set (hlh_no _ _) rfl rfl) rfl rfl)⟩
                  · skip
                    have gq0 : (rq.2 == 0) = false := h11
                    refine OW_run' hE.ok 4 rfl ?_
                    refine OW_end rfl ?_
                    refine CW_false rfl ?_
                    refine CW_skip ?_
                    exact ⟨(), trivial, LE_sh (slh_set (v := .d (int c)) (slh_set (v := .ptr 4 0) (slh_set (v := .ptr 1 0) (slh_no _ _) (by rfl) rfl) (by rfl) rfl) (by exact (congrArg (fun b => AV.d (int b)) (by rw [← hc, gq0]; rfl))) rfl) (hlh_set (hlh_set (hlh_no _ _) rfl rfl) rfl rfl)⟩
                · skip
                  rintro _ _
                  refine CW_seq ?_
                  refine CW_seq ?_
                  refine CW_region ?_
                  refine OW_run' hE.ok 2 rfl ?_
                  refine OW_end rfl ?_
                  refine CW_cond _ rfl (fun h13 => ?_) (fun h13 => ?_)
                  · skip
                    have gc : (c != 0) = true := h13
                    refine CW_seq ?_
                    refine CW_region ?_
                    refine OW_build' hE rfl rfl rfl rfl rfl ?_
                    refine OW_run' hE.ok 1 rfl ?_
                    refine OW_store' hE rfl rfl rfl rfl rfl rfl rfl rfl rfl rfl rfl rfl ?_
                    refine OW_run' hE.ok 1 rfl ?_
                    refine OW_end rfl ?_
                    refine CW_ret ?_
                    refine ⟨.inr rfl, rfl, ⟨_, rfl, rfl, ?_⟩, rfl⟩
                    rw [evR_two w1 w2, hr, hrq, finR_cc gz gch gb gst hc, gc]
                    exact AVle.refl _
                  · skip
                    have gc : (c != 0) = false := h13
                    refine CW_skip ?_
                    refine CW_seq ?_
                    refine CW_region ?_
                    refine OW_run' hE.ok 1 rfl ?_
                    refine OW_store' hE rfl rfl rfl rfl rfl rfl rfl rfl rfl rfl rfl rfl ?_
                    refine OW_run' hE.ok 1 rfl ?_
                    refine OW_end rfl ?_
                    refine CW_ret ?_
                    refine ⟨.inr rfl, rfl, ⟨_, rfl, rfl, ?_⟩, rfl⟩
                    rw [evR_two w1 w2, hr, hrq, finR_cc gz gch gb gst hc, gc]
                    exact AVle.refl _
          · skip
            have gch : ((op == 10) || (op == 11)) = false := h8
            refine CW_skip ?_
            refine CW_seq ?_
            refine CW_seq ?_
            refine CW_region ?_
            refine OW_run' hE.ok 3 rfl ?_
            refine OW_end rfl ?_
            refine CW_cond _ rfl (fun h14 => ?_) (fun h14 => ?_)
            · skip
              have g12 : (op == 12) = true := h14
              refine CW_seq ?_
              refine CW_seq ?_
              refine CW_region ?_
              refine OW_run' hE.ok 3 rfl ?_
              refine OW_end rfl ?_
              refine CW_cond _ rfl (fun h15 => ?_) (fun h15 => ?_)
              · skip
                have gb : (r.1.k != 3) = true := h15
                refine CW_seq ?_
                refine CW_region ?_
                refine OW_build' hE rfl rfl rfl rfl rfl ?_
                refine OW_store' hE rfl rfl rfl rfl rfl rfl rfl rfl rfl rfl rfl rfl ?_
                refine OW_run' hE.ok 1 rfl ?_
                refine OW_end rfl ?_
                refine CW_ret ?_
                refine ⟨.inr rfl, rfl, ⟨_, rfl, rfl, ?_⟩, rfl⟩
                rw [evR_one w1 w2, hr, finR_nb gz gch g12 gb]
                exact AVle.refl _
              · skip
                have gb : (r.1.k != 3) = false := h15
                refine CW_skip ?_
                refine CW_seq ?_
                refine CW_region ?_
                refine OW_run' hE.ok 3 rfl ?_
                refine OW_call' hE (refTruthOk (r.1.n == 0)) rfl rfl rfl rfl rfl rfl rfl ?_
                refine OW_store' hE rfl rfl rfl rfl rfl rfl rfl rfl rfl rfl rfl rfl ?_
                refine OW_run' hE.ok 1 rfl ?_
                refine OW_end rfl ?_
                refine CW_ret ?_
                refine ⟨.inr rfl, rfl, ⟨_, rfl, rfl, ?_⟩, rfl⟩
                rw [evR_one w1 w2, hr, finR_nt gz gch g12 gb]
                exact AVle.refl _
            · skip
              have g12 : (op == 12) = false := h14
              refine CW_skip ?_
              refine CW_seq ?_
              obtain ⟨qx, r2, rfl⟩ := hrest g12
              obtain ⟨rq, hrq⟩ : ∃ z, evR s l qx = z := ⟨_, rfl⟩
              have hIrq := ih qx (by simp)
              rw [hrq] at hIrq
              obtain ⟨o2, v2, a2, f2, k2, rfl⟩ := Exp.shape qx
              refine CW_drawn2 hE 12 10 11 5 (by decide +kernel) (V := (encV rq.1).map .d) rfl rfl rfl rfl rfl rfl rfl rfl rfl (by decide +kernel) rfl rfl rfl rfl rfl ?_
              refine H2_run hE 3 rfl rfl rfl rfl rfl ?_
              refine H2_loc hE (fun b => loc_indexAddr hE rfl rfl rfl rfl rfl (by omega) (x := encX (.mk o2 v2 a2 f2 k2)) rfl) rfl rfl rfl rfl rfl ?_
              refine H2_run hE 2 rfl rfl rfl rfl rfl ?_
              refine H2_call hE (hIrq) rfl rfl rfl rfl rfl rfl rfl rfl rfl ?_
              refine H2_run hE 3 rfl rfl rfl rfl rfl ?_
              refine H2_alloc rfl rfl rfl ?_
              refine H2_store rfl rfl rfl rfl rfl rfl rfl rfl ?_
              refine H2_end ?_
              refine OW_run' hE.ok 1 rfl ?_
              refine OW_end rfl ?_
              refine CW_seq ?_
              refine CW_seq ?_
              refine CW_region ?_
              refine OW_run' hE.ok 2 rfl ?_
              refine OW_end rfl ?_
              refine CW_cond _ rfl (fun h16 => ?_) (fun h16 => ?_)
              · skip
                have gz2 : (rq.2 != 0) = true := h16
                refine CW_seq ?_
                refine CW_region ?_
                refine OW_build' hE rfl rfl rfl rfl rfl ?_
                refine OW_run' hE.ok 1 rfl ?_
                refine OW_store' hE rfl rfl rfl rfl rfl rfl rfl rfl rfl rfl rfl rfl ?_
                refine OW_run' hE.ok 1 rfl ?_
                refine OW_end rfl ?_
                refine CW_ret ?_
                refine ⟨.inr rfl, rfl, ⟨_, rfl, rfl, ?_⟩, rfl⟩
                rw [evR_two w1 w2, hr, hrq, finR_te gz gch g12 gz2]
                exact AVle.refl _
              · skip
                have gz2 : (rq.2 != 0) = false := h16
                refine CW_skip ?_
                refine CW_seq ?_
                refine CW_region ?_
                refine OW_run' hE.ok 4 rfl ?_
                refine OW_call' hE (refTwoOk op r.1 rq.1) rfl rfl rfl rfl rfl rfl rfl ?_
                refine OW_run' hE.ok 2 rfl ?_
                refine OW_store' hE rfl rfl rfl rfl rfl rfl rfl rfl rfl rfl rfl rfl ?_
                refine OW_run' hE.ok 1 rfl ?_
                refine OW_end rfl ?_
                refine CW_ret ?_
                refine ⟨.inr rfl, rfl, ⟨_, rfl, rfl, ?_⟩, rfl⟩
                rw [evR_two w1 w2, hr, hrq, finR_tv gz gch g12 gz2]
                exact AVle.refl _

theorem refEvAll (s : List Ty) (l : List Bi) : ∀ (n : Nat) (x : Exp), SizeOf.sizeOf x < n → ∀ d, shapedX x d = true → Does Try.prog 77 [argS s, argX x, .d (.sl 4 64 (l.map encBi))] noHeap (.tup [argV (evR s l x).1, .d (int (evR s l x).2)])
  | 0, x, h => by omega
  | n + 1, .mk op v al fi ks, h => fun d hw => refEvStep s l op v al fi ks (parts_x hw) fun k hk => refEvAll s l n k (by have := List.sizeOf_lt_of_mem hk; simp at h; omega) (d + 1) ((shaped_inv hw).2.2.2.2.1 k hk)

theorem refEvalOk (s : List Ty) (x : Exp) (l : List Bi) : Does Try.prog 36 [argS s, argX x, .d (.sl 4 64 (l.map encBi))] noHeap (.tup [argV (evalR s x l).1, .d (int (evalR s x l).2)]) := by
  refine Does_of T_ok mixed (N := 18) Try.func36 rfl rfl rfl (by rfl) fun F n Z hE hF J => ?_
  have q := fun h => refEvAll s l _ x (Nat.lt_succ_self _) 1 h
  have q2 := refIsXOk x
  have q3 : isX x = true → shapedX x 1 = true := fun h => isX_sh h
  have hn : evalR s x l = bif isX x then evR s l x else (nulV, 10) := rfl
  obtain ⟨o1, v1, a1, f1, k1, rfl⟩ := Exp.shape x
  refine CW_seq ?_
  refine CW_region ?_
  refine OW_run' hE.ok 2 rfl ?_
  refine OW_alloc' hE 1 rfl rfl rfl rfl rfl rfl rfl ?_
  refine OW_run' hE.ok 1 rfl ?_
  refine OW_end rfl ?_
  refine CW_seq ?_
  refine CW_seq ?_
  refine CW_region ?_
  refine OW_run' hE.ok 1 rfl ?_
  refine OW_call' hE (q2) rfl rfl rfl rfl rfl rfl rfl ?_
  refine OW_run' hE.ok 1 rfl ?_
  refine OW_end rfl ?_
  refine CW_cond _ rfl (fun h1 => ?_) (fun h1 => ?_)
  · skip
    have g1 : isX (.mk o1 v1 a1 f1 k1) = false := by have := h1; simpa using this
    refine CW_seq ?_
    refine CW_region ?_
    refine OW_build' hE rfl rfl rfl rfl rfl ?_
    refine OW_store' hE rfl rfl rfl rfl rfl rfl rfl rfl rfl rfl rfl rfl ?_
    refine OW_run' hE.ok 1 rfl ?_
    refine OW_end rfl ?_
    refine CW_ret ?_
    refine ⟨.inr rfl, rfl, ⟨_, rfl, rfl, ?_⟩, rfl⟩
    rw [hn, g1]
    exact AVle.refl _
  · skip
    have g1 : isX (.mk o1 v1 a1 f1 k1) = true := by have := h1; simpa using this
    refine CW_skip ?_
    refine CW_seq ?_
    refine CW_region ?_
    refine OW_run' hE.ok 3 rfl ?_
    refine OW_call' hE (q (q3 g1)) rfl rfl rfl rfl rfl rfl rfl ?_
    refine OW_run' hE.ok 2 rfl ?_
    refine OW_store' hE rfl rfl rfl rfl rfl rfl rfl rfl rfl rfl rfl rfl ?_
    refine OW_run' hE.ok 1 rfl ?_
    refine OW_end rfl ?_
    refine CW_ret ?_
    refine ⟨.inr rfl, rfl, ⟨_, rfl, rfl, ?_⟩, rfl⟩
    rw [hn, g1]
    exact AVle.refl _
end Go.Proofs.Ythffbfjnahipcaa
