/- Parts of an abstract logic over the kit's walks, and walks in it: K1c, K1v, K1f, K1p, K1o, K1k, K1e. -/
import Derived.Test.YtencfmpapdnnaaaT3t
import Derived.Test.YtencfmpapdnnaaaKp
import Derived.Test.YtencfmpapdnnaaaY3e
import Derived.Test.YtencfmpapdnnaaaYa
namespace Go.Proofs.Ytencfmpapdnnaaa
open Go Go.AL
set_option linter.unusedVariables false
set_option linter.unusedSimpArgs false
set_option maxHeartbeats 4000000
theorem compactOk (ks : List Int) (hlen : ks.length ≤ 1000) : InI Try.prog 58 3 ks (cI ks) := by
  refine InI_of T_ok mixed (N := 61) Try.func58 rfl rfl rfl (by rfl) fun F n Z hE hF J => ?_
  refine CW_seq ?_
  refine CW_region ?_
  refine OW_run' hE.ok 1 rfl ?_
  refine OW_end rfl ?_
  refine CW_seq ?_
  refine CW_seq ?_
  refine CW_region ?_
  refine OW_run' hE.ok 3 rfl ?_
  refine OW_end rfl ?_
  refine CW_cond _ rfl (fun h1 => ?_) (fun h1 => ?_)
  · skip
    have hn : ks.length < 2 := by have := h1; simp [intRow_len] at this; omega
    refine CW_seq ?_
    refine CW_region ?_
    refine OW_run' hE.ok 2 rfl ?_
    refine OW_end rfl ?_
    refine CW_ret ⟨.inr rfl, rfl, 0, rfl, ?_⟩
    rw [cI_small hn]; rfl
  · skip
    have hn : 2 ≤ ks.length := by have := h1; simp [intRow_len] at this; omega
    refine CW_skip ?_
    refine CW_seq ?_
    refine CW_seq ?_
    refine CW_region ?_
    refine OW_run' hE.ok 1 rfl ?_
    refine OW_end rfl ?_
    refine CW_block ?_
    refine CW_loop (σ := {k : Nat // 1 ≤ k ∧ k ≤ ks.length ∧ cI (ks.take k) = ks.take k}) (fun k => ⟨J, (sset (sset noSlots 0 (.row 0)) 3 (.d (int ((k.1 : Nat) : Int)))), (hset noHeap 0 (some (.row 3 1 (intRow ks))))⟩) (fun k => ks.length - k.1) ⟨1, Nat.le_refl _, by omega, cI_take1 (by omega)⟩ (LE_sh (slh_set (slh_set (slh_no _ _) rfl rfl) rfl rfl) (hlh_set (hlh_no _ _) rfl rfl)) fun ⟨k, hk1, hkn, hkd⟩ => ?_
    refine CW_seq ?_
    refine CW_seq ?_
    refine CW_region ?_
    refine OW_run' hE.ok 4 rfl ?_
    refine OW_end rfl ?_
    refine CW_cond _ rfl (fun h2 => ?_) (fun h2 => ?_)
    · skip
      have hlt : k < ks.length := by have := h2; simp [intRow_len] at this; omega
      obtain ⟨x, hx⟩ : ∃ x, ks[k - 1]? = some x := ⟨_, List.getElem?_eq_getElem (by omega)⟩
      obtain ⟨y, hy⟩ : ∃ y, ks[k]? = some y := ⟨_, List.getElem?_eq_getElem hlt⟩
      refine CW_skip ?_
      refine CW_seq ?_
      refine CW_block ?_
      refine CW_seq ?_
      refine CW_drawn' hE 9 (by decide +kernel) ?_
      refine HW_run hE 2 rfl rfl ?_
      refine HW_loc hE (loc_idxRow hE rfl rfl rfl rfl rfl (j := k) rfl (by rw [intRow_len]; omega)) rfl rfl rfl rfl ?_
      refine HW_loc hE (loc_loadRow hE rfl rfl rfl (j := k) (off := 0) (by omega) rfl (intRow_get (hy)) (Nat.zero_le _) rfl) rfl rfl rfl rfl ?_
      refine HW_run hE 2 rfl rfl ?_
      refine HW_run hE 1 rfl rfl ?_
      refine HW_as 22 (.d (int ((k - 1 : Nat) : Int))) (by show AV.d (.lit (.int .i64 (IntKind.i64.wrap (((k : Nat) : Int) - 1)))) = _; rw [show (((k : Nat) : Int) - 1) = ((k - 1 : Nat) : Int) by omega, wrapN (by omega)]; rfl) ?_
      refine HW_loc hE (loc_idxRow hE rfl rfl rfl rfl rfl (j := k - 1) rfl (by rw [intRow_len]; omega)) rfl rfl rfl rfl ?_
      refine HW_loc hE (loc_loadRow hE rfl rfl rfl (j := (k - 1)) (off := 0) (by omega) rfl (intRow_get (hx)) (Nat.zero_le _) rfl) rfl rfl rfl rfl ?_
      refine HW_end ?_
      refine OW_run' hE.ok 1 rfl ?_
      refine OW_end rfl ?_
      refine CW_cond _ rfl (fun h3 => ?_) (fun h3 => ?_)
      · skip
        have hxy : y = x := by have := h3; simpa using this
        rw [hxy] at hy
        have c0 := Cmp.start hk1 hx hy hkd
        refine CW_seq ?_
        refine CW_region ?_
        refine OW_run' hE.ok 2 rfl ?_
        refine OW_loc' hE (loc_viewRow hE rfl rfl rfl rfl rfl (l := k) rfl (by rw [intRow_len]; show k < ks.length; omega)) rfl rfl rfl ?_
        refine OW_as' 28 (.view 0 k (ks.length - k)) (by show AV.view 0 (k * 1) ((intRow ks).length - k) = _; rw [intRow_len, Nat.mul_one]) ?_
        refine OW_run' hE.ok 1 rfl ?_
        refine OW_end rfl ?_
        refine CW_seq ?_
        refine CW_seq ?_
        refine CW_region ?_
        refine OW_run' hE.ok 1 rfl ?_
        refine OW_end rfl ?_
        refine CW_block ?_
        refine CW_loop (σ := {q : List Int × Nat × Nat // Cmp ks q.1 q.2.1 q.2.2 ∧ k < q.2.2}) (fun q => ⟨J, (sset (sset (sset (sset noSlots 0 (.row 0)) 3 (.d (int ((q.1.2.1 : Nat) : Int)))) 4 (.view 0 k (ks.length - k))) 5 (.d (int ((q.1.2.2 - k : Nat) : Int)))), (hset noHeap 0 (some (.row 3 1 (intRow q.1.1))))⟩) (fun q => ks.length - q.1.2.2) ⟨(ks, k, k + 1), c0, by show k < k + 1; omega⟩ (LE_sh (slh_set (slh_set (slh_set (slh_set (slh_no _ _) rfl rfl) rfl rfl) rfl rfl) (congrArg (fun z => AV.d (int z)) (by show (1 : Int) = ((k + 1 - k : Nat) : Int); omega)) rfl) (hlh_set (hlh_no _ _) rfl rfl)) fun ⟨⟨R, kk, p⟩, c, hkp⟩ => ?_
        simp only at c hkp
        have c1 := c.len
        have c2 := c.lo
        have c3 := c.kp
        have c4 := c.hi
        refine CW_seq ?_
        refine CW_seq ?_
        refine CW_region ?_
        refine OW_run' hE.ok 2 rfl ?_
        refine OW_loc' hE (loc_lenView hE rfl rfl rfl (by omega)) rfl rfl rfl ?_
        refine OW_run' hE.ok 1 rfl ?_
        refine OW_end rfl ?_
        refine CW_cond _ rfl (fun h4 => ?_) (fun h4 => ?_)
        · skip
          have hpl : p < ks.length := by have := h4; simp at this; omega
          obtain ⟨x2, hx2⟩ : ∃ x, ks[p - 1]? = some x := ⟨_, List.getElem?_eq_getElem (by omega)⟩
          obtain ⟨y2, hy2⟩ : ∃ y, ks[p]? = some y := ⟨_, List.getElem?_eq_getElem hpl⟩
          refine CW_skip ?_
          refine CW_seq ?_
          refine CW_block ?_
          refine CW_seq ?_
          refine CW_drawn' hE 9 (by decide +kernel) ?_
          refine HW_run hE 2 rfl rfl ?_
          refine HW_loc hE (loc_idxView hE rfl rfl rfl rfl (j := (p - k)) rfl (by omega)) rfl rfl rfl rfl ?_
          refine HW_loc hE (loc_loadRow hE rfl rfl rfl (j := p) (off := 0) (by omega) rfl (intRow_get ((c.at (by omega)).trans hy2)) (Nat.zero_le _) rfl) rfl rfl rfl rfl ?_
          refine HW_run hE 2 rfl rfl ?_
          refine HW_run hE 1 rfl rfl ?_
          refine HW_as 41 (.d (int (((p - k) - 1 : Nat) : Int))) (by show AV.d (.lit (.int .i64 (IntKind.i64.wrap ((((p - k) : Nat) : Int) - 1)))) = _; rw [show ((((p - k) : Nat) : Int) - 1) = (((p - k) - 1 : Nat) : Int) by omega, wrapN (by omega)]; rfl) ?_
          refine HW_loc hE (loc_idxView hE rfl rfl rfl rfl (j := (p - k - 1)) rfl (by omega)) rfl rfl rfl rfl ?_
          refine HW_loc hE (loc_loadRow hE rfl rfl rfl (j := (p - 1)) (off := 0) (by omega) rfl (intRow_get ((c.at (by omega)).trans hx2)) (Nat.zero_le _) rfl) rfl rfl rfl rfl ?_
          refine HW_end ?_
          refine OW_run' hE.ok 1 rfl ?_
          refine OW_end rfl ?_
          refine CW_cond _ rfl (fun h5 => ?_) (fun h5 => ?_)
          · skip
            have hne2 : (y2 != x2) = true := h5
            obtain ⟨z, hz⟩ : ∃ z, R[kk]? = some z := ⟨_, List.getElem?_eq_getElem (by omega)⟩
            refine CW_seq ?_
            refine CW_region ?_
            refine OW_run' hE.ok 4 rfl ?_
            refine OW_loc' hE (loc_idxView hE rfl rfl rfl rfl (j := (p - k)) rfl (by omega)) rfl rfl rfl ?_
            refine OW_loc' hE (loc_loadRow hE rfl rfl rfl (j := p) (off := 0) (by omega) rfl (intRow_get ((c.at (by omega)).trans hy2)) (Nat.zero_le _) rfl) rfl rfl rfl ?_
            refine OW_loc' hE (loc_idxRow hE rfl rfl rfl rfl rfl (j := kk) rfl (by rw [intRow_len]; show kk < R.length; omega)) rfl rfl rfl ?_
            refine OW_storeRow' hE rfl rfl rfl rfl rfl (j := kk) (off := 0) rfl (by omega) rfl (x := [.lit (.int .i64 z)]) (intRow_get hz) (y := [.lit (.int .i64 y2)]) rfl rfl rfl (by simp) (xs' := intRow (R.set kk y2)) (intRow_set R kk y2) ?_
            refine OW_end rfl ?_
            refine CW_region ?_
            refine OW_run' hE.ok 3 rfl ?_
            refine OW_end rfl ?_
            refine CW_region ?_
            refine OW_run' hE.ok 3 rfl ?_
            refine OW_end rfl ?_
            exact ⟨⟨(R.set kk y2, (kk + 1), p + 1), c.put hx2 hy2 hne2, by show k < p + 1; omega⟩, LE_sh (slh_set (v := .d (int ((p + 1 - k : Nat) : Int))) (slh_set (v := .view 0 k (ks.length - k)) (slh_set (v := .d (int (((kk + 1) : Nat) : Int))) (slh_set (v := .row 0) (slh_no _ _) (by rfl) rfl) (by show AV.d (.lit (.int .i64 (IntKind.i64.wrap ((kk : Int) + 1)))) = _; rw [wrap_succ (by omega)]; rfl) rfl) (by rfl) rfl) (by show AV.d (.lit (.int .i64 (IntKind.i64.wrap (((p - k : Nat) : Int) + 1)))) = _; rw [wrap_succ (by omega)]; exact congrArg (fun z => AV.d (int z)) (by omega)) rfl) (hlh_set (hlh_no _ _) rfl rfl), by show ks.length - (p + 1) < ks.length - p; omega⟩
          · skip
            have hne2 : (y2 != x2) = false := h5
            refine CW_skip ?_
            refine CW_region ?_
            refine OW_run' hE.ok 3 rfl ?_
            refine OW_end rfl ?_
            exact ⟨⟨(R, kk, p + 1), c.skip hx2 hy2 hne2, by show k < p + 1; omega⟩, LE_sh (slh_set (v := .d (int ((p + 1 - k : Nat) : Int))) (slh_set (v := .view 0 k (ks.length - k)) (slh_set (v := .d (int ((kk : Nat) : Int))) (slh_set (v := .row 0) (slh_no _ _) (by rfl) rfl) (by rfl) rfl) (by rfl) rfl) (by show AV.d (.lit (.int .i64 (IntKind.i64.wrap (((p - k : Nat) : Int) + 1)))) = _; rw [wrap_succ (by omega)]; exact congrArg (fun z => AV.d (int z)) (by omega)) rfl) (hlh_set (hlh_no _ _) rfl rfl), by show ks.length - (p + 1) < ks.length - p; omega⟩
        · skip
          have hpg : ks.length ≤ p := by have := h4; simp at this; omega
          refine CW_exit ?_
          show CW _ _ _ _
          refine CW_seq ?_
          refine CW_region ?_
          refine OW_run' hE.ok 2 rfl ?_
          refine OW_loc' hE (loc_viewRow hE rfl rfl rfl rfl rfl (l := kk) rfl (by rw [intRow_len]; show kk < R.length; omega)) rfl rfl rfl ?_
          refine OW_as' 56 (.view 0 kk (ks.length - kk)) (by show AV.view 0 (kk * 1) ((intRow R).length - kk) = _; rw [intRow_len, Nat.mul_one, c.len]) ?_
          refine OW_clearInts' hE (l := kk) (m := ks.length - kk) rfl rfl rfl rfl rfl rfl rfl (ks := R) rfl (by omega) (by omega) ?_
          refine OW_end rfl ?_
          refine CW_seq ?_
          refine CW_region ?_
          refine OW_run' hE.ok 2 rfl ?_
          refine OW_cutRow' hE rfl rfl rfl rfl rfl rfl rfl (u := kk) rfl (by rw [intRow_len]; simp; omega) rfl ?_
          refine OW_run' hE.ok 1 rfl ?_
          refine OW_end rfl ?_
          refine CW_ret ⟨.inr rfl, rfl, 0, rfl, ?_⟩
          show some (Ent.row 3 1 ((intRow (R.take kk ++ List.replicate (ks.length - kk) 0)).take kk)) = some (Ent.row 3 1 (intRow (cI ks)))
          rw [cmp_end c hpg]
      · skip
        have hne : (y == x) = false := h3
        refine CW_skip ?_
        refine CW_region ?_
        refine OW_run' hE.ok 3 rfl ?_
        refine OW_end rfl ?_
        exact ⟨⟨k + 1, by omega, by omega, cI_next hk1 hx hy hne hkd⟩, LE_sh (slh_set (v := .d (int ((k + 1 : Nat) : Int))) (slh_set (v := .row 0) (slh_no _ _) (by rfl) rfl) (by show AV.d (.lit (.int .i64 (IntKind.i64.wrap ((k : Int) + 1)))) = _; rw [wrap_succ (by omega)]; rfl) rfl) (hlh_set (hlh_no _ _) rfl rfl), by show ks.length - (k + 1) < ks.length - k; omega⟩
    · skip
      have hge : ks.length ≤ k := by have := h2; simp [intRow_len] at this; omega
      refine CW_exit ?_
      show CW _ _ _ _
      refine CW_seq ?_
      refine CW_region ?_
      refine OW_run' hE.ok 2 rfl ?_
      refine OW_end rfl ?_
      refine CW_ret ⟨.inr rfl, rfl, 0, rfl, ?_⟩
      show some (Ent.row 3 1 (intRow ks)) = some (Ent.row 3 1 (intRow (cI ks)))
      rw [List.take_of_length_le hge] at hkd
      rw [hkd]
end Go.Proofs.Ytencfmpapdnnaaa
namespace Go.Proofs.Ytencfmpapdnnaaa
open Go Go.AL
set_option linter.unusedVariables false
set_option linter.unusedSimpArgs false
set_option maxHeartbeats 4000000
theorem valS1 (xs : List ByteArray) : Iter Try.prog 77 [] [.d (.iptr [.sl 1 16 (xs.map encB)])] (ysS xs) := by
  refine Iter_of T_ok mixed (N := 16) Try.func77 rfl rfl rfl (by rfl) fun F n Z hE hF l C X hC hX hy => ?_
  refine CW_seq ?_
  refine CW_region ?_
  refine OW_run' hE.ok 3 rfl ?_
  refine OW_end rfl ?_
  refine CW_block ?_
  refine CW_know (know_sl (d := 5) rfl) fun hlen => ?_
  rw [List.length_map] at hlen
  refine CW_loop (σ := {i : Nat // i ≤ xs.length}) (fun i => ⟨C i.1, (sset (sset (sset (sset (sset noSlots 0 (.d (.fn (.yield l) [] []))) 1 (.d (.iptr [.sl 1 16 (xs.map encB)]))) 5 (.d (.sl 1 16 (xs.map encB)))) 6 (.d (.lit (.int .i64 xs.length)))) 7 (.d (.lit (.int .i64 i.1)))), noHeap⟩) (fun i => xs.length - i.1) ⟨0, Nat.zero_le _⟩ (LE_sh (slh_set (slh_set (slh_set (slh_set (slh_set (slh_no _ _) rfl rfl) rfl rfl) rfl rfl) (by show AV.d (.lit (.int .i64 ((xs.map encB).length : Int))) = _; rw [List.length_map]) rfl) rfl rfl) (hlh_no _ _)) fun ⟨i, hi⟩ => ?_
  refine CW_seq ?_
  refine CW_region ?_
  refine OW_run' hE.ok 1 rfl ?_
  refine OW_end rfl ?_
  refine CW_seq ?_
  refine CW_cond _ rfl (fun h1 => ?_) (fun h1 => ?_)
  · skip
    have hlt : i < xs.length := by have := h1; simp at this; omega
    obtain ⟨a, ha⟩ : ∃ a, xs[i]? = some a := ⟨_, List.getElem?_eq_getElem hlt⟩
    refine CW_skip ?_
    refine CW_seq ?_
    refine CW_block ?_
    refine CW_seq ?_
    refine CW_region ?_
    refine OW_loc' hE (loc_indexAddr hE rfl rfl rfl rfl rfl (by omega) (x := encB a) (by simp [ha])) rfl rfl rfl ?_
    refine OW_run' hE.ok 2 rfl ?_
    refine OW_end rfl ?_
    refine CW_seq ?_
    refine CW_region ?_
    refine OW_run' hE.ok 2 rfl ?_
    refine OW_yield' hE hy hC hX (Wrap.id _) (i) rfl rfl rfl rfl rfl rfl (ysS_get ha) rfl rfl rfl ?_ ?_
    · skip
      refine OW_run' hE.ok 1 rfl ?_
      refine OW_end rfl ?_
      refine CW_false rfl ?_
      refine CW_skip ?_
      refine CW_region ?_
      refine OW_run' hE.ok 2 rfl ?_
      refine OW_end rfl ?_
      exact ⟨⟨i + 1, hlt⟩, LE_sh (slh_set (slh_set (slh_set (slh_set (slh_set (slh_no _ _) rfl rfl) rfl rfl) rfl rfl) rfl rfl) (by show AV.d (.lit (.int .i64 (IntKind.i64.wrap (↑i + 1)))) = _; rw [wrap_succ (by omega)]) rfl) (hlh_no _ _), by show xs.length - (i + 1) < xs.length - i; omega⟩
    · skip
      refine OW_run' hE.ok 1 rfl ?_
      refine OW_end rfl ?_
      refine CW_true rfl ?_
      exact CW_ret ⟨.inr rfl, .inr rfl, _, rfl⟩
  · skip
    have hge : ¬ i < xs.length := by have := h1; simp at this; omega
    refine CW_exit ?_
    have hN : i = (ysS xs).length := by rw [ysS_length]; omega
    show RetI _ _ _ _ .normal _
    exact ⟨.inl rfl, .inl (by show C i = _; rw [← hN]), _, rfl⟩

theorem valS (xs : List ByteArray) : Does Try.prog 56 [.d (.sl 1 16 (xs.map encB))] noHeap (.d (.fn (.func 77) [] [.iptr [.sl 1 16 (xs.map encB)]])) := by
  refine Does_of T_ok mixed (N := 4) Try.func56 rfl rfl rfl (by rfl) fun F n Z hE hF J => ?_
  refine CW_seq ?_
  refine CW_region ?_
  refine OW_run' hE.ok 2 rfl ?_
  refine OW_end rfl ?_
  refine CW_seq ?_
  refine CW_region ?_
  refine OW_run' hE.ok 2 rfl ?_
  refine OW_end rfl ?_
  refine CW_ret ?_
  refine ⟨.inr rfl, rfl, ⟨_, rfl, rfl, ?_⟩, rfl⟩
  exact AVle.refl _

theorem valX1 (xs : List Exp) : Iter Try.prog 73 [] [.d (.iptr [.sl 7 96 (xs.map encX)])] (ysX xs) := by
  refine Iter_of T_ok mixed (N := 16) Try.func73 rfl rfl rfl (by rfl) fun F n Z hE hF l C X hC hX hy => ?_
  refine CW_seq ?_
  refine CW_region ?_
  refine OW_run' hE.ok 3 rfl ?_
  refine OW_end rfl ?_
  refine CW_block ?_
  refine CW_know (know_sl (d := 5) rfl) fun hlen => ?_
  rw [List.length_map] at hlen
  refine CW_loop (σ := {i : Nat // i ≤ xs.length}) (fun i => ⟨C i.1, (sset (sset (sset (sset (sset noSlots 0 (.d (.fn (.yield l) [] []))) 1 (.d (.iptr [.sl 7 96 (xs.map encX)]))) 5 (.d (.sl 7 96 (xs.map encX)))) 6 (.d (.lit (.int .i64 xs.length)))) 7 (.d (.lit (.int .i64 i.1)))), noHeap⟩) (fun i => xs.length - i.1) ⟨0, Nat.zero_le _⟩ (LE_sh (slh_set (slh_set (slh_set (slh_set (slh_set (slh_no _ _) rfl rfl) rfl rfl) rfl rfl) (by show AV.d (.lit (.int .i64 ((xs.map encX).length : Int))) = _; rw [List.length_map]) rfl) rfl rfl) (hlh_no _ _)) fun ⟨i, hi⟩ => ?_
  refine CW_seq ?_
  refine CW_region ?_
  refine OW_run' hE.ok 1 rfl ?_
  refine OW_end rfl ?_
  refine CW_seq ?_
  refine CW_cond _ rfl (fun h1 => ?_) (fun h1 => ?_)
  · skip
    have hlt : i < xs.length := by have := h1; simp at this; omega
    obtain ⟨a, ha⟩ : ∃ a, xs[i]? = some a := ⟨_, List.getElem?_eq_getElem hlt⟩
    obtain ⟨o1, v1, c1, f1, k1, rfl⟩ := Exp.shape a
    refine CW_skip ?_
    refine CW_seq ?_
    refine CW_block ?_
    refine CW_seq ?_
    refine CW_region ?_
    refine OW_loc' hE (loc_indexAddr hE rfl rfl rfl rfl rfl (by omega) (x := encX (.mk o1 v1 c1 f1 k1)) (by simp [ha])) rfl rfl rfl ?_
    refine OW_run' hE.ok 1 rfl ?_
    refine OW_alloc' hE 1 rfl rfl rfl rfl rfl rfl rfl ?_
    refine OW_store' hE rfl rfl rfl rfl rfl rfl rfl rfl rfl rfl rfl rfl ?_
    refine OW_end rfl ?_
    refine CW_seq ?_
    refine CW_region ?_
    refine OW_run' hE.ok 2 rfl ?_
    refine OW_yield' hE hy hC hX (Wrap.id _) (i) rfl rfl rfl rfl rfl rfl (ysX_get ha) rfl rfl rfl ?_ ?_
    · skip
      refine OW_run' hE.ok 1 rfl ?_
      refine OW_end rfl ?_
      refine CW_false rfl ?_
      refine CW_skip ?_
      refine CW_region ?_
      refine OW_run' hE.ok 2 rfl ?_
      refine OW_end rfl ?_
      exact ⟨⟨i + 1, hlt⟩, LE_sh (slh_set (slh_set (slh_set (slh_set (slh_set (slh_no _ _) rfl rfl) rfl rfl) rfl rfl) rfl rfl) (by show AV.d (.lit (.int .i64 (IntKind.i64.wrap (↑i + 1)))) = _; rw [wrap_succ (by omega)]) rfl) (hlh_no _ _), by show xs.length - (i + 1) < xs.length - i; omega⟩
    · skip
      refine OW_run' hE.ok 1 rfl ?_
      refine OW_end rfl ?_
      refine CW_true rfl ?_
      exact CW_ret ⟨.inr rfl, .inr rfl, _, rfl⟩
  · skip
    have hge : ¬ i < xs.length := by have := h1; simp at this; omega
    refine CW_exit ?_
    have hN : i = (ysX xs).length := by rw [ysX_length]; omega
    show RetI _ _ _ _ .normal _
    exact ⟨.inl rfl, .inl (by show C i = _; rw [← hN]), _, rfl⟩

theorem valX (xs : List Exp) : Does Try.prog 48 [.d (.sl 7 96 (xs.map encX))] noHeap (.d (.fn (.func 73) [] [.iptr [.sl 7 96 (xs.map encX)]])) := by
  refine Does_of T_ok mixed (N := 4) Try.func48 rfl rfl rfl (by rfl) fun F n Z hE hF J => ?_
  refine CW_seq ?_
  refine CW_region ?_
  refine OW_run' hE.ok 2 rfl ?_
  refine OW_end rfl ?_
  refine CW_seq ?_
  refine CW_region ?_
  refine OW_run' hE.ok 2 rfl ?_
  refine OW_end rfl ?_
  refine CW_ret ?_
  refine ⟨.inr rfl, rfl, ⟨_, rfl, rfl, ?_⟩, rfl⟩
  exact AVle.refl _
end Go.Proofs.Ytencfmpapdnnaaa
namespace Go.Proofs.Ytencfmpapdnnaaa
open Go Go.AL
set_option linter.unusedVariables false
set_option linter.unusedSimpArgs false
set_option maxHeartbeats 4000000
theorem fieldCOk (s : List Ty) (tys : List ByteArray) (nm : ByteArray) (hlen : tys.length ≤ 1000) : Does Try.prog 34 [argS s, .d (.sl 1 16 (tys.map encB)), .d (str nm)] noHeap (.tup [.d (int (fieldC s tys nm).1), .d (errC 45 (fieldC s tys nm).2)]) := by
  refine Does_of T_ok mixed (N := 54) Try.func34 rfl rfl rfl (by rfl) fun F n Z hE hF J => ?_
  refine CW_seq ?_
  refine CW_region ?_
  refine OW_run' hE.ok 2 rfl ?_
  refine OW_alloc' hE 1 rfl rfl rfl rfl rfl rfl rfl ?_
  refine OW_alloc' hE 2 rfl rfl rfl rfl rfl rfl rfl ?_
  refine OW_end rfl ?_
  refine CW_seq ?_
  refine CW_region ?_
  refine OW_litsOwn' hE 50 rfl rfl rfl rfl rfl rfl rfl rfl rfl rfl rfl rfl ?_
  refine OW_alloc' hE 3 rfl rfl rfl rfl rfl rfl rfl ?_
  refine OW_store' hE rfl rfl rfl rfl rfl rfl rfl rfl rfl rfl rfl rfl ?_
  refine OW_end rfl ?_
  refine CW_seq ?_
  refine CW_seq ?_
  refine CW_region ?_
  refine OW_run' hE.ok 1 rfl ?_
  refine OW_call' hE (valS tys) rfl rfl rfl rfl rfl rfl rfl ?_
  refine OW_end rfl ?_
  refine CW_block ?_
  refine CW.le (show LE _ _ ⟨J, (sset (sset (sset (sset (sset (sset noSlots 3 (.d (.iptr [encS s]))) 5 (.d (.iptr [str nm]))) 6 (.ptr 1 0)) 7 (.ptr 2 0)) 8 (.ptr 3 0)) 15 (.d (.fn (.func 77) [] [.iptr [.sl 1 16 (tys.map encB)]]))), (hset (hset (hset (hset noHeap 1 (some (.box 3 [.d (int 0)]))) 2 (some (.box 32 [.d (.lit .nilIface)]))) 50 (some (.row 3 1 (intRow ((fks s nm (tys.take 0)).getD []))))) 3 (some (.box 103 [.row 50])))⟩ from LE_sh (slh_set (v := .d (.fn (.func 77) [] [.iptr [.sl 1 16 (tys.map encB)]])) (slh_set (v := .ptr 3 0) (slh_set (v := .ptr 2 0) (slh_set (v := .ptr 1 0) (slh_set (v := .d (.iptr [str nm])) (slh_set (v := .d (.iptr [encS s])) (slh_no _ _) (by rfl) rfl) (by rfl) rfl) (by rfl) rfl) (by rfl) rfl) (by rfl) rfl) (by rfl) rfl) (hlh_set (hlh_set (hlh_set (hlh_set (hlh_no _ _) rfl rfl) rfl rfl) rfl rfl) rfl rfl)) ?_
  refine CW_rangeH hE hF (valS1 tys) rfl rfl rfl (ysS_kf tys) rfl 9 (fun i => (hset (hset (hset (hset noHeap 1 (some (.box 3 [.d (int 0)]))) 2 (some (.box 32 [.d (.lit .nilIface)]))) 50 (some (.row 3 1 (intRow ((fks s nm (tys.take i)).getD []))))) 3 (some (.box 103 [.row 50]))))
    (fun i => ∃ ks, fks s nm (tys.take i) = some ks) rfl (fun _ => rfl) ⟨[], rfl⟩ (fun F' n' Z' Br Bb hE hB vs i args hargs hp => ?_) (fun hp vs => ?_)
  · skip
    obtain ⟨y, hy, rfl⟩ := ysS_of hargs
    obtain ⟨ks, hks⟩ := hp
    have hil : i < tys.length := (List.getElem?_eq_some_iff.1 hy).1
    have hkl : ks.length = i := by rw [fks_len hks, List.length_take]; omega
    rw [show (fks s nm (tys.take i)).getD [] = ks by rw [hks]; rfl]
    obtain ⟨ft, hft⟩ : ∃ ft, findT s y = ft := ⟨_, rfl⟩
    have hfi := findOk s y
    rw [hft] at hfi
    refine CW_region ?_
    refine OW_run' hE.ok 1 rfl ?_
    refine OW_end rfl ?_
    refine ⟨rfl, rfl, ?_⟩
    refine CW_block ?_
    refine CW_seq ?_
    refine CW_region ?_
    refine OW_run' hE.ok 2 rfl ?_
    refine OW_call' hE (hfi) rfl rfl rfl rfl rfl rfl rfl ?_
    refine OW_run' hE.ok 3 rfl ?_
    refine OW_alloc' hE 4 rfl rfl rfl rfl rfl rfl rfl ?_
    refine OW_store' hE rfl rfl rfl rfl rfl rfl rfl rfl rfl rfl rfl rfl ?_
    refine OW_run' hE.ok 1 rfl ?_
    refine OW_end rfl ?_
    refine CW_seq ?_
    refine CW_region ?_
    refine OW_run' hE.ok 2 rfl ?_
    refine OW_call' hE (fieldOk ft.1 nm) rfl rfl rfl rfl rfl rfl rfl ?_
    refine OW_run' hE.ok 1 rfl ?_
    refine OW_end rfl ?_
    refine CW_seq ?_
    refine CW_seq ?_
    refine CW_region ?_
    refine OW_run' hE.ok 3 rfl ?_
    refine OW_split' 28 rfl (fun h1 => ?_) (fun h1 => ?_)
    · skip
      have q1 : (!ft.2) = true := h1
      refine OW_run' hE.ok 3 rfl ?_
      refine OW_end rfl ?_
      refine CW_true rfl ?_
      refine CW_seq ?_
      refine CW_region ?_
      refine OW_run' hE.ok 1 rfl ?_
      refine OW_store' hE rfl rfl rfl rfl rfl rfl rfl rfl rfl rfl rfl rfl ?_
      refine OW_store' hE rfl rfl rfl rfl rfl rfl rfl rfl rfl rfl rfl rfl ?_
      refine OW_end rfl ?_
      refine CW_ret ⟨_, LE.refl _ _, J, _, fun h => h, rfl, rfl, ?_⟩
      refine ⟨.inr rfl, rfl, ⟨_, rfl, rfl, ?_⟩, rfl⟩
      rw [fieldC_none (fks_bad hy (by rw [hft]; first | simp_all | (simp_all; done)))]
      exact AVle.refl _
    · skip
      have q1 : (!ft.2) = false := h1
      refine OW_run' hE.ok 3 rfl ?_
      refine OW_end rfl ?_
      refine CW_cond _ rfl (fun h2 => ?_) (fun h2 => ?_)
      · skip
        have q2 : decide (fieldAt ft.1 nm < 0) = true := h2
        refine CW_seq ?_
        refine CW_region ?_
        refine OW_run' hE.ok 1 rfl ?_
        refine OW_store' hE rfl rfl rfl rfl rfl rfl rfl rfl rfl rfl rfl rfl ?_
        refine OW_store' hE rfl rfl rfl rfl rfl rfl rfl rfl rfl rfl rfl rfl ?_
        refine OW_end rfl ?_
        refine CW_ret ⟨_, LE.refl _ _, J, _, fun h => h, rfl, rfl, ?_⟩
        refine ⟨.inr rfl, rfl, ⟨_, rfl, rfl, ?_⟩, rfl⟩
        rw [fieldC_none (fks_bad hy (by rw [hft]; first | simp_all | (simp_all; done)))]
        exact AVle.refl _
      · skip
        have q2 : decide (fieldAt ft.1 nm < 0) = false := h2
        have hbad : (!(findT s y).2 || decide (fieldAt (findT s y).1 nm < 0)) = false := by rw [hft, q1, q2]; rfl
        obtain ⟨j, f, hj, hf, hfk⟩ := field_at q2
        refine CW_skip ?_
        refine CW_drawn' hE 8 (by decide +kernel) ?_
        refine HW_run hE 4 rfl rfl ?_
        refine HW_as 36 (.d (int (j : Nat))) (by exact congrArg (fun z => AV.d (int z)) hj) ?_
        refine HW_loc hE (loc_indexAddr hE rfl rfl rfl rfl rfl (by omega) (x := encF f) (by simp [hf])) rfl rfl rfl rfl ?_
        refine HW_run hE 2 rfl rfl ?_
        refine HW_as 39 (.d (int (fkind (findT s y).1 nm))) (by rw [hft]; exact congrArg (fun z => AV.d (int z)) hfk.symm) ?_
        refine HW_loc hE (loc_lits hE (t := 103) (len := 1) (parts := #[(0, .tmp 39)]) rfl rfl rfl rfl rfl rfl rfl rfl (xs := [[int (fkind (findT s y).1 nm)]]) rfl) rfl rfl rfl rfl ?_
        refine HW_end ?_
        refine OW_append' hE (key := 50) rfl rfl rfl rfl rfl rfl rfl rfl (.inl rfl) (by simp [intRow_len]; omega) (by simp [intRow_len]; omega) rfl ?_
        refine OW_store' hE rfl rfl rfl rfl rfl rfl rfl rfl rfl rfl rfl rfl ?_
        refine OW_end rfl ?_
        refine ⟨⟨Bb J, noSlots, (hset (hset (hset (hset (hset noHeap 1 (some (.box 3 [.d (int 0)]))) 2 (some (.box 32 [.d (.lit .nilIface)]))) 50 (some (.row 3 1 (intRow ((fks s nm (tys.take (i + 1))).getD []))))) 3 (some (.box 103 [.row 50]))) 9 (some (.ghost _ vs)))⟩, LE_sh (slh_no _ _) (hlh_set (hlh_set (hlh_set (hlh_set (hlh_set (hlh_no _ _) rfl rfl) rfl rfl) (congrArg (fun z => some (Ent.row 3 1 z)) (by rw [fks_snoc hy hks hbad]; exact intRow_app _ _)) rfl) rfl rfl) rfl rfl), J, rfl, rfl, rfl, ⟨_, fks_snoc hy hks hbad⟩⟩
  · skip
    rw [ysS_length, List.take_length] at hp
    obtain ⟨ks, hks⟩ := hp
    have hkl : ks.length = tys.length := fks_len hks
    rw [ysS_length]
    rw [show (fks s nm (tys.take tys.length)).getD [] = ks by rw [List.take_length, hks]; rfl]
    refine CW_seq ?_
    refine CW_region ?_
    refine OW_run' hE.ok 1 rfl ?_
    refine OW_callIn' hE (compactOk ks (by omega)) rfl rfl rfl rfl rfl rfl rfl ?_
    refine OW_store' hE rfl rfl rfl rfl rfl rfl rfl rfl rfl rfl rfl rfl ?_
    refine OW_end rfl ?_
    refine CW_seq ?_
    refine CW_seq ?_
    refine CW_region ?_
    refine OW_run' hE.ok 1 rfl ?_
    refine OW_run' hE.ok 1 rfl ?_
    refine OW_as' 45 (.d (int (((cI ks).length : Nat) : Int))) (by show AV.d (.lit (.int .i64 (((intRow (cI ks)).length : Nat) : Int))) = _; rw [intRow_len]; rfl) ?_
    refine OW_end rfl ?_
    refine CW_block ?_
    refine CW_seq ?_
    refine CW_region ?_
    refine OW_run' hE.ok 2 rfl ?_
    refine OW_end rfl ?_
    refine CW_cond _ rfl (fun h3 => ?_) (fun h3 => ?_)
    · skip
      have g1 : (cI ks).length = 0 := by have := h3; simp at this; simp [this]
      refine CW_seq ?_
      refine CW_region ?_
      refine OW_store' hE rfl rfl rfl rfl rfl rfl rfl rfl rfl rfl rfl rfl ?_
      refine OW_store' hE rfl rfl rfl rfl rfl rfl rfl rfl rfl rfl rfl rfl ?_
      refine OW_end rfl ?_
      refine CW_ret ?_
      refine ⟨.inr rfl, rfl, ⟨_, rfl, rfl, ?_⟩, rfl⟩
      rw [fieldC_0 hks g1]
      exact AVle.refl _
    · skip
      have g1 : (cI ks).length ≠ 0 := by have := h3; simp at this; simp [this]
      refine CW_seq ?_
      refine CW_region ?_
      refine OW_run' hE.ok 2 rfl ?_
      refine OW_end rfl ?_
      refine CW_cond _ rfl (fun h4 => ?_) (fun h4 => ?_)
      · skip
        have g2 : (cI ks).length = 1 := by have := h4; simp at this; omega
        obtain ⟨k, hk⟩ : ∃ k, cI ks = [k] := List.length_eq_one_iff.1 g2
        rw [hk]
        refine CW_seq ?_
        refine CW_region ?_
        refine OW_run' hE.ok 1 rfl ?_
        refine OW_loc' hE (loc_idxRow hE rfl rfl rfl rfl rfl (j := 0) rfl (by simp [intRow])) rfl rfl rfl ?_
        refine OW_loc' hE (loc_loadRow hE rfl rfl rfl (j := 0) (off := 0) (by omega) rfl (intRow_get (ks := [k]) (j := 0) (x := k) rfl) (Nat.zero_le _) rfl) rfl rfl rfl ?_
        refine OW_store' hE rfl rfl rfl rfl rfl rfl rfl rfl rfl rfl rfl rfl ?_
        refine OW_store' hE rfl rfl rfl rfl rfl rfl rfl rfl rfl rfl rfl rfl ?_
        refine OW_end rfl ?_
        refine CW_ret ?_
        refine ⟨.inr rfl, rfl, ⟨_, rfl, rfl, ?_⟩, rfl⟩
        rw [fieldC_1 hks hk]
        exact AVle.refl _
      · skip
        have g2 : (cI ks).length ≠ 1 := by have := h4; simp at this; omega
        refine CW_skip ?_
        refine CW_seq ?_
        refine CW_region ?_
        refine OW_run' hE.ok 1 rfl ?_
        refine OW_store' hE rfl rfl rfl rfl rfl rfl rfl rfl rfl rfl rfl rfl ?_
        refine OW_store' hE rfl rfl rfl rfl rfl rfl rfl rfl rfl rfl rfl rfl ?_
        refine OW_end rfl ?_
        refine CW_ret ?_
        refine ⟨.inr rfl, rfl, ⟨_, rfl, rfl, ?_⟩, rfl⟩
        rw [fieldC_2 hks g1 g2]
        exact AVle.refl _
end Go.Proofs.Ytencfmpapdnnaaa
namespace Go.Proofs.Ytencfmpapdnnaaa
open Go Go.AL
set_option linter.unusedVariables false
set_option linter.unusedSimpArgs false
set_option maxHeartbeats 4000000
theorem indexL (l : List El) (k : Nat) (first cap : List D) (p : El → Bool) (hc : ∀ a ∈ l, Does Try.prog k (first.map .d ++ [.agg ((encL a).map .d)] ++ cap.map .d) noHeap (.d (boo (p a)))) : Does Try.prog 46 [.d (.sl 11 144 (l.map encL)), .d (.fn (.func k) first cap)] noHeap (.d (int (idx p l))) := by
  refine Does_of T_ok mixed (N := 19) Try.func46 rfl rfl rfl (by rfl) fun F n Z hE hF J => ?_
  refine CW_know (know_sl (d := 0) rfl) fun hlen => ?_
  rw [List.length_map] at hlen
  refine CW_seq ?_
  refine CW_region ?_
  refine OW_run' hE.ok 1 rfl ?_
  refine OW_end rfl ?_
  refine CW_seq ?_
  refine CW_seq ?_
  refine CW_region ?_
  refine OW_run' hE.ok 3 rfl ?_
  refine OW_end rfl ?_
  refine CW_block ?_
  refine CW_loop (σ := {i : Nat // i ≤ l.length ∧ ∀ j a, j < i → l[j]? = some a → p a = false})
    (fun i => ⟨J, (sset (sset (sset (sset noSlots 0 (.d (.sl 11 144 (l.map encL)))) 1 (.d (.fn (.func k) first cap))) 7 (.d (.lit (.int .i64 l.length)))) 8 (.d (.lit (.int .i64 i.1)))), noHeap⟩) (fun i => l.length - i.1) ⟨0, Nat.zero_le _, by omega⟩ (LE_s (sle_set (sle_set (sle_set (sle_set (sle_no _) rfl) rfl) (by show AV.d (.lit (.int .i64 ((l.map encL).length : Int))) = _; rw [List.length_map])) rfl)) fun ⟨i, hi, hp⟩ => ?_
  refine CW_seq ?_
  refine CW_region ?_
  refine OW_run' hE.ok 1 rfl ?_
  refine OW_end rfl ?_
  refine CW_seq ?_
  refine CW_cond _ rfl (fun h1 => ?_) (fun h1 => ?_)
  · skip
    have hlt : i < l.length := by have := h1; simp at this; omega
    obtain ⟨a, ha⟩ : ∃ a, l[i]? = some a := ⟨_, List.getElem?_eq_getElem hlt⟩
    have hcall := hc a (List.mem_of_getElem? ha)
    obtain ⟨y1, y2, y3, y4, y5, y6, y7, y8, y9, rfl⟩ := El.shape a
    refine CW_skip ?_
    refine CW_seq ?_
    refine CW_block ?_
    refine CW_seq ?_
    refine CW_region ?_
    refine OW_run' hE.ok 2 rfl ?_
    refine OW_end rfl ?_
    refine CW_seq ?_
    refine CW_region ?_
    refine OW_run' hE.ok 3 rfl ?_
    refine OW_loc' hE (loc_indexAddr hE rfl rfl rfl rfl rfl (by omega) (x := encL ⟨y1, y2, y3, y4, .mk y5 y6 y7 y8 y9⟩) (by simp [ha])) rfl rfl rfl ?_
    refine OW_run' hE.ok 1 rfl ?_
    refine OW_call' hE (hcall) rfl rfl rfl rfl (kfs_fn rfl) rfl rfl ?_
    refine OW_end rfl ?_
    refine CW_cond _ rfl (fun h2 => ?_) (fun h2 => ?_)
    · skip
      refine CW_seq ?_
      refine CW_region ?_
      refine OW_run' hE.ok 2 rfl ?_
      refine OW_end rfl ?_
      refine CW_ret ?_
      refine ⟨.inr rfl, rfl, ⟨_, rfl, rfl, ?_⟩, rfl⟩
      rw [idx_some ha h2 hp]
      exact AVle.refl _
    · skip
      refine CW_skip ?_
      refine CW_region ?_
      refine OW_run' hE.ok 2 rfl ?_
      refine OW_end rfl ?_
      refine ⟨⟨i + 1, hlt, fun j b hj hb => ?_⟩, LE_s (sle_set (sle_set (sle_set (sle_set (sle_no _) rfl) rfl) rfl) (by show AV.d (.lit (.int .i64 (IntKind.i64.wrap (↑i + 1)))) = _; rw [wrap_succ (by omega)])), by show l.length - (i + 1) < l.length - i; omega⟩
      by_cases hji : j = i
      · subst hji; rw [ha] at hb; cases hb; exact h2
      · exact hp j b (by omega) hb
  · skip
    have hge : ¬ i < l.length := by have := h1; simp at this; omega
    refine CW_exit ?_
    show CW _ _ _ _
    refine CW_seq ?_
    refine CW_region ?_
    refine OW_run' hE.ok 1 rfl ?_
    refine OW_end rfl ?_
    refine CW_ret ?_
    refine ⟨.inr rfl, rfl, ⟨_, rfl, rfl, ?_⟩, rfl⟩
    rw [idx_none (fun j b hj => hp j b (by omega))]
    exact AVle.refl _

theorem containsL (l : List El) (k : Nat) (first cap : List D) (p : El → Bool) (hc : ∀ a ∈ l, Does Try.prog k (first.map .d ++ [.agg ((encL a).map .d)] ++ cap.map .d) noHeap (.d (boo (p a)))) : Does Try.prog 51 [.d (.sl 11 144 (l.map encL)), .d (.fn (.func k) first cap)] noHeap (.d (boo (l.any p))) := by
  refine Does_of T_ok mixed (N := 9) Try.func51 rfl rfl rfl (by rfl) fun F n Z hE hF J => ?_
  refine CW_seq ?_
  refine CW_region ?_
  refine OW_run' hE.ok 1 rfl ?_
  refine OW_end rfl ?_
  refine CW_seq ?_
  refine CW_region ?_
  refine OW_run' hE.ok 2 rfl ?_
  refine OW_call' hE (indexL l k first cap p hc) rfl rfl rfl rfl rfl rfl rfl ?_
  refine OW_run' hE.ok 2 rfl ?_
  refine OW_end rfl ?_
  refine CW_ret ?_
  refine ⟨.inr rfl, rfl, ⟨_, rfl, rfl, ?_⟩, rfl⟩
  exact AVle.of (congrArg (fun b => AV.d (boo b)) (by exact any_idxX))

theorem pat1 (x e : El) : Does Try.prog 52 [argL x, .d (.iptr (encL e))] noHeap (.d (boo (same x.al e.al))) := by
  refine Does_of T_ok mixed (N := 9) Try.func52 rfl rfl rfl (by rfl) fun F n Z hE hF J => ?_
  obtain ⟨y1, y2, y3, y4, y5, y6, y7, y8, y9, rfl⟩ := El.shape x
  obtain ⟨z1, z2, z3, z4, z5, z6, z7, z8, z9, rfl⟩ := El.shape e
  refine CW_seq ?_
  refine CW_region ?_
  refine OW_run' hE.ok 2 rfl ?_
  refine OW_end rfl ?_
  refine CW_seq ?_
  refine CW_region ?_
  refine OW_run' hE.ok 6 rfl ?_
  refine OW_end rfl ?_
  refine CW_ret ?_
  refine ⟨.inr rfl, rfl, ⟨_, rfl, rfl, ?_⟩, rfl⟩
  exact AVle.refl _

theorem isElemOk (e : El) : Does Try.prog 53 [argL e] noHeap (.d (boo (isElemX e))) := by
  refine Does_of T_ok mixed (N := 55) Try.func53 rfl rfl rfl (by rfl) fun F n Z hE hF J => ?_
  obtain ⟨al, tys, pl, ng, o, v, a, f, ks, rfl⟩ := El.shape e
  have hsx := sameXOk (.mk o v a f ks) zeroX
  have hix := isXOk (.mk o v a f ks)
  have hrise := riseOk tys
  refine CW_seq ?_
  refine CW_region ?_
  refine OW_run' hE.ok 2 rfl ?_
  refine OW_end rfl ?_
  refine CW_cutE (fun _ : Unit => ⟨J, (sset noSlots 1 (.d (.iptr (encL ⟨al, tys, pl, ng, .mk o v a f ks⟩)))), noHeap⟩) (fun _ => headL ⟨al, tys, pl, ng, .mk o v a f ks⟩ = true) ?_ ?_
  · skip
    refine CW_seq ?_
    refine CW_region ?_
    refine OW_run' hE.ok 2 rfl ?_
    refine OW_call' hE (nameOk _) rfl rfl rfl rfl rfl rfl rfl ?_
    refine OW_run' hE.ok 2 rfl ?_
    refine OW_split' 9 rfl (fun h1 => ?_) (fun h1 => ?_)
    · skip
      have g1 : isName al = false := by simpa using h1
      have hb : headL ⟨al, tys, pl, ng, .mk o v a f ks⟩ = false := by unfold headL; dsimp only; rw [g1]; rfl
      refine OW_run' hE.ok 25 rfl ?_
      refine OW_end rfl ?_
      refine CW_true rfl ?_
      refine CW_seq ?_
      refine CW_region ?_
      refine OW_run' hE.ok 1 rfl ?_
      refine OW_end rfl ?_
      refine CW_ret ?_
      refine ⟨.inr rfl, rfl, ⟨_, rfl, rfl, ?_⟩, rfl⟩
      exact AVle.of (congrArg (fun b => AV.d (boo b)) (by unfold isElemX; rw [hb]; rfl))
    · skip
      have g1 : isName al = true := by simpa using h1
      refine OW_run' hE.ok 6 rfl ?_
      refine OW_split' 15 rfl (fun h2 => ?_) (fun h2 => ?_)
      · skip
        have g2 : decide ((tys.length : Int) < 1) = true := by have := h2; rw [List.length_map] at this; exact this
        have hb : headL ⟨al, tys, pl, ng, .mk o v a f ks⟩ = false := by unfold headL; dsimp only; rw [g1, g2]; rfl
        refine OW_run' hE.ok 19 rfl ?_
        refine OW_end rfl ?_
        refine CW_true rfl ?_
        refine CW_seq ?_
        refine CW_region ?_
        refine OW_run' hE.ok 1 rfl ?_
        refine OW_end rfl ?_
        refine CW_ret ?_
        refine ⟨.inr rfl, rfl, ⟨_, rfl, rfl, ?_⟩, rfl⟩
        exact AVle.of (congrArg (fun b => AV.d (boo b)) (by unfold isElemX; rw [hb]; rfl))
      · skip
        have g2 : decide ((tys.length : Int) < 1) = false := by have := h2; rw [List.length_map] at this; exact this
        refine OW_run' hE.ok 6 rfl ?_
        refine OW_split' 21 rfl (fun h3 => ?_) (fun h3 => ?_)
        · skip
          have g3 : decide ((tys.length : Int) > 3) = true := by have := h3; rw [List.length_map] at this; exact this
          have hb : headL ⟨al, tys, pl, ng, .mk o v a f ks⟩ = false := by unfold headL; dsimp only; rw [g1, g2, g3]; rfl
          refine OW_run' hE.ok 13 rfl ?_
          refine OW_end rfl ?_
          refine CW_true rfl ?_
          refine CW_seq ?_
          refine CW_region ?_
          refine OW_run' hE.ok 1 rfl ?_
          refine OW_end rfl ?_
          refine CW_ret ?_
          refine ⟨.inr rfl, rfl, ⟨_, rfl, rfl, ?_⟩, rfl⟩
          exact AVle.of (congrArg (fun b => AV.d (boo b)) (by unfold isElemX; rw [hb]; rfl))
        · skip
          have g3 : decide ((tys.length : Int) > 3) = false := by have := h3; rw [List.length_map] at this; exact this
          refine OW_run' hE.ok 2 rfl ?_
          refine OW_call' hE (hrise) rfl rfl rfl rfl rfl rfl rfl ?_
          refine OW_run' hE.ok 3 rfl ?_
          refine OW_split' 27 rfl (fun h4 => ?_) (fun h4 => ?_)
          · skip
            have g4 : rise tys = false := by simpa using h4
            have hb : headL ⟨al, tys, pl, ng, .mk o v a f ks⟩ = false := by unfold headL; dsimp only; rw [g1, g2, g3, g4]; rfl
            refine OW_run' hE.ok 7 rfl ?_
            refine OW_end rfl ?_
            refine CW_true rfl ?_
            refine CW_seq ?_
            refine CW_region ?_
            refine OW_run' hE.ok 1 rfl ?_
            refine OW_end rfl ?_
            refine CW_ret ?_
            refine ⟨.inr rfl, rfl, ⟨_, rfl, rfl, ?_⟩, rfl⟩
            exact AVle.of (congrArg (fun b => AV.d (boo b)) (by unfold isElemX; rw [hb]; rfl))
          · skip
            have g4 : rise tys = true := by simpa using h4
            refine OW_run' hE.ok 3 rfl ?_
            refine OW_split' 30 rfl (fun h5 => ?_) (fun h5 => ?_)
            · skip
              have g5 : pl = true := h5
              refine OW_run' hE.ok 4 rfl ?_
              refine OW_end rfl ?_
              refine CW_cond _ rfl (fun h6 => ?_) (fun h6 => ?_)
              · skip
                have g6 : ng = true := h6
                have hb : headL ⟨al, tys, pl, ng, .mk o v a f ks⟩ = false := by unfold headL; dsimp only; rw [g1, g2, g3, g4, g5, g6]; rfl
                refine CW_seq ?_
                refine CW_region ?_
                refine OW_run' hE.ok 1 rfl ?_
                refine OW_end rfl ?_
                refine CW_ret ?_
                refine ⟨.inr rfl, rfl, ⟨_, rfl, rfl, ?_⟩, rfl⟩
                exact AVle.of (congrArg (fun b => AV.d (boo b)) (by unfold isElemX; rw [hb]; rfl))
              · skip
                have g6 : ng = false := h6
                have hh : headL ⟨al, tys, pl, ng, .mk o v a f ks⟩ = true := by unfold headL; dsimp only; rw [g1, g2, g3, g4, g5, g6]; rfl
                refine CW_skip ?_
                exact ⟨(), hh, LE_sh (slh_set (slh_no _ _) rfl rfl) (hlh_no _ _)⟩
            · skip
              have g5 : pl = false := h5
              have hh : headL ⟨al, tys, pl, ng, .mk o v a f ks⟩ = true := by unfold headL; dsimp only; rw [g1, g2, g3, g4, g5]; rfl
              refine OW_run' hE.ok 4 rfl ?_
              refine OW_end rfl ?_
              refine CW_false rfl ?_
              refine CW_skip ?_
              exact ⟨(), hh, LE_sh (slh_set (slh_no _ _) rfl rfl) (hlh_no _ _)⟩
  · skip
    rintro _ hh
    refine CW_seq ?_
    refine CW_seq ?_
    refine CW_region ?_
    refine OW_run' hE.ok 4 rfl ?_
    refine OW_end rfl ?_
    refine CW_block ?_
    refine CW_know (know_sl (d := 36) rfl) fun hlen => ?_
    rw [List.length_map] at hlen
    dsimp only at hlen
    refine CW_loop (σ := {i : Nat // i ≤ tys.length ∧ ∀ j b, j < i → tys[j]? = some b → isName b = true}) (fun i => ⟨J, (sset (sset (sset (sset noSlots 1 (.d (.iptr (encL ⟨al, tys, pl, ng, .mk o v a f ks⟩)))) 36 (.d (.sl 1 16 (tys.map encB)))) 37 (.d (int ((tys.length : Nat) : Int)))) 38 (.d (int ((i.1 : Nat) : Int)))), noHeap⟩) (fun i => tys.length - i.1) ⟨0, Nat.zero_le _, fun j b hj => by omega⟩ (LE_sh (slh_set (slh_set (slh_set (slh_set (slh_no _ _) rfl rfl) rfl rfl) (by show AV.d (.lit (.int .i64 ((tys.map encB).length : Int))) = _; rw [List.length_map]; rfl) rfl) rfl rfl) (hlh_no _ _)) fun ⟨i, hi, hp⟩ => ?_
    refine CW_seq ?_
    refine CW_region ?_
    refine OW_run' hE.ok 1 rfl ?_
    refine OW_end rfl ?_
    refine CW_seq ?_
    refine CW_cond _ rfl (fun h7 => ?_) (fun h7 => ?_)
    · skip
      have hlt : i < tys.length := by have := h7; simp at this; omega
      obtain ⟨b, hb⟩ : ∃ b, tys[i]? = some b := ⟨_, List.getElem?_eq_getElem hlt⟩
      refine CW_skip ?_
      refine CW_seq ?_
      refine CW_block ?_
      refine CW_seq ?_
      refine CW_region ?_
      refine OW_loc' hE (loc_indexAddr hE rfl rfl rfl rfl rfl (by omega) (x := encB b) (by simp [hb])) rfl rfl rfl ?_
      refine OW_run' hE.ok 2 rfl ?_
      refine OW_end rfl ?_
      refine CW_seq ?_
      refine CW_region ?_
      refine OW_run' hE.ok 1 rfl ?_
      refine OW_call' hE (nameOk _) rfl rfl rfl rfl rfl rfl rfl ?_
      refine OW_run' hE.ok 1 rfl ?_
      refine OW_end rfl ?_
      refine CW_cond _ rfl (fun h8 => ?_) (fun h8 => ?_)
      · skip
        have hbad : isName b = false := by simpa using h8
        refine CW_seq ?_
        refine CW_region ?_
        refine OW_run' hE.ok 1 rfl ?_
        refine OW_end rfl ?_
        refine CW_ret ?_
        refine ⟨.inr rfl, rfl, ⟨_, rfl, rfl, ?_⟩, rfl⟩
        exact AVle.of (congrArg (fun b => AV.d (boo b)) (by rw [isElem_bad (e := ⟨al, tys, pl, ng, .mk o v a f ks⟩) hh hb hbad]))
      · skip
        have hgood : isName b = true := by simpa using h8
        refine CW_skip ?_
        refine CW_region ?_
        refine OW_run' hE.ok 2 rfl ?_
        refine OW_end rfl ?_
        refine ⟨⟨i + 1, by omega, fun j x hj hx => ?_⟩, LE_sh (slh_set (slh_set (slh_set (slh_set (slh_no _ _) rfl rfl) rfl rfl) rfl rfl) (by show AV.d (.lit (.int .i64 (IntKind.i64.wrap (↑i + 1)))) = _; rw [wrap_succ (by omega)]; rfl) rfl) (hlh_no _ _), by show tys.length - (i + 1) < tys.length - i; omega⟩
        by_cases hji : j = i
        · subst hji; rw [hb] at hx; cases hx; exact hgood
        · exact hp j x (by omega) hx
    · skip
      have hge : tys.length ≤ i := by have := h7; simp at this; omega
      have hall : tys.all isName = true := all_of fun j b hj hb => hp j b (by omega) hb
      refine CW_exit ?_
      show CW _ _ _ _
      refine CW_seq ?_
      refine CW_region ?_
      refine OW_run' hE.ok 2 rfl ?_
      refine OW_build' hE rfl rfl rfl rfl rfl ?_
      refine OW.le (LE_slot 48 (argX zeroX) (AVle.agg (.cons (.refl _) (.cons (.refl _) (.cons (.refl _) (.cons (.refl _) (.cons (.refl _) (.cons (.refl _) (.cons (.nilSl 7 96) .nil))))))))) ?_
      refine OW_call' hE (hsx) rfl rfl rfl rfl rfl rfl rfl ?_
      refine OW_run' hE.ok 1 rfl ?_
      refine OW_split' 50 rfl (fun h9 => ?_) (fun h9 => ?_)
      · skip
        have g7 := h9
        refine OW_run' hE.ok 5 rfl ?_
        refine OW_end rfl ?_
        refine CW_ret ?_
        refine ⟨.inr rfl, rfl, ⟨_, rfl, rfl, ?_⟩, rfl⟩
        exact AVle.of (congrArg (fun b => AV.d (boo b)) (by unfold isElemX; rw [hh]; dsimp only; rw [hall, g7]; rfl))
      · skip
        have g7 := h9
        refine OW_run' hE.ok 2 rfl ?_
        refine OW_call' hE (hix) rfl rfl rfl rfl rfl rfl rfl ?_
        refine OW_run' hE.ok 2 rfl ?_
        refine OW_end rfl ?_
        refine CW_ret ?_
        refine ⟨.inr rfl, rfl, ⟨_, rfl, rfl, ?_⟩, rfl⟩
        exact AVle.of (congrArg (fun b => AV.d (boo b)) (by unfold isElemX; rw [hh]; dsimp only; rw [hall, g7]; rfl))

theorem isPatOk (p : Pat) : Does Try.prog 32 [argP p] noHeap (.d (boo (isPat p))) := by
  refine Does_of T_ok mixed (N := 87) Try.func32 rfl rfl rfl (by rfl) fun F n Z hE hF J => ?_
  obtain ⟨els, wi, byf, an⟩ := p
  have hname := nameOk byf
  refine CW_seq ?_
  refine CW_region ?_
  refine OW_run' hE.ok 2 rfl ?_
  refine OW_end rfl ?_
  refine CW_seq ?_
  refine CW_region ?_
  refine OW_run' hE.ok 4 rfl ?_
  refine OW_as' 3 (.d (int ((els.length : Nat) : Int))) (by show AV.d (.lit (.int .i64 ((els.map encL).length : Int))) = _; rw [List.length_map]; rfl) ?_
  refine OW_end rfl ?_
  refine CW_cutE (fun _ : Unit => ⟨J, (sset noSlots 1 (.d (.iptr (encP ⟨els, wi, byf, an⟩)))), noHeap⟩) (fun _ => headP ⟨els, wi, byf, an⟩ = true ∧ els.length ≤ 5) ?_ ?_
  · skip
    refine CW_seq ?_
    refine CW_region ?_
    refine OW_run' hE.ok 3 rfl ?_
    refine OW_split' 12 rfl (fun h1 => ?_) (fun h1 => ?_)
    · skip
      have g1 : decide ((els.length : Int) < 1) = true := h1
      have hb : isPat ⟨els, wi, byf, an⟩ = false := by unfold isPat headP; dsimp only; rw [g1]; rfl
      refine OW_run' hE.ok 40 rfl ?_
      refine OW_end rfl ?_
      refine CW_true rfl ?_
      refine CW_seq ?_
      refine CW_region ?_
      refine OW_run' hE.ok 1 rfl ?_
      refine OW_end rfl ?_
      refine CW_ret ?_
      refine ⟨.inr rfl, rfl, ⟨[.d (boo false)], rfl, rfl, ?_⟩, rfl⟩
      exact AVle.of (congrArg (fun b => AV.d (boo b)) (by rw [hb]))
    · skip
      have g1 : decide ((els.length : Int) < 1) = false := h1
      refine OW_run' hE.ok 4 rfl ?_
      refine OW_split' 16 rfl (fun h2 => ?_) (fun h2 => ?_)
      · skip
        have g2 : decide ((els.length : Int) > 5) = true := h2
        have hb : isPat ⟨els, wi, byf, an⟩ = false := by unfold isPat headP; dsimp only; rw [g1, g2]; rfl
        refine OW_run' hE.ok 36 rfl ?_
        refine OW_end rfl ?_
        refine CW_true rfl ?_
        refine CW_seq ?_
        refine CW_region ?_
        refine OW_run' hE.ok 1 rfl ?_
        refine OW_end rfl ?_
        refine CW_ret ?_
        refine ⟨.inr rfl, rfl, ⟨[.d (boo false)], rfl, rfl, ?_⟩, rfl⟩
        exact AVle.of (congrArg (fun b => AV.d (boo b)) (by rw [hb]))
      · skip
        have g2 : decide ((els.length : Int) > 5) = false := h2
        have hl1 : 1 ≤ els.length := by simp at g1; omega
        have hl5 : els.length ≤ 5 := by simp at g2; omega
        obtain ⟨e0, he0⟩ : ∃ e0, els[0]? = some e0 := ⟨_, List.getElem?_eq_getElem (by omega)⟩
        obtain ⟨y1, y2, y3, y4, y5, y6, y7, y8, y9, rfl⟩ := El.shape e0
        refine OW_run' hE.ok 2 rfl ?_
        refine OW_loc' hE (loc_indexAddr hE rfl rfl rfl rfl rfl (by omega) (x := encL ⟨y1, y2, y3, y4, .mk y5 y6 y7 y8 y9⟩) (by simp [he0])) rfl rfl rfl ?_
        refine OW_run' hE.ok 4 rfl ?_
        refine OW_split' 23 rfl (fun h3 => ?_) (fun h3 => ?_)
        · skip
          have g3 : negAt ⟨els, wi, byf, an⟩ 0 = true := (negAt_of (p := ⟨els, wi, byf, an⟩) he0).trans h3
          have hb : isPat ⟨els, wi, byf, an⟩ = false := by unfold isPat headP; dsimp only; rw [g1, g2, g3]; rfl
          refine OW_run' hE.ok 29 rfl ?_
          refine OW_end rfl ?_
          refine CW_true rfl ?_
          refine CW_seq ?_
          refine CW_region ?_
          refine OW_run' hE.ok 1 rfl ?_
          refine OW_end rfl ?_
          refine CW_ret ?_
          refine ⟨.inr rfl, rfl, ⟨[.d (boo false)], rfl, rfl, ?_⟩, rfl⟩
          exact AVle.of (congrArg (fun b => AV.d (boo b)) (by rw [hb]))
        · skip
          have g3 : negAt ⟨els, wi, byf, an⟩ 0 = false := (negAt_of (p := ⟨els, wi, byf, an⟩) he0).trans h3
          obtain ⟨en, hen⟩ : ∃ en, els[els.length - 1]? = some en := ⟨_, List.getElem?_eq_getElem (by omega)⟩
          obtain ⟨z1, z2, z3, z4, z5, z6, z7, z8, z9, rfl⟩ := El.shape en
          refine OW_run' hE.ok 4 rfl ?_
          refine OW_as' 27 (.d (int ((els.length - 1 : Nat) : Int))) (by show AV.d (.lit (.int .i64 (IntKind.i64.wrap ((els.length : Int) - 1)))) = _; rw [show ((els.length : Int) - 1) = ((els.length - 1 : Nat) : Int) by omega, wrapS (by omega)]; rfl) ?_
          refine OW_loc' hE (loc_indexAddr hE rfl rfl rfl rfl rfl (by omega) (x := encL ⟨z1, z2, z3, z4, .mk z5 z6 z7 z8 z9⟩) (by simp [hen])) rfl rfl rfl ?_
          refine OW_run' hE.ok 4 rfl ?_
          refine OW_split' 32 rfl (fun h4 => ?_) (fun h4 => ?_)
          · skip
            have g4 : negAt ⟨els, wi, byf, an⟩ (els.length - 1) = true := (negAt_of (p := ⟨els, wi, byf, an⟩) hen).trans h4
            have hb : isPat ⟨els, wi, byf, an⟩ = false := by unfold isPat headP; dsimp only; rw [g1, g2, g3, g4]; rfl
            refine OW_run' hE.ok 20 rfl ?_
            refine OW_end rfl ?_
            refine CW_true rfl ?_
            refine CW_seq ?_
            refine CW_region ?_
            refine OW_run' hE.ok 1 rfl ?_
            refine OW_end rfl ?_
            refine CW_ret ?_
            refine ⟨.inr rfl, rfl, ⟨[.d (boo false)], rfl, rfl, ?_⟩, rfl⟩
            exact AVle.of (congrArg (fun b => AV.d (boo b)) (by rw [hb]))
          · skip
            have g4 : negAt ⟨els, wi, byf, an⟩ (els.length - 1) = false := (negAt_of (p := ⟨els, wi, byf, an⟩) hen).trans h4
            refine OW_run' hE.ok 5 rfl ?_
            refine OW_split' 37 rfl (fun h5 => ?_) (fun h5 => ?_)
            · skip
              have g5 : decide (wi < 0) = true := h5
              have hb : isPat ⟨els, wi, byf, an⟩ = false := by unfold isPat headP; dsimp only; rw [g1, g2, g3, g4, g5]; rfl
              refine OW_run' hE.ok 15 rfl ?_
              refine OW_end rfl ?_
              refine CW_true rfl ?_
              refine CW_seq ?_
              refine CW_region ?_
              refine OW_run' hE.ok 1 rfl ?_
              refine OW_end rfl ?_
              refine CW_ret ?_
              refine ⟨.inr rfl, rfl, ⟨[.d (boo false)], rfl, rfl, ?_⟩, rfl⟩
              exact AVle.of (congrArg (fun b => AV.d (boo b)) (by rw [hb]))
            · skip
              have g5 : decide (wi < 0) = false := h5
              refine OW_run' hE.ok 5 rfl ?_
              refine OW_split' 42 rfl (fun h6 => ?_) (fun h6 => ?_)
              · skip
                have g6 : decide (wi > 1000) = true := h6
                have hb : isPat ⟨els, wi, byf, an⟩ = false := by unfold isPat headP; dsimp only; rw [g1, g2, g3, g4, g5, g6]; rfl
                refine OW_run' hE.ok 10 rfl ?_
                refine OW_end rfl ?_
                refine CW_true rfl ?_
                refine CW_seq ?_
                refine CW_region ?_
                refine OW_run' hE.ok 1 rfl ?_
                refine OW_end rfl ?_
                refine CW_ret ?_
                refine ⟨.inr rfl, rfl, ⟨[.d (boo false)], rfl, rfl, ?_⟩, rfl⟩
                exact AVle.of (congrArg (fun b => AV.d (boo b)) (by rw [hb]))
              · skip
                have g6 : decide (wi > 1000) = false := h6
                refine OW_run' hE.ok 4 rfl ?_
                refine OW_split' 46 rfl (fun h7 => ?_) (fun h7 => ?_)
                · skip
                  have g7 : (!(same byf nul)) = true := h7
                  refine OW_run' hE.ok 2 rfl ?_
                  refine OW_call' hE (hname) rfl rfl rfl rfl rfl rfl rfl ?_
                  refine OW_run' hE.ok 3 rfl ?_
                  refine OW_end rfl ?_
                  refine CW_cond _ rfl (fun h8 => ?_) (fun h8 => ?_)
                  · skip
                    have g8 : isName byf = false := by simpa using h8
                    have hb : isPat ⟨els, wi, byf, an⟩ = false := by unfold isPat headP; dsimp only; rw [g1, g2, g3, g4, g5, g6, g7, g8]; rfl
                    refine CW_seq ?_
                    refine CW_region ?_
                    refine OW_run' hE.ok 1 rfl ?_
                    refine OW_end rfl ?_
                    refine CW_ret ?_
                    refine ⟨.inr rfl, rfl, ⟨[.d (boo false)], rfl, rfl, ?_⟩, rfl⟩
                    exact AVle.of (congrArg (fun b => AV.d (boo b)) (by rw [hb]))
                  · skip
                    have g8 : isName byf = true := by simpa using h8
                    have hh : headP ⟨els, wi, byf, an⟩ = true := by unfold headP; dsimp only; rw [g1, g2, g3, g4, g5, g6, g7, g8]; rfl
                    refine CW_skip ?_
                    exact ⟨(), ⟨hh, hl5⟩, LE_sh (slh_set (slh_no _ _) rfl rfl) (hlh_no _ _)⟩
                · skip
                  have g7 : (!(same byf nul)) = false := h7
                  have hh : headP ⟨els, wi, byf, an⟩ = true := by unfold headP; dsimp only; rw [g1, g2, g3, g4, g5, g6, g7]; rfl
                  refine OW_run' hE.ok 6 rfl ?_
                  refine OW_end rfl ?_
                  refine CW_false rfl ?_
                  refine CW_skip ?_
                  exact ⟨(), ⟨hh, hl5⟩, LE_sh (slh_set (slh_no _ _) rfl rfl) (hlh_no _ _)⟩
  · skip
    rintro _ ⟨hh, hl5⟩
    refine CW_seq ?_
    refine CW_seq ?_
    refine CW_region ?_
    refine OW_run' hE.ok 4 rfl ?_
    refine OW_end rfl ?_
    refine CW_block ?_
    refine CW_loop (σ := {i : Nat // i ≤ els.length ∧ ∀ j x, j < i → els[j]? = some x → elOk ⟨els, wi, byf, an⟩ j x = true}) (fun i => ⟨J, (sset (sset (sset (sset noSlots 1 (.d (.iptr (encP ⟨els, wi, byf, an⟩)))) 54 (.d (.sl 11 144 (els.map encL)))) 55 (.d (int ((els.length : Nat) : Int)))) 56 (.d (int ((i.1 : Nat) : Int)))), noHeap⟩) (fun i => els.length - i.1) ⟨0, Nat.zero_le _, fun j b hj => by omega⟩ (LE_sh (slh_set (slh_set (slh_set (slh_set (slh_no _ _) rfl rfl) rfl rfl) (by show AV.d (.lit (.int .i64 ((els.map encL).length : Int))) = _; rw [List.length_map]; rfl) rfl) rfl rfl) (hlh_no _ _)) fun ⟨i, hi, hp⟩ => ?_
    refine CW_seq ?_
    refine CW_region ?_
    refine OW_run' hE.ok 1 rfl ?_
    refine OW_end rfl ?_
    refine CW_seq ?_
    refine CW_cond _ rfl (fun h9 => ?_) (fun h9 => ?_)
    · skip
      have hlt : i < els.length := by have := h9; simp at this; omega
      obtain ⟨x0, hx0⟩ : ∃ x0, els[i]? = some x0 := ⟨_, List.getElem?_eq_getElem hlt⟩
      have hel := isElemOk x0
      have hcon := containsL (els.take i) 52 [] [.iptr (encL x0)] (fun x => same x.al x0.al) (fun a _ => pat1 a x0)
      obtain ⟨y1, y2, y3, y4, y5, y6, y7, y8, y9, rfl⟩ := El.shape x0
      refine CW_skip ?_
      refine CW_seq ?_
      refine CW_block ?_
      refine CW_seq ?_
      refine CW_region ?_
      refine OW_run' hE.ok 1 rfl ?_
      refine OW_loc' hE (loc_indexAddr hE rfl rfl rfl rfl rfl (by omega) (x := encL ⟨y1, y2, y3, y4, .mk y5 y6 y7 y8 y9⟩) (by simp [hx0])) rfl rfl rfl ?_
      refine OW_run' hE.ok 1 rfl ?_
      refine OW_alloc' hE 1 rfl rfl rfl rfl rfl rfl rfl ?_
      refine OW_run' hE.ok 1 rfl ?_
      refine OW_store' hE rfl rfl rfl rfl rfl rfl rfl rfl rfl rfl rfl rfl ?_
      refine OW_end rfl ?_
      refine CW_seq ?_
      refine CW.le (LE_freezeBox 1 (ds := encL ⟨y1, y2, y3, y4, .mk y5 y6 y7 y8 y9⟩) rfl rfl) ?_
      refine CW.le (show LE _ _ ⟨J, (sset (sset (sset (sset (sset (sset noSlots 1 (.d (.iptr (encP ⟨els, wi, byf, an⟩)))) 54 (.d (.sl 11 144 (els.map encL)))) 55 (.d (int ((els.length : Nat) : Int)))) 56 (.d (int ((i : Nat) : Int)))) 4 (.d (int ((i : Nat) : Int)))) 5 (.d (.iptr (encL ⟨y1, y2, y3, y4, .mk y5 y6 y7 y8 y9⟩)))), noHeap⟩ from LE_sh (slh_set (slh_set (slh_set (slh_set (slh_set (slh_set (slh_no _ _) rfl rfl) rfl rfl) rfl rfl) rfl rfl) rfl rfl) rfl rfl) (hlh_no _ _)) ?_
      refine CW_region ?_
      refine OW_run' hE.ok 3 rfl ?_
      refine OW_loc' hE (loc_slice hE (lo := none) (hi := some (.tmp 63)) rfl rfl rfl rfl (l := 0) (u := i) rfl ⟨.i64, rfl⟩ (by omega) (by simp; omega)) rfl rfl rfl ?_
      refine OW_as' 64 (.d (.sl 11 144 ((els.take i).map encL))) (by rw [List.map_take]; rfl) ?_
      refine OW_run' hE.ok 1 rfl ?_
      refine OW_call' hE (hcon) rfl rfl rfl rfl rfl rfl rfl ?_
      refine OW_run' hE.ok 1 rfl ?_
      refine OW_end rfl ?_
      refine CW_seq ?_
      refine CW_region ?_
      refine OW_run' hE.ok 1 rfl ?_
      refine OW_call' hE (hel) rfl rfl rfl rfl rfl rfl rfl ?_
      refine OW_run' hE.ok 2 rfl ?_
      refine OW_split' 70 rfl (fun h10 => ?_) (fun h10 => ?_)
      · skip
        have k1 : isElemX ⟨y1, y2, y3, y4, .mk y5 y6 y7 y8 y9⟩ = false := by simpa using h10
        have hb : elOk ⟨els, wi, byf, an⟩ i ⟨y1, y2, y3, y4, .mk y5 y6 y7 y8 y9⟩ = false := by unfold elOk; dsimp only; rw [k1]; rfl
        refine OW_run' hE.ok 15 rfl ?_
        refine OW_end rfl ?_
        refine CW_true rfl ?_
        refine CW_seq ?_
        refine CW_region ?_
        refine OW_run' hE.ok 1 rfl ?_
        refine OW_end rfl ?_
        refine CW_ret ?_
        refine ⟨.inr rfl, rfl, ⟨[.d (boo false)], rfl, rfl, ?_⟩, rfl⟩
        exact AVle.of (congrArg (fun b => AV.d (boo b)) (by rw [isPat_bad hh hx0 hb]))
      · skip
        have k1 : isElemX ⟨y1, y2, y3, y4, .mk y5 y6 y7 y8 y9⟩ = true := by simpa using h10
        refine OW_run' hE.ok 3 rfl ?_
        refine OW_split' 73 rfl (fun h11 => ?_) (fun h11 => ?_)
        · skip
          have k2 : ((els.take i).any fun x => same x.al y1) = true := h11
          have hb : elOk ⟨els, wi, byf, an⟩ i ⟨y1, y2, y3, y4, .mk y5 y6 y7 y8 y9⟩ = false := by unfold elOk; dsimp only; rw [k1, k2]; rfl
          refine OW_run' hE.ok 12 rfl ?_
          refine OW_end rfl ?_
          refine CW_true rfl ?_
          refine CW_seq ?_
          refine CW_region ?_
          refine OW_run' hE.ok 1 rfl ?_
          refine OW_end rfl ?_
          refine CW_ret ?_
          refine ⟨.inr rfl, rfl, ⟨[.d (boo false)], rfl, rfl, ?_⟩, rfl⟩
          exact AVle.of (congrArg (fun b => AV.d (boo b)) (by rw [isPat_bad hh hx0 hb]))
        · skip
          have k2 : ((els.take i).any fun x => same x.al y1) = false := h11
          refine OW_run' hE.ok 3 rfl ?_
          refine OW_split' 76 rfl (fun h12 => ?_) (fun h12 => ?_)
          · skip
            have k3 : y4 = true := h12
            have hi0 : 0 < i := by (cases i with | zero => (have q1 := headP_first hh; rw [negAt_of (p := ⟨els, wi, byf, an⟩) hx0] at q1; rw [show y4 = false from q1] at k3; cases k3) | succ q => exact Nat.succ_pos q)
            obtain ⟨en, hen⟩ : ∃ en, els[i - 1]? = some en := ⟨_, List.getElem?_eq_getElem (by omega)⟩
            obtain ⟨z1, z2, z3, z4, z5, z6, z7, z8, z9, rfl⟩ := El.shape en
            refine OW_run' hE.ok 4 rfl ?_
            refine OW_as' 80 (.d (int ((i - 1 : Nat) : Int))) (by show AV.d (.lit (.int .i64 (IntKind.i64.wrap ((i : Int) - 1)))) = _; rw [show ((i : Int) - 1) = ((i - 1 : Nat) : Int) by omega, wrapS (by omega)]; rfl) ?_
            refine OW_loc' hE (loc_indexAddr hE rfl rfl rfl rfl rfl (by omega) (x := encL ⟨z1, z2, z3, z4, .mk z5 z6 z7 z8 z9⟩) (by simp [hen])) rfl rfl rfl ?_
            refine OW_run' hE.ok 4 rfl ?_
            refine OW_end rfl ?_
            refine CW_cond _ rfl (fun h13 => ?_) (fun h13 => ?_)
            · skip
              have k4 : negAt ⟨els, wi, byf, an⟩ (i - 1) = true := (negAt_of (p := ⟨els, wi, byf, an⟩) hen).trans h13
              have hb : elOk ⟨els, wi, byf, an⟩ i ⟨y1, y2, y3, y4, .mk y5 y6 y7 y8 y9⟩ = false := by unfold elOk; dsimp only; rw [k1, k2, k3, k4]; rfl
              refine CW_seq ?_
              refine CW_region ?_
              refine OW_run' hE.ok 1 rfl ?_
              refine OW_end rfl ?_
              refine CW_ret ?_
              refine ⟨.inr rfl, rfl, ⟨[.d (boo false)], rfl, rfl, ?_⟩, rfl⟩
              exact AVle.of (congrArg (fun b => AV.d (boo b)) (by rw [isPat_bad hh hx0 hb]))
            · skip
              have k4 : negAt ⟨els, wi, byf, an⟩ (i - 1) = false := (negAt_of (p := ⟨els, wi, byf, an⟩) hen).trans h13
              have hok : elOk ⟨els, wi, byf, an⟩ i ⟨y1, y2, y3, y4, .mk y5 y6 y7 y8 y9⟩ = true := by unfold elOk; dsimp only; rw [k1, k2, k3, k4]; rfl
              refine CW_skip ?_
              refine CW_region ?_
              refine OW_run' hE.ok 2 rfl ?_
              refine OW_end rfl ?_
              refine ⟨⟨i + 1, by omega, fun j x hj hx => ?_⟩, LE_sh (slh_set (slh_set (slh_set (slh_set (slh_no _ _) rfl rfl) rfl rfl) rfl rfl) (by show AV.d (.lit (.int .i64 (IntKind.i64.wrap (↑i + 1)))) = _; rw [wrap_succ (by omega)]; rfl) rfl) (hlh_no _ _), by show els.length - (i + 1) < els.length - i; omega⟩
              by_cases hji : j = i
              · subst hji; rw [hx0] at hx; cases hx; exact hok
              · exact hp j x (by omega) hx
          · skip
            have k3 : y4 = false := h12
            have hok : elOk ⟨els, wi, byf, an⟩ i ⟨y1, y2, y3, y4, .mk y5 y6 y7 y8 y9⟩ = true := by unfold elOk; dsimp only; rw [k1, k2, k3]; rfl
            refine OW_run' hE.ok 9 rfl ?_
            refine OW_end rfl ?_
            refine CW_false rfl ?_
            refine CW_skip ?_
            refine CW_region ?_
            refine OW_run' hE.ok 2 rfl ?_
            refine OW_end rfl ?_
            refine ⟨⟨i + 1, by omega, fun j x hj hx => ?_⟩, LE_sh (slh_set (slh_set (slh_set (slh_set (slh_no _ _) rfl rfl) rfl rfl) rfl rfl) (by show AV.d (.lit (.int .i64 (IntKind.i64.wrap (↑i + 1)))) = _; rw [wrap_succ (by omega)]; rfl) rfl) (hlh_no _ _), by show els.length - (i + 1) < els.length - i; omega⟩
            by_cases hji : j = i
            · subst hji; rw [hx0] at hx; cases hx; exact hok
            · exact hp j x (by omega) hx
    · skip
      have hge : els.length ≤ i := by have := h9; simp at this; omega
      refine CW_exit ?_
      show CW _ _ _ _
      refine CW_seq ?_
      refine CW_region ?_
      refine OW_run' hE.ok 1 rfl ?_
      refine OW_end rfl ?_
      refine CW_ret ?_
      refine ⟨.inr rfl, rfl, ⟨[.d (boo true)], rfl, rfl, ?_⟩, rfl⟩
      exact AVle.of (congrArg (fun b => AV.d (boo b)) (by unfold isPat; rw [hh, elsOk_all (fun j x hj hx => hp j x (by have h2 : j < els.length := hj; omega) hx)]; rfl))
end Go.Proofs.Ytencfmpapdnnaaa
namespace Go.Proofs.Ytencfmpapdnnaaa
open Go Go.AL
set_option linter.unusedVariables false
set_option linter.unusedSimpArgs false
set_option maxHeartbeats 4000000
theorem ofOk (op : Int) (ks : List Int) (h0 : 1 ≤ ks.length) (hlen : ks.length ≤ 1000) : Does Try.prog 49 [.d (int op), .d (.sl 1 8 (intRow ks))] noHeap (.tup [.d (int (finK op ks).1), .d (errC 45 (finK op ks).2)]) := by
  refine Does_of T_ok mixed (N := 60) Try.func49 rfl rfl rfl (by rfl) fun F n Z hE hF J => ?_
  obtain ⟨a, ha⟩ : ∃ a, ks[0]? = some a := ⟨_, List.getElem?_eq_getElem (by omega)⟩
  obtain ⟨b, hb⟩ : ∃ b, ks[ks.length - 1]? = some b := ⟨_, List.getElem?_eq_getElem (by omega)⟩
  have hfin : finK op ks = ofC op a b := by unfold finK; simp [List.getD, ha, hb]
  rw [hfin]
  clear hfin
  refine CW_seq ?_
  refine CW_region ?_
  refine OW_run' hE.ok 2 rfl ?_
  refine OW_end rfl ?_
  refine CW_seq ?_
  refine CW_region ?_
  refine OW_run' hE.ok 1 rfl ?_
  refine OW_loc' hE (loc_indexAddr hE rfl rfl rfl rfl rfl (by omega) (x := [.lit (.int .i64 a)]) (intRow_get ha)) rfl rfl rfl ?_
  refine OW_run' hE.ok 2 rfl ?_
  refine OW_end rfl ?_
  refine CW_seq ?_
  refine CW_region ?_
  refine OW_run' hE.ok 3 rfl ?_
  refine OW_run' hE.ok 1 rfl ?_
  refine OW_as' 16 (.d (int ((ks.length - 1 : Nat) : Int))) (by show AV.d (.lit (.int .i64 (IntKind.i64.wrap ((((intRow ks).length : Nat) : Int) - 1)))) = _; rw [intRow_len, show (((ks.length : Nat) : Int) - 1) = ((ks.length - 1 : Nat) : Int) by omega, wrapN (by omega)]; rfl) ?_
  refine OW_loc' hE (loc_indexAddr hE rfl rfl rfl rfl rfl (by omega) (x := [.lit (.int .i64 b)]) (intRow_get hb)) rfl rfl rfl ?_
  refine OW_run' hE.ok 2 rfl ?_
  refine OW_end rfl ?_
  refine CW_seq ?_
  refine CW_region ?_
  refine OW_run' hE.ok 2 rfl ?_
  refine OW_end rfl ?_
  refine CW_cutE (fun _ : Unit => ⟨J, (sset (sset noSlots 8 (.d (boo (ofB op a b)))) 9 (.d (int (ofK op)))), noHeap⟩) (fun _ => True) ?_ ?_
  · skip
    refine CW_seq ?_
    refine CW_region ?_
    refine OW_run' hE.ok 1 rfl ?_
    refine OW_end rfl ?_
    refine CW_block ?_
    refine CW_seq ?_
    refine CW_seq ?_
    refine CW_region ?_
    refine OW_run' hE.ok 2 rfl ?_
    refine OW_end rfl ?_
    refine CW_cond _ rfl (fun h1 => ?_) (fun h1 => ?_)
    · skip
      refine CW_as' 20 (.d (boo true)) (congrArg (fun b => AV.d (boo b)) h1) ?_
      refine CW_skip ?_
      refine CW_true rfl ?_
      refine CW_region ?_
      refine OW_run' hE.ok 3 rfl ?_
      refine OW_split' 26 rfl (fun h2 => ?_) (fun h2 => ?_)
      · skip
        refine OW_run' hE.ok 5 rfl ?_
        refine OW_end rfl ?_
        exact ⟨(), trivial, LE_sh (slh_set (v := .d (int (ofK op))) (slh_set (v := .d (boo (ofB op a b))) (slh_no _ _) (by exact (congrArg (fun z => AV.d (boo z)) (by unfold ofB; simp_all))) rfl) (by exact (congrArg (fun z => AV.d (int z)) (by unfold ofK; cases e3 : op == 3 <;> cases e4 : op == 4 <;> cases e5 : op == 5 <;> simp_all))) rfl) (hlh_no _ _)⟩
      · skip
        refine OW_run' hE.ok 5 rfl ?_
        refine OW_end rfl ?_
        exact ⟨(), trivial, LE_sh (slh_set (v := .d (int (ofK op))) (slh_set (v := .d (boo (ofB op a b))) (slh_no _ _) (by exact (congrArg (fun z => AV.d (boo z)) (by unfold ofB; simp_all))) rfl) (by exact (congrArg (fun z => AV.d (int z)) (by unfold ofK; cases e3 : op == 3 <;> cases e4 : op == 4 <;> cases e5 : op == 5 <;> simp_all))) rfl) (hlh_no _ _)⟩
    · skip
      refine CW_seq ?_
      refine CW_region ?_
      refine OW_run' hE.ok 2 rfl ?_
      refine OW_end rfl ?_
      refine CW_cond _ rfl (fun h3 => ?_) (fun h3 => ?_)
      · skip
        refine CW_as' 20 (.d (boo true)) (congrArg (fun b => AV.d (boo b)) h3) ?_
        refine CW_skip ?_
        refine CW_true rfl ?_
        refine CW_region ?_
        refine OW_run' hE.ok 3 rfl ?_
        refine OW_split' 26 rfl (fun h4 => ?_) (fun h4 => ?_)
        · skip
          refine OW_run' hE.ok 5 rfl ?_
          refine OW_end rfl ?_
          exact ⟨(), trivial, LE_sh (slh_set (v := .d (int (ofK op))) (slh_set (v := .d (boo (ofB op a b))) (slh_no _ _) (by exact (congrArg (fun z => AV.d (boo z)) (by unfold ofB; simp_all))) rfl) (by exact (congrArg (fun z => AV.d (int z)) (by unfold ofK; cases e3 : op == 3 <;> cases e4 : op == 4 <;> cases e5 : op == 5 <;> simp_all))) rfl) (hlh_no _ _)⟩
        · skip
          refine OW_run' hE.ok 5 rfl ?_
          refine OW_end rfl ?_
          exact ⟨(), trivial, LE_sh (slh_set (v := .d (int (ofK op))) (slh_set (v := .d (boo (ofB op a b))) (slh_no _ _) (by exact (congrArg (fun z => AV.d (boo z)) (by unfold ofB; simp_all))) rfl) (by exact (congrArg (fun z => AV.d (int z)) (by unfold ofK; cases e3 : op == 3 <;> cases e4 : op == 4 <;> cases e5 : op == 5 <;> simp_all))) rfl) (hlh_no _ _)⟩
      · skip
        refine CW_region ?_
        refine OW_run' hE.ok 2 rfl ?_
        refine OW_end rfl ?_
        refine CW_cond _ rfl (fun h5 => ?_) (fun h5 => ?_)
        · skip
          refine CW_as' 20 (.d (boo true)) (congrArg (fun b => AV.d (boo b)) h5) ?_
          refine CW_region ?_
          refine OW_run' hE.ok 3 rfl ?_
          refine OW_split' 26 rfl (fun h6 => ?_) (fun h6 => ?_)
          · skip
            refine OW_run' hE.ok 5 rfl ?_
            refine OW_end rfl ?_
            exact ⟨(), trivial, LE_sh (slh_set (v := .d (int (ofK op))) (slh_set (v := .d (boo (ofB op a b))) (slh_no _ _) (by exact (congrArg (fun z => AV.d (boo z)) (by unfold ofB; simp_all))) rfl) (by exact (congrArg (fun z => AV.d (int z)) (by unfold ofK; cases e3 : op == 3 <;> cases e4 : op == 4 <;> cases e5 : op == 5 <;> simp_all))) rfl) (hlh_no _ _)⟩
          · skip
            refine OW_run' hE.ok 5 rfl ?_
            refine OW_end rfl ?_
            exact ⟨(), trivial, LE_sh (slh_set (v := .d (int (ofK op))) (slh_set (v := .d (boo (ofB op a b))) (slh_no _ _) (by exact (congrArg (fun z => AV.d (boo z)) (by unfold ofB; simp_all))) rfl) (by exact (congrArg (fun z => AV.d (int z)) (by unfold ofK; cases e3 : op == 3 <;> cases e4 : op == 4 <;> cases e5 : op == 5 <;> simp_all))) rfl) (hlh_no _ _)⟩
        · skip
          refine CW_seq ?_
          refine CW_seq ?_
          refine CW_region ?_
          refine OW_run' hE.ok 2 rfl ?_
          refine OW_end rfl ?_
          refine CW_cond _ rfl (fun h7 => ?_) (fun h7 => ?_)
          · skip
            refine CW_as' 30 (.d (boo true)) (congrArg (fun b => AV.d (boo b)) h7) ?_
            refine CW_skip ?_
            refine CW_true rfl ?_
            refine CW_region ?_
            refine OW_run' hE.ok 4 rfl ?_
            refine OW_split' 36 rfl (fun h8 => ?_) (fun h8 => ?_)
            · skip
              refine OW_run' hE.ok 4 rfl ?_
              refine OW_end rfl ?_
              exact ⟨(), trivial, LE_sh (slh_set (v := .d (int (ofK op))) (slh_set (v := .d (boo (ofB op a b))) (slh_no _ _) (by exact (congrArg (fun z => AV.d (boo z)) (by unfold ofB; simp_all))) rfl) (by exact (congrArg (fun z => AV.d (int z)) (by unfold ofK; cases e3 : op == 3 <;> cases e4 : op == 4 <;> cases e5 : op == 5 <;> simp_all))) rfl) (hlh_no _ _)⟩
            · skip
              refine OW_run' hE.ok 4 rfl ?_
              refine OW_end rfl ?_
              exact ⟨(), trivial, LE_sh (slh_set (v := .d (int (ofK op))) (slh_set (v := .d (boo (ofB op a b))) (slh_no _ _) (by exact (congrArg (fun z => AV.d (boo z)) (by unfold ofB; simp_all))) rfl) (by exact (congrArg (fun z => AV.d (int z)) (by unfold ofK; cases e3 : op == 3 <;> cases e4 : op == 4 <;> cases e5 : op == 5 <;> simp_all))) rfl) (hlh_no _ _)⟩
          · skip
            refine CW_region ?_
            refine OW_run' hE.ok 2 rfl ?_
            refine OW_end rfl ?_
            refine CW_cond _ rfl (fun h9 => ?_) (fun h9 => ?_)
            · skip
              refine CW_as' 30 (.d (boo true)) (congrArg (fun b => AV.d (boo b)) h9) ?_
              refine CW_region ?_
              refine OW_run' hE.ok 4 rfl ?_
              refine OW_split' 36 rfl (fun h10 => ?_) (fun h10 => ?_)
              · skip
                refine OW_run' hE.ok 4 rfl ?_
                refine OW_end rfl ?_
                exact ⟨(), trivial, LE_sh (slh_set (v := .d (int (ofK op))) (slh_set (v := .d (boo (ofB op a b))) (slh_no _ _) (by exact (congrArg (fun z => AV.d (boo z)) (by unfold ofB; simp_all))) rfl) (by exact (congrArg (fun z => AV.d (int z)) (by unfold ofK; cases e3 : op == 3 <;> cases e4 : op == 4 <;> cases e5 : op == 5 <;> simp_all))) rfl) (hlh_no _ _)⟩
              · skip
                refine OW_run' hE.ok 4 rfl ?_
                refine OW_end rfl ?_
                exact ⟨(), trivial, LE_sh (slh_set (v := .d (int (ofK op))) (slh_set (v := .d (boo (ofB op a b))) (slh_no _ _) (by exact (congrArg (fun z => AV.d (boo z)) (by unfold ofB; simp_all))) rfl) (by exact (congrArg (fun z => AV.d (int z)) (by unfold ofK; cases e3 : op == 3 <;> cases e4 : op == 4 <;> cases e5 : op == 5 <;> simp_all))) rfl) (hlh_no _ _)⟩
            · skip
              refine CW_seq ?_
              refine CW_seq ?_
              refine CW_region ?_
              refine OW_run' hE.ok 2 rfl ?_
              refine OW_end rfl ?_
              refine CW_cond _ rfl (fun h11 => ?_) (fun h11 => ?_)
              · skip
                refine CW_as' 40 (.d (boo true)) (congrArg (fun b => AV.d (boo b)) h11) ?_
                refine CW_skip ?_
                refine CW_true rfl ?_
                refine CW_region ?_
                refine OW_run' hE.ok 4 rfl ?_
                refine OW_end rfl ?_
                exact ⟨(), trivial, LE_sh (slh_set (v := .d (int (ofK op))) (slh_set (v := .d (boo (ofB op a b))) (slh_no _ _) (by exact (congrArg (fun z => AV.d (boo z)) (by unfold ofB; simp_all))) rfl) (by exact (congrArg (fun z => AV.d (int z)) (by unfold ofK; cases e3 : op == 3 <;> cases e4 : op == 4 <;> cases e5 : op == 5 <;> simp_all))) rfl) (hlh_no _ _)⟩
              · skip
                refine CW_region ?_
                refine OW_run' hE.ok 2 rfl ?_
                refine OW_end rfl ?_
                refine CW_cond _ rfl (fun h12 => ?_) (fun h12 => ?_)
                · skip
                  refine CW_as' 40 (.d (boo true)) (congrArg (fun b => AV.d (boo b)) h12) ?_
                  refine CW_region ?_
                  refine OW_run' hE.ok 4 rfl ?_
                  refine OW_end rfl ?_
                  exact ⟨(), trivial, LE_sh (slh_set (v := .d (int (ofK op))) (slh_set (v := .d (boo (ofB op a b))) (slh_no _ _) (by exact (congrArg (fun z => AV.d (boo z)) (by unfold ofB; simp_all))) rfl) (by exact (congrArg (fun z => AV.d (int z)) (by unfold ofK; cases e3 : op == 3 <;> cases e4 : op == 4 <;> cases e5 : op == 5 <;> simp_all))) rfl) (hlh_no _ _)⟩
                · skip
                  refine CW_seq ?_
                  refine CW_seq ?_
                  refine CW_region ?_
                  refine OW_run' hE.ok 2 rfl ?_
                  refine OW_end rfl ?_
                  refine CW_cond _ rfl (fun h13 => ?_) (fun h13 => ?_)
                  · skip
                    refine CW_as' 46 (.d (boo true)) (congrArg (fun b => AV.d (boo b)) h13) ?_
                    refine CW_skip ?_
                    refine CW_true rfl ?_
                    refine CW_region ?_
                    refine OW_run' hE.ok 3 rfl ?_
                    refine OW_split' 52 rfl (fun h14 => ?_) (fun h14 => ?_)
                    · skip
                      refine OW_run' hE.ok 4 rfl ?_
                      refine OW_end rfl ?_
                      exact ⟨(), trivial, LE_sh (slh_set (v := .d (int (ofK op))) (slh_set (v := .d (boo (ofB op a b))) (slh_no _ _) (by exact (congrArg (fun z => AV.d (boo z)) (by unfold ofB; simp_all))) rfl) (by exact (congrArg (fun z => AV.d (int z)) (by unfold ofK; cases e3 : op == 3 <;> cases e4 : op == 4 <;> cases e5 : op == 5 <;> simp_all))) rfl) (hlh_no _ _)⟩
                    · skip
                      refine OW_run' hE.ok 4 rfl ?_
                      refine OW_end rfl ?_
                      exact ⟨(), trivial, LE_sh (slh_set (v := .d (int (ofK op))) (slh_set (v := .d (boo (ofB op a b))) (slh_no _ _) (by exact (congrArg (fun z => AV.d (boo z)) (by unfold ofB; simp_all))) rfl) (by exact (congrArg (fun z => AV.d (int z)) (by unfold ofK; cases e3 : op == 3 <;> cases e4 : op == 4 <;> cases e5 : op == 5 <;> simp_all))) rfl) (hlh_no _ _)⟩
                  · skip
                    refine CW_seq ?_
                    refine CW_region ?_
                    refine OW_run' hE.ok 2 rfl ?_
                    refine OW_end rfl ?_
                    refine CW_cond _ rfl (fun h15 => ?_) (fun h15 => ?_)
                    · skip
                      refine CW_as' 46 (.d (boo true)) (congrArg (fun b => AV.d (boo b)) h15) ?_
                      refine CW_skip ?_
                      refine CW_true rfl ?_
                      refine CW_region ?_
                      refine OW_run' hE.ok 3 rfl ?_
                      refine OW_split' 52 rfl (fun h16 => ?_) (fun h16 => ?_)
                      · skip
                        refine OW_run' hE.ok 4 rfl ?_
                        refine OW_end rfl ?_
                        exact ⟨(), trivial, LE_sh (slh_set (v := .d (int (ofK op))) (slh_set (v := .d (boo (ofB op a b))) (slh_no _ _) (by exact (congrArg (fun z => AV.d (boo z)) (by unfold ofB; simp_all))) rfl) (by exact (congrArg (fun z => AV.d (int z)) (by unfold ofK; cases e3 : op == 3 <;> cases e4 : op == 4 <;> cases e5 : op == 5 <;> simp_all))) rfl) (hlh_no _ _)⟩
                      · skip
                        refine OW_run' hE.ok 4 rfl ?_
                        refine OW_end rfl ?_
                        exact ⟨(), trivial, LE_sh (slh_set (v := .d (int (ofK op))) (slh_set (v := .d (boo (ofB op a b))) (slh_no _ _) (by exact (congrArg (fun z => AV.d (boo z)) (by unfold ofB; simp_all))) rfl) (by exact (congrArg (fun z => AV.d (int z)) (by unfold ofK; cases e3 : op == 3 <;> cases e4 : op == 4 <;> cases e5 : op == 5 <;> simp_all))) rfl) (hlh_no _ _)⟩
                    · skip
                      refine CW_region ?_
                      refine OW_run' hE.ok 2 rfl ?_
                      refine OW_end rfl ?_
                      refine CW_cond _ rfl (fun h17 => ?_) (fun h17 => ?_)
                      · skip
                        refine CW_as' 46 (.d (boo true)) (congrArg (fun b => AV.d (boo b)) h17) ?_
                        refine CW_region ?_
                        refine OW_run' hE.ok 3 rfl ?_
                        refine OW_split' 52 rfl (fun h18 => ?_) (fun h18 => ?_)
                        · skip
                          refine OW_run' hE.ok 4 rfl ?_
                          refine OW_end rfl ?_
                          exact ⟨(), trivial, LE_sh (slh_set (v := .d (int (ofK op))) (slh_set (v := .d (boo (ofB op a b))) (slh_no _ _) (by exact (congrArg (fun z => AV.d (boo z)) (by unfold ofB; simp_all))) rfl) (by exact (congrArg (fun z => AV.d (int z)) (by unfold ofK; cases e3 : op == 3 <;> cases e4 : op == 4 <;> cases e5 : op == 5 <;> simp_all))) rfl) (hlh_no _ _)⟩
                        · skip
                          refine OW_run' hE.ok 4 rfl ?_
                          refine OW_end rfl ?_
                          exact ⟨(), trivial, LE_sh (slh_set (v := .d (int (ofK op))) (slh_set (v := .d (boo (ofB op a b))) (slh_no _ _) (by exact (congrArg (fun z => AV.d (boo z)) (by unfold ofB; simp_all))) rfl) (by exact (congrArg (fun z => AV.d (int z)) (by unfold ofK; cases e3 : op == 3 <;> cases e4 : op == 4 <;> cases e5 : op == 5 <;> simp_all))) rfl) (hlh_no _ _)⟩
                      · skip
                        refine CW_skip ?_
                        exact ⟨(), trivial, LE_sh (slh_set (v := .d (int (ofK op))) (slh_set (v := .d (boo (ofB op a b))) (slh_no _ _) (by exact (congrArg (fun z => AV.d (boo z)) (by unfold ofB; simp_all))) rfl) (by exact (congrArg (fun z => AV.d (int z)) (by unfold ofK; cases e3 : op == 3 <;> cases e4 : op == 4 <;> cases e5 : op == 5 <;> simp_all))) rfl) (hlh_no _ _)⟩
  · skip
    rintro _ _
    obtain ⟨q, hq⟩ : ∃ q, ofB op a b = q := ⟨_, rfl⟩
    have hc : ofC op a b = bif q then (ofK op, 0) else (0, 14) := by unfold ofC; rw [hq]
    rw [hq, hc]
    refine CW_seq ?_
    refine CW_seq ?_
    refine CW_region ?_
    refine OW_run' hE.ok 2 rfl ?_
    refine OW_end rfl ?_
    refine CW_cond _ rfl (fun h19 => ?_) (fun h19 => ?_)
    · skip
      have g1 : q = false := by have := h19; simpa using this
      subst g1
      refine CW_seq ?_
      refine CW_region ?_
      refine OW_run' hE.ok 3 rfl ?_
      refine OW_end rfl ?_
      refine CW_ret ?_
      refine ⟨.inr rfl, rfl, ⟨_, rfl, rfl, ?_⟩, rfl⟩
      exact AVle.refl _
    · skip
      have g1 : q = true := by have := h19; simpa using this
      subst g1
      refine CW_skip ?_
      refine CW_seq ?_
      refine CW_region ?_
      refine OW_run' hE.ok 3 rfl ?_
      refine OW_end rfl ?_
      refine CW_ret ?_
      refine ⟨.inr rfl, rfl, ⟨_, rfl, rfl, ?_⟩, rfl⟩
      exact AVle.refl _
end Go.Proofs.Ytencfmpapdnnaaa
namespace Go.Proofs.Ytencfmpapdnnaaa
open Go Go.AL
set_option linter.unusedVariables false
set_option linter.unusedSimpArgs false
set_option maxHeartbeats 4000000
theorem kind1 (e : El) (x : Exp) : Does Try.prog 47 [argL e, .d (.iptr (encX x))] noHeap (.d (boo (same e.al (match x with | .mk _ _ al _ _ => al)))) := by
  refine Does_of T_ok mixed (N := 9) Try.func47 rfl rfl rfl (by rfl) fun F n Z hE hF J => ?_
  obtain ⟨y1, y2, y3, y4, y5, y6, y7, y8, y9, rfl⟩ := El.shape e
  obtain ⟨o1, v1, c1, f1, k1, rfl⟩ := Exp.shape x
  refine CW_seq ?_
  refine CW_region ?_
  refine OW_run' hE.ok 2 rfl ?_
  refine OW_end rfl ?_
  refine CW_seq ?_
  refine CW_region ?_
  refine OW_run' hE.ok 6 rfl ?_
  refine OW_end rfl ?_
  refine CW_ret ?_
  refine ⟨.inr rfl, rfl, ⟨_, rfl, rfl, ?_⟩, rfl⟩
  exact AVle.refl _

theorem kindStep (s : List Ty) (l : List El) (hl : ∀ e ∈ l, e.tys.length ≤ 1000) (op : Int) (v : Vl) (al fi : ByteArray) (ks : List Exp) (hw : wfX (.mk op v al fi ks) = true) (ih : ∀ k ∈ ks, Does Try.prog 29 [argS s, .d (.sl 11 144 (l.map encL)), argX k] noHeap (.tup [.d (int (kdX s l k).1), .d (errC 45 (kdX s l k).2)])) : Does Try.prog 29 [argS s, .d (.sl 11 144 (l.map encL)), argX (.mk op v al fi ks)] noHeap (.tup [.d (int (kdX s l (.mk op v al fi ks)).1), .d (errC 45 (kdX s l (.mk op v al fi ks)).2)]) := by
  refine Does_of T_ok mixed (N := 63) Try.func29 rfl rfl rfl (by rfl) fun F n Z hE hF J => ?_
  refine CW_seq ?_
  refine CW_region ?_
  refine OW_run' hE.ok 3 rfl ?_
  refine OW_alloc' hE 1 rfl rfl rfl rfl rfl rfl rfl ?_
  refine OW_alloc' hE 2 rfl rfl rfl rfl rfl rfl rfl ?_
  refine OW_end rfl ?_
  refine CW_seq ?_
  refine CW_seq ?_
  refine CW_region ?_
  refine OW_run' hE.ok 3 rfl ?_
  refine OW_end rfl ?_
  refine CW_cond _ rfl (fun h1 => ?_) (fun h1 => ?_)
  · skip
    have g1 : (op == 1) = true := h1
    refine CW_seq ?_
    refine CW_region ?_
    refine OW_run' hE.ok 3 rfl ?_
    refine OW_store' hE rfl rfl rfl rfl rfl rfl rfl rfl rfl rfl rfl rfl ?_
    refine OW_store' hE rfl rfl rfl rfl rfl rfl rfl rfl rfl rfl rfl rfl ?_
    refine OW_end rfl ?_
    refine CW_ret ?_
    refine ⟨.inr rfl, rfl, ⟨_, rfl, rfl, ?_⟩, rfl⟩
    rw [kdX_lit g1]
    exact AVle.refl _
  · skip
    have g1 : (op == 1) = false := h1
    refine CW_skip ?_
    refine CW_seq ?_
    refine CW_seq ?_
    refine CW_region ?_
    refine OW_run' hE.ok 3 rfl ?_
    refine OW_end rfl ?_
    refine CW_cond _ rfl (fun h2 => ?_) (fun h2 => ?_)
    · skip
      have g2 : (op == 2) = true := h2
      refine CW_seq ?_
      refine CW_region ?_
      refine OW_run' hE.ok 2 rfl ?_
      refine OW_call' hE (indexL l 47 [] [.iptr (encX (.mk op v al fi ks))] (fun e => same e.al al) (fun e _ => kind1 e (.mk op v al fi ks))) rfl rfl rfl rfl rfl rfl rfl ?_
      refine OW_run' hE.ok 1 rfl ?_
      refine OW_as' 8 (.d (int (aliasAt l al))) (by rfl) ?_
      refine OW_end rfl ?_
      refine CW_seq ?_
      refine CW_seq ?_
      refine CW_region ?_
      refine OW_run' hE.ok 2 rfl ?_
      refine OW_end rfl ?_
      refine CW_cond _ rfl (fun h3 => ?_) (fun h3 => ?_)
      · skip
        have g3 : decide (aliasAt l al < 0) = true := h3
        refine CW_seq ?_
        refine CW_region ?_
        refine OW_run' hE.ok 1 rfl ?_
        refine OW_store' hE rfl rfl rfl rfl rfl rfl rfl rfl rfl rfl rfl rfl ?_
        refine OW_store' hE rfl rfl rfl rfl rfl rfl rfl rfl rfl rfl rfl rfl ?_
        refine OW_end rfl ?_
        refine CW_ret ?_
        refine ⟨.inr rfl, rfl, ⟨_, rfl, rfl, ?_⟩, rfl⟩
        rw [kdX_field g1 g2, kfX_no g3]
        exact AVle.refl _
      · skip
        have g3 : decide (aliasAt l al < 0) = false := h3
        refine CW_skip ?_
        refine CW_seq ?_
        obtain ⟨i, e, hi, he, hkf⟩ := kfX_at (s := s) (fi := fi) g3
        have hfc := fieldCOk s e.tys fi (hl e (List.mem_of_getElem? he))
        obtain ⟨y1, y2, y3, y4, y5, y6, y7, y8, y9, hes⟩ := El.shape e
        rw [hes] at he
        refine CW_drawn' hE 11 (by decide +kernel) ?_
        refine HW_run hE 3 rfl rfl ?_
        refine HW_as 30 (.d (int ((i : Nat) : Int))) (by exact congrArg (fun z => AV.d (int z)) hi) ?_
        refine HW_loc hE (loc_indexAddr hE rfl rfl rfl rfl rfl (by omega) (x := encL ⟨y1, y2, y3, y4, .mk y5 y6 y7 y8 y9⟩) (by simp [he])) rfl rfl rfl rfl ?_
        refine HW_run hE 4 rfl rfl ?_
        refine HW_call hE ((by rw [hes] at hfc; exact hfc)) rfl rfl rfl rfl rfl rfl rfl rfl ?_
        refine HW_run hE 2 rfl rfl ?_
        refine HW_end ?_
        refine OW_store' hE rfl rfl rfl rfl rfl rfl rfl rfl rfl rfl rfl rfl ?_
        refine OW_store' hE rfl rfl rfl rfl rfl rfl rfl rfl rfl rfl rfl rfl ?_
        refine OW_end rfl ?_
        refine CW_ret ?_
        refine ⟨.inr rfl, rfl, ⟨_, rfl, rfl, ?_⟩, rfl⟩
        rw [kdX_field g1 g2, hkf, hes]
        exact AVle.refl _
    · skip
      have g2 : (op == 2) = false := h2
      refine CW_skip ?_
      refine CW_seq ?_
      obtain ⟨hk1, hk2⟩ := kids_12 hw g1 g2
      refine CW_region ?_
      refine OW_alloc' hE 3 rfl rfl rfl rfl rfl rfl rfl ?_
      refine OW_end rfl ?_
      refine CW_seq ?_
      refine CW_seq ?_
      refine CW_region ?_
      refine OW_run' hE.ok 2 rfl ?_
      refine OW_call' hE ((by have := valX ks; rw [← encXs_eq] at this; exact this)) rfl rfl rfl rfl rfl rfl rfl ?_
      refine OW_end rfl ?_
      refine CW_block ?_
      refine CW.le (LE_nilCell 3 50 0 3 1 rfl rfl rfl) ?_
      refine CW.le (show LE _ _ ⟨J, (sset (sset (sset (sset (sset (sset (sset noSlots 3 (.d (.iptr [encS s]))) 4 (.d (.iptr [.sl 11 144 (l.map encL)]))) 5 (.d (.iptr (encX (.mk op v al fi ks))))) 6 (.ptr 1 0)) 7 (.ptr 2 0)) 9 (.ptr 3 0)) 41 (.d (.fn (.func 73) [] [.iptr [.sl 7 96 (encXs ks)]]))), (hset (hset (hset (hset noHeap 1 (some (.box 3 [.d (int 0)]))) 2 (some (.box 32 [.d (.lit .nilIface)]))) 3 (some (.box 103 [.row 50]))) 50 (some (.row 3 1 (intRow (kdXs s l (ks.take 0)).1))))⟩ from LE_sh (slh_set (v := .d (.fn (.func 73) [] [.iptr [.sl 7 96 (encXs ks)]])) (slh_set (v := .ptr 3 0) (slh_set (v := .ptr 2 0) (slh_set (v := .ptr 1 0) (slh_set (v := .d (.iptr (encX (.mk op v al fi ks)))) (slh_set (v := .d (.iptr [.sl 11 144 (l.map encL)])) (slh_set (v := .d (.iptr [encS s])) (slh_no _ _) (by rfl) rfl) (by rfl) rfl) (by rfl) rfl) (by rfl) rfl) (by rfl) rfl) (by rfl) rfl) (by rfl) rfl) (hlh_set (hlh_set (hlh_set (hlh_set (hlh_no _ _) rfl rfl) rfl rfl) rfl rfl) rfl rfl)) ?_
      refine CW_rangeH hE hF (by have := valX1 ks; rw [← encXs_eq] at this; exact this) rfl rfl rfl (ysX_kf ks) rfl 9 (fun i => (hset (hset (hset (hset noHeap 1 (some (.box 3 [.d (int 0)]))) 2 (some (.box 32 [.d (.lit .nilIface)]))) 3 (some (.box 103 [.row 50]))) 50 (some (.row 3 1 (intRow (kdXs s l (ks.take i)).1)))))
        (fun i => (kdXs s l (ks.take i)).2 = 0) rfl (fun _ => rfl) rfl (fun F' n' Z' Br Bb hE hB vs i args hargs hp => ?_) (fun hp vs => ?_)
      · skip
        obtain ⟨k, hk, rfl⟩ := ysX_of hargs
        have hil : i < ks.length := (List.getElem?_eq_some_iff.1 hk).1
        have hcall := ih k (List.mem_of_getElem? hk)
        obtain ⟨r, hr⟩ : ∃ r, kdX s l k = r := ⟨_, rfl⟩
        rw [hr] at hcall
        have hvl : (kdXs s l (ks.take i)).1.length = i := by rw [kdXs_len hp, List.length_take]; omega
        obtain ⟨o1, v1, c1, f1, k1, hkk⟩ := Exp.shape k
        rw [hkk] at hcall
        rw [show argX k = argX (.mk o1 v1 c1 f1 k1) by rw [hkk]]
        refine CW_region ?_
        refine OW_alloc' hE 4 rfl rfl rfl rfl rfl rfl rfl ?_
        refine OW_store' hE rfl rfl rfl rfl rfl rfl rfl rfl rfl rfl rfl rfl ?_
        refine OW_end rfl ?_
        refine ⟨rfl, rfl, ?_⟩
        refine CW_block ?_
        refine CW_seq ?_
        refine CW_region ?_
        refine OW_run' hE.ok 3 rfl ?_
        refine OW_call' hE (hcall) rfl rfl rfl rfl rfl rfl rfl ?_
        refine OW_run' hE.ok 5 rfl ?_
        refine OW_end rfl ?_
        refine CW_seq ?_
        refine CW_seq ?_
        refine CW_region ?_
        refine OW_run' hE.ok 1 rfl ?_
        refine OW_loc' hE (loc_errNe hE rfl rfl rfl) rfl rfl rfl ?_
        refine OW_end rfl ?_
        refine CW_cond _ rfl (fun h4 => ?_) (fun h4 => ?_)
        · skip
          have hz : (r.2 == 0) = false := by have := h4; simpa using this
          refine CW_seq ?_
          refine CW_region ?_
          refine OW_run' hE.ok 1 rfl ?_
          refine OW_store' hE rfl rfl rfl rfl rfl rfl rfl rfl rfl rfl rfl rfl ?_
          refine OW_store' hE rfl rfl rfl rfl rfl rfl rfl rfl rfl rfl rfl rfl ?_
          refine OW_end rfl ?_
          refine CW_ret ⟨_, LE.refl _ _, J, _, fun h => h, rfl, rfl, ?_⟩
          refine ⟨.inr rfl, rfl, ⟨_, rfl, rfl, ?_⟩, rfl⟩
          rw [kdX_err g1 g2 (by rw [kdXs_err hk hp (by rw [hr]; exact hz), hr]; exact hz), kdXs_err hk hp (by rw [hr]; exact hz), hr]
          exact AVle.refl _
        · skip
          have hz : (r.2 == 0) = true := by have := h4; simpa using this
          refine CW_skip ?_
          refine CW_region ?_
          refine OW_run' hE.ok 2 rfl ?_
          refine OW_lits' hE rfl rfl rfl rfl rfl rfl rfl rfl rfl rfl rfl rfl ?_
          refine OW_append' hE (key := 50) rfl rfl rfl rfl rfl rfl rfl rfl (.inl rfl) (by simp [intRow_len, hvl]; omega) (by simp [intRow_len, hvl]; omega) rfl ?_
          refine OW_store' hE rfl rfl rfl rfl rfl rfl rfl rfl rfl rfl rfl rfl ?_
          refine OW_end rfl ?_
          refine ⟨⟨Bb J, noSlots, (hset (hset (hset (hset (hset noHeap 1 (some (.box 3 [.d (int 0)]))) 2 (some (.box 32 [.d (.lit .nilIface)]))) 3 (some (.box 103 [.row 50]))) 50 (some (.row 3 1 (intRow (kdXs s l (ks.take (i + 1))).1)))) 9 (some (.ghost _ vs)))⟩, LE_sh (slh_no _ _) (hlh_set (hlh_set (hlh_set (hlh_set (hlh_set (hlh_no _ _) rfl rfl) rfl rfl) rfl rfl) (congrArg (fun z => some (Ent.row 3 1 z)) (by rw [kdXs_snoc hk hp (by rw [hr]; exact hz), hr]; exact intRow_app _ _)) rfl) rfl rfl), J, rfl, rfl, rfl, by rw [kdXs_snoc hk hp (by rw [hr]; exact hz)]⟩
      · skip
        rw [ysX_length, List.take_length] at hp
        rw [ysX_length, List.take_length]
        have hvl : (kdXs s l ks).1.length = ks.length := kdXs_len hp
        refine CW_seq ?_
        refine CW.le (LE_freeze 50 8 rfl (by simp [intRow_len, hvl]; omega)) ?_
        refine CW.le (show LE _ _ ⟨J, (sset (sset (sset (sset (sset (sset noSlots 3 (.d (.iptr [encS s]))) 4 (.d (.iptr [.sl 11 144 (l.map encL)]))) 5 (.d (.iptr (encX (.mk op v al fi ks))))) 6 (.ptr 1 0)) 7 (.ptr 2 0)) 9 (.ptr 3 0)), (hset (hset (hset noHeap 1 (some (.box 3 [.d (int 0)]))) 2 (some (.box 32 [.d (.lit .nilIface)]))) 3 (some (.box 103 [.d (.sl 1 8 (intRow (kdXs s l ks).1))])))⟩ from LE_sh (slh_set (v := .ptr 3 0) (slh_set (v := .ptr 2 0) (slh_set (v := .ptr 1 0) (slh_set (v := .d (.iptr (encX (.mk op v al fi ks)))) (slh_set (v := .d (.iptr [.sl 11 144 (l.map encL)])) (slh_set (v := .d (.iptr [encS s])) (slh_no _ _) (by rfl) rfl) (by rfl) rfl) (by rfl) rfl) (by rfl) rfl) (by rfl) rfl) (by rfl) rfl) (hlh_set (hlh_set (hlh_set (hlh_no _ _) rfl rfl) rfl rfl) rfl rfl)) ?_
        refine CW_region ?_
        refine OW_run' hE.ok 3 rfl ?_
        refine OW_call' hE (ofOk op (kdXs s l ks).1 (by omega) (by omega)) rfl rfl rfl rfl rfl rfl rfl ?_
        refine OW_run' hE.ok 2 rfl ?_
        refine OW_store' hE rfl rfl rfl rfl rfl rfl rfl rfl rfl rfl rfl rfl ?_
        refine OW_store' hE rfl rfl rfl rfl rfl rfl rfl rfl rfl rfl rfl rfl ?_
        refine OW_end rfl ?_
        refine CW_ret ?_
        refine ⟨.inr rfl, rfl, ⟨_, rfl, rfl, ?_⟩, rfl⟩
        rw [kdX_fin g1 g2 hp]
        exact AVle.refl _

theorem kindAll (s : List Ty) (l : List El) (hl : ∀ e ∈ l, e.tys.length ≤ 1000) : ∀ (n : Nat) (x : Exp), SizeOf.sizeOf x < n → wfX x = true → Does Try.prog 29 [argS s, .d (.sl 11 144 (l.map encL)), argX x] noHeap (.tup [.d (int (kdX s l x).1), .d (errC 45 (kdX s l x).2)])
  | 0, x, h => by omega
  | n + 1, .mk op v al fi ks, h => fun hw => kindStep s l hl op v al fi ks hw fun k hk => kindAll s l hl n k (by have := List.sizeOf_lt_of_mem hk; simp at h; omega) ((wf_kids hw).2.2.2 k hk)

theorem kindCOk (s : List Ty) (l : List El) (hl : ∀ e ∈ l, e.tys.length ≤ 1000) (x : Exp) : Does Try.prog 14 [argS s, .d (.sl 11 144 (l.map encL)), argX x] noHeap (.tup [.d (int (kindC s l x).1), .d (errC 45 (kindC s l x).2)]) := by
  refine Does_of T_ok mixed (N := 18) Try.func14 rfl rfl rfl (by rfl) fun F n Z hE hF J => ?_
  have hix := isXOk x
  obtain ⟨o1, v1, c1, f1, k1, rfl⟩ := Exp.shape x
  have hev := fun hw => kindAll s l hl _ (.mk o1 v1 c1 f1 k1) (Nat.lt_succ_self _) hw
  refine CW_seq ?_
  refine CW_region ?_
  refine OW_run' hE.ok 4 rfl ?_
  refine OW_end rfl ?_
  refine CW_seq ?_
  refine CW_seq ?_
  refine CW_region ?_
  refine OW_run' hE.ok 1 rfl ?_
  refine OW_call' hE (hix) rfl rfl rfl rfl rfl rfl rfl ?_
  refine OW_run' hE.ok 1 rfl ?_
  refine OW_end rfl ?_
  refine CW_cond _ rfl (fun h1 => ?_) (fun h1 => ?_)
  · skip
    have g : isX (.mk o1 v1 c1 f1 k1) = false := by have := h1; simpa using this
    refine CW_seq ?_
    refine CW_region ?_
    refine OW_run' hE.ok 3 rfl ?_
    refine OW_end rfl ?_
    refine CW_ret ?_
    refine ⟨.inr rfl, rfl, ⟨_, rfl, rfl, ?_⟩, rfl⟩
    rw [show kindC s l (.mk o1 v1 c1 f1 k1) = (0, 10) by unfold kindC; rw [g]; rfl]
    exact AVle.refl _
  · skip
    have g : isX (.mk o1 v1 c1 f1 k1) = true := by have := h1; simpa using this
    refine CW_skip ?_
    refine CW_seq ?_
    refine CW_region ?_
    refine OW_run' hE.ok 3 rfl ?_
    refine OW_call' hE (hev (wf_isX g)) rfl rfl rfl rfl rfl rfl rfl ?_
    refine OW_run' hE.ok 4 rfl ?_
    refine OW_end rfl ?_
    refine CW_ret ?_
    refine ⟨.inr rfl, rfl, ⟨_, rfl, rfl, ?_⟩, rfl⟩
    rw [show kindC s l (.mk o1 v1 c1 f1 k1) = kdX s l (.mk o1 v1 c1 f1 k1) by unfold kindC; rw [g]; rfl]
    exact AVle.refl _
end Go.Proofs.Ytencfmpapdnnaaa
namespace Go.Proofs.Ytencfmpapdnnaaa
open Go Go.AL
set_option linter.unusedVariables false
set_option linter.unusedSimpArgs false
set_option maxHeartbeats 4000000
theorem cloneL (l : List El) : Does Try.prog 55 [.d (.sl 11 144 (l.map encL))] (oneRow 41 11 (l.map encL)) (.row 0) := by
  refine Does_ofRow T_ok mixed (N := 8) Try.func55 rfl rfl rfl (by rfl) fun F n Z hE hF J => ?_
  refine CW_know (know_sl (d := 0) rfl) fun hlen => ?_
  rw [List.length_map] at hlen
  refine CW_seq ?_
  refine CW_region ?_
  refine OW_run' hE.ok 1 rfl ?_
  refine OW_end rfl ?_
  refine CW_seq ?_
  refine CW_seq ?_
  refine CW_region ?_
  refine OW_run' hE.ok 1 rfl ?_
  refine OW_eqNil' hE rfl rfl rfl rfl rfl rfl rfl rfl (fun b hb => ?_)
  refine OW_end rfl ?_
  refine CW_cond _ rfl (fun h1 => ?_) (fun h1 => ?_)
  · skip
    refine CW_seq ?_
    refine CW_region ?_
    refine OW_run' hE.ok 1 rfl ?_
    refine OW.le (LE_nilSlot 2 7 41 11 rfl rfl) ?_
    refine OW_end rfl ?_
    refine CW_ret ⟨.inr rfl, rfl, 7, rfl, ?_⟩
    rw [hb h1]
    rfl
  · skip
    refine CW_skip ?_
    refine CW_seq ?_
    refine CW_region ?_
    refine OW_litsOwn' hE 7 rfl rfl rfl rfl rfl rfl rfl rfl rfl rfl rfl rfl ?_
    refine OW_run' hE.ok 1 rfl ?_
    refine OW_append' hE (key := 7) rfl rfl rfl rfl rfl rfl rfl rfl (.inl rfl) (by simp; omega) (by simp; omega) rfl ?_
    refine OW_run' hE.ok 1 rfl ?_
    refine OW_end rfl ?_
    exact CW_ret ⟨.inr rfl, rfl, 7, rfl, rfl⟩

theorem elemOk (s : List Ty) (ahead : List El) (ha : ahead.length ≤ 1000) (hl : ∀ e ∈ ahead, e.tys.length ≤ 1000) (e : El) (he : e.tys.length ≤ 1000) : Does Try.prog 33 [argS s, .d (.sl 11 144 (ahead.map encL)), argL e] noHeap (.d (errC 45 (elemC s ahead e))) := by
  refine Does_of T_ok mixed (N := 54) Try.func33 rfl rfl rfl (by rfl) fun F n Z hE hF J => ?_
  have hkc := kindCOk s (ahead ++ [e]) (fun x hx => by rcases List.mem_append.1 hx with hx | hx; exact hl x hx; simp at hx; rw [hx]; exact he) e.cond
  rw [List.map_append] at hkc
  obtain ⟨r, hr⟩ : ∃ r, kindC s (ahead ++ [e]) e.cond = r := ⟨_, rfl⟩
  rw [hr] at hkc
  have hec : elemC s ahead e = bif !allT s e.tys then 13 else bif e.cond.op == 0 then 0 else bif r.2 == 0 && r.1 != 3 then 14 else r.2 := by unfold elemC; rw [hr]
  clear hr
  obtain ⟨al, tys, pl, ng, o, v, a, f, ks, rfl⟩ := El.shape e
  simp only [Exp.op] at hec
  simp only at he hkc
  refine CW_seq ?_
  refine CW_region ?_
  refine OW_run' hE.ok 3 rfl ?_
  refine OW_end rfl ?_
  refine CW_seq ?_
  refine CW_seq ?_
  refine CW_region ?_
  refine OW_run' hE.ok 4 rfl ?_
  refine OW_end rfl ?_
  refine CW_block ?_
  refine CW_loop (σ := {i : Nat // i ≤ tys.length ∧ ∀ j b, j < i → tys[j]? = some b → (findT s b).2 = true}) (fun i => ⟨J, (sset (sset (sset (sset (sset (sset noSlots 1 (.d (.sl 11 144 (ahead.map encL)))) 3 (.d (.iptr [encS s]))) 5 (.d (.iptr (encL ⟨al, tys, pl, ng, .mk o v a f ks⟩)))) 14 (.d (.sl 1 16 (tys.map encB)))) 15 (.d (int ((tys.length : Nat) : Int)))) 16 (.d (int ((i.1 : Nat) : Int)))), noHeap⟩) (fun i => tys.length - i.1) ⟨0, Nat.zero_le _, fun j b hj => by omega⟩ (LE_sh (slh_set (slh_set (slh_set (slh_set (slh_set (slh_set (slh_no _ _) rfl rfl) rfl rfl) rfl rfl) rfl rfl) (by show AV.d (.lit (.int .i64 ((tys.map encB).length : Int))) = _; rw [List.length_map]; rfl) rfl) rfl rfl) (hlh_no _ _)) fun ⟨i, hi, hp⟩ => ?_
  refine CW_seq ?_
  refine CW_region ?_
  refine OW_run' hE.ok 1 rfl ?_
  refine OW_end rfl ?_
  refine CW_seq ?_
  refine CW_cond _ rfl (fun h1 => ?_) (fun h1 => ?_)
  · skip
    have hlt : i < tys.length := by have := h1; simp at this; omega
    obtain ⟨b, hb⟩ : ∃ b, tys[i]? = some b := ⟨_, List.getElem?_eq_getElem hlt⟩
    refine CW_skip ?_
    refine CW_seq ?_
    refine CW_block ?_
    refine CW_seq ?_
    refine CW_region ?_
    refine OW_loc' hE (loc_indexAddr hE rfl rfl rfl rfl rfl (by omega) (x := encB b) (by simp [hb])) rfl rfl rfl ?_
    refine OW_run' hE.ok 2 rfl ?_
    refine OW_end rfl ?_
    refine CW_seq ?_
    refine CW_region ?_
    refine OW_run' hE.ok 2 rfl ?_
    refine OW_call' hE (findOk s b) rfl rfl rfl rfl rfl rfl rfl ?_
    refine OW_run' hE.ok 3 rfl ?_
    refine OW_alloc' hE 1 rfl rfl rfl rfl rfl rfl rfl ?_
    refine OW_store' hE rfl rfl rfl rfl rfl rfl rfl rfl rfl rfl rfl rfl ?_
    refine OW_run' hE.ok 1 rfl ?_
    refine OW_end rfl ?_
    refine CW_seq ?_
    refine CW_region ?_
    refine OW_run' hE.ok 2 rfl ?_
    refine OW_end rfl ?_
    refine CW_cond _ rfl (fun h2 => ?_) (fun h2 => ?_)
    · skip
      have hbad : (findT s b).2 = false := by have := h2; simpa using this
      refine CW_seq ?_
      refine CW_region ?_
      refine OW_run' hE.ok 2 rfl ?_
      refine OW_end rfl ?_
      refine CW_ret ?_
      refine ⟨.inr rfl, rfl, ⟨_, rfl, rfl, ?_⟩, rfl⟩
      rw [elemC_bad (e := ⟨al, tys, pl, ng, .mk o v a f ks⟩) hb hbad]
      exact AVle.refl _
    · skip
      have hgood : (findT s b).2 = true := by have := h2; simpa using this
      refine CW_skip ?_
      refine CW_region ?_
      refine OW_run' hE.ok 2 rfl ?_
      refine OW_end rfl ?_
      refine ⟨⟨i + 1, by omega, fun j x hj hx => ?_⟩, LE_sh (slh_set (slh_set (slh_set (slh_set (slh_set (slh_set (slh_no _ _) rfl rfl) rfl rfl) rfl rfl) rfl rfl) rfl rfl) (by show AV.d (.lit (.int .i64 (IntKind.i64.wrap ((i : Int) + 1)))) = _; rw [wrap_succ (by omega)]; rfl) rfl) (hlh_no _ _), by show tys.length - (i + 1) < tys.length - i; omega⟩
      by_cases hji : j = i
      · subst hji; rw [hb] at hx; cases hx; exact hgood
      · exact hp j x (by omega) hx
  · skip
    have hge : tys.length ≤ i := by have := h1; simp at this; omega
    have hall : allT s tys = true := all_of fun j b hj hb => hp j b (by omega) hb
    refine CW_exit ?_
    show CW _ _ _ _
    refine CW_seq ?_
    refine CW_seq ?_
    refine CW.le (show LE _ _ ⟨J, (sset (sset (sset noSlots 1 (.d (.sl 11 144 (ahead.map encL)))) 3 (.d (.iptr [encS s]))) 5 (.d (.iptr (encL ⟨al, tys, pl, ng, .mk o v a f ks⟩)))), noHeap⟩ from LE_sh (slh_set (slh_set (slh_set (slh_no _ _) rfl rfl) rfl rfl) rfl rfl) (hlh_no _ _)) ?_
    refine CW_region ?_
    refine OW_run' hE.ok 4 rfl ?_
    refine OW_end rfl ?_
    refine CW_cond _ rfl (fun h3 => ?_) (fun h3 => ?_)
    · skip
      have g1 : (o == 0) = true := h3
      refine CW_seq ?_
      refine CW_region ?_
      refine OW_run' hE.ok 1 rfl ?_
      refine OW_end rfl ?_
      refine CW_ret ?_
      refine ⟨.inr rfl, rfl, ⟨_, rfl, rfl, ?_⟩, rfl⟩
      rw [show elemC s ahead ⟨al, tys, pl, ng, .mk o v a f ks⟩ = 0 by rw [hec, hall, g1]; rfl]
      exact AVle.refl _
    · skip
      have g1 : (o == 0) = false := h3
      refine CW_skip ?_
      refine CW_seq ?_
      refine CW_drawn5 hE 13 2 5 8 50 (by decide +kernel) (ys1 := ahead.map encL) (ys2 := [encL ⟨al, tys, pl, ng, .mk o v a f ks⟩]) rfl rfl rfl rfl rfl rfl rfl rfl rfl rfl rfl (by intro h; cases h) (by decide +kernel) rfl rfl rfl rfl rfl (by simp; omega) (by simp; omega) rfl rfl rfl rfl (by decide +kernel) rfl rfl rfl (flat_ke _ _ _) rfl hkc (cloneL ahead) ?_
      refine H5_one hE rfl rfl rfl rfl rfl rfl ?_
      refine H5_one hE rfl rfl rfl rfl rfl rfl ?_
      refine H5_begin rfl rfl rfl rfl ?_
      refine H5_one hE rfl rfl rfl rfl rfl rfl ?_
      refine H5_loc hE (fun h => loc_lits hE (t := 42) (len := 1) (parts := #[(0, .tmp 38)]) rfl rfl rfl rfl rfl rfl rfl rfl (xs := [encL ⟨al, tys, pl, ng, .mk o v a f ks⟩]) rfl) rfl rfl rfl rfl rfl ?_
      refine H5_more rfl rfl rfl rfl ?_
      refine H5_one hE rfl rfl rfl rfl rfl rfl ?_
      refine H5_one hE rfl rfl rfl rfl rfl rfl ?_
      refine H5_lent rfl rfl rfl ⟨rfl, rfl, rfl⟩ ?_
      refine H5_one hE rfl rfl rfl rfl rfl rfl ?_
      refine H5_one hE rfl rfl rfl rfl rfl rfl ?_
      refine H5_one hE rfl rfl rfl rfl rfl rfl ?_
      refine H5_one hE rfl rfl rfl rfl rfl rfl ?_
      refine H5_end ?_
      refine OW_run' hE.ok 1 rfl ?_
      refine OW_end rfl ?_
      refine CW_seq ?_
      refine CW_seq ?_
      refine CW_region ?_
      refine OW_run' hE.ok 1 rfl ?_
      refine OW_loc' hE (loc_errEq hE rfl rfl rfl) rfl rfl rfl ?_
      refine OW_run' hE.ok 1 rfl ?_
      refine OW_split' 48 rfl (fun h4 => ?_) (fun h4 => ?_)
      · skip
        have g2 : (r.2 == 0) = true := h4
        refine OW_run' hE.ok 3 rfl ?_
        refine OW_end rfl ?_
        refine CW_cond _ rfl (fun h5 => ?_) (fun h5 => ?_)
        · skip
          have g3 : (r.1 != 3) = true := h5
          refine CW_seq ?_
          refine CW_region ?_
          refine OW_run' hE.ok 2 rfl ?_
          refine OW_end rfl ?_
          refine CW_ret ?_
          refine ⟨.inr rfl, rfl, ⟨_, rfl, rfl, ?_⟩, rfl⟩
          rw [show elemC s ahead ⟨al, tys, pl, ng, .mk o v a f ks⟩ = 14 by rw [hec, hall, g1, g2, g3]; rfl]
          exact AVle.refl _
        · skip
          have g3 : (r.1 != 3) = false := h5
          refine CW_skip ?_
          refine CW_seq ?_
          refine CW_region ?_
          refine OW_run' hE.ok 2 rfl ?_
          refine OW_end rfl ?_
          refine CW_ret ?_
          refine ⟨.inr rfl, rfl, ⟨_, rfl, rfl, ?_⟩, rfl⟩
          rw [show elemC s ahead ⟨al, tys, pl, ng, .mk o v a f ks⟩ = r.2 by rw [hec, hall, g1, g2, g3]; rfl]
          exact AVle.refl _
      · skip
        have g2 : (r.2 == 0) = false := h4
        refine OW_run' hE.ok 3 rfl ?_
        refine OW_end rfl ?_
        refine CW_false rfl ?_
        refine CW_skip ?_
        refine CW_seq ?_
        refine CW_region ?_
        refine OW_run' hE.ok 2 rfl ?_
        refine OW_end rfl ?_
        refine CW_ret ?_
        refine ⟨.inr rfl, rfl, ⟨_, rfl, rfl, ?_⟩, rfl⟩
        rw [show elemC s ahead ⟨al, tys, pl, ng, .mk o v a f ks⟩ = r.2 by rw [hec, hall, g1, g2]; rfl]
        exact AVle.refl _

theorem patCOk (s : List Ty) (p : Pat) : Does Try.prog 17 [argS s, argP p] noHeap (.d (errC 45 (patC s p))) := by
  refine Does_of T_ok mixed (N := 54) Try.func17 rfl rfl rfl (by rfl) fun F n Z hE hF J => ?_
  have hip := isPatOk p
  have hsm := fun h => pat_small (p := p) h
  have hpc : patC s p = bif !isPat p then 10 else bif !(elemsC s [] p.els == 0) then elemsC s [] p.els else bif same p.byf nul then 0 else (fieldC s (p.els.flatMap fun e => e.tys) p.byf).2 := rfl
  obtain ⟨ip, hipe⟩ : ∃ ip, isPat p = ip := ⟨_, rfl⟩
  rw [hipe] at hip hpc hsm
  clear hipe
  obtain ⟨els, wi, byf, an⟩ := p
  simp only at hpc hsm
  refine CW_seq ?_
  refine CW_region ?_
  refine OW_run' hE.ok 3 rfl ?_
  refine OW_end rfl ?_
  refine CW_seq ?_
  refine CW_seq ?_
  refine CW_region ?_
  refine OW_run' hE.ok 1 rfl ?_
  refine OW_call' hE (hip) rfl rfl rfl rfl rfl rfl rfl ?_
  refine OW_run' hE.ok 1 rfl ?_
  refine OW_end rfl ?_
  refine CW_cond _ rfl (fun h1 => ?_) (fun h1 => ?_)
  · skip
    have g1 : ip = false := by have := h1; simpa using this
    subst g1
    refine CW_seq ?_
    refine CW_region ?_
    refine OW_run' hE.ok 2 rfl ?_
    refine OW_end rfl ?_
    refine CW_ret ?_
    refine ⟨.inr rfl, rfl, ⟨_, rfl, rfl, ?_⟩, rfl⟩
    rw [hpc]
    exact AVle.refl _
  · skip
    have g1 : ip = true := by have := h1; simpa using this
    subst g1
    obtain ⟨hl5, hl3⟩ := hsm rfl
    refine CW_skip ?_
    refine CW_seq ?_
    refine CW_region ?_
    refine OW_run' hE.ok 1 rfl ?_
    refine OW_end rfl ?_
    refine CW_seq ?_
    refine CW_region ?_
    refine OW_run' hE.ok 1 rfl ?_
    refine OW.le (LE_nilSlot 5 50 41 11 rfl rfl) ?_
    refine OW.le (LE_nilSlot 6 51 9 1 rfl rfl) ?_
    refine OW_end rfl ?_
    refine CW_seq ?_
    refine CW_seq ?_
    refine CW_region ?_
    refine OW_run' hE.ok 4 rfl ?_
    refine OW_end rfl ?_
    refine CW_block ?_
    refine CW_loop (σ := {i : Nat // i ≤ els.length ∧ ∀ j a, j < i → els[j]? = some a → elemC s (aheadOf (els.take j)) a = 0}) (fun i => ⟨J, (sset (sset (sset (sset (sset (sset (sset noSlots 2 (.d (.iptr [encS s]))) 3 (.d (.iptr (encP ⟨els, wi, byf, an⟩)))) 5 (.row 50)) 6 (.row 51)) 17 (.d (.sl 11 144 (els.map encL)))) 18 (.d (int ((els.length : Nat) : Int)))) 19 (.d (int ((i.1 : Nat) : Int)))), (hset (hset noHeap 50 (some (.row 41 11 ((aheadOf (els.take i.1)).map encL)))) 51 (some (.row 9 1 (((els.take i.1).flatMap fun e => e.tys).map encB))))⟩) (fun i => els.length - i.1) ⟨0, Nat.zero_le _, fun j a hj => by omega⟩ (LE_sh (slh_set (slh_set (slh_set (slh_set (slh_set (slh_set (slh_set (slh_no _ _) rfl rfl) rfl rfl) rfl rfl) rfl rfl) rfl rfl) (by show AV.d (.lit (.int .i64 ((els.map encL).length : Int))) = _; rw [List.length_map]; rfl) rfl) rfl rfl) (hlh_set (hlh_set (hlh_no _ _) rfl rfl) rfl rfl)) fun ⟨i, hi, hp⟩ => ?_
    refine CW_seq ?_
    refine CW_region ?_
    refine OW_run' hE.ok 1 rfl ?_
    refine OW_end rfl ?_
    refine CW_seq ?_
    refine CW_cond _ rfl (fun h2 => ?_) (fun h2 => ?_)
    · skip
      have hlt : i < els.length := by have := h2; simp at this; omega
      obtain ⟨x0, hx0⟩ : ∃ x0, els[i]? = some x0 := ⟨_, List.getElem?_eq_getElem hlt⟩
      have hxm := hl3 x0 (List.mem_of_getElem? hx0)
      have hal : (aheadOf (els.take i)).length ≤ 5 := by have := aheadOf_len (els.take i); rw [List.length_take] at this; omega
      have htl : ((els.take i).flatMap fun e => e.tys).length ≤ 15 := by have := tys_small (els := els.take i) (fun e he => hl3 e (List.mem_of_mem_take he)); rw [List.length_take] at this; omega
      have hec := elemOk s (aheadOf (els.take i)) (by omega) (fun e he => by have := hl3 e (List.mem_of_mem_take (aheadOf_mem he)); omega) x0 (by omega)
      obtain ⟨c, hc⟩ : ∃ c, elemC s (aheadOf (els.take i)) x0 = c := ⟨_, rfl⟩
      rw [hc] at hec
      obtain ⟨y1, y2, y3, y4, y5, y6, y7, y8, y9, rfl⟩ := El.shape x0
      refine CW_skip ?_
      refine CW_seq ?_
      refine CW_block ?_
      refine CW_seq ?_
      refine CW_region ?_
      refine OW_loc' hE (loc_indexAddr hE rfl rfl rfl rfl rfl (by omega) (x := encL ⟨y1, y2, y3, y4, .mk y5 y6 y7 y8 y9⟩) (by simp [hx0])) rfl rfl rfl ?_
      refine OW_run' hE.ok 1 rfl ?_
      refine OW_alloc' hE 1 rfl rfl rfl rfl rfl rfl rfl ?_
      refine OW_store' hE rfl rfl rfl rfl rfl rfl rfl rfl rfl rfl rfl rfl ?_
      refine OW_end rfl ?_
      refine CW_seq ?_
      refine CW_seq ?_
      refine CW_region ?_
      refine OW_run' hE.ok 3 rfl ?_
      refine OW_callLendD' hE (LE_freeze 50 144 rfl (by simp; omega)) (flat_err _ _) hec rfl rfl rfl rfl rfl rfl ?_
      refine OW_run' hE.ok 1 rfl ?_
      refine OW_end rfl ?_
      refine CW_seq ?_
      refine CW_region ?_
      refine OW_run' hE.ok 1 rfl ?_
      refine OW_loc' hE (loc_errNe hE rfl rfl rfl) rfl rfl rfl ?_
      refine OW_end rfl ?_
      refine CW_cond _ rfl (fun h3 => ?_) (fun h3 => ?_)
      · skip
        have hc0 : c ≠ 0 := by have := h3; simpa using this
        refine CW_seq ?_
        refine CW_region ?_
        refine OW_run' hE.ok 2 rfl ?_
        refine OW_end rfl ?_
        refine CW_ret ?_
        refine ⟨.inr rfl, rfl, ⟨_, rfl, rfl, ?_⟩, rfl⟩
        have he := elemsC_err (s := s) (ahead := []) hx0 (fun j a hj ha => by rw [List.nil_append]; exact hp j a hj ha) (by rw [List.nil_append, hc]; exact hc0)
        rw [List.nil_append, hc] at he
        rw [hpc, he, show (c == 0) = false by simpa using hc0]
        exact AVle.refl _
      · skip
        have hc0 : c = 0 := by have := h3; simpa using this
        have hgood := hc.trans hc0
        refine CW_skip ?_
        refine CW_cutE (fun _ : Unit => ⟨J, (sset (sset (sset (sset (sset (sset (sset (sset noSlots 2 (.d (.iptr [encS s]))) 3 (.d (.iptr (encP ⟨els, wi, byf, an⟩)))) 5 (.row 50)) 6 (.row 51)) 17 (.d (.sl 11 144 (els.map encL)))) 8 (.ptr 1 0)) 18 (.d (int ((els.length : Nat) : Int)))) 19 (.d (int ((i : Nat) : Int)))), (hset (hset (hset noHeap 1 (some (.box 41 ((encL ⟨y1, y2, y3, y4, .mk y5 y6 y7 y8 y9⟩).map .d)))) 50 (some (.row 41 11 ((aheadOf (els.take (i + 1))).map encL)))) 51 (some (.row 9 1 (((els.take i).flatMap fun e => e.tys).map encB))))⟩) (fun _ => True) ?_ ?_
        · skip
          refine CW_seq ?_
          refine CW_region ?_
          refine OW_run' hE.ok 3 rfl ?_
          refine OW_end rfl ?_
          refine CW_cond _ rfl (fun h4 => ?_) (fun h4 => ?_)
          · skip
            have hng : y4 = false := by have := h4; simpa using this
            refine CW_region ?_
            refine OW_run' hE.ok 2 rfl ?_
            refine OW_lits' hE rfl rfl rfl rfl rfl rfl rfl rfl rfl rfl rfl rfl ?_
            refine OW_append' hE (key := 50) rfl rfl rfl rfl rfl rfl rfl rfl (.inl rfl) (by simp; omega) (by simp; omega) rfl ?_
            refine OW_run' hE.ok 1 rfl ?_
            refine OW_end rfl ?_
            exact ⟨(), trivial, LE_sh (slh_set (slh_set (slh_set (slh_set (slh_set (slh_set (slh_set (slh_set (slh_no _ _) rfl rfl) rfl rfl) rfl rfl) rfl rfl) rfl rfl) rfl rfl) rfl rfl) rfl rfl) (hlh_set (hlh_set (hlh_set (hlh_no _ _) rfl rfl) (congrArg (fun z => some (Ent.row 41 11 z)) (by rw [aheadOf_snoc hx0]; simp [hng, encL, encX])) rfl) rfl rfl)⟩
          · skip
            have hng : y4 = true := by have := h4; simpa using this
            refine CW_skip ?_
            exact ⟨(), trivial, LE_sh (slh_set (slh_set (slh_set (slh_set (slh_set (slh_set (slh_set (slh_set (slh_no _ _) rfl rfl) rfl rfl) rfl rfl) rfl rfl) rfl rfl) rfl rfl) rfl rfl) rfl rfl) (hlh_set (hlh_set (hlh_set (hlh_no _ _) rfl rfl) (congrArg (fun z => some (Ent.row 41 11 z)) (by rw [aheadOf_snoc hx0]; simp [hng])) rfl) rfl rfl)⟩
        · skip
          rintro _ _
          refine CW_region ?_
          refine OW_run' hE.ok 3 rfl ?_
          refine OW_append' hE (key := 51) rfl rfl rfl rfl rfl rfl rfl rfl (.inl rfl) (by rw [List.length_map, List.length_map]; omega) (by rw [List.length_map, List.length_map]; omega) rfl ?_
          refine OW_run' hE.ok 1 rfl ?_
          refine OW_end rfl ?_
          refine CW_region ?_
          refine OW_run' hE.ok 2 rfl ?_
          refine OW_end rfl ?_
          refine ⟨⟨i + 1, by omega, fun j x hj hx => ?_⟩, LE_sh (slh_set (slh_set (slh_set (slh_set (slh_set (slh_set (slh_set (slh_no _ _) rfl rfl) rfl rfl) rfl rfl) rfl rfl) rfl rfl) rfl rfl) (by show AV.d (.lit (.int .i64 (IntKind.i64.wrap ((i : Int) + 1)))) = _; rw [wrap_succ (by omega)]; rfl) rfl) (hlh_set (hlh_set (hlh_no _ _) rfl rfl) (congrArg (fun z => some (Ent.row 9 1 z)) (by rw [tysOf_snoc hx0, List.map_append])) rfl), by show els.length - (i + 1) < els.length - i; omega⟩
          by_cases hji : j = i
          · subst hji; rw [hx0] at hx; cases hx; exact hgood
          · exact hp j x (by omega) hx
    · skip
      have hge : els.length ≤ i := by have := h2; simp at this; omega
      have hall : elemsC s [] els = 0 := elemsC_ok fun j a ha => by rw [List.nil_append]; exact hp j a (by have := (List.getElem?_eq_some_iff.1 ha).1; omega) ha
      have htl : (els.flatMap fun e => e.tys).length ≤ 15 := by have := tys_small hl3; omega
      refine CW_exit ?_
      show CW _ _ _ _
      refine CW_seq ?_
      refine CW_seq ?_
      refine CW.le (LE_freeze 51 16 rfl (by have h9 : els.take i = els := List.take_of_length_le hge; rw [List.length_map]; show ((els.take i).flatMap fun e => e.tys).length * 16 ≤ _; rw [h9]; omega)) ?_
      refine CW.le (show LE _ _ ⟨J, (sset (sset (sset noSlots 2 (.d (.iptr [encS s]))) 3 (.d (.iptr (encP ⟨els, wi, byf, an⟩)))) 6 (.d (.sl 1 16 ((els.flatMap fun e => e.tys).map encB)))), noHeap⟩ from LE_sh (slh_set (slh_set (slh_set (slh_no _ _) rfl rfl) rfl rfl) (congrArg (fun z : List El => AV.d (.sl 1 16 ((z.flatMap fun e : El => e.tys).map encB))) (List.take_of_length_le hge)) rfl) (hlh_no _ _)) ?_
      refine CW_region ?_
      refine OW_run' hE.ok 3 rfl ?_
      refine OW_end rfl ?_
      refine CW_cond _ rfl (fun h5 => ?_) (fun h5 => ?_)
      · skip
        have g2 : same byf nul = true := h5
        refine CW_seq ?_
        refine CW_region ?_
        refine OW_run' hE.ok 1 rfl ?_
        refine OW_end rfl ?_
        refine CW_ret ?_
        refine ⟨.inr rfl, rfl, ⟨_, rfl, rfl, ?_⟩, rfl⟩
        rw [hpc, hall, g2]
        exact AVle.refl _
      · skip
        have g2 : same byf nul = false := h5
        refine CW_skip ?_
        refine CW_seq ?_
        refine CW_region ?_
        refine OW_run' hE.ok 4 rfl ?_
        refine OW_call' hE (fieldCOk s (els.flatMap fun e => e.tys) byf (by omega)) rfl rfl rfl rfl rfl rfl rfl ?_
        refine OW_run' hE.ok 5 rfl ?_
        refine OW_end rfl ?_
        refine CW_seq ?_
        refine CW_region ?_
        refine OW_run' hE.ok 2 rfl ?_
        refine OW_end rfl ?_
        refine CW_ret ?_
        refine ⟨.inr rfl, rfl, ⟨_, rfl, rfl, ?_⟩, rfl⟩
        rw [hpc, hall, g2]
        exact AVle.refl _
end Go.Proofs.Ytencfmpapdnnaaa
