/- Parts of an abstract logic over the kit's walks, and walks in it: Q1m. -/
import Derived.Test.YtencfmpapdnnaaaQ1f
import Derived.Test.YtencfmpapdnnaaaQ1g
import Derived.Test.YtencfmpapdnnaaaLa
import Derived.Test.YtencfmpapdnnaaaMe
import Derived.Test.YtencfmpapdnnaaaKp
namespace Go.Proofs.Ytencfmpapdnnaaa
open Go Go.AL
set_option linter.unusedVariables false
set_option linter.unusedSimpArgs false
set_option maxHeartbeats 4000000
theorem checkedOk (x : Exp) (b ng : Bool) (m : Int) (s : ByteArray) (hx : (nodesX x 1).length ≤ 1048576) : Does Try.prog 8 [argX x, .d (boo b), .d (boo ng), .d (int m), .d (str s)] noHeap (.d (boo true)) := by
  refine Does_of T_ok mixed (N := 93) Try.func8 rfl rfl rfl (by rfl) fun F n Z hE hF J => ?_
  obtain ⟨z, hz⟩ : ∃ z, (bif ng then -1 else wr (m.tdiv 2)) = z := ⟨_, rfl⟩
  have c1 := refNodesOk x hx
  have c2 := refKindOk bS lCk x
  have c3 := evalOk bS x (bindsC b m s z)
  have hck := checked_law (x := x) b m s z
  obtain ⟨ka, hka⟩ : ∃ q, kindR bS lCk x = q := ⟨_, rfl⟩
  obtain ⟨r, hr⟩ : ∃ q, evalX bS (bindsC b m s z) x = q := ⟨_, rfl⟩
  rw [hka] at c2 hck
  rw [hr] at c3 hck
  clear hka hr
  obtain ⟨o1, v1, a1, f1, k1, rfl⟩ := Exp.shape x
  refine CW_seq ?_
  refine CW_region ?_
  refine OW_run' hE.ok 2 rfl ?_
  refine OW_end rfl ?_
  refine CW_seq ?_
  refine CW_seq ?_
  refine CW_region ?_
  refine OW_call' hE (known11) rfl rfl rfl rfl rfl rfl rfl ?_
  refine OW_run' hE.ok 1 rfl ?_
  refine OW_end rfl ?_
  refine CW_false rfl ?_
  refine CW_skip ?_
  refine CW_seq ?_
  refine CW_seq ?_
  refine CW_region ?_
  refine OW_run' hE.ok 1 rfl ?_
  refine OW_call' hE (c1) rfl rfl rfl rfl rfl rfl rfl ?_
  refine OW_run' hE.ok 3 rfl ?_
  refine OW_split' 24 rfl (fun h1 => ?_) (fun h1 => ?_)
  · skip
    refine OW_run' hE.ok 4 rfl ?_
    refine OW_end rfl ?_
    refine CW_true rfl ?_
    refine CW_seq ?_
    refine CW_region ?_
    refine OW_run' hE.ok 1 rfl ?_
    refine OW_end rfl ?_
    refine CW_ret ?_
    refine ⟨.inr rfl, rfl, ⟨[.d (boo true)], rfl, rfl, ?_⟩, rfl⟩
    exact AVle.refl _
  · skip
    refine OW_run' hE.ok 4 rfl ?_
    refine OW_end rfl ?_
    refine CW_cond _ rfl (fun h2 => ?_) (fun h2 => ?_)
    · skip
      refine CW_seq ?_
      refine CW_region ?_
      refine OW_run' hE.ok 1 rfl ?_
      refine OW_end rfl ?_
      refine CW_ret ?_
      refine ⟨.inr rfl, rfl, ⟨[.d (boo true)], rfl, rfl, ?_⟩, rfl⟩
      exact AVle.refl _
    · skip
      refine CW_skip ?_
      refine CW_seq ?_
      refine CW_region ?_
      refine OW_lits' hE rfl rfl rfl rfl rfl rfl rfl rfl rfl rfl rfl rfl ?_
      refine OW_build' hE rfl rfl rfl rfl rfl ?_
      refine OW_lits' hE rfl rfl rfl rfl rfl rfl rfl rfl rfl rfl rfl rfl ?_
      refine OW_build' hE rfl rfl rfl rfl rfl ?_
      refine OW.le (LE_slot 30 (argL ⟨(ch 97), [ch 116], false, false, zeroX⟩) (el_le (ch 97) [ch 116] false)) ?_
      refine OW.le (LE_slot 32 (argL ⟨(ch 99), [ch 117], false, false, zeroX⟩) (el_le (ch 99) [ch 117] false)) ?_
      refine OW_lits' hE rfl rfl rfl rfl rfl rfl rfl rfl rfl rfl rfl rfl ?_
      refine OW_run' hE.ok 1 rfl ?_
      refine OW_end rfl ?_
      refine CW_seq ?_
      refine CW_drawn' hE 8 (by decide +kernel) ?_
      refine HW_call hE (base11) rfl rfl rfl rfl rfl rfl rfl rfl ?_
      refine HW_run hE 2 rfl rfl ?_
      refine HW_call hE (c2) rfl rfl rfl rfl rfl rfl rfl rfl ?_
      refine HW_run hE 4 rfl rfl ?_
      refine HW_end ?_
      refine OW_run' hE.ok 1 rfl ?_
      refine OW_end rfl ?_
      refine CW_seq ?_
      refine CW_seq ?_
      refine CW_region ?_
      refine OW_run' hE.ok 2 rfl ?_
      refine OW_end rfl ?_
      refine CW_cond _ rfl (fun h3 => ?_) (fun h3 => ?_)
      · skip
        refine CW_seq ?_
        refine CW_region ?_
        refine OW_run' hE.ok 1 rfl ?_
        refine OW_end rfl ?_
        refine CW_ret ?_
        refine ⟨.inr rfl, rfl, ⟨[.d (boo true)], rfl, rfl, ?_⟩, rfl⟩
        exact AVle.refl _
      · skip
        have hk0 : ka.2 = 0 := bne_eq_false_iff_eq.1 h3
        refine CW_skip ?_
        refine CW_seq ?_
        refine CW_region ?_
        refine OW_build' hE rfl rfl rfl rfl rfl ?_
        refine OW_run' hE.ok 1 rfl ?_
        refine OW_build' hE rfl rfl rfl rfl rfl ?_
        refine OW_run' hE.ok 1 rfl ?_
        refine OW_build' hE rfl rfl rfl rfl rfl ?_
        refine OW_litsOwn' hE 50 rfl rfl rfl rfl rfl rfl rfl rfl rfl rfl rfl rfl ?_
        refine OW_build' hE rfl rfl rfl rfl rfl ?_
        refine OW_alloc' hE 1 rfl rfl rfl rfl rfl rfl rfl ?_
        refine OW_store' hE rfl rfl rfl rfl rfl rfl rfl rfl rfl rfl rfl rfl ?_
        refine OW_end rfl ?_
        refine CW_cutE (fun _ : Unit => ⟨J, (sset (sset (sset (sset (sset noSlots 2 (.d (boo ng))) 3 (.d (int m))) 5 (.d (.iptr (encX (.mk o1 v1 a1 f1 k1))))) 12 (.d (int ka.1))) 14 (.ptr 1 0)), (hset (hset noHeap 1 (some (.box 69 [.d (str (ch 116)), .d (int 0), .row 50]))) 50 (some (.row 25 3 [[int 3, int (bif b then 1 else 0), str nul], [int 1, int m, str nul], [int 2, int 0, str s]])))⟩) (fun _ => True) ?_ ?_
        · skip
          refine CW_seq ?_
          refine CW_region ?_
          refine OW_run' hE.ok 1 rfl ?_
          refine OW_end rfl ?_
          refine CW_cond _ rfl (fun h4 => ?_) (fun h4 => ?_)
          · skip
            have gb : b = true := h4
            refine CW_region ?_
            refine OW_run' hE.ok 2 rfl ?_
            refine OW_loc' hE (loc_idxRow hE rfl rfl rfl rfl rfl (j := 0) rfl (by simp)) rfl rfl rfl ?_
            refine OW_run' hE.ok 1 rfl ?_
            refine OW_storeRow' hE rfl rfl rfl rfl rfl (j := 0) (off := 1) rfl (by omega) rfl (x := [int 3, int 0, str nul]) rfl (y := [int 1]) rfl rfl rfl (by simp) (xs' := [[int 3, int 1, str nul], [int 1, int m, str nul], [int 2, int 0, str s]]) rfl ?_
            refine OW_end rfl ?_
            exact ⟨(), trivial, LE_sh (slh_set (v := .ptr 1 0) (slh_set (v := .d (int ka.1)) (slh_set (v := .d (.iptr (encX (.mk o1 v1 a1 f1 k1)))) (slh_set (v := .d (int m)) (slh_set (v := .d (boo ng)) (slh_no _ _) (by rfl) rfl) (by rfl) rfl) (by rfl) rfl) (by rfl) rfl) (by rfl) rfl) (hlh_set (hlh_set (hlh_no _ _) rfl rfl) (congrArg (fun z => some (Ent.row 25 3 [[int 3, int z, str nul], [int 1, int m, str nul], [int 2, int 0, str s]])) (by rw [gb]; rfl)) rfl)⟩
          · skip
            have gb : b = false := h4
            refine CW_skip ?_
            exact ⟨(), trivial, LE_sh (slh_set (v := .ptr 1 0) (slh_set (v := .d (int ka.1)) (slh_set (v := .d (.iptr (encX (.mk o1 v1 a1 f1 k1)))) (slh_set (v := .d (int m)) (slh_set (v := .d (boo ng)) (slh_no _ _) (by rfl) rfl) (by rfl) rfl) (by rfl) rfl) (by rfl) rfl) (by rfl) rfl) (hlh_set (hlh_set (hlh_no _ _) rfl rfl) (congrArg (fun z => some (Ent.row 25 3 [[int 3, int z, str nul], [int 1, int m, str nul], [int 2, int 0, str s]])) (by rw [gb]; rfl)) rfl)⟩
        · skip
          rintro _ _
          refine CW.le (LE_freeze 50 32 rfl (by simp)) ?_
          refine CW.le (show LE _ _ ⟨J, (sset (sset (sset (sset (sset noSlots 2 (.d (boo ng))) 3 (.d (int m))) 5 (.d (.iptr (encX (.mk o1 v1 a1 f1 k1))))) 12 (.d (int ka.1))) 14 (.ptr 1 0)), (hset noHeap 1 (some (.box 69 ((encE (evtT b m s)).map .d))))⟩ from LE_sh (slh_set (v := .ptr 1 0) (slh_set (v := .d (int ka.1)) (slh_set (v := .d (.iptr (encX (.mk o1 v1 a1 f1 k1)))) (slh_set (v := .d (int m)) (slh_set (v := .d (boo ng)) (slh_no _ _) (by rfl) rfl) (by rfl) rfl) (by rfl) rfl) (by rfl) rfl) (by rfl) rfl) (hlh_set (hlh_no _ _) rfl rfl)) ?_
          refine CW_seq ?_
          refine CW_region ?_
          refine OW_run' hE.ok 1 rfl ?_
          refine OW_loc' hE (loc_quo hE rfl rfl rfl (by decide)) rfl rfl rfl ?_
          refine OW_build' hE rfl rfl rfl rfl rfl ?_
          refine OW_litsOwn' hE 51 rfl rfl rfl rfl rfl rfl rfl rfl rfl rfl rfl rfl ?_
          refine OW_build' hE rfl rfl rfl rfl rfl ?_
          refine OW_alloc' hE 2 rfl rfl rfl rfl rfl rfl rfl ?_
          refine OW_store' hE rfl rfl rfl rfl rfl rfl rfl rfl rfl rfl rfl rfl ?_
          refine OW_end rfl ?_
          refine CW_cutE (fun _ : Unit => ⟨J, (sset (sset (sset (sset noSlots 5 (.d (.iptr (encX (.mk o1 v1 a1 f1 k1))))) 12 (.d (int ka.1))) 14 (.ptr 1 0)) 15 (.ptr 2 0)), (hset (hset (hset noHeap 1 (some (.box 69 ((encE (evtT b m s)).map .d)))) 2 (some (.box 69 [.d (str (ch 117)), .d (int 0), .row 51]))) 51 (some (.row 25 3 [[int 1, int z, str nul]])))⟩) (fun _ => True) ?_ ?_
          · skip
            refine CW_seq ?_
            refine CW_region ?_
            refine OW_run' hE.ok 1 rfl ?_
            refine OW_end rfl ?_
            refine CW_cond _ rfl (fun h5 => ?_) (fun h5 => ?_)
            · skip
              have gn : ng = true := h5
              refine CW_region ?_
              refine OW_run' hE.ok 2 rfl ?_
              refine OW_loc' hE (loc_idxRow hE rfl rfl rfl rfl rfl (j := 0) rfl (by simp)) rfl rfl rfl ?_
              refine OW_run' hE.ok 1 rfl ?_
              refine OW_storeRow' hE rfl rfl rfl rfl rfl (j := 0) (off := 1) rfl (by omega) rfl (x := [int 1, int (wr (m.tdiv 2)), str nul]) rfl (y := [int (-1)]) rfl rfl rfl (by simp) (xs' := [[int 1, int (-1), str nul]]) rfl ?_
              refine OW_end rfl ?_
              exact ⟨(), trivial, LE_sh (slh_set (v := .ptr 2 0) (slh_set (v := .ptr 1 0) (slh_set (v := .d (int ka.1)) (slh_set (v := .d (.iptr (encX (.mk o1 v1 a1 f1 k1)))) (slh_no _ _) (by rfl) rfl) (by rfl) rfl) (by rfl) rfl) (by rfl) rfl) (hlh_set (hlh_set (hlh_set (hlh_no _ _) rfl rfl) rfl rfl) (congrArg (fun q => some (Ent.row 25 3 [[int 1, int q, str nul]])) (by rw [← hz, gn]; rfl)) rfl)⟩
            · skip
              have gn : ng = false := h5
              refine CW_skip ?_
              exact ⟨(), trivial, LE_sh (slh_set (v := .ptr 2 0) (slh_set (v := .ptr 1 0) (slh_set (v := .d (int ka.1)) (slh_set (v := .d (.iptr (encX (.mk o1 v1 a1 f1 k1)))) (slh_no _ _) (by rfl) rfl) (by rfl) rfl) (by rfl) rfl) (by rfl) rfl) (hlh_set (hlh_set (hlh_set (hlh_no _ _) rfl rfl) rfl rfl) (congrArg (fun q => some (Ent.row 25 3 [[int 1, int q, str nul]])) (by rw [← hz, gn]; rfl)) rfl)⟩
          · skip
            rintro _ _
            refine CW.le (LE_freeze 51 32 rfl (by simp)) ?_
            refine CW.le (show LE _ _ ⟨J, (sset (sset (sset (sset noSlots 5 (.d (.iptr (encX (.mk o1 v1 a1 f1 k1))))) 12 (.d (int ka.1))) 14 (.ptr 1 0)) 15 (.ptr 2 0)), (hset (hset noHeap 1 (some (.box 69 ((encE (evtT b m s)).map .d)))) 2 (some (.box 69 ((encE (evtU z)).map .d))))⟩ from LE_sh (slh_set (v := .ptr 2 0) (slh_set (v := .ptr 1 0) (slh_set (v := .d (int ka.1)) (slh_set (v := .d (.iptr (encX (.mk o1 v1 a1 f1 k1)))) (slh_no _ _) (by rfl) rfl) (by rfl) rfl) (by rfl) rfl) (by rfl) rfl) (hlh_set (hlh_set (hlh_no _ _) rfl rfl) rfl rfl)) ?_
            refine CW_seq ?_
            refine CW_seq ?_
            refine CW_drawn' hE 2 (by decide +kernel) ?_
            refine HW_call hE (base11) rfl rfl rfl rfl rfl rfl rfl rfl ?_
            refine HW_run hE 1 rfl rfl ?_
            refine HW_end ?_
            refine OW_call' hE (refIsEOk bS (evtT b m s)) rfl rfl rfl rfl rfl rfl rfl ?_
            refine OW_run' hE.ok 1 rfl ?_
            refine OW_end rfl ?_
            refine CW_cond _ rfl (fun h6 => ?_) (fun h6 => ?_)
            · skip
              refine CW_seq ?_
              refine CW_region ?_
              refine OW_run' hE.ok 1 rfl ?_
              refine OW_end rfl ?_
              refine CW_ret ?_
              refine ⟨.inr rfl, rfl, ⟨[.d (boo true)], rfl, rfl, ?_⟩, rfl⟩
              exact AVle.refl _
            · skip
              have he0 : evtR bS (evtT b m s) = 0 := bne_eq_false_iff_eq.1 h6
              have hck2 := hck hk0 he0
              refine CW_skip ?_
              refine CW_cutE (fun _ : Unit => ⟨J, (sset (sset (sset noSlots 12 (.d (int ka.1))) 16 (.ptr 3 0)) 17 (.d (errC 45 r.2))), (hset noHeap 3 (some (.box 25 ((encV r.1).map .d))))⟩) (fun _ => True) ?_ ?_
              · skip
                refine CW_drawn2 hE 13 11 12 3 (by decide +kernel) (V := (encV r.1).map .d) rfl rfl rfl rfl rfl rfl rfl rfl rfl (by decide +kernel) rfl rfl rfl rfl rfl ?_
                refine H2_call hE (base11) rfl rfl rfl rfl rfl rfl rfl rfl rfl ?_
                refine H2_run hE 2 rfl rfl rfl rfl rfl ?_
                refine H2_loc hE (fun b => loc_build hE rfl rfl) rfl rfl rfl rfl rfl ?_
                refine H2_run hE 1 rfl rfl rfl rfl rfl ?_
                refine H2_loc hE (fun b => loc_build hE rfl rfl) rfl rfl rfl rfl rfl ?_
                refine H2_loc hE (fun q => loc_lits hE (t := 73) (len := 2) (parts := #[(0, .tmp 73), (1, .tmp 75)]) rfl rfl rfl rfl rfl rfl rfl rfl (xs := (bindsC b m s z).map encBi) rfl) rfl rfl rfl rfl rfl ?_
                refine H2_call hE (c3) rfl rfl rfl rfl rfl rfl rfl rfl rfl ?_
                refine H2_run hE 3 rfl rfl rfl rfl rfl ?_
                refine H2_alloc rfl rfl rfl ?_
                refine H2_store rfl rfl rfl rfl rfl rfl rfl rfl ?_
                refine H2_end ?_
                refine OW_run' hE.ok 1 rfl ?_
                refine OW_end rfl ?_
                exact ⟨(), trivial, LE_sh (slh_set (v := .d (errC 45 r.2)) (slh_set (v := .ptr 3 0) (slh_set (v := .d (int ka.1)) (slh_no _ _) (by rfl) rfl) (by rfl) rfl) (by rfl) rfl) (hlh_set (hlh_no _ _) rfl rfl)⟩
              · skip
                rintro _ _
                rcases hck2 with hc | ⟨hc, hk⟩
                · skip
                  rw [show errC 45 r.2 = errN 45 16 by rw [hc]; rfl]
                  refine CW_seq ?_
                  refine CW_region ?_
                  refine OW_run' hE.ok 11 rfl ?_
                  refine OW_call' hE (errIs 16 16) rfl rfl rfl rfl rfl rfl rfl ?_
                  refine OW_run' hE.ok 2 rfl ?_
                  refine OW_end rfl ?_
                  refine CW_ret ?_
                  refine ⟨.inr rfl, rfl, ⟨[.d (boo true)], rfl, rfl, ?_⟩, rfl⟩
                  exact AVle.refl _
                · skip
                  rw [show errC 45 r.2 = nilE by rw [hc]; rfl]
                  refine CW_seq ?_
                  refine CW_region ?_
                  refine OW_run' hE.ok 6 rfl ?_
                  refine OW_run' hE.ok 1 rfl ?_
                  refine OW_as' 86 (.d (boo true)) (by refine congrArg (fun b => AV.d (boo b)) ?_; rw [hk]; exact beq_self_eq_true _) ?_
                  refine OW_run' hE.ok 7 rfl ?_
                  refine OW_end rfl ?_
                  refine CW_ret ?_
                  refine ⟨.inr rfl, rfl, ⟨[.d (boo true)], rfl, rfl, ?_⟩, rfl⟩
                  exact AVle.refl _
end Go.Proofs.Ytencfmpapdnnaaa
