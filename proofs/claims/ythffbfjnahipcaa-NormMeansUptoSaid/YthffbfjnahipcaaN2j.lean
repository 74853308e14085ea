/- Parts of an abstract logic over the kit's walks, and walks in it: N2j. -/
import Derived.Test.YthffbfjnahipcaaN2d
namespace Go.Proofs.Ythffbfjnahipcaa
open Go Go.AL
set_option linter.unusedVariables false
set_option linter.unusedSimpArgs false
set_option maxHeartbeats 4000000
theorem namedStep (op : Int) (v : Vl) (al fi : ByteArray) (ks : List Exp) (fr to : List El) (ih : ∀ k ∈ ks, Does Try.prog 72 [argX k, .d (.sl 11 144 (fr.map encL)), .d (.sl 11 144 (to.map encL))] noHeap (argX (renX (nm fr to) k))) : Does Try.prog 72 [argX (.mk op v al fi ks), .d (.sl 11 144 (fr.map encL)), .d (.sl 11 144 (to.map encL))] noHeap (argX (renX (nm fr to) (.mk op v al fi ks))) := by
  refine Does_of T_ok mixed (N := 63) Try.func72 rfl rfl rfl (by rfl) fun F n Z hE hF J => ?_
  refine CW_seq ?_
  refine CW_region ?_
  refine OW_run' hE.ok 1 rfl ?_
  refine OW_alloc' hE 1 rfl rfl rfl rfl rfl rfl rfl ?_
  refine OW_end rfl ?_
  refine CW_seq ?_
  refine CW_region ?_
  refine OW_run' hE.ok 8 rfl ?_
  refine OW_build' hE rfl rfl rfl rfl rfl ?_
  refine OW_alloc' hE 2 rfl rfl rfl rfl rfl rfl rfl ?_
  refine OW_store' hE rfl rfl rfl rfl rfl rfl rfl rfl rfl rfl rfl rfl ?_
  refine OW_end rfl ?_
  refine CW_cutE (fun _ : Unit => ⟨J, (sset (sset (sset (sset (sset noSlots 1 (.d (.sl 11 144 (fr.map encL)))) 2 (.d (.sl 11 144 (to.map encL)))) 3 (.d (.iptr (encX (.mk op v al fi ks))))) 6 (.ptr 1 0)) 7 (.ptr 2 0)), (hset (hset noHeap 1 (some (.box 27 [.d (int 0), .d (int 0), .d (int 0), .d (str nul), .d (str nul), .d (str nul), .d (.lit (.slice none 0 0))]))) 2 (some (.box 27 [.d (int op), .d (int v.k), .d (int v.n), .d (str v.s), .d (str (bif op == 2 then nm fr to al else al)), .d (str fi), .d (.lit (.slice none 0 0))])))⟩) (fun _ => True) ?_ ?_
  · skip
    refine CW_seq ?_
    refine CW_region ?_
    refine OW_run' hE.ok 3 rfl ?_
    refine OW_call' hE (refAliasOk _ _) rfl rfl rfl rfl rfl rfl rfl ?_
    refine OW_run' hE.ok 1 rfl ?_
    refine OW_end rfl ?_
    refine CW_seq ?_
    refine CW_region ?_
    refine OW_run' hE.ok 4 rfl ?_
    refine OW_split' 26 rfl (fun h1 => ?_) (fun h1 => ?_)
    · skip
      have g1 : (op == 2) = true := h1
      refine OW_run' hE.ok 4 rfl ?_
      refine OW_split' 30 rfl (fun h2 => ?_) (fun h2 => ?_)
      · skip
        have g2 : decide (idx (fun e => same e.al al) fr ≥ 0) = true := h2
        refine OW_run' hE.ok 5 rfl ?_
        refine OW_end rfl ?_
        refine CW_cond _ rfl (fun h3 => ?_) (fun h3 => ?_)
        · skip
          have g3 : idx (fun e => same e.al al) fr < (to.length : Int) := by have := h3; simpa using this
          have g2' : 0 ≤ idx (fun e => same e.al al) fr := by simpa using g2
          obtain ⟨j, hj⟩ := Int.eq_ofNat_of_zero_le g2'
          obtain ⟨e, he⟩ : ∃ e, to[j]? = some e := ⟨_, List.getElem?_eq_getElem (by omega)⟩
          have hnm := nm_some hj he
          refine CW_region ?_
          refine OW_run' hE.ok 2 rfl ?_
          refine OW_as' 37 (.d (int ((j : Nat) : Int))) (by show AV.d (int (idx (fun e => same e.al al) fr)) = _; rw [hj]) ?_
          refine OW_loc' hE (loc_indexAddr hE rfl rfl rfl rfl rfl (by omega) (x := encL e) (by simp [he])) rfl rfl rfl ?_
          refine OW_run' hE.ok 3 rfl ?_
          refine OW_store' hE rfl rfl rfl rfl rfl rfl rfl rfl rfl rfl rfl rfl ?_
          refine OW_end rfl ?_
          exact ⟨(), trivial, LE_sh (slh_set (v := .ptr 2 0) (slh_set (v := .ptr 1 0) (slh_set (v := .d (.iptr (encX (.mk op v al fi ks)))) (slh_set (v := .d (.sl 11 144 (to.map encL))) (slh_set (v := .d (.sl 11 144 (fr.map encL))) (slh_no _ _) (by rfl) rfl) (by rfl) rfl) (by rfl) rfl) (by rfl) rfl) (by rfl) rfl) (hlh_set (hlh_set (hlh_no _ _) rfl rfl) (congrArg (fun z => some (Ent.box 27 [.d (int op), .d (int v.k), .d (int v.n), .d (str v.s), .d (str z), .d (str fi), .d (.lit (.slice none 0 0))])) (by rw [g1]; exact hnm.symm)) rfl)⟩
        · skip
          have hnm : nm fr to al = al := nm_none (.inr (by have := h3; simpa using this))
          refine CW_skip ?_
          exact ⟨(), trivial, LE_sh (slh_set (v := .ptr 2 0) (slh_set (v := .ptr 1 0) (slh_set (v := .d (.iptr (encX (.mk op v al fi ks)))) (slh_set (v := .d (.sl 11 144 (to.map encL))) (slh_set (v := .d (.sl 11 144 (fr.map encL))) (slh_no _ _) (by rfl) rfl) (by rfl) rfl) (by rfl) rfl) (by rfl) rfl) (by rfl) rfl) (hlh_set (hlh_set (hlh_no _ _) rfl rfl) (congrArg (fun z => some (Ent.box 27 [.d (int op), .d (int v.k), .d (int v.n), .d (str v.s), .d (str z), .d (str fi), .d (.lit (.slice none 0 0))])) (by rw [g1]; exact hnm.symm)) rfl)⟩
      · skip
        have g2 : decide (idx (fun e => same e.al al) fr ≥ 0) = false := h2
        refine OW_run' hE.ok 5 rfl ?_
        refine OW_end rfl ?_
        refine CW_false rfl ?_
        refine CW_skip ?_
        exact ⟨(), trivial, LE_sh (slh_set (v := .ptr 2 0) (slh_set (v := .ptr 1 0) (slh_set (v := .d (.iptr (encX (.mk op v al fi ks)))) (slh_set (v := .d (.sl 11 144 (to.map encL))) (slh_set (v := .d (.sl 11 144 (fr.map encL))) (slh_no _ _) (by rfl) rfl) (by rfl) rfl) (by rfl) rfl) (by rfl) rfl) (by rfl) rfl) (hlh_set (hlh_set (hlh_no _ _) rfl rfl) (congrArg (fun z => some (Ent.box 27 [.d (int op), .d (int v.k), .d (int v.n), .d (str v.s), .d (str z), .d (str fi), .d (.lit (.slice none 0 0))])) (by rw [g1]; exact (nm_none (.inl (by simpa using g2))).symm)) rfl)⟩
    · skip
      have g1 : (op == 2) = false := h1
      refine OW_run' hE.ok 9 rfl ?_
      refine OW_end rfl ?_
      refine CW_false rfl ?_
      refine CW_skip ?_
      exact ⟨(), trivial, LE_sh (slh_set (v := .ptr 2 0) (slh_set (v := .ptr 1 0) (slh_set (v := .d (.iptr (encX (.mk op v al fi ks)))) (slh_set (v := .d (.sl 11 144 (to.map encL))) (slh_set (v := .d (.sl 11 144 (fr.map encL))) (slh_no _ _) (by rfl) rfl) (by rfl) rfl) (by rfl) rfl) (by rfl) rfl) (by rfl) rfl) (hlh_set (hlh_set (hlh_no _ _) rfl rfl) (congrArg (fun z => some (Ent.box 27 [.d (int op), .d (int v.k), .d (int v.n), .d (str v.s), .d (str z), .d (str fi), .d (.lit (.slice none 0 0))])) (by rw [g1]; rfl)) rfl)⟩
  · skip
    rintro _ _
    refine CW_seq ?_
    refine CW_seq ?_
    refine CW_region ?_
    refine OW_run' hE.ok 1 rfl ?_
    refine OW_end rfl ?_
    refine CW_block ?_
    refine CW.le (LE_nilCell 2 50 6 27 7 rfl rfl rfl) ?_
    refine CW_loop (σ := {i : Nat // i ≤ ks.length}) (fun i => ⟨J, (sset (sset (sset (sset (sset (sset noSlots 1 (.d (.sl 11 144 (fr.map encL)))) 2 (.d (.sl 11 144 (to.map encL)))) 3 (.d (.iptr (encX (.mk op v al fi ks))))) 6 (.ptr 1 0)) 7 (.ptr 2 0)) 9 (.d (int ((i.1 : Nat) : Int)))), (hset (hset (hset noHeap 1 (some (.box 27 [.d (int 0), .d (int 0), .d (int 0), .d (str nul), .d (str nul), .d (str nul), .d (.lit (.slice none 0 0))]))) 2 (some (.box 27 [.d (int op), .d (int v.k), .d (int v.n), .d (str v.s), .d (str (bif op == 2 then nm fr to al else al)), .d (str fi), .row 50]))) 50 (some (.row 27 7 (encXs (renXs (nm fr to) (ks.take i.1))))))⟩) (fun i => ks.length - i.1) ⟨0, Nat.zero_le _⟩ (LE_sh (slh_set (slh_set (slh_set (slh_set (slh_set (slh_set (slh_no _ _) rfl rfl) rfl rfl) rfl rfl) rfl rfl) rfl rfl) rfl rfl) (hlh_set (hlh_set (hlh_set (hlh_no _ _) rfl rfl) rfl rfl) rfl rfl)) fun ⟨i, hi⟩ => ?_
    refine CW_seq ?_
    refine CW_seq ?_
    refine CW_region ?_
    refine OW_run' hE.ok 5 rfl ?_
    refine OW_end rfl ?_
    refine CW_cond _ rfl (fun h4 => ?_) (fun h4 => ?_)
    · skip
      refine CW_know (know_sl (d := 44) rfl) fun hlen => ?_
      rw [encXs_length] at hlen
      have hlt : i < ks.length := by have := h4; simp [encXs_length] at this; omega
      obtain ⟨k, hk⟩ : ∃ k, ks[i]? = some k := ⟨_, List.getElem?_eq_getElem hlt⟩
      have hI := ih k (List.mem_of_getElem? hk)
      obtain ⟨o3, v3, a3, f3, k3, hN⟩ := Exp.shape (renX (nm fr to) k)
      rw [hN] at hI
      obtain ⟨o1, v1, a1, f1, k1, rfl⟩ := Exp.shape k
      refine CW_skip ?_
      refine CW_seq ?_
      refine CW_block ?_
      refine CW_drawn' hE 11 (by decide +kernel) ?_
      refine HW_run hE 5 rfl rfl ?_
      refine HW_loc hE (loc_indexAddr hE rfl rfl rfl rfl rfl (by omega) (x := encX (.mk o1 v1 a1 f1 k1)) (encXs_get hk)) rfl rfl rfl rfl ?_
      refine HW_run hE 3 rfl rfl ?_
      refine HW_call hE (hI) rfl rfl rfl rfl rfl rfl rfl rfl ?_
      refine HW_loc hE (loc_lits hE (t := 25) (len := 1) (parts := #[(0, .tmp 58)]) rfl rfl rfl rfl rfl rfl rfl rfl (xs := [encX (.mk o3 v3 a3 f3 k3)]) rfl) rfl rfl rfl rfl ?_
      refine HW_end ?_
      refine OW_append' hE (key := 50) rfl rfl rfl rfl rfl rfl rfl rfl (.inl rfl) (by simp [encXs_length, renXs_len]; omega) (by simp [encXs_length, renXs_len]; omega) rfl ?_
      refine OW_run' hE.ok 1 rfl ?_
      refine OW_store' hE rfl rfl rfl rfl rfl rfl rfl rfl rfl rfl rfl rfl ?_
      refine OW_end rfl ?_
      refine CW_region ?_
      refine OW_run' hE.ok 3 rfl ?_
      refine OW_end rfl ?_
      exact ⟨⟨i + 1, by omega⟩, LE_sh (slh_set (v := .d (int ((i + 1 : Nat) : Int))) (slh_set (v := .ptr 2 0) (slh_set (v := .ptr 1 0) (slh_set (v := .d (.iptr (encX (.mk op v al fi ks)))) (slh_set (v := .d (.sl 11 144 (to.map encL))) (slh_set (v := .d (.sl 11 144 (fr.map encL))) (slh_no _ _) (by rfl) rfl) (by rfl) rfl) (by rfl) rfl) (by rfl) rfl) (by rfl) rfl) (by show AV.d (.lit (.int .i64 (IntKind.i64.wrap ((i : Int) + 1)))) = _; rw [wrap_succ (by omega)]; rfl) rfl) (hlh_set (hlh_set (hlh_set (hlh_no _ _) rfl rfl) rfl rfl) (congrArg (fun z => some (Ent.row 27 7 z)) (by rw [renXs_snoc hk, hN, encXs_eq, encXs_eq, List.map_append]; rfl)) rfl), by show ks.length - (i + 1) < ks.length - i; omega⟩
    · skip
      refine CW_know (know_sl (d := 44) rfl) fun hlen => ?_
      rw [encXs_length] at hlen
      have hge : ks.length ≤ i := by have := h4; simp [encXs_length] at this; omega
      refine CW_exit ?_
      show CW _ _ _ _
      refine CW_seq ?_
      refine CW.le (LE_freeze 50 96 rfl (by rw [List.take_of_length_le hge]; simp [encXs_length, renXs_len]; omega)) ?_
      refine CW.le (show LE _ _ ⟨J, (sset (sset noSlots 6 (.ptr 1 0)) 7 (.ptr 2 0)), (hset (hset noHeap 1 (some (.box 27 [.d (int 0), .d (int 0), .d (int 0), .d (str nul), .d (str nul), .d (str nul), .d (.lit (.slice none 0 0))]))) 2 (some (.box 27 [.d (int op), .d (int v.k), .d (int v.n), .d (str v.s), .d (str (bif op == 2 then nm fr to al else al)), .d (str fi), .d (.sl 7 96 (encXs (renXs (nm fr to) ks)))])))⟩ from LE_sh (slh_set (v := .ptr 2 0) (slh_set (v := .ptr 1 0) (slh_no _ _) (by rfl) rfl) (by rfl) rfl) (hlh_set (hlh_set (hlh_no _ _) rfl rfl) (congrArg (fun z => some (Ent.box 27 [.d (int op), .d (int v.k), .d (int v.n), .d (str v.s), .d (str (bif op == 2 then nm fr to al else al)), .d (str fi), .d (.sl 7 96 (encXs (renXs (nm fr to) z)))])) (List.take_of_length_le hge)) rfl)) ?_
      refine CW_region ?_
      refine OW_run' hE.ok 1 rfl ?_
      refine OW_store' hE rfl rfl rfl rfl rfl rfl rfl rfl rfl rfl rfl rfl ?_
      refine OW_end rfl ?_
      refine CW_ret ?_
      refine ⟨.inr rfl, rfl, ⟨_, rfl, rfl, ?_⟩, rfl⟩
      rw [show renX (nm fr to) (.mk op v al fi ks) = .mk op v (bif op == 2 then nm fr to al else al) fi (renXs (nm fr to) ks) by unfold renX; rfl]
      exact AVle.refl _

theorem namedAll (fr to : List El) : ∀ (n : Nat) (x : Exp), SizeOf.sizeOf x < n → Does Try.prog 72 [argX x, .d (.sl 11 144 (fr.map encL)), .d (.sl 11 144 (to.map encL))] noHeap (argX (renX (nm fr to) x))
  | 0, x, h => by omega
  | n + 1, .mk op v al fi ks, h => namedStep op v al fi ks fr to fun k hk => namedAll fr to n k (by have := List.sizeOf_lt_of_mem hk; simp at h; omega)
theorem namedOk (x : Exp) (fr to : List El) : Does Try.prog 72 [argX x, .d (.sl 11 144 (fr.map encL)), .d (.sl 11 144 (to.map encL))] noHeap (argX (renX (nm fr to) x)) := namedAll fr to _ x (Nat.lt_succ_self _)
end Go.Proofs.Ythffbfjnahipcaa
