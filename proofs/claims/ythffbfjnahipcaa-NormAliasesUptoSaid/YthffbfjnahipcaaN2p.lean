/- Parts of an abstract logic over the kit's walks, and walks in it: N2p. -/
import Derived.Test.YthffbfjnahipcaaN2m
import Derived.Test.YthffbfjnahipcaaNrm2
namespace Go.Proofs.Ythffbfjnahipcaa
open Go Go.AL
set_option linter.unusedVariables false
set_option linter.unusedSimpArgs false
set_option maxHeartbeats 4000000
theorem renStep12 (op : Int) (v : Vl) (al fi : ByteArray) (ks : List Exp) (fr to : ByteArray) (ih : ∀ k ∈ ks, Does Try.prog 39 [argX k, .d (str fr), .d (str to)] noHeap (argX (renX (re1 fr to) k))) : Does Try.prog 39 [argX (.mk op v al fi ks), .d (str fr), .d (str to)] noHeap (argX (renX (re1 fr to) (.mk op v al fi ks))) := by
  refine Does_of T_ok mixed (N := 50) Try.func39 rfl rfl rfl (by rfl) fun F n Z hE hF J => ?_
  refine CW_seq ?_
  refine CW_region ?_
  refine OW_run' hE.ok 1 rfl ?_
  refine OW_alloc' hE 1 rfl rfl rfl rfl rfl rfl rfl ?_
  refine OW_end rfl ?_
  refine CW_seq ?_
  refine CW_region ?_
  refine OW_run' hE.ok 8 rfl ?_
  refine OW_build' hE rfl rfl rfl rfl rfl ?_
  refine OW_alloc' hE 2 rfl rfl rfl rfl rfl rfl rfl ?_
  refine OW_store' hE rfl rfl rfl rfl rfl rfl rfl rfl rfl rfl rfl rfl ?_
  refine OW_end rfl ?_
  refine CW_cutE (fun _ : Unit => ⟨J, (sset (sset (sset (sset (sset noSlots 1 (.d (str fr))) 2 (.d (str to))) 3 (.d (.iptr (encX (.mk op v al fi ks))))) 6 (.ptr 1 0)) 7 (.ptr 2 0)), (hset (hset noHeap 1 (some (.box 27 [.d (int 0), .d (int 0), .d (int 0), .d (str nul), .d (str nul), .d (str nul), .d (.lit (.slice none 0 0))]))) 2 (some (.box 27 [.d (int op), .d (int v.k), .d (int v.n), .d (str v.s), .d (str (bif op == 2 then re1 fr to al else al)), .d (str fi), .d (.lit (.slice none 0 0))])))⟩) (fun _ => True) ?_ ?_
  · skip
    refine CW_seq ?_
    refine CW_region ?_
    refine OW_run' hE.ok 4 rfl ?_
    refine OW_split' 21 rfl (fun h1 => ?_) (fun h1 => ?_)
    · skip
      have g1 : (op == 2) = true := h1
      refine OW_run' hE.ok 5 rfl ?_
      refine OW_end rfl ?_
      refine CW_cond _ rfl (fun h2 => ?_) (fun h2 => ?_)
      · skip
        have g2 : same al fr = true := h2
        refine CW_region ?_
        refine OW_run' hE.ok 2 rfl ?_
        refine OW_store' hE rfl rfl rfl rfl rfl rfl rfl rfl rfl rfl rfl rfl ?_
        refine OW_end rfl ?_
        exact ⟨(), trivial, LE_sh (slh_set (v := .ptr 2 0) (slh_set (v := .ptr 1 0) (slh_set (v := .d (.iptr (encX (.mk op v al fi ks)))) (slh_set (v := .d (str to)) (slh_set (v := .d (str fr)) (slh_no _ _) (by rfl) rfl) (by rfl) rfl) (by rfl) rfl) (by rfl) rfl) (by rfl) rfl) (hlh_set (hlh_set (hlh_no _ _) rfl rfl) (congrArg (fun z => some (Ent.box 27 [.d (int op), .d (int v.k), .d (int v.n), .d (str v.s), .d (str z), .d (str fi), .d (.lit (.slice none 0 0))])) (by rw [g1]; unfold re1; rw [g2]; rfl)) rfl)⟩
      · skip
        have g2 : same al fr = false := h2
        refine CW_skip ?_
        exact ⟨(), trivial, LE_sh (slh_set (v := .ptr 2 0) (slh_set (v := .ptr 1 0) (slh_set (v := .d (.iptr (encX (.mk op v al fi ks)))) (slh_set (v := .d (str to)) (slh_set (v := .d (str fr)) (slh_no _ _) (by rfl) rfl) (by rfl) rfl) (by rfl) rfl) (by rfl) rfl) (by rfl) rfl) (hlh_set (hlh_set (hlh_no _ _) rfl rfl) (congrArg (fun z => some (Ent.box 27 [.d (int op), .d (int v.k), .d (int v.n), .d (str v.s), .d (str z), .d (str fi), .d (.lit (.slice none 0 0))])) (by rw [g1]; unfold re1; rw [g2]; rfl)) rfl)⟩
    · skip
      have g1 : (op == 2) = false := h1
      refine OW_run' hE.ok 5 rfl ?_
      refine OW_end rfl ?_
      refine CW_false rfl ?_
      refine CW_skip ?_
      exact ⟨(), trivial, LE_sh (slh_set (v := .ptr 2 0) (slh_set (v := .ptr 1 0) (slh_set (v := .d (.iptr (encX (.mk op v al fi ks)))) (slh_set (v := .d (str to)) (slh_set (v := .d (str fr)) (slh_no _ _) (by rfl) rfl) (by rfl) rfl) (by rfl) rfl) (by rfl) rfl) (by rfl) rfl) (hlh_set (hlh_set (hlh_no _ _) rfl rfl) (congrArg (fun z => some (Ent.box 27 [.d (int op), .d (int v.k), .d (int v.n), .d (str v.s), .d (str z), .d (str fi), .d (.lit (.slice none 0 0))])) (by rw [g1]; rfl)) rfl)⟩
  · skip
    rintro _ _
    refine CW_seq ?_
    refine CW_seq ?_
    refine CW_region ?_
    refine OW_run' hE.ok 1 rfl ?_
    refine OW_end rfl ?_
    refine CW_block ?_
    refine CW.le (LE_nilCell 2 50 6 27 7 rfl rfl rfl) ?_
    refine CW_loop (σ := {i : Nat // i ≤ ks.length}) (fun i => ⟨J, (sset (sset (sset (sset (sset (sset noSlots 1 (.d (str fr))) 2 (.d (str to))) 3 (.d (.iptr (encX (.mk op v al fi ks))))) 6 (.ptr 1 0)) 7 (.ptr 2 0)) 8 (.d (int ((i.1 : Nat) : Int)))), (hset (hset (hset noHeap 1 (some (.box 27 [.d (int 0), .d (int 0), .d (int 0), .d (str nul), .d (str nul), .d (str nul), .d (.lit (.slice none 0 0))]))) 2 (some (.box 27 [.d (int op), .d (int v.k), .d (int v.n), .d (str v.s), .d (str (bif op == 2 then re1 fr to al else al)), .d (str fi), .row 50]))) 50 (some (.row 27 7 (encXs (renXs (re1 fr to) (ks.take i.1))))))⟩) (fun i => ks.length - i.1) ⟨0, Nat.zero_le _⟩ (LE_sh (slh_set (slh_set (slh_set (slh_set (slh_set (slh_set (slh_no _ _) rfl rfl) rfl rfl) rfl rfl) rfl rfl) rfl rfl) rfl rfl) (hlh_set (hlh_set (hlh_set (hlh_no _ _) rfl rfl) rfl rfl) rfl rfl)) fun ⟨i, hi⟩ => ?_
    refine CW_seq ?_
    refine CW_seq ?_
    refine CW_region ?_
    refine OW_run' hE.ok 5 rfl ?_
    refine OW_end rfl ?_
    refine CW_cond _ rfl (fun h3 => ?_) (fun h3 => ?_)
    · skip
      refine CW_know (know_sl (d := 31) rfl) fun hlen => ?_
      rw [encXs_length] at hlen
      have hlt : i < ks.length := by have := h3; simp [encXs_length] at this; omega
      obtain ⟨k, hk⟩ : ∃ k, ks[i]? = some k := ⟨_, List.getElem?_eq_getElem hlt⟩
      have hI := ih k (List.mem_of_getElem? hk)
      obtain ⟨o3, v3, a3, f3, k3, hN⟩ := Exp.shape (renX (re1 fr to) k)
      rw [hN] at hI
      obtain ⟨o1, v1, a1, f1, k1, rfl⟩ := Exp.shape k
      refine CW_skip ?_
      refine CW_seq ?_
      refine CW_block ?_
      refine CW_drawn' hE 11 (by decide +kernel) ?_
      refine HW_run hE 5 rfl rfl ?_
      refine HW_loc hE (loc_indexAddr hE rfl rfl rfl rfl rfl (by omega) (x := encX (.mk o1 v1 a1 f1 k1)) (encXs_get hk)) rfl rfl rfl rfl ?_
      refine HW_run hE 3 rfl rfl ?_
      refine HW_call hE (hI) rfl rfl rfl rfl rfl rfl rfl rfl ?_
      refine HW_loc hE (loc_lits hE (t := 25) (len := 1) (parts := #[(0, .tmp 45)]) rfl rfl rfl rfl rfl rfl rfl rfl (xs := [encX (.mk o3 v3 a3 f3 k3)]) rfl) rfl rfl rfl rfl ?_
      refine HW_end ?_
      refine OW_append' hE (key := 50) rfl rfl rfl rfl rfl rfl rfl rfl (.inl rfl) (by simp [encXs_length, renXs_len]; omega) (by simp [encXs_length, renXs_len]; omega) rfl ?_
      refine OW_run' hE.ok 1 rfl ?_
      refine OW_store' hE rfl rfl rfl rfl rfl rfl rfl rfl rfl rfl rfl rfl ?_
      refine OW_end rfl ?_
      refine CW_region ?_
      refine OW_run' hE.ok 3 rfl ?_
      refine OW_end rfl ?_
      exact ⟨⟨i + 1, by omega⟩, LE_sh (slh_set (v := .d (int ((i + 1 : Nat) : Int))) (slh_set (v := .ptr 2 0) (slh_set (v := .ptr 1 0) (slh_set (v := .d (.iptr (encX (.mk op v al fi ks)))) (slh_set (v := .d (str to)) (slh_set (v := .d (str fr)) (slh_no _ _) (by rfl) rfl) (by rfl) rfl) (by rfl) rfl) (by rfl) rfl) (by rfl) rfl) (by show AV.d (.lit (.int .i64 (IntKind.i64.wrap ((i : Int) + 1)))) = _; rw [wrap_succ (by omega)]; rfl) rfl) (hlh_set (hlh_set (hlh_set (hlh_no _ _) rfl rfl) rfl rfl) (congrArg (fun z => some (Ent.row 27 7 z)) (by rw [renXs_snoc hk, hN, encXs_eq, encXs_eq, List.map_append]; rfl)) rfl), by show ks.length - (i + 1) < ks.length - i; omega⟩
    · skip
      refine CW_know (know_sl (d := 31) rfl) fun hlen => ?_
      rw [encXs_length] at hlen
      have hge : ks.length ≤ i := by have := h3; simp [encXs_length] at this; omega
      refine CW_exit ?_
      show CW _ _ _ _
      refine CW_seq ?_
      refine CW.le (LE_freeze 50 96 rfl (by rw [List.take_of_length_le hge]; simp [encXs_length, renXs_len]; omega)) ?_
      refine CW.le (show LE _ _ ⟨J, (sset (sset noSlots 6 (.ptr 1 0)) 7 (.ptr 2 0)), (hset (hset noHeap 1 (some (.box 27 [.d (int 0), .d (int 0), .d (int 0), .d (str nul), .d (str nul), .d (str nul), .d (.lit (.slice none 0 0))]))) 2 (some (.box 27 [.d (int op), .d (int v.k), .d (int v.n), .d (str v.s), .d (str (bif op == 2 then re1 fr to al else al)), .d (str fi), .d (.sl 7 96 (encXs (renXs (re1 fr to) ks)))])))⟩ from LE_sh (slh_set (v := .ptr 2 0) (slh_set (v := .ptr 1 0) (slh_no _ _) (by rfl) rfl) (by rfl) rfl) (hlh_set (hlh_set (hlh_no _ _) rfl rfl) (congrArg (fun z => some (Ent.box 27 [.d (int op), .d (int v.k), .d (int v.n), .d (str v.s), .d (str (bif op == 2 then re1 fr to al else al)), .d (str fi), .d (.sl 7 96 (encXs (renXs (re1 fr to) z)))])) (List.take_of_length_le hge)) rfl)) ?_
      refine CW_region ?_
      refine OW_run' hE.ok 1 rfl ?_
      refine OW_store' hE rfl rfl rfl rfl rfl rfl rfl rfl rfl rfl rfl rfl ?_
      refine OW_end rfl ?_
      refine CW_ret ?_
      refine ⟨.inr rfl, rfl, ⟨_, rfl, rfl, ?_⟩, rfl⟩
      rw [show renX (re1 fr to) (.mk op v al fi ks) = .mk op v (bif op == 2 then re1 fr to al else al) fi (renXs (re1 fr to) ks) by unfold renX; rfl]
      exact AVle.refl _

theorem renAll12 (fr to : ByteArray) : ∀ (n : Nat) (x : Exp), SizeOf.sizeOf x < n → Does Try.prog 39 [argX x, .d (str fr), .d (str to)] noHeap (argX (renX (re1 fr to) x))
  | 0, x, h => by omega
  | n + 1, .mk op v al fi ks, h => renStep12 op v al fi ks fr to fun k hk => renAll12 fr to n k (by have := List.sizeOf_lt_of_mem hk; simp at h; omega)
theorem renOk12 (x : Exp) (fr to : ByteArray) : Does Try.prog 39 [argX x, .d (str fr), .d (str to)] noHeap (argX (renX (re1 fr to) x)) := renAll12 fr to _ x (Nat.lt_succ_self _)

theorem namesOk (x : Exp) (s : ByteArray) (hb : (nodesX x 1).length ≤ 1048576) : Does Try.prog 40 [argX x, .d (str s)] noHeap (.d (boo (namesX x s))) := by
  refine Does_of T_ok mixed (N := 22) Try.func40 rfl rfl rfl (by rfl) fun F n Z hE hF J => ?_
  have q := refNodesOk x hb
  obtain ⟨l, hl⟩ : ∃ l, nodesX x 1 = l := ⟨_, rfl⟩
  have hn : namesX x s = l.any fun n => same n.al s := by unfold namesX; rw [hl]
  rw [hl] at q hb
  rw [hn]
  clear hn hl
  obtain ⟨o1, v1, c1, f1, k1, rfl⟩ := Exp.shape x
  refine CW_seq ?_
  refine CW_region ?_
  refine OW_run' hE.ok 2 rfl ?_
  refine OW_end rfl ?_
  refine CW_seq ?_
  refine CW_region ?_
  refine OW_run' hE.ok 1 rfl ?_
  refine OW_call' hE (q) rfl rfl rfl rfl rfl rfl rfl ?_
  refine OW_run' hE.ok 1 rfl ?_
  refine OW_end rfl ?_
  refine CW_seq ?_
  refine CW_seq ?_
  refine CW_region ?_
  refine OW_run' hE.ok 1 rfl ?_
  refine OW_end rfl ?_
  refine CW_block ?_
  refine CW_loop (σ := {i : Nat // i ≤ l.length ∧ ∀ j a, j < i → l[j]? = some a → same a.al s = false}) (fun i => ⟨J, (sset (sset (sset noSlots 1 (.d (str s))) 5 (.d (.sl 7 96 (encXs (l))))) 6 (.d (int ((i.1 : Nat) : Int)))), noHeap⟩) (fun i => l.length - i.1) ⟨0, Nat.zero_le _, fun j a hj => by omega⟩ (LE_sh (slh_set (slh_set (slh_set (slh_no _ _) rfl rfl) rfl rfl) rfl rfl) (hlh_no _ _)) fun ⟨i, hi, hp⟩ => ?_
  refine CW_seq ?_
  refine CW_seq ?_
  refine CW_region ?_
  refine OW_run' hE.ok 4 rfl ?_
  refine OW_end rfl ?_
  refine CW_cond _ rfl (fun h1 => ?_) (fun h1 => ?_)
  · skip
    have hlt : i < l.length := by have := h1; simp [encXs_length] at this; omega
    obtain ⟨a, ha⟩ : ∃ a, l[i]? = some a := ⟨_, List.getElem?_eq_getElem hlt⟩
    obtain ⟨o3, v3, c3, f3, k3, rfl⟩ := Exp.shape a
    refine CW_skip ?_
    refine CW_seq ?_
    refine CW_block ?_
    refine CW_seq ?_
    refine CW_region ?_
    refine OW_run' hE.ok 2 rfl ?_
    refine OW_loc' hE (loc_indexAddr hE rfl rfl rfl rfl rfl (by omega) (x := encX (.mk o3 v3 c3 f3 k3)) (encXs_get ha)) rfl rfl rfl ?_
    refine OW_run' hE.ok 4 rfl ?_
    refine OW_end rfl ?_
    refine CW_cond _ rfl (fun h2 => ?_) (fun h2 => ?_)
    · skip
      have hyes : same c3 s = true := h2
      refine CW_seq ?_
      refine CW_region ?_
      refine OW_run' hE.ok 1 rfl ?_
      refine OW_end rfl ?_
      refine CW_ret ?_
      refine ⟨.inr rfl, rfl, ⟨_, rfl, rfl, ?_⟩, rfl⟩
      exact AVle.of (congrArg (fun b => AV.d (boo b)) (by rw [List.any_eq_true.2 ⟨_, List.mem_of_getElem? ha, hyes⟩]))
    · skip
      have hno : same c3 s = false := h2
      refine CW_skip ?_
      refine CW_region ?_
      refine OW_run' hE.ok 3 rfl ?_
      refine OW_end rfl ?_
      refine ⟨⟨i + 1, by omega, fun j y hj hy => ?_⟩, LE_sh (slh_set (v := .d (int ((i + 1 : Nat) : Int))) (slh_set (v := .d (.sl 7 96 (encXs (l)))) (slh_set (v := .d (str s)) (slh_no _ _) (by rfl) rfl) (by rfl) rfl) (by show AV.d (.lit (.int .i64 (IntKind.i64.wrap ((i : Int) + 1)))) = _; rw [wrap_succ (by omega)]; rfl) rfl) (hlh_no _ _), by show l.length - (i + 1) < l.length - i; omega⟩
      by_cases hji : j = i
      · subst hji; rw [ha] at hy; cases hy; exact hno
      · exact hp j y (by omega) hy
  · skip
    have hge : l.length ≤ i := by have := h1; simp [encXs_length] at this; omega
    refine CW_exit ?_
    show CW _ _ _ _
    refine CW_seq ?_
    refine CW_region ?_
    refine OW_run' hE.ok 1 rfl ?_
    refine OW_end rfl ?_
    refine CW_ret ?_
    refine ⟨.inr rfl, rfl, ⟨_, rfl, rfl, ?_⟩, rfl⟩
    exact AVle.of (congrArg (fun b => AV.d (boo b)) (by symm; rw [List.any_eq_false]; intro y hy; obtain ⟨j, hj⟩ := List.getElem?_of_mem hy; simp [hp j y (by have := (List.getElem?_eq_some_iff.1 hj).1; omega) hj]))
end Go.Proofs.Ythffbfjnahipcaa
