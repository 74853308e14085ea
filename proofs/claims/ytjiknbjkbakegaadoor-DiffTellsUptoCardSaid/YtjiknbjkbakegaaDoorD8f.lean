/- Parts of an abstract logic over the kit's walks, and walks in it: D8f. -/
import Derived.Test.YtjiknbjkbakegaaDoorD8k
import Derived.Test.YtjiknbjkbakegaaDoorD8h2
namespace Go.Proofs.YtjiknbjkbakegaaDoor
open Go Go.AL
set_option linter.unusedVariables false
set_option linter.unusedSimpArgs false
set_option maxHeartbeats 4000000
theorem diffOk (p q : Pat) (hl : p.els.length ≤ 1000) : Does Tryd.prog 9 [argP p, argP q] noHeap (.d (.sl 2 16 ((difX (normP p) (normP q)).map encDl))) := by
  refine Does_of T_ok mixed (N := 52) Tryd.func9 rfl rfl rfl (by rfl) fun F n Z hE hF J => ?_
  have c1 := normPOk p
  have c2 := normPOk q
  have hlP : (normP p).els.length ≤ 1000 := by simpa [normP] using hl
  obtain ⟨P, hP⟩ : ∃ z, normP p = z := ⟨_, rfl⟩
  obtain ⟨Q, hQ⟩ : ∃ z, normP q = z := ⟨_, rfl⟩
  rw [hP] at c1 hlP
  rw [hQ] at c2
  rw [hP, hQ]
  clear hP hQ
  refine CW_seq ?_
  refine CW_region ?_
  refine OW_box' hE 1 rfl rfl rfl rfl rfl rfl ?_
  refine OW_box' hE 2 rfl rfl rfl rfl rfl rfl ?_
  refine OW_run' hE.ok 1 rfl ?_
  refine OW_end rfl ?_
  refine CW_seq ?_
  refine CW_drawn' hE 3 (by decide +kernel) ?_
  refine HW_run hE 1 rfl rfl ?_
  refine HW_call hE (c1) rfl rfl rfl rfl rfl rfl rfl rfl ?_
  refine HW_run hE 1 rfl rfl ?_
  refine HW_end ?_
  refine OW_call' hE (c2) rfl rfl rfl rfl rfl rfl rfl ?_
  refine OW_store' hE rfl rfl rfl rfl rfl rfl rfl rfl rfl rfl rfl rfl ?_
  refine OW_store' hE rfl rfl rfl rfl rfl rfl rfl rfl rfl rfl rfl rfl ?_
  refine OW_end rfl ?_
  refine CW_seq ?_
  refine CW_region ?_
  refine OW_run' hE.ok 2 rfl ?_
  refine OW_callRow' hE 50 (wholeOk P Q) rfl rfl rfl rfl rfl rfl rfl ?_
  refine OW_alloc' hE 3 rfl rfl rfl rfl rfl rfl rfl ?_
  refine OW_store' hE rfl rfl rfl rfl rfl rfl rfl rfl rfl rfl rfl rfl ?_
  refine OW_end rfl ?_
  refine CW_seq ?_
  refine CW_seq ?_
  refine CW.le (show LE _ _ ⟨J, (sset (sset (sset noSlots 2 (.ptr 1 0)) 3 (.ptr 2 0)) 5 (.ptr 3 0)), (hset (hset (hset (hset noHeap 1 (some (.box 24 ((encP P).map .d)))) 2 (some (.box 24 ((encP Q).map .d)))) 3 (some (.box 30 [.row 50]))) 50 (some (.row 26 2 ((difH P Q).map encDl))))⟩ from LE_sh (slh_set (slh_set (slh_set (slh_no _ _) rfl rfl) rfl rfl) rfl rfl) (hlh_set (hlh_set (hlh_set (hlh_set (hlh_no _ _) rfl rfl) rfl rfl) rfl rfl) rfl rfl)) ?_
  refine CW_region ?_
  refine OW_run' hE.ok 7 rfl ?_
  refine OW_end rfl ?_
  refine CW_cond _ rfl (fun h1 => ?_) (fun h1 => ?_)
  · skip
    have hne : (P.els.length == Q.els.length) = false := by have := h1; simp at this; simp; omega
    refine CW_seq ?_
    refine CW_region ?_
    refine OW_run' hE.ok 1 rfl ?_
    refine OW_build' hE rfl rfl rfl rfl rfl ?_
    refine OW_lits' hE rfl rfl rfl rfl rfl rfl rfl rfl rfl rfl rfl rfl ?_
    have n1 := difH_few P Q
    refine OW_append' hE (key := 50) rfl rfl rfl rfl rfl rfl rfl rfl (.inl rfl) (by simp; omega) (by simp; omega) rfl ?_
    refine OW_run' hE.ok 1 rfl ?_
    refine OW.le (LE_freeze 50 16 rfl (by simp; omega)) ?_
    refine OW_end rfl ?_
    refine CW_ret ?_
    refine ⟨.inr rfl, rfl, ⟨_, rfl, rfl, ?_⟩, rfl⟩
    refine AVle.of ?_
    unfold difX; rw [hne]; simp; rfl
  · skip
    have heq : (P.els.length == Q.els.length) = true := by have := h1; simp at this; simp; omega
    have heq2 : P.els.length = Q.els.length := by simpa using heq
    refine CW_skip ?_
    refine CW_seq ?_
    refine CW_seq ?_
    refine CW_region ?_
    refine OW_run' hE.ok 4 rfl ?_
    refine OW_end rfl ?_
    refine CW_block ?_
    refine CW_loop (σ := {i : Nat // i ≤ P.els.length}) (fun i => ⟨J, (sset (sset (sset (sset (sset noSlots 2 (.ptr 1 0)) 3 (.ptr 2 0)) 5 (.ptr 3 0)) 28 (.d (int ((P.els.length : Nat) : Int)))) 29 (.d (int ((i.1 : Nat) : Int)))), (hset (hset (hset (hset noHeap 1 (some (.box 24 ((encP P).map .d)))) 2 (some (.box 24 ((encP Q).map .d)))) 3 (some (.box 30 [.row 50]))) 50 (some (.row 26 2 ((difH P Q ++ difs P.els Q.els i.1).map encDl))))⟩) (fun i => P.els.length - i.1) ⟨0, Nat.zero_le _⟩ (LE_sh (slh_set (slh_set (slh_set (slh_set (slh_set (slh_no _ _) rfl rfl) rfl rfl) rfl rfl) (by show AV.d (.lit (.int .i64 ((P.els.map encL).length : Int))) = _; rw [List.length_map]; rfl) rfl) rfl rfl) (hlh_set (hlh_set (hlh_set (hlh_set (hlh_no _ _) rfl rfl) rfl rfl) rfl rfl) (congrArg (fun z : List Dl => some (Ent.row 26 2 (z.map encDl))) (by simp [difs])) rfl)) fun ⟨i, hi⟩ => ?_
    refine CW_seq ?_
    refine CW_region ?_
    refine OW_run' hE.ok 1 rfl ?_
    refine OW_end rfl ?_
    refine CW_seq ?_
    refine CW_cond _ rfl (fun h2 => ?_) (fun h2 => ?_)
    · skip
      have hlt : i < P.els.length := by have := h2; simp at this; omega
      obtain ⟨a, ha⟩ : ∃ a, P.els[i]? = some a := ⟨_, List.getElem?_eq_getElem hlt⟩
      obtain ⟨b, hb⟩ : ∃ b, Q.els[i]? = some b := ⟨_, List.getElem?_eq_getElem (by omega)⟩
      obtain ⟨y1, y2, y3, y4, y5, y6, y7, y8, y9, rfl⟩ := El.shape a
      obtain ⟨z1, z2, z3, z4, z5, z6, z7, z8, z9, rfl⟩ := El.shape b
      refine CW_skip ?_
      refine CW_seq ?_
      refine CW_block ?_
      refine CW_seq ?_
      refine CW_region ?_
      refine OW_run' hE.ok 1 rfl ?_
      refine OW_alloc' hE 4 rfl rfl rfl rfl rfl rfl rfl ?_
      refine OW_store' hE rfl rfl rfl rfl rfl rfl rfl rfl rfl rfl rfl rfl ?_
      refine OW_end rfl ?_
      refine CW_seq ?_
      refine CW_drawn' hE 10 (by decide +kernel) ?_
      refine HW_run hE 3 rfl rfl ?_
      refine HW_loc hE (loc_indexAddr hE rfl rfl rfl rfl rfl (by omega) (x := encL ⟨y1, y2, y3, y4, .mk y5 y6 y7 y8 y9⟩) (by simp [ha])) rfl rfl rfl rfl ?_
      refine HW_run hE 4 rfl rfl ?_
      refine HW_loc hE (loc_indexAddr hE rfl rfl rfl rfl rfl (by omega) (x := encL ⟨z1, z2, z3, z4, .mk z5 z6 z7 z8 z9⟩) (by simp [hb])) rfl rfl rfl rfl ?_
      refine HW_run hE 1 rfl rfl ?_
      refine HW_end ?_
      refine OW_call' hE (elemFn ⟨y1, y2, y3, y4, .mk y5 y6 y7 y8 y9⟩ ⟨z1, z2, z3, z4, .mk z5 z6 z7 z8 z9⟩) rfl rfl rfl rfl rfl rfl rfl ?_
      refine OW_end rfl ?_
      refine CW_block ?_
      rw [hset_hset]
      refine CW.le (show LE _ _ ⟨J, (sset (sset (sset (sset (sset (sset (sset noSlots 2 (.ptr 1 0)) 3 (.ptr 2 0)) 5 (.ptr 3 0)) 28 (.d (int ((P.els.length : Nat) : Int)))) 29 (.d (int ((i : Nat) : Int)))) 6 (.ptr 4 0)) 42 (.d (.fn (.func 39) [] [.iptr (encL ⟨y1, y2, y3, y4, .mk y5 y6 y7 y8 y9⟩), .iptr (encL ⟨z1, z2, z3, z4, .mk z5 z6 z7 z8 z9⟩)]))), (hset (hset (hset (hset (hset noHeap 1 (some (.box 24 ((encP P).map .d)))) 2 (some (.box 24 ((encP Q).map .d)))) 3 (some (.box 30 [.row 50]))) 50 (some (.row 26 2 (((difH P Q ++ difs P.els Q.els i) ++ (difL i ⟨y1, y2, y3, y4, .mk y5 y6 y7 y8 y9⟩ ⟨z1, z2, z3, z4, .mk z5 z6 z7 z8 z9⟩).take 0).map encDl)))) 4 (some (.box 3 [.d (int ((i : Nat) : Int))])))⟩ from LE_sh (slh_set (slh_set (slh_set (slh_set (slh_set (slh_set (slh_set (slh_no _ _) rfl rfl) rfl rfl) rfl rfl) rfl rfl) rfl rfl) rfl rfl) rfl rfl) (hlh_set (hlh_set (hlh_set (hlh_set (hlh_set (hlh_no _ _) rfl rfl) rfl rfl) rfl rfl) (congrArg (fun z : List Dl => some (Ent.row 26 2 (z.map encDl))) ((List.append_nil _).symm)) rfl) rfl rfl)) ?_
      refine CW_rangeH hE hF (elem1 ⟨y1, y2, y3, y4, .mk y5 y6 y7 y8 y9⟩ ⟨z1, z2, z3, z4, .mk z5 z6 z7 z8 z9⟩) rfl rfl rfl kindsB_kf rfl 9 (fun mm => (hset (hset (hset (hset (hset noHeap 1 (some (.box 24 ((encP P).map .d)))) 2 (some (.box 24 ((encP Q).map .d)))) 3 (some (.box 30 [.row 50]))) 50 (some (.row 26 2 (((difH P Q ++ difs P.els Q.els i) ++ (difL i ⟨y1, y2, y3, y4, .mk y5 y6 y7 y8 y9⟩ ⟨z1, z2, z3, z4, .mk z5 z6 z7 z8 z9⟩).take mm).map encDl)))) 4 (some (.box 3 [.d (int ((i : Nat) : Int))])))) (fun _ => True) rfl (fun _ => rfl) trivial (fun F' n' Z' Br Bb hE hB vs mm args hargs hp => ?_) (fun hp vs => ?_)
      · skip
        obtain ⟨k, hk, rfl⟩ := kindsB_of hargs
        refine CW_region ?_
        refine OW_run' hE.ok 1 rfl ?_
        refine OW_end rfl ?_
        refine ⟨rfl, rfl, ?_⟩
        refine CW_block ?_
        refine CW_region ?_
        refine OW_run' hE.ok 3 rfl ?_
        refine OW_build' hE rfl rfl rfl rfl rfl ?_
        refine OW_lits' hE rfl rfl rfl rfl rfl rfl rfl rfl rfl rfl rfl rfl ?_
        have n1 := difH_few P Q; have n2 := difs_few P.els Q.els i; have n3 := difL_few i ⟨y1, y2, y3, y4, .mk y5 y6 y7 y8 y9⟩ ⟨z1, z2, z3, z4, .mk z5 z6 z7 z8 z9⟩
        refine OW_append' hE (key := 50) rfl rfl rfl rfl rfl rfl rfl rfl (.inl rfl) (by simp; omega) (by simp; omega) rfl ?_
        refine OW_store' hE rfl rfl rfl rfl rfl rfl rfl rfl rfl rfl rfl rfl ?_
        refine OW_end rfl ?_
        refine ⟨⟨Bb J, noSlots, (hset (hset (hset (hset (hset (hset noHeap 1 (some (.box 24 ((encP P).map .d)))) 2 (some (.box 24 ((encP Q).map .d)))) 3 (some (.box 30 [.row 50]))) 50 (some (.row 26 2 (((difH P Q ++ difs P.els Q.els i) ++ (difL i ⟨y1, y2, y3, y4, .mk y5 y6 y7 y8 y9⟩ ⟨z1, z2, z3, z4, .mk z5 z6 z7 z8 z9⟩).take (mm + 1)).map encDl)))) 4 (some (.box 3 [.d (int ((i : Nat) : Int))]))) 9 (some (.ghost _ vs)))⟩, LE_sh (slh_no _ _) (hlh_set (hlh_set (hlh_set (hlh_set (hlh_set (hlh_set (hlh_no _ _) rfl rfl) rfl rfl) rfl rfl) (congrArg (fun z => some (Ent.row 26 2 z)) (difL_snoc hk)) rfl) rfl rfl) rfl rfl), J, rfl, rfl, rfl, trivial⟩
      · skip
        refine CW_region ?_
        refine OW_run' hE.ok 2 rfl ?_
        refine OW_end rfl ?_
        exact ⟨⟨i + 1, by omega⟩, LE_sh (slh_set (v := .d (int ((i + 1 : Nat) : Int))) (slh_set (v := .d (int ((P.els.length : Nat) : Int))) (slh_set (v := .ptr 3 0) (slh_set (v := .ptr 2 0) (slh_set (v := .ptr 1 0) (slh_no _ _) (by rfl) rfl) (by rfl) rfl) (by rfl) rfl) (by rfl) rfl) (by show AV.d (.lit (.int .i64 (IntKind.i64.wrap ((i : Int) + 1)))) = _; rw [wrap_succ (by omega)]; rfl) rfl) (hlh_set (hlh_set (hlh_set (hlh_set (hlh_no _ _) rfl rfl) rfl rfl) rfl rfl) (congrArg (fun z : List Dl => some (Ent.row 26 2 (z.map encDl))) (difs_done ha hb)) rfl), by show P.els.length - (i + 1) < P.els.length - i; omega⟩
    · skip
      have hge : P.els.length ≤ i := by have := h2; simp at this; omega
      obtain rfl : i = P.els.length := by omega
      refine CW_exit ?_
      show CW _ _ _ _
      refine CW_seq ?_
      refine CW_region ?_
      refine OW_run' hE.ok 2 rfl ?_
      have n1 := difH_few P Q; have n2 := difs_few P.els Q.els P.els.length
      refine OW.le (LE_freeze 50 16 rfl (by simp; omega)) ?_
      refine OW_end rfl ?_
      refine CW_ret ?_
      refine ⟨.inr rfl, rfl, ⟨_, rfl, rfl, ?_⟩, rfl⟩
      refine AVle.of ?_
      unfold difX; rw [heq]; rfl
end Go.Proofs.YtjiknbjkbakegaaDoor
