/- AL, part 26: 'slices.Insert' at rows of texts: the shelf's contract in AL's words. -/
import Derived.Test.YthffbfjnahipcaaA25
import Derived.Shelf.Spec.SlicesInsertGrow
namespace Go.AL
open Go.Proofs Go.Shelf Go.RowKit Go.Lib
set_option linter.unusedVariables false
set_option linter.unusedSimpArgs false

theorem setCells_row (g : Nat) (t : TypeId) : ∀ (vs : List Value) (o : Nat) (w : World) (cur : Array Value), w.heap[g]? = some (.cells cur t (0, 0)) → o + vs.length ≤ cur.size →
    ∃ cur', (w.setCells g o vs).heap[g]? = some (.cells cur' t (0, 0)) ∧ cur'.toList = cur.toList.take o ++ vs ++ cur.toList.drop (o + vs.length)
  | [], o, w, cur, hg, hf => ⟨cur, hg, by simp⟩
  | v :: r, o, w, cur, hg, hf => by
    simp only [List.length_cons] at hf
    obtain ⟨cur', h1, h2⟩ := setCells_row g t r (o + 1) (w.setCell ⟨g, o, none⟩ v) (cur.setIfInBounds o v) (heap_setCell_same w g o cur t v hg) (by simp; omega)
    refine ⟨cur', h1, ?_⟩
    rw [h2]
    have hs : (cur.setIfInBounds o v).toList = cur.toList.take o ++ v :: cur.toList.drop (o + 1) := by
      rw [Array.toList_setIfInBounds, List.set_eq_take_append_cons_drop, if_pos (by simp; omega)]
    have hl : (cur.toList.take o).length = o := by simp; omega
    rw [hs]
    rw [List.take_append, List.drop_append, hl, List.take_of_length_le (by rw [hl]; omega), List.drop_of_length_le (l := cur.toList.take o) (by rw [hl]; omega)]
    have e1 : o + 1 - o = 1 := by omega
    have e2 : o + 1 + r.length - o = r.length + 1 := by omega
    rw [e1, e2]
    simp only [List.take_succ_cons, List.take_zero, List.drop_succ_cons, List.drop_drop, List.nil_append, List.append_assoc, List.cons_append, List.length_cons]
    congr 3
    congr 1
    omega
theorem setCells_step (g : Nat) : ∀ (vs : List Value) (o : Nat) (w : World), Step (fun b => b ≠ g) w (w.setCells g o vs)
  | [], o, w => Step.refl _ w
  | v :: r, o, w => by
    refine Step.trans ?_ (setCells_step g r (o + 1) (w.setCell ⟨g, o, none⟩ v))
    exact ⟨rfl, rfl, rfl, by simp, fun b hb => heap_setCell_other w ⟨g, o, none⟩ b v hb⟩
theorem setCells_size (g : Nat) : ∀ (vs : List Value) (o : Nat) (w : World), (w.setCells g o vs).heap.size = w.heap.size
  | [], o, w => rfl
  | v :: r, o, w => by rw [World.setCells, setCells_size g r]; simp

theorem cells_at {w : World} {g : Nat} {cur : Array Value} {t : TypeId} (hg : w.heap[g]? = some (.cells cur t (0, 0))) {n : Nat} {vs : List Value} (htk : cur.toList.take n = vs) : ∀ j x, vs[j]? = some x → w.cell? ⟨g, 0 + j, none⟩ = some x := by
  intro j x hj
  rw [Nat.zero_add, cell_of_row w g j cur t (0, 0) hg]
  rw [← htk, List.getElem?_take] at hj
  split at hj
  · simpa using hj
  · cases hj
theorem add_at {b : Nat} {w : World} {vs : List Value} (h : ∀ j x, vs[j]? = some x → w.cell? ⟨b, 0 + j, none⟩ = some x) : ∀ j x, vs[j]? = some x → w.cell? ((⟨b, 0, none⟩ : Addr).add j) = some x := by
  intro j x hj
  have : (⟨b, 0, none⟩ : Addr).add j = ⟨b, 0 + j, none⟩ := by unfold Addr.add; split <;> simp_all
  rw [this]; exact h j x hj

theorem Ins_string {P : Program} {ρ : Ren} (L : Lays2.n22 P ρ) (hc : Callable P (ρ.f 22)) : Ins P (ρ.f 22) (ρ.t 9) 1 16 := by
  refine ⟨hc, fun N w v nx vs u m us i hv hvl hu hul hm hi hn hb h1v h1u hap => ?_⟩
  rw [Nat.mul_one] at hvl hul
  rw [Nat.mul_one]
  rcases hu with ⟨_, _, rfl, _⟩ | ⟨g2, cap2, cur2, rfl, hc2, hg2, hmc2, hcm2, hcs2, htk2⟩
  · omega
  rw [Nat.mul_one] at hcs2 htk2
  have hus := cells_at hg2 htk2
  have hb2 : blk (.slice (some ⟨g2, 0, none⟩) m cap2) = some g2 := by simp [blk]; omega
  have hlt2 : g2 < w.heap.size := (Array.getElem?_eq_some_iff.1 hg2).1
  -- the row that is new where there is no room at the end
  have hgrow : ∀ (a : Option Addr) (c : Nat), v = .slice a nx c → nx ≤ c → c < nx + m → (a = none → nx = 0) → (∀ a', a = some a' → ∀ j x, vs[j]? = some x → w.cell? (a'.add j) = some x) → i = nx →
      CallsIn Fence.wide N P (ρ.f 22) #[v, .int .i64 i, .slice (some ⟨g2, 0, none⟩) m cap2] w fun x w' => ∃ v', x = .returned v' ∧ RowOk w' v' (ρ.t 9) 1 (nx + m) (vs.take i ++ us ++ vs.drop i) ∧ Step (fun b => b < w.heap.size ∧ some b ≠ blk v) w w' ∧
      (∀ b, blk v' = some b → b < w'.heap.size ∧ (blk v = some b ∨ w.heap.size ≤ b)) := by
    intro a c hva hnc hroom hnil hcs hin
    subst hin
    subst hva
    refine callsIn_wide.2 ?_
    refine (Any2.slices_Insert_string_end_grow L a i c g2 0 m cap2 vs us w hm hnc hroom hb hvl hul hnil hcs hus h1u).mono fun x w' ⟨e1, e2⟩ => ?_
    have hge := grownCap_ge w (i + m) c (ρ.t 9)
    have hcm := grownCap_le_maxLen w (i + m) c (ρ.t 9) (by simp [maxLen]; omega)
    refine ⟨_, e1, ?_, ?_, ?_⟩
    · rw [e2]
      refine .inr ⟨w.heap.size, _, _, rfl, by omega, heap_alloc_new w.drew _, hge, hcm, ?_, ?_⟩
      · simp [size_zeroCells, hvl, hul, Value.cells]; omega
      · have h0 : (vs ++ us).length = i + m := by simp [hvl, hul]
        simp only [Array.toList_append, Nat.mul_one]
        rw [List.take_append_of_le_length (by rw [h0]; exact Nat.le_refl _), List.take_of_length_le (by rw [h0]; exact Nat.le_refl _), ← hvl]
        simp
    · rw [e2]; exact ⟨rfl, rfl, rfl, by simp, fun b hbs => RowKit.Below.heap_alloc w.drew _ b hbs.1⟩
    · intro b hbb
      simp only [blk] at hbb
      split at hbb
      · cases hbb
      · cases hbb; rw [e2]; exact ⟨by simp, .inr (Nat.le_refl _)⟩
  rcases hv with ⟨a, rfl, rfl, rfl⟩ | ⟨g, cap, cur, rfl, hc0, hg, hnc, hcm, hcs, htk⟩
  · exact hgrow a 0 rfl (Nat.le_refl _) (by omega) (fun _ => rfl) (fun _ _ j x hj => by simp at hj) (by omega)
  rw [Nat.mul_one] at hcs htk
  have hbk : blk (.slice (some ⟨g, 0, none⟩) nx cap) = some g := by simp [blk]; omega
  have hvs := cells_at hg htk
  have hne : g2 ≠ g := fun e => hap g hbk (by rw [hb2, e])
  have hlt : g < w.heap.size := (Array.getElem?_eq_some_iff.1 hg).1
  have hcap63 : cap ≤ 9223372036854775807 := by simp [maxLen] at hcm; omega
  have hcell : ∀ j, j < cap → (w.cell? ⟨g, 0 + j, none⟩).isSome = true := by
    intro j hj
    rw [Nat.zero_add, cell_of_row w g j cur _ (0, 0) hg]
    simp [hcs, hj]
  by_cases hin : i = nx
  · by_cases hroom : nx + m ≤ cap
    · subst hin
      refine callsIn_wide.2 ((Any2.slices_Insert_string_end_room L g 0 i cap g2 0 m cap2 us w hm hroom hcap63 hul (fun j hj => by rw [show 0 + i + j = 0 + (i + j) by omega]; exact hcell _ (by omega)) (fun j hj => frozen_of_row w g _ cur _ hg) hus h1u).mono fun x w' ⟨e1, e2⟩ => ?_)
      rw [Nat.zero_add] at e2
      obtain ⟨cur', k1, k2⟩ := setCells_row g (ρ.t 9) us i w cur hg (by omega)
      refine ⟨_, e1, ?_, ?_, ?_⟩
      · rw [e2]
        refine .inr ⟨g, cap, cur', rfl, hc0, k1, by omega, hcm, ?_, ?_⟩
        · have := congrArg List.length k2
          simp at this
          simp only [Nat.mul_one]
          omega
        · rw [k2, Nat.mul_one, htk, List.take_append_of_le_length (by simp [hvl, hul]), List.take_of_length_le (by simp [hvl, hul]), ← hvl]
          simp
      · rw [e2]
        have := setCells_step g us i w
        exact ⟨this.os, this.tape, this.output, this.size, fun b hb => this.block b (fun e => hb.2 (by rw [hbk, e]))⟩
      · intro b hbb
        have : blk (.slice (some ⟨g, 0, none⟩) (i + m) cap) = some g := by simp [blk]; omega
        rw [this] at hbb
        cases hbb
        rw [e2, setCells_size]
        exact ⟨hlt, .inl hbk⟩
    · exact hgrow _ cap rfl hnc (by omega) (fun h => by cases h) (fun a' ha' => by cases ha'; exact add_at hvs) hin
  · have hilt : i < nx := by omega
    have hdl : (vs.drop i).length = nx - i := by simp [hvl]
    have htl : (vs.take i).length = i := by simp [hvl]; omega
    by_cases hroom : nx + m ≤ cap
    · refine callsIn_wide.2 ((Any2.slices_Insert_string_shift L g 0 nx cap i g2 0 m cap2 vs us w hilt hm hroom hcap63 hne hvl hul hvs (fun j hj => hcell j (by omega)) (fun j _ => frozen_of_row w g _ cur _ hg) hus h1v h1u (ρ.t 9) (ρ.t 9) cap2 cap
        (by simp [World.shape?, hg2, hcs2]) (by simp [World.shape?, hg, hcs]) (by omega) (frozen_of_row w g2 _ cur2 _ hg2) (frozen_of_row w g2 _ cur2 _ hg2)).mono fun x w' ⟨e1, e2⟩ => ?_)
      simp only [Nat.zero_add] at e2
      obtain ⟨cur1, k1, k2⟩ := setCells_row g (ρ.t 9) (vs.drop i) (i + m) w.drew cur hg (by omega)
      have hs1 : cur1.size = cap := by
        have := congrArg List.length k2
        simp [hvl] at this
        omega
      obtain ⟨cur2', k3, k4⟩ := setCells_row g (ρ.t 9) us i _ cur1 k1 (by omega)
      have hs2 : cur2'.size = cap := by
        have := congrArg List.length k4
        simp at this
        omega
      refine ⟨_, e1, ?_, ?_, ?_⟩
      · rw [e2]
        refine .inr ⟨g, cap, cur2', rfl, hc0, k3, by omega, hcm, by rw [hs2, Nat.mul_one], ?_⟩
        rw [k4, k2, Nat.mul_one, hul]
        have ht1 : (cur.toList.take (i + m)).length = i + m := by simp; omega
        have hti : cur.toList.take i = vs.take i := by rw [← htk, List.take_take]; congr 1; omega
        have hA1 : (cur.toList.take (i + m) ++ vs.drop i ++ cur.toList.drop (i + m + (vs.drop i).length)).take i = vs.take i := by
          rw [List.append_assoc, List.take_append_of_le_length (by omega), List.take_take, Nat.min_eq_left (by omega), hti]
        have hA2 : (cur.toList.take (i + m) ++ vs.drop i ++ cur.toList.drop (i + m + (vs.drop i).length)).drop (i + m) = vs.drop i ++ cur.toList.drop (i + m + (vs.drop i).length) := by
          rw [List.append_assoc, List.drop_append, List.drop_of_length_le (l := cur.toList.take (i + m)) (by omega), ht1, Nat.sub_self, List.drop_zero, List.nil_append]
        rw [hA1, hA2, ← List.append_assoc, List.take_append_of_le_length (by simp [htl, hul, hvl]; omega), List.take_of_length_le (by simp [hul, hvl]; omega)]
      · rw [e2]
        have q1 := setCells_step g (vs.drop i) (i + m) w.drew
        have q2 := setCells_step g us i (w.drew.setCells g (i + m) (vs.drop i))
        have := q1.trans q2
        exact ⟨this.os, this.tape, this.output, this.size, fun b hb => this.block b (fun e => hb.2 (by rw [hbk, e]))⟩
      · intro b hbb
        have : blk (.slice (some ⟨g, 0, none⟩) (nx + m) cap) = some g := by simp [blk]; omega
        rw [this] at hbb
        cases hbb
        rw [e2, setCells_size, setCells_size]
        exact ⟨hlt, .inl hbk⟩
    · refine callsIn_wide.2 ((Any2.slices_Insert_string_grow L g 0 nx cap i g2 0 m cap2 vs us w hilt hm hnc (by omega) hb hvl hul hvs hus h1v h1u).mono fun x w' ⟨e1, e2⟩ => ?_)
      have hge := grownCap_ge w (nx + m) cap (ρ.t 9)
      have hgm := grownCap_le_maxLen w (nx + m) cap (ρ.t 9) (by simp [maxLen]; omega)
      obtain ⟨G, hG⟩ : ∃ G, G = grownCap w (nx + m) cap (ρ.t 9) := ⟨_, rfl⟩
      rw [← hG] at hge hgm e1 e2
      obtain ⟨R, hR⟩ : ∃ R : Array Value, R = (vs.take i).toArray ++ Builtin.zeroCells (Value.string ⟨#[]⟩).cells (nx + m - i) ++ Builtin.zeroCells (Value.string ⟨#[]⟩).cells (G - (nx + m)) := ⟨_, rfl⟩
      rw [← hR] at e2
      have hRs : R.size = G := by rw [hR]; simp [size_zeroCells, hvl, Value.cells]; omega
      have hRt : R.toList.take i = vs.take i := by
        rw [hR]
        simp only [Array.toList_append, List.append_assoc]
        rw [List.take_append_of_le_length (by rw [htl]; exact Nat.le_refl _), List.take_of_length_le (by rw [htl]; exact Nat.le_refl _)]
      have hA : ((w.alloc (.cells R (ρ.t 9))).drew).heap[w.heap.size]? = some (.cells R (ρ.t 9) (0, 0)) := heap_alloc_new w _
      obtain ⟨cur1, k1, k2⟩ := setCells_row w.heap.size (ρ.t 9) us i _ R hA (by omega)
      have hs1 : cur1.size = G := by
        have := congrArg List.length k2
        simp at this
        omega
      obtain ⟨cur2', k3, k4⟩ := setCells_row w.heap.size (ρ.t 9) (vs.drop i) (i + m) (((w.alloc (.cells R (ρ.t 9))).drew.setCells w.heap.size i us).drew) cur1 k1 (by omega)
      have hs2 : cur2'.size = G := by
        have := congrArg List.length k4
        simp at this
        omega
      refine ⟨_, e1, ?_, ?_, ?_⟩
      · rw [e2]
        refine .inr ⟨w.heap.size, G, cur2', rfl, by omega, k3, hge, hgm, by rw [hs2, Nat.mul_one], ?_⟩
        rw [k4, k2, Nat.mul_one, hul, hRt]
        have hl1 : (vs.take i ++ us).length = i + m := by simp [htl, hul]
        rw [List.take_append_of_le_length (l₁ := vs.take i ++ us) (by omega), List.take_of_length_le (l := vs.take i ++ us) (by omega), List.take_append_of_le_length (by simp [htl, hul, hdl]; omega), List.take_of_length_le (by simp [htl, hul, hdl]; omega)]
      · rw [e2]
        have q1 := setCells_step w.heap.size us i ((w.alloc (.cells R (ρ.t 9))).drew)
        have q2 := setCells_step w.heap.size (vs.drop i) (i + m) (((w.alloc (.cells R (ρ.t 9))).drew.setCells w.heap.size i us).drew)
        refine ⟨q2.os.trans q1.os, q2.tape.trans q1.tape, q2.output.trans q1.output, ?_, fun b hb => ?_⟩
        · rw [setCells_size]; show w.heap.size ≤ (((w.alloc (.cells R (ρ.t 9))).drew).setCells w.heap.size i us).heap.size
          rw [setCells_size]; simp
        · have hbn : b ≠ w.heap.size := by have := hb.1; omega
          rw [q2.block b hbn]
          show (((w.alloc (.cells R (ρ.t 9))).drew).setCells w.heap.size i us).heap[b]? = _
          rw [q1.block b hbn]
          exact RowKit.Below.heap_alloc w _ b hb.1
      · intro b hbb
        have : blk (.slice (some ⟨w.heap.size, 0, none⟩) (nx + m) G) = some w.heap.size := by simp [blk]; omega
        rw [this] at hbb
        cases hbb
        rw [e2, setCells_size]
        refine ⟨?_, .inr (Nat.le_refl _)⟩
        show w.heap.size < (((w.alloc (.cells R (ρ.t 9))).drew).setCells w.heap.size i us).heap.size
        rw [setCells_size]; simp
end Go.AL
