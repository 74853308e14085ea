/- Parts of an abstract logic over the kit's walks, and walks in it: D7j. -/
import Derived.Test.YtchpllgeahnmmaaDoorD7i
/- slices.Insert at rows of types, put together. -/
namespace Go.Proofs.YtchpllgeahnmmaaDoor
open Go Go.AL Go.RowKit
set_option linter.unusedVariables false
set_option linter.unusedSimpArgs false
theorem insT : Ins Tryd.prog 81 72 2 40 := by
  have hcal : Callable Tryd.prog 81 := ⟨Tryd.f81, Tryd.func81, by kernel_rfl, by kernel_rfl⟩
  refine ⟨hcal, fun N w v nx vs u m us i hv hvl hu hul hm hi hn hb h1v h1u hap => ?_⟩
  obtain ⟨z1, z2, z3, ht⟩ : ∃ z1 z2 z3, T 22 = some ⟨.slice 72, z1, z2, z3⟩ := ⟨_, _, _, rfl⟩
  obtain ⟨k, z6, hte⟩ : ∃ k z6, T 72 = some ⟨k, 2, 40, z6⟩ := ⟨_, _, rfl⟩
  have hu0 := hu
  rcases hu with ⟨_, _, rfl, _⟩ | ⟨g2, cap2, cur2, rfl, hc2, hg2, hmc2, hcm2, hcs2, htk2⟩
  · omega
  have hb2 : blk (.slice (some ⟨g2, 0, none⟩) m cap2) = some g2 := by simp [blk]; omega
  by_cases hin : i = nx
  · subst hin
    obtain ⟨v', w', hr, q1, q2, q3⟩ := run_append_any T_ok ht (ty := 0) hte rfl (n := i) (m := m) hv hvl (Src_row hu0) hul h1u hn hb
    have hr' : ∀ ty, (Builtin.append_ #[22, 22] ty #[v, .slice (some ⟨g2, 0, none⟩) m cap2]).run Tryd.prog w = .ok v' w' := fun ty => by
      rw [← hr]; rfl
    have hval : ∃ base c, v = .slice base i c ∧ (base = none → i = 0) ∧ i ≤ c := by
      rcases hv with ⟨a, e, h0, _⟩ | ⟨g, cap, cur, e, hc0, hg, hnc, _⟩
      · exact ⟨a, 0, by rw [e, h0], fun _ => h0, by omega⟩
      · exact ⟨_, cap, e, (fun h => by cases h), hnc⟩
    obtain ⟨base, c, rfl, hnil, hnc⟩ := hval
    refine (callsIn_wide.2 (ins_end w w' base i c ⟨g2, 0, none⟩ m cap2 v' hm hnil hr' hnc)).mono ?_
    rintro x w1 ⟨rfl, rfl⟩
    refine ⟨v', rfl, ?_, q2, fun b hbb => ⟨(q3 b hbb).1, (q3 b hbb).2⟩⟩
    rw [List.take_of_length_le (by omega), List.drop_of_length_le (by omega), List.append_nil]
    exact q1
  rcases hv with ⟨a, rfl, rfl, rfl⟩ | ⟨g, cap, cur, rfl, hc0, hg, hnc, hcm, hcs, htk⟩
  · omega
  have hilt : i < nx := by omega
  have hbk : blk (.slice (some ⟨g, 0, none⟩) nx cap) = some g := by simp [blk]; omega
  have hne : g2 ≠ g := fun e => hap g hbk (by rw [hb2, e])
  have hlt : g < w.heap.size := (Array.getElem?_eq_some_iff.1 hg).1
  have hcap63 : cap ≤ 9223372036854775807 := by simp [maxLen] at hcm; omega
  have hcl : cur.toList.length = cap * 2 := by simpa using hcs
  have htl : (vs.take (i * 2)).length = i * 2 := by simp [hvl]; omega
  have hdl : (vs.drop (i * 2)).length = (nx - i) * 2 := by simp [hvl]; omega
  have hdrop : (cur.toList.drop (i * 2)).take ((nx - i) * 2) = vs.drop (i * 2) := by
    rw [← htk, List.drop_take]; congr 1; omega
  have hti : cur.toList.take (i * 2) = vs.take (i * 2) := by rw [← htk, List.take_take]; congr 1; omega
  have h1c : ∀ v ∈ cur.toList.take (nx * 2), v.oneCell' = true := by rw [htk]; exact h1v
  by_cases hroom : nx + m ≤ cap
  · refine (callsIn_wide.2 (ins_room w g nx cap i g2 m cap2 cur cur2 us hg hg2 hcs hcs2 htk2 hul hne hilt hm hroom hcap63 h1c h1u hc2 _ _ rfl rfl)).mono ?_
    rintro x w1 ⟨rfl, rfl⟩
    obtain ⟨c1, hc1⟩ : ∃ c1 : Array Value, c1 = (cur.toList.take ((i + m) * 2) ++ (cur.toList.drop (i * 2)).take ((nx - i) * 2) ++ cur.toList.drop ((i + m) * 2 + (nx - i) * 2)).toArray := ⟨_, rfl⟩
    rw [← hc1]
    obtain ⟨c2, hc2'⟩ : ∃ c2 : Array Value, c2 = (c1.toList.take (i * 2) ++ us ++ c1.toList.drop (i * 2 + us.length)).toArray := ⟨_, rfl⟩
    rw [← hc2']
    have e1 : c1.toList = cur.toList.take ((i + m) * 2) ++ vs.drop (i * 2) ++ cur.toList.drop ((i + m) * 2 + (nx - i) * 2) := by rw [hc1, hdrop]
    have hs1 : c1.size = cap * 2 := by have := congrArg List.length e1; simp only [List.length_append, List.length_take, List.length_drop, hdl, hcl, hvl] at this; simp at this; omega
    have hh1 : (w.drew.setRow g c1).heap[g]? = some (.cells c1 72 (0, 0)) := setRow_heap w.drew g cur _ 72 _ hg
    have hh2 : ((w.drew.setRow g c1).setRow g c2).heap[g]? = some (.cells c2 72 (0, 0)) := setRow_heap _ g c1 _ 72 _ hh1
    have hs2 : c2.size = cap * 2 := by rw [hc2']; simp [hs1, hul]; omega
    refine ⟨_, rfl, .inr ⟨g, cap, c2, rfl, hc0, hh2, by omega, hcm, hs2, ?_⟩, ?_, ?_⟩
    · rw [hc2']
      have ht1 : (cur.toList.take ((i + m) * 2)).length = (i + m) * 2 := by simp [hcl]; omega
      have hA1 : c1.toList.take (i * 2) = vs.take (i * 2) := by
        rw [e1, List.append_assoc, List.take_append_of_le_length (by omega), List.take_take, Nat.min_eq_left (by omega), hti]
      have hA2 : c1.toList.drop (i * 2 + us.length) = vs.drop (i * 2) ++ cur.toList.drop ((i + m) * 2 + (nx - i) * 2) := by
        rw [e1, List.append_assoc, hul, show i * 2 + m * 2 = (i + m) * 2 by omega, List.drop_append, List.drop_of_length_le (l := cur.toList.take ((i + m) * 2)) (by omega), ht1, Nat.sub_self, List.drop_zero, List.nil_append]
      show (c1.toList.take (i * 2) ++ us ++ c1.toList.drop (i * 2 + us.length)).take ((nx + m) * 2) = _
      rw [hA1, hA2, ← List.append_assoc, List.take_append_of_le_length (by simp [hul, hvl]; omega), List.take_of_length_le (by simp [hul, hvl]; omega)]
    · have q1 := setRow_step w.drew g c1
      have q2 := setRow_step (w.drew.setRow g c1) g c2
      have q := q1.trans q2
      exact ⟨q.os, q.tape, q.output, q.size, fun b hb => q.block b (fun e => hb.2 (by rw [hbk, e]))⟩
    · intro b hbb
      have : blk (.slice (some ⟨g, 0, none⟩) (nx + m) cap) = some g := by simp [blk]; omega
      rw [this] at hbb
      cases hbb
      exact ⟨by simpa using hlt, .inl hbk⟩
  · obtain ⟨R0, R1, R2, f1, f2, f3, f4, hcall⟩ := ins_grow w g nx cap i g2 m cap2 cur cur2 us hg hg2 hcs htk2 hul hilt hm hnc (by omega) hb h1c h1u
    refine (callsIn_wide.2 hcall).mono ?_
    rintro x w1 ⟨rfl, rfl⟩
    have hge := grownCap_ge w (nx + m) cap 72
    have hgm := grownCap_le_maxLen w (nx + m) cap 72 (by simp [maxLen]; omega)
    obtain ⟨G, hG⟩ : ∃ G, G = grownCap w (nx + m) cap 72 := ⟨_, rfl⟩
    rw [← hG] at hge hgm f2 ⊢
    have hR0l : R0.toList.length = G * 2 := by simpa using f2
    have e1 : R1.toList = vs.take (i * 2) ++ us ++ R0.toList.drop ((i + m) * 2) := by rw [f3, f1, hti, hul, show i * 2 + m * 2 = (i + m) * 2 by omega]
    have hl1 : (vs.take (i * 2) ++ us).length = (i + m) * 2 := by simp [hvl, hul]; omega
    have hR1l : R1.toList.length = G * 2 := by rw [e1, List.length_append, hl1, List.length_drop, hR0l]; omega
    have e2 : R2.toList = vs.take (i * 2) ++ us ++ vs.drop (i * 2) ++ R1.toList.drop ((i + m) * 2 + (nx - i) * 2) := by
      rw [f4, hdrop]
      show R1.toList.take ((i + m) * 2) ++ _ ++ _ = _
      rw [e1, List.take_append_of_le_length (l₁ := vs.take (i * 2) ++ us) (by omega), List.take_of_length_le (l := vs.take (i * 2) ++ us) (by omega)]
    have hR2s : R2.size = G * 2 := by have := congrArg List.length e2; rw [List.length_append, List.length_append, hl1, hdl, List.length_drop, hR1l] at this; simp at this; omega
    have hA : (w.drew.alloc (.cells R0 72)).heap[w.heap.size]? = some (.cells R0 72 (0, 0)) := heap_alloc_new w.drew _
    have hB : ((w.drew.alloc (.cells R0 72)).setRow w.heap.size R1).drew.heap[w.heap.size]? = some (.cells R1 72 (0, 0)) := setRow_heap (w.drew.alloc (.cells R0 72)) _ _ _ 72 _ hA
    have hC : (((w.drew.alloc (.cells R0 72)).setRow w.heap.size R1).drew.setRow w.heap.size R2).heap[w.heap.size]? = some (.cells R2 72 (0, 0)) := setRow_heap _ _ _ _ 72 _ hB
    have q1 := setRow_step (w.drew.alloc (.cells R0 72)) w.heap.size R1
    have q2 := setRow_step ((w.drew.alloc (.cells R0 72)).setRow w.heap.size R1).drew w.heap.size R2
    refine ⟨_, rfl, .inr ⟨w.heap.size, G, R2, rfl, by omega, hC, hge, hgm, hR2s, ?_⟩, ⟨?_, ?_, ?_, ?_, fun b hb => ?_⟩, ?_⟩
    · rw [e2, List.take_append_of_le_length (by rw [List.length_append, hl1, hdl]; omega), List.take_of_length_le (by rw [List.length_append, hl1, hdl]; omega)]
    · exact q2.os.trans q1.os
    · exact q2.tape.trans q1.tape
    · exact q2.output.trans q1.output
    · simp
    · have hbn : b ≠ w.heap.size := by have := hb.1; omega
      rw [q2.block b hbn]
      show ((w.drew.alloc (.cells R0 72)).setRow w.heap.size R1).heap[b]? = _
      rw [q1.block b hbn]
      exact RowKit.Below.heap_alloc w.drew _ b hb.1
    · intro b hbb
      have : blk (.slice (some ⟨w.heap.size, 0, none⟩) (nx + m) G) = some w.heap.size := by simp [blk]; omega
      rw [this] at hbb
      cases hbb
      exact ⟨by simp, .inr (Nat.le_refl _)⟩
end Go.Proofs.YtchpllgeahnmmaaDoor
