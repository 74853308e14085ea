/- Parts of an abstract logic over the kit's walks, and walks in it: D7i. -/
import Derived.Test.YtchpllgeahnmmaaDoorD7t
import Derived.Test.YtchpllgeahnmmaaDoorAf
/- slices.Insert at rows of types. -/
namespace Go.Proofs.YtchpllgeahnmmaaDoor
open Go Go.AL Go.RowKit
set_option linter.unusedVariables false
set_option linter.unusedSimpArgs false
set_option maxHeartbeats 4000000
set_option maxRecDepth 100000
theorem ins_end (w w2 : World) (base : Option Addr) (n c : Nat) (ua : Addr) (m vc : Nat) (v' : Value) (hm : 0 < m) (hnil : base = none → n = 0) (hrun : ∀ ty, (Builtin.append_ #[22, 22] ty #[.slice base n c, .slice (some ua) m vc]).run Tryd.prog w = .ok v' w2) (hnc : n ≤ c) :
    Calls Tryd.prog 81 #[.slice base n c, .int .i64 n, .slice (some ua) m vc] w fun e w1 => e = .returned v' ∧ w1 = w2 := by
  have hz1 : ¬ ((m : Int) = 0) := by omega
  go_enter Tryd.func81, Tryd.ntmps81
  cases base with
  | none =>
    have h0 := hnil rfl
    subst h0
    go_wp2_with (at_builtin; refine Lib.wpList_append_run _ rfl _ _ _ _ rfl _ _ rfl rfl _ _ (hrun _) ?_)
    go_ret
    exact ⟨rfl, rfl⟩
  | some a =>
    obtain ⟨ab, ao, asp⟩ := a
    go_wp2_with (at_builtin; refine Lib.wpList_append_run _ rfl _ _ _ _ rfl _ _ rfl rfl _ _ (hrun _) ?_)
    all_goals (go_ret; exact ⟨rfl, rfl⟩)
theorem size72 (w : World) : (sizeOf 72).run Tryd.prog w = .ok 2 w := run_size T_ok (t := 72) (x := ⟨(.struct [(9, 0), (70, 1)]), 2, 40, [.string ⟨#[]⟩, .slice none 0 0]⟩) rfl w
theorem und22 : Tryd.prog.underlying 22 = some (.slice 72) := (T_ok 22 ⟨(.slice 72), 1, 24, [.slice none 0 0]⟩ rfl).2
theorem ins_room (w : World) (b n c i vb m vc : Nat) (cur curv : Array Value) (vs : List Value) (hg : w.heap[b]? = some (.cells cur 72 (0, 0))) (hgv : w.heap[vb]? = some (.cells curv 72 (0, 0))) (hcur : cur.size = c * 2) (hcurv : curv.size = vc * 2) (hvs : curv.toList.take (m * 2) = vs) (hvl : vs.length = m * 2)
    (hne : vb ≠ b) (hi : i < n) (hm : 0 < m) (hroom : n + m ≤ c) (hc63 : c ≤ 9223372036854775807) (h1c : ∀ v ∈ cur.toList.take (n * 2), v.oneCell' = true) (h1v : ∀ v ∈ vs, v.oneCell' = true) (hvc : 0 < vc)
    (cur1 cur2 : Array Value) (hcur1 : cur1 = (cur.toList.take ((i + m) * 2) ++ (cur.toList.drop (i * 2)).take ((n - i) * 2) ++ cur.toList.drop ((i + m) * 2 + (n - i) * 2)).toArray) (hcur2 : cur2 = (cur1.toList.take (i * 2) ++ vs ++ cur1.toList.drop (i * 2 + vs.length)).toArray) :
    Calls Tryd.prog 81 #[.slice (some ⟨b, 0, none⟩) n c, .int .i64 i, .slice (some ⟨vb, 0, none⟩) m vc] w fun e w' => e = .returned (.slice (some ⟨b, 0, none⟩) (n + m) c) ∧ w' = (w.drew.setRow b cur1).setRow b cur2 := by
  have hz1 : ¬ ((m : Int) = 0) := by omega
  have hz2 : ¬ ((i : Int) = (n : Int)) := by omega
  have hov : ∀ lb cb, (callFunc 94 #[.slice (some ⟨vb, 0, none⟩) m vc, .slice (some ⟨b, (i + m) * 2, none⟩) lb cb]).run Tryd.prog w = .ok (.value (.bool false)) w := fun lb cb => by
    rw [run_callFunc_extern Tryd.func94 (by kernel_rfl) (by kernel_rfl) (by kernel_rfl) (e := Extern.SlicesOverlaps.overlaps #[22, 22] #[4]) (by kernel_rfl),
      Lib.run_overlaps_apart w 22 4 72 und22 2 size72 ⟨vb, 0, none⟩ ⟨b, (i + m) * 2, none⟩ m vc lb cb hne 72 72 (vc * 2) (c * 2) (by simp [World.shape?, hgv, hcurv]) (by simp [World.shape?, hg, hcur]) (by omega) (frozen_of_row w vb _ curv _ hgv) (frozen_of_row w vb _ curv _ hgv)]
    rfl
  have hw1 : IntKind.i64.wrap ((i : Int) + (m : Int)) = (i : Int) + (m : Int) := by rw [IntKind.wrap_i64]; omega
  have hb1 : (0 : Int) ≤ (i : Int) + (m : Int) := by omega
  have hin : i ≤ n := by omega
  have htn : ((i : Int) + (m : Int)).toNat = i + m := by omega
  have hb2 : ¬ (c = i + m) := by omega
  have hb3 : (i : Int) ≤ (n : Int) + (m : Int) := by omega
  have hb4 : ¬ (c = i) := by omega
  have hcs : ((cur.toList.drop (i * 2)).take ((n - i) * 2)).length = (n - i) * 2 := by simp [hcur]; omega
  have hcell : ∀ j, w.cell? ⟨b, j, none⟩ = cur[j]? := fun j => cell_of_row w b j cur 72 (0, 0) hg
  have hcp1 : ∀ ty dc sc, (Builtin.copy_ #[22, 22] ty #[.slice (some ⟨b, (i + m) * 2, none⟩) (n + m - (i + m)) dc, .slice (some ⟨b, i * 2, none⟩) (n + m - i) sc]).run Tryd.prog w.drew = .ok (goInt ((n - i : Nat) : Int)) (w.drew.setRow b cur1) := fun ty dc sc => by
    have hmin : Nat.min (n + m - i) (n + m - (i + m)) = n - i := by simp only [Nat.min_def]; split <;> omega
    have h := run_copy_sized (P := Tryd.prog) w.drew 22 22 ty 72 b ((i + m) * 2) (n + m - (i + m)) dc ⟨b, i * 2, none⟩ (n + m - i) sc 2 cur 72 ((cur.toList.drop (i * 2)).take ((n - i) * 2)) und22 size72 hg (by rw [hcs, hmin])
      (fun j v hj => by
        have hadd : (⟨b, i * 2, none⟩ : Addr).add j = ⟨b, i * 2 + j, none⟩ := by unfold Addr.add; split <;> simp_all
        rw [hadd]
        show w.cell? _ = _
        rw [hcell]
        rw [List.getElem?_take] at hj
        split at hj
        · rw [List.getElem?_drop] at hj; simpa using hj
        · cases hj) (by rw [hcs, hcur]; omega) (fun v hv => h1c v (by
        have : (cur.toList.drop (i * 2)).take ((n - i) * 2) = (cur.toList.take (n * 2)).drop (i * 2) := by rw [List.drop_take]; congr 1; omega
        rw [this] at hv
        exact List.mem_of_mem_drop hv))
    rw [hmin, hcs, ← hcur1] at h
    exact h
  have hs1 : cur1.size = c * 2 := by rw [hcur1]; simp [hcur]; omega
  have hg1 : (w.drew.setRow b cur1).heap[b]? = some (.cells cur1 72 (0, 0)) := setRow_heap w.drew b cur _ 72 _ hg
  have hgv1 : (w.drew.setRow b cur1).heap[vb]? = some (.cells curv 72 (0, 0)) := by rw [setRow_other w.drew b vb _ hne]; exact hgv
  have hcp2 : ∀ ty dc, (Builtin.copy_ #[22, 22] ty #[.slice (some ⟨b, i * 2, none⟩) (n + m - i) dc, .slice (some ⟨vb, 0, none⟩) m vc]).run Tryd.prog (w.drew.setRow b cur1) = .ok (goInt m) ((w.drew.setRow b cur1).setRow b cur2) := fun ty dc => by
    have hmin : Nat.min m (n + m - i) = m := by simp only [Nat.min_def]; split <;> omega
    have h := run_copy_sized (P := Tryd.prog) (w.drew.setRow b cur1) 22 22 ty 72 b (i * 2) (n + m - i) dc ⟨vb, 0, none⟩ m vc 2 cur1 72 vs und22 size72 hg1 (by rw [hvl, hmin])
      (fun j v hj => by
        have hadd : (⟨vb, 0, none⟩ : Addr).add j = ⟨vb, j, none⟩ := by unfold Addr.add; split <;> simp_all
        rw [hadd, cell_of_row _ vb j curv 72 (0, 0) hgv1]
        rw [← hvs, List.getElem?_take] at hj
        split at hj
        · simpa using hj
        · cases hj) (by rw [hvl, hs1]; omega) h1v
    rw [hmin, ← hcur2] at h
    exact h
  obtain ⟨W1, hW1⟩ : ∃ W1, W1 = w.drew.setRow b cur1 := ⟨_, rfl⟩
  rw [← hW1] at hcp1 hcp2 ⊢
  have hmix : Tryd.prog.follows .mixedOrders = true := mixed
  clear hW1 hg1 hgv1 hs1 hcur1 hcur2
  go_enter Tryd.func81, Tryd.ntmps81
  go_wp2_with (simp only [hov])
  go_region_law_o (refine step_copy_runI rfl _ _ 22 22 rfl _ _ (by simp [Act.eval, Act.put]) (by simp [Act.eval, Act.put]) (hcp1 _ _ _) ?_)
  go_wp2_with (at_builtin; refine wpList_copy_runI _ rfl _ _ 22 22 rfl _ _ rfl rfl (hcp2 _ _) ?_)
  go_ret
  exact ⟨rfl, rfl⟩
theorem ins_grow (w : World) (b n c i vb m vc : Nat) (cur curv : Array Value) (vs : List Value) (hg : w.heap[b]? = some (.cells cur 72 (0, 0))) (hgv : w.heap[vb]? = some (.cells curv 72 (0, 0))) (hcur : cur.size = c * 2) (hvs : curv.toList.take (m * 2) = vs) (hvl : vs.length = m * 2)
    (hi : i < n) (hm : 0 < m) (hnc : n ≤ c) (hroom : c < n + m) (hbig : (n + m) * 40 ≤ 140737488355328) (h1c : ∀ v ∈ cur.toList.take (n * 2), v.oneCell' = true) (h1v : ∀ v ∈ vs, v.oneCell' = true) :
    ∃ R0 R1 R2 : Array Value, R0.toList.take (i * 2) = cur.toList.take (i * 2) ∧ R0.size = grownCap w (n + m) c 72 * 2 ∧ R1 = (R0.toList.take (i * 2) ++ vs ++ R0.toList.drop (i * 2 + vs.length)).toArray ∧
      R2 = (R1.toList.take ((i + m) * 2) ++ (cur.toList.drop (i * 2)).take ((n - i) * 2) ++ R1.toList.drop ((i + m) * 2 + (n - i) * 2)).toArray ∧
    Calls Tryd.prog 81 #[.slice (some ⟨b, 0, none⟩) n c, .int .i64 i, .slice (some ⟨vb, 0, none⟩) m vc] w fun e w' => e = .returned (.slice (some ⟨w.heap.size, 0, none⟩) (n + m) (grownCap w (n + m) c 72)) ∧ w' = (((w.drew.alloc (.cells R0 72)).setRow w.heap.size R1).drew.setRow w.heap.size R2) := by
  have hz1 : ¬ ((m : Int) = 0) := by omega
  have hz2 : ¬ ((i : Int) = (n : Int)) := by omega
  have hz3 : (c : Int) < (n : Int) + (m : Int) := by omega
  obtain ⟨⟨ie, hie, hsz, hby, z, hz, hzc, hzl⟩, _⟩ := T_ok 72 ⟨(.struct [(9, 0), (70, 1)]), 2, 40, [.string ⟨#[]⟩, .slice none 0 0]⟩ rfl
  simp only at hsz hby hzc hzl
  have hzs : z.cells.size = 2 := by have := congrArg List.length hzc; simpa using this
  have hcell : ∀ j, w.cell? ⟨b, j, none⟩ = cur[j]? := fun j => cell_of_row w b j cur 72 (0, 0) hg
  have hbw : b < w.heap.size := (Array.getElem?_eq_some_iff.1 hg).1
  have hvw : vb < w.heap.size := (Array.getElem?_eq_some_iff.1 hgv).1
  have hik : i + (n + m - i) = n + m := by omega
  have hkk : (n : Int) + (m : Int) - (i : Int) = ((n + m - i : Nat) : Int) := by omega
  have hol : (cur.toList.take (i * 2)).length = i * 2 := by simp [hcur]; omega
  have hold : (Builtin.firstCells ie.size i (.slice (some ⟨b, 0, none⟩) i c)).run Tryd.prog w.drew = .ok (cur.toList.take (i * 2)).toArray w.drew := by
    rw [hsz]
    exact run_firstCells_some w.drew 2 i ⟨b, 0, none⟩ i c (cur.toList.take (i * 2)) hol (fun j v hj => by
      have hadd : (⟨b, 0, none⟩ : Addr).add j = ⟨b, j, none⟩ := by unfold Addr.add; split <;> simp_all
      rw [hadd]
      show w.cell? _ = _
      rw [hcell]
      rw [List.getElem?_take] at hj
      split at hj
      · simpa using hj
      · cases hj)
  obtain ⟨G, hG⟩ : ∃ G, G = grownCap w (n + m) c 72 := ⟨_, rfl⟩
  have hGge : n + m ≤ G := by rw [hG]; exact grownCap_ge w (n + m) c 72
  obtain ⟨R0, hR0⟩ : ∃ R0 : Array Value, R0 = (cur.toList.take (i * 2)).toArray ++ Builtin.zeroCells z.cells (n + m - i) ++ Builtin.zeroCells z.cells (G - (n + m)) := ⟨_, rfl⟩
  have hR0s : R0.size = G * 2 := by rw [hR0]; simp [size_zeroCells, hzs, hcur]; omega
  have hR0t : R0.toList.take (i * 2) = cur.toList.take (i * 2) := by
    rw [hR0]
    simp only [Array.toList_append, List.append_assoc]
    rw [List.take_append_of_le_length (by simp [hcur]; omega), List.take_of_length_le (by simp [hcur]; omega)]
  have hrz : ∀ ty, (Builtin.append_ #[22, 3] ty #[.slice (some ⟨b, 0, none⟩) i c, .int .i64 ((n : Int) + (m : Int) - (i : Int))]).run Tryd.prog w = .ok (.slice (some ⟨w.heap.size, 0, none⟩) (n + m) G) (w.drew.alloc (.cells R0 72)) := fun ty => by
    have h := Lib.run_append_grow_zeros (P := Tryd.prog) w 22 3 ty 72 ie z .i64 .i64 und22 (T_ok 3 ⟨(.int .i64), 1, 8, [.int .i64 0]⟩ rfl).2 hie hz (some ⟨b, 0, none⟩) i c (cur.toList.take (i * 2)) hold (n + m - i) (by omega) (by rw [hsz]; omega) (by omega) (by omega) (by rw [hby]; omega) (by rw [hby, hik]; exact growslice_fits hroom hbig)
    rw [hik, ← hG] at h
    rw [hkk, hR0]
    exact h
  obtain ⟨R1, hR1⟩ : ∃ R1 : Array Value, R1 = (R0.toList.take (i * 2) ++ vs ++ R0.toList.drop (i * 2 + vs.length)).toArray := ⟨_, rfl⟩
  obtain ⟨R2, hR2⟩ : ∃ R2 : Array Value, R2 = (R1.toList.take ((i + m) * 2) ++ (cur.toList.drop (i * 2)).take ((n - i) * 2) ++ R1.toList.drop ((i + m) * 2 + (n - i) * 2)).toArray := ⟨_, rfl⟩
  have hR1s : R1.size = G * 2 := by rw [hR1]; simp [hR0s, hvl]; omega
  refine ⟨R0, R1, R2, hR0t, by rw [hR0s, hG], hR1, hR2, ?_⟩
  rw [← hG]
  obtain ⟨W1, hW1⟩ : ∃ W1, W1 = w.drew.alloc (.cells R0 72) := ⟨_, rfl⟩
  have hg1 : W1.heap[w.heap.size]? = some (.cells R0 72 (0, 0)) := by rw [hW1]; exact heap_alloc_new w.drew _
  have hv1 : W1.heap[vb]? = some (.cells curv 72 (0, 0)) := by rw [hW1]; exact (RowKit.Below.heap_alloc w.drew _ vb hvw).trans hgv
  have hb1' : W1.heap[b]? = some (.cells cur 72 (0, 0)) := by rw [hW1]; exact (RowKit.Below.heap_alloc w.drew _ b hbw).trans hg
  have hcp1 : ∀ ty dc, (Builtin.copy_ #[22, 22] ty #[.slice (some ⟨w.heap.size, i * 2, none⟩) (n + m - i) dc, .slice (some ⟨vb, 0, none⟩) m vc]).run Tryd.prog W1 = .ok (goInt m) (W1.setRow w.heap.size R1) := fun ty dc => by
    have hmin : Nat.min m (n + m - i) = m := by simp only [Nat.min_def]; split <;> omega
    have h := run_copy_sized (P := Tryd.prog) W1 22 22 ty 72 w.heap.size (i * 2) (n + m - i) dc ⟨vb, 0, none⟩ m vc 2 R0 72 vs und22 size72 hg1 (by rw [hvl, hmin])
      (fun j v hj => by
        have hadd : (⟨vb, 0, none⟩ : Addr).add j = ⟨vb, j, none⟩ := by unfold Addr.add; split <;> simp_all
        rw [hadd, cell_of_row _ vb j curv 72 (0, 0) hv1]
        rw [← hvs, List.getElem?_take] at hj
        split at hj
        · simpa using hj
        · cases hj) (by rw [hvl, hR0s]; omega) h1v
    rw [hmin, ← hR1] at h
    exact h
  obtain ⟨W2, hW2⟩ : ∃ W2, W2 = W1.setRow w.heap.size R1 := ⟨_, rfl⟩
  rw [← hW1, ← hW2]
  rw [← hW2] at hcp1
  rw [← hW1] at hrz
  have hg2 : W2.drew.heap[w.heap.size]? = some (.cells R1 72 (0, 0)) := by rw [hW2]; exact setRow_heap W1 _ _ _ 72 _ hg1
  have hb2 : W2.drew.heap[b]? = some (.cells cur 72 (0, 0)) := by rw [hW2]; exact (setRow_other W1 _ b _ (by omega)).trans hb1'
  have hcs : ((cur.toList.drop (i * 2)).take ((n - i) * 2)).length = (n - i) * 2 := by simp [hcur]; omega
  have hcp2 : ∀ ty dc sc, (Builtin.copy_ #[22, 22] ty #[.slice (some ⟨w.heap.size, (i + m) * 2, none⟩) (n + m - (i + m)) dc, .slice (some ⟨b, i * 2, none⟩) (n - i) sc]).run Tryd.prog W2.drew = .ok (goInt ((n - i : Nat) : Int)) (W2.drew.setRow w.heap.size R2) := fun ty dc sc => by
    have hmin : Nat.min (n - i) (n + m - (i + m)) = n - i := by simp only [Nat.min_def]; split <;> omega
    have h := run_copy_sized (P := Tryd.prog) W2.drew 22 22 ty 72 w.heap.size ((i + m) * 2) (n + m - (i + m)) dc ⟨b, i * 2, none⟩ (n - i) sc 2 R1 72 ((cur.toList.drop (i * 2)).take ((n - i) * 2)) und22 size72 hg2 (by rw [hcs, hmin])
      (fun j v hj => by
        have hadd : (⟨b, i * 2, none⟩ : Addr).add j = ⟨b, i * 2 + j, none⟩ := by unfold Addr.add; split <;> simp_all
        rw [hadd, cell_of_row _ b _ cur 72 (0, 0) hb2]
        rw [List.getElem?_take] at hj
        split at hj
        · rw [List.getElem?_drop] at hj; simpa using hj
        · cases hj) (by rw [hcs, hR1s]; omega) (fun v hv => h1c v (by
        have : (cur.toList.drop (i * 2)).take ((n - i) * 2) = (cur.toList.take (n * 2)).drop (i * 2) := by rw [List.drop_take]; congr 1; omega
        rw [this] at hv
        exact List.mem_of_mem_drop hv))
    rw [hmin, hcs, ← hR2] at h
    exact h
  have hmix : Tryd.prog.follows .mixedOrders = true := mixed
  have hin : i ≤ n := by omega
  have hw1 : IntKind.i64.wrap ((i : Int) + (m : Int)) = (i : Int) + (m : Int) := by rw [IntKind.wrap_i64]; omega
  have hb1 : (0 : Int) ≤ (i : Int) + (m : Int) := by omega
  have htn : ((i : Int) + (m : Int)).toNat = i + m := by omega
  have hb3 : (i : Int) ≤ (n : Int) + (m : Int) := by omega
  have hb5 : ¬ (G = i + m) := by omega
  have hb6 : ¬ (G = i) := by omega
  have hb7 : ¬ (c = i) := by omega
  clear hkk hW1 hW2 hg1 hg2 hb2 hb1' hv1 hR1 hR2 hR1s hR0 hR0s hR0t hG hcell hie hz
  go_enter Tryd.func81, Tryd.ntmps81
  go_wp2_with (at_builtin; refine Lib.wpList_append_run _ rfl _ _ _ _ rfl _ _ rfl rfl _ _ (hrz _) ?_)
  go_wp2_with (at_builtin; refine wpList_copy_runI _ rfl _ _ 22 22 rfl _ _ rfl rfl (hcp1 _ _) ?_)
  go_region_law_o (refine step_copy_runI rfl _ _ 22 22 rfl _ _ (by simp [Act.eval, Act.put]) (by simp [Act.eval, Act.put]) (hcp2 _ _ _) ?_)
  go_wp2
  go_ret
  exact ⟨rfl, rfl⟩
end Go.Proofs.YtchpllgeahnmmaaDoor
