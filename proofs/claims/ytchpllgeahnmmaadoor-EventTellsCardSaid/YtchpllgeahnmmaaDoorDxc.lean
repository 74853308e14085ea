/- Parts of an abstract logic over the kit's walks, and walks in it: D7i, D7j, D7g, D7h. -/
import Derived.Test.YtchpllgeahnmmaaDoorD7t
import Derived.Test.YtchpllgeahnmmaaDoorAf
import Derived.Test.YtchpllgeahnmmaaDoorDxb
import Derived.Test.YtchpllgeahnmmaaDoorDxa
import Derived.Test.YtchpllgeahnmmaaDoorCp
namespace Go.Proofs.YtchpllgeahnmmaaDoor
open Go Go.AL Go.RowKit
set_option linter.unusedVariables false
set_option linter.unusedSimpArgs false
set_option maxHeartbeats 4000000
set_option maxRecDepth 100000
theorem ins_end (w w2 : World) (base : Option Addr) (n c : Nat) (ua : Addr) (m vc : Nat) (v' : Value) (hm : 0 < m) (hnil : base = none → n = 0) (hrun : ∀ ty, (Builtin.append_ #[22, 22] ty #[.slice base n c, .slice (some ua) m vc]).run Tryd.prog w = .ok v' w2) (hnc : n ≤ c) :
    Calls Tryd.prog 81 #[.slice base n c, .int .i64 n, .slice (some ua) m vc] w fun e w1 => e = .returned v' ∧ w1 = w2 := by
  have hz1 : ¬ ((m : Int) = 0) := by omega
  go_enter Tryd.func81, Tryd.ntmps81
  cases base with
  | none =>
    have h0 := hnil rfl
    subst h0
    go_wp2_with (at_builtin; refine Lib.wpList_append_run _ rfl _ _ _ _ rfl _ _ rfl rfl _ _ (hrun _) ?_)
    go_ret
    exact ⟨rfl, rfl⟩
  | some a =>
    obtain ⟨ab, ao, asp⟩ := a
    go_wp2_with (at_builtin; refine Lib.wpList_append_run _ rfl _ _ _ _ rfl _ _ rfl rfl _ _ (hrun _) ?_)
    all_goals (go_ret; exact ⟨rfl, rfl⟩)
theorem size72 (w : World) : (sizeOf 72).run Tryd.prog w = .ok 2 w := run_size T_ok (t := 72) (x := ⟨(.struct [(9, 0), (70, 1)]), 2, 40, [.string ⟨#[]⟩, .slice none 0 0]⟩) rfl w
theorem und22 : Tryd.prog.underlying 22 = some (.slice 72) := (T_ok 22 ⟨(.slice 72), 1, 24, [.slice none 0 0]⟩ rfl).2
theorem ins_room (w : World) (b n c i vb m vc : Nat) (cur curv : Array Value) (vs : List Value) (hg : w.heap[b]? = some (.cells cur 72 (0, 0))) (hgv : w.heap[vb]? = some (.cells curv 72 (0, 0))) (hcur : cur.size = c * 2) (hcurv : curv.size = vc * 2) (hvs : curv.toList.take (m * 2) = vs) (hvl : vs.length = m * 2)
    (hne : vb ≠ b) (hi : i < n) (hm : 0 < m) (hroom : n + m ≤ c) (hc63 : c ≤ 9223372036854775807) (h1c : ∀ v ∈ cur.toList.take (n * 2), v.oneCell' = true) (h1v : ∀ v ∈ vs, v.oneCell' = true) (hvc : 0 < vc)
    (cur1 cur2 : Array Value) (hcur1 : cur1 = (cur.toList.take ((i + m) * 2) ++ (cur.toList.drop (i * 2)).take ((n - i) * 2) ++ cur.toList.drop ((i + m) * 2 + (n - i) * 2)).toArray) (hcur2 : cur2 = (cur1.toList.take (i * 2) ++ vs ++ cur1.toList.drop (i * 2 + vs.length)).toArray) :
    Calls Tryd.prog 81 #[.slice (some ⟨b, 0, none⟩) n c, .int .i64 i, .slice (some ⟨vb, 0, none⟩) m vc] w fun e w' => e = .returned (.slice (some ⟨b, 0, none⟩) (n + m) c) ∧ w' = (w.drew.setRow b cur1).setRow b cur2 := by
  have hz1 : ¬ ((m : Int) = 0) := by omega
  have hz2 : ¬ ((i : Int) = (n : Int)) := by omega
  have hov : ∀ lb cb, (callFunc 94 #[.slice (some ⟨vb, 0, none⟩) m vc, .slice (some ⟨b, (i + m) * 2, none⟩) lb cb]).run Tryd.prog w = .ok (.value (.bool false)) w := fun lb cb => by
    rw [run_callFunc_extern Tryd.func94 (by kernel_rfl) (by kernel_rfl) (by kernel_rfl) (e := Extern.SlicesOverlaps.overlaps #[22, 22] #[4]) (by kernel_rfl),
      Lib.run_overlaps_apart w 22 4 72 und22 2 size72 ⟨vb, 0, none⟩ ⟨b, (i + m) * 2, none⟩ m vc lb cb hne 72 72 (vc * 2) (c * 2) (by simp [World.shape?, hgv, hcurv]) (by simp [World.shape?, hg, hcur]) (by omega) (frozen_of_row w vb _ curv _ hgv) (frozen_of_row w vb _ curv _ hgv)]
    rfl
  have hw1 : IntKind.i64.wrap ((i : Int) + (m : Int)) = (i : Int) + (m : Int) := by rw [IntKind.wrap_i64]; omega
  have hb1 : (0 : Int) ≤ (i : Int) + (m : Int) := by omega
  have hin : i ≤ n := by omega
  have htn : ((i : Int) + (m : Int)).toNat = i + m := by omega
  have hb2 : ¬ (c = i + m) := by omega
  have hb3 : (i : Int) ≤ (n : Int) + (m : Int) := by omega
  have hb4 : ¬ (c = i) := by omega
  have hcs : ((cur.toList.drop (i * 2)).take ((n - i) * 2)).length = (n - i) * 2 := by simp [hcur]; omega
  have hcell : ∀ j, w.cell? ⟨b, j, none⟩ = cur[j]? := fun j => cell_of_row w b j cur 72 (0, 0) hg
  have hcp1 : ∀ ty dc sc, (Builtin.copy_ #[22, 22] ty #[.slice (some ⟨b, (i + m) * 2, none⟩) (n + m - (i + m)) dc, .slice (some ⟨b, i * 2, none⟩) (n + m - i) sc]).run Tryd.prog w.drew = .ok (goInt ((n - i : Nat) : Int)) (w.drew.setRow b cur1) := fun ty dc sc => by
    have hmin : Nat.min (n + m - i) (n + m - (i + m)) = n - i := by simp only [Nat.min_def]; split <;> omega
    have h := run_copy_sized (P := Tryd.prog) w.drew 22 22 ty 72 b ((i + m) * 2) (n + m - (i + m)) dc ⟨b, i * 2, none⟩ (n + m - i) sc 2 cur 72 ((cur.toList.drop (i * 2)).take ((n - i) * 2)) und22 size72 hg (by rw [hcs, hmin])
      (fun j v hj => by
        have hadd : (⟨b, i * 2, none⟩ : Addr).add j = ⟨b, i * 2 + j, none⟩ := by unfold Addr.add; split <;> simp_all
        rw [hadd]
        show w.cell? _ = _
        rw [hcell]
        rw [List.getElem?_take] at hj
        split at hj
        · rw [List.getElem?_drop] at hj; simpa using hj
        · cases hj) (by rw [hcs, hcur]; omega) (fun v hv => h1c v (by
        have : (cur.toList.drop (i * 2)).take ((n - i) * 2) = (cur.toList.take (n * 2)).drop (i * 2) := by rw [List.drop_take]; congr 1; omega
        rw [this] at hv
        exact List.mem_of_mem_drop hv))
    rw [hmin, hcs, ← hcur1] at h
    exact h
  have hs1 : cur1.size = c * 2 := by rw [hcur1]; simp [hcur]; omega
  have hg1 : (w.drew.setRow b cur1).heap[b]? = some (.cells cur1 72 (0, 0)) := setRow_heap w.drew b cur _ 72 _ hg
  have hgv1 : (w.drew.setRow b cur1).heap[vb]? = some (.cells curv 72 (0, 0)) := by rw [setRow_other w.drew b vb _ hne]; exact hgv
  have hcp2 : ∀ ty dc, (Builtin.copy_ #[22, 22] ty #[.slice (some ⟨b, i * 2, none⟩) (n + m - i) dc, .slice (some ⟨vb, 0, none⟩) m vc]).run Tryd.prog (w.drew.setRow b cur1) = .ok (goInt m) ((w.drew.setRow b cur1).setRow b cur2) := fun ty dc => by
    have hmin : Nat.min m (n + m - i) = m := by simp only [Nat.min_def]; split <;> omega
    have h := run_copy_sized (P := Tryd.prog) (w.drew.setRow b cur1) 22 22 ty 72 b (i * 2) (n + m - i) dc ⟨vb, 0, none⟩ m vc 2 cur1 72 vs und22 size72 hg1 (by rw [hvl, hmin])
      (fun j v hj => by
        have hadd : (⟨vb, 0, none⟩ : Addr).add j = ⟨vb, j, none⟩ := by unfold Addr.add; split <;> simp_all
        rw [hadd, cell_of_row _ vb j curv 72 (0, 0) hgv1]
        rw [← hvs, List.getElem?_take] at hj
        split at hj
        · simpa using hj
        · cases hj) (by rw [hvl, hs1]; omega) h1v
    rw [hmin, ← hcur2] at h
    exact h
  obtain ⟨W1, hW1⟩ : ∃ W1, W1 = w.drew.setRow b cur1 := ⟨_, rfl⟩
  rw [← hW1] at hcp1 hcp2 ⊢
  have hmix : Tryd.prog.follows .mixedOrders = true := mixed
  clear hW1 hg1 hgv1 hs1 hcur1 hcur2
  go_enter Tryd.func81, Tryd.ntmps81
  go_wp2_with (simp only [hov])
  go_region_law_o (refine step_copy_runI rfl _ _ 22 22 rfl _ _ (by simp [Act.eval, Act.put]) (by simp [Act.eval, Act.put]) (hcp1 _ _ _) ?_)
  go_wp2_with (at_builtin; refine wpList_copy_runI _ rfl _ _ 22 22 rfl _ _ rfl rfl (hcp2 _ _) ?_)
  go_ret
  exact ⟨rfl, rfl⟩
theorem ins_grow (w : World) (b n c i vb m vc : Nat) (cur curv : Array Value) (vs : List Value) (hg : w.heap[b]? = some (.cells cur 72 (0, 0))) (hgv : w.heap[vb]? = some (.cells curv 72 (0, 0))) (hcur : cur.size = c * 2) (hvs : curv.toList.take (m * 2) = vs) (hvl : vs.length = m * 2)
    (hi : i < n) (hm : 0 < m) (hnc : n ≤ c) (hroom : c < n + m) (hbig : (n + m) * 40 ≤ 140737488355328) (h1c : ∀ v ∈ cur.toList.take (n * 2), v.oneCell' = true) (h1v : ∀ v ∈ vs, v.oneCell' = true) :
    ∃ R0 R1 R2 : Array Value, R0.toList.take (i * 2) = cur.toList.take (i * 2) ∧ R0.size = grownCap w (n + m) c 72 * 2 ∧ R1 = (R0.toList.take (i * 2) ++ vs ++ R0.toList.drop (i * 2 + vs.length)).toArray ∧
      R2 = (R1.toList.take ((i + m) * 2) ++ (cur.toList.drop (i * 2)).take ((n - i) * 2) ++ R1.toList.drop ((i + m) * 2 + (n - i) * 2)).toArray ∧
    Calls Tryd.prog 81 #[.slice (some ⟨b, 0, none⟩) n c, .int .i64 i, .slice (some ⟨vb, 0, none⟩) m vc] w fun e w' => e = .returned (.slice (some ⟨w.heap.size, 0, none⟩) (n + m) (grownCap w (n + m) c 72)) ∧ w' = (((w.drew.alloc (.cells R0 72)).setRow w.heap.size R1).drew.setRow w.heap.size R2) := by
  have hz1 : ¬ ((m : Int) = 0) := by omega
  have hz2 : ¬ ((i : Int) = (n : Int)) := by omega
  have hz3 : (c : Int) < (n : Int) + (m : Int) := by omega
  obtain ⟨⟨ie, hie, hsz, hby, z, hz, hzc, hzl⟩, _⟩ := T_ok 72 ⟨(.struct [(9, 0), (70, 1)]), 2, 40, [.string ⟨#[]⟩, .slice none 0 0]⟩ rfl
  simp only at hsz hby hzc hzl
  have hzs : z.cells.size = 2 := by have := congrArg List.length hzc; simpa using this
  have hcell : ∀ j, w.cell? ⟨b, j, none⟩ = cur[j]? := fun j => cell_of_row w b j cur 72 (0, 0) hg
  have hbw : b < w.heap.size := (Array.getElem?_eq_some_iff.1 hg).1
  have hvw : vb < w.heap.size := (Array.getElem?_eq_some_iff.1 hgv).1
  have hik : i + (n + m - i) = n + m := by omega
  have hkk : (n : Int) + (m : Int) - (i : Int) = ((n + m - i : Nat) : Int) := by omega
  have hol : (cur.toList.take (i * 2)).length = i * 2 := by simp [hcur]; omega
  have hold : (Builtin.firstCells ie.size i (.slice (some ⟨b, 0, none⟩) i c)).run Tryd.prog w.drew = .ok (cur.toList.take (i * 2)).toArray w.drew := by
    rw [hsz]
    exact run_firstCells_some w.drew 2 i ⟨b, 0, none⟩ i c (cur.toList.take (i * 2)) hol (fun j v hj => by
      have hadd : (⟨b, 0, none⟩ : Addr).add j = ⟨b, j, none⟩ := by unfold Addr.add; split <;> simp_all
      rw [hadd]
      show w.cell? _ = _
      rw [hcell]
      rw [List.getElem?_take] at hj
      split at hj
      · simpa using hj
      · cases hj)
  obtain ⟨G, hG⟩ : ∃ G, G = grownCap w (n + m) c 72 := ⟨_, rfl⟩
  have hGge : n + m ≤ G := by rw [hG]; exact grownCap_ge w (n + m) c 72
  obtain ⟨R0, hR0⟩ : ∃ R0 : Array Value, R0 = (cur.toList.take (i * 2)).toArray ++ Builtin.zeroCells z.cells (n + m - i) ++ Builtin.zeroCells z.cells (G - (n + m)) := ⟨_, rfl⟩
  have hR0s : R0.size = G * 2 := by rw [hR0]; simp [size_zeroCells, hzs, hcur]; omega
  have hR0t : R0.toList.take (i * 2) = cur.toList.take (i * 2) := by
    rw [hR0]
    simp only [Array.toList_append, List.append_assoc]
    rw [List.take_append_of_le_length (by simp [hcur]; omega), List.take_of_length_le (by simp [hcur]; omega)]
  have hrz : ∀ ty, (Builtin.append_ #[22, 3] ty #[.slice (some ⟨b, 0, none⟩) i c, .int .i64 ((n : Int) + (m : Int) - (i : Int))]).run Tryd.prog w = .ok (.slice (some ⟨w.heap.size, 0, none⟩) (n + m) G) (w.drew.alloc (.cells R0 72)) := fun ty => by
    have h := Lib.run_append_grow_zeros (P := Tryd.prog) w 22 3 ty 72 ie z .i64 .i64 und22 (T_ok 3 ⟨(.int .i64), 1, 8, [.int .i64 0]⟩ rfl).2 hie hz (some ⟨b, 0, none⟩) i c (cur.toList.take (i * 2)) hold (n + m - i) (by omega) (by rw [hsz]; omega) (by omega) (by omega) (by rw [hby]; omega) (by rw [hby, hik]; exact growslice_fits hroom hbig)
    rw [hik, ← hG] at h
    rw [hkk, hR0]
    exact h
  obtain ⟨R1, hR1⟩ : ∃ R1 : Array Value, R1 = (R0.toList.take (i * 2) ++ vs ++ R0.toList.drop (i * 2 + vs.length)).toArray := ⟨_, rfl⟩
  obtain ⟨R2, hR2⟩ : ∃ R2 : Array Value, R2 = (R1.toList.take ((i + m) * 2) ++ (cur.toList.drop (i * 2)).take ((n - i) * 2) ++ R1.toList.drop ((i + m) * 2 + (n - i) * 2)).toArray := ⟨_, rfl⟩
  have hR1s : R1.size = G * 2 := by rw [hR1]; simp [hR0s, hvl]; omega
  refine ⟨R0, R1, R2, hR0t, by rw [hR0s, hG], hR1, hR2, ?_⟩
  rw [← hG]
  obtain ⟨W1, hW1⟩ : ∃ W1, W1 = w.drew.alloc (.cells R0 72) := ⟨_, rfl⟩
  have hg1 : W1.heap[w.heap.size]? = some (.cells R0 72 (0, 0)) := by rw [hW1]; exact heap_alloc_new w.drew _
  have hv1 : W1.heap[vb]? = some (.cells curv 72 (0, 0)) := by rw [hW1]; exact (RowKit.Below.heap_alloc w.drew _ vb hvw).trans hgv
  have hb1' : W1.heap[b]? = some (.cells cur 72 (0, 0)) := by rw [hW1]; exact (RowKit.Below.heap_alloc w.drew _ b hbw).trans hg
  have hcp1 : ∀ ty dc, (Builtin.copy_ #[22, 22] ty #[.slice (some ⟨w.heap.size, i * 2, none⟩) (n + m - i) dc, .slice (some ⟨vb, 0, none⟩) m vc]).run Tryd.prog W1 = .ok (goInt m) (W1.setRow w.heap.size R1) := fun ty dc => by
    have hmin : Nat.min m (n + m - i) = m := by simp only [Nat.min_def]; split <;> omega
    have h := run_copy_sized (P := Tryd.prog) W1 22 22 ty 72 w.heap.size (i * 2) (n + m - i) dc ⟨vb, 0, none⟩ m vc 2 R0 72 vs und22 size72 hg1 (by rw [hvl, hmin])
      (fun j v hj => by
        have hadd : (⟨vb, 0, none⟩ : Addr).add j = ⟨vb, j, none⟩ := by unfold Addr.add; split <;> simp_all
        rw [hadd, cell_of_row _ vb j curv 72 (0, 0) hv1]
        rw [← hvs, List.getElem?_take] at hj
        split at hj
        · simpa using hj
        · cases hj) (by rw [hvl, hR0s]; omega) h1v
    rw [hmin, ← hR1] at h
    exact h
  obtain ⟨W2, hW2⟩ : ∃ W2, W2 = W1.setRow w.heap.size R1 := ⟨_, rfl⟩
  rw [← hW1, ← hW2]
  rw [← hW2] at hcp1
  rw [← hW1] at hrz
  have hg2 : W2.drew.heap[w.heap.size]? = some (.cells R1 72 (0, 0)) := by rw [hW2]; exact setRow_heap W1 _ _ _ 72 _ hg1
  have hb2 : W2.drew.heap[b]? = some (.cells cur 72 (0, 0)) := by rw [hW2]; exact (setRow_other W1 _ b _ (by omega)).trans hb1'
  have hcs : ((cur.toList.drop (i * 2)).take ((n - i) * 2)).length = (n - i) * 2 := by simp [hcur]; omega
  have hcp2 : ∀ ty dc sc, (Builtin.copy_ #[22, 22] ty #[.slice (some ⟨w.heap.size, (i + m) * 2, none⟩) (n + m - (i + m)) dc, .slice (some ⟨b, i * 2, none⟩) (n - i) sc]).run Tryd.prog W2.drew = .ok (goInt ((n - i : Nat) : Int)) (W2.drew.setRow w.heap.size R2) := fun ty dc sc => by
    have hmin : Nat.min (n - i) (n + m - (i + m)) = n - i := by simp only [Nat.min_def]; split <;> omega
    have h := run_copy_sized (P := Tryd.prog) W2.drew 22 22 ty 72 w.heap.size ((i + m) * 2) (n + m - (i + m)) dc ⟨b, i * 2, none⟩ (n - i) sc 2 R1 72 ((cur.toList.drop (i * 2)).take ((n - i) * 2)) und22 size72 hg2 (by rw [hcs, hmin])
      (fun j v hj => by
        have hadd : (⟨b, i * 2, none⟩ : Addr).add j = ⟨b, i * 2 + j, none⟩ := by unfold Addr.add; split <;> simp_all
        rw [hadd, cell_of_row _ b _ cur 72 (0, 0) hb2]
        rw [List.getElem?_take] at hj
        split at hj
        · rw [List.getElem?_drop] at hj; simpa using hj
        · cases hj) (by rw [hcs, hR1s]; omega) (fun v hv => h1c v (by
        have : (cur.toList.drop (i * 2)).take ((n - i) * 2) = (cur.toList.take (n * 2)).drop (i * 2) := by rw [List.drop_take]; congr 1; omega
        rw [this] at hv
        exact List.mem_of_mem_drop hv))
    rw [hmin, hcs, ← hR2] at h
    exact h
  have hmix : Tryd.prog.follows .mixedOrders = true := mixed
  have hin : i ≤ n := by omega
  have hw1 : IntKind.i64.wrap ((i : Int) + (m : Int)) = (i : Int) + (m : Int) := by rw [IntKind.wrap_i64]; omega
  have hb1 : (0 : Int) ≤ (i : Int) + (m : Int) := by omega
  have htn : ((i : Int) + (m : Int)).toNat = i + m := by omega
  have hb3 : (i : Int) ≤ (n : Int) + (m : Int) := by omega
  have hb5 : ¬ (G = i + m) := by omega
  have hb6 : ¬ (G = i) := by omega
  have hb7 : ¬ (c = i) := by omega
  clear hkk hW1 hW2 hg1 hg2 hb2 hb1' hv1 hR1 hR2 hR1s hR0 hR0s hR0t hG hcell hie hz
  go_enter Tryd.func81, Tryd.ntmps81
  go_wp2_with (at_builtin; refine Lib.wpList_append_run _ rfl _ _ _ _ rfl _ _ rfl rfl _ _ (hrz _) ?_)
  go_wp2_with (at_builtin; refine wpList_copy_runI _ rfl _ _ 22 22 rfl _ _ rfl rfl (hcp1 _ _) ?_)
  go_region_law_o (refine step_copy_runI rfl _ _ 22 22 rfl _ _ (by simp [Act.eval, Act.put]) (by simp [Act.eval, Act.put]) (hcp2 _ _ _) ?_)
  go_wp2
  go_ret
  exact ⟨rfl, rfl⟩
end Go.Proofs.YtchpllgeahnmmaaDoor
namespace Go.Proofs.YtchpllgeahnmmaaDoor
open Go Go.AL Go.RowKit
set_option linter.unusedVariables false
set_option linter.unusedSimpArgs false
theorem insT : Ins Tryd.prog 81 72 2 40 := by
  have hcal : Callable Tryd.prog 81 := ⟨Tryd.f81, Tryd.func81, by kernel_rfl, by kernel_rfl⟩
  refine ⟨hcal, fun N w v nx vs u m us i hv hvl hu hul hm hi hn hb h1v h1u hap => ?_⟩
  obtain ⟨z1, z2, z3, ht⟩ : ∃ z1 z2 z3, T 22 = some ⟨.slice 72, z1, z2, z3⟩ := ⟨_, _, _, rfl⟩
  obtain ⟨k, z6, hte⟩ : ∃ k z6, T 72 = some ⟨k, 2, 40, z6⟩ := ⟨_, _, rfl⟩
  have hu0 := hu
  rcases hu with ⟨_, _, rfl, _⟩ | ⟨g2, cap2, cur2, rfl, hc2, hg2, hmc2, hcm2, hcs2, htk2⟩
  · omega
  have hb2 : blk (.slice (some ⟨g2, 0, none⟩) m cap2) = some g2 := by simp [blk]; omega
  by_cases hin : i = nx
  · subst hin
    obtain ⟨v', w', hr, q1, q2, q3⟩ := run_append_any T_ok ht (ty := 0) hte rfl (n := i) (m := m) hv hvl (Src_row hu0) hul h1u hn hb
    have hr' : ∀ ty, (Builtin.append_ #[22, 22] ty #[v, .slice (some ⟨g2, 0, none⟩) m cap2]).run Tryd.prog w = .ok v' w' := fun ty => by
      rw [← hr]; rfl
    have hval : ∃ base c, v = .slice base i c ∧ (base = none → i = 0) ∧ i ≤ c := by
      rcases hv with ⟨a, e, h0, _⟩ | ⟨g, cap, cur, e, hc0, hg, hnc, _⟩
      · exact ⟨a, 0, by rw [e, h0], fun _ => h0, by omega⟩
      · exact ⟨_, cap, e, (fun h => by cases h), hnc⟩
    obtain ⟨base, c, rfl, hnil, hnc⟩ := hval
    refine (callsIn_wide.2 (ins_end w w' base i c ⟨g2, 0, none⟩ m cap2 v' hm hnil hr' hnc)).mono ?_
    rintro x w1 ⟨rfl, rfl⟩
    refine ⟨v', rfl, ?_, q2, fun b hbb => ⟨(q3 b hbb).1, (q3 b hbb).2⟩⟩
    rw [List.take_of_length_le (by omega), List.drop_of_length_le (by omega), List.append_nil]
    exact q1
  rcases hv with ⟨a, rfl, rfl, rfl⟩ | ⟨g, cap, cur, rfl, hc0, hg, hnc, hcm, hcs, htk⟩
  · omega
  have hilt : i < nx := by omega
  have hbk : blk (.slice (some ⟨g, 0, none⟩) nx cap) = some g := by simp [blk]; omega
  have hne : g2 ≠ g := fun e => hap g hbk (by rw [hb2, e])
  have hlt : g < w.heap.size := (Array.getElem?_eq_some_iff.1 hg).1
  have hcap63 : cap ≤ 9223372036854775807 := by simp [maxLen] at hcm; omega
  have hcl : cur.toList.length = cap * 2 := by simpa using hcs
  have htl : (vs.take (i * 2)).length = i * 2 := by simp [hvl]; omega
  have hdl : (vs.drop (i * 2)).length = (nx - i) * 2 := by simp [hvl]; omega
  have hdrop : (cur.toList.drop (i * 2)).take ((nx - i) * 2) = vs.drop (i * 2) := by
    rw [← htk, List.drop_take]; congr 1; omega
  have hti : cur.toList.take (i * 2) = vs.take (i * 2) := by rw [← htk, List.take_take]; congr 1; omega
  have h1c : ∀ v ∈ cur.toList.take (nx * 2), v.oneCell' = true := by rw [htk]; exact h1v
  by_cases hroom : nx + m ≤ cap
  · refine (callsIn_wide.2 (ins_room w g nx cap i g2 m cap2 cur cur2 us hg hg2 hcs hcs2 htk2 hul hne hilt hm hroom hcap63 h1c h1u hc2 _ _ rfl rfl)).mono ?_
    rintro x w1 ⟨rfl, rfl⟩
    obtain ⟨c1, hc1⟩ : ∃ c1 : Array Value, c1 = (cur.toList.take ((i + m) * 2) ++ (cur.toList.drop (i * 2)).take ((nx - i) * 2) ++ cur.toList.drop ((i + m) * 2 + (nx - i) * 2)).toArray := ⟨_, rfl⟩
    rw [← hc1]
    obtain ⟨c2, hc2'⟩ : ∃ c2 : Array Value, c2 = (c1.toList.take (i * 2) ++ us ++ c1.toList.drop (i * 2 + us.length)).toArray := ⟨_, rfl⟩
    rw [← hc2']
    have e1 : c1.toList = cur.toList.take ((i + m) * 2) ++ vs.drop (i * 2) ++ cur.toList.drop ((i + m) * 2 + (nx - i) * 2) := by rw [hc1, hdrop]
    have hs1 : c1.size = cap * 2 := by have := congrArg List.length e1; simp only [List.length_append, List.length_take, List.length_drop, hdl, hcl, hvl] at this; simp at this; omega
    have hh1 : (w.drew.setRow g c1).heap[g]? = some (.cells c1 72 (0, 0)) := setRow_heap w.drew g cur _ 72 _ hg
    have hh2 : ((w.drew.setRow g c1).setRow g c2).heap[g]? = some (.cells c2 72 (0, 0)) := setRow_heap _ g c1 _ 72 _ hh1
    have hs2 : c2.size = cap * 2 := by rw [hc2']; simp [hs1, hul]; omega
    refine ⟨_, rfl, .inr ⟨g, cap, c2, rfl, hc0, hh2, by omega, hcm, hs2, ?_⟩, ?_, ?_⟩
    · rw [hc2']
      have ht1 : (cur.toList.take ((i + m) * 2)).length = (i + m) * 2 := by simp [hcl]; omega
      have hA1 : c1.toList.take (i * 2) = vs.take (i * 2) := by
        rw [e1, List.append_assoc, List.take_append_of_le_length (by omega), List.take_take, Nat.min_eq_left (by omega), hti]
      have hA2 : c1.toList.drop (i * 2 + us.length) = vs.drop (i * 2) ++ cur.toList.drop ((i + m) * 2 + (nx - i) * 2) := by
        rw [e1, List.append_assoc, hul, show i * 2 + m * 2 = (i + m) * 2 by omega, List.drop_append, List.drop_of_length_le (l := cur.toList.take ((i + m) * 2)) (by omega), ht1, Nat.sub_self, List.drop_zero, List.nil_append]
      show (c1.toList.take (i * 2) ++ us ++ c1.toList.drop (i * 2 + us.length)).take ((nx + m) * 2) = _
      rw [hA1, hA2, ← List.append_assoc, List.take_append_of_le_length (by simp [hul, hvl]; omega), List.take_of_length_le (by simp [hul, hvl]; omega)]
    · have q1 := setRow_step w.drew g c1
      have q2 := setRow_step (w.drew.setRow g c1) g c2
      have q := q1.trans q2
      exact ⟨q.os, q.tape, q.output, q.size, fun b hb => q.block b (fun e => hb.2 (by rw [hbk, e]))⟩
    · intro b hbb
      have : blk (.slice (some ⟨g, 0, none⟩) (nx + m) cap) = some g := by simp [blk]; omega
      rw [this] at hbb
      cases hbb
      exact ⟨by simpa using hlt, .inl hbk⟩
  · obtain ⟨R0, R1, R2, f1, f2, f3, f4, hcall⟩ := ins_grow w g nx cap i g2 m cap2 cur cur2 us hg hg2 hcs htk2 hul hilt hm hnc (by omega) hb h1c h1u
    refine (callsIn_wide.2 hcall).mono ?_
    rintro x w1 ⟨rfl, rfl⟩
    have hge := grownCap_ge w (nx + m) cap 72
    have hgm := grownCap_le_maxLen w (nx + m) cap 72 (by simp [maxLen]; omega)
    obtain ⟨G, hG⟩ : ∃ G, G = grownCap w (nx + m) cap 72 := ⟨_, rfl⟩
    rw [← hG] at hge hgm f2 ⊢
    have hR0l : R0.toList.length = G * 2 := by simpa using f2
    have e1 : R1.toList = vs.take (i * 2) ++ us ++ R0.toList.drop ((i + m) * 2) := by rw [f3, f1, hti, hul, show i * 2 + m * 2 = (i + m) * 2 by omega]
    have hl1 : (vs.take (i * 2) ++ us).length = (i + m) * 2 := by simp [hvl, hul]; omega
    have hR1l : R1.toList.length = G * 2 := by rw [e1, List.length_append, hl1, List.length_drop, hR0l]; omega
    have e2 : R2.toList = vs.take (i * 2) ++ us ++ vs.drop (i * 2) ++ R1.toList.drop ((i + m) * 2 + (nx - i) * 2) := by
      rw [f4, hdrop]
      show R1.toList.take ((i + m) * 2) ++ _ ++ _ = _
      rw [e1, List.take_append_of_le_length (l₁ := vs.take (i * 2) ++ us) (by omega), List.take_of_length_le (l := vs.take (i * 2) ++ us) (by omega)]
    have hR2s : R2.size = G * 2 := by have := congrArg List.length e2; rw [List.length_append, List.length_append, hl1, hdl, List.length_drop, hR1l] at this; simp at this; omega
    have hA : (w.drew.alloc (.cells R0 72)).heap[w.heap.size]? = some (.cells R0 72 (0, 0)) := heap_alloc_new w.drew _
    have hB : ((w.drew.alloc (.cells R0 72)).setRow w.heap.size R1).drew.heap[w.heap.size]? = some (.cells R1 72 (0, 0)) := setRow_heap (w.drew.alloc (.cells R0 72)) _ _ _ 72 _ hA
    have hC : (((w.drew.alloc (.cells R0 72)).setRow w.heap.size R1).drew.setRow w.heap.size R2).heap[w.heap.size]? = some (.cells R2 72 (0, 0)) := setRow_heap _ _ _ _ 72 _ hB
    have q1 := setRow_step (w.drew.alloc (.cells R0 72)) w.heap.size R1
    have q2 := setRow_step ((w.drew.alloc (.cells R0 72)).setRow w.heap.size R1).drew w.heap.size R2
    refine ⟨_, rfl, .inr ⟨w.heap.size, G, R2, rfl, by omega, hC, hge, hgm, hR2s, ?_⟩, ⟨?_, ?_, ?_, ?_, fun b hb => ?_⟩, ?_⟩
    · rw [e2, List.take_append_of_le_length (by rw [List.length_append, hl1, hdl]; omega), List.take_of_length_le (by rw [List.length_append, hl1, hdl]; omega)]
    · exact q2.os.trans q1.os
    · exact q2.tape.trans q1.tape
    · exact q2.output.trans q1.output
    · simp
    · have hbn : b ≠ w.heap.size := by have := hb.1; omega
      rw [q2.block b hbn]
      show ((w.drew.alloc (.cells R0 72)).setRow w.heap.size R1).heap[b]? = _
      rw [q1.block b hbn]
      exact RowKit.Below.heap_alloc w.drew _ b hb.1
    · intro b hbb
      have : blk (.slice (some ⟨w.heap.size, 0, none⟩) (nx + m) G) = some w.heap.size := by simp [blk]; omega
      rw [this] at hbb
      cases hbb
      exact ⟨by simp, .inr (Nat.le_refl _)⟩
end Go.Proofs.YtchpllgeahnmmaaDoor
namespace Go.Proofs.YtchpllgeahnmmaaDoor
open Go Go.AL
set_option linter.unusedVariables false
set_option linter.unusedSimpArgs false
set_option maxHeartbeats 4000000
theorem copiedAll (s : List Ty) : DoesM Tryd.prog 56 [] [argS s] (.agg [.row 50]) [(50, .rowA 72 2 s.length ((s.map encT).flatten.map .d))] [] := by
 have h := copiedOk s s.length
 rw [copL_none] at h
 exact h
theorem addsOk (s : List Ty) (c : Chg) : Does Tryd.prog 53 [argS s, argC c] noHeap (.tup [argS (addX s c.ty).1, .d (errC 74 (addX s c.ty).2)]) := by
 refine Does_of T_ok mixed (N := 56) Tryd.func53 rfl rfl rfl (by rfl) fun F n Z hE hF J => ?_
 refine CW_seq ?_
 refine CW_region ?_
 refine OW_run' hE.ok 2 rfl ?_
 refine OW_alloc' hE 1 rfl rfl rfl rfl rfl rfl rfl ?_
 refine OW_run' hE.ok 1 rfl ?_
 refine OW_end rfl ?_
 refine CW_seq ?_
 refine CW_seq ?_
 refine CW_region ?_
 refine OW_run' hE.ok 3 rfl ?_
 refine OW_call' hE (findOk s c.ty) rfl rfl rfl rfl rfl rfl rfl ?_
 refine OW_run' hE.ok 3 rfl ?_
 refine OW_alloc' hE 2 rfl rfl rfl rfl rfl rfl rfl ?_
 refine OW_store' hE rfl rfl rfl rfl rfl rfl rfl rfl rfl rfl rfl rfl ?_
 refine OW_run' hE.ok 1 rfl ?_
 refine OW_end rfl ?_
 refine CW_seq ?_
 refine CW_region ?_
 refine OW_run' hE.ok 1 rfl ?_
 refine OW_end rfl ?_
 refine CW_cond _ rfl (fun h1 => ?_) (fun h1 => ?_)
 ·
  have f1 : (findT s c.ty).2 = true := h1
  refine CW_seq ?_
  refine CW_region ?_
  refine OW_run' hE.ok 2 rfl ?_
  refine OW_store' hE rfl rfl rfl rfl rfl rfl rfl rfl rfl rfl rfl rfl ?_
  refine OW_run' hE.ok 1 rfl ?_
  refine OW_end rfl ?_
  refine CW_ret ?_
  refine ⟨.inr rfl, rfl, ⟨_, rfl, rfl, ?_⟩, rfl⟩
  rw [ad_1 f1]
  exact AVle.refl _
 ·
  have f1 : (findT s c.ty).2 = false := h1
  refine CW_skip ?_
  refine CW_seq ?_
  refine CW_seq ?_
  refine CW_region ?_
  refine OW_run' hE.ok 4 rfl ?_
  refine OW_end rfl ?_
  refine CW_cond _ rfl (fun h2 => ?_) (fun h2 => ?_)
  ·
   have f2 : decide ((s.length : Int) ≥ 5) = true := by have := h2; rw [List.length_map] at this; exact this
   refine CW_seq ?_
   refine CW_region ?_
   refine OW_run' hE.ok 2 rfl ?_
   refine OW_store' hE rfl rfl rfl rfl rfl rfl rfl rfl rfl rfl rfl rfl ?_
   refine OW_run' hE.ok 1 rfl ?_
   refine OW_end rfl ?_
   refine CW_ret ?_
   refine ⟨.inr rfl, rfl, ⟨_, rfl, rfl, ?_⟩, rfl⟩
   rw [ad_2 f1 f2]
   exact AVle.refl _
  ·
   have f2 : decide ((s.length : Int) ≥ 5) = false := by have := h2; rw [List.length_map] at this; exact this
   have hl5 : s.length < 5 := by have := f2; simp at this; omega
   refine CW_skip ?_
   refine CW_seq ?_
   refine CW_region ?_
   refine OW_run' hE.ok 1 rfl ?_
   refine OW_callM' hE (tr []) (copiedAll s) rfl rfl rfl rfl rfl trivial rfl rfl ?_
   refine OW_alloc' hE 3 rfl rfl rfl rfl rfl rfl rfl ?_
   refine OW_store' hE rfl rfl rfl rfl rfl rfl rfl rfl rfl rfl rfl rfl ?_
   refine OW_end rfl ?_
   refine CW_seq ?_
   refine CW.le (LE_rowD 50 (xs := s.map encT) rfl (by simp) (rnAs_dd _ _) (enc_two s)) ?_
   refine CW.le (show LE _ _ ⟨J, (sset (sset (sset noSlots 3 (.d (.iptr (encC c)))) 4 (.ptr 1 0)) 8 (.ptr 3 0)), (hset (hset (hset noHeap 1 (some (.box 24 [.d (.lit (.slice none 0 0))]))) 3 (some (.box 24 [.row 50]))) 50 (some (.row 72 2 (s.map encT))))⟩ from LE_sh (slh_set (v := .ptr 3 0) (slh_set (v := .ptr 1 0) (slh_set (v := .d (.iptr (encC c))) (slh_no _ _) (by rfl) rfl) (by rfl) rfl) (by rfl) rfl) (hlh_set (hlh_set (hlh_set (hlh_no _ _) rfl rfl) rfl rfl) rfl rfl)) ?_
   refine CW_region ?_
   refine OW_run' hE.ok 1 rfl ?_
   refine OW_end rfl ?_
   refine CW_cutE (fun _ : Unit => ⟨J, (sset (sset (sset (sset noSlots 3 (.d (.iptr (encC c)))) 4 (.ptr 1 0)) 8 (.ptr 3 0)) 9 (.d (int ((posX s c.ty : Nat) : Int)))), (hset (hset (hset noHeap 1 (some (.box 24 [.d (.lit (.slice none 0 0))]))) 3 (some (.box 24 [.row 50]))) 50 (some (.row 72 2 (s.map encT))))⟩) (fun _ => True) ?_ ?_
   ·
    refine CW_block ?_
    refine CW_loop (σ := {i : Nat // i ≤ s.length ∧ ∀ (j : Nat) (a : Ty), j < i → s[j]? = some a → less a.name c.ty = true}) (fun i => ⟨J, (sset (sset (sset (sset noSlots 3 (.d (.iptr (encC c)))) 4 (.ptr 1 0)) 8 (.ptr 3 0)) 9 (.d (int ((i.1 : Nat) : Int)))), (hset (hset (hset noHeap 1 (some (.box 24 [.d (.lit (.slice none 0 0))]))) 3 (some (.box 24 [.row 50]))) 50 (some (.row 72 2 (s.map encT))))⟩) (fun i => s.length - i.1) ⟨0, Nat.zero_le _, fun j a hj => by omega⟩ (LE_sh (slh_set (slh_set (slh_set (slh_set (slh_no _ _) rfl rfl) rfl rfl) rfl rfl) rfl rfl) (hlh_set (hlh_set (hlh_set (hlh_no _ _) rfl rfl) rfl rfl) rfl rfl)) fun ⟨i, hi, hp⟩ => ?_
    refine CW_seq ?_
    refine CW_seq ?_
    refine CW_drawn' hE 14 (by decide +kernel) ?_
    refine HW_run hE 6 rfl rfl ?_
    refine HW_split 33 rfl (fun h3 => ?_) (fun h3 => ?_)
    ·
     have hlt : i < s.length := by have := h3; rw [List.length_map] at this; simp at this; omega
     obtain ⟨a, ha⟩ : ∃ a, s[i]? = some a := ⟨_, List.getElem?_eq_getElem hlt⟩
     refine HW_run hE 3 rfl rfl ?_
     refine HW_loc hE (loc_idxRow hE rfl rfl rfl rfl rfl (j := i) rfl (by rw [List.length_map]; exact hlt)) rfl rfl rfl rfl ?_
     refine HW_run hE 1 rfl rfl ?_
     refine HW_loc hE (loc_loadRow hE rfl rfl rfl (j := i) (off := 0) rfl rfl (x := encT a) (by simp [ha]) (Nat.zero_le _) rfl) rfl rfl rfl rfl ?_
     refine HW_run hE 2 rfl rfl ?_
     refine HW_end ?_
     refine OW_run' hE.ok 2 rfl ?_
     refine OW_end rfl ?_
     refine CW_cond _ rfl (fun h4 => ?_) (fun h4 => ?_)
     ·
      have hles : less a.name c.ty = true := h4
      refine CW_skip ?_
      refine CW_block ?_
      refine CW_region ?_
      refine OW_run' hE.ok 3 rfl ?_
      refine OW_end rfl ?_
      refine ⟨⟨i + 1, by omega, fun j x hj hx => ?_⟩, LE_sh (slh_set (v := .d (int ((i + 1 : Nat) : Int))) (slh_set (v := .ptr 3 0) (slh_set (v := .ptr 1 0) (slh_set (v := .d (.iptr (encC c))) (slh_no _ _) (by rfl) rfl) (by rfl) rfl) (by rfl) rfl) (by show AV.d (.lit (.int .i64 (IntKind.i64.wrap ((i : Int) + 1)))) = _; rw [wrap_succ (by omega)]; rfl) rfl) (hlh_set (hlh_set (hlh_set (hlh_no _ _) rfl rfl) rfl rfl) rfl rfl), by show s.length - (i + 1) < s.length - i; omega⟩
      by_cases hji : j = i
      · subst hji; rw [ha] at hx; cases hx; exact hles
      · exact hp j x (by omega) hx
     ·
      have hles : less a.name c.ty = false := h4
      refine CW_exit ?_
      have hpos : posX s c.ty = i := posX_at hi hp (.inr ⟨a, ha, hles⟩)
      exact ⟨(), trivial, LE_sh (slh_set (v := .d (int ((posX s c.ty : Nat) : Int))) (slh_set (v := .ptr 3 0) (slh_set (v := .ptr 1 0) (slh_set (v := .d (.iptr (encC c))) (slh_no _ _) (by rfl) rfl) (by rfl) rfl) (by rfl) rfl) (by exact (congrArg (fun z : Nat => AV.d (int (z : Int))) hpos.symm)) rfl) (hlh_set (hlh_set (hlh_set (hlh_no _ _) rfl rfl) rfl rfl) rfl rfl)⟩
    ·
     have hge : i = s.length := by have := h3; rw [List.length_map] at this; simp at this; omega
     refine HW_run hE 8 rfl rfl ?_
     refine HW_end ?_
     refine OW_run' hE.ok 2 rfl ?_
     refine OW_end rfl ?_
     refine CW_false rfl ?_
     refine CW_exit ?_
     have hpos : posX s c.ty = i := posX_at hi hp (.inl hge)
     exact ⟨(), trivial, LE_sh (slh_set (v := .d (int ((posX s c.ty : Nat) : Int))) (slh_set (v := .ptr 3 0) (slh_set (v := .ptr 1 0) (slh_set (v := .d (.iptr (encC c))) (slh_no _ _) (by rfl) rfl) (by rfl) rfl) (by rfl) rfl) (by exact (congrArg (fun z : Nat => AV.d (int (z : Int))) hpos.symm)) rfl) (hlh_set (hlh_set (hlh_set (hlh_no _ _) rfl rfl) rfl rfl) rfl rfl)⟩
   ·
    rintro _ _
    have hpl := posX_le s c.ty
    refine CW_seq ?_
    refine CW_region ?_
    refine OW_run' hE.ok 5 rfl ?_
    refine OW_build' hE rfl rfl rfl rfl rfl ?_
    refine OW_litsOwn' hE 51 rfl rfl rfl rfl rfl rfl rfl rfl rfl rfl rfl rfl ?_
    refine OW_insert' hE (key := 50) (key2 := 51) insT rfl rfl rfl rfl rfl rfl rfl rfl rfl (j := posX s c.ty) rfl (by simpa using hpl) (by simp) (by simp; omega) (by simp; omega) rfl ?_
    refine OW_run' hE.ok 1 rfl ?_
    refine OW_store' hE rfl rfl rfl rfl rfl rfl rfl rfl rfl rfl rfl rfl ?_
    refine OW_end rfl ?_
    refine CW_seq ?_
    refine CW.le (LE_rowLe 50 (xs' := (insX s c.ty).map encT) rfl (by simp [insX_len, hpl]; omega) (fun _ => ins_two s c.ty) (ins_dles s c.ty)) ?_
    refine CW.le (LE_freeze 50 40 rfl (by simp [insX_len]; omega)) ?_
    refine CW_region ?_
    refine OW_run' hE.ok 1 rfl ?_
    refine OW_store' hE rfl rfl rfl rfl rfl rfl rfl rfl rfl rfl rfl rfl ?_
    refine OW_run' hE.ok 1 rfl ?_
    refine OW_end rfl ?_
    refine CW_ret ?_
    refine ⟨.inr rfl, rfl, ⟨_, rfl, rfl, ?_⟩, rfl⟩
    rw [ad_3 f1 f2]
    exact AVle.refl _
end Go.Proofs.YtchpllgeahnmmaaDoor
namespace Go.Proofs.YtchpllgeahnmmaaDoor
open Go Go.AL
set_option linter.unusedVariables false
set_option linter.unusedSimpArgs false
set_option maxHeartbeats 4000000
theorem changesOk (a b : List D) (t : Ty) (c : Chg) (i nn : Nat) (ha : a.length = i * 2) (hfl : t.fields.length * 24 ≤ 140737488355328) : DoesM Tryd.prog 57 [(50, .rowA 72 2 nn (cX a b t.name (.row 70))), (70, .row 69 2 (t.fields.map encF))] [.ptr 50 (i * 2), argC c] (.d (errC 74 (changeT t c).2)) [(50, .rowA 72 2 nn (cX a b t.name (.row 70))), (70, .row 69 2 ((changeT t c).1.fields.map encF))] [50] := by
 refine DoesM_of T_ok mixed (N := 115) Tryd.func57 rfl rfl rfl (by rfl) rfl (closed_2 _ _ _ _ _ _ _) (closed_2 _ _ _ _ _ _ _) rfl rfl rfl fun F n Z hE hF J V => ?_
 refine CW_seq ?_
 refine CW_region ?_
 refine OW_run' hE.ok 2 rfl ?_
 refine OW_end rfl ?_
 refine CW_seq ?_
 refine CW_drawn' hE 5 (by decide +kernel) ?_
 refine HW_run hE 2 rfl rfl ?_
 refine HW_loc hE (loc_loadRowA hE rfl rfl rfl (q := i * 2) rfl (by exact cX_ty ha)) rfl rfl rfl rfl ?_
 refine HW_run hE 2 rfl rfl ?_
 refine HW_end ?_
 refine OW_callLend' hE (LE_freeze 70 24 rfl (by rw [List.length_map]; exact hfl)) (fieldOk t c.fld) rfl rfl rfl rfl rfl rfl ?_
 refine OW_run' hE.ok 1 rfl ?_
 refine OW_end rfl ?_
 refine CW_seq ?_
 refine CW_seq ?_
 refine CW_region ?_
 refine OW_run' hE.ok 3 rfl ?_
 refine OW_end rfl ?_
 refine CW_cond _ rfl (fun h1 => ?_) (fun h1 => ?_)
 ·
  have a1 : (c.kind == 1) = true := h1
  refine CW_seq ?_
  refine CW_block ?_
  refine CW_seq ?_
  refine CW_region ?_
  refine OW_run' hE.ok 2 rfl ?_
  refine OW_call' hE (nameOk c.fld) rfl rfl rfl rfl rfl rfl rfl ?_
  refine OW_run' hE.ok 2 rfl ?_
  refine OW_split' 20 rfl (fun h2 => ?_) (fun h2 => ?_)
  ·
   have a2 : (!isName c.fld) = true := h2
   refine OW_run' hE.ok 6 rfl ?_
   refine OW_end rfl ?_
   refine CW_true rfl ?_
   refine CW_seq ?_
   refine CW_region ?_
   refine OW_run' hE.ok 2 rfl ?_
   refine OW_end rfl ?_
   rw [ch_a1 a1 (.inl a2)]
   exact CW_ret ⟨.inr rfl, rfl, ⟨_, rfl, AVle.refl _⟩, ⟨rfl, rfl, trivial⟩, rfl⟩
  ·
   have a2 : (!isName c.fld) = false := h2
   refine OW_run' hE.ok 2 rfl ?_
   refine OW_call' hE (isValOk c.dv) rfl rfl rfl rfl rfl rfl rfl ?_
   refine OW_run' hE.ok 3 rfl ?_
   refine OW_end rfl ?_
   refine CW_cond _ rfl (fun h3 => ?_) (fun h3 => ?_)
   ·
    have a3 : (!isVal c.dv) = true := h3
    refine CW_seq ?_
    refine CW_region ?_
    refine OW_run' hE.ok 2 rfl ?_
    refine OW_end rfl ?_
    rw [ch_a1 a1 (.inr a3)]
    exact CW_ret ⟨.inr rfl, rfl, ⟨_, rfl, AVle.refl _⟩, ⟨rfl, rfl, trivial⟩, rfl⟩
   ·
    have a3 : (!isVal c.dv) = false := h3
    refine CW_seq ?_
    refine CW_region ?_
    refine OW_run' hE.ok 3 rfl ?_
    refine OW_end rfl ?_
    refine CW_cond _ rfl (fun h4 => ?_) (fun h4 => ?_)
    ·
     have a4 : decide (fieldAt t c.fld ≥ 0) = true := h4
     refine CW_seq ?_
     refine CW_region ?_
     refine OW_run' hE.ok 2 rfl ?_
     refine OW_end rfl ?_
     rw [ch_a2 a1 a2 a3 a4]
     exact CW_ret ⟨.inr rfl, rfl, ⟨_, rfl, AVle.refl _⟩, ⟨rfl, rfl, trivial⟩, rfl⟩
    ·
     have a4 : decide (fieldAt t c.fld ≥ 0) = false := h4
     refine CW_seq ?_
     refine CW_region ?_
     refine OW_run' hE.ok 3 rfl ?_
     refine OW_loc' hE (loc_loadRowA hE rfl rfl rfl (q := i * 2 + 1) rfl (by exact cX_fl ha)) rfl rfl rfl ?_
     refine OW_run' hE.ok 3 rfl ?_
     refine OW_end rfl ?_
     refine CW_cond _ rfl (fun h5 => ?_) (fun h5 => ?_)
     ·
      have a5 : decide ((t.fields.length : Int) ≥ 5) = true := by have := h5; rw [List.length_map] at this; exact this
      refine CW_seq ?_
      refine CW_region ?_
      refine OW_run' hE.ok 2 rfl ?_
      refine OW_end rfl ?_
      rw [ch_a3 a1 a2 a3 a4 a5]
      exact CW_ret ⟨.inr rfl, rfl, ⟨_, rfl, AVle.refl _⟩, ⟨rfl, rfl, trivial⟩, rfl⟩
     ·
      have a5 : decide ((t.fields.length : Int) ≥ 5) = false := by have := h5; rw [List.length_map] at this; exact this
      have hl5 : t.fields.length < 5 := by have := a5; simp at this; omega
      refine CW_skip ?_
      refine CW_seq ?_
      refine CW_callRowName 70 60 rfl rfl fun v hv => ?_
      refine CW.le (LE_rowLit 50 (k := 70) (G := 60) rfl hv.ok rfl (cX_litK _ _ _ _ _)) ?_
      refine CW.le (show LE _ _ ⟨J, (sset (sset noSlots 0 (.ptr 50 (i * 2))) 3 (.d (.iptr (encC c)))), (hset (hset (hset (hset noHeap 50 (some (.rowA 72 2 nn (cX a b t.name (.d (.lit v)))))) 70 (some (.row 69 2 (t.fields.map encF)))) 60 (some (.ghost [.row 70] [v]))) 99 (some (.ghost [.row 50] V)))⟩ from LE_sh (slh_set (v := .d (.iptr (encC c))) (slh_set (v := .ptr 50 (i * 2)) (slh_no _ _) (by rfl) rfl) (by rfl) rfl) (hlh_set (hlh_set (hlh_set (hlh_set (hlh_no _ _) rfl (by exact cX_in rfl)) rfl rfl) rfl rfl) rfl rfl)) ?_
      have hk9 : ∀ z : Bool, (bif z then (hset (unkH 70 (hset (hset (hset (hset noHeap 50 (some (.rowA 72 2 nn (cX a b t.name (.d (.lit v)))))) 70 (some (.row 69 2 (t.fields.map encF)))) 60 (some (.ghost [.row 70] [v]))) 99 (some (.ghost [.row 50] V)))) 70 (some (.row 69 2 (t.fields.map encF ++ [encF ⟨c.fld, c.dv.k⟩])))) else (hset (hset (hset (hset noHeap 50 (some (.rowA 72 2 nn (cX a b t.name (.d (.lit v)))))) 70 (some (.row 69 2 (t.fields.map encF)))) 60 (some (.ghost [.row 70] [v]))) 99 (some (.ghost [.row 50] V)))) 50 = some (.rowA 72 2 nn (cX a b t.name (.d (.lit v)))) := fun z => by cases z; rfl; exact congrArg (fun q => some (Ent.rowA 72 2 nn q)) (cX_unk a b t.name 70 _)
      refine CW_drawnR hE 13 12 70 (h1 := (hset (unkH 70 (hset (hset (hset (hset noHeap 50 (some (.rowA 72 2 nn (cX a b t.name (.d (.lit v)))))) 70 (some (.row 69 2 (t.fields.map encF)))) 60 (some (.ghost [.row 70] [v]))) 99 (some (.ghost [.row 50] V)))) 70 (some (.row 69 2 (t.fields.map encF ++ [encF ⟨c.fld, c.dv.k⟩]))))) (by decide +kernel) rfl (by repeat (first | exact nokeyS_no _ | refine nokeyS_set ?_ rfl)) ?_
      refine HR_run hE 4 (h0 := noHeap) noHeap_no noHeap_no rfl rfl rfl ?_
      refine HR_loc hE (fun z => loc_loadRowA hE rfl rfl rfl (key := 50) (q := i * 2 + 1) (hk9 z) (by exact cX_fl ha)) rfl rfl rfl rfl rfl rfl ?_
      refine HR_run hE 5 (h0 := noHeap) noHeap_no noHeap_no rfl rfl rfl ?_
      refine HR_loc hE (fun b => loc_build hE rfl rfl) rfl rfl rfl rfl rfl rfl ?_
      refine HR_loc hE (fun q => loc_lits hE (t := 70) (len := 1) (parts := #[(0, .tmp 49)]) rfl rfl rfl rfl rfl rfl rfl rfl (xs := [encF ⟨c.fld, c.dv.k⟩]) rfl) rfl rfl rfl rfl rfl rfl ?_
      refine HR_append hE (G := 60) rfl rfl rfl rfl rfl rfl rfl rfl rfl rfl rfl rfl rfl (.inl rfl) (by simp <;> omega) (by simp <;> omega) rfl ?_
      refine HR_end ?_
      refine OW_run' hE.ok 2 rfl ?_
      refine OW_storeRowA' hE rfl rfl rfl rfl rfl (q := i * 2 + 1) rfl rfl rfl rfl rfl rfl (by rw [List.length_map, cX_len]; show i * 2 + 1 + 1 ≤ _; omega) (cs' := cX a b t.name (.row 70)) (by rw [cX_unk]; exact cX_over ha) ?_
      refine OW_end rfl ?_
      refine CW_seq ?_
      refine CW_region ?_
      refine OW_run' hE.ok 1 rfl ?_
      refine OW_end rfl ?_
      rw [ch_a4 a1 a2 a3 a4 a5]
      exact CW_ret ⟨.inr rfl, rfl, ⟨_, rfl, AVle.refl _⟩, ⟨rfl, by exact congrArg (fun z => some (Ent.row 69 2 z)) (by rw [List.map_append]; rfl), trivial⟩, rfl⟩
 ·
  have a1 : (c.kind == 1) = false := h1
  refine CW_skip ?_
  refine CW_seq ?_
  refine CW_seq ?_
  refine CW_region ?_
  refine OW_run' hE.ok 2 rfl ?_
  refine OW_end rfl ?_
  refine CW_cond _ rfl (fun h6 => ?_) (fun h6 => ?_)
  ·
   have b1 : decide (fieldAt t c.fld < 0) = true := h6
   refine CW_seq ?_
   refine CW_region ?_
   refine OW_run' hE.ok 2 rfl ?_
   refine OW_end rfl ?_
   rw [ch_b1 a1 b1]
   exact CW_ret ⟨.inr rfl, rfl, ⟨_, rfl, AVle.refl _⟩, ⟨rfl, rfl, trivial⟩, rfl⟩
  ·
   have b1 : decide (fieldAt t c.fld < 0) = false := h6
   obtain ⟨k, f, hk, hf, hfn⟩ := fieldAt_yes (by simpa using b1)
   have hkl := (List.getElem?_eq_some_iff.1 hf).1
   refine CW_as' 5 (.d (int ((k : Nat) : Int))) (congrArg (fun z => AV.d (int z)) hk) ?_
   refine CW_skip ?_
   refine CW_seq ?_
   refine CW_seq ?_
   refine CW_region ?_
   refine OW_run' hE.ok 2 rfl ?_
   refine OW_end rfl ?_
   refine CW_block ?_
   refine CW_seq ?_
   refine CW_region ?_
   refine OW_run' hE.ok 2 rfl ?_
   refine OW_end rfl ?_
   refine CW_cond _ rfl (fun h7 => ?_) (fun h7 => ?_)
   ·
    have a6 : (c.kind == 2) = true := h7
    refine CW_region ?_
    refine OW_run' hE.ok 4 rfl ?_
    refine OW_loc' hE (loc_loadRowA hE rfl rfl rfl (q := i * 2 + 1) rfl (by exact cX_fl ha)) rfl rfl rfl ?_
    refine OW_run' hE.ok 2 rfl ?_
    refine OW_run' hE.ok 1 rfl ?_
    refine OW_as' 68 (.d (int ((k + 1 : Nat) : Int))) (by show AV.d (.lit (.int .i64 (IntKind.i64.wrap ((k : Int) + 1)))) = _; rw [wrap_succ (by omega)]; rfl) ?_
    refine OW_callM' hE (tr [(7, 70)]) (delF t.fields k hkl (by omega)) rfl rfl rfl rfl rfl ⟨rfl, trivial⟩ rfl rfl ?_
    refine OW.le (show LE _ _ ⟨J, (sset (sset noSlots 61 (.ptr 50 (i * 2))) 69 (.row 70)), (hset (hset (hset noHeap 50 (some (.rowA 72 2 nn (cX a b t.name .any)))) 70 (some (.row 69 2 ((t.fields.eraseIdx k).map encF)))) 99 (some (.ghost [.row 50] V)))⟩ from LE_sh (slh_set (v := .row 70) (slh_set (v := .ptr 50 (i * 2)) (slh_no _ _) (by rfl) rfl) (by rfl) rfl) (hlh_set (hlh_set (hlh_set (hlh_no _ _) (by exact congrArg (fun z => some (Ent.rowA 72 2 nn z)) (cX_unP a b t.name _ _)) (by exact cX_in rfl)) rfl rfl) rfl rfl)) ?_
    refine OW_run' hE.ok 2 rfl ?_
    refine OW_storeRowA' hE rfl rfl rfl rfl rfl (q := i * 2 + 1) rfl rfl rfl rfl rfl rfl (by rw [cX_len]; show i * 2 + 1 + 1 ≤ _; omega) (cs' := cX a b t.name (.row 70)) (cX_over ha) ?_
    refine OW_end rfl ?_
    refine CW_seq ?_
    refine CW_region ?_
    refine OW_run' hE.ok 1 rfl ?_
    refine OW_end rfl ?_
    rw [ch_drop a1 b1 hk a6]
    exact CW_ret ⟨.inr rfl, rfl, ⟨_, rfl, AVle.refl _⟩, ⟨rfl, rfl, trivial⟩, rfl⟩
   ·
    have a6 : (c.kind == 2) = false := h7
    refine CW_seq ?_
    refine CW_region ?_
    refine OW_run' hE.ok 2 rfl ?_
    refine OW_end rfl ?_
    refine CW_cond _ rfl (fun h8 => ?_) (fun h8 => ?_)
    ·
     have a7 : (c.kind == 3) = true := h8
     refine CW_seq ?_
     refine CW_seq ?_
     refine CW_region ?_
     refine OW_run' hE.ok 2 rfl ?_
     refine OW_call' hE (nameOk c.to) rfl rfl rfl rfl rfl rfl rfl ?_
     refine OW_run' hE.ok 1 rfl ?_
     refine OW_end rfl ?_
     refine CW_cond _ rfl (fun h9 => ?_) (fun h9 => ?_)
     ·
      have a8 : (!isName c.to) = true := h9
      refine CW_seq ?_
      refine CW_region ?_
      refine OW_run' hE.ok 2 rfl ?_
      refine OW_end rfl ?_
      rw [ch_r1 a1 b1 a6 a7 a8]
      exact CW_ret ⟨.inr rfl, rfl, ⟨_, rfl, AVle.refl _⟩, ⟨rfl, rfl, trivial⟩, rfl⟩
     ·
      have a8 : (!isName c.to) = false := h9
      refine CW_skip ?_
      refine CW_seq ?_
      refine CW_seq ?_
      refine CW_drawn' hE 5 (by decide +kernel) ?_
      refine HW_run hE 2 rfl rfl ?_
      refine HW_loc hE (loc_loadRowA hE rfl rfl rfl (q := i * 2) rfl (by exact cX_ty ha)) rfl rfl rfl rfl ?_
      refine HW_run hE 2 rfl rfl ?_
      refine HW_end ?_
      refine OW_callLend' hE (LE_freeze 70 24 rfl (by rw [List.length_map]; exact hfl)) (fieldOk t c.to) rfl rfl rfl rfl rfl rfl ?_
      refine OW_run' hE.ok 1 rfl ?_
      refine OW_end rfl ?_
      refine CW_cond _ rfl (fun h10 => ?_) (fun h10 => ?_)
      ·
       have a9 : decide (fieldAt t c.to ≥ 0) = true := h10
       refine CW_seq ?_
       refine CW_region ?_
       refine OW_run' hE.ok 2 rfl ?_
       refine OW_end rfl ?_
       rw [ch_r2 a1 b1 a6 a7 a8 a9]
       exact CW_ret ⟨.inr rfl, rfl, ⟨_, rfl, AVle.refl _⟩, ⟨rfl, rfl, trivial⟩, rfl⟩
      ·
       have a9 : decide (fieldAt t c.to ≥ 0) = false := h10
       refine CW_skip ?_
       refine CW_drawn' hE 7 (by decide +kernel) ?_
       refine HW_run hE 3 rfl rfl ?_
       refine HW_loc hE (loc_loadRowA hE rfl rfl rfl (q := i * 2 + 1) rfl (by exact cX_fl ha)) rfl rfl rfl rfl ?_
       refine HW_run hE 3 rfl rfl ?_
       refine HW_end ?_
       refine OW_loc' hE (loc_idxRow hE rfl rfl rfl rfl rfl (j := k) rfl (by rw [List.length_map]; exact hkl)) rfl rfl rfl ?_
       refine OW_run' hE.ok 1 rfl ?_
       refine OW_storeRow' hE rfl rfl rfl rfl rfl (j := k) (off := 0) rfl rfl rfl (x := encF f) (by simp [hf]) (y := [str c.to]) rfl rfl rfl (by show 0 + 1 ≤ 2; omega) (xs' := (t.fields.set k ⟨c.to, f.kind⟩).map encF) (by rw [List.map_set]; rfl) ?_
       refine OW_end rfl ?_
       refine CW_seq ?_
       refine CW_region ?_
       refine OW_run' hE.ok 1 rfl ?_
       refine OW_end rfl ?_
       rw [ch_r3 a1 b1 a6 a7 a8 a9 hk hf]
       exact CW_ret ⟨.inr rfl, rfl, ⟨_, rfl, AVle.refl _⟩, ⟨rfl, rfl, trivial⟩, rfl⟩
    ·
     have a7 : (c.kind == 3) = false := h8
     refine CW_seq ?_
     refine CW_region ?_
     refine OW_run' hE.ok 2 rfl ?_
     refine OW_end rfl ?_
     refine CW_cond _ rfl (fun h11 => ?_) (fun h11 => ?_)
     ·
      have a10 : (c.kind == 4) = true := h11
      refine CW_seq ?_
      refine CW_seq ?_
      refine CW_region ?_
      refine OW_run' hE.ok 3 rfl ?_
      refine OW_loc' hE (loc_loadRowA hE rfl rfl rfl (q := i * 2 + 1) rfl (by exact cX_fl ha)) rfl rfl rfl ?_
      refine OW_run' hE.ok 1 rfl ?_
      refine OW_loc' hE (loc_idxRow hE rfl rfl rfl rfl rfl (j := k) rfl (by rw [List.length_map]; exact hkl)) rfl rfl rfl ?_
      refine OW_run' hE.ok 1 rfl ?_
      refine OW_loc' hE (loc_loadRow hE rfl rfl rfl (j := k) (off := 1) rfl rfl (x := encF f) (by simp [hf]) (by show 1 ≤ 2; omega) rfl) rfl rfl rfl ?_
      refine OW_run' hE.ok 1 rfl ?_
      refine OW_end rfl ?_
      refine CW_cond _ rfl (fun h12 => ?_) (fun h12 => ?_)
      ·
       have a11 : (f.kind != 3) = true := h12
       refine CW_seq ?_
       refine CW_region ?_
       refine OW_run' hE.ok 2 rfl ?_
       refine OW_end rfl ?_
       rw [ch_w1 a1 b1 a6 a7 a10 hk hf a11]
       exact CW_ret ⟨.inr rfl, rfl, ⟨_, rfl, AVle.refl _⟩, ⟨rfl, rfl, trivial⟩, rfl⟩
      ·
       have a11 : (f.kind != 3) = false := h12
       refine CW_skip ?_
       refine CW_region ?_
       refine OW_run' hE.ok 3 rfl ?_
       refine OW_loc' hE (loc_loadRowA hE rfl rfl rfl (q := i * 2 + 1) rfl (by exact cX_fl ha)) rfl rfl rfl ?_
       refine OW_run' hE.ok 1 rfl ?_
       refine OW_loc' hE (loc_idxRow hE rfl rfl rfl rfl rfl (j := k) rfl (by rw [List.length_map]; exact hkl)) rfl rfl rfl ?_
       refine OW_run' hE.ok 1 rfl ?_
       refine OW_storeRow' hE rfl rfl rfl rfl rfl (j := k) (off := 1) rfl rfl rfl (x := encF f) (by simp [hf]) (y := [int 1]) rfl rfl rfl (by show 1 + 1 ≤ 2; omega) (xs' := (t.fields.set k ⟨f.name, 1⟩).map encF) (by rw [List.map_set]; rfl) ?_
       refine OW_end rfl ?_
       refine CW_seq ?_
       refine CW_region ?_
       refine OW_run' hE.ok 1 rfl ?_
       refine OW_end rfl ?_
       rw [ch_w2 a1 b1 a6 a7 a10 hk hf a11]
       exact CW_ret ⟨.inr rfl, rfl, ⟨_, rfl, AVle.refl _⟩, ⟨rfl, rfl, trivial⟩, rfl⟩
     ·
      have a10 : (c.kind == 4) = false := h11
      refine CW_skip ?_
      refine CW_seq ?_
      refine CW_region ?_
      refine OW_run' hE.ok 1 rfl ?_
      refine OW_end rfl ?_
      rw [ch_0 a1 b1 a6 a7 a10]
      exact CW_ret ⟨.inr rfl, rfl, ⟨_, rfl, AVle.refl _⟩, ⟨rfl, rfl, trivial⟩, rfl⟩
end Go.Proofs.YtchpllgeahnmmaaDoor
