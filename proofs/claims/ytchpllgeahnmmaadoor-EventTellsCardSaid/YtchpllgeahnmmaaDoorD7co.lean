/- Parts of an abstract logic over the kit's walks, and walks in it: D7co. -/
import Derived.Test.YtchpllgeahnmmaaDoorD7as
import Derived.Test.YtchpllgeahnmmaaDoorBa
namespace Go.Proofs.YtchpllgeahnmmaaDoor
open Go Go.AL Go.RowKit Go.Extern.Stop Go.Stop Go.Extern
set_option linter.unusedVariables false
def Tab (w : World) : Prop := w.cell? ⟨0, 0, none⟩ = some (.iface 143 (.agg #[.pointer (some ⟨1, 36, none⟩)]))
theorem tab_lt {w : World} (h : Tab w) : 0 < w.heap.size := by
  rcases Nat.eq_zero_or_pos w.heap.size with h0 | h1
  · simp [Tab, World.cell?, h0] at h
  · exact h1
theorem tab_grew : ∀ w w', Tab w → Grew w w' → Tab w' := fun w w' h hg => by
  unfold Tab at *
  rw [World.cell?_of_block (w := w) (a := ⟨0, 0, none⟩) (hg.block 0 (tab_lt h))]; exact h
theorem code11_nil (w : World) : Calls Tryd.prog 11 #[.nilIface] w fun e w' => e = .returned (.int .i64 0) ∧ w' = w.alloc (.cells #[.int .i64 0] 74) := by
  go_enter Tryd.func11, Tryd.ntmps11
  go_wp2
  go_ret
  exact ⟨rfl, rfl⟩
theorem code11_hit (a : Int) (w : World) (hg : Tab w) : Calls Tryd.prog 11 #[.iface 74 (.int .i64 a)] w fun e w' => e = .returned (.int .i64 a) ∧ Grew w w' := by
  have hlt := tab_lt hg
  have hgA : (w.alloc (.cells #[.int .i64 0] 74)).cell? ⟨0, 0, none⟩ = some (.iface 143 (.agg #[.pointer (some ⟨1, 36, none⟩)])) := by
    rw [World.cell?_alloc_lt _ _ ⟨0, 0, none⟩ hlt]; exact hg
  have htA : (w.alloc (.cells #[.int .i64 0] 74)).cell? ⟨w.heap.size, 0, none⟩ = some (.int .i64 0) := by simp
  have hfA : (w.alloc (.cells #[.int .i64 0] 74)).frozen? ⟨w.heap.size, 0, none⟩ = false := by simp
  go_enter Tryd.func11, Tryd.ntmps11
  go_wp2_with (first | (go_at_call 41; refine (as_hit _ _ (.int .i64 0) _ hgA htA hfA).mono ?_; rintro e w' ⟨rfl, rfl⟩))
  go_ret
  exact ⟨rfl, ((((Grew.alloc _ _).trans (Grew.alloc _ _)).trans (Grew.alloc _ _)).trans (Grew.alloc _ _)).trans (Grew.alloc _ _)⟩
theorem code11Ok (z : Int) : DoesW Tryd.prog Tab 11 [.d (errC 74 z)] (.d (int z)) := by
  refine ⟨⟨Tryd.f11, Tryd.func11, by kernel_rfl, by kernel_rfl⟩, fun n Z w vs hZ hT hv => ?_⟩
  have own : ∀ w', Go.AL.Own Z w.heap.size noHeap noι w' := fun w' => ⟨fun k e hk => (by cases hk), fun k b hk => (by simp [dom, noHeap] at hk), fun k k' b hk => by simp [dom, noHeap] at hk⟩
  simp only [RAs] at hv
  obtain ⟨v, t, rfl, h1, rfl⟩ := hv
  by_cases hz : z = 0
  · subst hz
    have h1 : RA (cx Z noHeap noι w) (.d (.lit .nilIface)) v := h1
    obtain ⟨rfl, _⟩ := RA_lit.1 h1
    refine (callsIn_wide.2 (code11_nil w)).mono ?_
    rintro e w' ⟨rfl, rfl⟩
    exact ⟨_, noι, rfl, Grew.alloc _ _, RA_lit_mk (by simp only [okLit]; constructor <;> decide), own _⟩
  · rw [show errC 74 z = .iface 74 (int z) by unfold errC; rw [show (z == 0) = false by simpa using hz]; rfl] at h1
    simp only [RA, RD] at h1
    obtain ⟨u, rfl, h2⟩ := h1
    simp only [int, RD] at h2
    obtain ⟨rfl, hok⟩ := h2
    refine (callsIn_wide.2 (code11_hit z w hT)).mono ?_
    rintro e w' ⟨rfl, hgr⟩
    exact ⟨_, noι, rfl, hgr, RA_lit_mk hok, own _⟩
theorem code20_nil (w : World) : Calls Tryd.prog 20 #[.nilIface] w fun e w' => e = .returned (.int .i64 0) ∧ w' = w.alloc (.cells #[.int .i64 0] 74) := by
  go_enter Tryd.func20, Tryd.ntmps20
  go_wp2
  go_ret
  exact ⟨rfl, rfl⟩
theorem code20_hit (a : Int) (w : World) (hg : Tab w) : Calls Tryd.prog 20 #[.iface 74 (.int .i64 a)] w fun e w' => e = .returned (.int .i64 a) ∧ Grew w w' := by
  have hlt := tab_lt hg
  have hgA : (w.alloc (.cells #[.int .i64 0] 74)).cell? ⟨0, 0, none⟩ = some (.iface 143 (.agg #[.pointer (some ⟨1, 36, none⟩)])) := by
    rw [World.cell?_alloc_lt _ _ ⟨0, 0, none⟩ hlt]; exact hg
  have htA : (w.alloc (.cells #[.int .i64 0] 74)).cell? ⟨w.heap.size, 0, none⟩ = some (.int .i64 0) := by simp
  have hfA : (w.alloc (.cells #[.int .i64 0] 74)).frozen? ⟨w.heap.size, 0, none⟩ = false := by simp
  go_enter Tryd.func20, Tryd.ntmps20
  go_wp2_with (first | (go_at_call 41; refine (as_hit _ _ (.int .i64 0) _ hgA htA hfA).mono ?_; rintro e w' ⟨rfl, rfl⟩))
  go_ret
  exact ⟨rfl, ((((Grew.alloc _ _).trans (Grew.alloc _ _)).trans (Grew.alloc _ _)).trans (Grew.alloc _ _)).trans (Grew.alloc _ _)⟩
theorem code20Ok (z : Int) : DoesW Tryd.prog Tab 20 [.d (errC 74 z)] (.d (int z)) := by
  refine ⟨⟨Tryd.f20, Tryd.func20, by kernel_rfl, by kernel_rfl⟩, fun n Z w vs hZ hT hv => ?_⟩
  have own : ∀ w', Go.AL.Own Z w.heap.size noHeap noι w' := fun w' => ⟨fun k e hk => (by cases hk), fun k b hk => (by simp [dom, noHeap] at hk), fun k k' b hk => by simp [dom, noHeap] at hk⟩
  simp only [RAs] at hv
  obtain ⟨v, t, rfl, h1, rfl⟩ := hv
  by_cases hz : z = 0
  · subst hz
    have h1 : RA (cx Z noHeap noι w) (.d (.lit .nilIface)) v := h1
    obtain ⟨rfl, _⟩ := RA_lit.1 h1
    refine (callsIn_wide.2 (code20_nil w)).mono ?_
    rintro e w' ⟨rfl, rfl⟩
    exact ⟨_, noι, rfl, Grew.alloc _ _, RA_lit_mk (by simp only [okLit]; constructor <;> decide), own _⟩
  · rw [show errC 74 z = .iface 74 (int z) by unfold errC; rw [show (z == 0) = false by simpa using hz]; rfl] at h1
    simp only [RA, RD] at h1
    obtain ⟨u, rfl, h2⟩ := h1
    simp only [int, RD] at h2
    obtain ⟨rfl, hok⟩ := h2
    refine (callsIn_wide.2 (code20_hit z w hT)).mono ?_
    rintro e w' ⟨rfl, hgr⟩
    exact ⟨_, noι, rfl, hgr, RA_lit_mk hok, own _⟩
theorem code29_nil (w : World) : Calls Tryd.prog 29 #[.nilIface] w fun e w' => e = .returned (.int .i64 0) ∧ w' = w.alloc (.cells #[.int .i64 0] 74) := by
  go_enter Tryd.func29, Tryd.ntmps29
  go_wp2
  go_ret
  exact ⟨rfl, rfl⟩
theorem code29_hit (a : Int) (w : World) (hg : Tab w) : Calls Tryd.prog 29 #[.iface 74 (.int .i64 a)] w fun e w' => e = .returned (.int .i64 a) ∧ Grew w w' := by
  have hlt := tab_lt hg
  have hgA : (w.alloc (.cells #[.int .i64 0] 74)).cell? ⟨0, 0, none⟩ = some (.iface 143 (.agg #[.pointer (some ⟨1, 36, none⟩)])) := by
    rw [World.cell?_alloc_lt _ _ ⟨0, 0, none⟩ hlt]; exact hg
  have htA : (w.alloc (.cells #[.int .i64 0] 74)).cell? ⟨w.heap.size, 0, none⟩ = some (.int .i64 0) := by simp
  have hfA : (w.alloc (.cells #[.int .i64 0] 74)).frozen? ⟨w.heap.size, 0, none⟩ = false := by simp
  go_enter Tryd.func29, Tryd.ntmps29
  go_wp2_with (first | (go_at_call 41; refine (as_hit _ _ (.int .i64 0) _ hgA htA hfA).mono ?_; rintro e w' ⟨rfl, rfl⟩))
  go_ret
  exact ⟨rfl, ((((Grew.alloc _ _).trans (Grew.alloc _ _)).trans (Grew.alloc _ _)).trans (Grew.alloc _ _)).trans (Grew.alloc _ _)⟩
theorem code29Ok (z : Int) : DoesW Tryd.prog Tab 29 [.d (errC 74 z)] (.d (int z)) := by
  refine ⟨⟨Tryd.f29, Tryd.func29, by kernel_rfl, by kernel_rfl⟩, fun n Z w vs hZ hT hv => ?_⟩
  have own : ∀ w', Go.AL.Own Z w.heap.size noHeap noι w' := fun w' => ⟨fun k e hk => (by cases hk), fun k b hk => (by simp [dom, noHeap] at hk), fun k k' b hk => by simp [dom, noHeap] at hk⟩
  simp only [RAs] at hv
  obtain ⟨v, t, rfl, h1, rfl⟩ := hv
  by_cases hz : z = 0
  · subst hz
    have h1 : RA (cx Z noHeap noι w) (.d (.lit .nilIface)) v := h1
    obtain ⟨rfl, _⟩ := RA_lit.1 h1
    refine (callsIn_wide.2 (code29_nil w)).mono ?_
    rintro e w' ⟨rfl, rfl⟩
    exact ⟨_, noι, rfl, Grew.alloc _ _, RA_lit_mk (by simp only [okLit]; constructor <;> decide), own _⟩
  · rw [show errC 74 z = .iface 74 (int z) by unfold errC; rw [show (z == 0) = false by simpa using hz]; rfl] at h1
    simp only [RA, RD] at h1
    obtain ⟨u, rfl, h2⟩ := h1
    simp only [int, RD] at h2
    obtain ⟨rfl, hok⟩ := h2
    refine (callsIn_wide.2 (code29_hit z w hT)).mono ?_
    rintro e w' ⟨rfl, hgr⟩
    exact ⟨_, noι, rfl, hgr, RA_lit_mk hok, own _⟩
end Go.Proofs.YtchpllgeahnmmaaDoor
