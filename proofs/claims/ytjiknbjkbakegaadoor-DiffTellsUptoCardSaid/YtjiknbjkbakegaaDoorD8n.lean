/- Parts of an abstract logic over the kit's walks, and walks in it: D8n. -/
import Derived.Test.YtjiknbjkbakegaaDoorD8t
import Derived.Test.YtjiknbjkbakegaaDoorBa
import Derived.WalkKit
import Derived.WalkSpells
import Derived.WalkLawsBesides
/- strconv.Itoa at 2. -/
namespace Go.Proofs.YtjiknbjkbakegaaDoor
open Go Go.AL Go.RowKit
theorem small2 (w : World) : Calls Tryd.prog 56 #[.int .i64 2] w fun e w' => e = .returned (.string ⟨#[50]⟩) ∧ w' = w := by
  go_enter Tryd.func56, Tryd.ntmps56
  go_wp2
  go_ret
  exact ⟨rfl, rfl⟩
theorem smallOk2 : Does Tryd.prog 56 [.d (int 2)] noHeap (.d (str ⟨#[50]⟩)) := by
  refine ⟨⟨Tryd.f56, Tryd.func56, by kernel_rfl, by kernel_rfl⟩, fun n Z w vs hZ hv => ?_⟩
  simp only [RAs] at hv
  obtain ⟨v, t, rfl, h1, rfl⟩ := hv
  obtain ⟨rfl, _⟩ := RA_lit.1 h1
  refine (callsIn_wide.2 (small2 w)).mono ?_
  rintro e w' ⟨rfl, rfl⟩
  exact ⟨_, noι, rfl, Grew.refl _, RA_lit_mk (by show (1 : Nat) ≤ _; omega), ⟨fun k e hk => (by cases hk), fun k b hk => (by simp [dom, noHeap] at hk), fun k k' b hk => by simp [dom, noHeap] at hk⟩⟩
end Go.Proofs.YtjiknbjkbakegaaDoor
