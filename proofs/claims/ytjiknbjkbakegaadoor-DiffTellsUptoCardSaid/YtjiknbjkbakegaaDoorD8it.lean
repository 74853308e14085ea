/- Parts of an abstract logic over the kit's walks, and walks in it: D8it. -/
import Derived.Test.YtjiknbjkbakegaaDoorD8t
import Derived.Test.YtjiknbjkbakegaaDoorDec
import Derived.Shelf.Strconv.Itoa3
import Derived.Shelf.Lay
import Derived.Ground.NamesProg
import Derived.Lib.AppendIntMem
/- strconv.Itoa of every int, in worlds where the library's table stands. -/
namespace Go.Proofs.YtjiknbjkbakegaaDoor
open Go Go.AL Go.RowKit Go.Shelf Go.Proofs
shelf_lay LaysM.n171 Nm 171 at Tryd as itoaLays
def Tab (w : World) : Prop := Lib.TabIs Tryd.prog w "internal/strconv.uint64pow10" .u64 Lib.pow10Tab
theorem tab_grew (w w' : World) (h : Tab w) (hg : Grew w w') : Tab w' := Lib.tabBelow_of_tabIs h w' hg.below
theorem grew_grow (w : World) (k : Nat) (os : Array Obj) : Grew w (Go.Sort.grow (w.drewN k) os) :=
  ⟨rfl, rfl, rfl, by simp [Go.Sort.grow, World.drewN], fun b hb => by simp [Go.Sort.grow, World.drewN, Array.getElem?_append_left hb]⟩
theorem itoaW (z : Int) : DoesW Tryd.prog Tab 26 [.d (int z)] (.d (str ⟨(Lib.itoa z).toArray⟩)) := by
  refine ⟨⟨Tryd.f26, Tryd.func26, by kernel_rfl, by kernel_rfl⟩, fun n Z w vs hZ hT hv => ?_⟩
  simp only [RAs] at hv
  obtain ⟨v, t, rfl, h1, rfl⟩ := hv
  obtain ⟨rfl, hr1, hr2⟩ := RA_lit.1 h1
  have e1 : IntKind.i64.min = -9223372036854775808 := rfl
  have e2 : IntKind.i64.max = 9223372036854775807 := rfl
  refine (callsIn_wide.2 (Any.strconv_Itoa itoaLays z (by omega) (by omega) w hT)).mono ?_
  rintro e w' ⟨rfl, k, os, rfl⟩
  have := itoa_few (z := z) (by omega)
  exact ⟨_, noι, rfl, grew_grow w k os, RA_lit_mk (by show (Lib.itoa z).toArray.size ≤ _; rw [List.size_toArray]; omega), ⟨fun k e hk => (by cases hk), fun k b hk => (by simp [dom, noHeap] at hk), fun k k' b hk => (by simp [dom, noHeap] at hk)⟩⟩
end Go.Proofs.YtjiknbjkbakegaaDoor
