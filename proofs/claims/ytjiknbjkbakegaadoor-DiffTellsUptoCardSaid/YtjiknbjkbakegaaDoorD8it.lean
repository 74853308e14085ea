/- Parts of an abstract logic over the kit's walks, and walks in it: D8it. -/
import Derived.Test.YtjiknbjkbakegaaDoorD8t
import Derived.Test.YtjiknbjkbakegaaDoorDec
import Derived.Shelf.Strconv.Itoa3
import Derived.Lib.AppendIntMem
/- strconv.Itoa of every int, in worlds where the library's table stands. -/
namespace Go.Proofs.YtjiknbjkbakegaaDoor
open Go Go.AL Go.RowKit Go.Shelf Go.Proofs
def itoaLays_ren : Go.Shelf.Ren := ⟨fun | 129 => 69 | 171 => 26 | 243 => 42 | 246 => 48 | 283 => 56 | 284 => 57 | 285 => 58 | 286 => 59 | 317 => 68 | 318 => 70 | 319 => 71 | 320 => 72 | 337 => 75 | 338 => 76 | n => n, fun | 37 => 73 | 46 => 93 | 51 => 91 | 53 => 69 | 171 => 82 | 173 => 85 | 212 => 90 | 213 => 92 | 232 => 97 | 233 => 98 | n => n, fun | 17 => 0 | 18 => 1 | 19 => 2 | n => n⟩
theorem itoaLays : LaysM.n171 Tryd.prog itoaLays_ren := {
  mixed := by kernel_rfl,
  f129 := Tryd.func69.trans (congrArg some (by kernel_rfl)),
  f171 := Tryd.func26.trans (congrArg some (by kernel_rfl)),
  f243 := Tryd.func42.trans (congrArg some (by kernel_rfl)),
  f246 := Tryd.func48.trans (congrArg some (by kernel_rfl)),
  f283 := Tryd.func56.trans (congrArg some (by kernel_rfl)),
  f284 := Tryd.func57.trans (congrArg some (by kernel_rfl)),
  f285 := Tryd.func58.trans (congrArg some (by kernel_rfl)),
  f286 := Tryd.func59.trans (congrArg some (by kernel_rfl)),
  f317 := Tryd.func68.trans (congrArg some (by kernel_rfl)),
  f318 := Tryd.func70.trans (congrArg some (by kernel_rfl)),
  f319 := Tryd.func71.trans (congrArg some (by kernel_rfl)),
  f320 := Tryd.func72.trans (congrArg some (by kernel_rfl)),
  f337 := Tryd.func75.trans (congrArg some (by kernel_rfl)),
  f338 := Tryd.func76.trans (congrArg some (by kernel_rfl)),
  t0 := Tryd.underlying0,
  a0 := Tryd.isAgg0,
  z0 := Tryd.sizeOf0,
  v0 := Tryd.zeroValue0,
  t2 := Tryd.underlying2,
  a2 := Tryd.isAgg2,
  z2 := Tryd.sizeOf2,
  v2 := Tryd.zeroValue2,
  t3 := Tryd.underlying3,
  a3 := Tryd.isAgg3,
  z3 := Tryd.sizeOf3,
  v3 := Tryd.zeroValue3,
  t4 := Tryd.underlying4,
  a4 := Tryd.isAgg4,
  z4 := Tryd.sizeOf4,
  v4 := Tryd.zeroValue4,
  t5 := Tryd.underlying5,
  a5 := Tryd.isAgg5,
  z5 := Tryd.sizeOf5,
  v5 := Tryd.zeroValue5,
  t9 := Tryd.underlying9,
  a9 := Tryd.isAgg9,
  z9 := Tryd.sizeOf9,
  v9 := Tryd.zeroValue9,
  t20 := Tryd.underlying20,
  a20 := Tryd.isAgg20,
  z20 := Tryd.sizeOf20,
  v20 := Tryd.zeroValue20,
  t37 := Tryd.underlying73,
  a37 := Tryd.isAgg73,
  z37 := Tryd.sizeOf73,
  v37 := Tryd.zeroValue73,
  t46 := Tryd.underlying93,
  a46 := Tryd.isAgg93,
  z46 := Tryd.sizeOf93,
  v46 := Tryd.zeroValue93,
  t51 := Tryd.underlying91,
  a51 := Tryd.isAgg91,
  z51 := Tryd.sizeOf91,
  v51 := Tryd.zeroValue91,
  t53 := Tryd.underlying69,
  a53 := Tryd.isAgg69,
  z53 := Tryd.sizeOf69,
  v53 := Tryd.zeroValue69,
  t171 := Tryd.underlying82,
  a171 := Tryd.isAgg82,
  z171 := Tryd.sizeOf82,
  v171 := Tryd.zeroValue82,
  t173 := Tryd.underlying85,
  a173 := Tryd.isAgg85,
  z173 := Tryd.sizeOf85,
  v173 := Tryd.zeroValue85,
  t212 := Tryd.underlying90,
  a212 := Tryd.isAgg90,
  z212 := Tryd.sizeOf90,
  v212 := Tryd.zeroValue90,
  t213 := Tryd.underlying92,
  a213 := Tryd.isAgg92,
  z213 := Tryd.sizeOf92,
  t232 := Tryd.underlying97,
  a232 := Tryd.isAgg97,
  z232 := Tryd.sizeOf97,
  v232 := Tryd.zeroValue97,
  t233 := Tryd.underlying98,
  a233 := Tryd.isAgg98,
  z233 := Tryd.sizeOf98,
  v233 := Tryd.zeroValue98,
  g17 := by kernel_rfl,
  g18 := by kernel_rfl,
  g19 := by kernel_rfl,
  i0 := by kernel_rfl,
  i2 := by kernel_rfl,
  i3 := by kernel_rfl,
  i4 := by kernel_rfl,
  i5 := by kernel_rfl,
  i9 := by kernel_rfl,
  i20 := by kernel_rfl,
  i37 := by kernel_rfl,
  i46 := by kernel_rfl,
  i51 := by kernel_rfl,
  i53 := by kernel_rfl,
  i171 := by kernel_rfl,
  i173 := by kernel_rfl,
  i212 := by kernel_rfl,
  i232 := by kernel_rfl,
  i233 := by kernel_rfl,
  m17 := by kernel_rfl,
  m18 := by kernel_rfl,
  m19 := by kernel_rfl }
def Tab (w : World) : Prop := Lib.TabIs Tryd.prog w "internal/strconv.uint64pow10" .u64 Lib.pow10Tab
theorem tab_grew (w w' : World) (h : Tab w) (hg : Grew w w') : Tab w' := Lib.tabBelow_of_tabIs h w' hg.below
theorem grew_grow (w : World) (k : Nat) (os : Array Obj) : Grew w (Go.Sort.grow (w.drewN k) os) :=
  ⟨rfl, rfl, rfl, by simp [Go.Sort.grow, World.drewN], Nat.le_add_right _ _, fun b hb => by simp [Go.Sort.grow, World.drewN, Array.getElem?_append_left hb]⟩
theorem itoaW (z : Int) : DoesW Tryd.prog Tab 26 [.d (int z)] (.d (str ⟨(Lib.itoa z).toArray⟩)) := by
  refine ⟨⟨Tryd.f26, Tryd.func26, by kernel_rfl, by kernel_rfl⟩, fun n Z w vs hZ hT hv => ?_⟩
  simp only [RAs] at hv
  obtain ⟨v, t, rfl, h1, rfl⟩ := hv
  obtain ⟨rfl, hr1, hr2⟩ := RA_lit.1 h1
  have e1 : IntKind.i64.min = -9223372036854775808 := rfl
  have e2 : IntKind.i64.max = 9223372036854775807 := rfl
  refine (callsIn_wide.2 (Any.strconv_Itoa itoaLays z (by omega) (by omega) w hT)).mono ?_
  rintro e w' ⟨rfl, k, os, rfl⟩
  have := itoa_few (z := z) (by omega)
  exact ⟨_, noι, rfl, grew_grow w k os, RA_lit_mk (by show (Lib.itoa z).toArray.size ≤ _; rw [List.size_toArray]; omega), ⟨fun k e hk => (by cases hk), fun k b hk => (by simp [dom, noHeap] at hk), fun k k' b hk => (by simp [dom, noHeap] at hk)⟩⟩
end Go.Proofs.YtjiknbjkbakegaaDoor
