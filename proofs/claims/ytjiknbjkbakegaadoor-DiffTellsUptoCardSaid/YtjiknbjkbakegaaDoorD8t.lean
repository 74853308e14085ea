/- Parts of an abstract logic over the kit's walks, and walks in it: D8t. -/
import Derived.Test.YtjiknbjkbakegaaDoorAb
import Derived.Test.YtjiknbjkbakegaaDoorProg
namespace Go.Proofs.YtjiknbjkbakegaaDoor
open Go.AL
def Tl : List (Nat × TI) := [
  (2, ⟨(.int .i64), 1, 8, [.int .i64 0]⟩),
  (3, ⟨(.int .i64), 1, 8, [.int .i64 0]⟩),
  (4, ⟨.bool, 1, 1, [.bool false]⟩),
  (5, ⟨(.int .u8), 1, 1, [.int .u8 0]⟩),
  (9, ⟨.str, 1, 16, [.string ⟨#[]⟩]⟩),
  (22, ⟨(.slice 43), 1, 24, [.slice none 0 0]⟩),
  (24, ⟨(.struct [(22, 0), (3, 1), (9, 2), (4, 3)]), 4, 56, [.slice none 0 0, .int .i64 0, .string ⟨#[]⟩, .bool false]⟩),
  (26, ⟨(.struct [(3, 0), (3, 1)]), 2, 16, [.int .i64 0, .int .i64 0]⟩),
  (30, ⟨(.slice 26), 1, 24, [.slice none 0 0]⟩),
  (36, ⟨(.slice 9), 1, 24, [.slice none 0 0]⟩),
  (38, ⟨(.struct [(3, 0), (2, 1), (9, 2)]), 3, 32, [.int .i64 0, .int .i64 0, .string ⟨#[]⟩]⟩),
  (39, ⟨(.slice 41), 1, 24, [.slice none 0 0]⟩),
  (41, ⟨(.struct [(3, 0), (38, 1), (9, 4), (9, 5), (39, 6)]), 7, 96, [.int .i64 0, .int .i64 0, .int .i64 0, .string ⟨#[]⟩, .string ⟨#[]⟩, .string ⟨#[]⟩, .slice none 0 0]⟩),
  (43, ⟨(.struct [(9, 0), (36, 1), (4, 2), (4, 3), (41, 4)]), 11, 144, [.string ⟨#[]⟩, .slice none 0 0, .bool false, .bool false, .int .i64 0, .int .i64 0, .int .i64 0, .string ⟨#[]⟩, .string ⟨#[]⟩, .string ⟨#[]⟩, .slice none 0 0]⟩),
  (44, ⟨.other, 1, 8, [.nilFunc]⟩),
  (45, ⟨.other, 1, 8, [.nilFunc]⟩),
  (53, ⟨(.array 9 9), 9, 144, [.string ⟨#[]⟩, .string ⟨#[]⟩, .string ⟨#[]⟩, .string ⟨#[]⟩, .string ⟨#[]⟩, .string ⟨#[]⟩, .string ⟨#[]⟩, .string ⟨#[]⟩, .string ⟨#[]⟩]⟩),
  (55, ⟨(.array 10 9), 10, 160, [.string ⟨#[]⟩, .string ⟨#[]⟩, .string ⟨#[]⟩, .string ⟨#[]⟩, .string ⟨#[]⟩, .string ⟨#[]⟩, .string ⟨#[]⟩, .string ⟨#[]⟩, .string ⟨#[]⟩, .string ⟨#[]⟩]⟩),
  (61, ⟨.other, 1, 8, [.nilFunc]⟩),
  (65, ⟨.other, 1, 8, [.nilFunc]⟩),
  (67, ⟨(.array 5 4), 5, 5, [.bool false, .bool false, .bool false, .bool false, .bool false]⟩),
  (69, ⟨(.int .u64), 1, 8, [.int .u64 0]⟩),
  (73, ⟨(.slice 5), 1, 24, [.slice none 0 0]⟩),
  (82, ⟨(.array 24 5), 24, 24, [.int .u8 0, .int .u8 0, .int .u8 0, .int .u8 0, .int .u8 0, .int .u8 0, .int .u8 0, .int .u8 0, .int .u8 0, .int .u8 0, .int .u8 0, .int .u8 0, .int .u8 0, .int .u8 0, .int .u8 0, .int .u8 0, .int .u8 0, .int .u8 0, .int .u8 0, .int .u8 0, .int .u8 0, .int .u8 0, .int .u8 0, .int .u8 0]⟩),
  (90, ⟨(.array 20 69), 20, 160, [.int .u64 0, .int .u64 0, .int .u64 0, .int .u64 0, .int .u64 0, .int .u64 0, .int .u64 0, .int .u64 0, .int .u64 0, .int .u64 0, .int .u64 0, .int .u64 0, .int .u64 0, .int .u64 0, .int .u64 0, .int .u64 0, .int .u64 0, .int .u64 0, .int .u64 0, .int .u64 0]⟩),
  (91, ⟨(.int .u32), 1, 4, [.int .u32 0]⟩),
  (92, ⟨(.array 65 5), 65, 65, [.int .u8 0, .int .u8 0, .int .u8 0, .int .u8 0, .int .u8 0, .int .u8 0, .int .u8 0, .int .u8 0, .int .u8 0, .int .u8 0, .int .u8 0, .int .u8 0, .int .u8 0, .int .u8 0, .int .u8 0, .int .u8 0, .int .u8 0, .int .u8 0, .int .u8 0, .int .u8 0, .int .u8 0, .int .u8 0, .int .u8 0, .int .u8 0, .int .u8 0, .int .u8 0, .int .u8 0, .int .u8 0, .int .u8 0, .int .u8 0, .int .u8 0, .int .u8 0, .int .u8 0, .int .u8 0, .int .u8 0, .int .u8 0, .int .u8 0, .int .u8 0, .int .u8 0, .int .u8 0, .int .u8 0, .int .u8 0, .int .u8 0, .int .u8 0, .int .u8 0, .int .u8 0, .int .u8 0, .int .u8 0, .int .u8 0, .int .u8 0, .int .u8 0, .int .u8 0, .int .u8 0, .int .u8 0, .int .u8 0, .int .u8 0, .int .u8 0, .int .u8 0, .int .u8 0, .int .u8 0, .int .u8 0, .int .u8 0, .int .u8 0, .int .u8 0, .int .u8 0]⟩),
  (93, ⟨(.int .u64), 1, 8, [.int .u64 0]⟩),
  (97, ⟨(.array 32 5), 32, 32, [.int .u8 0, .int .u8 0, .int .u8 0, .int .u8 0, .int .u8 0, .int .u8 0, .int .u8 0, .int .u8 0, .int .u8 0, .int .u8 0, .int .u8 0, .int .u8 0, .int .u8 0, .int .u8 0, .int .u8 0, .int .u8 0, .int .u8 0, .int .u8 0, .int .u8 0, .int .u8 0, .int .u8 0, .int .u8 0, .int .u8 0, .int .u8 0, .int .u8 0, .int .u8 0, .int .u8 0, .int .u8 0, .int .u8 0, .int .u8 0, .int .u8 0, .int .u8 0]⟩),
  (98, ⟨(.array 64 5), 64, 64, [.int .u8 0, .int .u8 0, .int .u8 0, .int .u8 0, .int .u8 0, .int .u8 0, .int .u8 0, .int .u8 0, .int .u8 0, .int .u8 0, .int .u8 0, .int .u8 0, .int .u8 0, .int .u8 0, .int .u8 0, .int .u8 0, .int .u8 0, .int .u8 0, .int .u8 0, .int .u8 0, .int .u8 0, .int .u8 0, .int .u8 0, .int .u8 0, .int .u8 0, .int .u8 0, .int .u8 0, .int .u8 0, .int .u8 0, .int .u8 0, .int .u8 0, .int .u8 0, .int .u8 0, .int .u8 0, .int .u8 0, .int .u8 0, .int .u8 0, .int .u8 0, .int .u8 0, .int .u8 0, .int .u8 0, .int .u8 0, .int .u8 0, .int .u8 0, .int .u8 0, .int .u8 0, .int .u8 0, .int .u8 0, .int .u8 0, .int .u8 0, .int .u8 0, .int .u8 0, .int .u8 0, .int .u8 0, .int .u8 0, .int .u8 0, .int .u8 0, .int .u8 0, .int .u8 0, .int .u8 0, .int .u8 0, .int .u8 0, .int .u8 0, .int .u8 0]⟩)]
noncomputable def T : Nat → Option TI := tableOf Tl
theorem T_ok : TOk Tryd.prog T := TOk_of (by decide +kernel)
theorem mixed : Tryd.prog.follows .mixedOrders = true := by decide +kernel
end Go.Proofs.YtjiknbjkbakegaaDoor
