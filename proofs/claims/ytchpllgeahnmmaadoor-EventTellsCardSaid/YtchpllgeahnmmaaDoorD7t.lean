/- Parts of an abstract logic over the kit's walks, and walks in it: D7t. -/
import Derived.Test.YtchpllgeahnmmaaDoorAb
import Derived.Test.YtchpllgeahnmmaaDoorProg
namespace Go.Proofs.YtchpllgeahnmmaaDoor
open Go.AL
def Tl : List (Nat × TI) := [
  (2, ⟨(.int .i64), 1, 8, [.int .i64 0]⟩),
  (3, ⟨(.int .i64), 1, 8, [.int .i64 0]⟩),
  (4, ⟨.bool, 1, 1, [.bool false]⟩),
  (5, ⟨(.int .u8), 1, 1, [.int .u8 0]⟩),
  (9, ⟨.str, 1, 16, [.string ⟨#[]⟩]⟩),
  (17, ⟨(.ptr 187), 1, 8, [.pointer none]⟩),
  (20, ⟨.iface, 1, 16, [.nilIface]⟩),
  (22, ⟨(.slice 72), 1, 24, [.slice none 0 0]⟩),
  (24, ⟨(.struct [(22, 0)]), 1, 24, [.slice none 0 0]⟩),
  (25, ⟨(.slice 31), 1, 24, [.slice none 0 0]⟩),
  (27, ⟨(.struct [(9, 0), (3, 1), (25, 2)]), 3, 48, [.string ⟨#[]⟩, .int .i64 0, .slice none 0 0]⟩),
  (31, ⟨(.struct [(3, 0), (2, 1), (9, 2)]), 3, 32, [.int .i64 0, .int .i64 0, .string ⟨#[]⟩]⟩),
  (36, ⟨.iface, 1, 16, [.nilIface]⟩),
  (43, ⟨(.struct [(3, 0), (9, 1), (9, 2), (9, 3), (31, 4)]), 7, 88, [.int .i64 0, .string ⟨#[]⟩, .string ⟨#[]⟩, .string ⟨#[]⟩, .int .i64 0, .int .i64 0, .string ⟨#[]⟩]⟩),
  (53, ⟨(.slice 43), 1, 24, [.slice none 0 0]⟩),
  (54, ⟨(.ptr 102), 1, 8, [.pointer none]⟩),
  (57, ⟨(.ptr 107), 1, 8, [.pointer none]⟩),
  (69, ⟨(.struct [(9, 0), (3, 1)]), 2, 24, [.string ⟨#[]⟩, .int .i64 0]⟩),
  (70, ⟨(.slice 69), 1, 24, [.slice none 0 0]⟩),
  (72, ⟨(.struct [(9, 0), (70, 1)]), 2, 40, [.string ⟨#[]⟩, .slice none 0 0]⟩),
  (74, ⟨(.int .i64), 1, 8, [.int .i64 0]⟩),
  (80, ⟨(.ptr 74), 1, 8, [.pointer none]⟩),
  (82, ⟨.other, 1, 8, [.nilFunc]⟩),
  (87, ⟨.other, 1, 8, [.nilFunc]⟩),
  (92, ⟨.other, 1, 8, [.nilFunc]⟩),
  (95, ⟨(.ptr 72), 1, 8, [.pointer none]⟩),
  (100, ⟨(.slice 24), 1, 24, [.slice none 0 0]⟩),
  (102, ⟨(.struct [(100, 0), (53, 1)]), 2, 48, [.slice none 0 0, .slice none 0 0]⟩),
  (107, ⟨(.struct [(100, 0), (53, 1)]), 2, 48, [.slice none 0 0, .slice none 0 0]⟩),
  (111, ⟨.iface, 1, 16, [.nilIface]⟩),
  (115, ⟨.other, 1, 8, [.nilFunc]⟩),
  (117, ⟨(.int .u64), 1, 8, [.int .u64 0]⟩),
  (119, ⟨(.struct [(17, 0), (116, 1), (117, 2)]), 3, 24, [.pointer none, .pointer none, .int .u64 0]⟩),
  (122, ⟨(.int .u8), 1, 1, [.int .u8 0]⟩),
  (139, ⟨(.slice 9), 1, 24, [.slice none 0 0]⟩),
  (145, ⟨.iface, 1, 16, [.nilIface]⟩),
  (148, ⟨.iface, 1, 16, [.nilIface]⟩),
  (150, ⟨.iface, 1, 16, [.nilIface]⟩),
  (151, ⟨(.slice 36), 1, 24, [.slice none 0 0]⟩),
  (155, ⟨.iface, 1, 16, [.nilIface]⟩),
  (168, ⟨(.struct [(139, 0)]), 1, 24, [.slice none 0 0]⟩)]
noncomputable def T : Nat → Option TI := tableOf Tl
theorem T_ok : TOk Tryd.prog T := TOk_of (by decide +kernel)
theorem mixed : Tryd.prog.follows .mixedOrders = true := by decide +kernel
end Go.Proofs.YtchpllgeahnmmaaDoor
