/- Parts of an abstract logic over the kit's walks, and walks in it: G7t. -/
import Derived.Test.YtchpllgeahnmmaaGreatDoorAb
import Derived.Test.YtchpllgeahnmmaaGreatDoorProg
namespace Go.Proofs.YtchpllgeahnmmaaGreatDoor
open Go.AL
def Tl : List (Nat × TI) := [
  (2, ⟨(.int .i64), 1, 8, [.int .i64 0]⟩),
  (3, ⟨(.int .i64), 1, 8, [.int .i64 0]⟩),
  (4, ⟨.bool, 1, 1, [.bool false]⟩),
  (5, ⟨(.int .u8), 1, 1, [.int .u8 0]⟩),
  (9, ⟨.str, 1, 16, [.string ⟨#[]⟩]⟩),
  (17, ⟨(.ptr 182), 1, 8, [.pointer none]⟩),
  (20, ⟨.iface, 1, 16, [.nilIface]⟩),
  (22, ⟨(.slice 66), 1, 24, [.slice none 0 0]⟩),
  (24, ⟨(.struct [(22, 0)]), 1, 24, [.slice none 0 0]⟩),
  (25, ⟨(.slice 42), 1, 24, [.slice none 0 0]⟩),
  (26, ⟨(.slice 40), 1, 24, [.slice none 0 0]⟩),
  (28, ⟨(.struct [(9, 0), (3, 1), (26, 2)]), 3, 48, [.string ⟨#[]⟩, .int .i64 0, .slice none 0 0]⟩),
  (31, ⟨(.ptr 73), 1, 8, [.pointer none]⟩),
  (33, ⟨.iface, 1, 16, [.nilIface]⟩),
  (36, ⟨(.ptr 49), 1, 8, [.pointer none]⟩),
  (40, ⟨(.struct [(3, 0), (2, 1), (9, 2)]), 3, 32, [.int .i64 0, .int .i64 0, .string ⟨#[]⟩]⟩),
  (42, ⟨(.struct [(3, 0), (9, 1), (9, 2), (9, 3), (40, 4)]), 7, 88, [.int .i64 0, .string ⟨#[]⟩, .string ⟨#[]⟩, .string ⟨#[]⟩, .int .i64 0, .int .i64 0, .string ⟨#[]⟩]⟩),
  (47, ⟨(.slice 24), 1, 24, [.slice none 0 0]⟩),
  (49, ⟨(.struct [(47, 0), (25, 1)]), 2, 48, [.slice none 0 0, .slice none 0 0]⟩),
  (63, ⟨(.struct [(9, 0), (3, 1)]), 2, 24, [.string ⟨#[]⟩, .int .i64 0]⟩),
  (64, ⟨(.slice 63), 1, 24, [.slice none 0 0]⟩),
  (66, ⟨(.struct [(9, 0), (64, 1)]), 2, 40, [.string ⟨#[]⟩, .slice none 0 0]⟩),
  (68, ⟨(.int .i64), 1, 8, [.int .i64 0]⟩),
  (73, ⟨(.struct [(47, 0), (25, 1)]), 2, 48, [.slice none 0 0, .slice none 0 0]⟩),
  (78, ⟨(.ptr 68), 1, 8, [.pointer none]⟩),
  (97, ⟨.iface, 1, 16, [.nilIface]⟩),
  (100, ⟨(.slice 9), 1, 24, [.slice none 0 0]⟩),
  (104, ⟨.other, 1, 8, [.nilFunc]⟩),
  (110, ⟨(.int .u64), 1, 8, [.int .u64 0]⟩),
  (112, ⟨(.struct [(17, 0), (109, 1), (110, 2)]), 3, 24, [.pointer none, .pointer none, .int .u64 0]⟩),
  (115, ⟨(.int .u8), 1, 1, [.int .u8 0]⟩),
  (122, ⟨(.ptr 66), 1, 8, [.pointer none]⟩),
  (125, ⟨.other, 1, 8, [.nilFunc]⟩),
  (132, ⟨.other, 1, 8, [.nilFunc]⟩),
  (137, ⟨.iface, 1, 16, [.nilIface]⟩),
  (140, ⟨.iface, 1, 16, [.nilIface]⟩),
  (142, ⟨.iface, 1, 16, [.nilIface]⟩),
  (143, ⟨(.slice 33), 1, 24, [.slice none 0 0]⟩),
  (152, ⟨(.struct [(100, 0)]), 1, 24, [.slice none 0 0]⟩),
  (156, ⟨.iface, 1, 16, [.nilIface]⟩),
  (196, ⟨(.ptr 33), 1, 8, [.pointer none]⟩)]
noncomputable def T : Nat → Option TI := tableOf Tl
theorem T_ok : TOk Tryz.prog T := TOk_of (by decide +kernel)
theorem mixed : Tryz.prog.follows .mixedOrders = true := by decide +kernel
end Go.Proofs.YtchpllgeahnmmaaGreatDoor
