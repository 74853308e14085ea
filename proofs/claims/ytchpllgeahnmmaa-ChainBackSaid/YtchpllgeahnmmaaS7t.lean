/- Parts of an abstract logic over the kit's walks, and walks in it: S7t. -/
import Derived.Test.YtchpllgeahnmmaaAb
import Derived.Test.YtchpllgeahnmmaaProg
namespace Go.Proofs.Ytchpllgeahnmmaa
open Go.AL
def Tl : List (Nat × TI) := [
  (2, ⟨(.int .i64), 1, 8, [.int .i64 0]⟩),
  (3, ⟨(.int .i64), 1, 8, [.int .i64 0]⟩),
  (4, ⟨.bool, 1, 1, [.bool false]⟩),
  (5, ⟨(.int .u8), 1, 1, [.int .u8 0]⟩),
  (9, ⟨.str, 1, 16, [.string ⟨#[]⟩]⟩),
  (20, ⟨.iface, 1, 16, [.nilIface]⟩),
  (23, ⟨(.slice 29), 1, 24, [.slice none 0 0]⟩),
  (25, ⟨(.struct [(23, 0)]), 1, 24, [.slice none 0 0]⟩),
  (26, ⟨(.slice 5), 1, 24, [.slice none 0 0]⟩),
  (27, ⟨(.slice 31), 1, 24, [.slice none 0 0]⟩),
  (29, ⟨(.struct [(9, 0), (27, 1)]), 2, 40, [.string ⟨#[]⟩, .slice none 0 0]⟩),
  (31, ⟨(.struct [(9, 0), (3, 1)]), 2, 24, [.string ⟨#[]⟩, .int .i64 0]⟩),
  (35, ⟨(.struct [(3, 0), (2, 1), (9, 2)]), 3, 32, [.int .i64 0, .int .i64 0, .string ⟨#[]⟩]⟩),
  (37, ⟨(.struct [(3, 0), (9, 1), (9, 2), (9, 3), (35, 4)]), 7, 88, [.int .i64 0, .string ⟨#[]⟩, .string ⟨#[]⟩, .string ⟨#[]⟩, .int .i64 0, .int .i64 0, .string ⟨#[]⟩]⟩),
  (38, ⟨(.slice 35), 1, 24, [.slice none 0 0]⟩),
  (40, ⟨(.struct [(9, 0), (3, 1), (38, 2)]), 3, 48, [.string ⟨#[]⟩, .int .i64 0, .slice none 0 0]⟩),
  (42, ⟨.iface, 1, 16, [.nilIface]⟩),
  (58, ⟨(.ptr 93), 1, 8, [.pointer none]⟩),
  (63, ⟨(.int .i64), 1, 8, [.int .i64 0]⟩),
  (68, ⟨(.slice 9), 1, 24, [.slice none 0 0]⟩),
  (72, ⟨.other, 1, 8, [.nilFunc]⟩),
  (80, ⟨(.ptr 29), 1, 8, [.pointer none]⟩),
  (81, ⟨.other, 1, 8, [.nilFunc]⟩),
  (89, ⟨(.slice 37), 1, 24, [.slice none 0 0]⟩),
  (91, ⟨(.slice 25), 1, 24, [.slice none 0 0]⟩),
  (93, ⟨(.struct [(91, 0), (89, 1)]), 2, 48, [.slice none 0 0, .slice none 0 0]⟩),
  (107, ⟨.other, 1, 8, [.nilFunc]⟩),
  (109, ⟨.other, 1, 8, [.nilFunc]⟩),
  (117, ⟨(.struct [(68, 0)]), 1, 24, [.slice none 0 0]⟩),
  (133, ⟨.iface, 1, 16, [.nilIface]⟩),
  (136, ⟨.iface, 1, 16, [.nilIface]⟩),
  (138, ⟨.iface, 1, 16, [.nilIface]⟩),
  (139, ⟨(.slice 42), 1, 24, [.slice none 0 0]⟩)]
noncomputable def T : Nat → Option TI := tableOf Tl
theorem T_ok : TOk Try.prog T := TOk_of (by decide +kernel)
theorem mixed : Try.prog.follows .mixedOrders = true := by decide +kernel
end Go.Proofs.Ytchpllgeahnmmaa
