/- Part of an abstract logic over the kit's walks, and walks in it: Tt. -/
import Derived.Test.YtdlikopmjhfalaaA8
import Derived.Test.YtdlikopmjhfalaaProg
namespace Go.Proofs.Ytdlikopmjhfalaa
open Go.AL
def Tl : List (Nat × TI) := [
  (2, ⟨(.int .i64), 1, 8, [.int .i64 0]⟩),
  (3, ⟨(.int .i64), 1, 8, [.int .i64 0]⟩),
  (4, ⟨.bool, 1, 1, [.bool false]⟩),
  (5, ⟨(.int .u8), 1, 1, [.int .u8 0]⟩),
  (9, ⟨.str, 1, 16, [.string ⟨#[]⟩]⟩),
  (20, ⟨.iface, 1, 16, [.nilIface]⟩),
  (23, ⟨(.slice 29), 1, 24, [.slice none 0 0]⟩),
  (25, ⟨(.struct [(23, 0)]), 1, 24, [.slice none 0 0]⟩),
  (26, ⟨(.slice 5), 1, 24, [.slice none 0 0]⟩),
  (27, ⟨(.slice 31), 1, 24, [.slice none 0 0]⟩),
  (29, ⟨(.struct [(9, 0), (27, 1)]), 2, 40, [.string ⟨#[]⟩, .slice none 0 0]⟩),
  (31, ⟨(.struct [(9, 0), (3, 1)]), 2, 24, [.string ⟨#[]⟩, .int .i64 0]⟩),
  (38, ⟨(.slice 42), 1, 24, [.slice none 0 0]⟩),
  (40, ⟨(.struct [(9, 0), (3, 1), (38, 2)]), 3, 48, [.string ⟨#[]⟩, .int .i64 0, .slice none 0 0]⟩),
  (42, ⟨(.struct [(3, 0), (2, 1), (9, 2)]), 3, 32, [.int .i64 0, .int .i64 0, .string ⟨#[]⟩]⟩),
  (44, ⟨.iface, 1, 16, [.nilIface]⟩),
  (45, ⟨(.int .i64), 1, 8, [.int .i64 0]⟩),
  (52, ⟨.other, 1, 8, [.nilFunc]⟩),
  (53, ⟨.other, 1, 8, [.nilFunc]⟩),
  (57, ⟨(.slice 9), 1, 24, [.slice none 0 0]⟩),
  (67, ⟨.other, 1, 8, [.nilFunc]⟩),
  (70, ⟨.other, 1, 8, [.nilFunc]⟩),
  (86, ⟨(.struct [(57, 0)]), 1, 24, [.slice none 0 0]⟩),
  (91, ⟨.other, 1, 8, [.nilFunc]⟩),
  (101, ⟨.iface, 1, 16, [.nilIface]⟩),
  (104, ⟨.iface, 1, 16, [.nilIface]⟩),
  (106, ⟨.iface, 1, 16, [.nilIface]⟩),
  (107, ⟨(.slice 44), 1, 24, [.slice none 0 0]⟩),
  (115, ⟨(.int .u64), 1, 8, [.int .u64 0]⟩)]
noncomputable def T : Nat → Option TI := tableOf Tl
theorem T_ok : TOk Try.prog T := TOk_of (by decide +kernel)
theorem mixed : Try.prog.follows .mixedOrders = true := by decide +kernel
end Go.Proofs.Ytdlikopmjhfalaa
