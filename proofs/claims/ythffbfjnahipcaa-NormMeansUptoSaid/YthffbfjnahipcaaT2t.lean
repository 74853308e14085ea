/- Parts of an abstract logic over the kit's walks, and walks in it: T2t. -/
import Derived.Test.YthffbfjnahipcaaAb
import Derived.Test.YthffbfjnahipcaaProg
namespace Go.Proofs.Ythffbfjnahipcaa
open Go.AL
def Tl : List (Nat × TI) := [
  (2, ⟨(.int .i64), 1, 8, [.int .i64 0]⟩),
  (3, ⟨(.int .i64), 1, 8, [.int .i64 0]⟩),
  (4, ⟨.bool, 1, 1, [.bool false]⟩),
  (5, ⟨(.int .u8), 1, 1, [.int .u8 0]⟩),
  (9, ⟨.str, 1, 16, [.string ⟨#[]⟩]⟩),
  (24, ⟨(.struct [(3, 0), (2, 1), (9, 2)]), 3, 32, [.int .i64 0, .int .i64 0, .string ⟨#[]⟩]⟩),
  (25, ⟨(.slice 27), 1, 24, [.slice none 0 0]⟩),
  (27, ⟨(.struct [(3, 0), (24, 1), (9, 4), (9, 5), (25, 6)]), 7, 96, [.int .i64 0, .int .i64 0, .int .i64 0, .string ⟨#[]⟩, .string ⟨#[]⟩, .string ⟨#[]⟩, .slice none 0 0]⟩),
  (30, ⟨(.int .u64), 1, 8, [.int .u64 0]⟩),
  (31, ⟨.other, 1, 8, [.nilFunc]⟩),
  (35, ⟨(.slice 41), 1, 24, [.slice none 0 0]⟩),
  (37, ⟨(.struct [(35, 0), (3, 1), (9, 2), (4, 3)]), 4, 56, [.slice none 0 0, .int .i64 0, .string ⟨#[]⟩, .bool false]⟩),
  (38, ⟨(.slice 5), 1, 24, [.slice none 0 0]⟩),
  (39, ⟨(.slice 9), 1, 24, [.slice none 0 0]⟩),
  (41, ⟨(.struct [(9, 0), (39, 1), (4, 2), (4, 3), (27, 4)]), 11, 144, [.string ⟨#[]⟩, .slice none 0 0, .bool false, .bool false, .int .i64 0, .int .i64 0, .int .i64 0, .string ⟨#[]⟩, .string ⟨#[]⟩, .string ⟨#[]⟩, .slice none 0 0]⟩),
  (46, ⟨(.int .u16), 1, 2, [.int .u16 0]⟩),
  (48, ⟨.other, 1, 8, [.nilFunc]⟩),
  (49, ⟨.other, 1, 8, [.nilFunc]⟩),
  (53, ⟨(.slice 86), 1, 24, [.slice none 0 0]⟩),
  (55, ⟨(.struct [(53, 0)]), 1, 24, [.slice none 0 0]⟩),
  (56, ⟨(.slice 63), 1, 24, [.slice none 0 0]⟩),
  (59, ⟨(.slice 24), 1, 24, [.slice none 0 0]⟩),
  (61, ⟨(.struct [(9, 0), (3, 1), (59, 2)]), 3, 48, [.string ⟨#[]⟩, .int .i64 0, .slice none 0 0]⟩),
  (63, ⟨(.struct [(9, 0), (61, 1)]), 4, 64, [.string ⟨#[]⟩, .string ⟨#[]⟩, .int .i64 0, .slice none 0 0]⟩),
  (77, ⟨.other, 1, 8, [.nilFunc]⟩),
  (83, ⟨.other, 1, 8, [.nilFunc]⟩),
  (84, ⟨(.slice 99), 1, 24, [.slice none 0 0]⟩),
  (86, ⟨(.struct [(9, 0), (84, 1)]), 2, 40, [.string ⟨#[]⟩, .slice none 0 0]⟩),
  (89, ⟨.other, 1, 8, [.nilFunc]⟩),
  (92, ⟨.other, 1, 8, [.nilFunc]⟩),
  (95, ⟨.other, 1, 8, [.nilFunc]⟩),
  (99, ⟨(.struct [(9, 0), (3, 1)]), 2, 24, [.string ⟨#[]⟩, .int .i64 0]⟩),
  (116, ⟨(.array 2 3), 2, 16, [.int .i64 0, .int .i64 0]⟩),
  (121, ⟨(.struct [(39, 0)]), 1, 24, [.slice none 0 0]⟩)]
noncomputable def T : Nat → Option TI := tableOf Tl
theorem T_ok : TOk Try.prog T := TOk_of (by decide +kernel)
theorem mixed : Try.prog.follows .mixedOrders = true := by decide +kernel
end Go.Proofs.Ythffbfjnahipcaa
