/- Parts of an abstract logic over the kit's walks, and walks in it: T3t. -/
import Derived.Test.YtencfmpapdnnaaaAb
import Derived.Test.YtencfmpapdnnaaaProg
namespace Go.Proofs.Ytencfmpapdnnaaa
open Go.AL
def Tl : List (Nat × TI) := [
  (2, ⟨(.int .i64), 1, 8, [.int .i64 0]⟩),
  (3, ⟨(.int .i64), 1, 8, [.int .i64 0]⟩),
  (4, ⟨.bool, 1, 1, [.bool false]⟩),
  (5, ⟨(.int .u8), 1, 1, [.int .u8 0]⟩),
  (9, ⟨.str, 1, 16, [.string ⟨#[]⟩]⟩),
  (20, ⟨.iface, 1, 16, [.nilIface]⟩),
  (23, ⟨(.array 3 9), 3, 48, [.string ⟨#[]⟩, .string ⟨#[]⟩, .string ⟨#[]⟩]⟩),
  (25, ⟨(.struct [(3, 0), (2, 1), (9, 2)]), 3, 32, [.int .i64 0, .int .i64 0, .string ⟨#[]⟩]⟩),
  (26, ⟨(.slice 28), 1, 24, [.slice none 0 0]⟩),
  (28, ⟨(.struct [(3, 0), (25, 1), (9, 4), (9, 5), (26, 6)]), 7, 96, [.int .i64 0, .int .i64 0, .int .i64 0, .string ⟨#[]⟩, .string ⟨#[]⟩, .string ⟨#[]⟩, .slice none 0 0]⟩),
  (32, ⟨.iface, 1, 16, [.nilIface]⟩),
  (35, ⟨(.slice 83), 1, 24, [.slice none 0 0]⟩),
  (37, ⟨(.struct [(35, 0)]), 1, 24, [.slice none 0 0]⟩),
  (39, ⟨(.slice 9), 1, 24, [.slice none 0 0]⟩),
  (41, ⟨(.struct [(9, 0), (39, 1), (4, 2), (4, 3), (28, 4)]), 11, 144, [.string ⟨#[]⟩, .slice none 0 0, .bool false, .bool false, .int .i64 0, .int .i64 0, .int .i64 0, .string ⟨#[]⟩, .string ⟨#[]⟩, .string ⟨#[]⟩, .slice none 0 0]⟩),
  (42, ⟨(.slice 41), 1, 24, [.slice none 0 0]⟩),
  (43, ⟨(.array 3 3), 3, 24, [.int .i64 0, .int .i64 0, .int .i64 0]⟩),
  (45, ⟨(.int .i64), 1, 8, [.int .i64 0]⟩),
  (48, ⟨(.struct [(42, 0), (3, 1), (9, 2), (4, 3)]), 4, 56, [.slice none 0 0, .int .i64 0, .string ⟨#[]⟩, .bool false]⟩),
  (49, ⟨(.slice 5), 1, 24, [.slice none 0 0]⟩),
  (52, ⟨(.array 4 9), 4, 64, [.string ⟨#[]⟩, .string ⟨#[]⟩, .string ⟨#[]⟩, .string ⟨#[]⟩]⟩),
  (53, ⟨(.array 3 39), 3, 72, [.slice none 0 0, .slice none 0 0, .slice none 0 0]⟩),
  (58, ⟨(.int .u64), 1, 8, [.int .u64 0]⟩),
  (61, ⟨(.array 3 28), 21, 288, [.int .i64 0, .int .i64 0, .int .i64 0, .string ⟨#[]⟩, .string ⟨#[]⟩, .string ⟨#[]⟩, .slice none 0 0, .int .i64 0, .int .i64 0, .int .i64 0, .string ⟨#[]⟩, .string ⟨#[]⟩, .string ⟨#[]⟩, .slice none 0 0, .int .i64 0, .int .i64 0, .int .i64 0, .string ⟨#[]⟩, .string ⟨#[]⟩, .string ⟨#[]⟩, .slice none 0 0]⟩),
  (67, ⟨(.slice 25), 1, 24, [.slice none 0 0]⟩),
  (69, ⟨(.struct [(9, 0), (3, 1), (67, 2)]), 3, 48, [.string ⟨#[]⟩, .int .i64 0, .slice none 0 0]⟩),
  (72, ⟨(.struct [(9, 0), (69, 1)]), 4, 64, [.string ⟨#[]⟩, .string ⟨#[]⟩, .int .i64 0, .slice none 0 0]⟩),
  (73, ⟨(.slice 72), 1, 24, [.slice none 0 0]⟩),
  (76, ⟨(.array 2 9), 2, 32, [.string ⟨#[]⟩, .string ⟨#[]⟩]⟩),
  (78, ⟨.other, 1, 8, [.nilFunc]⟩),
  (80, ⟨(.struct [(9, 0), (3, 1)]), 2, 24, [.string ⟨#[]⟩, .int .i64 0]⟩),
  (81, ⟨(.slice 80), 1, 24, [.slice none 0 0]⟩),
  (83, ⟨(.struct [(9, 0), (81, 1)]), 2, 40, [.string ⟨#[]⟩, .slice none 0 0]⟩),
  (91, ⟨.other, 1, 8, [.nilFunc]⟩),
  (102, ⟨.other, 1, 8, [.nilFunc]⟩),
  (103, ⟨(.slice 3), 1, 24, [.slice none 0 0]⟩),
  (109, ⟨.iface, 1, 16, [.nilIface]⟩),
  (112, ⟨.iface, 1, 16, [.nilIface]⟩),
  (114, ⟨.iface, 1, 16, [.nilIface]⟩),
  (115, ⟨(.slice 32), 1, 24, [.slice none 0 0]⟩),
  (130, ⟨(.array 2 3), 2, 16, [.int .i64 0, .int .i64 0]⟩),
  (136, ⟨.other, 1, 8, [.nilFunc]⟩),
  (138, ⟨.other, 1, 8, [.nilFunc]⟩),
  (150, ⟨(.struct [(39, 0)]), 1, 24, [.slice none 0 0]⟩)]
noncomputable def T : Nat → Option TI := tableOf Tl
theorem T_ok : TOk Try.prog T := TOk_of (by decide +kernel)
theorem mixed : Try.prog.follows .mixedOrders = true := by decide +kernel
end Go.Proofs.Ytencfmpapdnnaaa
