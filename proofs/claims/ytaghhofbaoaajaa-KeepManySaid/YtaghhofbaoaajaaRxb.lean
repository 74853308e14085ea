/- Parts of an abstract logic over the kit's walks, and walks in it: R9i. -/
import Derived.Test.YtaghhofbaoaajaaRxa
import Derived.WalkKit
import Derived.LaidEql
import Derived.Stop.Asserts
import Derived.RowKitTokens
/- errors.Is at errors of one integer type (after the kit's worked Sentry, turned). -/
namespace Go.Proofs.Ytaghhofbaoaajaa
open Go Go.AL Go.RowKit Go.Extern.Stop Go.Stop Go.Extern
theorem equalIn_iface_int {P : Program} (w : World) (d : Nat) {ti tn : TypeId} {ms : Array (String × TypeId)} {i : TypeInfo} {k : IntKind} (a b : Int)
    (hi : P.underlying ti = some (.interface ms)) (hn : P.underlying tn = some (.int k)) (hinfo : P.info? tn = some i) (hcomp : i.comparable = true) :
    (Op.equalIn (d + 2) ti (.iface tn (.int k a)) (.iface tn (.int k b))).run P w = .ok (a == b) w := by
  simp [Op.equalIn, run_underlying hi, run_underlying hn, typeInfo, hinfo, hcomp]
theorem eql_iface_int {P : Program} (w : World) {ti tn : TypeId} {ms : Array (String × TypeId)} {i : TypeInfo} {k : IntKind} (a b : Int)
    (hi : P.underlying ti = some (.interface ms)) (hn : P.underlying tn = some (.int k)) (hinfo : P.info? tn = some i) (hcomp : i.comparable = true) :
    (binOp .eql ti (.iface tn (.int k a)) (.iface tn (.int k b))).run P w = .ok (.bool (a == b)) w := by
  simp only [binOp]
  simp [Op.equal, Op.maxDepth, equalIn_iface_int w 9998 a b hi hn hinfo hcomp]
theorem isTypeOf (v : Value) (w : World) : (Extern.ReflectliteType.typeOf #[.iface 62 v]).run Try.prog w = .ok (.iface 112 (.agg #[.pointer (some ⟨0, 62, none⟩)])) w := by kernel_rfl
def cmpM : Array Value → Sem Value := Extern.ReflectliteType.method fun t => do Extern.Rtype.noPackHeld "Comparable" t; pure (.bool (← typeInfo t).comparable)
theorem isComparable (w : World) : (cmpM #[.agg #[.pointer (some ⟨0, 62, none⟩)]]).run Try.prog w = .ok (.bool true) w := by kernel_rfl
theorem isMethodComparable (v : Value) (w : World) : (Go.method 340 112 v "Comparable").run Try.prog w = .ok (146, v) w := by kernel_rfl
theorem errComp : (Try.prog.info? 62).map (·.comparable) = some true := by kernel_rfl
theorem noIsE (v : Value) (xT : TypeId) (w : World) : (Instr.typeAssert (.iface 62 v) xT 114 true).run Try.prog w = .ok (.tuple #[.nilIface, .bool false]) w := run_typeAssert_lacksB Try.underlying114 (by kernel_rfl) (by kernel_rfl) v xT w
theorem noUnwrapE (v : Value) (xT : TypeId) (w : World) : (Instr.typeAssert (.iface 62 v) xT 117 true).run Try.prog w = .ok (.tuple #[.nilIface, .bool false]) w := run_typeAssert_lacksB Try.underlying117 (by kernel_rfl) (by kernel_rfl) v xT w
theorem noUnwrapsE (v : Value) (xT : TypeId) (w : World) : (Instr.typeAssert (.iface 62 v) xT 119 true).run Try.prog w = .ok (.tuple #[.nilIface, .bool false]) w := run_typeAssert_lacksB Try.underlying119 (by kernel_rfl) (by kernel_rfl) v xT w

set_option maxRecDepth 100000 in
set_option maxHeartbeats 4000000 in
theorem is_same (a : Int) (w : World) : Calls Try.prog 14 #[.iface 62 (.int .i64 a), .iface 62 (.int .i64 a)] w fun e w' => e = .returned (.bool true) ∧ w' = w := by
  obtain ⟨i, hi, hcmp⟩ := Option.map_eq_some_iff.1 errComp
  have h8 := @run_callFunc_extern Try.prog 30 _ Extern.ReflectliteType.typeOf Try.func30 (by kernel_rfl) (by kernel_rfl) (by kernel_rfl) (by kernel_rfl)
  have h32 := @run_callFunc_extern Try.prog 146 _ cmpM Try.func146 (by kernel_rfl) (by kernel_rfl) (by kernel_rfl) (by kernel_rfl)
  have tT := isTypeOf
  have cT := isComparable
  have mR := isMethodComparable
  have heq := eql_iface_int (P := Try.prog) w a a Try.underlying58 Try.underlying62 hi hcmp
  have hab : (a == a) = true := by simp
  rw [hab] at heq
  go_enter Try.func14, Try.ntmps14
  go_wp2
  refine wp_loop_rounds 1 ?_
  rw [rounds_succ]
  go_wp2
  go_ret
  exact ⟨rfl, rfl⟩
set_option maxRecDepth 100000 in
set_option maxHeartbeats 4000000 in
theorem is_other (a b : Int) (hne : a ≠ b) (w : World) : Calls Try.prog 14 #[.iface 62 (.int .i64 a), .iface 62 (.int .i64 b)] w fun e w' => e = .returned (.bool false) ∧ w' = w := by
  obtain ⟨i, hi, hcmp⟩ := Option.map_eq_some_iff.1 errComp
  have h8 := @run_callFunc_extern Try.prog 30 _ Extern.ReflectliteType.typeOf Try.func30 (by kernel_rfl) (by kernel_rfl) (by kernel_rfl) (by kernel_rfl)
  have h32 := @run_callFunc_extern Try.prog 146 _ cmpM Try.func146 (by kernel_rfl) (by kernel_rfl) (by kernel_rfl) (by kernel_rfl)
  have tT := isTypeOf
  have cT := isComparable
  have mR := isMethodComparable
  have nE := noIsE
  have uE := noUnwrapE
  have vE := noUnwrapsE
  have heq := eql_iface_int (P := Try.prog) w a b Try.underlying58 Try.underlying62 hi hcmp
  have hab : (a == b) = false := by simpa using hne
  rw [hab] at heq
  go_enter Try.func14, Try.ntmps14
  go_wp2
  refine wp_loop_rounds 1 ?_
  rw [rounds_succ]
  go_wp2
  go_ret
  exact ⟨rfl, rfl⟩
def errD (c : Int) : D := .iface 62 (int c)
theorem errIs (a b : Int) : Does Try.prog 14 [.d (errD a), .d (errD b)] noHeap (.d (boo (a == b))) := by
  refine ⟨⟨Try.f14, Try.func14, by kernel_rfl, by kernel_rfl⟩, fun n Z w vs hZ hv => ?_⟩
  simp only [RAs, RA, errD, RD] at hv
  obtain ⟨v, t, rfl, ⟨u, rfl, hu⟩, v2, t2, rfl, ⟨u2, rfl, hu2⟩, rfl⟩ := hv
  simp only [int, RD] at hu hu2
  obtain ⟨rfl, _⟩ := hu
  obtain ⟨rfl, _⟩ := hu2
  refine callsIn_wide.2 ?_
  have key : Calls Try.prog 14 #[.iface 62 (.int .i64 a), .iface 62 (.int .i64 b)] w fun e w' => e = .returned (.bool (a == b)) ∧ w' = w := by
    by_cases h : a = b
    · subst h; have := is_same a w; rwa [show (a == a) = true by simp]
    · have := is_other a b h w; rwa [show (a == b) = false by simpa using h]
  refine key.mono fun e w' ⟨h1, h2⟩ => ?_
  subst h2
  exact ⟨_, noι, h1, Grew.refl _, by simp only [RA, boo, RD]; exact ⟨trivial, trivial⟩, ⟨fun k e hk => by simp [noHeap] at hk, fun k b hk => by simp [dom, noHeap] at hk, fun k k' b hk => by simp [dom, noHeap] at hk⟩⟩
end Go.Proofs.Ytaghhofbaoaajaa
