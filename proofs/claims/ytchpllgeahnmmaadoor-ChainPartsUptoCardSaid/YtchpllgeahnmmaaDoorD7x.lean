/- Parts of an abstract logic over the kit's walks, and walks in it: D7x. -/
import Derived.Test.YtchpllgeahnmmaaDoorD7t
import Derived.Test.YtchpllgeahnmmaaDoorBa
import Derived.WalkKit
import Derived.LaidEql
import Derived.Stop.Asserts
import Derived.RowKitTokens
/- errors.Is at errors of one integer type (after the kit's worked Sentry, turned). -/
namespace Go.Proofs.YtchpllgeahnmmaaDoor
open Go Go.AL Go.RowKit Go.Extern.Stop Go.Stop Go.Extern
theorem equalIn_iface_int {P : Program} (w : World) (d : Nat) {ti tn : TypeId} {ms : Array (String × TypeId)} {i : TypeInfo} {k : IntKind} (a b : Int)
    (hi : P.underlying ti = some (.interface ms)) (hn : P.underlying tn = some (.int k)) (hinfo : P.info? tn = some i) (hcomp : i.comparable = true) :
    (Op.equalIn (d + 2) ti (.iface tn (.int k a)) (.iface tn (.int k b))).run P w = .ok (a == b) w := by
  simp [Op.equalIn, run_underlying hi, run_underlying hn, typeInfo, hinfo, hcomp]
theorem eql_iface_int {P : Program} (w : World) {ti tn : TypeId} {ms : Array (String × TypeId)} {i : TypeInfo} {k : IntKind} (a b : Int)
    (hi : P.underlying ti = some (.interface ms)) (hn : P.underlying tn = some (.int k)) (hinfo : P.info? tn = some i) (hcomp : i.comparable = true) :
    (binOp .eql ti (.iface tn (.int k a)) (.iface tn (.int k b))).run P w = .ok (.bool (a == b)) w := by
  simp only [binOp]
  simp [Op.equal, Op.maxDepth, equalIn_iface_int w 9998 a b hi hn hinfo hcomp]
theorem isTypeOf (v : Value) (w : World) : (Extern.ReflectliteType.typeOf #[.iface 74 v]).run Tryd.prog w = .ok (.iface 143 (.agg #[.pointer (some ⟨1, 74, none⟩)])) w := by kernel_rfl
def cmpM : Array Value → Sem Value := Extern.ReflectliteType.method fun t => do Extern.Rtype.noPackHeld "Comparable" t; pure (.bool (← typeInfo t).comparable)
theorem isComparable (w : World) : (cmpM #[.agg #[.pointer (some ⟨1, 74, none⟩)]]).run Tryd.prog w = .ok (.bool true) w := by kernel_rfl
theorem isMethodComparable (v : Value) (w : World) : (Go.method 302 143 v "Comparable").run Tryd.prog w = .ok (128, v) w := by kernel_rfl
theorem errComp : (Tryd.prog.info? 74).map (·.comparable) = some true := by kernel_rfl
theorem noIsE (v : Value) (xT : TypeId) (w : World) : (Instr.typeAssert (.iface 74 v) xT 145 true).run Tryd.prog w = .ok (.tuple #[.nilIface, .bool false]) w := run_typeAssert_lacksB Tryd.underlying145 (by kernel_rfl) (by kernel_rfl) v xT w
theorem noUnwrapE (v : Value) (xT : TypeId) (w : World) : (Instr.typeAssert (.iface 74 v) xT 148 true).run Tryd.prog w = .ok (.tuple #[.nilIface, .bool false]) w := run_typeAssert_lacksB Tryd.underlying148 (by kernel_rfl) (by kernel_rfl) v xT w
theorem noUnwrapsE (v : Value) (xT : TypeId) (w : World) : (Instr.typeAssert (.iface 74 v) xT 150 true).run Tryd.prog w = .ok (.tuple #[.nilIface, .bool false]) w := run_typeAssert_lacksB Tryd.underlying150 (by kernel_rfl) (by kernel_rfl) v xT w

set_option maxRecDepth 100000 in
set_option maxHeartbeats 4000000 in
theorem is_same (a : Int) (w : World) : Calls Tryd.prog 35 #[.iface 74 (.int .i64 a), .iface 74 (.int .i64 a)] w fun e w' => e = .returned (.bool true) ∧ w' = w := by
  obtain ⟨i, hi, hcmp⟩ := Option.map_eq_some_iff.1 errComp
  have h8 := @run_callFunc_extern Tryd.prog 68 _ Extern.ReflectliteType.typeOf Tryd.func68 (by kernel_rfl) (by kernel_rfl) (by kernel_rfl) (by kernel_rfl)
  have h32 := @run_callFunc_extern Tryd.prog 128 _ cmpM Tryd.func128 (by kernel_rfl) (by kernel_rfl) (by kernel_rfl) (by kernel_rfl)
  have tT := isTypeOf
  have cT := isComparable
  have mR := isMethodComparable
  have heq := eql_iface_int (P := Tryd.prog) w a a Tryd.underlying36 Tryd.underlying74 hi hcmp
  have hab : (a == a) = true := by simp
  rw [hab] at heq
  go_enter Tryd.func35, Tryd.ntmps35
  go_wp2
  refine wp_loop_rounds 1 ?_
  rw [rounds_succ]
  go_wp2
  go_ret
  exact ⟨rfl, rfl⟩
set_option maxRecDepth 100000 in
set_option maxHeartbeats 4000000 in
theorem is_other (a b : Int) (hne : a ≠ b) (w : World) : Calls Tryd.prog 35 #[.iface 74 (.int .i64 a), .iface 74 (.int .i64 b)] w fun e w' => e = .returned (.bool false) ∧ w' = w := by
  obtain ⟨i, hi, hcmp⟩ := Option.map_eq_some_iff.1 errComp
  have h8 := @run_callFunc_extern Tryd.prog 68 _ Extern.ReflectliteType.typeOf Tryd.func68 (by kernel_rfl) (by kernel_rfl) (by kernel_rfl) (by kernel_rfl)
  have h32 := @run_callFunc_extern Tryd.prog 128 _ cmpM Tryd.func128 (by kernel_rfl) (by kernel_rfl) (by kernel_rfl) (by kernel_rfl)
  have tT := isTypeOf
  have cT := isComparable
  have mR := isMethodComparable
  have nE := noIsE
  have uE := noUnwrapE
  have vE := noUnwrapsE
  have heq := eql_iface_int (P := Tryd.prog) w a b Tryd.underlying36 Tryd.underlying74 hi hcmp
  have hab : (a == b) = false := by simpa using hne
  rw [hab] at heq
  go_enter Tryd.func35, Tryd.ntmps35
  go_wp2
  refine wp_loop_rounds 1 ?_
  rw [rounds_succ]
  go_wp2
  go_ret
  exact ⟨rfl, rfl⟩
def errD (c : Int) : D := .iface 74 (int c)
theorem errIs (a b : Int) : Does Tryd.prog 35 [.d (errD a), .d (errD b)] noHeap (.d (boo (a == b))) := by
  refine ⟨⟨Tryd.f35, Tryd.func35, by kernel_rfl, by kernel_rfl⟩, fun n Z w vs hZ hv => ?_⟩
  simp only [RAs, RA, errD, RD] at hv
  obtain ⟨v, t, rfl, ⟨u, rfl, hu⟩, v2, t2, rfl, ⟨u2, rfl, hu2⟩, rfl⟩ := hv
  simp only [int, RD] at hu hu2
  obtain ⟨rfl, _⟩ := hu
  obtain ⟨rfl, _⟩ := hu2
  refine callsIn_wide.2 ?_
  have key : Calls Tryd.prog 35 #[.iface 74 (.int .i64 a), .iface 74 (.int .i64 b)] w fun e w' => e = .returned (.bool (a == b)) ∧ w' = w := by
    by_cases h : a = b
    · subst h; have := is_same a w; rwa [show (a == a) = true by simp]
    · have := is_other a b h w; rwa [show (a == b) = false by simpa using h]
  refine key.mono fun e w' ⟨h1, h2⟩ => ?_
  subst h2
  exact ⟨_, noι, h1, Grew.refl _, by simp only [RA, boo, RD]; exact ⟨trivial, trivial⟩, ⟨fun k e hk => by simp [noHeap] at hk, fun k b hk => by simp [dom, noHeap] at hk, fun k k' b hk => by simp [dom, noHeap] at hk⟩⟩
end Go.Proofs.YtchpllgeahnmmaaDoor
