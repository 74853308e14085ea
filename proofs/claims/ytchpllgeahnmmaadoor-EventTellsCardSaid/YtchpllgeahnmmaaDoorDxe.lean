/- Parts of an abstract logic over the kit's walks, and walks in it: D7x, D7u, D7k4. -/
import Derived.Test.YtchpllgeahnmmaaDoorD7t
import Derived.Test.YtchpllgeahnmmaaDoorBa
import Derived.WalkKit
import Derived.LaidEql
import Derived.Stop.Asserts
import Derived.RowKitTokens
import Derived.Test.YtchpllgeahnmmaaDoorDxa
import Derived.Test.YtchpllgeahnmmaaDoorEz
import Derived.Test.YtchpllgeahnmmaaDoorDxd
import Derived.Test.YtchpllgeahnmmaaDoorDxb
namespace Go.Proofs.YtchpllgeahnmmaaDoor
open Go Go.AL Go.RowKit Go.Extern.Stop Go.Stop Go.Extern
theorem equalIn_iface_int {P : Program} (w : World) (d : Nat) {ti tn : TypeId} {ms : Array (String × TypeId)} {i : TypeInfo} {k : IntKind} (a b : Int)
    (hi : P.underlying ti = some (.interface ms)) (hn : P.underlying tn = some (.int k)) (hinfo : P.info? tn = some i) (hcomp : i.comparable = true) :
    (Op.equalIn (d + 2) ti (.iface tn (.int k a)) (.iface tn (.int k b))).run P w = .ok (a == b) w := by
  simp [Op.equalIn, run_underlying hi, run_underlying hn, typeInfo, hinfo, hcomp]
theorem eql_iface_int {P : Program} (w : World) {ti tn : TypeId} {ms : Array (String × TypeId)} {i : TypeInfo} {k : IntKind} (a b : Int)
    (hi : P.underlying ti = some (.interface ms)) (hn : P.underlying tn = some (.int k)) (hinfo : P.info? tn = some i) (hcomp : i.comparable = true) :
    (binOp .eql ti (.iface tn (.int k a)) (.iface tn (.int k b))).run P w = .ok (.bool (a == b)) w := by
  simp only [binOp]
  simp [Op.equal, Op.maxDepth, equalIn_iface_int w 9998 a b hi hn hinfo hcomp]
theorem isTypeOf (v : Value) (w : World) : (Extern.ReflectliteType.typeOf #[.iface 74 v]).run Tryd.prog w = .ok (.iface 143 (.agg #[.pointer (some ⟨1, 74, none⟩)])) w := by kernel_rfl
def cmpM : Array Value → Sem Value := Extern.ReflectliteType.method fun t => do Extern.Rtype.noPackHeld "Comparable" t; pure (.bool (← typeInfo t).comparable)
theorem isComparable (w : World) : (cmpM #[.agg #[.pointer (some ⟨1, 74, none⟩)]]).run Tryd.prog w = .ok (.bool true) w := by kernel_rfl
theorem isMethodComparable (v : Value) (w : World) : (Go.method 302 143 v "Comparable").run Tryd.prog w = .ok (128, v) w := by kernel_rfl
theorem errComp : (Tryd.prog.info? 74).map (·.comparable) = some true := by kernel_rfl
theorem noIsE (v : Value) (xT : TypeId) (w : World) : (Instr.typeAssert (.iface 74 v) xT 145 true).run Tryd.prog w = .ok (.tuple #[.nilIface, .bool false]) w := run_typeAssert_lacksB Tryd.underlying145 (by kernel_rfl) (by kernel_rfl) v xT w
theorem noUnwrapE (v : Value) (xT : TypeId) (w : World) : (Instr.typeAssert (.iface 74 v) xT 148 true).run Tryd.prog w = .ok (.tuple #[.nilIface, .bool false]) w := run_typeAssert_lacksB Tryd.underlying148 (by kernel_rfl) (by kernel_rfl) v xT w
theorem noUnwrapsE (v : Value) (xT : TypeId) (w : World) : (Instr.typeAssert (.iface 74 v) xT 150 true).run Tryd.prog w = .ok (.tuple #[.nilIface, .bool false]) w := run_typeAssert_lacksB Tryd.underlying150 (by kernel_rfl) (by kernel_rfl) v xT w
set_option maxRecDepth 100000 in
set_option maxHeartbeats 4000000 in
theorem is_same (a : Int) (w : World) : Calls Tryd.prog 35 #[.iface 74 (.int .i64 a), .iface 74 (.int .i64 a)] w fun e w' => e = .returned (.bool true) ∧ w' = w := by
  obtain ⟨i, hi, hcmp⟩ := Option.map_eq_some_iff.1 errComp
  have h8 := @run_callFunc_extern Tryd.prog 68 _ Extern.ReflectliteType.typeOf Tryd.func68 (by kernel_rfl) (by kernel_rfl) (by kernel_rfl) (by kernel_rfl)
  have h32 := @run_callFunc_extern Tryd.prog 128 _ cmpM Tryd.func128 (by kernel_rfl) (by kernel_rfl) (by kernel_rfl) (by kernel_rfl)
  have tT := isTypeOf
  have cT := isComparable
  have mR := isMethodComparable
  have heq := eql_iface_int (P := Tryd.prog) w a a Tryd.underlying36 Tryd.underlying74 hi hcmp
  have hab : (a == a) = true := by simp
  rw [hab] at heq
  go_enter Tryd.func35, Tryd.ntmps35
  go_wp2
  refine wp_loop_rounds 1 ?_
  rw [rounds_succ]
  go_wp2
  go_ret
  exact ⟨rfl, rfl⟩
set_option maxRecDepth 100000 in
set_option maxHeartbeats 4000000 in
theorem is_other (a b : Int) (hne : a ≠ b) (w : World) : Calls Tryd.prog 35 #[.iface 74 (.int .i64 a), .iface 74 (.int .i64 b)] w fun e w' => e = .returned (.bool false) ∧ w' = w := by
  obtain ⟨i, hi, hcmp⟩ := Option.map_eq_some_iff.1 errComp
  have h8 := @run_callFunc_extern Tryd.prog 68 _ Extern.ReflectliteType.typeOf Tryd.func68 (by kernel_rfl) (by kernel_rfl) (by kernel_rfl) (by kernel_rfl)
  have h32 := @run_callFunc_extern Tryd.prog 128 _ cmpM Tryd.func128 (by kernel_rfl) (by kernel_rfl) (by kernel_rfl) (by kernel_rfl)
  have tT := isTypeOf
  have cT := isComparable
  have mR := isMethodComparable
  have nE := noIsE
  have uE := noUnwrapE
  have vE := noUnwrapsE
  have heq := eql_iface_int (P := Tryd.prog) w a b Tryd.underlying36 Tryd.underlying74 hi hcmp
  have hab : (a == b) = false := by simpa using hne
  rw [hab] at heq
  go_enter Tryd.func35, Tryd.ntmps35
  go_wp2
  refine wp_loop_rounds 1 ?_
  rw [rounds_succ]
  go_wp2
  go_ret
  exact ⟨rfl, rfl⟩
def errD (c : Int) : D := .iface 74 (int c)
theorem errIs (a b : Int) : Does Tryd.prog 35 [.d (errD a), .d (errD b)] noHeap (.d (boo (a == b))) := by
  refine ⟨⟨Tryd.f35, Tryd.func35, by kernel_rfl, by kernel_rfl⟩, fun n Z w vs hZ hv => ?_⟩
  simp only [RAs, RA, errD, RD] at hv
  obtain ⟨v, t, rfl, ⟨u, rfl, hu⟩, v2, t2, rfl, ⟨u2, rfl, hu2⟩, rfl⟩ := hv
  simp only [int, RD] at hu hu2
  obtain ⟨rfl, _⟩ := hu
  obtain ⟨rfl, _⟩ := hu2
  refine callsIn_wide.2 ?_
  have key : Calls Tryd.prog 35 #[.iface 74 (.int .i64 a), .iface 74 (.int .i64 b)] w fun e w' => e = .returned (.bool (a == b)) ∧ w' = w := by
    by_cases h : a = b
    · subst h; have := is_same a w; rwa [show (a == a) = true by simp]
    · have := is_other a b h w; rwa [show (a == b) = false by simpa using h]
  refine key.mono fun e w' ⟨h1, h2⟩ => ?_
  subst h2
  exact ⟨_, noι, h1, Grew.refl _, by simp only [RA, boo, RD]; exact ⟨trivial, trivial⟩, ⟨fun k e hk => by simp [noHeap] at hk, fun k b hk => by simp [dom, noHeap] at hk, fun k k' b hk => by simp [dom, noHeap] at hk⟩⟩
end Go.Proofs.YtchpllgeahnmmaaDoor
namespace Go.Proofs.YtchpllgeahnmmaaDoor
open Go Go.AL
set_option linter.unusedVariables false
set_option linter.unusedSimpArgs false
set_option maxHeartbeats 4000000
theorem refSameSOk (a b : List Ty) : Does Tryd.prog 21 [argS a, argS b] noHeap (.d (boo (sameS a b))) := by
 refine Does_of T_ok mixed (N := 65) Tryd.func21 rfl rfl rfl (by rfl) fun F n Z hE hF J => ?_
 refine CW_seq ?_
 refine CW_region ?_
 refine OW_run' hE.ok 3 rfl ?_
 refine OW_end rfl ?_
 refine CW_seq ?_
 refine CW_seq ?_
 refine CW_region ?_
 refine OW_run' hE.ok 7 rfl ?_
 refine OW_end rfl ?_
 refine CW_cond _ rfl (fun h1 => ?_) (fun h1 => ?_)
 ·
  have g1 : a.length ≠ b.length := by have := h1; simp at this; omega
  refine CW_seq ?_
  refine CW_region ?_
  refine OW_run' hE.ok 1 rfl ?_
  refine OW_end rfl ?_
  refine CW_ret ?_
  refine ⟨.inr rfl, rfl, ⟨_, rfl, rfl, ?_⟩, rfl⟩
  exact AVle.of (congrArg (fun b => AV.d (boo b)) (by rw [sS_len g1]))
 ·
  have g1 : a.length = b.length := by have := h1; simp at this; omega
  refine CW_skip ?_
  refine CW_seq ?_
  refine CW_seq ?_
  refine CW_region ?_
  refine OW_run' hE.ok 1 rfl ?_
  refine OW_end rfl ?_
  refine CW_block ?_
  refine CW_loop (σ := {i : Nat // i ≤ a.length ∧ ∀ (j : Nat) (x y : Ty), j < i → a[j]? = some x → b[j]? = some y → sameT x y = true}) (fun i => ⟨J, (sset (sset (sset noSlots 2 (.d (.iptr [encS a]))) 3 (.d (.iptr [encS b]))) 5 (.d (int ((i.1 : Nat) : Int)))), noHeap⟩) (fun i => a.length - i.1) ⟨0, Nat.zero_le _, fun j x y hj => by omega⟩ (LE_sh (slh_set (slh_set (slh_set (slh_no _ _) rfl rfl) rfl rfl) rfl rfl) (hlh_no _ _)) fun ⟨i, hi, hp⟩ => ?_
  skip
  refine CW_seq ?_
  refine CW_seq ?_
  refine CW_region ?_
  refine OW_run' hE.ok 5 rfl ?_
  refine OW_end rfl ?_
  refine CW_cond _ rfl (fun h2 => ?_) (fun h2 => ?_)
  ·
   refine CW_know (know_sl (d := 18) rfl) fun hlen => ?_
   simp only [List.length_map] at hlen
   have hlt : i < a.length := by have := h2; simp at this; omega
   obtain ⟨x, hx⟩ : ∃ x, a[i]? = some x := ⟨_, List.getElem?_eq_getElem hlt⟩
   obtain ⟨y, hy⟩ : ∃ y, b[i]? = some y := ⟨_, List.getElem?_eq_getElem (by omega)⟩
   refine CW_skip ?_
   refine CW_seq ?_
   refine CW_block ?_
   refine CW_seq ?_
   refine CW_drawnU hE 13 [(10, 61, .box 72 [.d (str nul), .d (.lit (.slice none 0 0))]), (11, 62, .box 72 [.d (str nul), .d (.lit (.slice none 0 0))])] ⟨10, 12, 61, .box 72 [.d (str nul), .d (.lit (.slice none 0 0))], .box 72 ((encT x).map .d)⟩ (by decide +kernel) rfl (List.mem_cons_self ..) rfl rfl (by kernel_rfl) ?_
   refine HU_run hE 3 rfl rfl rfl rfl rfl rfl ?_
   refine HU_loc hE (fun b => loc_indexAddr hE rfl rfl rfl rfl rfl (by omega) (x := encT x) (by simp [hx])) rfl rfl rfl rfl rfl rfl ?_
   refine HU_run hE 4 rfl rfl rfl rfl rfl rfl ?_
   refine HU_loc hE (fun b => loc_indexAddr hE rfl rfl rfl rfl rfl (by omega) (x := encT y) (by simp [hy])) rfl rfl rfl rfl rfl rfl ?_
   refine HU_run hE 1 rfl rfl rfl rfl rfl rfl ?_
   refine HU_alloc hE rfl rfl rfl rfl rfl rfl rfl rfl rfl ?_
   refine HU_alloc hE rfl rfl rfl rfl rfl rfl rfl rfl rfl ?_
   refine HU_store hE rfl rfl rfl rfl rfl rfl rfl rfl rfl rfl rfl rfl rfl rfl rfl ?_
   refine HU_end ?_
   refine OW_store' hE rfl rfl rfl rfl rfl rfl rfl rfl rfl rfl rfl rfl ?_
   refine OW_end rfl ?_
   refine CW_seq ?_
   refine CW_seq ?_
   refine CW_region ?_
   refine OW_run' hE.ok 6 rfl ?_
   refine OW_split' 38 rfl (fun h3 => ?_) (fun h3 => ?_)
   ·
    have g2 : (!(x.name.toList == y.name.toList)) = true := h3
    refine OW_run' hE.ok 8 rfl ?_
    refine OW_end rfl ?_
    refine CW_true rfl ?_
    refine CW_seq ?_
    refine CW_region ?_
    refine OW_run' hE.ok 1 rfl ?_
    refine OW_end rfl ?_
    refine CW_ret ?_
    refine ⟨.inr rfl, rfl, ⟨_, rfl, rfl, ?_⟩, rfl⟩
    exact AVle.of (congrArg (fun b => AV.d (boo b)) (by rw [sS_ty hx hy (sT_name g2)]))
   ·
    have g2 : (!(x.name.toList == y.name.toList)) = false := h3
    refine OW_run' hE.ok 8 rfl ?_
    refine OW_end rfl ?_
    refine CW_cond _ rfl (fun h4 => ?_) (fun h4 => ?_)
    ·
     have g3 : x.fields.length ≠ y.fields.length := by have := h4; simp at this; omega
     refine CW_seq ?_
     refine CW_region ?_
     refine OW_run' hE.ok 1 rfl ?_
     refine OW_end rfl ?_
     refine CW_ret ?_
     refine ⟨.inr rfl, rfl, ⟨_, rfl, rfl, ?_⟩, rfl⟩
     exact AVle.of (congrArg (fun b => AV.d (boo b)) (by rw [sS_ty hx hy (sT_len g3)]))
    ·
     have g3 : x.fields.length = y.fields.length := by have := h4; simp at this; omega
     refine CW_skip ?_
     refine CW_seq ?_
     refine CW_region ?_
     refine OW_run' hE.ok 1 rfl ?_
     refine OW_end rfl ?_
     refine CW_block ?_
     refine CW_loop (σ := {k : Nat // k ≤ x.fields.length ∧ ∀ (j : Nat) (f g : Fld), j < k → x.fields[j]? = some f → y.fields[j]? = some g → sameF f g = true}) (fun k => ⟨J, (sset (sset (sset (sset (sset (sset noSlots 2 (.d (.iptr [encS a]))) 3 (.d (.iptr [encS b]))) 5 (.d (int ((i : Nat) : Int)))) 6 (.ptr 61 0)) 7 (.ptr 62 0)) 8 (.d (int ((k.1 : Nat) : Int)))), (hset (hset noHeap 61 (some (.box 72 ((encT x).map .d)))) 62 (some (.box 72 ((encT y).map .d))))⟩) (fun k => x.fields.length - k.1) ⟨0, Nat.zero_le _, fun j f g hj => by omega⟩ (LE_sh (slh_set (slh_set (slh_set (slh_set (slh_set (slh_set (slh_no _ _) rfl rfl) rfl rfl) rfl rfl) rfl rfl) rfl rfl) rfl rfl) (hlh_set (hlh_set (hlh_no _ _) rfl rfl) rfl rfl)) fun ⟨k, hk, hq⟩ => ?_
     refine CW_seq ?_
     refine CW_seq ?_
     refine CW_region ?_
     refine OW_run' hE.ok 5 rfl ?_
     refine OW_end rfl ?_
     refine CW_cond _ rfl (fun h5 => ?_) (fun h5 => ?_)
     ·
      refine CW_know (know_sl (d := 49) rfl) fun hlen2 => ?_
      simp only [List.length_map] at hlen2
      have hkl : k < x.fields.length := by have := h5; simp at this; omega
      obtain ⟨f, hf⟩ : ∃ f, x.fields[k]? = some f := ⟨_, List.getElem?_eq_getElem hkl⟩
      obtain ⟨g, hg⟩ : ∃ g, y.fields[k]? = some g := ⟨_, List.getElem?_eq_getElem (by omega)⟩
      refine CW_skip ?_
      refine CW_seq ?_
      refine CW_block ?_
      refine CW_seq ?_
      refine CW_drawn' hE 10 (by decide +kernel) ?_
      refine HW_run hE 3 rfl rfl ?_
      refine HW_loc hE (loc_indexAddr hE rfl rfl rfl rfl rfl (by omega) (x := encF f) (by simp [hf])) rfl rfl rfl rfl ?_
      refine HW_run hE 4 rfl rfl ?_
      refine HW_loc hE (loc_indexAddr hE rfl rfl rfl rfl rfl (by omega) (x := encF g) (by simp [hg])) rfl rfl rfl rfl ?_
      refine HW_run hE 1 rfl rfl ?_
      refine HW_end ?_
      refine OW_loc' hE (loc_neq rfl rfl rfl (r := sameF f g) (eqLaw_flat T_ok (t := 69) rfl (by decide +kernel) rfl (X := encF f) (Y := encF g) rfl rfl rfl)) rfl rfl rfl ?_
      refine OW_end rfl ?_
      refine CW_cond _ rfl (fun h6 => ?_) (fun h6 => ?_)
      ·
       have hdiff : sameF f g = false := by simpa using h6
       refine CW_seq ?_
       refine CW_region ?_
       refine OW_run' hE.ok 1 rfl ?_
       refine OW_end rfl ?_
       refine CW_ret ?_
       refine ⟨.inr rfl, rfl, ⟨_, rfl, rfl, ?_⟩, rfl⟩
       exact AVle.of (congrArg (fun b => AV.d (boo b)) (by rw [sS_ty hx hy (sT_fld hf hg hdiff)]))
      ·
       have hsame : sameF f g = true := by simpa using h6
       refine CW_skip ?_
       refine CW_region ?_
       refine OW_run' hE.ok 3 rfl ?_
       refine OW_end rfl ?_
       refine ⟨⟨k + 1, by omega, fun j u v hj hu hv => ?_⟩, LE_sh (slh_set (v := .d (int ((k + 1 : Nat) : Int))) (slh_set (v := .ptr 62 0) (slh_set (v := .ptr 61 0) (slh_set (v := .d (int ((i : Nat) : Int))) (slh_set (v := .d (.iptr [encS b])) (slh_set (v := .d (.iptr [encS a])) (slh_no _ _) (by rfl) rfl) (by rfl) rfl) (by rfl) rfl) (by rfl) rfl) (by rfl) rfl) (by show AV.d (.lit (.int .i64 (IntKind.i64.wrap ((k : Int) + 1)))) = _; rw [wrap_succ (by omega)]; rfl) rfl) (hlh_set (hlh_set (hlh_no _ _) rfl rfl) rfl rfl), by show x.fields.length - (k + 1) < x.fields.length - k; omega⟩
       by_cases hjk : j = k
       · subst hjk; rw [hf] at hu; rw [hg] at hv; cases hu; cases hv; exact hsame
       · exact hq j u v (by omega) hu hv
     ·
      have hke : x.fields.length ≤ k := by have := h5; simp at this; omega
      obtain rfl : k = x.fields.length := by omega
      refine CW_exit ?_
      show CW _ _ _ _
      refine CW_region ?_
      refine OW_run' hE.ok 3 rfl ?_
      refine OW_end rfl ?_
      have hst : sameT x y = true := sT_ok g2 g3 (fun k f g hf hg => hq k f g (by have := (List.getElem?_eq_some_iff.1 hf).1; omega) hf hg)
      refine ⟨⟨i + 1, by omega, fun j u v hj hu hv => ?_⟩, LE_sh (slh_set (v := .d (int ((i + 1 : Nat) : Int))) (slh_set (v := .d (.iptr [encS b])) (slh_set (v := .d (.iptr [encS a])) (slh_no _ _) (by rfl) rfl) (by rfl) rfl) (by show AV.d (.lit (.int .i64 (IntKind.i64.wrap ((i : Int) + 1)))) = _; rw [wrap_succ (by omega)]; rfl) rfl) (hlh_no _ _), by show a.length - (i + 1) < a.length - i; omega⟩
      by_cases hji : j = i
      · subst hji; rw [hx] at hu; rw [hy] at hv; cases hu; cases hv; exact hst
      · exact hp j u v (by omega) hu hv
  ·
   have hge : a.length ≤ i := by have := h2; simp at this; omega
   refine CW_exit ?_
   show CW _ _ _ _
   refine CW_seq ?_
   refine CW_region ?_
   refine OW_run' hE.ok 1 rfl ?_
   refine OW_end rfl ?_
   refine CW_ret ?_
   refine ⟨.inr rfl, rfl, ⟨_, rfl, rfl, ?_⟩, rfl⟩
   exact AVle.of (congrArg (fun b => AV.d (boo b)) (by rw [sS_ok g1 (fun j x y hj => hp j x y (by have := (List.getElem?_eq_some_iff.1 hj).1; omega) hj)]))
end Go.Proofs.YtchpllgeahnmmaaDoor
namespace Go.Proofs.YtchpllgeahnmmaaDoor
open Go Go.AL
set_option linter.unusedVariables false
set_option linter.unusedSimpArgs false
set_option maxHeartbeats 4000000
theorem oneOk  : Does Tryd.prog 50 [] noHeap (argS oneS) := by
 refine Does_of T_ok mixed (N := 6) Tryd.func50 rfl rfl rfl (by rfl) fun F n Z hE hF J => ?_
 refine CW_seq ?_
 refine CW_region ?_
 refine OW_alloc' hE 1 rfl rfl rfl rfl rfl rfl rfl ?_
 refine OW_end rfl ?_
 refine CW_seq ?_
 refine CW_region ?_
 refine OW_build' hE rfl rfl rfl rfl rfl ?_
 refine OW_lits' hE rfl rfl rfl rfl rfl rfl rfl rfl rfl rfl rfl rfl ?_
 refine OW_build' hE rfl rfl rfl rfl rfl ?_
 refine OW_lits' hE rfl rfl rfl rfl rfl rfl rfl rfl rfl rfl rfl rfl ?_
 refine OW_build' hE rfl rfl rfl rfl rfl ?_
 refine OW_store' hE rfl rfl rfl rfl rfl rfl rfl rfl rfl rfl rfl rfl ?_
 refine OW_end rfl ?_
 refine CW_ret ?_
 refine ⟨.inr rfl, rfl, ⟨_, rfl, rfl, ?_⟩, rfl⟩
 exact AVle.refl _
theorem known4  : Does Tryd.prog 17 [] noHeap (.d (boo true)) := by
 refine Does_of T_ok mixed (N := 88) Tryd.func17 rfl rfl rfl (by rfl) fun F n Z hE hF J => ?_
 have q0 := applyOk oneS oneC1 one_s; rw [one_a1] at q0
 have q1 := applyOk oneS oneC2 one_s; rw [one_a2] at q1
 have q2 := applyOk oneS1 oneC3 one_s1; rw [one_a3] at q2
 have q3 := moveOk oneS oneC4 oneE one_s (by decide); rw [one_m] at q3
 have q4 := backOk oneC5 kZ; rw [one_b] at q4
 refine CW_seq ?_
 refine CW_region ?_
 refine OW_run' hE.ok 1 rfl ?_
 refine OW_end rfl ?_
 refine CW_seq ?_
 refine CW_region ?_
 refine OW_call' hE (oneOk) rfl rfl rfl rfl rfl rfl rfl ?_
 refine OW_build' hE rfl rfl rfl rfl rfl ?_
 refine OW_build' hE rfl rfl rfl rfl rfl ?_
 refine OW_call' hE (q0) rfl rfl rfl rfl rfl rfl rfl ?_
 refine OW_run' hE.ok 3 rfl ?_
 refine OW_alloc' hE 1 rfl rfl rfl rfl rfl rfl rfl ?_
 refine OW_store' hE rfl rfl rfl rfl rfl rfl rfl rfl rfl rfl rfl rfl ?_
 refine OW_run' hE.ok 1 rfl ?_
 refine OW_end rfl ?_
 refine CW_seq ?_
 refine CW_region ?_
 refine OW_call' hE (oneOk) rfl rfl rfl rfl rfl rfl rfl ?_
 refine OW_build' hE rfl rfl rfl rfl rfl ?_
 refine OW_call' hE (q1) rfl rfl rfl rfl rfl rfl rfl ?_
 refine OW_run' hE.ok 3 rfl ?_
 refine OW_alloc' hE 2 rfl rfl rfl rfl rfl rfl rfl ?_
 refine OW_store' hE rfl rfl rfl rfl rfl rfl rfl rfl rfl rfl rfl rfl ?_
 refine OW_run' hE.ok 1 rfl ?_
 refine OW_end rfl ?_
 refine CW_seq ?_
 refine CW_region ?_
 refine OW_run' hE.ok 1 rfl ?_
 refine OW_build' hE rfl rfl rfl rfl rfl ?_
 refine OW_call' hE (q2) rfl rfl rfl rfl rfl rfl rfl ?_
 refine OW_run' hE.ok 3 rfl ?_
 refine OW_alloc' hE 3 rfl rfl rfl rfl rfl rfl rfl ?_
 refine OW_store' hE rfl rfl rfl rfl rfl rfl rfl rfl rfl rfl rfl rfl ?_
 refine OW_run' hE.ok 1 rfl ?_
 refine OW_end rfl ?_
 refine CW_seq ?_
 refine CW_region ?_
 refine OW_call' hE (oneOk) rfl rfl rfl rfl rfl rfl rfl ?_
 refine OW_build' hE rfl rfl rfl rfl rfl ?_
 refine OW_build' hE rfl rfl rfl rfl rfl ?_
 refine OW_lits' hE rfl rfl rfl rfl rfl rfl rfl rfl rfl rfl rfl rfl ?_
 refine OW_build' hE rfl rfl rfl rfl rfl ?_
 refine OW_call' hE (q3) rfl rfl rfl rfl rfl rfl rfl ?_
 refine OW_alloc' hE 4 rfl rfl rfl rfl rfl rfl rfl ?_
 refine OW_store' hE rfl rfl rfl rfl rfl rfl rfl rfl rfl rfl rfl rfl ?_
 refine OW_end rfl ?_
 refine CW_seq ?_
 refine CW_region ?_
 refine OW_build' hE rfl rfl rfl rfl rfl ?_
 refine OW_call' hE (q4) rfl rfl rfl rfl rfl rfl rfl ?_
 refine OW_run' hE.ok 5 rfl ?_
 refine OW_end rfl ?_
 refine CW_seq ?_
 refine CW_region ?_
 refine OW_run' hE.ok 1 rfl ?_
 refine OW_loc' hE (loc_errEq hE rfl rfl (EN := 74) (z := 0) rfl) rfl rfl rfl ?_
 refine OW_run' hE.ok 9 rfl ?_
 refine OW_loc' hE (loc_indexAddr hE rfl rfl rfl rfl rfl (by omega) (x := encT ⟨kA, [⟨kX, 3⟩, ⟨kY, 1⟩]⟩) rfl) rfl rfl rfl ?_
 refine OW_run' hE.ok 8 rfl ?_
 refine OW_call' hE (errIs 13 13) rfl rfl rfl rfl rfl rfl rfl ?_
 refine OW_run' hE.ok 4 rfl ?_
 refine OW_call' hE (errIs 14 14) rfl rfl rfl rfl rfl rfl rfl ?_
 refine OW_run' hE.ok 10 rfl ?_
 refine OW_loc' hE (loc_indexAddr hE rfl rfl rfl rfl rfl (by omega) (x := encV ⟨1, 1, nul⟩) rfl) rfl rfl rfl ?_
 refine OW_run' hE.ok 1 rfl ?_
 refine OW_build' hE rfl rfl rfl rfl rfl ?_
 refine OW_loc' hE (loc_eql rfl rfl rfl (r := sameV ⟨1, 1, nul⟩ ⟨1, 1, nul⟩) (eqLaw_flat T_ok (t := 31) rfl (by decide +kernel) rfl (X := encV ⟨1, 1, nul⟩) (Y := encV ⟨1, 1, nul⟩) rfl rfl rfl)) rfl rfl rfl ?_
 refine OW_as' 79 (.d (boo true)) (congrArg (fun b => AV.d (boo b)) (sameV_rfl _)) ?_
 refine OW_run' hE.ok 7 rfl ?_
 refine OW_as' 86 (.d (boo true)) (congrArg (fun b => AV.d (boo b)) (same_refl kX)) ?_
 refine OW_run' hE.ok 1 rfl ?_
 refine OW_run' hE.ok 1 rfl ?_
 refine OW_end rfl ?_
 refine CW_ret ?_
 refine ⟨.inr rfl, rfl, ⟨[.d (boo true)], rfl, rfl, ?_⟩, rfl⟩
 exact AVle.refl _
end Go.Proofs.YtchpllgeahnmmaaDoor
