/- AL, part 4: one function tells what a plain operation gives. -/
import Derived.Test.YthffbfjnahipcaaA3
namespace Go.AL
set_option linter.unusedVariables false
set_option linter.unusedSimpArgs false

def intBin (op : BinOp) (k : IntKind) (a b : Int) : Option D :=
  match op with
  | .add => some (.lit (.int k (k.wrap (a + b))))
  | .sub => some (.lit (.int k (k.wrap (a - b))))
  | .mul => some (.lit (.int k (k.wrap (a * b))))
  | .quo => bif b == 0 then none else some (.lit (.int k (k.wrap (a.tdiv b))))
  | .rem => bif b == 0 then none else some (.lit (.int k (a.tmod b)))
  | .eql => some (.lit (.bool (a == b)))
  | .neq => some (.lit (.bool (a != b)))
  | .lss => some (.lit (.bool (decide (a < b))))
  | .leq => some (.lit (.bool (decide (a ≤ b))))
  | .gtr => some (.lit (.bool (decide (a > b))))
  | .geq => some (.lit (.bool (decide (a ≥ b))))
  | _ => none
def strBin (op : BinOp) (a b : ByteArray) : Option D :=
  match op with
  | .eql => some (.lit (.bool (a.toList == b.toList)))
  | .neq => some (.lit (.bool (!(a.toList == b.toList))))
  | .lss => some (.lit (.bool (Op.bytesLess a.toList b.toList)))
  | .leq => some (.lit (.bool (Op.bytesLess a.toList b.toList || a.toList == b.toList)))
  | .gtr => some (.lit (.bool (!(Op.bytesLess a.toList b.toList || a.toList == b.toList))))
  | .geq => some (.lit (.bool (!Op.bytesLess a.toList b.toList)))
  | _ => none
def boolBin (op : BinOp) (a b : Bool) : Option D :=
  match op with
  | .eql => some (.lit (.bool (a == b)))
  | .neq => some (.lit (.bool (!(a == b))))
  | _ => none

theorem wrap_ok (k : IntKind) (n : Int) : k.min ≤ k.wrap n ∧ k.wrap n ≤ k.max := by
  cases k <;> simp [IntKind.min, IntKind.max, IntKind.wrap, IntKind.signed, IntKind.bits] <;> (try split) <;> omega
theorem wrap_id (k : IntKind) (n : Int) (h0 : k.min ≤ n) (h1 : n ≤ k.max) : k.wrap n = n := by
  cases k <;> simp [IntKind.min, IntKind.max, IntKind.signed, IntKind.bits] at h0 h1 <;> simp [IntKind.wrap, IntKind.signed, IntKind.bits] <;> (try split) <;> omega
theorem tmod_le_self (m : Nat) (b : Int) : 0 ≤ (m : Int).tmod b ∧ (m : Int).tmod b ≤ m := by
  cases b with
  | ofNat n => exact ⟨Int.natCast_nonneg _, Int.ofNat_le.2 (Nat.mod_le m n)⟩
  | negSucc n => exact ⟨Int.natCast_nonneg _, Int.ofNat_le.2 (Nat.mod_le m (n + 1))⟩
theorem tmod_ok (k : IntKind) (a b : Int) (h0 : k.min ≤ a) (h1 : a ≤ k.max) : k.min ≤ a.tmod b ∧ a.tmod b ≤ k.max := by
  have h4 : k.min ≤ 0 := by cases k <;> simp [IntKind.min, IntKind.signed, IntKind.bits]
  have h5 : 0 ≤ k.max := by cases k <;> simp [IntKind.max, IntKind.signed, IntKind.bits]
  rcases Int.le_total 0 a with h | h
  · obtain ⟨m, rfl⟩ := Int.eq_ofNat_of_zero_le h
    have := tmod_le_self m b
    omega
  · obtain ⟨m, hm⟩ := Int.eq_ofNat_of_zero_le (show 0 ≤ -a by omega)
    have e : a.tmod b = -((m : Int).tmod b) := by rw [← hm, Int.neg_tmod]; omega
    have := tmod_le_self m b
    omega

def isConstB : Operand → Bool
  | .const _ => true
  | _ => false
def nilBin (op : BinOp) (r : Bool) : Option D :=
  match op with
  | .eql => some (.lit (.bool r))
  | .neq => some (.lit (.bool (!r)))
  | _ => none
def TK.isBool : TK → Bool
  | .bool => true
  | _ => false
def TK.isIface : TK → Bool
  | .iface => true
  | _ => false
theorem TK.of_isBool {x : TK} (h : x.isBool = true) : x = .bool := by cases x <;> simp [TK.isBool] at h; rfl
theorem TK.of_isIface {x : TK} (h : x.isIface = true) : x = .iface := by cases x <;> simp [TK.isIface] at h; rfl
def stepBin (T : Nat → Option TI) (op : BinOp) (t : TypeId) (c : Bool) (X Y : AV) : Option AV :=
  match X, Y with
  | .d (.lit (.int k a)), .d (.lit (.int k' b)) => if k = k' then (intBin op k a b).map .d else none
  | .d (.lit (.string a)), .d (.lit (.string b)) => (strBin op a b).map .d
  | .d (.lit (.bool a)), .d (.lit (.bool b)) => match T t with
    | some ti => bif ti.k.isBool then (boolBin op a b).map .d else none
    | none => none
  | .d (.iface _ _), .d (.lit .nilIface) => match T t with
    | some ti => bif ti.k.isIface then (nilBin op false).map .d else none
    | none => none
  | .d (.lit .nilIface), .d (.lit .nilIface) => match T t with
    | some ti => bif ti.k.isIface && c then (nilBin op true).map .d else none
    | none => none
  | _, _ => none
def stepLen (T : Nat → Option TI) (h : Heap) (t : TypeId) (X : AV) : Option AV :=
  match T t, X with
  | some ⟨.slice _, _, _, _⟩, .d (.sl _ _ xs) => some (.d (.lit (.int .i64 xs.length)))
  | some ⟨.slice _, _, _, _⟩, .d (.lit (.slice _ n _)) => some (.d (.lit (.int .i64 n)))
  | some ⟨.slice _, _, _, _⟩, .row k => match h k with
    | some (.row _ _ xs) => some (.d (.lit (.int .i64 xs.length)))
    | _ => none
  | some ⟨.str, _, _, _⟩, .d (.lit (.string b)) => some (.d (.lit (.int .i64 b.size)))
  | _, _ => none
def stepConv (T : Nat → Option TI) (src dst : TypeId) (X : AV) : Option AV :=
  match T src, T dst, X with
  | some _, some ⟨.int k, _, _, _⟩, .d (.lit (.int _ n)) => some (.d (.lit (.int k (k.wrap n))))
  | some _, some ⟨.str, _, _, _⟩, .d (.lit (.string b)) => some (.d (.lit (.string b)))
  | _, _, _ => none

def structOf (T : Nat → Option TI) (t f : Nat) : Option (TI × Nat) :=
  match T t with
  | some ⟨.struct fs, _, _, _⟩ => match fs[f]? with
    | some (ft, off) => match T ft with
      | some fti => some (fti, off)
      | none => none
    | none => none
  | _ => none

def litCells : List Value → Option (List AV)
  | [] => some []
  | v :: r => bif okLitB v then (litCells r).map (.d (.lit v) :: ·) else none
theorem litCells_ok {C : Cx} : ∀ {vs : List Value} {cs : List AV}, litCells vs = some cs → RAs C cs vs
  | [], cs, h => by simp [litCells] at h; subst h; simp [RAs]
  | v :: r, cs, h => by
    simp only [litCells] at h
    cases hv : okLitB v with
    | false => rw [hv] at h; simp at h
    | true =>
      rw [hv] at h
      simp at h
      obtain ⟨t, ht, rfl⟩ := h
      simp only [RAs]
      exact ⟨v, r, rfl, RA_lit_mk (okLit_of_B hv), litCells_ok ht⟩

def stepPure (T : Nat → Option TI) (h : Heap) (s : Slots) : Op → Option AV
  | .move x | .assign x => some (ev s x)
  | .pick c a b => match ev s c with
    | .d (.lit (.bool true)) => some (ev s a)
    | .d (.lit (.bool false)) => some (ev s b)
    | _ => none
  | .box t x => bif cellsOk (ev s x) then (allD (cellsOf (ev s x))).map fun ds => .d (.iptr ds) else none
  | .load t x => match T t with
    | some ti => match ev s x with
      | .d (.iptr cs) => ofCells ti.k.isAgg ti.size (cs.map .d)
      | .ptr k o => match h k with
        | some (.box _ cs) => ofCells ti.k.isAgg ti.size (cs.drop o)
        | _ => none
      | _ => none
    | none => none
  | .fieldAddr t x f => match structOf T t f with
    | some (fti, off) => bif Nat.beq fti.size 0 then none else match ev s x with
      | .d (.iptr cs) => some (.d (.iptr (cs.drop off)))
      | .ptr k o => some (.ptr k (o + off))
      | _ => none
    | none => none
  | .field t x f => match structOf T t f with
    | some (fti, off) => match ev s x with
      | .agg cs => ofCells fti.k.isAgg fti.size (cs.drop off)
      | _ => none
    | none => none
  | .binOp op t x y _ => stepBin T op t (isConstB y) (ev s x) (ev s y)
  | .unOp op _ x => match op, ev s x with
    | .not, .d (.lit (.bool b)) => some (.d (.lit (.bool (!b))))
    | .neg, .d (.lit (.int k n)) => some (.d (.lit (.int k (k.wrap (0 - n)))))
    | _, _ => none
  | .convert src dst x => stepConv T src dst (ev s x)
  | .makeInterface t x => match T t, ev s x with
    | some ⟨.iface, _, _, _⟩, _ => none
    | some _, .d y => some (.d (.iface t y))
    | _, _ => none
  | .makeFunc f first cap => match allD (first.toList.map (ev s)), allD (cap.toList.map (ev s)) with
    | some a, some b => some (.d (.fn f a b))
    | _, _ => some (.fn f (first.toList.map (ev s)) (cap.toList.map (ev s)))
  | .extract x i => match ev s x with
    | .tup vs => vs[i]?
    | _ => none
  | .nilCheck x => match ev s x with
    | .d (.iptr cs) => some (.d (.iptr cs))
    | .ptr k o => some (.ptr k o)
    | _ => none
  | .call ⟨.builtin .len, args, ts⟩ => match args[0]?, ts[0]? with
    | some x, some t => stepLen T h t (ev s x)
    | _, _ => none
  | _ => none

def OGives (P : Program) (Z : Nat → Prop) (h : Heap) (ι : Nat → Value) (r : Sem Next) (w : World) (x : AV) : Prop :=
  ∃ v w', r.run P w = .ok (.value v) w' ∧ Grew w w' ∧ RA (cx Z h ι w') x v

section
variable {P : Program} {T : Nat → Option TI} {Z : Nat → Prop} {h : Heap} {ι : Nat → Value} {w : World}
theorem OGives.of {r : Sem Value} {x : AV} (g : Gives P Z h ι r w x) : OGives P Z h ι (do pure (.value (← r))) w x := by
  obtain ⟨v, w', h1, h2, h3⟩ := g
  exact ⟨v, w', by simp [h1], h2, h3⟩

theorem eq_bool_ (d : Nat) {t : TypeId} (hu : P.underlying t = some .bool) (a b : Bool) (w : World) : (Op.equalIn (d + 1) t (.bool a) (.bool b)).run P w = .ok (a == b) w := by
  simp [Op.equalIn, run_underlying hu]
theorem eq_bool {t : TypeId} (hu : P.underlying t = some .bool) (a b : Bool) (w : World) : (Op.equal t (.bool a) (.bool b)).run P w = .ok (a == b) w := eq_bool_ 9999 hu a b w
theorem eq_held_ (d : Nat) {t : TypeId} {ms : Array (String × TypeId)} (hu : P.underlying t = some (.interface ms)) (u : TypeId) (v : Value) (w : World) : (Op.equalIn (d + 1) t (.iface u v) .nilIface).run P w = .ok false w := by
  simp [Op.equalIn, run_underlying hu]
theorem eq_held {t : TypeId} {ms : Array (String × TypeId)} (hu : P.underlying t = some (.interface ms)) (u : TypeId) (v : Value) (w : World) : (Op.equal t (.iface u v) .nilIface).run P w = .ok false w := eq_held_ 9999 hu u v w
theorem eq_nils_ (d : Nat) {t : TypeId} {ms : Array (String × TypeId)} (hu : P.underlying t = some (.interface ms)) (w : World) : (Op.equalIn (d + 1) t .nilIface .nilIface).run P w = .ok true w := by
  simp [Op.equalIn, run_underlying hu]
theorem eq_nils {t : TypeId} {ms : Array (String × TypeId)} (hu : P.underlying t = some (.interface ms)) (w : World) : (Op.equal t .nilIface .nilIface).run P w = .ok true w := eq_nils_ 9999 hu w
theorem g_binop (hT : TOk P T) {op : BinOp} {t : TypeId} {xo yo : Operand} {x y : Value} {X Y : AV} {R : AV} (hx : RA (cx Z h ι w) X x) (hy : RA (cx Z h ι w) Y y)
    (hr : stepBin T op t (isConstB yo) X Y = some R) : Gives P Z h ι (do eqGuard op t xo yo x y; binOp op t x y) w R := by
  unfold stepBin at hr
  split at hr
  · rename_i k a k' b
    obtain ⟨rfl, ox⟩ := RA_lit.1 hx
    obtain ⟨rfl, oy⟩ := RA_lit.1 hy
    split at hr
    · rename_i hk
      subst hk
      have hg : (eqGuard op t xo yo (.int k a) (.int k b)).run P w = .ok () w := by
        unfold eqGuard; split <;> simp
      cases op <;> simp only [intBin] at hr <;> (try (cases hb : b == 0 <;> simp only [hb, cond_true, cond_false] at hr)) <;> simp at hr <;> subst hr <;>
        refine Gives.of_run (v := _) (by simp only [Sem.run_bind, hg, Result.andThen_ok]; simp [binOp, Op.intArith, Op.intDiv, Op.intCmp]; try (first | rfl | (rw [if_neg (by simpa using hb)]))) ?_ <;>
        refine RA_lit_mk ?_ <;> first | trivial | exact wrap_ok _ _ | exact tmod_ok _ _ _ ox.1 ox.2
    · cases hr
  · rename_i a b
    obtain ⟨rfl, hx⟩ := RA_lit.1 hx
    obtain ⟨rfl, hy⟩ := RA_lit.1 hy
    have hg : (eqGuard op t xo yo (.string a) (.string b)).run P w = .ok () w := by
      unfold eqGuard; split <;> simp
    cases op <;> simp only [strBin] at hr <;> simp at hr <;> subst hr <;>
      refine Gives.of_run (v := _) (by simp only [Sem.run_bind, hg, Result.andThen_ok]; simp [binOp, Op.stringOp]) (RA_lit_mk trivial)
  · rename_i a b
    obtain ⟨rfl, hx⟩ := RA_lit.1 hx
    obtain ⟨rfl, hy⟩ := RA_lit.1 hy
    have hg : (eqGuard op t xo yo (.bool a) (.bool b)).run P w = .ok () w := by
      unfold eqGuard; split <;> simp
    split at hr
    · rename_i ti ht
      cases hi : ti.k.isBool with
      | false => rw [hi] at hr; cases hr
      | true =>
        rw [hi] at hr
        have hu := (hT t _ ht).2
        rw [TK.of_isBool hi] at hu
        simp only [TK.fits] at hu
        cases op <;> simp only [boolBin] at hr <;> simp at hr <;> subst hr <;>
          refine Gives.of_run (v := _) (by simp only [Sem.run_bind, hg, Result.andThen_ok]; simp [binOp, eq_bool hu]) (RA_lit_mk trivial)
    · cases hr
  · rename_i ti d
    simp only [RA, RD] at hx
    obtain ⟨u, rfl, hx⟩ := hx
    obtain ⟨rfl, hy⟩ := RA_lit.1 hy
    have hg : (eqGuard op t xo yo (.iface ti u) .nilIface).run P w = .ok () w := by
      unfold eqGuard; split <;> simp
    split at hr
    · rename_i tj ht
      cases hi : tj.k.isIface with
      | false => rw [hi] at hr; cases hr
      | true =>
        rw [hi] at hr
        have hu := (hT t _ ht).2
        rw [TK.of_isIface hi] at hu
        obtain ⟨ms, hu⟩ := hu
        cases op <;> simp only [nilBin] at hr <;> simp at hr <;> subst hr <;>
          refine Gives.of_run (v := _) (by simp only [Sem.run_bind, hg, Result.andThen_ok]; simp [binOp, eq_held hu]) (RA_lit_mk trivial)
    · cases hr
  · obtain ⟨rfl, hx⟩ := RA_lit.1 hx
    obtain ⟨rfl, hy⟩ := RA_lit.1 hy
    split at hr
    · rename_i tj ht
      cases hi : tj.k.isIface with
      | false => rw [hi] at hr; cases hr
      | true =>
        cases hc : isConstB yo with
        | false => rw [hi, hc] at hr; cases hr
        | true =>
          rw [hi, hc] at hr
          have hu := (hT t _ ht).2
          rw [TK.of_isIface hi] at hu
          obtain ⟨ms, hu⟩ := hu
          cases yo <;> simp [isConstB] at hc
          rename_i c
          have hg : (eqGuard op t xo (.const c) .nilIface .nilIface).run P w = .ok () w := by
            unfold eqGuard; split <;> simp
          cases op <;> simp only [nilBin] at hr <;> simp at hr <;> subst hr <;>
            refine Gives.of_run (v := _) (by simp only [Sem.run_bind, hg, Result.andThen_ok]; simp [binOp, eq_nils hu]) (RA_lit_mk trivial)
    · cases hr
  · cases hr
end
end Go.AL
