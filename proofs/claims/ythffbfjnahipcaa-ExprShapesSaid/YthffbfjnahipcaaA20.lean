/- AL, part 20: the rules at states told apart. -/
import Derived.Test.YthffbfjnahipcaaA19
namespace Go.AL
set_option linter.unusedVariables false
section
variable {E : Env} {ops : List Oper} {Q : Exit → St → Prop} {c : Code} {i : Nat} {J : Jt} {s : Slots} {h : Heap}
theorem OW_run' (hE : E.Ok) (m : Nat) {s' : Slots} (hp : runPure E ops h m i s = some s') (hk' : OW E ops (i + m) Q ⟨J, s', h⟩) : OW E ops i Q ⟨J, s, h⟩ :=
  OW_run (st := ⟨J, s, h⟩) hE m hp hk'
theorem OW_call' (hE : E.Good) {f : Nat} {L : List AV} {R : AV} (hc : Does E.P f L noHeap R) {o : Oper} {fo : Operand} {args : Array Operand} {ts : Array TypeId} (ho : ops[i]? = some o) (hop : o.op = .call ⟨.value fo, args, ts⟩) (hw : awant ops o s = some true)
    (hL : callArgs s fo args.toList = some (f, L)) (hk : kfs L = true) (hR : kf R = true) {s' : Slots} (hs : putS E.N s o.dst R = some s') (hk' : OW E ops (i + 1) Q ⟨J, s', h⟩) : OW E ops i Q ⟨J, s, h⟩ :=
  OW_call (st := ⟨J, s, h⟩) hE hc ho hop hw hL hk hR hs hk'
theorem OW_alloc' (hE : E.Good) (k : Nat) {o : Oper} {t : TypeId} (ho : ops[i]? = some o) (hop : o.op = .alloc t) (hw : awant ops o s = some true) (hk : h k = none) {ti : TI} (ht : E.T t = some ti) {cs : List AV} (hz : litCells ti.zero = some cs)
    {s' : Slots} (hs : putS E.N s o.dst (.ptr k 0) = some s') (hk' : OW E ops (i + 1) Q ⟨J, s', hset h k (some (.box t cs))⟩) : OW E ops i Q ⟨J, s, h⟩ :=
  OW_alloc (st := ⟨J, s, h⟩) hE k ho hop hw hk ht hz hs hk'
theorem OW_box' (hE : E.Good) (k : Nat) {o : Oper} {t : TypeId} {x : Operand} (ho : ops[i]? = some o) (hop : o.op = .box t x) (hw : awant ops o s = some true) (hk : h k = none) (hc : cellsOk (ev s x) = true)
    {s' : Slots} (hs : putS E.N s o.dst (.ptr k 0) = some s') (hk' : OW E ops (i + 1) Q ⟨J, s', hset h k (some (.box t (cellsOf (ev s x))))⟩) : OW E ops i Q ⟨J, s, h⟩ :=
  OW_box (st := ⟨J, s, h⟩) hE k ho hop hw hk hc hs hk'
theorem OW_store' (hE : E.Good) {o : Oper} {t : TypeId} {p x : Operand} (ho : ops[i]? = some o) (hop : o.op = .store t p x) (hw : awant ops o s = some true) (hdst : o.dst = none) {ti : TI} (ht : E.T t = some ti) {k off : Nat} (hp : ev s p = .ptr k off)
    {bt : TypeId} {cs : List AV} (hk : h k = some (.box bt cs)) {vs : List AV} (hv : cellsOf (ev s x) = vs) (hc : cellsOk (ev s x) = true) (h1 : oneAll vs = true) (hl : Nat.beq vs.length ti.size = true) (hfit : Nat.ble (off + vs.length) cs.length = true)
    (hk' : OW E ops (i + 1) Q ⟨J, s, hset h k (some (.box bt (overwrite cs off vs)))⟩) : OW E ops i Q ⟨J, s, h⟩ :=
  OW_store (st := ⟨J, s, h⟩) hE ho hop hw hdst ht hp hk hv hc h1 hl hfit hk'
theorem OW_build' (hE : E.Good) {o : Oper} {t : TypeId} {parts : Array (Nat × Operand)} (ho : ops[i]? = some o) (hop : o.op = .build t parts) (hw : awant ops o s = some true) {R : AV} (hR : stepBuild E.T s t parts.toList = some R)
    {s' : Slots} (hs : putS E.N s o.dst R = some s') (hk' : OW E ops (i + 1) Q ⟨J, s', h⟩) : OW E ops i Q ⟨J, s, h⟩ :=
  OW_build (st := ⟨J, s, h⟩) hE ho hop hw hR hs hk'
theorem OW_lits' (hE : E.Good) {o : Oper} {t e : TypeId} {len : Nat} {parts : Array (Nat × Operand)} (ho : ops[i]? = some o) (hop : o.op = .buildSlice t len parts) (hw : awant ops o s = some true) {z1 z2 : Nat} {z3 : List Value} (ht : E.T t = some ⟨.slice e, z1, z2, z3⟩)
    {k : TK} {sz bts : Nat} {z6 : List Value} (hte : E.T e = some ⟨k, sz, bts, z6⟩) (hpos : Nat.ble 1 sz = true) (hlen : parts.size = len) (hsmall : Nat.ble (len * sz) 16777216 = true) (hbts : Nat.ble (len * bts) 16777216 = true) (hl2 : Nat.ble len 16777216 = true) {xs : List (List D)} (hx : partsD s sz 0 parts.toList = some xs)
    {s' : Slots} (hs : putS E.N s o.dst (.d (.sl sz bts xs)) = some s') (hk' : OW E ops (i + 1) Q ⟨J, s', h⟩) : OW E ops i Q ⟨J, s, h⟩ :=
  OW_lits (st := ⟨J, s, h⟩) hE ho hop hw ht hte hpos hlen hsmall hbts hl2 hx hs hk'
theorem OW_litsOwn' (hE : E.Good) (key : Nat) {o : Oper} {t e : TypeId} {len : Nat} {parts : Array (Nat × Operand)} (ho : ops[i]? = some o) (hop : o.op = .buildSlice t len parts) (hw : awant ops o s = some true) (hkey : h key = none) {z1 z2 : Nat} {z3 : List Value} (ht : E.T t = some ⟨.slice e, z1, z2, z3⟩)
    {ti : TI} (hte : E.T e = some ti) (hpos : Nat.ble 1 ti.size = true) (hlen : parts.size = len) (hsmall : Nat.ble (len * ti.size) 16777216 = true) (hl2 : Nat.ble len 16777216 = true) {xs : List (List D)} (hx : partsD s ti.size 0 parts.toList = some xs)
    {s' : Slots} (hs : putS E.N s o.dst (.row key) = some s') (hk' : OW E ops (i + 1) Q ⟨J, s', hset h key (some (.row e ti.size xs))⟩) : OW E ops i Q ⟨J, s, h⟩ :=
  OW_litsOwn (st := ⟨J, s, h⟩) hE key ho hop hw hkey ht hte hpos hlen hsmall hl2 hx hs hk'
theorem OW_loc' {o : Oper} (hE : E.Good) {R : AV} (hl : Loc E ops J h o s R) (ho : ops[i]? = some o) (hw : awant ops o s = some true) {s' : Slots} (hs : putS E.N s o.dst R = some s') (hk : OW E ops (i + 1) Q ⟨J, s', h⟩) : OW E ops i Q ⟨J, s, h⟩ :=
  OW_loc (st := ⟨J, s, h⟩) hE hl ho hw hs hk
theorem OW_yield' (hE : E.Good) {l : Nat} {ys : List (List AV)} {C : Nat → Jt} {X : Jt} (hy : YieldSpec E.P l ys C X) (hC : ∀ i, Mono (C i)) (hX : Mono X) {W : Jt → Jt} (hW : Wrap E.Z W) (k : Nat)
    {o : Oper} {fo : Operand} {args : Array Operand} {ts : Array TypeId} (ho : ops[i]? = some o) (hop : o.op = .call ⟨.value fo, args, ts⟩) (hw : awant ops o s = some true) (hJ : J = W (C k)) (hf : ev s fo = .d (.fn (.yield l) [] []))
    {L : List AV} (hL : args.toList.map (ev s) = L) (hk : ys[k]? = some L) (hkf : kfs L = true) {s1 s2 : Slots} (hs1 : putS E.N s o.dst (.d (.lit (.bool true))) = some s1) (hs2 : putS E.N s o.dst (.d (.lit (.bool false))) = some s2)
    (h1 : OW E ops (i + 1) Q ⟨W (C (k + 1)), s1, h⟩) (h2 : OW E ops (i + 1) Q ⟨W X, s2, h⟩) : OW E ops i Q ⟨J, s, h⟩ :=
  OW_yield (st := ⟨J, s, h⟩) hE hy hC hX hW k ho hop hw hJ hf hL hk hkf hs1 hs2 h1 h2
theorem OW_split' (d : Nat) {b : Bool} (hs : s d = .d (.lit (.bool b))) (ht : b = true → OW E ops i Q ⟨J, sset s d (.d (.lit (.bool true))), h⟩) (hf : b = false → OW E ops i Q ⟨J, sset s d (.d (.lit (.bool false))), h⟩) : OW E ops i Q ⟨J, s, h⟩ :=
  OW_split (st := ⟨J, s, h⟩) d hs ht hf
theorem OW_as' (d : Nat) (v : AV) (hs : s d = v) (hk : OW E ops i Q ⟨J, sset s d v, h⟩) : OW E ops i Q ⟨J, s, h⟩ :=
  OW_as (st := ⟨J, s, h⟩) d v hs hk
theorem CW_split' (d : Nat) {b : Bool} (hs : s d = .d (.lit (.bool b))) (ht : b = true → CW E c Q ⟨J, sset s d (.d (.lit (.bool true))), h⟩) (hf : b = false → CW E c Q ⟨J, sset s d (.d (.lit (.bool false))), h⟩) : CW E c Q ⟨J, s, h⟩ :=
  CW_split (st := ⟨J, s, h⟩) d hs ht hf
theorem CW_as' (d : Nat) (v : AV) (hs : s d = v) (hk : CW E c Q ⟨J, sset s d v, h⟩) : CW E c Q ⟨J, s, h⟩ :=
  CW_as (st := ⟨J, s, h⟩) d v hs hk
theorem OW_append' (hE : E.Good) {key : Nat} {o : Oper} {t e : TypeId} {so xo : Operand} (ho : ops[i]? = some o) (hop : o.op = .call ⟨.builtin .append, #[so, xo], #[t, t]⟩) (hw : awant ops o s = some true) {z1 z2 : Nat} {z3 : List Value} (ht : E.T t = some ⟨.slice e, z1, z2, z3⟩)
    {k : TK} {sz bts : Nat} {z6 : List Value} (hte : E.T e = some ⟨k, sz, bts, z6⟩) (hpos : Nat.ble 1 sz = true) (hso : ev s so = .row key) {xs : List (List D)} (hkey : h key = some (.row e sz xs)) {ys : List (List D)} (hxo : ev s xo = .d (.sl sz bts ys) ∨ (ev s xo = .d (.lit (.slice none 0 0)) ∧ ys = []))
    (hn : xs.length + ys.length ≤ 140737488355328) (hb : (xs.length + ys.length) * bts ≤ 140737488355328)
    {s' : Slots} (hs : putS E.N (unkS key s) o.dst (.row key) = some s') (hk' : OW E ops (i + 1) Q ⟨J, s', hset (unkH key h) key (some (.row e sz (xs ++ ys)))⟩) : OW E ops i Q ⟨J, s, h⟩ :=
  OW_append (st := ⟨J, s, h⟩) hE ho hop hw ht hte hpos hso hkey hxo hn hb hs hk'
theorem OW_appendNil' (hE : E.Good) (key : Nat) {o : Oper} {t e : TypeId} {so xo : Operand} (ho : ops[i]? = some o) (hop : o.op = .call ⟨.builtin .append, #[so, xo], #[t, t]⟩) (hw : awant ops o s = some true) (hkey : h key = none) {z1 z2 : Nat} {z3 : List Value} (ht : E.T t = some ⟨.slice e, z1, z2, z3⟩)
    {k : TK} {sz bts : Nat} {z6 : List Value} (hte : E.T e = some ⟨k, sz, bts, z6⟩) (hpos : Nat.ble 1 sz = true) (hso : ev s so = .d (.lit (.slice none 0 0))) {ys : List (List D)} (hxo : ev s xo = .d (.sl sz bts ys) ∨ (ev s xo = .d (.lit (.slice none 0 0)) ∧ ys = []))
    (hn : ys.length ≤ 140737488355328) (hb : ys.length * bts ≤ 140737488355328)
    {s' : Slots} (hs : putS E.N s o.dst (.row key) = some s') (hk' : OW E ops (i + 1) Q ⟨J, s', hset h key (some (.row e sz ys))⟩) : OW E ops i Q ⟨J, s, h⟩ :=
  OW_appendNil (st := ⟨J, s, h⟩) hE key ho hop hw hkey ht hte hpos hso hxo hn hb hs hk'
theorem CW_drawn' (hE : E.Good) (n : Nat) {id : Nat} (hB : Region.lexTailB .any ops.toArray n = true) (hq : HW E ops J h n 0 (fun s => OW E ops n Q ⟨J, s, h⟩) s) : CW E (.region id ops.toArray true) Q ⟨J, s, h⟩ :=
  CW_drawn (st := ⟨J, s, h⟩) hE n hB hq
theorem OW_skip' {o : Oper} (ho : ops[i]? = some o) (hE : E.Ok) (hw : awant ops o s = some false) {s' : Slots} (hs : putS E.N s o.dst (.tup []) = some s') (hk' : OW E ops (i + 1) Q ⟨J, s', h⟩) : OW E ops i Q ⟨J, s, h⟩ :=
  OW_skip (st := ⟨J, s, h⟩) ho hE hw hs hk'
end
end Go.AL
