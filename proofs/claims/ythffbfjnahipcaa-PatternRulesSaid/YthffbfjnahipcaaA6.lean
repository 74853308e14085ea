/- AL, part 6: code over abstract states. -/
import Derived.Test.YthffbfjnahipcaaA5
namespace Go.AL
set_option linter.unusedVariables false
set_option linter.unusedSimpArgs false

/-- What is to be kept, in terms of what must be left alone (K), what may turn behind the frame's back (Y), and what data keeps clear of (Z). -/
abbrev Jt := (Nat → Prop) → (Nat → Prop) → (Nat → Prop) → World → Prop
structure Mono (J : Jt) : Prop where
  closed : ∀ K Y Z, Closed K (J K Y Z)
  mono : ∀ K K2 Y Z Z2 w, J K Y Z w → (∀ b, K b → K2 b) → (∀ b, K2 b → K b ∨ isCells w b) → (∀ b, K b → Z b → Z2 b) → (∀ b, Z2 b → Z b ∨ w.heap.size ≤ b) → J K2 Y Z2 w
structure St where
  J : Jt
  s : Slots
  h : Heap

/-- What stands still in a walk: the program, the fence, the blocks to be left alone, the number of temporaries. -/
structure Env where
  P : Program
  T : Nat → Option TI
  F : Fence
  n : Nat
  Z : Nat → Prop
  N : Nat
structure Env.Ok (E : Env) : Prop where
  T : TOk E.P E.T
  fn : ∀ f, E.F.fn f
  depth : E.F.depth = none
  mixed : E.P.follows .mixedOrders = true

/-- All three may grow while others are at work. -/
def RelS (E : Env) (st : St) (ι : Nat → Value) (a : Act) (w : World) : Prop :=
  ∃ Z K Y, ((∀ b, E.Z b → Z b) ∧ (∀ b, Y b → Z b) ∧ Mono st.J) ∧ Rel Z K E.N (st.J K Y Z) st.s st.h ι a w
def LE (E : Env) (st st' : St) : Prop := ∀ ι a w, RelS E st ι a w → ∃ ι', RelS E st' ι' a w
theorem LE.refl (E : Env) (st : St) : LE E st st := fun ι a w h => ⟨ι, h⟩
theorem LE.trans {E : Env} {a b c : St} (h : LE E a b) (k : LE E b c) : LE E a c := fun ι x w r => let ⟨ι', r'⟩ := h ι x w r; k ι' x w r'

def Post (E : Env) (Q : Exit → St → Prop) : Exit → Act → World → Prop := fun e a w => ∃ st ι, Q e st ∧ RelS E st ι a w
def CW (E : Env) (c : Code) (Q : Exit → St → Prop) (st : St) : Prop := ∀ ι a w, RelS E st ι a w → c.wpIn E.F E.n E.P (Post E Q) a w

section
variable {E : Env} {Q : Exit → St → Prop} {st : St} {c x y : Code}

theorem CW.le {st' : St} (hle : LE E st st') (h : CW E c Q st') : CW E c Q st := fun ι a w r => let ⟨ι', r'⟩ := hle ι a w r; h ι' a w r'
theorem CW.mono {Q' : Exit → St → Prop} (h : CW E c Q st) (hq : ∀ e st, Q e st → Q' e st) : CW E c Q' st :=
  fun ι a w r => wpIn_mono (h ι a w r) fun e a w ⟨st, ι, q, r⟩ => ⟨st, ι, hq _ _ q, r⟩
theorem CW_skip (h : Q .normal st) : CW E .skip Q st := fun ι a w r => wpIn_skip ⟨st, ι, h, r⟩
theorem CW_ret (h : Q .ret st) : CW E .ret Q st := fun ι a w r => wpIn_ret ⟨st, ι, h, r⟩
theorem CW_exit {id : Nat} (h : Q (.exit id) st) : CW E (.exit id) Q st := fun ι a w r => wpIn_exit ⟨st, ι, h, r⟩

@[reducible] def thenQ (K : St → Prop) (Q : Exit → St → Prop) : Exit → St → Prop
  | .normal, st => K st
  | e, st => Q e st
theorem CW_seq (h : CW E x (thenQ (CW E y Q) Q) st) : CW E (.seq x y) Q st := fun ι a w r => by
  refine wpIn_seq (wpIn_mono (h ι a w r) fun e a w ⟨st, ι, q, r⟩ => ?_)
  cases e <;> first | exact q ι a w r | exact ⟨st, ι, q, r⟩
@[reducible] def blockQ (id : Nat) (Q : Exit → St → Prop) : Exit → St → Prop
  | .exit id', st => if id' = id then Q .normal st else Q (.exit id') st
  | e, st => Q e st
theorem CW_block {id : Nat} (h : CW E x (blockQ id Q) st) : CW E (.block id x) Q st := fun ι a w r => by
  refine wpIn_block (wpIn_mono (h ι a w r) fun e a w ⟨st, ι, q, r⟩ => ?_)
  cases e with
  | exit id' =>
    by_cases hid : id' = id
    · simp only [blockQ, hid, if_true] at q; simp only [Exit.inBlock, hid, if_true]; exact ⟨st, ι, q, r⟩
    · simp only [blockQ, hid, if_false] at q; simp only [Exit.inBlock, hid, if_false]; exact ⟨st, ι, q, r⟩
  | _ => exact ⟨st, ι, q, r⟩
theorem cond_eval {o : Operand} {b : Bool} {ι : Nat → Value} {a : Act} {w : World} (ho : ev st.s o = .d (.lit (.bool b))) (r : RelS E st ι a w) : a.eval o = .bool b := by
  obtain ⟨Z, K, Y, hZ, r⟩ := r
  have := RA_ev (C := cx Z st.h ι w) (s := st.s) (a := a) o fun t _ => r.slot t
  rw [ho] at this
  exact (RA_lit.1 this).1
theorem CW_true {o : Operand} (ho : ev st.s o = .d (.lit (.bool true))) (h : CW E x Q st) : CW E (.cond o x y) Q st := fun ι a w r => wpIn_cond_true (cond_eval ho r) (h ι a w r)
theorem CW_false {o : Operand} (ho : ev st.s o = .d (.lit (.bool false))) (h : CW E y Q st) : CW E (.cond o x y) Q st := fun ι a w r => wpIn_cond_false (cond_eval ho r) (h ι a w r)
theorem CW_cond {o : Operand} (b : Bool) (ho : ev st.s o = .d (.lit (.bool b))) (ht : b = true → CW E x Q st) (hf : b = false → CW E y Q st) : CW E (.cond o x y) Q st := by
  cases b
  · exact CW_false ho (hf rfl)
  · exact CW_true ho (ht rfl)

theorem least_of {p : Nat → Prop} : ∀ m, p m → ∃ k, p k ∧ ∀ j, p j → k ≤ j := by
  intro m
  induction m using Nat.strongRecOn with
  | _ m ih =>
    intro hm
    by_cases hx : ∃ j, j < m ∧ p j
    · obtain ⟨j, hj, hp⟩ := hx; exact ih j hj hp
    · exact ⟨m, hm, fun j hj => Nat.le_of_not_lt fun hlt => hx ⟨j, hlt, hj⟩⟩

open Classical in
/-- A loop: states told by σ, each round coming to a smaller one. -/
theorem CW_loop {σ : Type} (I : σ → St) (μ : σ → Nat) (x0 : σ) (h0 : LE E st (I x0))
    (round : ∀ x, CW E c (thenQ (fun st' => ∃ y, LE E st' (I y) ∧ μ y < μ x) Q) (I x)) : CW E (.loop c) Q st := by
  refine CW.le h0 fun ι a w r => ?_
  let In : Act → World → Nat → Prop := fun a w m => ∃ x ι, RelS E (I x) ι a w ∧ μ x = m
  let me : Act → World → Nat := fun a w => if hx : ∃ k, In a w k ∧ ∀ j, In a w j → k ≤ j then Classical.choose hx else 0
  refine wpIn_loop (fun a w => ∃ m, In a w m) me ⟨μ x0, x0, ι, r, rfl⟩ fun a w hI => ?_
  obtain ⟨m0, hm0⟩ := hI
  have hI1 := least_of m0 hm0
  obtain ⟨x, ι, r, hm⟩ := (Classical.choose_spec hI1).1
  have hme : me a w = μ x := by show dite _ _ _ = _; rw [dif_pos hI1]; exact hm.symm
  refine wpIn_mono (round x ι a w r) fun e a' w' ⟨st', ι', q, r'⟩ => ?_
  cases e with
  | normal =>
    obtain ⟨y, hle, hlt⟩ := q
    obtain ⟨ι'', r''⟩ := hle _ _ _ r'
    have hI' : ∃ m, In a' w' m := ⟨μ y, y, ι'', r'', rfl⟩
    refine ⟨hI', ?_⟩
    rw [hme]
    have : me a' w' ≤ μ y := by
      obtain ⟨m1, hm1⟩ := hI'
      have hI2 := least_of m1 hm1
      show dite _ _ _ ≤ _
      rw [dif_pos hI2]
      exact (Classical.choose_spec hI2).2 _ ⟨y, ι'', r'', rfl⟩
    omega
  | _ => exact ⟨st', ι', q, r'⟩
end

/-! ### Operations one behind the other -/
def awant (ops : List Oper) (o : Oper) (s : Slots) : Option Bool :=
  match o.guard with
  | none => some true
  | some (j, b) => match ops[j]? with
    | some g => match g.dst with
      | some t => match s t with
        | .d (.lit (.bool c)) => match c, b with
          | true, true => some true
          | false, false => some true
          | true, false => some false
          | false, true => some false
        | .tup [] => some false
        | _ => none
      | none => some false
    | none => some false
def putS (N : Nat) (s : Slots) (dst : Option Tmp) (x : AV) : Option Slots :=
  match dst with
  | none => some s
  | some d => bif Nat.ble (d + 1) N then some (sset s d x) else none

/-- Wanted, as the machine asks. -/
theorem awant_ok {E : Env} {st : St} {ι : Nat → Value} {a : Act} {w : World} (r : RelS E st ι a w) {ops : List Oper} {o : Oper} {b : Bool} (h : awant ops o st.s = some b) :
    Region.wanted o (yielded ops.toArray a.tmps) = b := by
  obtain ⟨Z, K, Y, hZ, r⟩ := r
  unfold awant at h
  unfold Region.wanted
  cases hg : o.guard with
  | none => rw [hg] at h; simpa using h
  | some p =>
    obtain ⟨j, want⟩ := p
    rw [hg] at h
    simp only at h ⊢
    unfold yielded
    simp only [List.getElem?_toArray]
    cases hj : ops[j]? with
    | none => rw [hj] at h; simp at h; subst h; simp
    | some g =>
      rw [hj] at h
      simp only [Option.bind_some] at h ⊢
      cases hd : g.dst with
      | none => rw [hd] at h; simp at h; subst h; simp
      | some t =>
        rw [hd] at h
        simp only [Option.bind_some] at h ⊢
        have hs := r.slot t
        rw [Array.getD_eq_getD_getElem?] at hs
        split at h
        · rename_i c hc
          rw [hc] at hs
          obtain ⟨e, _⟩ := RA_lit.1 hs
          have e' : a.tmps[t]? = some (.bool c) := by
            cases ht : a.tmps[t]? with
            | none => rw [ht] at e; simp [undef] at e
            | some v => rw [ht] at e; simp at e; rw [e]
          simp only [e']
          cases c <;> cases want <;> simp at h <;> subst h <;> rfl
        · rename_i hc
          rw [hc] at hs
          simp only [RA, RAs] at hs
          obtain ⟨vs, e, h0⟩ := hs
          simp at h
          subst h
          cases ht : a.tmps[t]? with
          | none => simp
          | some v => rw [ht] at e; simp at e; rw [e]; simp
        · cases h

/-- From operation number i on. -/
def OW (E : Env) (ops : List Oper) (i : Nat) (Q : Exit → St → Prop) (st : St) : Prop :=
  ∀ ι a w, RelS E st ι a w → wpListIn E.F E.n E.P ops.toArray (Post E Q) (ops.drop i) a w

section
variable {E : Env} {ops : List Oper} {K : Exit → St → Prop} {st : St} {i : Nat}

theorem OW.le {st' : St} (hle : LE E st st') (h : OW E ops i K st') : OW E ops i K st := fun ι a w r => let ⟨ι', r'⟩ := hle ι a w r; h ι' a w r'
theorem OW_end (hi : Nat.ble ops.length i = true) (h : K .normal st) : OW E ops i K st := fun ι a w r => by
  rw [List.drop_eq_nil_of_le (Nat.le_of_ble_eq_true hi)]
  exact ⟨st, ι, h, r⟩
theorem CW_region {id : Nat} {Q : Exit → St → Prop} (h : OW E ops 0 Q st) : CW E (.region id ops.toArray false) Q st := fun ι a w r => by
  refine wpIn_region_lit ?_
  have := h ι a w r
  rwa [List.drop_zero] at this

/-- An operation that is not wanted. -/
theorem OW_skip {o : Oper} (ho : ops[i]? = some o) (hE : E.Ok) (hw : awant ops o st.s = some false) {s' : Slots} (hs : putS E.N st.s o.dst (.tup []) = some s') (h : OW E ops (i + 1) K { st with s := s' }) : OW E ops i K st := fun ι a w r => by
  have hd : ops.drop i = o :: ops.drop (i + 1) := by
    obtain ⟨hlt, rfl⟩ := List.getElem?_eq_some_iff.1 ho
    exact List.drop_eq_getElem_cons hlt
  rw [hd]
  simp only [wpListIn]
  rw [if_neg (by rw [awant_ok r hw]; simp)]
  refine ⟨fun f _ => hE.fn f, ?_⟩
  unfold putS at hs
  cases hdst : o.dst with
  | none =>
    rw [hdst] at hs
    cases hs
    exact h ι _ w (let ⟨Z, K, Y, hZ, r⟩ := r; ⟨Z, K, Y, hZ, Rel.put_none r (Grew.refl w) _⟩)
  | some d =>
    rw [hdst] at hs
    simp only at hs
    cases hb : Nat.ble (d + 1) E.N with
    | false => rw [hb] at hs; cases hs
    | true =>
      rw [hb] at hs
      cases hs
      exact h ι _ w (let ⟨Z, K, Y, hZ, r⟩ := r; ⟨Z, K, Y, hZ, Rel.put r (Grew.refl w) hb (by simp [RA, RAs, undef])⟩)

/-- An operation that gives a value and does no more than let memory grow. -/
theorem OW_gives {o : Oper} (ho : ops[i]? = some o) (hE : E.Ok) (hw : awant ops o st.s = some true) (hdf : ∀ c, o.op ≠ .defer c) {R : AV} (hg : ∀ Z K Y ι a w, Rel Z K E.N (st.J K Y Z) st.s st.h ι a w → OGives E.P Z st.h ι (execOp a.eval o) w R)
    {s' : Slots} (hs : putS E.N st.s o.dst R = some s') (h : OW E ops (i + 1) K { st with s := s' }) : OW E ops i K st := fun ι a w r => by
  have hd : ops.drop i = o :: ops.drop (i + 1) := by
    obtain ⟨hlt, rfl⟩ := List.getElem?_eq_some_iff.1 ho
    exact List.drop_eq_getElem_cons hlt
  rw [hd]
  simp only [wpListIn]
  rw [if_pos (awant_ok r hw)]
  refine ⟨fun f _ => hE.fn f, ?_⟩
  rw [Oper.semAt_plain E.F _ _ hdf]
  obtain ⟨Z, K, Y, hZ, r⟩ := r
  obtain ⟨v, w', hr, hgr, hv⟩ := hg Z K Y ι a w r
  rw [hr]
  show wpListIn _ _ _ _ _ _ _ _
  unfold putS at hs
  cases hdst : o.dst with
  | none =>
    rw [hdst] at hs
    cases hs
    exact h ι _ w' ⟨Z, K, Y, hZ, Rel.put_none r hgr _⟩
  | some d =>
    rw [hdst] at hs
    simp only at hs
    cases hb : Nat.ble (d + 1) E.N with
    | false => rw [hb] at hs; cases hs
    | true =>
      rw [hb] at hs
      cases hs
      exact h ι _ w' ⟨Z, K, Y, hZ, Rel.put r hgr hb hv⟩

theorem stepPure_notDefer {T : Nat → Option TI} {h : Heap} {s : Slots} {op : Op} {R : AV} (hp : stepPure T h s op = some R) : ∀ c, op ≠ .defer c := by
  intro c e; subst e; simp [stepPure] at hp

/-- Plain operations, m of them, at one stroke. -/
def runPure (E : Env) (ops : List Oper) (h : Heap) : Nat → Nat → Slots → Option Slots
  | 0, _, s => some s
  | m + 1, i, s => match ops[i]? with
    | some o => match awant ops o s with
      | some true => match stepPure E.T h s o.op with
        | some R => match putS E.N s o.dst R with
          | some s' => runPure E ops h m (i + 1) s'
          | none => none
        | none => none
      | some false => match putS E.N s o.dst (.tup []) with
        | some s' => runPure E ops h m (i + 1) s'
        | none => none
      | none => none
    | none => none
theorem OW_run (hE : E.Ok) (m : Nat) {s' : Slots} (hp : runPure E ops st.h m i st.s = some s') (h : OW E ops (i + m) K { st with s := s' }) : OW E ops i K st := by
  induction m generalizing i st with
  | zero => simp only [runPure, Option.some.injEq] at hp; subst hp; exact h
  | succ m ih =>
    simp only [runPure] at hp
    split at hp
    · rename_i o ho
      split at hp
      · rename_i hw
        split at hp
        · rename_i R hR
          split at hp
          · rename_i s1 hs1
            refine OW_gives ho hE hw (stepPure_notDefer hR) (fun Z K Y ι a w r => stepPure_ok (J := st.J K Y Z) (K := K) hE.T r.mem o (fun x _ => RA_ev x fun t _ => r.slot t) hR) hs1 (ih (st := { st with s := s1 }) hp ?_)
            rwa [show i + 1 + m = i + (m + 1) by omega]
          · cases hp
        · cases hp
      · rename_i hw
        split at hp
        · rename_i s1 hs1
          refine OW_skip ho hE hw hs1 (ih (st := { st with s := s1 }) hp ?_)
          rwa [show i + 1 + m = i + (m + 1) by omega]
        · cases hp
      · cases hp
    · cases hp
end
end Go.AL
