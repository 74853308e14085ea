/- AL, part 7: contracts of functions, and calls. -/
import Derived.Test.YthffbfjnahipcaaA6
namespace Go.AL
set_option linter.unusedVariables false
set_option linter.unusedSimpArgs false

/-! No key in it. -/
mutual
def kf : AV → Bool
  | .d _ => true
  | .any => true
  | .agg cs => kfs cs
  | .tup cs => kfs cs
  | .fn _ a b => kfs a && kfs b
  | .ptr _ _ => false
  | .row _ => false
def kfs : List AV → Bool
  | [] => true
  | x :: xs => kf x && kfs xs
end
mutual
theorem RA_kf {C C' : Cx} (h : Keeps C.w C'.w C.M C'.M) : ∀ (x : AV) (v : Value), kf x = true → RA C x v → RA C' x v
  | .d x, v => fun _ hx => by simp only [RA] at hx ⊢; exact RD_keeps h x v hx
  | .agg cs, v => fun hk hx => by
    simp only [RA] at hx ⊢
    obtain ⟨vs, e, h1⟩ := hx
    exact ⟨vs, e, RAs_kf h cs _ (by simpa [kf] using hk) h1⟩
  | .tup cs, v => fun hk hx => by
    simp only [RA] at hx ⊢
    obtain ⟨vs, e, h1⟩ := hx
    exact ⟨vs, e, RAs_kf h cs _ (by simpa [kf] using hk) h1⟩
  | .fn f first cap, v => fun hk hx => by
    simp only [RA] at hx ⊢
    obtain ⟨vf, vc, e, h1, h2⟩ := hx
    simp [kf] at hk
    exact ⟨vf, vc, e, RAs_kf h first _ hk.1 h1, RAs_kf h cap _ hk.2 h2⟩
  | .any, v => fun _ hx => by simp only [RA]
  | .ptr k o, v => fun hk _ => by simp [kf] at hk
  | .row k, v => fun hk _ => by simp [kf] at hk
theorem RAs_kf {C C' : Cx} (h : Keeps C.w C'.w C.M C'.M) : ∀ (xs : List AV) (vs : List Value), kfs xs = true → RAs C xs vs → RAs C' xs vs
  | [], vs => fun _ hx => by simpa only [RAs] using hx
  | x :: xs, vs => fun hk hx => by
    simp only [RAs] at hx ⊢
    obtain ⟨v, t, e, h1, h2⟩ := hx
    simp [kfs] at hk
    exact ⟨v, t, e, RA_kf h x v hk.1 h1, RAs_kf h xs t hk.2 h2⟩
end

def noι : Nat → Value := fun _ => .nilFunc
def Callable (P : Program) (f : Nat) : Prop := ∃ fn, P.funcs[f]? = some fn ∧ (fn.name == "runtime.NumGoroutine") = false ∧ fn.body.isNone = false

/-- What a callee hands over of its own: blocks from 'base' on. -/
structure Own (Z : Nat → Prop) (base : Nat) (h : Heap) (ι : Nat → Value) (w : World) : Prop where
  ent : ∀ k e, h k = some e → EntOk (cx Z h ι w) e (ι k)
  own : ∀ k b, dom h k → blk (ι k) = some b → ¬ Z b ∧ base ≤ b ∧ b < w.heap.size
  apart : ∀ k k' b, dom h k → dom h k' → blk (ι k) = some b → blk (ι k') = some b → k = k'

def Does (P : Program) (f : Nat) (args : List AV) (h' : Heap) (R : AV) : Prop :=
  Callable P f ∧ ∀ n Z w vs, (∀ b, Z b → b < w.heap.size) → RAs (cx Z noHeap noι w) args vs →
    CallsIn Fence.wide n P f vs.toArray w fun e w' => ∃ v ι, e = .returned v ∧ Grew w w' ∧ RA (cx Z h' ι w') R v ∧ Own Z w.heap.size h' ι w'

def isWide (F : Fence) : Prop := F = Fence.wide ∨ ∃ l, F = Fence.wide.inRound l
theorem isWide.fn {F : Fence} (h : isWide F) (f : Nat) : F.fn f := by
  rcases h with rfl | ⟨l, rfl⟩ <;> trivial
theorem isWide.depth {F : Fence} (h : isWide F) : F.depth = none := by
  rcases h with rfl | ⟨l, rfl⟩ <;> rfl
theorem isWide.calls {F : Fence} (h : isWide F) {n : Nat} {P : Program} {f : Nat} {args : Array Value} {w : World} {R : Ending → World → Prop} (hc : CallsIn Fence.wide n P f args w R) : CallsIn F n P f args w R := by
  rcases h with rfl | ⟨l, rfl⟩
  · exact hc
  · exact CallsIn.inRound l hc

/-- The function that a call comes to, and what it is handed. -/
def callArgs (s : Slots) (fo : Operand) (args : List Operand) : Option (Nat × List AV) :=
  match ev s fo with
  | .d (.fn (.func f) first cap) => some (f, first.map .d ++ args.map (ev s) ++ cap.map .d)
  | .fn (.func f) first cap => some (f, first ++ args.map (ev s) ++ cap)
  | _ => none

theorem exec_call {P : Program} {dst : Option Tmp} {fo : Operand} {args : Array Operand} {ts : Array TypeId} {ty : TypeId} {pos : String} {af : Array Edge} {gd : Option (Nat × Bool)} {a : Act} {w : World} {f : Nat} {vf vc : Array Value}
    (he : a.eval fo = .func (.func f) vf vc) (hc : Callable P f) :
    (execOp a.eval ⟨dst, .call ⟨.value fo, args, ts⟩, ty, pos, af, gd⟩).run P w = .ok (.enter f (vf ++ args.map a.eval ++ vc)) w := by
  obtain ⟨fn, h1, h2, h3⟩ := hc
  have hcf : ∀ as : Array Value, (callFunc f as).run P w = .ok (.enter f as) w := by
    intro as
    unfold callFunc
    rw [Sem.run_bind]
    simp only [program, Sem.run, Result.andThen_ok, h1, h2, h3, Bool.false_eq_true, if_false]
    rfl
  simp [execOp, resolve, Deferred.ofValue, he, invoke, hcf]

theorem call_args {s : Slots} {fo : Operand} {args : Array Operand} {f : Nat} {L : List AV} {C : Cx} {a : Act} (hL : callArgs s fo args.toList = some (f, L)) (hs : ∀ t, RA C (s t) (a.tmps.getD t undef)) :
    ∃ vf vc, a.eval fo = .func (.func f) vf vc ∧ RAs C L (vf ++ args.map a.eval ++ vc).toList := by
  have hfo := RA_ev (C := C) (s := s) (a := a) fo fun t _ => hs t
  have hargs : RAs C (args.toList.map (ev s)) (args.toList.map a.eval) := RAs_evs fun x _ => RA_ev x fun t _ => hs t
  unfold callArgs at hL
  split at hL
  · rename_i f' first cap he
    cases hL
    rw [he] at hfo
    simp only [RA, RD] at hfo
    obtain ⟨vf, vc, e, h1, h2⟩ := hfo
    refine ⟨vf, vc, e, ?_⟩
    simpa using RAs_append (RAs_map_d.2 h1) (RAs_append hargs (RAs_map_d.2 h2))
  · rename_i f' first cap he
    cases hL
    rw [he] at hfo
    simp only [RA] at hfo
    obtain ⟨vf, vc, e, h1, h2⟩ := hfo
    refine ⟨vf, vc, e, ?_⟩
    simpa using RAs_append h1 (RAs_append hargs h2)
  · cases hL

structure Env.Good (E : Env) : Prop where
  ok : E.Ok
  wide : isWide E.F

theorem M_of (Z : Nat → Prop) (h : Heap) (ι : Nat → Value) (w : World) : (cx (cx Z h ι w).M noHeap noι w).M = (cx Z h ι w).M := by
  funext b
  refine propext ⟨fun hb => ?_, fun hb => .inl hb⟩
  rcases hb with hb | ⟨k, hk, _⟩
  · exact hb
  · simp [dom, noHeap] at hk

section
variable {E : Env} {ops : List Oper} {Q : Exit → St → Prop} {st : St} {i : Nat}

/-- A call whose result needs no memory of its own to be told. -/
theorem OW_call (hE : E.Good) {f : Nat} {L : List AV} {R : AV} (hc : Does E.P f L noHeap R) {o : Oper} {fo : Operand} {args : Array Operand} {ts : Array TypeId} (ho : ops[i]? = some o) (hop : o.op = .call ⟨.value fo, args, ts⟩) (hw : awant ops o st.s = some true)
    (hL : callArgs st.s fo args.toList = some (f, L)) (hk : kfs L = true) (hR : kf R = true) {s' : Slots} (hs : putS E.N st.s o.dst R = some s') (h : OW E ops (i + 1) Q { st with s := s' }) : OW E ops i Q st := fun ι a w r => by
  have hd : ops.drop i = o :: ops.drop (i + 1) := by
    obtain ⟨hlt, rfl⟩ := List.getElem?_eq_some_iff.1 ho
    exact List.drop_eq_getElem_cons hlt
  rw [hd]
  simp only [wpListIn]
  rw [if_pos (awant_ok r hw)]
  refine ⟨fun f _ => hE.wide.fn f, ?_⟩
  rw [Oper.semAt_plain E.F _ _ (by rw [hop]; intro c hc; cases hc)]
  obtain ⟨Z, K, Y, hZE, r⟩ := r
  obtain ⟨vf, vc, he, hv⟩ := call_args hL r.slot
  obtain ⟨dst, op, ty, pos, af, gd⟩ := o
  simp only at hop
  subst hop
  rw [exec_call he hc.1]
  simp only [Oper.uponIn]
  refine ⟨fun hx => (by rw [hE.wide.depth] at hx; cases hx), ?_⟩
  have hZ : ∀ b, (cx Z st.h ι w).M b → b < w.heap.size := fun b hb => r.mem.Mlt hb
  have hv' : RAs (cx (cx Z st.h ι w).M noHeap noι w) L (vf ++ args.map a.eval ++ vc).toList :=
    RAs_kf (C := cx Z st.h ι w) (C' := cx (cx Z st.h ι w).M noHeap noι w) ⟨fun _ _ _ _ hh => hh, fun _ _ hh => hh, fun b _ hm hm' => by rw [M_of] at hm'; exact hm hm'⟩ _ _ hk hv
  have := hc.2 (E.n - 1) (cx Z st.h ι w).M w _ hZ hv'
  simp only [Array.toArray_toList] at this
  refine (hE.wide.calls this).mono fun e w' ⟨v, ι', he', hg, hRv, _⟩ => ?_
  subst he'
  show wpListIn _ _ _ _ _ _ _ _
  have hRv' : RA (cx Z st.h ι w') R v := RA_kf (C := cx (cx Z st.h ι w).M noHeap ι' w') (C' := cx Z st.h ι w') ⟨fun _ _ _ _ hh => hh, fun _ _ hh => hh, fun b _ hm hm' => hm (.inl hm')⟩ _ _ hR hRv
  unfold putS at hs
  cases hdst : dst with
  | none =>
    simp only [hdst] at hs
    cases hs
    exact h ι _ w' ⟨Z, K, Y, hZE, Rel.put_none r hg _⟩
  | some d =>
    simp only [hdst] at hs
    cases hb : Nat.ble (d + 1) E.N with
    | false => rw [hb] at hs; cases hs
    | true =>
      rw [hb] at hs
      cases hs
      exact h ι _ w' ⟨Z, K, Y, hZE, Rel.put r hg hb hRv'⟩
end

/-! ### A function out of its body -/
def aresult (T : Nat → Option TI) (h : Heap) (s : Slots) : ResultVar → Option AV
  | .tmp t => some (s t)
  | .cell t ty => match T ty with
    | some ti => match s t with
      | .d (.iptr cs) => ofCells ti.k.isAgg ti.size (cs.map .d)
      | .ptr k o => match h k with
        | some (.box _ cs) => ofCells ti.k.isAgg ti.size (cs.drop o)
        | _ => none
      | _ => none
    | none => none
def aresults (T : Nat → Option TI) (h : Heap) (s : Slots) : List ResultVar → Option (List AV)
  | [] => some []
  | x :: r => match aresult T h s x, aresults T h s r with
    | some v, some vs => some (v :: vs)
    | _, _ => none
def packR : List AV → AV
  | [x] => x
  | xs => .tup xs

def rdResult (tmps : Array Value) : ResultVar → Sem Value
  | .tmp t => pure (tmps.getD t undef)
  | .cell a t => do loadVar t (← asAddr (tmps.getD a undef))
theorem results_eq (fn : Func) (tmps : Array Value) : results fn tmps = (do let vs ← fn.results.mapM (rdResult tmps); pure (if h : vs.size = 1 then vs[0] else .tuple vs)) := by
  unfold results
  congr 1
theorem aresult_ok {P : Program} {T : Nat → Option TI} (hT : TOk P T) {Z K : Nat → Prop} {J : World → Prop} {N : Nat} {s : Slots} {h : Heap} {ι : Nat → Value} {a : Act} {w : World} (r : Rel Z K N J s h ι a w) {x : ResultVar} {R : AV} (hx : aresult T h s x = some R) :
    ∃ v, (rdResult a.tmps x).run P w = .ok v w ∧ RA (cx Z h ι w) R v := by
  cases x with
  | tmp t =>
    simp only [aresult, Option.some.injEq] at hx
    subst hx
    exact ⟨a.tmps.getD t undef, by simp [rdResult], r.slot t⟩
  | cell t ty =>
    simp only [aresult] at hx
    have hs := r.slot t
    split at hx
    · rename_i ti ht
      split at hx
      · rename_i cs he
        rw [he] at hs
        simp only [RA, RD] at hs
        obtain ⟨b, off, e, hm, hb, hc⟩ := hs
        obtain ⟨vs, h1, h2⟩ := RC_list hc
        obtain ⟨v, h3, h4⟩ := run_loadVar_of hT ht (C := cx Z h ι w) (RAs_map_d.2 h1) b off h2 hx
        exact ⟨v, by simp only [rdResult, e, asAddr]; simpa using h3, h4⟩
      · rename_i k off he
        rw [he] at hs
        simp only [RA] at hs
        obtain ⟨hk, b, hb, e⟩ := hs
        split at hx
        · rename_i t' cs hkk
          obtain ⟨b', vs, e1, e2, e3⟩ := r.mem.ent k _ hkk
          have : b' = b := by rw [blk_ptr e1] at hb; injection hb
          subst this
          have e2' : w.heap[b']? = some (.cells vs t' (0, 0)) := e2
          obtain ⟨v, h3, h4⟩ := run_loadVar_of (w := w) hT ht (C := cx Z h ι w) (RAs_drop off e3) b' off (fun j v hj => by
            simp only [World.cell?, e2']
            simpa [List.getElem?_drop] using hj) hx
          exact ⟨v, by simp only [rdResult, e, asAddr]; simpa using h3, h4⟩
        · cases hx
      · cases hx
    · cases hx

theorem mapM_run {P : Program} {w : World} {α : Type} (f : α → Sem Value) : ∀ (l : List α) (vs : List Value), vs.length = l.length → (∀ (i : Nat) (x : α) (v : Value), l[i]? = some x → vs[i]? = some v → (f x).run P w = .ok v w) → (l.mapM f).run P w = .ok vs w
  | [], vs, hl, _ => by simp at hl; subst hl; simp
  | x :: l, [], hl, _ => by simp at hl
  | x :: l, v :: vs, hl, hh => by
    have h0 := hh 0 x v rfl rfl
    have h1 := mapM_run f l vs (by simpa using hl) fun i y u hy hu => hh (i + 1) y u (by simpa using hy) (by simpa using hu)
    simp [List.mapM_cons, h0, h1]

theorem aresults_ok {P : Program} {T : Nat → Option TI} (hT : TOk P T) {Z K : Nat → Prop} {J : World → Prop} {N : Nat} {s : Slots} {h : Heap} {ι : Nat → Value} {a : Act} {w : World} (r : Rel Z K N J s h ι a w) :
    ∀ (l : List ResultVar) (Rs : List AV), aresults T h s l = some Rs → ∃ vs : List Value, RAs (cx Z h ι w) Rs vs ∧
      (l.mapM (rdResult a.tmps)).run P w = .ok vs w
  | [], Rs, hx => by simp [aresults] at hx; subst hx; exact ⟨[], by simp [RAs], by simp⟩
  | x :: l, Rs, hx => by
    simp only [aresults] at hx
    split at hx
    · rename_i R Rs' h1 h2
      cases hx
      obtain ⟨v, g1, g2⟩ := aresult_ok hT r h1
      obtain ⟨vs, g3, g4⟩ := aresults_ok hT r l Rs' h2
      refine ⟨v :: vs, by simp only [RAs]; exact ⟨v, vs, rfl, g2, g3⟩, ?_⟩
      rw [List.mapM_cons, Sem.run_bind, g1]
      simp only [Result.andThen_ok, Sem.run_bind]
      rw [g4]
      simp
    · cases hx

theorem results_ok {P : Program} {T : Nat → Option TI} (hT : TOk P T) {Z K : Nat → Prop} {J : World → Prop} {N : Nat} {s : Slots} {h : Heap} {ι : Nat → Value} {a : Act} {w : World} (r : Rel Z K N J s h ι a w) {fn : Func} {Rs : List AV}
    (hx : aresults T h s fn.results.toList = some Rs) : ∃ v, (results fn a.tmps).run P w = .ok v w ∧ RA (cx Z h ι w) (packR Rs) v := by
  obtain ⟨vs, h1, h2⟩ := aresults_ok hT r _ _ hx
  have hm : (fn.results.mapM (rdResult a.tmps)).run P w = .ok vs.toArray w := by
    rw [Array.mapM_eq_mapM_toList, map_eq_pure_bind, Sem.run_bind, h2]
    simp
  refine ⟨if h : vs.toArray.size = 1 then vs.toArray[0] else .tuple vs.toArray, ?_, ?_⟩
  · rw [results_eq, Sem.run_bind, hm]
    simp
  · have hl := RAs_length h1
    match Rs, vs, h1, hl with
    | [], [], h1, _ => simp [packR, RA, RAs]
    | [x], [v], h1, _ =>
      simp only [RAs] at h1
      obtain ⟨v', t, e, h2, _⟩ := h1
      cases e
      simpa [packR] using h2
    | x :: y :: Rs, v :: u :: vs, h1, _ =>
      simp only [packR, RA]
      exact ⟨_, by simp, h1⟩

def argSlots : List AV → Nat → Slots
  | [], _ => fun _ => .any
  | x :: xs, i => sset (argSlots xs (i + 1)) i x

/-- What is told by x is told by y. -/
def AVle (x y : AV) : Prop := ∀ C v, RA C x v → RA C y v
def AVles (x y : List AV) : Prop := ∀ C v, RAs C x v → RAs C y v
theorem AVle.refl (x : AV) : AVle x x := fun _ _ h => h
theorem AVle.of {x y : AV} (h : x = y) : AVle x y := h ▸ AVle.refl x
theorem AVles.nil : AVles [] [] := fun _ _ h => h
theorem AVles.cons {x y : AV} {xs ys : List AV} (h : AVle x y) (hs : AVles xs ys) : AVles (x :: xs) (y :: ys) := fun C v hv => by
  simp only [RAs] at hv ⊢
  obtain ⟨a, t, e, h1, h2⟩ := hv
  exact ⟨a, t, e, h _ _ h1, hs _ _ h2⟩
theorem AVle.agg {x y : List AV} (h : AVles x y) : AVle (.agg x) (.agg y) := fun C v hv => by
  simp only [RA] at hv ⊢
  obtain ⟨vs, e, h1⟩ := hv
  exact ⟨vs, e, h _ _ h1⟩
theorem AVle.tup {x y : List AV} (h : AVles x y) : AVle (.tup x) (.tup y) := fun C v hv => by
  simp only [RA] at hv ⊢
  obtain ⟨vs, e, h1⟩ := hv
  exact ⟨vs, e, h _ _ h1⟩
theorem AVle.nilSl (sz bts : Nat) : AVle (.d (.lit (.slice none 0 0))) (.d (.sl sz bts [])) := fun C v hv => by
  obtain ⟨rfl, _⟩ := RA_lit.1 hv
  simp only [RA, RD]
  exact ⟨none, 0, rfl, by simp, by simp, by simp, by simp⟩

/-- What is owed where a function ends. -/
def Ret (T : Nat → Option TI) (fn : Func) (J : Jt) (h' : Heap) (R : AV) : Exit → St → Prop := fun e st =>
  (e = .normal ∨ e = .ret) ∧ st.J = J ∧ (∃ Rs, aresults T st.h st.s fn.results.toList = some Rs ∧ kf (packR Rs) = true ∧ AVle (packR Rs) R) ∧ h' = noHeap

theorem argSlots_ok {C : Cx} : ∀ (args : List AV) (vs : List Value) (k : Nat) (pre : List Value) (suf : List Value), RAs C args vs → pre.length = k → ∀ j, RA C (argSlots args k j) ((pre ++ vs ++ suf).toArray.getD j undef)
  | [], vs, k, pre, suf, _, _, j => by simp [argSlots, RA]
  | x :: args, vs, k, pre, suf, hv, hp, j => by
    simp only [RAs] at hv
    obtain ⟨v, t, rfl, h1, h2⟩ := hv
    simp only [argSlots]
    by_cases hj : j = k
    · subst hj
      rw [sset_same]
      simpa [← hp] using h1
    · rw [sset_ne _ _ hj]
      have := argSlots_ok args t (k + 1) (pre ++ [v]) suf h2 (by simp [hp]) j
      simpa using this

def notCells : Obj → Bool
  | .cells .. => false
  | _ => true
def setO (w : World) (x : Nat) (o : Obj) : World := { w with heap := w.heap.setIfInBounds x o }
theorem setO_ne (w : World) (x : Nat) (o : Obj) {b : Nat} (h : b ≠ x) : (setO w x o).heap[b]? = w.heap[b]? := by
  simp [setO, Array.getElem?_setIfInBounds, Ne.symm h]
theorem setO_size (w : World) (x : Nat) (o : Obj) : (setO w x o).heap.size = w.heap.size := by simp [setO]
theorem setO_step {K : Nat → Prop} (w : World) (x : Nat) (o : Obj) (h : ¬ K x) : Step K w (setO w x o) :=
  ⟨rfl, rfl, rfl, by simp [setO_size], fun b hb => setO_ne w x o (fun e => h (e ▸ hb))⟩
theorem keepsC_obj {Z : Nat → Prop} {h : Heap} {ι : Nat → Value} {w : World} {x : Nat} {o o' : Obj} (hx : w.heap[x]? = some o) (ho : notCells o = true) : KeepsC (cx Z h ι w) (cx Z h ι (setO w x o')) := by
  refine ⟨⟨fun b off v _ hc => ?_, fun b _ hi => ?_, fun b _ hm => hm⟩, fun k hk => ⟨hk, rfl⟩⟩
  · have hne : b ≠ x := by
      intro e; subst e
      simp only [World.cell?, hx] at hc
      cases o <;> simp [notCells] at ho <;> simp at hc
    simp only [World.cell?, setO_ne w x o' hne]
    exact hc
  · refine hi.at (setO_ne w x o' fun e => ?_)
    subst e
    obtain ⟨c, t, f, hi⟩ := hi
    rw [hx] at hi
    cases hi
    simp [notCells] at ho
theorem EntOk.keeps {C C' : Cx} (hk : KeepsC C C') {e : Ent} {v : Value} (hb : ∀ b cs t f, blk v = some b → C.w.heap[b]? = some (.cells cs t f) → C'.w.heap[b]? = some (.cells cs t f)) (he : EntOk C e v) : EntOk C' e v := by
  cases e with
  | box t cs =>
    obtain ⟨b, vs, h1, h2, h3⟩ := he
    exact ⟨b, vs, h1, hb b _ _ _ (blk_ptr h1) h2, RAs_keeps hk _ _ h3⟩
  | row e sz xs =>
    obtain ⟨vs, h1, h2, h3⟩ := he
    refine ⟨vs, ?_, RDs_keeps hk.d _ _ h2, h3⟩
    rcases h1 with h1 | ⟨g, cap, cur, g1, g0, g2, g3⟩
    · exact .inl h1
    · exact .inr ⟨g, cap, cur, g1, g0, hb g _ _ _ (by rw [g1]; simp [blk]; omega) g2, g3⟩
  | ghost cs vs => exact ⟨he.1, RAs_keeps hk _ _ he.2⟩
theorem Mem.setO {Z K : Nat → Prop} {J : World → Prop} {h : Heap} {ι : Nat → Value} {w : World} (m : Mem Z K J h ι w) {x : Nat} {o o' : Obj} (hx : w.heap[x]? = some o) (ho : notCells o = true) (hK : ¬ K x) : Mem Z K J h ι (setO w x o') := by
  refine ⟨fun k e hk => EntOk.keeps (keepsC_obj hx ho) (fun b cs t f _ hb => ?_) (m.ent k e hk), fun k b hk hb => by rw [setO_size]; exact m.own k b hk hb, m.apart, fun b hb => by rw [setO_size]; exact m.Zlt b hb, fun b hb => by rw [setO_size]; exact m.Klt b hb,
    m.Jc w _ m.Jw (setO_step w x o' hK), m.Jc⟩
  have hne : b ≠ x := by
    intro e; subst e
    have hb' : w.heap[b]? = some (.cells cs t f) := hb
    rw [hx] at hb'
    cases hb'
    simp [notCells] at ho
  show (Go.AL.setO w x o').heap[b]? = _
  rw [setO_ne w x o' hne]
  exact hb
theorem rel_setObj {Z K : Nat → Prop} {N : Nat} {J : World → Prop} {s : Slots} {h : Heap} {ι : Nat → Value} {tmps : Array Value} {w : World} (r : Rel Z K N J s h ι { tmps := tmps, defers := [] } w) {x : Nat} {o o' : Obj} (hx : w.heap[x]? = some o) (ho : notCells o = true) (hK : ¬ K x) :
    Rel Z K N J s h ι { tmps := tmps, defers := [] } (setO w x o') :=
  ⟨r.mem.setO hx ho hK, r.size, fun i => RA_keeps (keepsC_obj hx ho) _ _ (r.slot i), Marks.nil _ _ _⟩

theorem leaves_marks {P : Program} {n : Nat} {fn : Func} {R : Ending → World → Prop} {Z K : Nat → Prop} {N : Nat} {J : World → Prop} {s : Slots} {h : Heap} {ι : Nat → Value} {a : Act} {w : World} (r : Rel Z K N J s h ι a w)
    (hq : ∀ w1, Rel Z K N J s h ι { tmps := a.tmps, defers := [] } w1 → ∃ v, (results fn a.tmps).run P w1 = .ok v w1 ∧ R (.returned v) w1) : LeavesInM Fence.wide n P fn a.tmps R a.defers .returning w := by
  obtain ⟨rs, h1, h2, h3⟩ := r.ds
  rw [h1]
  have key : ∀ (rs : List Nat) (w1 : World), rs.Nodup → (∀ r ∈ rs, w1.heap[r]? = some (.deferred (some [])) ∧ ¬ K r ∧ ¬ Z r) → Rel Z K N J s h ι { tmps := a.tmps, defers := [] } w1 →
      LeavesInM Fence.wide n P fn a.tmps R (rs.map markOf) .returning w1 := by
    intro rs
    induction rs with
    | nil => intro w1 _ _ r1; exact hq w1 r1
    | cons x rs ih =>
      intro w1 hnd hall r1
      obtain ⟨hx1, hx2, hx3⟩ := hall x (by simp)
      have hlt := (Array.getElem?_eq_some_iff.1 hx1).1
      have htake : (Instr.takeDeferred x).run P w1 = .ok [] (setO w1 x (.deferred none)) := by
        simp [Instr.takeDeferred, getObj, setObj, Sem.run, hx1, setO]
      simp only [List.map_cons]
      refine ⟨by simp, .inl ⟨x, _, rfl, htake, ih _ (List.nodup_cons.1 hnd).2 ?_ (rel_setObj r1 hx1 rfl hx2)⟩⟩
      intro y hy
      obtain ⟨hy1, hy2⟩ := hall y (by simp [hy])
      have hne : y ≠ x := fun e => (List.nodup_cons.1 hnd).1 (by rw [← e]; exact hy)
      exact ⟨by rw [setO_ne _ _ _ hne]; exact hy1, hy2⟩
  exact key rs w h2 (fun x hx => h3 x hx) ⟨r.mem, r.size, r.slot, Marks.nil _ _ _⟩

/-- How a frame begins. -/
theorem rel_begin {Z K : Nat → Prop} {J : World → Prop} {N : Nat} {args : List AV} {w : World} {vs : List Value} (hZ : ∀ b, Z b → b < w.heap.size) (hK : ∀ b, K b → b < w.heap.size) (hJ : J w) (hJc : Closed K J) (hv : RAs (cx Z noHeap noι w) args vs) (hl : Nat.ble args.length N = true) :
    Rel Z K N J (argSlots args 0) noHeap noι { tmps := vs.toArray ++ Array.replicate (N - vs.toArray.size) undef, defers := [] } w := by
  have hlen := RAs_length hv
  refine ⟨⟨fun k e hk => by simp [noHeap] at hk, fun k b hk => by simp [dom, noHeap] at hk, fun k k' b hk => by simp [dom, noHeap] at hk, hZ, hK, hJ, hJc⟩, ?_, fun i => ?_, Marks.nil _ _ _⟩
  · have hle := Nat.le_of_ble_eq_true hl
    simp [hlen]
    omega
  · have := argSlots_ok args vs 0 [] (List.replicate (N - vs.length) undef) hv rfl i
    rw [List.nil_append] at this
    show RA (cx Z noHeap noι w) (argSlots args 0 i) ((vs.toArray ++ Array.replicate (N - vs.toArray.size) undef).getD i undef)
    rw [List.append_toArray, ← List.toArray_replicate]
    simpa using this

def grewJ (w : World) : Jt := fun K _ _ w' => Grew w w' ∧ ∀ b, b < w.heap.size → K b
theorem mono_grew (w : World) : Mono (grewJ w) :=
  ⟨fun K Y Z w1 w2 h1 h2 => ⟨⟨h2.os.trans h1.1.os, h2.tape.trans h1.1.tape, h2.output.trans h1.1.output, Nat.le_trans h1.1.size h2.size, fun b hb => (h2.block b (h1.2 b hb)).trans (h1.1.block b hb)⟩, h1.2⟩,
   fun K K2 Y Z Z2 w1 h1 h2 _ _ _ => ⟨h1.1, fun b hb => h2 b (h1.2 b hb)⟩⟩

/-- **A function's contract out of its body.** -/
theorem Does_of {P : Program} {T : Nat → Option TI} (hT : TOk P T) (hm : P.follows .mixedOrders = true) {f : Nat} {fn : Func} {c : Code} {args : List AV} {R : AV} (hf : P.funcs[f]? = some fn) (hb : fn.body = some c) (hn : (fn.name == "runtime.NumGoroutine") = false)
    {N : Nat} (hN : fn.ntmps = N) (hl : Nat.ble args.length N = true)
    (h : ∀ F n Z, (⟨P, T, F, n, Z, N⟩ : Env).Good → F = Fence.wide → ∀ J, CW ⟨P, T, F, n, Z, N⟩ c (Ret T fn J noHeap R) ⟨J, argSlots args 0, noHeap⟩) : Does P f args noHeap R := by
  subst hN
  refine ⟨⟨fn, hf, hn, by rw [hb]; rfl⟩, fun n Z w vs hZ hv => ?_⟩
  let E : Env := ⟨P, T, Fence.wide, n, Z, fn.ntmps⟩
  have hE : E.Good := ⟨⟨hT, fun f => trivial, rfl, hm⟩, .inl rfl⟩
  refine callsIn_of_wp_marks hf hb trivial (wpIn_mono (h _ _ _ hE rfl (grewJ w) noι _ w ?_) ?_) rfl
  · exact ⟨Z, fun b => b < w.heap.size, fun _ => False, ⟨fun b hb => hb, fun _ hb => hb.elim, mono_grew w⟩, rel_begin hZ (fun b hb => hb) ⟨Grew.refl w, fun b hb => hb⟩ ((mono_grew w).closed (fun b => b < w.heap.size) (fun _ => False) Z) hv hl⟩
  · rintro e a' w' ⟨st, ι, ⟨he, hJ, ⟨Rs, hRs, hk, hRe⟩, _⟩, Z', K, Y, hZE, r⟩
    have goal : LeavesInM Fence.wide n P fn a'.tmps (fun e w' => ∃ v ι, e = .returned v ∧ Grew w w' ∧ RA (cx Z noHeap ι w') R v ∧ Own Z w.heap.size noHeap ι w') a'.defers .returning w' := by
      refine leaves_marks r fun w1 r1 => ?_
      have hg : Grew w w1 := by have := r1.mem.Jw; rw [hJ] at this; exact this.1
      obtain ⟨v, g1, g2⟩ := results_ok hT r1 hRs
      refine ⟨v, g1, v, noι, rfl, hg, hRe _ _ (RA_kf (C := cx Z' st.h ι w1) (C' := cx Z noHeap noι w1) ⟨fun _ _ _ _ hh => hh, fun _ _ hh => hh, fun b _ hm hm' => ?_⟩ _ _ hk g2), ⟨fun k e hk => by simp [noHeap] at hk, fun k b hk => by simp [dom, noHeap] at hk, fun k k' b hk => by simp [dom, noHeap] at hk⟩⟩
      rcases hm' with hm' | ⟨k, hk, _⟩
      · exact hm (.inl (hZE.1 b hm'))
      · simp [dom, noHeap] at hk
    rcases he with rfl | rfl
    · exact goal
    · exact goal
end Go.AL
