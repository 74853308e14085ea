/- AL, part 14: ranges over functions: what a consumer and an iterator owe each other. -/
import Derived.Test.YthffbfjnahipcaaA13
namespace Go.AL
set_option linter.unusedVariables false
set_option linter.unusedSimpArgs false

theorem Mem.cells {Z K : Nat → Prop} {J : World → Prop} {h : Heap} {ι : Nat → Value} {w : World} (m : Mem Z K J h ι w) {k b : Nat} (hk : dom h k) (hb : blk (ι k) = some b) : isCells w b := by
  have hk' : (h k).isSome = true := hk
  obtain ⟨e, he⟩ := Option.isSome_iff_exists.1 hk'
  have := m.ent k e he
  cases e with
  | box t cs =>
    obtain ⟨b', vs, h1, h2, _⟩ := this
    rw [blk_ptr h1] at hb
    cases hb
    exact ⟨_, _, _, h2⟩
  | row e sz xs =>
    obtain ⟨vs, h1, _⟩ := this
    rcases h1 with ⟨a, h1, _⟩ | ⟨g, cap, cur, h1, h0, h2, _⟩
    · rw [h1] at hb
      cases a <;> simp [blk] at hb
    · rw [h1] at hb
      simp only [blk] at hb
      rw [if_neg (by omega)] at hb
      cases hb
      exact ⟨_, _, _, h2⟩
  | ghost cs vs =>
    have h1 : ι k = .slice none 0 0 := this.1
    rw [h1] at hb
    simp [blk] at hb

/-- The same memory from another side. -/
theorem Mem.side {Z K Z' K' : Nat → Prop} {J J' : World → Prop} {h : Heap} {ι : Nat → Value} {w w' : World} (m : Mem Z K J h ι w) (hs : ∀ b, b < w.heap.size → ¬ Z b → w'.heap[b]? = w.heap[b]?) (hsz : w.heap.size ≤ w'.heap.size)
    (hZ : ∀ b, Z' b → Z b ∨ w.heap.size ≤ b) (hZ' : ∀ b, Z' b → b < w'.heap.size) (hK : ∀ k b, dom h k → blk (ι k) = some b → ¬ K' b) (hK' : ∀ b, K' b → b < w'.heap.size) (hJ : J' w') (hJc : Closed K' J') :
    Mem Z' K' J' h ι w' ∧ KeepsC (cx Z h ι w) (cx Z' h ι w') := by
  have kc : KeepsC (cx Z h ι w) (cx Z' h ι w') := by
    refine ⟨⟨fun b o u hm hc => ?_, fun b hm hi => hi.at (hs b hi.lt fun hz => hm (.inl hz)), fun b hi hm hm' => ?_⟩, fun k hk => ⟨hk, rfl⟩⟩
    · show w'.cell? _ = _
      rw [World.cell?_of_block (w := w) (a := ⟨b, o, none⟩) (hs b (isCells.of_cell hc).lt fun hz => hm (.inl hz))]; exact hc
    · rcases hm' with hz | hz
      · rcases hZ b hz with h1 | h1
        · exact hm (.inl h1)
        · have : b < w.heap.size := hi.lt
          omega
      · exact hm (.inr hz)
  have hnz : ∀ k b, dom h k → blk (ι k) = some b → ¬ Z' b := fun k b hk hb hz => by
    have := m.own k b hk hb
    rcases hZ b hz with h1 | h1
    · exact this.1 h1
    · omega
  refine ⟨⟨fun k e hk => EntOk.keeps kc (fun b cs t f hb hc => ?_) (m.ent k e hk), fun k b hk hb => ⟨hnz k b hk hb, hK k b hk hb, Nat.lt_of_lt_of_le (m.own k b hk hb).2.2 hsz⟩, m.apart, hZ', hK', hJ, hJc⟩, kc⟩
  have hd : dom h k := by simp [dom, hk]
  have := m.own k b hd hb
  show w'.heap[b]? = _
  rw [hs b this.2.2 this.1]; exact hc

def fresh (w w' : World) (b : Nat) : Prop := w.heap.size ≤ b ∧ b < w'.heap.size
def plus (K K2 : Nat → Prop) (b : Nat) : Prop := K b ∨ K2 b
/-- What may turn behind the back: Y. -/
abbrev Turned (Y : Nat → Prop) (w w' : World) : Prop := Step (fun b => b < w.heap.size ∧ ¬ Y b) w w'
theorem Step.weaken {K K' : Nat → Prop} {w w' : World} (h : Step K w w') (hK : ∀ b, K' b → K b) : Step K' w w' := ⟨h.os, h.tape, h.output, h.size, fun b hb => h.block b (hK b hb)⟩

/-- A way to lay more upon what is to be kept. -/
structure Wrap (Z0 : Nat → Prop) (W : Jt → Jt) : Prop where
  mono : ∀ J, Mono J → Mono (W J)
  yields : ∀ J K Y Z w, W J K Y Z w → (∀ b, Z0 b → Z b) → ∃ Kj : Nat → Prop, (∀ b, Kj b → K b) ∧ J Kj Y Z w ∧
    ∀ (J' : Jt) (Kj' : Nat → Prop) (w' : World), (∀ b, Kj b → Kj' b) → (∀ b, Kj' b → Kj b ∨ (¬ Z b ∧ isCells w b) ∨ fresh w w' b) → Turned Y w w' →
      J' Kj' (plus Y (fresh w w')) (plus Z (fresh w w')) w' → W J' (plus K Kj') (plus Y (fresh w w')) (plus Z (fresh w w')) w'
theorem Wrap.id (Z0 : Nat → Prop) : Wrap Z0 (fun J => J) :=
  ⟨fun _ h => h, fun J K Y Z w h _ => ⟨K, fun _ h => h, h, fun J' Kj' w' h1 _ _ h2 => by
    have : plus K Kj' = Kj' := by
      funext b
      exact propext ⟨fun hb => hb.elim (h1 b) fun hb => hb, .inr⟩
    rw [this]; exact h2⟩⟩

/-- What a consumer owes: a round for each of ys. -/
def YieldSpec (P : Program) (l : Nat) (ys : List (List AV)) (C : Nat → Jt) (X : Jt) : Prop :=
  ∀ (n i : Nat) (args : List AV), ys[i]? = some args → ∀ (K Y Z : Nat → Prop) (w : World) (vs : List Value), C i K Y Z w → (∀ b, Y b → Z b) → (∀ b, K b → b < w.heap.size) → (∀ b, Z b → b < w.heap.size) →
    RAs (cx (fun b => Z b ∨ (b < w.heap.size ∧ ¬ K b)) noHeap noι w) args vs →
    YieldAt Fence.wide n P l vs.toArray w fun e w' => Turned Y w w' ∧
      ((e = .returned (.bool true) ∧ C (i + 1) (plus K (fresh w w')) (plus Y (fresh w w')) (plus Z (fresh w w')) w') ∨
       (e = .returned (.bool false) ∧ X (plus K (fresh w w')) (plus Y (fresh w w')) (plus Z (fresh w w')) w'))

/-- What an iterator owes: the rounds, one by one. -/
def Iter (P : Program) (f : Nat) (first cap : List AV) (ys : List (List AV)) : Prop :=
  Callable P f ∧ ∀ (n l : Nat) (C : Nat → Jt) (X : Jt), (∀ i, Mono (C i)) → Mono X → YieldSpec P l ys C X → ∀ (K Y Z : Nat → Prop) (w : World) (vs : List Value), C 0 K Y Z w → (∀ b, Y b → Z b) → (∀ b, K b → b < w.heap.size) → (∀ b, Z b → b < w.heap.size) →
    RAs (cx Z noHeap noι w) (first ++ .d (.fn (.yield l) [] []) :: cap) vs →
    CallsIn Fence.wide n P f vs.toArray w fun e w' => ∃ v K Y Z, e = .returned v ∧ (C ys.length K Y Z w' ∨ X K Y Z w')

def RetI (T : Nat → Option TI) (fn : Func) (J J' : Jt) : Exit → St → Prop := fun e st =>
  (e = .normal ∨ e = .ret) ∧ (st.J = J ∨ st.J = J') ∧ ∃ Rs, aresults T st.h st.s fn.results.toList = some Rs

/-- An iterator's contract out of its body. -/
theorem Iter_of {P : Program} {T : Nat → Option TI} (hT : TOk P T) (hm : P.follows .mixedOrders = true) {f : Nat} {fn : Func} {c : Code} {first cap : List AV} {ys : List (List AV)} (hf : P.funcs[f]? = some fn) (hb : fn.body = some c) (hn : (fn.name == "runtime.NumGoroutine") = false)
    {N : Nat} (hN : fn.ntmps = N) (hl : Nat.ble (first.length + (cap.length + 1)) N = true)
    (h : ∀ F n Z, (⟨P, T, F, n, Z, N⟩ : Env).Good → F = Fence.wide → ∀ l C X, (∀ i, Mono (C i)) → Mono X → YieldSpec P l ys C X →
      CW ⟨P, T, F, n, Z, N⟩ c (RetI T fn (C ys.length) X) ⟨C 0, argSlots (first ++ .d (.fn (.yield l) [] []) :: cap) 0, noHeap⟩) : Iter P f first cap ys := by
  subst hN
  refine ⟨⟨fn, hf, hn, by rw [hb]; rfl⟩, fun n l C X hC hX hy K Y Z w vs h0 hYZ hK hZ hv => ?_⟩
  let E : Env := ⟨P, T, Fence.wide, n, Z, fn.ntmps⟩
  have hE : E.Good := ⟨⟨hT, fun f => trivial, rfl, hm⟩, .inl rfl⟩
  refine callsIn_of_wp_marks hf hb trivial (wpIn_mono (h _ _ _ hE rfl l C X hC hX hy noι _ w ?_) ?_) rfl
  · exact ⟨Z, K, Y, ⟨fun b hb => hb, hYZ, hC 0⟩, rel_begin hZ hK h0 ((hC 0).closed K Y Z) hv (by simpa using hl)⟩
  · rintro e a' w' ⟨st, ι, ⟨he, hJ, Rs, hRs⟩, Z', K', Y', hZE, r⟩
    have goal : LeavesInM Fence.wide n P fn a'.tmps (fun e w' => ∃ v K Y Z, e = .returned v ∧ (C ys.length K Y Z w' ∨ X K Y Z w')) a'.defers .returning w' := by
      refine leaves_marks r fun w1 r1 => ?_
      obtain ⟨v, g1, g2⟩ := results_ok hT r1 hRs
      refine ⟨v, g1, v, K', Y', Z', rfl, ?_⟩
      have := r1.mem.Jw
      rcases hJ with hJ | hJ
      · rw [hJ] at this; exact .inl this
      · rw [hJ] at this; exact .inr this
    rcases he with rfl | rfl
    · exact goal
    · exact goal

theorem exec_yield {P : Program} {dst : Option Tmp} {fo : Operand} {args : Array Operand} {ts : Array TypeId} {ty : TypeId} {pos : String} {af : Array Edge} {gd : Option (Nat × Bool)} {a : Act} {w : World} {l : Nat}
    (he : a.eval fo = .func (.yield l) #[] #[]) :
    (execOp a.eval ⟨dst, .call ⟨.value fo, args, ts⟩, ty, pos, af, gd⟩).run P w = (Instr.yield l (args.map a.eval)).run P w := by
  simp [execOp, resolve, Deferred.ofValue, he, invoke]

section
variable {E : Env} {ops : List Oper} {Q : Exit → St → Prop} {st : St} {i : Nat}
theorem isWide.round {F : Fence} (h : isWide F) {n : Nat} {P : Program} {l : Nat} {f : FuncId} {tmps : Array Value} {assign body : Code} {w : World} {R : Ending → World → Prop} (hc : RoundIn Fence.wide n P l f tmps assign body w R) : RoundIn F n P l f tmps assign body w R := by
  rcases h with rfl | ⟨l', rfl⟩
  · exact hc
  · exact hc

/-- A call of yield. -/
theorem OW_yield (hE : E.Good) {l : Nat} {ys : List (List AV)} {C : Nat → Jt} {X : Jt} (hy : YieldSpec E.P l ys C X) (hC : ∀ i, Mono (C i)) (hX : Mono X) {W : Jt → Jt} (hW : Wrap E.Z W) (k : Nat)
    {o : Oper} {fo : Operand} {args : Array Operand} {ts : Array TypeId} (ho : ops[i]? = some o) (hop : o.op = .call ⟨.value fo, args, ts⟩) (hw : awant ops o st.s = some true) (hJ : st.J = W (C k)) (hf : ev st.s fo = .d (.fn (.yield l) [] []))
    {L : List AV} (hL : args.toList.map (ev st.s) = L) (hk : ys[k]? = some L) (hkf : kfs L = true) {s1 s2 : Slots} (hs1 : putS E.N st.s o.dst (.d (.lit (.bool true))) = some s1) (hs2 : putS E.N st.s o.dst (.d (.lit (.bool false))) = some s2)
    (h1 : OW E ops (i + 1) Q ⟨W (C (k + 1)), s1, st.h⟩) (h2 : OW E ops (i + 1) Q ⟨W X, s2, st.h⟩) : OW E ops i Q st := fun ι a w r => by
  have hd : ops.drop i = o :: ops.drop (i + 1) := by
    obtain ⟨hlt, rfl⟩ := List.getElem?_eq_some_iff.1 ho
    exact List.drop_eq_getElem_cons hlt
  rw [hd]
  simp only [wpListIn]
  rw [if_pos (awant_ok r hw)]
  refine ⟨fun f _ => hE.wide.fn f, ?_⟩
  rw [Oper.semAt_plain E.F _ _ (by rw [hop]; intro c hc; cases hc)]
  obtain ⟨Z, K, Y, hZE, r⟩ := r
  have hfo := RA_ev (C := cx Z st.h ι w) (s := st.s) (a := a) fo fun t _ => r.slot t
  rw [hf] at hfo
  simp only [RA, RD, RDs] at hfo
  obtain ⟨vf, vc, he, hvf, hvc⟩ := hfo
  have hvf' : vf = #[] := by simpa using hvf
  have hvc' : vc = #[] := by simpa using hvc
  subst hvf' hvc'
  have hargs : RAs (cx Z st.h ι w) L (args.toList.map a.eval) := by
    rw [← hL]
    exact RAs_evs fun x _ => RA_ev x fun t _ => r.slot t
  obtain ⟨dst, op, ty, pos, af, gd⟩ := o
  simp only at hop
  subst hop
  rw [exec_yield he]
  have hJw := r.mem.Jw
  rw [hJ] at hJw
  obtain ⟨Kj, hKj, hCk, hback⟩ := hW.yields (C k) K Y Z w hJw hZE.1
  have hKjlt : ∀ b, Kj b → b < w.heap.size := fun b hb => r.mem.Klt b (hKj b hb)
  let K1 : Nat → Prop := fun b => Kj b ∨ (¬ (cx Z st.h ι w).M b ∧ isCells w b)
  have hK1lt : ∀ b, K1 b → b < w.heap.size := fun b hb => by
    rcases hb with hb | hb
    · exact hKjlt b hb
    · exact hb.2.lt
  have hC1 : C k K1 Y Z w := (hC k).mono Kj K1 Y Z Z w hCk (fun b hb => .inl hb) (fun b hb => hb.imp (fun h => h) (fun h => h.2)) (fun b _ hz => hz) (fun b hz => .inl hz)
  have hv' : RAs (cx (fun b => Z b ∨ (b < w.heap.size ∧ ¬ K1 b)) noHeap noι w) L (args.toList.map a.eval) := by
    refine RAs_kf (C := cx Z st.h ι w) (C' := cx (fun b => Z b ∨ (b < w.heap.size ∧ ¬ K1 b)) noHeap noι w) ⟨fun _ _ _ _ hh => hh, fun _ _ hh => hh, fun b hi hm hm' => ?_⟩ _ _ hkf hargs
    rcases hm' with (hm' | hm') | ⟨k, hk, _⟩
    · exact hm (.inl hm')
    · exact hm'.2 (.inr ⟨hm, hi⟩)
    · simp [dom, noHeap] at hk
  obtain ⟨fn, tmps, assign, body, hrun, hround⟩ := hy (E.n - 1) k L hk K1 Y Z w _ hC1 hZE.2.1 hK1lt r.mem.Zlt hv'
  rw [show args.map a.eval = (args.toList.map a.eval).toArray by rw [← Array.toList_map], hrun]
  simp only [Oper.uponIn]
  refine ⟨fun hx => (by rw [hE.wide.depth] at hx; cases hx), ?_⟩
  refine (hE.wide.round hround).mono fun e w' ⟨htu, hend⟩ => ?_
  have hK1' : ∀ b, Kj b → plus K1 (fresh w w') b := fun b hb => .inl (.inl hb)
  have hK1'' : ∀ b, plus K1 (fresh w w') b → Kj b ∨ (¬ Z b ∧ isCells w b) ∨ fresh w w' b := fun b hb => by
    rcases hb with (hb | hb) | hb
    · exact .inl hb
    · exact .inr (.inl ⟨fun hz => hb.1 (.inl hz), hb.2⟩)
    · exact .inr (.inr hb)
  have rel' : ∀ (J' : Jt), Mono J' → J' (plus K1 (fresh w w')) (plus Y (fresh w w')) (plus Z (fresh w w')) w' → ∀ (b : Bool) (s' : Slots), putS E.N st.s dst (.d (.lit (.bool b))) = some s' →
      RelS E ⟨W J', s', st.h⟩ ι (a.put dst (.bool b)) w' := by
    intro J' hJ' hj b s' hs'
    have hW' := hback J' _ w' hK1' hK1'' htu hj
    obtain ⟨m', kc⟩ := r.mem.side (Z' := plus Z (fresh w w')) (K' := plus K (plus K1 (fresh w w'))) (J' := W J' (plus K (plus K1 (fresh w w'))) (plus Y (fresh w w')) (plus Z (fresh w w'))) (w' := w')
      (fun b hb hz => htu.block b ⟨hb, fun hy => hz (hZE.2.1 b hy)⟩) htu.size (fun b hb => hb.imp (fun h => h) (fun h => h.1))
      (fun b hb => hb.elim (fun h => Nat.lt_of_lt_of_le (r.mem.Zlt b h) htu.size) (fun h => h.2))
      (fun k b hk hb hK => by
        have := r.mem.own k b hk hb
        rcases hK with hK | (hK | hK) | hK
        · exact this.2.1 hK
        · exact this.2.1 (hKj b hK)
        · exact hK.1 (.inr ⟨k, hk, hb⟩)
        · have := hK.1; omega)
      (fun b hb => by
        rcases hb with hK | hK | hK
        · exact Nat.lt_of_lt_of_le (r.mem.Klt b hK) htu.size
        · exact Nat.lt_of_lt_of_le (hK1lt b hK) htu.size
        · exact hK.2)
      hW' ((hW.mono J' hJ').closed _ _ _)
    refine ⟨plus Z (fresh w w'), plus K (plus K1 (fresh w w')), plus Y (fresh w w'), ⟨fun b hb => .inl (hZE.1 b hb), fun b hb => hb.imp (hZE.2.1 b) (fun h => h), hW.mono J' hJ'⟩, ?_⟩
    have hds : Marks (plus Z (fresh w w')) (plus K (plus K1 (fresh w w'))) w' a.defers := by
      obtain ⟨rs, g1, g2, g3⟩ := r.ds
      refine ⟨rs, g1, g2, fun x hx => ?_⟩
      obtain ⟨g4, g5, g6⟩ := g3 x hx
      have hlt := (Array.getElem?_eq_some_iff.1 g4).1
      have hnc : ¬ isCells w x := fun ⟨c, t, f, hc⟩ => by rw [g4] at hc; cases hc
      refine ⟨by rw [htu.block x ⟨hlt, fun hy => g6 (hZE.2.1 x hy)⟩]; exact g4, fun hK => ?_, fun hz => ?_⟩
      · rcases hK with hK | (hK | hK) | hK
        · exact g5 hK
        · exact g5 (hKj x hK)
        · exact hnc hK.2
        · have := hK.1; omega
      · rcases hz with hz | hz
        · exact g6 hz
        · have := hz.1; omega
    have r0 : Rel (plus Z (fresh w w')) (plus K (plus K1 (fresh w w'))) E.N (W J' (plus K (plus K1 (fresh w w'))) (plus Y (fresh w w')) (plus Z (fresh w w'))) st.s st.h ι a w' := ⟨m', r.size, fun i => RA_keeps kc _ _ (r.slot i), hds⟩
    unfold putS at hs'
    cases dst with
    | none => cases hs'; exact Rel.put_none r0 (Grew.refl _) _
    | some d =>
      simp only at hs'
      cases hb : Nat.ble (d + 1) E.N with
      | false => rw [hb] at hs'; cases hs'
      | true =>
        rw [hb] at hs'
        cases hs'
        exact Rel.put r0 (Grew.refl _) hb (RA_lit.2 ⟨rfl, trivial⟩)
  rcases hend with ⟨rfl, hj⟩ | ⟨rfl, hj⟩
  · exact h1 ι _ w' (rel' _ (hC _) hj true s1 hs1)
  · exact h2 ι _ w' (rel' _ hX hj false s2 hs2)
end
end Go.AL
