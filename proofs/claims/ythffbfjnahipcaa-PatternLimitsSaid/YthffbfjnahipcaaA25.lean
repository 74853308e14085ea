/- AL, part 25: functions that hand over a new row of their own, and 'Insert' into a row of the frame's own. -/
import Derived.Test.YthffbfjnahipcaaA24
namespace Go.AL
set_option linter.unusedVariables false
set_option linter.unusedSimpArgs false

def oneRow (e : TypeId) (sz : Nat) (ys : List (List D)) : Heap := hset noHeap 0 (some (.row e sz ys))
theorem dom_oneRow {e : TypeId} {sz : Nat} {ys : List (List D)} {k : Nat} (h : dom (oneRow e sz ys) k) : k = 0 := by
  by_cases hk : k = 0
  · exact hk
  · simp only [dom, oneRow, hset_ne noHeap _ hk] at h
    simp [noHeap] at h

/-- What is owed where a function ends that hands over a new row. -/
def RetRow (T : Nat → Option TI) (fn : Func) (J : Jt) (e : TypeId) (sz : Nat) (ys : List (List D)) : Exit → St → Prop := fun x st =>
  (x = .normal ∨ x = .ret) ∧ st.J = J ∧ ∃ k, aresults T st.h st.s fn.results.toList = some [.row k] ∧ st.h k = some (.row e sz ys)

theorem Does_ofRow {P : Program} {T : Nat → Option TI} (hT : TOk P T) (hm : P.follows .mixedOrders = true) {f : Nat} {fn : Func} {c : Code} {args : List AV} {e : TypeId} {sz : Nat} {ys : List (List D)} (hf : P.funcs[f]? = some fn) (hb : fn.body = some c) (hn : (fn.name == "runtime.NumGoroutine") = false)
    {N : Nat} (hN : fn.ntmps = N) (hl : Nat.ble args.length N = true)
    (h : ∀ F n Z, (⟨P, T, F, n, Z, N⟩ : Env).Good → F = Fence.wide → ∀ J, CW ⟨P, T, F, n, Z, N⟩ c (RetRow T fn J e sz ys) ⟨J, argSlots args 0, noHeap⟩) : Does P f args (oneRow e sz ys) (.row 0) := by
  subst hN
  refine ⟨⟨fn, hf, hn, by rw [hb]; rfl⟩, fun n Z w vs hZ hv => ?_⟩
  let E : Env := ⟨P, T, Fence.wide, n, Z, fn.ntmps⟩
  have hE : E.Good := ⟨⟨hT, fun f => trivial, rfl, hm⟩, .inl rfl⟩
  refine callsIn_of_wp_marks hf hb trivial (wpIn_mono (h _ _ _ hE rfl (grewJ w) noι _ w ?_) ?_) rfl
  · exact ⟨Z, fun b => b < w.heap.size, fun _ => False, ⟨fun b hb => hb, fun _ hb => hb.elim, mono_grew w⟩, rel_begin hZ (fun b hb => hb) ⟨Grew.refl w, fun b hb => hb⟩ ((mono_grew w).closed (fun b => b < w.heap.size) (fun _ => False) Z) hv hl⟩
  · rintro x a' w' ⟨st, ι, ⟨he, hJ, k, hRs, hk⟩, Z', K, Y, hZE, r⟩
    have goal : LeavesInM Fence.wide n P fn a'.tmps (fun x w' => ∃ v ι, x = .returned v ∧ Grew w w' ∧ RA (cx Z (oneRow e sz ys) ι w') (.row 0) v ∧ Own Z w.heap.size (oneRow e sz ys) ι w') a'.defers .returning w' := by
      refine leaves_marks r fun w1 r1 => ?_
      have hg : Grew w w1 ∧ ∀ b, b < w.heap.size → K b := by have := r1.mem.Jw; rw [hJ] at this; exact this
      obtain ⟨v, g1, g2⟩ := results_ok hT r1 hRs
      have g3 : dom st.h k ∧ v = ι k := by simpa only [packR, RA] using g2
      obtain ⟨us, f1, f2, f3, f4⟩ := r1.mem.ent k _ hk
      refine ⟨v, g1, v, fun _ => v, rfl, hg.1, ?_, ⟨fun j e' hj => ?_, fun j b hj hjb => ?_, fun j j' b hj hj' _ _ => (dom_oneRow hj).trans (dom_oneRow hj').symm⟩⟩
      · simp only [RA]
        exact ⟨by show (oneRow e sz ys 0).isSome = true; simp [oneRow, hset], trivial⟩
      · have hj0 := dom_oneRow (k := j) (by show (oneRow e sz ys j).isSome = true; rw [hj]; rfl)
        subst hj0
        have : e' = .row e sz ys := by simpa [oneRow, hset] using hj.symm
        subst this
        rw [g3.2]
        refine ⟨us, f1, RDs_keeps (w := w1) (M := (cx Z' st.h ι w1).M) ⟨fun _ _ _ _ hh => hh, fun _ _ hh => hh, fun b _ hm hm' => ?_⟩ _ _ f2, f3, f4⟩
        rcases hm' with hm' | ⟨j, hj, hjb⟩
        · exact hm (.inl (hZE.1 b hm'))
        · exact hm (.inr ⟨k, g3.1, hjb⟩)
      · have hjb' : blk (ι k) = some b := by rw [← g3.2]; exact hjb
        have ho := r1.mem.own k b g3.1 hjb'
        exact ⟨fun hz => ho.1 (hZE.1 b hz), Nat.le_of_not_lt fun hlt => ho.2.1 (hg.2 b hlt), ho.2.2⟩
    rcases he with rfl | rfl
    · exact goal
    · exact goal

section
variable {E : Env} {ops : List Oper} {Q : Exit → St → Prop} {i : Nat} {J : Jt} {s : Slots} {h : Heap}

/-- A call that hands over a new row. -/
theorem OW_callRow' (hE : E.Good) (key : Nat) {f : Nat} {L : List AV} {e : TypeId} {sz : Nat} {ys : List (List D)} (hc : Does E.P f L (oneRow e sz ys) (.row 0)) {o : Oper} {fo : Operand} {args : Array Operand} {ts : Array TypeId} (ho : ops[i]? = some o) (hop : o.op = .call ⟨.value fo, args, ts⟩) (hw : awant ops o s = some true)
    (hL : callArgs s fo args.toList = some (f, L)) (hk : kfs L = true) (hkey : h key = none) {s' : Slots} (hs : putS E.N s o.dst (.row key) = some s') (hk' : OW E ops (i + 1) Q ⟨J, s', hset h key (some (.row e sz ys))⟩) : OW E ops i Q ⟨J, s, h⟩ := fun ι a w r => by
  have hd : ops.drop i = o :: ops.drop (i + 1) := by
    obtain ⟨hlt, rfl⟩ := List.getElem?_eq_some_iff.1 ho
    exact List.drop_eq_getElem_cons hlt
  rw [hd]
  simp only [wpListIn]
  rw [if_pos (awant_ok r hw)]
  refine ⟨fun f _ => hE.wide.fn f, ?_⟩
  rw [Oper.semAt_plain E.F _ _ (by rw [hop]; intro c hc; cases hc)]
  obtain ⟨Z, K, Y, hZE, r⟩ := r
  obtain ⟨vf, vc, he, hv⟩ := call_args hL r.slot
  obtain ⟨dst, op, ty, pos, af, gd⟩ := o
  simp only at hop hs
  subst hop
  rw [exec_call he hc.1]
  simp only [Oper.uponIn]
  refine ⟨fun hx => (by rw [hE.wide.depth] at hx; cases hx), ?_⟩
  have hZ : ∀ b, (cx Z h ι w).M b → b < w.heap.size := fun b hb => r.mem.Mlt hb
  have hv' : RAs (cx (cx Z h ι w).M noHeap noι w) L (vf ++ args.map a.eval ++ vc).toList :=
    RAs_kf (C := cx Z h ι w) (C' := cx (cx Z h ι w).M noHeap noι w) ⟨fun _ _ _ _ hh => hh, fun _ _ hh => hh, fun b _ hm hm' => by rw [M_of] at hm'; exact hm hm'⟩ _ _ hk hv
  have := hc.2 (E.n - 1) (cx Z h ι w).M w _ hZ hv'
  simp only [Array.toArray_toList] at this
  refine (hE.wide.calls this).mono fun x w' ⟨v, ι', he', hg, hRv, hown⟩ => ?_
  subst he'
  show wpListIn _ _ _ _ _ _ _ _
  have hd0 : dom (oneRow e sz ys) 0 := by show (oneRow e sz ys 0).isSome = true; simp [oneRow, hset]
  have hv0 : v = ι' 0 := by simp only [RA] at hRv; exact hRv.2
  have hnew : ∀ b, blk v = some b → w.heap.size ≤ b ∧ b < w'.heap.size := fun b hb => by
    have := hown.own 0 b hd0 (by rw [← hv0]; exact hb)
    exact ⟨this.2.1, this.2.2⟩
  obtain ⟨us, f1, f2, f3, f4⟩ := hown.ent 0 (.row e sz ys) (by simp [oneRow, hset])
  have hent : EntOk (cx Z (hset h key (some (.row e sz ys))) (fun j => bif Nat.beq j key then v else ι j) w') (.row e sz ys) v := by
    rw [hv0]
    refine ⟨us, f1, RDs_keeps (w := w') (M := (cx (cx Z h ι w).M (oneRow e sz ys) ι' w').M) ⟨fun _ _ _ _ hh => hh, fun _ _ hh => hh, fun b _ hm hm' => ?_⟩ _ _ f2, f3, f4⟩
    rcases hm' with hz | ⟨j, hj, hjb⟩
    · exact hm (.inl (.inl hz))
    · by_cases hjk : j = key
      · subst hjk
        simp at hjb
        exact hm (.inr ⟨0, hd0, hjb⟩)
      · have hbq : Nat.beq j key = false := Bool.eq_false_iff.2 fun h' => hjk (Nat.eq_of_beq_eq_true h')
        simp only [dom, hset_ne h _ hjk] at hj
        simp only [hbq, cond_false] at hjb
        exact hm (.inl (.inr ⟨j, hj, hjb⟩))
  obtain ⟨m', kc⟩ := r.mem.add hg hkey hnew hent
  have r0 : Rel Z K E.N (J K Y Z) s (hset h key (some (.row e sz ys))) (fun j => bif Nat.beq j key then v else ι j) a w' := ⟨m', r.size, fun i => RA_keeps kc _ _ (r.slot i), r.ds.grew hg⟩
  unfold putS at hs
  cases hdst : dst with
  | none =>
    simp only [hdst] at hs
    cases hs
    exact hk' _ _ w' ⟨Z, K, Y, hZE, Rel.put_none r0 (Grew.refl _) _⟩
  | some d =>
    simp only [hdst] at hs
    cases hb : Nat.ble (d + 1) E.N with
    | false => rw [hb] at hs; cases hs
    | true =>
      rw [hb] at hs
      cases hs
      exact hk' _ _ w' ⟨Z, K, Y, hZE, Rel.put r0 (Grew.refl _) hb key_row⟩

/-- 'slices.Insert' at rows of plain memory. -/
def Ins (P : Program) (f : Nat) (e : TypeId) (sz bts : Nat) : Prop :=
  Callable P f ∧ ∀ n w v nx vs u m us i, RowOk w v e sz nx vs → vs.length = nx * sz → RowOk w u e sz m us → us.length = m * sz → 0 < m → i ≤ nx → nx + m ≤ 140737488355328 → (nx + m) * bts ≤ 140737488355328 →
    (∀ x ∈ vs, x.oneCell' = true) → (∀ x ∈ us, x.oneCell' = true) → (∀ b, blk v = some b → blk u ≠ some b) →
    CallsIn Fence.wide n P f #[v, .int .i64 i, u] w fun x w' => ∃ v', x = .returned v' ∧ RowOk w' v' e sz (nx + m) (vs.take (i * sz) ++ us ++ vs.drop (i * sz)) ∧ Step (fun b => b < w.heap.size ∧ some b ≠ blk v) w w' ∧
      (∀ b, blk v' = some b → b < w'.heap.size ∧ (blk v = some b ∨ w.heap.size ≤ b))

theorem RDs_take {w : World} {M : Nat → Prop} : ∀ {xs : List D} {vs : List Value} (n : Nat), RDs w M xs vs → RDs w M (xs.take n) (vs.take n)
  | xs, vs, 0, h => by simp [RDs]
  | [], vs, n + 1, h => by simp only [RDs] at h; subst h; simp [RDs]
  | x :: xs, vs, n + 1, h => by
    simp only [RDs] at h
    obtain ⟨v, t, rfl, h1, h2⟩ := h
    simp only [List.take_succ_cons, RDs]
    exact ⟨v, t.take n, rfl, h1, RDs_take n h2⟩
theorem RDs_drop {w : World} {M : Nat → Prop} : ∀ {xs : List D} {vs : List Value} (n : Nat), RDs w M xs vs → RDs w M (xs.drop n) (vs.drop n)
  | xs, vs, 0, h => by simpa using h
  | [], vs, n + 1, h => by simp only [RDs] at h; subst h; simp [RDs]
  | x :: xs, vs, n + 1, h => by
    simp only [RDs] at h
    obtain ⟨v, t, rfl, h1, h2⟩ := h
    simpa using RDs_drop n h2
theorem flat_len {sz : Nat} : ∀ (l : List (List D)), (∀ y ∈ l, y.length = sz) → l.flatten.length = l.length * sz := by
  intro l
  induction l with
  | nil => simp
  | cons y ys ih => intro hy; simp [ih (fun q hq => hy q (by simp [hq])), hy y (by simp), Nat.add_mul]; omega
theorem flat_take {sz : Nat} : ∀ (l : List (List D)) (n : Nat), (∀ y ∈ l, y.length = sz) → (l.take n).flatten = l.flatten.take (n * sz)
  | l, 0, _ => by simp
  | [], n + 1, _ => by simp
  | y :: l, n + 1, h => by
    have hy := h y (by simp)
    rw [List.take_succ_cons, List.flatten_cons, List.flatten_cons, flat_take l n (fun q hq => h q (by simp [hq])), List.take_append, hy, List.take_of_length_le (l := y) (by rw [hy, Nat.add_mul]; omega)]
    congr 2
    rw [Nat.add_mul]; omega
theorem flat_drop {sz : Nat} : ∀ (l : List (List D)) (n : Nat), (∀ y ∈ l, y.length = sz) → (l.drop n).flatten = l.flatten.drop (n * sz)
  | l, 0, _ => by simp
  | [], n + 1, _ => by simp
  | y :: l, n + 1, h => by
    have hy := h y (by simp)
    rw [List.drop_succ_cons, List.flatten_cons, flat_drop l n (fun q hq => h q (by simp [hq])), List.drop_append, hy, List.drop_of_length_le (l := y) (by rw [hy, Nat.add_mul]; omega), List.nil_append]
    congr 1
    rw [Nat.add_mul]; omega

theorem OW_insert' (hE : E.Good) {key key2 : Nat} {f : Nat} {e : TypeId} {sz bts : Nat} (hc : Ins E.P f e sz bts) (hne : Nat.beq key key2 = false) {o : Oper} {fo so xo io : Operand} {ts : Array TypeId} (ho : ops[i]? = some o) (hop : o.op = .call ⟨.value fo, #[so, io, xo], ts⟩) (hw : awant ops o s = some true)
    (hfo : ev s fo = .d (.fn (.func f) [] [])) (hso : ev s so = .row key) {xs : List (List D)} (hkey : h key = some (.row e sz xs)) (hxo : ev s xo = .row key2) {ys : List (List D)} (hkey2 : h key2 = some (.row e sz ys)) {j : Nat} (hio : ev s io = .d (.lit (.int .i64 j))) (hj : j ≤ xs.length)
    (hpos : 0 < ys.length) (hn : xs.length + ys.length ≤ 140737488355328) (hb : (xs.length + ys.length) * bts ≤ 140737488355328)
    {s' : Slots} (hs : putS E.N (unkS key s) o.dst (.row key) = some s') (hk' : OW E ops (i + 1) Q ⟨J, s', hset (unkH key h) key (some (.row e sz (xs.take j ++ ys ++ xs.drop j)))⟩) : OW E ops i Q ⟨J, s, h⟩ := fun ι a w r => by
  have hd : ops.drop i = o :: ops.drop (i + 1) := by
    obtain ⟨hlt, rfl⟩ := List.getElem?_eq_some_iff.1 ho
    exact List.drop_eq_getElem_cons hlt
  rw [hd]
  simp only [wpListIn]
  rw [if_pos (awant_ok r hw)]
  refine ⟨fun f _ => hE.wide.fn f, ?_⟩
  rw [Oper.semAt_plain E.F _ _ (by rw [hop]; intro c hc; cases hc)]
  obtain ⟨dst, op, ty, pos, af, gd⟩ := o
  simp only at hop hs
  subst hop
  obtain ⟨Z, K, Y, hZE, r⟩ := r
  have hf1 := RA_ev (C := cx Z h ι w) (s := s) (a := a) fo fun t _ => r.slot t
  rw [hfo] at hf1
  simp only [RA, RD] at hf1
  obtain ⟨vf, vc, ef, hvf, hvc⟩ := hf1
  have hvf' : vf = #[] := by
    have := hvf; simp only [RDs] at this; simpa using this
  have hvc' : vc = #[] := by
    have := hvc; simp only [RDs] at this; simpa using this
  subst hvf'; subst hvc'
  have h1 := RA_ev (C := cx Z h ι w) (s := s) (a := a) so fun t _ => r.slot t
  rw [hso] at h1
  simp only [RA] at h1
  obtain ⟨hkd, e1⟩ := h1
  have h2 := RA_ev (C := cx Z h ι w) (s := s) (a := a) xo fun t _ => r.slot t
  rw [hxo] at h2
  simp only [RA] at h2
  obtain ⟨hkd2, e2⟩ := h2
  have h3 := RA_ev (C := cx Z h ι w) (s := s) (a := a) io fun t _ => r.slot t
  rw [hio] at h3
  have e3 := (RA_lit.1 h3).1
  have hne' : key ≠ key2 := by intro q; rw [q] at hne; simp at hne
  obtain ⟨vs, f1, f2, f3, f4⟩ := r.mem.ent key _ hkey
  obtain ⟨us, g1, g2, g3, g4⟩ := r.mem.ent key2 _ hkey2
  have hvl : vs.length = xs.length * sz := by rw [RDs_length f2]; exact flat_len xs f3
  have hul : us.length = ys.length * sz := by rw [RDs_length g2]; exact flat_len ys g3
  rw [exec_call ef hc.1]
  simp only [Oper.uponIn]
  refine ⟨fun hx => (by rw [hE.wide.depth] at hx; cases hx), ?_⟩
  have hcall := hc.2 (E.n - 1) w (ι key) xs.length vs (ι key2) ys.length us j f1 hvl g1 hul hpos hj hn hb (RDs_one f2) (RDs_one g2) (fun b hb1 hb2 => hne' (r.mem.apart key key2 b hkd hkd2 hb1 hb2))
  have hargs : (#[] ++ Array.map a.eval #[so, io, xo] ++ #[] : Array Value) = #[ι key, .int .i64 j, ι key2] := by simp [e1, e2, e3]
  rw [hargs]
  refine (hE.wide.calls hcall).mono fun x w' ⟨v', he', q1, q2, q3⟩ => ?_
  subst he'
  show wpListIn _ _ _ _ _ _ _ _
  have hent : EntOk (cx Z (hset (unkH key h) key (some (.row e sz (xs.take j ++ ys ++ xs.drop j)))) (fun j => bif Nat.beq j key then v' else ι j) w') (.row e sz (xs.take j ++ ys ++ xs.drop j)) v' := by
    have hlen : (xs.take j ++ ys ++ xs.drop j).length = xs.length + ys.length := by simp; omega
    refine ⟨vs.take (j * sz) ++ us ++ vs.drop (j * sz), by rw [hlen]; exact q1, ?_, ?_, by rw [hlen]; exact hn⟩
    · have := RDs_append (RDs_append (RDs_take (j * sz) f2) g2) (RDs_drop (j * sz) f2)
      rw [← flat_take xs j f3, ← flat_drop xs j f3, ← List.flatten_append, ← List.flatten_append] at this
      refine RDs_keeps (w := w) (M := (cx Z h ι w).M) ⟨fun b o u hm hc => ?_, fun b hm hi => hi.at (q2.block b ⟨hi.lt, fun e => hm (.inr ⟨key, hkd, e.symm⟩)⟩), fun b hlt hm hm' => ?_⟩ _ _ this
      · rw [World.cell?_of_block (w := w) (a := ⟨b, o, none⟩) (q2.block b ⟨World.block_lt_of_cell? w ⟨b, o, none⟩ hc, fun e => hm (.inr ⟨key, hkd, e.symm⟩)⟩)]; exact hc
      · rcases hm' with hz | ⟨j, hj, hjb⟩
        · exact hm (.inl hz)
        · by_cases hjk : j = key
          · subst hjk
            simp at hjb
            rcases (q3 b hjb).2 with h | h
            · exact hm (.inr ⟨_, hkd, h⟩)
            · have hlt' : b < w.heap.size := hlt.lt
              have h' : w.heap.size ≤ b := h
              omega
          · have hbq : Nat.beq j key = false := Bool.eq_false_iff.2 fun h' => hjk (Nat.eq_of_beq_eq_true h')
            simp only [dom, hset_ne (unkH key h) _ hjk] at hj
            simp only [hbq, cond_false] at hjb
            exact hm (.inr ⟨j, dom_unkH.1 hj, hjb⟩)
    · intro y hy
      rcases List.mem_append.1 hy with hy | hy
      · rcases List.mem_append.1 hy with hy | hy
        · exact f3 y (List.mem_of_mem_take hy)
        · exact g3 y hy
      · exact f3 y (List.mem_of_mem_drop hy)
  obtain ⟨m', kk⟩ := r.mem.redo hkd q2 q3 hent
  have hmarks : Marks Z K w' a.defers := by
    obtain ⟨rs, p1, p2, p3⟩ := r.ds
    refine ⟨rs, p1, p2, fun x hx => ?_⟩
    obtain ⟨p4, p5⟩ := p3 x hx
    refine ⟨?_, p5⟩
    rw [q2.block x ⟨(Array.getElem?_eq_some_iff.1 p4).1, fun e => ?_⟩]
    · exact p4
    · rcases f1 with ⟨a0, e0, _⟩ | ⟨g, cap, cur, e0, hc0, hg, _⟩
      · rw [e0] at e; cases a0 <;> simp [blk] at e
      · rw [e0] at e
        have hg' : w.heap[g]? = some (.cells cur _ (0, 0)) := hg
        have : blk (.slice (some ⟨g, 0, none⟩) xs.length cap) = some g := by simp [blk]; omega
        rw [this] at e
        cases e
        rw [hg'] at p4
        cases p4
  have r0 : Rel Z K E.N (J K Y Z) (unkS key s) (hset (unkH key h) key (some (.row e sz (xs.take j ++ ys ++ xs.drop j)))) (fun j => bif Nat.beq j key then v' else ι j) a w' :=
    ⟨m', r.size, fun j => RA_keepsK kk _ _ (nokey_unk key _) (RA_unk (r.slot j)), hmarks⟩
  unfold putS at hs
  cases hdst : dst with
  | none =>
    simp only [hdst] at hs
    cases hs
    exact hk' _ _ w' ⟨Z, K, Y, hZE, Rel.put_none r0 (Grew.refl _) _⟩
  | some d =>
    simp only [hdst] at hs
    cases hbd : Nat.ble (d + 1) E.N with
    | false => rw [hbd] at hs; cases hs
    | true =>
      rw [hbd] at hs
      cases hs
      exact hk' _ _ w' ⟨Z, K, Y, hZE, Rel.put r0 (Grew.refl _) hbd key_row⟩
end
end Go.AL
