/- AL, part 29: functions whose result holds a new row of their own; reads and writes inside rows of the frame's own. -/
import Derived.Test.YthffbfjnahipcaaA28
namespace Go.AL
set_option linter.unusedVariables false
set_option linter.unusedSimpArgs false

/-! ### A key under another name -/
mutual
def rk (k j : Nat) : AV → AV
  | .d x => .d x
  | .any => .any
  | .agg cs => .agg (rks k j cs)
  | .tup cs => .tup (rks k j cs)
  | .fn f a b => .fn f (rks k j a) (rks k j b)
  | .ptr _ _ => .any
  | .row i => bif Nat.beq i k then .row j else .any
def rks (k j : Nat) : List AV → List AV
  | [] => []
  | x :: xs => rk k j x :: rks k j xs
end
mutual
theorem RA_rk {k j : Nat} {C C' : Cx} (hk : Keeps C.w C'.w C.M C'.M) (hd : C.dom k → C'.dom j ∧ C'.ι j = C.ι k) : ∀ (x : AV) (v : Value), RA C x v → RA C' (rk k j x) v
  | .d x, v => fun hx => by simp only [RA, rk] at hx ⊢; exact RD_keeps hk x v hx
  | .agg cs, v => fun hx => by
    simp only [RA, rk] at hx ⊢
    obtain ⟨vs, e, h1⟩ := hx
    exact ⟨vs, e, RAs_rk hk hd cs _ h1⟩
  | .tup cs, v => fun hx => by
    simp only [RA, rk] at hx ⊢
    obtain ⟨vs, e, h1⟩ := hx
    exact ⟨vs, e, RAs_rk hk hd cs _ h1⟩
  | .fn f first cap, v => fun hx => by
    simp only [RA, rk] at hx ⊢
    obtain ⟨vf, vc, e, h1, h2⟩ := hx
    exact ⟨vf, vc, e, RAs_rk hk hd first _ h1, RAs_rk hk hd cap _ h2⟩
  | .any, v => fun _ => by simp only [RA, rk]
  | .ptr i o, v => fun _ => by simp only [RA, rk]
  | .row i, v => fun hx => by
    simp only [rk]
    cases hb : Nat.beq i k with
    | true =>
      have e := Nat.eq_of_beq_eq_true hb
      subst e
      simp only [RA, cond_true] at hx ⊢
      have := hd hx.1
      exact ⟨this.1, by rw [this.2]; exact hx.2⟩
    | false => simp [RA]
theorem RAs_rk {k j : Nat} {C C' : Cx} (hk : Keeps C.w C'.w C.M C'.M) (hd : C.dom k → C'.dom j ∧ C'.ι j = C.ι k) : ∀ (xs : List AV) (vs : List Value), RAs C xs vs → RAs C' (rks k j xs) vs
  | [], vs => fun hx => by simpa only [RAs, rks] using hx
  | x :: xs, vs => fun hx => by
    simp only [RAs, rks] at hx ⊢
    obtain ⟨v, t, e, h1, h2⟩ := hx
    exact ⟨v, t, e, RA_rk hk hd x v h1, RAs_rk hk hd xs t h2⟩
end

def RetOwn (T : Nat → Option TI) (fn : Func) (J : Jt) (e : TypeId) (sz : Nat) (ys : List (List D)) (R : AV) : Exit → St → Prop := fun x st =>
  (x = .normal ∨ x = .ret) ∧ st.J = J ∧ ∃ k Rs, aresults T st.h st.s fn.results.toList = some Rs ∧ st.h k = some (.row e sz ys) ∧ AVle (rk k 0 (packR Rs)) R

theorem Does_ofOwn {P : Program} {T : Nat → Option TI} (hT : TOk P T) (hm : P.follows .mixedOrders = true) {f : Nat} {fn : Func} {c : Code} {args : List AV} {e : TypeId} {sz : Nat} {ys : List (List D)} {R : AV} (hf : P.funcs[f]? = some fn) (hb : fn.body = some c) (hn : (fn.name == "runtime.NumGoroutine") = false)
    {N : Nat} (hN : fn.ntmps = N) (hl : Nat.ble args.length N = true)
    (h : ∀ F n Z, (⟨P, T, F, n, Z, N⟩ : Env).Good → F = Fence.wide → ∀ J, CW ⟨P, T, F, n, Z, N⟩ c (RetOwn T fn J e sz ys R) ⟨J, argSlots args 0, noHeap⟩) : Does P f args (oneRow e sz ys) R := by
  subst hN
  refine ⟨⟨fn, hf, hn, by rw [hb]; rfl⟩, fun n Z w vs hZ hv => ?_⟩
  let E : Env := ⟨P, T, Fence.wide, n, Z, fn.ntmps⟩
  have hE : E.Good := ⟨⟨hT, fun f => trivial, rfl, hm⟩, .inl rfl⟩
  refine callsIn_of_wp_marks hf hb trivial (wpIn_mono (h _ _ _ hE rfl (grewJ w) noι _ w ?_) ?_) rfl
  · exact ⟨Z, fun b => b < w.heap.size, fun _ => False, ⟨fun b hb => hb, fun _ hb => hb.elim, mono_grew w⟩, rel_begin hZ (fun b hb => hb) ⟨Grew.refl w, fun b hb => hb⟩ ((mono_grew w).closed (fun b => b < w.heap.size) (fun _ => False) Z) hv hl⟩
  · rintro x a' w' ⟨st, ι, ⟨he, hJ, k, Rs, hRs, hk, hR⟩, Z', K, Y, hZE, r⟩
    have goal : LeavesInM Fence.wide n P fn a'.tmps (fun x w' => ∃ v ι, x = .returned v ∧ Grew w w' ∧ RA (cx Z (oneRow e sz ys) ι w') R v ∧ Own Z w.heap.size (oneRow e sz ys) ι w') a'.defers .returning w' := by
      refine leaves_marks r fun w1 r1 => ?_
      have hg : Grew w w1 ∧ ∀ b, b < w.heap.size → K b := by have := r1.mem.Jw; rw [hJ] at this; exact this
      obtain ⟨v, g1, g2⟩ := results_ok hT r1 hRs
      have hkd : dom st.h k := by show (st.h k).isSome = true; rw [hk]; rfl
      obtain ⟨us, f1, f2, f3, f4⟩ := r1.mem.ent k _ hk
      have keeps : Keeps w1 w1 (cx Z' st.h ι w1).M (cx Z (oneRow e sz ys) (fun _ => ι k) w1).M := ⟨fun _ _ _ _ hh => hh, fun _ _ hh => hh, fun b _ hm hm' => by
        rcases hm' with hm' | ⟨j, hj, hjb⟩
        · exact hm (.inl (hZE.1 b hm'))
        · exact hm (.inr ⟨k, hkd, hjb⟩)⟩
      refine ⟨v, g1, v, fun _ => ι k, rfl, hg.1, hR _ _ (RA_rk (C := cx Z' st.h ι w1) (C' := cx Z (oneRow e sz ys) (fun _ => ι k) w1) keeps (fun _ => ⟨by show (oneRow e sz ys 0).isSome = true; simp [oneRow, hset], rfl⟩) _ _ g2), ⟨fun j e' hj => ?_, fun j b hj hjb => ?_, fun j j' b hj hj' _ _ => (dom_oneRow hj).trans (dom_oneRow hj').symm⟩⟩
      · have hj0 := dom_oneRow (k := j) (by show (oneRow e sz ys j).isSome = true; rw [hj]; rfl)
        subst hj0
        have : e' = .row e sz ys := by simpa [oneRow, hset] using hj.symm
        subst this
        exact ⟨us, f1, RDs_keeps keeps _ _ f2, f3, f4⟩
      · have ho := r1.mem.own k b hkd hjb
        exact ⟨fun hz => ho.1 (hZE.1 b hz), Nat.le_of_not_lt fun hlt => ho.2.1 (hg.2 b hlt), ho.2.2⟩
    rcases he with rfl | rfl
    · exact goal
    · exact goal

section
variable {E : Env} {ops : List Oper} {Q : Exit → St → Prop} {i : Nat} {J : Jt} {s : Slots} {h : Heap} {o : Oper}

/-- A call whose result holds a new row. -/
theorem OW_callOwn' (hE : E.Good) (key : Nat) {f : Nat} {L : List AV} {e : TypeId} {sz : Nat} {ys : List (List D)} {R : AV} (hc : Does E.P f L (oneRow e sz ys) R) {o : Oper} {fo : Operand} {args : Array Operand} {ts : Array TypeId} (ho : ops[i]? = some o) (hop : o.op = .call ⟨.value fo, args, ts⟩) (hw : awant ops o s = some true)
    (hL : callArgs s fo args.toList = some (f, L)) (hk : kfs L = true) (hkey : h key = none) {s' : Slots} (hs : putS E.N s o.dst (rk 0 key R) = some s') (hk' : OW E ops (i + 1) Q ⟨J, s', hset h key (some (.row e sz ys))⟩) : OW E ops i Q ⟨J, s, h⟩ := fun ι a w r => by
  have hd : ops.drop i = o :: ops.drop (i + 1) := by
    obtain ⟨hlt, rfl⟩ := List.getElem?_eq_some_iff.1 ho
    exact List.drop_eq_getElem_cons hlt
  rw [hd]
  simp only [wpListIn]
  rw [if_pos (awant_ok r hw)]
  refine ⟨fun f _ => hE.wide.fn f, ?_⟩
  rw [Oper.semAt_plain E.F _ _ (by rw [hop]; intro c hc; cases hc)]
  obtain ⟨Z, K, Y, hZE, r⟩ := r
  obtain ⟨vf, vc, he, hv⟩ := call_args hL r.slot
  obtain ⟨dst, op, ty, pos, af, gd⟩ := o
  simp only at hop hs
  subst hop
  rw [exec_call he hc.1]
  simp only [Oper.uponIn]
  refine ⟨fun hx => (by rw [hE.wide.depth] at hx; cases hx), ?_⟩
  have hZ : ∀ b, (cx Z h ι w).M b → b < w.heap.size := fun b hb => r.mem.Mlt hb
  have hv' : RAs (cx (cx Z h ι w).M noHeap noι w) L (vf ++ args.map a.eval ++ vc).toList :=
    RAs_kf (C := cx Z h ι w) (C' := cx (cx Z h ι w).M noHeap noι w) ⟨fun _ _ _ _ hh => hh, fun _ _ hh => hh, fun b _ hm hm' => by rw [M_of] at hm'; exact hm hm'⟩ _ _ hk hv
  have := hc.2 (E.n - 1) (cx Z h ι w).M w _ hZ hv'
  simp only [Array.toArray_toList] at this
  refine (hE.wide.calls this).mono fun x w' ⟨v, ι', he', hg, hRv, hown⟩ => ?_
  subst he'
  show wpListIn _ _ _ _ _ _ _ _
  have hd0 : dom (oneRow e sz ys) 0 := by show (oneRow e sz ys 0).isSome = true; simp [oneRow, hset]
  have hnew : ∀ b, blk (ι' 0) = some b → w.heap.size ≤ b ∧ b < w'.heap.size := fun b hb => by
    have := hown.own 0 b hd0 hb
    exact ⟨this.2.1, this.2.2⟩
  obtain ⟨us, f1, f2, f3, f4⟩ := hown.ent 0 (.row e sz ys) (by simp [oneRow, hset])
  have keeps : Keeps w' w' (cx (cx Z h ι w).M (oneRow e sz ys) ι' w').M (cx Z (hset h key (some (.row e sz ys))) (fun j => bif Nat.beq j key then ι' 0 else ι j) w').M := ⟨fun _ _ _ _ hh => hh, fun _ _ hh => hh, fun b _ hm hm' => by
    rcases hm' with hz | ⟨j, hj, hjb⟩
    · exact hm (.inl (.inl hz))
    · by_cases hjk : j = key
      · subst hjk
        simp at hjb
        exact hm (.inr ⟨0, hd0, hjb⟩)
      · have hbq : Nat.beq j key = false := Bool.eq_false_iff.2 fun h' => hjk (Nat.eq_of_beq_eq_true h')
        simp only [dom, hset_ne h _ hjk] at hj
        simp only [hbq, cond_false] at hjb
        exact hm (.inl (.inr ⟨j, hj, hjb⟩))⟩
  have hent : EntOk (cx Z (hset h key (some (.row e sz ys))) (fun j => bif Nat.beq j key then ι' 0 else ι j) w') (.row e sz ys) (ι' 0) := ⟨us, f1, RDs_keeps keeps _ _ f2, f3, f4⟩
  obtain ⟨m', kc⟩ := r.mem.add hg hkey hnew hent
  have hRv' : RA (cx Z (hset h key (some (.row e sz ys))) (fun j => bif Nat.beq j key then ι' 0 else ι j) w') (rk 0 key R) v :=
    RA_rk (C := cx (cx Z h ι w).M (oneRow e sz ys) ι' w') keeps (fun _ => ⟨by show (hset h key _ key).isSome = true; rw [hset_same]; rfl, by simp⟩) _ _ hRv
  have r0 : Rel Z K E.N (J K Y Z) s (hset h key (some (.row e sz ys))) (fun j => bif Nat.beq j key then ι' 0 else ι j) a w' := ⟨m', r.size, fun i => RA_keeps kc _ _ (r.slot i), r.ds.grew hg⟩
  unfold putS at hs
  cases hdst : dst with
  | none =>
    simp only [hdst] at hs
    cases hs
    exact hk' _ _ w' ⟨Z, K, Y, hZE, Rel.put_none r0 (Grew.refl _) _⟩
  | some d =>
    simp only [hdst] at hs
    cases hb : Nat.ble (d + 1) E.N with
    | false => rw [hb] at hs; cases hs
    | true =>
      rw [hb] at hs
      cases hs
      exact hk' _ _ w' ⟨Z, K, Y, hZE, Rel.put r0 (Grew.refl _) hb hRv'⟩

/-! ### Inside rows -/
theorem loc_idxRow (hE : E.Good) {key : Nat} {t : TypeId} {xo io : Operand} (hop : o.op = .indexAddr t xo io)
    {e : TypeId} {z1 z2 : Nat} {z3 : List Value} (ht : E.T t = some ⟨.slice e, z1, z2, z3⟩) {k : TK} {sz z5 : Nat} {z6 : List Value} (hte : E.T e = some ⟨k, sz, z5, z6⟩)
    {xs : List (List D)} (hx : ev s xo = .row key) (hkey : h key = some (.row e sz xs)) {ik : IntKind} {j : Nat} (hi : ev s io = .d (.lit (.int ik j))) (hj : j < xs.length) : Loc E ops J h o s (.ptr key (j * sz)) := by
  refine ⟨(by rw [hop]; intro c hc; cases hc), fun Z K Y ι a w m hl => ?_⟩
  obtain ⟨dst, op, ty, pos, af, gd⟩ := o
  simp only at hop
  subst hop
  have h1 := hl xo (by simp [Op.operands])
  have h2 := hl io (by simp [Op.operands])
  rw [hx] at h1
  rw [hi] at h2
  obtain ⟨e2, _⟩ := RA_lit.1 h2
  simp only [RA] at h1
  obtain ⟨hkd, e1⟩ := h1
  obtain ⟨vs, f1, f2, f3, f4⟩ := m.ent key _ hkey
  rcases f1 with ⟨_, _, h0, _⟩ | ⟨g, cap, cur, e0, hc0, hg, hnc, hcm, hcs, htk⟩
  · omega
  have hb : blk (ι key) = some g := by rw [e0]; simp [blk]; omega
  have hu := (hE.ok.T t _ ht).2
  simp only [TK.fits] at hu
  have hsz := run_size hE.ok.T hte w
  have e1' : a.eval xo = .slice (some ⟨g, 0, none⟩) xs.length cap := e1.trans e0
  refine ⟨.pointer (some ⟨g, j * sz, none⟩), w, ?_, Grew.refl w, ?_⟩
  · simp [execOp, Instr.indexAt, e1', e2, asIntOf, run_underlying hu, hj, hsz]
    simp [Addr.add]
    exact fun h => h.symm
  · simp only [RA]
    exact ⟨hkd, g, hb, rfl⟩

theorem ofCells_append {ag : Bool} {n : Nat} {A B : List AV} {R : AV} (h : ofCells ag n A = some R) : ofCells ag n (A ++ B) = some R := by
  cases ag with
  | true =>
    obtain ⟨hn, rfl⟩ := ofCells_agg h
    have : Nat.ble n (A ++ B).length = true := Nat.ble_eq_true_of_le (by simp; omega)
    simp only [ofCells, cond_true, this]
    rw [List.take_append_of_le_length hn]
  | false =>
    cases A with
    | nil => simp [ofCells] at h
    | cons x A => simpa [ofCells] using h
theorem flat_at {sz : Nat} {xs : List (List D)} {j : Nat} {x : List D} (h : xs[j]? = some x) (hl : ∀ y ∈ xs, y.length = sz) : xs.flatten = xs.flatten.take (j * sz) ++ x ++ xs.flatten.drop (j * sz + sz) := by
  obtain ⟨hj, rfl⟩ := List.getElem?_eq_some_iff.1 h
  have := flat_set (y := xs[j]) hj hl
  rwa [List.set_getElem_self] at this

theorem loc_loadRow (hE : E.Good) {key off : Nat} {t : TypeId} {p : Operand} (hop : o.op = .load t p) {ti : TI} (ht : E.T t = some ti) {e : TypeId} {sz : Nat} {xs : List (List D)} {j q : Nat} (hp : ev s p = .ptr key q) (hq : q = j * sz + off) (hkey : h key = some (.row e sz xs))
    {x : List D} (hx : xs[j]? = some x) (hoff : off ≤ x.length) {R : AV} (hR : ofCells ti.k.isAgg ti.size ((x.drop off).map .d) = some R) : Loc E ops J h o s R := by
  refine ⟨(by rw [hop]; intro c hc; cases hc), fun Z K Y ι a w m hl => ?_⟩
  obtain ⟨dst, op, ty, pos, af, gd⟩ := o
  simp only at hop
  subst hop
  subst hq
  have h1 := hl p (by simp [Op.operands])
  rw [hp] at h1
  simp only [RA] at h1
  obtain ⟨hkd, b, hb, e1⟩ := h1
  obtain ⟨vs, f1, f2, f3, f4⟩ := m.ent key _ hkey
  have hlt := (List.getElem?_eq_some_iff.1 hx).1
  rcases f1 with ⟨_, _, h0, _⟩ | ⟨g, cap, cur, e0, hc0, hg, hnc, hcm, hcs, htk⟩
  · omega
  have hbg : blk (ι key) = some g := by rw [e0]; simp [blk]; omega
  have : b = g := by rw [hbg] at hb; injection hb with hb; exact hb.symm
  subst this
  have hg' : w.heap[b]? = some (.cells cur e (0, 0)) := hg
  have hxl : x.length = sz := f3 x (List.mem_of_getElem? hx)
  have hfd : xs.flatten.drop (j * sz + off) = x.drop off ++ xs.flatten.drop (j * sz + sz) := by
    have hA : (xs.flatten.take (j * sz)).length = j * sz := by
      have h0 := flat_len xs f3
      have : j * sz + sz ≤ xs.length * sz := by rw [← Nat.succ_mul]; exact Nat.mul_le_mul_right _ hlt
      rw [List.length_take, Nat.min_eq_left (by omega)]
    conv => lhs; rw [flat_at hx f3]
    rw [List.append_assoc, List.drop_append, hA, List.drop_of_length_le (l := xs.flatten.take (j * sz)) (by omega), Nat.add_sub_cancel_left, List.nil_append, List.drop_append_of_le_length hoff]
  obtain ⟨v, h3, h4⟩ := run_loadVar_of (w := w) hE.ok.T ht (C := cx Z h ι w) (cs := ((xs.flatten).drop (j * sz + off)).map .d) (vs := vs.drop (j * sz + off)) (RAs_map_d.2 (RDs_drop _ f2)) b (j * sz + off) (fun q v hq => by
    rw [cell_of_row w b _ cur e (0, 0) hg']
    rw [List.getElem?_drop, ← htk, List.getElem?_take] at hq
    split at hq
    · simpa using hq
    · cases hq) (by rw [hfd, List.map_append]; exact ofCells_append hR)
  exact ⟨v, w, by simp [execOp, Instr.loadAt, Instr.sureAddr, e1, h3], Grew.refl w, h4⟩

/-- A store inside a row of the frame's own. -/
theorem OW_storeRow' (hE : E.Good) {key off : Nat} {t2 : TypeId} {po yo : Operand} (ho2 : ops[i]? = some o) (hop2 : o.op = .store t2 po yo) (hw2 : awant ops o s = some true) (hdst2 : o.dst = none) {ti : TI} (ht2 : E.T t2 = some ti)
    {e : TypeId} {sz : Nat} {xs : List (List D)} {j q : Nat} (hp : ev s po = .ptr key q) (hq : q = j * sz + off) (hkey : h key = some (.row e sz xs)) {x : List D} (hx : xs[j]? = some x) {y : List D} (hc : cellsOk (ev s yo) = true) (hy : cellsOf (ev s yo) = y.map .d) (hyl : Nat.beq y.length ti.size = true) (hoff : off + y.length ≤ sz)
    {xs' : List (List D)} (hxs : xs.set j (x.take off ++ y ++ x.drop (off + y.length)) = xs') (hk : OW E ops (i + 1) Q ⟨J, s, hset h key (some (.row e sz xs'))⟩) : OW E ops i Q ⟨J, s, h⟩ := fun ι a w r => by
  have hyl := Nat.eq_of_beq_eq_true hyl
  subst hq
  subst hxs
  have hdr2 : ops.drop i = o :: ops.drop (i + 1) := by
    obtain ⟨hlt, rfl⟩ := List.getElem?_eq_some_iff.1 ho2
    exact List.drop_eq_getElem_cons hlt
  rw [hdr2]
  simp only [wpListIn]
  rw [if_pos (awant_ok r hw2)]
  refine ⟨fun f _ => hE.wide.fn f, ?_⟩
  rw [Oper.semAt_plain E.F _ _ (by rw [hop2]; intro c hc; cases hc)]
  obtain ⟨dst2, op2, ty2, pos2, af2, gd2⟩ := o
  simp only at hop2 hdst2
  subst hop2 hdst2
  obtain ⟨Z, K, Y, hZE, r⟩ := r
  have h1 := RA_ev (C := cx Z h ι w) (s := s) (a := a) po fun t _ => r.slot t
  rw [hp] at h1
  simp only [RA] at h1
  obtain ⟨hkd, b0, hb0, e1⟩ := h1
  obtain ⟨vs, f1, f2, f3, f4⟩ := r.mem.ent key _ hkey
  have hj := (List.getElem?_eq_some_iff.1 hx).1
  have hxl : x.length = sz := f3 x (List.mem_of_getElem? hx)
  have hvl : vs.length = xs.length * sz := by rw [RDs_length f2]; exact flat_len xs f3
  rcases f1 with ⟨_, _, h0, _⟩ | ⟨g, cap, cur, e0, hc0, hg, hnc, hcm, hcs, htk⟩
  · omega
  have hg' : w.heap[g]? = some (.cells cur e (0, 0)) := hg
  have hb : blk (ι key) = some g := by rw [e0]; simp [blk]; omega
  have : b0 = g := by rw [hb] at hb0; injection hb0 with hb0; exact hb0.symm
  subst this
  have hxv := RA_cells r.mem.named hc (RA_ev (C := cx Z h ι w) (s := s) (a := a) yo fun t _ => r.slot t)
  rw [hy] at hxv
  have hlen := RAs_length hxv
  simp only [List.length_map] at hlen
  have hRD := RAs_map_d.1 hxv
  have hjs : j * sz + sz ≤ xs.length * sz := by rw [← Nat.succ_mul]; exact Nat.mul_le_mul_right _ hj
  have hns : xs.length * sz ≤ cap * sz := Nat.mul_le_mul_right _ hnc
  have hst := run_storeCells_at (P := E.P) b0 (j * sz + off) e (a.eval yo).cells.toList 0 cur w hg' (by omega) (RDs_one hRD)
  have hsize : (a.eval yo).cells.size = ti.size := by rw [← hyl]; simpa using hlen
  have hsz2 := run_size hE.ok.T ht2 w
  have hrun2 : (execOp a.eval ⟨none, .store t2 po yo, ty2, pos2, af2, gd2⟩).run E.P w = .ok .skip (w.setRow b0 (cur.toList.take (j * sz + off) ++ (a.eval yo).cells.toList ++ cur.toList.drop (j * sz + off + (a.eval yo).cells.toList.length)).toArray) := by
    simp [execOp, Instr.storeAt, Instr.sureAddr, e1, storeVar, hsz2, hsize]
    simp at hst
    rw [hsize] at hst
    rw [hst]
    rfl
  rw [hrun2]
  show wpListIn _ _ _ _ _ _ _ _
  obtain ⟨cv, hcv⟩ : ∃ cv, cv = (a.eval yo).cells.toList := ⟨_, rfl⟩
  rw [← hcv] at hlen hRD hst ⊢
  have hcl : cv.length = y.length := hlen
  obtain ⟨x1, hx1⟩ : ∃ x1, x1 = x.take off ++ y ++ x.drop (off + y.length) := ⟨_, rfl⟩
  rw [← hx1] at hk
  have hx1l : x1.length = sz := by rw [hx1]; simp; omega
  obtain ⟨cur', hcur'⟩ : ∃ cur', cur' = (cur.toList.take (j * sz + off) ++ cv ++ cur.toList.drop (j * sz + off + cv.length)).toArray := ⟨_, rfl⟩
  rw [← hcur']
  have hnew : (w.setRow b0 cur').heap[b0]? = some (.cells cur' e (0, 0)) := setRow_heap w b0 cur _ e _ hg'
  have hdom : ∀ k', dom h k' ↔ dom (hset h key (some (.row e sz (xs.set j x1)))) k' := by
    intro k'
    by_cases hjk : k' = key
    · subst hjk; simp [dom, hset_same]; rw [hkey]; rfl
    · simp only [dom, hset_ne h _ hjk]
  have kc : KeepsC (cx Z h ι w) (cx Z (hset h key (some (.row e sz (xs.set j x1)))) ι (w.setRow b0 cur')) := by
    refine ⟨⟨fun b o u hm hcc => ?_, fun b hm hi => hi.at (setRow_other w b0 b _ fun e => hm (e ▸ .inr ⟨key, hkd, hb⟩)), fun b _ hm hm' => ?_⟩, fun k' hk' => ⟨(hdom k').1 hk', rfl⟩⟩
    · have hne : b ≠ b0 := by intro e; subst e; exact hm (.inr ⟨key, hkd, hb⟩)
      show World.cell? _ _ = _
      rw [World.cell?_of_block (w := w) (a := ⟨b, o, none⟩) (setRow_other w b0 b _ hne)]; exact hcc
    · rcases hm' with hz | ⟨k', hk', hkb⟩
      · exact hm (.inl hz)
      · exact hm (.inr ⟨k', (hdom k').2 hk', hkb⟩)
  have hcs' : cur'.size = cap * sz := by rw [hcur']; simp; omega
  have hfl : (xs.set j x1).flatten = xs.flatten.take (j * sz + off) ++ y ++ xs.flatten.drop (j * sz + off + y.length) := by
    have hA : (xs.flatten.take (j * sz)).length = j * sz := by
      have h0 := flat_len xs f3
      rw [List.length_take, Nat.min_eq_left (by omega)]
    have hBl : (xs.flatten.take (j * sz) ++ x).length = j * sz + sz := by simp only [List.length_append]; omega
    rw [flat_set hj f3, hx1]
    have e1 : xs.flatten.take (j * sz + off) = xs.flatten.take (j * sz) ++ x.take off := by
      conv => lhs; rw [flat_at hx f3]
      rw [List.take_append_of_le_length (by rw [hBl]; omega), List.take_append, hA, List.take_of_length_le (l := xs.flatten.take (j * sz)) (by omega), Nat.add_sub_cancel_left]
    have e2 : xs.flatten.drop (j * sz + off + y.length) = x.drop (off + y.length) ++ xs.flatten.drop (j * sz + sz) := by
      conv => lhs; rw [flat_at hx f3]
      rw [List.append_assoc, List.drop_append, hA, List.drop_of_length_le (l := xs.flatten.take (j * sz)) (by omega), List.nil_append, show j * sz + off + y.length - j * sz = off + y.length by omega, List.drop_append_of_le_length (by omega)]
    rw [e1, e2]
    simp only [List.append_assoc]
  have hent : EntOk (cx Z (hset h key (some (.row e sz (xs.set j x1)))) ι (w.setRow b0 cur')) (.row e sz (xs.set j x1)) (ι key) := by
    refine ⟨vs.take (j * sz + off) ++ cv ++ vs.drop (j * sz + off + y.length), .inr ⟨b0, cap, cur', by rw [e0]; simp, hc0, hnew, by simpa using hnc, hcm, hcs', ?_⟩, ?_, ?_, by simpa using f4⟩
    · have hl1 : (cur.toList.take (j * sz + off)).length = j * sz + off := by simp; omega
      rw [hcur', hcl, List.length_set]
      simp only []
      rw [← htk]
      apply List.ext_getElem?
      intro q
      simp only [List.getElem?_take, List.getElem?_append, List.getElem?_drop, List.length_append, List.length_take, List.length_drop, hcl, hl1]
      have hcz : cur.toList.length = cap * sz := by simpa using hcs
      rw [hcz]
      repeat' split
      all_goals first | rfl | omega | (exfalso; omega) | skip
      all_goals first | (congr 1; omega) | (simp; omega) | skip
      all_goals first | (rw [List.getElem?_eq_none (by simp; omega)]) | skip
    · rw [hfl]
      exact RDs_keeps kc.d _ _ (RDs_append (RDs_append (RDs_take _ f2) hRD) (RDs_drop _ f2))
    · intro z hz
      rcases List.mem_or_eq_of_mem_set hz with hz | rfl
      · exact f3 z hz
      · exact hx1l
  obtain ⟨m', _⟩ := r.mem.turn hkd hb (setRow_step w b0 _) (by simp) hent
  exact hk ι _ _ ⟨Z, K, Y, hZE, Rel.put_none ⟨m', r.size, fun i => RA_keeps kc _ _ (r.slot i), r.ds.turn ⟨cur, e, _, hg'⟩ (setRow_step w b0 _)⟩ (Grew.refl _) _⟩
end
end Go.AL
