/- AL, part 27: rows of the frame's own that are made, written at a place, turned into a text; a slice asked whether it is nil. -/
import Derived.Test.YthffbfjnahipcaaA25
import Derived.Laws.MakeOwn
import Derived.Laws.BytesArg
namespace Go.AL
set_option linter.unusedVariables false
set_option linter.unusedSimpArgs false

section
variable {E : Env} {ops : List Oper} {Q : Exit → St → Prop} {i : Nat} {J : Jt} {s : Slots} {h : Heap}

theorem eq_nilSlice_ {P : Program} (d : Nat) {t e : TypeId} (hu : P.underlying t = some (.slice e)) (a : Option Addr) (n c : Nat) (w : World) : (Op.equalIn (d + 1) t (.slice a n c) (.slice none 0 0)).run P w = .ok a.isNone w := by
  cases a <;> simp [Op.equalIn, run_underlying hu]
theorem eq_nilSlice {P : Program} {t e : TypeId} (hu : P.underlying t = some (.slice e)) (a : Option Addr) (n c : Nat) (w : World) : (Op.equal t (.slice a n c) (.slice none 0 0)).run P w = .ok a.isNone w := eq_nilSlice_ 9999 hu a n c w

/-- 'x == nil' at a slice: where it is, the row is empty. -/
theorem OW_eqNil' (hE : E.Good) {o : Oper} {t yt : TypeId} {xo yo : Operand} (ho : ops[i]? = some o) (hop : o.op = .binOp .eql t xo yo yt) (hw : awant ops o s = some true) {e : TypeId} {z1 z2 : Nat} {z3 : List Value} (ht : E.T t = some ⟨.slice e, z1, z2, z3⟩)
    {sz bts : Nat} {xs : List (List D)} (hx : ev s xo = .d (.sl sz bts xs)) (hy : ev s yo = .d (.lit (.slice none 0 0))) {d : Nat} (hdst : o.dst = some d) (hd : Nat.ble (d + 1) E.N = true)
    (hk : ∀ b, (b = true → xs = []) → OW E ops (i + 1) Q ⟨J, sset s d (.d (.lit (.bool b))), h⟩) : OW E ops i Q ⟨J, s, h⟩ := fun ι a w r => by
  have hdr : ops.drop i = o :: ops.drop (i + 1) := by
    obtain ⟨hlt, rfl⟩ := List.getElem?_eq_some_iff.1 ho
    exact List.drop_eq_getElem_cons hlt
  rw [hdr]
  simp only [wpListIn]
  rw [if_pos (awant_ok r hw)]
  refine ⟨fun f _ => hE.wide.fn f, ?_⟩
  rw [Oper.semAt_plain E.F _ _ (by rw [hop]; intro c hc; cases hc)]
  obtain ⟨dst, op, ty, pos, af, gd⟩ := o
  simp only at hop hdst
  subst hop hdst
  obtain ⟨Z, K, Y, hZE, r⟩ := r
  have h1 := RA_ev (C := cx Z h ι w) (s := s) (a := a) xo fun t _ => r.slot t
  rw [hx] at h1
  have h2 := RA_ev (C := cx Z h ι w) (s := s) (a := a) yo fun t _ => r.slot t
  rw [hy] at h2
  obtain ⟨e2, _⟩ := RA_lit.1 h2
  simp only [RA, RD] at h1
  obtain ⟨ad, cap, e1, _, _, _, hc⟩ := h1
  have hu := (hE.ok.T t _ ht).2
  simp only [TK.fits] at hu
  have hg : (eqGuard .eql t xo yo (.slice ad xs.length cap) (.slice none 0 0)).run E.P w = .ok () w := by
    unfold eqGuard; split <;> simp
  have hrun : (execOp a.eval ⟨some d, .binOp .eql t xo yo yt, ty, pos, af, gd⟩).run E.P w = .ok (.value (.bool ad.isNone)) w := by
    simp only [execOp, e1, e2, Sem.run_bind, hg, Result.andThen_ok]
    simp [binOp, eq_nilSlice hu]
  rw [hrun]
  show wpListIn _ _ _ _ _ _ _ _
  refine hk ad.isNone (fun hn => ?_) ι _ w ⟨Z, K, Y, hZE, Rel.put r (Grew.refl w) hd (RA_lit_mk trivial)⟩
  rcases hc with hc | ⟨b, off, rfl, _⟩
  · exact hc
  · simp at hn

/-- A slot that holds a nil slice: a row of the frame's own, as yet empty. -/
theorem LE_nilSlot (d key : Nat) (e : TypeId) (sz : Nat) (hs : s d = .d (.lit (.slice none 0 0))) (hkey : h key = none) : LE E ⟨J, s, h⟩ ⟨J, sset s d (.row key), hset h key (some (.row e sz []))⟩ := fun ι a w ⟨Z, K, Y, hZ, r⟩ => by
  obtain ⟨m1, kc⟩ := r.mem.add (Grew.refl w) hkey (e := .row e sz []) (v := .slice none 0 0) (fun b hb => by simp [blk] at hb) ⟨[], .inl ⟨none, rfl, rfl, rfl⟩, by simp [RDs], by simp, by simp⟩
  refine ⟨_, Z, K, Y, hZ, m1, r.size, fun j => ?_, r.ds⟩
  by_cases hj : j = d
  · subst hj
    have h0 := r.slot j
    rw [show (⟨J, s, h⟩ : St).s j = _ from hs] at h0
    obtain ⟨e0, _⟩ := RA_lit.1 h0
    rw [e0]
    show RA _ (sset s j (.row key) j) _
    rw [sset_same]
    exact key_row
  · show RA _ (sset s d (.row key) j) _
    rw [sset_ne s _ hj]
    exact RA_keeps kc _ _ (r.slot j)

/-- 'make([]T, n)', the elements of one cell. -/
theorem OW_make' (hE : E.Good) (key : Nat) {o : Oper} {t : TypeId} {no co : Operand} (ho : ops[i]? = some o) (hop : o.op = .makeSlice t no co) (hw : awant ops o s = some true) (hkey : h key = none) {e : TypeId} {z1 z2 : Nat} {z3 : List Value} (ht : E.T t = some ⟨.slice e, z1, z2, z3⟩)
    {k : TK} {bts : Nat} {z : Value} (hte : E.T e = some ⟨k, 1, bts, [z]⟩) (hz : okLitB z = true) {n : Nat} (hn : ev s no = .d (.lit (.int .i64 n))) (hc : ev s co = .d (.lit (.int .i64 n))) (hb : n * bts ≤ 140737488355328) (hl : n ≤ 140737488355328)
    {s' : Slots} (hs : putS E.N s o.dst (.row key) = some s') (hk' : OW E ops (i + 1) Q ⟨J, s', hset h key (some (.row e 1 (List.replicate n [.lit z])))⟩) : OW E ops i Q ⟨J, s, h⟩ := by
  refine OW_lays (st := ⟨J, s, h⟩) hE ho hw (by rw [hop]; intro c hc; cases hc) key hkey (.row e 1 (List.replicate n [.lit z])) (.row key) (fun Z K Y ι a w r => ?_) hs hk'
  obtain ⟨dst, op, ty, pos, af, gd⟩ := o
  simp only at hop
  subst hop
  have h1 := RA_ev (C := cx Z h ι w) (s := s) (a := a) no fun t _ => r.slot t
  rw [hn] at h1
  have h2 := RA_ev (C := cx Z h ι w) (s := s) (a := a) co fun t _ => r.slot t
  rw [hc] at h2
  have e1 := (RA_lit.1 h1).1
  have e2 := (RA_lit.1 h2).1
  have hu := (hE.ok.T t _ ht).2
  simp only [TK.fits] at hu
  obtain ⟨⟨ie, hie, hsz, hby, zz, hzz, hzc, hzl⟩, _⟩ := hE.ok.T e _ hte
  simp only at hsz hby hzc hzl
  have hr := run_make (P := E.P) w t e ie zz hu hie hzz .i64 .i64 n n (by omega) (Int.le_refl _) (by rw [hby]; have : ((bts * n : Nat) : Int) ≤ 281474976710656 := by rw [Nat.mul_comm]; omega
                                                                                                     rwa [Int.natCast_mul] at this) (by omega)
  simp only [Int.toNat_natCast, hsz, Nat.mul_one] at hr
  have hzs : zz.cells.size = 1 := by have := congrArg List.length hzc; simpa using this
  have hz0 : zz.cells[0]! = z := by
    have h0 : zz.cells = #[z] := by rw [← Array.toArray_toList (xs := zz.cells), hzc]
    rw [h0]; rfl
  have hcells : (madeCells zz.cells n).toList = List.replicate n z := by
    refine List.ext_getElem (by simp [madeCells]) fun j hj1 hj2 => ?_
    simp [madeCells, hzs, Nat.mod_one]
    simp [madeCells] at hj1
    rw [← getElem!_pos]
    exact hz0
  refine ⟨.slice (some ⟨w.heap.size, 0, none⟩) n n, .slice (some ⟨w.heap.size, 0, none⟩) n n, w.alloc (.cells (madeCells zz.cells n) e), by simp only [execOp, Sem.run_bind, e1, e2, hr]; simp, Grew.alloc w _, ?_, ?_, key_row⟩
  · intro b hb
    simp only [blk] at hb
    split at hb
    · cases hb
    · cases hb; simp
  · have hlen : (List.replicate n [D.lit z]).length = n := by simp
    have hfl : ∀ m : Nat, (List.replicate m [D.lit z]).flatten = List.replicate m (D.lit z) := by
      intro m; induction m with
      | zero => rfl
      | succ m ih => simp [List.replicate_succ, ih]
    have hRD : ∀ m : Nat, RDs w (cx Z h ι w).M (List.replicate m (D.lit z)) (List.replicate m z) := by
      intro m; induction m with
      | zero => simp [RDs]
      | succ m ih => simp only [List.replicate_succ, RDs]; exact ⟨z, _, rfl, by simp only [RD]; exact ⟨trivial, okLit_of_B hz⟩, ih⟩
    refine row_new r.mem (Grew.alloc w _) hkey e 1 _ (List.replicate n z) _ (by rw [hfl]; exact hRD n) ?_ ?_ (by intro x hx; rw [List.eq_of_mem_replicate hx]; rfl) (by rw [hlen]; exact hl)
    · intro b hb
      simp only [blk] at hb
      split at hb
      · cases hb
      · cases hb; simp
    · rw [hlen]
      rcases Nat.eq_zero_or_pos n with h0 | h0
      · exact .inl ⟨some ⟨w.heap.size, 0, none⟩, by rw [h0], h0, by rw [h0]; rfl⟩
      · exact .inr ⟨w.heap.size, n, _, rfl, h0, heap_alloc_new w _, Nat.le_refl _, by simp [maxLen]; omega, by rw [size_madeCells, Nat.mul_one], by rw [hcells, Nat.mul_one, List.take_of_length_le (by simp)]⟩

theorem flat_set {sz : Nat} {l : List (List D)} {j : Nat} {y : List D} (hj : j < l.length) (h : ∀ x ∈ l, x.length = sz) : (l.set j y).flatten = l.flatten.take (j * sz) ++ y ++ l.flatten.drop (j * sz + sz) := by
  rw [List.set_eq_take_append_cons_drop, if_pos hj, List.flatten_append, List.flatten_cons, flat_take l j h, flat_drop l (j + 1) h, List.append_assoc, Nat.add_mul, Nat.one_mul]

/-- 'x[j] = y' at a row of the frame's own: the place and the store behind it. -/
theorem OW_setAt' (hE : E.Good) {key : Nat} {o o2 : Oper} {t t2 : TypeId} {xo io yo : Operand} {d : Nat} (ho : ops[i]? = some o) (hop : o.op = .indexAddr t xo io) (hw : awant ops o s = some true) (hdst : o.dst = some d) (hd : Nat.ble (d + 1) E.N = true)
    (ho2 : ops[i + 1]? = some o2) (hop2 : o2.op = .store t2 (.tmp d) yo) (hw2 : awant ops o2 (sset s d .any) = some true) (hdst2 : o2.dst = none)
    {e : TypeId} {z1 z2 : Nat} {z3 : List Value} (ht : E.T t = some ⟨.slice e, z1, z2, z3⟩) {k : TK} {sz bts : Nat} {z6 : List Value} (hte : E.T e = some ⟨k, sz, bts, z6⟩) (hsz2 : ∀ w, (sizeOf t2).run E.P w = .ok sz w)
    {xs : List (List D)} (hx : ev s xo = .row key) (hkey : h key = some (.row e sz xs)) {ik : IntKind} {j : Nat} (hi : ev s io = .d (.lit (.int ik j))) (hj : j < xs.length) {y : List D} (hc : cellsOk (ev (sset s d .any) yo) = true) (hy : cellsOf (ev (sset s d .any) yo) = y.map .d) (hyl : Nat.beq y.length sz = true)
    (hk : OW E ops (i + 2) Q ⟨J, sset s d .any, hset h key (some (.row e sz (xs.set j y)))⟩) : OW E ops i Q ⟨J, s, h⟩ := fun ι a w r => by
  have hyl := Nat.eq_of_beq_eq_true hyl
  have hdr : ops.drop i = o :: ops.drop (i + 1) := by
    obtain ⟨hlt, rfl⟩ := List.getElem?_eq_some_iff.1 ho
    exact List.drop_eq_getElem_cons hlt
  have hdr2 : ops.drop (i + 1) = o2 :: ops.drop (i + 2) := by
    obtain ⟨hlt, rfl⟩ := List.getElem?_eq_some_iff.1 ho2
    exact List.drop_eq_getElem_cons hlt
  rw [hdr]
  simp only [wpListIn]
  rw [if_pos (awant_ok r hw)]
  refine ⟨fun f _ => hE.wide.fn f, ?_⟩
  rw [Oper.semAt_plain E.F _ _ (by rw [hop]; intro c hc; cases hc)]
  obtain ⟨dst, op, ty, pos, af, gd⟩ := o
  simp only at hop hdst
  subst hop hdst
  obtain ⟨Z, K, Y, hZE, r⟩ := r
  have h1 := RA_ev (C := cx Z h ι w) (s := s) (a := a) xo fun t _ => r.slot t
  rw [hx] at h1
  simp only [RA] at h1
  obtain ⟨hkd, e1⟩ := h1
  have h2 := RA_ev (C := cx Z h ι w) (s := s) (a := a) io fun t _ => r.slot t
  rw [hi] at h2
  have e2 := (RA_lit.1 h2).1
  obtain ⟨vs, f1, f2, f3, f4⟩ := r.mem.ent key _ hkey
  have hvl : vs.length = xs.length * sz := by rw [RDs_length f2]; exact flat_len xs f3
  rcases f1 with ⟨_, _, h0, _⟩ | ⟨g, cap, cur, e0, hc0, hg, hnc, hcm, hcs, htk⟩
  · omega
  have hg' : w.heap[g]? = some (.cells cur e (0, 0)) := hg
  have hb : blk (ι key) = some g := by rw [e0]; simp [blk]; omega
  have hu := (hE.ok.T t _ ht).2
  simp only [TK.fits] at hu
  have hsz := run_size hE.ok.T hte w
  have hrun : (execOp a.eval ⟨some d, .indexAddr t xo io, ty, pos, af, gd⟩).run E.P w = .ok (.value (.pointer (some ⟨g, j * sz, none⟩))) w := by
    have e1' : a.eval xo = .slice (some ⟨g, 0, none⟩) xs.length cap := e1.trans e0
    simp [execOp, Instr.indexAt, e1', e2, asIntOf, run_underlying hu, hj, hsz]
    simp [Addr.add]
    exact fun h => h.symm
  rw [hrun]
  show wpListIn _ _ _ _ _ _ _ _
  have r1 : Rel Z K E.N (J K Y Z) (sset s d .any) h ι (a.put (some d) (.pointer (some ⟨g, j * sz, none⟩))) w := Rel.put r (Grew.refl w) hd (by simp [RA])
  have hput : (a.put (some d) (.pointer (some ⟨g, j * sz, none⟩))).eval (.tmp d) = .pointer (some ⟨g, j * sz, none⟩) := by
    have : d < a.tmps.size := by rw [r.size]; exact Nat.le_of_ble_eq_true hd
    simp [Act.put, Act.eval, Array.getD_eq_getD_getElem?, this]
  rw [hdr2]
  simp only [wpListIn]
  rw [if_pos (awant_ok (st := ⟨J, sset s d .any, h⟩) ⟨Z, K, Y, hZE, r1⟩ hw2)]
  refine ⟨fun f _ => hE.wide.fn f, ?_⟩
  rw [Oper.semAt_plain E.F _ _ (by rw [hop2]; intro c hc; cases hc)]
  obtain ⟨dst2, op2, ty2, pos2, af2, gd2⟩ := o2
  simp only at hop2 hdst2
  subst hop2 hdst2
  revert hput r1
  generalize a.put (some d) (.pointer (some ⟨g, j * sz, none⟩)) = a1
  intro r1 hput
  have hxv := RA_cells r.mem.named hc (RA_ev (C := cx Z h ι w) (s := sset s d .any) (a := a1) yo fun t _ => r1.slot t)
  rw [hy] at hxv
  have hlen := RAs_length hxv
  simp only [List.length_map] at hlen
  have hRD := RAs_map_d.1 hxv
  have hjs : j * sz + sz ≤ xs.length * sz := by rw [← Nat.succ_mul]; exact Nat.mul_le_mul_right _ hj
  have hns : xs.length * sz ≤ cap * sz := Nat.mul_le_mul_right _ hnc
  have hst := run_storeCells_at (P := E.P) g (j * sz) e (a1.eval yo).cells.toList 0 cur w hg' (by omega) (RDs_one hRD)
  have hsize : (a1.eval yo).cells.size = sz := by rw [← hyl]; simpa using hlen
  have hrun2 : (execOp a1.eval ⟨none, .store t2 (.tmp d) yo, ty2, pos2, af2, gd2⟩).run E.P w = .ok .skip (w.setRow g (cur.toList.take (j * sz) ++ (a1.eval yo).cells.toList ++ cur.toList.drop (j * sz + (a1.eval yo).cells.toList.length)).toArray) := by
    simp [execOp, Instr.storeAt, Instr.sureAddr, hput, storeVar, hsz2, hsize]
    simp at hst
    rw [hsize] at hst
    rw [hst]
    rfl
  rw [hrun2]
  show wpListIn _ _ _ _ _ _ _ _
  obtain ⟨cv, hcv⟩ : ∃ cv, cv = (a1.eval yo).cells.toList := ⟨_, rfl⟩
  rw [← hcv] at hlen hRD hst ⊢
  have hcl : cv.length = sz := by omega
  obtain ⟨cur', hcur'⟩ : ∃ cur', cur' = (cur.toList.take (j * sz) ++ cv ++ cur.toList.drop (j * sz + cv.length)).toArray := ⟨_, rfl⟩
  rw [← hcur']
  have hnew : (w.setRow g cur').heap[g]? = some (.cells cur' e (0, 0)) := setRow_heap w g cur _ e _ hg'
  have hdom : ∀ k', dom h k' ↔ dom (hset h key (some (.row e sz (xs.set j y)))) k' := by
    intro k'
    by_cases hjk : k' = key
    · subst hjk; simp [dom, hset_same]; rw [hkey]; rfl
    · simp only [dom, hset_ne h _ hjk]
  have kc : KeepsC (cx Z h ι w) (cx Z (hset h key (some (.row e sz (xs.set j y)))) ι (w.setRow g cur')) := by
    refine ⟨⟨fun b o u hm hcc => ?_, fun b hm hi => hi.at (setRow_other w g b _ fun e => hm (e ▸ .inr ⟨key, hkd, hb⟩)), fun b _ hm hm' => ?_⟩, fun k' hk' => ⟨(hdom k').1 hk', rfl⟩⟩
    · have hne : b ≠ g := by intro e; subst e; exact hm (.inr ⟨key, hkd, hb⟩)
      show World.cell? _ _ = _
      rw [World.cell?_of_block (w := w) (a := ⟨b, o, none⟩) (setRow_other w g b _ hne)]; exact hcc
    · rcases hm' with hz | ⟨k', hk', hkb⟩
      · exact hm (.inl hz)
      · exact hm (.inr ⟨k', (hdom k').2 hk', hkb⟩)
  have hcs' : cur'.size = cap * sz := by rw [hcur']; simp; omega
  have hent : EntOk (cx Z (hset h key (some (.row e sz (xs.set j y)))) ι (w.setRow g cur')) (.row e sz (xs.set j y)) (ι key) := by
    refine ⟨vs.take (j * sz) ++ cv ++ vs.drop (j * sz + sz), .inr ⟨g, cap, cur', by rw [e0]; simp, hc0, hnew, by simpa using hnc, hcm, hcs', ?_⟩, ?_, ?_, by simpa using f4⟩
    · have hl1 : (cur.toList.take (j * sz)).length = j * sz := by simp; omega
      rw [hcur', hcl, List.length_set]
      simp only []
      rw [← htk]
      apply List.ext_getElem?
      intro q
      simp only [List.getElem?_take, List.getElem?_append, List.getElem?_drop, List.length_append, List.length_take, List.length_drop, hcl, hl1]
      have hcz : cur.toList.length = cap * sz := by simpa using hcs
      rw [hcz]
      repeat' split
      all_goals first | rfl | omega | (exfalso; omega) | skip
      all_goals first | (congr 1; omega) | (simp; omega) | skip
      all_goals first | (rw [List.getElem?_eq_none (by simp; omega)]) | skip
    · rw [flat_set hj f3]
      exact RDs_keeps kc.d _ _ (RDs_append (RDs_append (RDs_take _ f2) hRD) (RDs_drop _ f2))
    · intro z hz
      rcases List.mem_or_eq_of_mem_set hz with hz | rfl
      · exact f3 z hz
      · exact hyl
  obtain ⟨m', _⟩ := r1.mem.turn hkd hb (setRow_step w g _) (by simp) hent
  exact hk ι _ _ ⟨Z, K, Y, hZE, Rel.put_none ⟨m', r1.size, fun i => RA_keeps kc _ _ (r1.slot i), r1.ds.turn ⟨cur, e, _, hg'⟩ (setRow_step w g _)⟩ (Grew.refl _) _⟩

def bytesD (bs : List UInt8) : List (List D) := bs.map fun b => [.lit (.int .u8 b.toNat)]
theorem bytesD_flat : ∀ bs : List UInt8, (bytesD bs).flatten = bs.map fun b => D.lit (.int .u8 b.toNat)
  | [] => rfl
  | b :: bs => by
    have := bytesD_flat bs
    simp only [bytesD, List.map_cons, List.flatten_cons] at this ⊢
    rw [this]; rfl
theorem RDs_bytes {w : World} {M : Nat → Prop} : ∀ {bs : List UInt8} {vs : List Value}, RDs w M (bs.map fun b => D.lit (.int .u8 b.toNat)) vs → vs = bs.map fun b => Value.int .u8 b.toNat
  | [], vs, h => by simpa only [List.map_nil, RDs] using h
  | b :: bs, vs, h => by
    simp only [List.map_cons, RDs, RD] at h
    obtain ⟨v, t, rfl, ⟨rfl, _⟩, h2⟩ := h
    rw [RDs_bytes h2]; rfl
/-- 'string(x)' of bytes of the frame's own. -/
theorem OW_bytesString' (hE : E.Good) {key : Nat} {o : Oper} {t dt e : TypeId} {xo : Operand} (ho : ops[i]? = some o) (hop : o.op = .convert t dt xo) (hw : awant ops o s = some true) {z1 z2 : Nat} {z3 : List Value} (ht : E.T t = some ⟨.slice e, z1, z2, z3⟩) {y1 y2 : Nat} {y3 : List Value} (hte : E.T e = some ⟨.int .u8, y1, y2, y3⟩)
    {x1 x2 : Nat} {x3 : List Value} (htd : E.T dt = some ⟨.str, x1, x2, x3⟩) {bs : List UInt8} (hx : ev s xo = .row key) {xs : List (List D)} (hkey : h key = some (.row e 1 xs)) (hbs : xs = bytesD bs)
    {s' : Slots} (hs : putS E.N s o.dst (.d (.lit (.string ⟨bs.toArray⟩))) = some s') (hk' : OW E ops (i + 1) Q ⟨J, s', h⟩) : OW E ops i Q ⟨J, s, h⟩ := by
  subst hbs
  refine OW_gives (st := ⟨J, s, h⟩) ho hE.ok hw (by rw [hop]; intro c hc; cases hc) (R := .d (.lit (.string ⟨bs.toArray⟩))) (fun Z K Y ι a w r => ?_) hs hk'
  obtain ⟨dst, op, ty, pos, af, gd⟩ := o
  simp only at hop
  subst hop
  have h1 := RA_ev (C := cx Z h ι w) (s := s) (a := a) xo fun t _ => r.slot t
  rw [hx] at h1
  simp only [RA] at h1
  obtain ⟨hkd, e1⟩ := h1
  obtain ⟨vs, f1, f2, f3, f4⟩ := r.mem.ent key _ hkey
  rw [bytesD_flat] at f2
  have hvs := RDs_bytes f2
  have hu := (hE.ok.T t _ ht).2
  have hu2 := (hE.ok.T e _ hte).2
  have hu3 := (hE.ok.T dt _ htd).2
  simp only [TK.fits] at hu hu2 hu3
  have hlen : (bytesD bs).length = bs.length := by simp [bytesD]
  have hok : okLit (.string ⟨bs.toArray⟩) := by
    show bs.toArray.size ≤ _
    rw [hlen] at f4
    simpa using f4
  refine ⟨.string ⟨bs.toArray⟩, w, ?_, Grew.refl w, RA_lit_mk hok⟩
  rcases f1 with ⟨ad, e0, h0, _⟩ | ⟨g, cap, cur, e0, hc0, hg, hnc, hcm, hcs, htk⟩
  · rw [hlen] at h0
    have hb0 : bs = [] := List.eq_nil_of_length_eq_zero h0
    subst hb0
    have e1' : a.eval xo = .slice ad 0 0 := e1.trans e0
    simp only [execOp, Sem.run_bind, e1', run_convert_bytes_string w t dt e ad 0 0 hu hu2 hu3]
    cases ad <;> simp [Conv.bytesToString, loadCells, loadCellsFrom] <;> rfl
  · have e1' : a.eval xo = .slice (some ⟨g, 0, none⟩) bs.length cap := by rw [e1, e0, hlen]
    have hg' : w.heap[g]? = some (.cells cur e (0, 0)) := hg
    have hr := run_convert_bytes_arg (P := E.P) w t e hu hu2 g 0 bs.length cap (bs.map fun b => (b.toNat : Int)) (by simp) (fun q hq => by
      rw [Nat.zero_add, cell_of_row w g q cur e (0, 0) hg']
      have hq2 : vs[q]? = some (.int .u8 (bs[q]'hq).toNat) := by rw [hvs]; simp [hq]
      rw [← htk, List.getElem?_take] at hq2
      split at hq2
      · rw [← Array.getElem?_toList, hq2]; simp [List.getD, hq]
      · cases hq2) dt hu3
    simp only [execOp, Sem.run_bind, e1', hr]
    simp [strOfNums]
    congr 2
    apply List.ext_getElem (by simp)
    intro q h1 h2
    simp

/-- 'x >> 1' of an unsigned number. -/
theorem loc_shr1 (hE : E.Good) {o : Oper} {t yt : TypeId} {xo yo : Operand} (hop : o.op = .binOp .shr t xo yo yt) {n : Nat} (hx : ev s xo = .d (.lit (.int .u64 n))) (hy : ev s yo = .d (.lit (.int .u64 1))) : Loc E ops J h o s (.d (.lit (.int .u64 ((n / 2 : Nat) : Int)))) := by
  refine ⟨(by rw [hop]; intro c hc; cases hc), fun Z K Y ι a w m hl => ?_⟩
  obtain ⟨dst, op, ty, pos, af, gd⟩ := o
  simp only at hop
  subst hop
  have h1 := hl xo (by simp [Op.operands])
  have h2 := hl yo (by simp [Op.operands])
  rw [hx] at h1
  rw [hy] at h2
  obtain ⟨e1, o1⟩ := RA_lit.1 h1
  obtain ⟨e2, _⟩ := RA_lit.1 h2
  have hg : (eqGuard .shr t xo yo (.int .u64 n) (.int .u64 1)).run E.P w = .ok () w := by
    unfold eqGuard; split <;> simp
  have hd : ((n : Int).fdiv 2) = ((n / 2 : Nat) : Int) := by
    rw [Int.fdiv_eq_ediv_of_nonneg _ (by omega)]; omega
  refine ⟨.int .u64 ((n / 2 : Nat) : Int), w, ?_, Grew.refl w, RA_lit_mk ?_⟩
  · simp only [execOp, e1, e2, Sem.run_bind, hg, Result.andThen_ok]
    have hb : min 1 IntKind.u64.bits = 1 := rfl
    simp [binOp, Op.shift, hb]
    simpa using hd
  · simp only [okLit] at o1 ⊢
    have : IntKind.u64.min = 0 := rfl
    constructor <;> omega

/-- 'a % b', b not nought. -/
theorem loc_rem (hE : E.Good) {o : Oper} {t yt : TypeId} {xo yo : Operand} (hop : o.op = .binOp .rem t xo yo yt) {k : IntKind} {a b : Int} (hx : ev s xo = .d (.lit (.int k a))) (hy : ev s yo = .d (.lit (.int k b))) (hb : b ≠ 0) : Loc E ops J h o s (.d (.lit (.int k (a.tmod b)))) := by
  refine ⟨(by rw [hop]; intro c hc; cases hc), fun Z K Y ι ac w m hl => ?_⟩
  obtain ⟨dst, op, ty, pos, af, gd⟩ := o
  simp only at hop
  subst hop
  have h1 := hl xo (by simp [Op.operands])
  have h2 := hl yo (by simp [Op.operands])
  rw [hx] at h1
  rw [hy] at h2
  obtain ⟨e1, o1⟩ := RA_lit.1 h1
  obtain ⟨e2, o2⟩ := RA_lit.1 h2
  have hg : (eqGuard .rem t xo yo (.int k a) (.int k b)).run E.P w = .ok () w := by
    unfold eqGuard; split <;> simp
  refine ⟨.int k (a.tmod b), w, ?_, Grew.refl w, RA_lit_mk ?_⟩
  · simp only [execOp, e1, e2, Sem.run_bind, hg, Result.andThen_ok]
    simp [binOp, Op.intDiv, hb]
  · simp only [okLit] at o1 ⊢
    exact tmod_ok k a b o1.1 o1.2
end
end Go.AL
