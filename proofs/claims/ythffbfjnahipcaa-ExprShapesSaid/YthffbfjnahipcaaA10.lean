/- AL, part 10: structs and slices that are written out; rows of the frame's own: appended to, handed on as data. -/
import Derived.Test.YthffbfjnahipcaaA9
import Derived.Great.BuildSlice
namespace Go.AL
set_option linter.unusedVariables false
set_option linter.unusedSimpArgs false

/-! ### Structs written out -/
theorem foldl_set_list (l : List Value) : ∀ (off k : Nat) (c : Array Value), off + k + l.length ≤ c.size →
    ((l.zipIdx k).foldl (fun cs (x : Value × Nat) => cs.setIfInBounds (off + x.2) x.1) c).toList = c.toList.take (off + k) ++ l ++ c.toList.drop (off + k + l.length) := by
  induction l with
  | nil => intro off k c h; simp
  | cons v l ih =>
    intro off k c h
    simp only [List.length_cons] at h
    simp only [List.zipIdx_cons, List.foldl_cons]
    rw [ih off (k + 1) _ (by simp; omega)]
    have hlt : off + k < c.toList.length := by simp; omega
    simp only [Array.toList_setIfInBounds, List.length_cons]
    rw [show off + (k + 1) = off + k + 1 by omega, show off + k + 1 + l.length = off + k + (l.length + 1) by omega]
    rw [List.take_succ_eq_append_getElem (by simpa using hlt), List.drop_set_of_lt (by omega)]
    simp [List.take_set_of_le]
theorem fill_one (place : Nat → Option (Nat × Nat)) (cells : Array Value) (i : Nat) (v : Value) (rest : List (Nat × Value)) {off size : Nat} (hp : place i = some (off, size)) (hs : v.cells.size = size) (hf : off + size ≤ cells.size) :
    Instr.fill place cells ((i, v) :: rest) = Instr.fill place (cells.toList.take off ++ v.cells.toList ++ cells.toList.drop (off + size)).toArray rest := by
  simp only [Instr.fill, hp]
  rw [if_neg (by simp; omega)]
  congr 1
  have := foldl_set_list v.cells.toList off 0 cells (by simp; omega)
  rw [← Array.toArray_toList (xs := Array.foldl _ _ _)]
  congr 1
  rw [← Array.foldl_toList]
  simp only [Array.toList_zipIdx]
  simpa [hs] using this

/-- Parts laid into cells: places told by (offset, size). -/
def afill (places : List (Nat × Nat)) : List AV → List (Nat × AV) → Option (List AV)
  | cells, [] => some cells
  | cells, (i, x) :: rest => match places[i]? with
    | some (off, size) => bif cellsOk x && Nat.beq (cellsOf x).length size && Nat.ble (off + size) cells.length then afill places (overwrite cells off (cellsOf x)) rest else none
    | none => none
theorem afill_ok {C : Cx} (hn : Named C) {places : List (Nat × Nat)} {place : Nat → Option (Nat × Nat)} (hp : ∀ i, place i = places[i]?) : ∀ (parts : List (Nat × AV)) (vparts : List (Nat × Value)) (cs : List AV) (cells : Array Value) (R : List AV),
    vparts.map (·.1) = parts.map (·.1) → RAs C (parts.map (·.2)) (vparts.map (·.2)) → RAs C cs cells.toList → afill places cs parts = some R → ∃ r, Instr.fill place cells vparts = some r ∧ RAs C R r.toList
  | [], [], cs, cells, R, _, _, hc, hr => by
    simp only [afill, Option.some.injEq] at hr
    subst hr
    exact ⟨cells, rfl, hc⟩
  | [], _ :: _, cs, cells, R, h1, _, _, _ => by simp at h1
  | _ :: _, [], cs, cells, R, h1, _, _, _ => by simp at h1
  | (i, x) :: parts, (j, v) :: vparts, cs, cells, R, h1, h2, hc, hr => by
    simp only [List.map_cons, List.cons.injEq] at h1
    obtain ⟨rfl, h1⟩ := h1
    simp only [List.map_cons, RAs] at h2
    obtain ⟨v', t, e, hx, h2⟩ := h2
    simp only [List.cons.injEq] at e
    obtain ⟨rfl, rfl⟩ := e
    simp only [afill] at hr
    split at hr
    · rename_i off size hpl
      cases hb : cellsOk x && Nat.beq (cellsOf x).length size && Nat.ble (off + size) cs.length with
      | false => rw [hb] at hr; cases hr
      | true =>
        rw [hb] at hr
        simp only [cond_true] at hr
        simp only [Bool.and_eq_true] at hb
        obtain ⟨⟨b1, b2⟩, b3⟩ := hb
        have hcx := RA_cells hn b1 hx
        have hl1 := RAs_length hcx
        have hl2 := RAs_length hc
        have e2 := Nat.eq_of_beq_eq_true b2
        have e3 := Nat.le_of_ble_eq_true b3
        rw [fill_one place cells j v vparts (by rw [hp]; exact hpl) (by simp at hl1; omega) (by simp at hl2; omega)]
        refine afill_ok hn hp parts vparts _ _ R h1 h2 ?_ hr
        unfold overwrite
        rw [e2]
        simpa using RAs_append (RAs_append (RAs_take off hc) hcx) (RAs_drop (off + size) hc)
    · cases hr

def placesOf (T : Nat → Option TI) : List (TypeId × Nat) → Option (List (Nat × Nat))
  | [] => some []
  | (t, off) :: r => match T t, placesOf T r with
    | some ti, some ps => some ((off, ti.size) :: ps)
    | _, _ => none
def stepBuild (T : Nat → Option TI) (s : Slots) (t : TypeId) (parts : List (Nat × Operand)) : Option AV :=
  match T t with
  | some ⟨.struct fs, _, _, z⟩ => match placesOf T fs, litCells z with
    | some ps, some cs => (afill ps cs (parts.map fun p => (p.1, ev s p.2))).map .agg
    | _, _ => none
  | _ => none

theorem places_run {P : Program} {T : Nat → Option TI} (hT : TOk P T) {w : World} : ∀ (l : List Field) (ps : List (Nat × Nat)), placesOf T (l.map fun f => (f.type, f.offset)) = some ps →
    (l.mapM fun f => (do pure (f.offset, ← sizeOf f.type) : Sem (Nat × Nat))).run P w = .ok ps w
  | [], ps, h => by simp [placesOf] at h; subst h; simp
  | f :: l, ps, h => by
    simp only [List.map_cons, placesOf] at h
    split at h
    · rename_i ti ps' h1 h2
      cases h
      have := places_run hT (w := w) l ps' h2
      simp only [List.mapM_cons, Sem.run_bind, run_size hT h1 w, Result.andThen_ok, Sem.run_pure]
      rw [this]
      simp
    · cases h

section
variable {E : Env} {ops : List Oper} {Q : Exit → St → Prop} {st : St} {i : Nat}
theorem OW_build (hE : E.Good) {o : Oper} {t : TypeId} {parts : Array (Nat × Operand)} (ho : ops[i]? = some o) (hop : o.op = .build t parts) (hw : awant ops o st.s = some true) {R : AV} (hR : stepBuild E.T st.s t parts.toList = some R)
    {s' : Slots} (hs : putS E.N st.s o.dst R = some s') (h : OW E ops (i + 1) Q { st with s := s' }) : OW E ops i Q st := by
  refine OW_gives ho hE.ok hw (by rw [hop]; intro c hc; cases hc) (fun Z K Y ι a w r => ?_) hs h
  obtain ⟨dst, op, ty, pos, af, gd⟩ := o
  simp only at hop
  subst hop
  unfold stepBuild at hR
  split at hR
  · rename_i fs sz bt z ht
    split at hR
    · rename_i ps cs hps hcs
      simp only [Option.map_eq_some_iff] at hR
      obtain ⟨R', hR', rfl⟩ := hR
      obtain ⟨fields, hu, hf⟩ := (hE.ok.T t _ ht).2
      obtain ⟨zv, hz1, hz2⟩ := run_zero hE.ok.T ht w
      rw [← hf] at hps
      have hpr := places_run hE.ok.T (w := w) fields.toList ps hps
      have hpr' : (fields.mapM fun f => (do pure (f.offset, ← sizeOf f.type) : Sem (Nat × Nat))).run E.P w = .ok ps.toArray w := by
        rw [Array.mapM_eq_mapM_toList, map_eq_pure_bind, Sem.run_bind, hpr]
        simp
      obtain ⟨r', hr1, hr2⟩ := afill_ok (C := cx Z st.h ι w) r.mem.named (places := ps) (place := (ps.toArray[·]?)) (fun i => by simp) (parts.toList.map fun p => (p.1, ev st.s p.2)) (parts.toList.map fun p => (p.1, a.eval p.2)) cs zv.cells R' (by simp) (by
        have := RAs_evs (C := cx Z st.h ι w) (s := st.s) (a := a) (l := parts.toList.map (·.2)) fun x _ => RA_ev x fun t _ => r.slot t
        simpa [List.map_map, Function.comp_def] using this) (by rw [hz2]; exact litCells_ok hcs) hR'
      refine ⟨.agg r', w, ?_, Grew.refl w, by simp only [RA]; exact ⟨_, rfl, hr2⟩⟩
      have hb : (Instr.build t (parts.map fun p => (p.1, a.eval p.2))).run E.P w = .ok (.agg r') w := by
        unfold Instr.build
        simp only [Sem.run_bind, hz1, Result.andThen_ok, run_underlying hu, hpr', Array.toList_map, hr1, Sem.run_pure]
      simp only [execOp, Sem.run_bind]
      rw [hb]
      simp
    · cases hR
  · cases hR
end

/-! ### Slices written out -/
def partsD (s : Slots) (sz : Nat) : Nat → List (Nat × Operand) → Option (List (List D))
  | _, [] => some []
  | i, (j, x) :: r => bif Nat.beq j i && cellsOk (ev s x) && Nat.beq (cellsOf (ev s x)).length sz then
      match allD (cellsOf (ev s x)), partsD s sz (i + 1) r with
      | some ds, some xs => some (ds :: xs)
      | _, _ => none
    else none
theorem partsD_ok {C : Cx} (hn : Named C) {s : Slots} {a : Act} (hs : ∀ x, RA C (ev s x) (a.eval x)) {sz : Nat} : ∀ (parts : List (Nat × Operand)) (i : Nat) (xs : List (List D)), partsD s sz i parts = some xs →
    (parts.map fun p => (p.1, a.eval p.2)) = (((parts.map fun p => a.eval p.2).zipIdx i).map fun x => (x.2, x.1)) ∧ (∀ v ∈ parts.map (fun p => a.eval p.2), v.cells.size = sz) ∧
    RDs C.w C.M xs.flatten ((parts.map fun p => a.eval p.2).flatMap fun v => v.cells.toList) ∧ (∀ x ∈ xs, x.length = sz) ∧ xs.length = parts.length
  | [], i, xs, h => by simp [partsD] at h; subst h; simp [RDs]
  | (j, x) :: parts, i, xs, h => by
    simp only [partsD] at h
    cases hb : Nat.beq j i && cellsOk (ev s x) && Nat.beq (cellsOf (ev s x)).length sz with
    | false => rw [hb] at h; cases h
    | true =>
      rw [hb] at h
      simp only [cond_true] at h
      simp only [Bool.and_eq_true] at hb
      obtain ⟨⟨b1, b2⟩, b3⟩ := hb
      have e1 := Nat.eq_of_beq_eq_true b1
      have e3 := Nat.eq_of_beq_eq_true b3
      split at h
      · rename_i ds xs' hds hxs
        cases h
        obtain ⟨h1, h2, h3, h4, h5⟩ := partsD_ok hn hs parts (i + 1) xs' hxs
        have hcx := RA_cells hn b2 (hs x)
        have hl := RAs_length hcx
        rw [allD_eq hds] at hcx
        have e4 : ds.length = sz := by rw [allD_eq hds] at e3; simpa using e3
        refine ⟨by simp [h1, e1], ?_, ?_, ?_, by simp [h5]⟩
        · intro v hv
          simp only [List.map_cons, List.mem_cons] at hv
          rcases hv with rfl | hv
          · simp at hl; omega
          · exact h2 v hv
        · simp only [List.flatten_cons, List.map_cons, List.flatMap_cons]
          exact RDs_append (RAs_map_d.1 hcx) h3
        · intro y hy
          rcases List.mem_cons.1 hy with rfl | hy
          · exact e4
          · exact h4 y hy
      · cases h

theorem RCs_of_flat {w : World} {M : Nat → Prop} {b sz : Nat} : ∀ {xs : List (List D)} {off : Nat}, (∀ x ∈ xs, x.length = sz) → RC w M b xs.flatten off → RCs w M b sz xs off
  | [], off, _, _ => by simp [RCs]
  | x :: xs, off, hl, h => by
    simp only [List.flatten_cons] at h
    have hx := hl x (by simp)
    simp only [RCs]
    refine ⟨hx, ?_, ?_⟩
    · obtain ⟨vs, h1, h2⟩ := RC_list h
      have : RDs w M x (vs.take x.length) := by
        have := RAs_take (C := ⟨w, M, fun _ => False, noι⟩) x.length (RAs_map_d.2 (show RDs w _ (x ++ xs.flatten) vs from RDs_keeps ⟨fun _ _ _ _ h => h, fun _ _ h => h, fun b _ hm h' => by rcases h' with h' | ⟨_, h', _⟩; exact hm h'; exact h'⟩ _ _ h1))
        rw [← List.map_take, List.take_left', RAs_map_d] at this
        · exact RDs_keeps ⟨fun _ _ _ _ h => h, fun _ _ h => h, fun b _ hm h' => hm (.inl h')⟩ _ _ this
        · rfl
      refine RC_of_list this fun j v hj => h2 j v ?_
      rw [List.getElem?_take] at hj
      split at hj
      · exact hj
      · cases hj
    · have := RC_drop sz h
      rw [List.drop_left' hx] at this
      exact RCs_of_flat (fun y hy => hl y (by simp [hy])) this

section
variable {E : Env} {ops : List Oper} {Q : Exit → St → Prop} {st : St} {i : Nat}

theorem build_slice_run (hE : E.Good) {t e : TypeId} {z1 z2 : Nat} {z3 : List Value} (ht : E.T t = some ⟨.slice e, z1, z2, z3⟩) {ti : TI} (hte : E.T e = some ti) (hpos : Nat.ble 1 ti.size = true) {len : Nat} {parts : Array (Nat × Operand)} (hlen : parts.size = len) (hsmall : Nat.ble (len * ti.size) 16777216 = true)
    {xs : List (List D)} (hx : partsD st.s ti.size 0 parts.toList = some xs) {Z K Y : Nat → Prop} {ι : Nat → Value} {a : Act} {w : World} (r : Rel Z K E.N (st.J K Y Z) st.s st.h ι a w) :
    ∃ cells : Array Value, (Instr.buildSlice t len (parts.map fun p => (p.1, a.eval p.2))).run E.P w = .ok (.slice (some ⟨w.heap.size, 0, none⟩) len len) (w.alloc (.cells cells e)) ∧ cells.size = len * ti.size ∧
      RDs w (cx Z st.h ι w).M xs.flatten cells.toList ∧ (∀ x ∈ xs, x.length = ti.size) ∧ xs.length = len := by
  have hu := (hE.ok.T t _ ht).2
  simp only [TK.fits] at hu
  obtain ⟨⟨ie, hie, hsz, hby, z, hz, hzc⟩, _⟩ := hE.ok.T e _ hte
  obtain ⟨h1, h2, h3, h4, h5⟩ := partsD_ok (C := cx Z st.h ι w) r.mem.named (s := st.s) (a := a) (fun x => RA_ev x fun t _ => r.slot t) parts.toList 0 xs hx
  have hpos' : 1 ≤ ti.size := Nat.le_of_ble_eq_true hpos
  have hsm' := Nat.le_of_ble_eq_true hsmall
  have hxl : xs.length = len := by rw [h5]; simpa using hlen
  have hcs : ((parts.toList.map fun p => a.eval p.2).flatMap fun v => v.cells.toList).length = len * ti.size := by
    rw [RDs_length h3]
    have : ∀ (ys : List (List D)), (∀ y ∈ ys, y.length = ti.size) → ys.flatten.length = ys.length * ti.size := by
      intro ys
      induction ys with
      | nil => simp
      | cons y ys ih => intro hy; simp [ih (fun q hq => hy q (by simp [hq])), hy y (by simp), Nat.add_mul]; omega
    rw [this xs h4, hxl]
  refine ⟨((parts.toList.map fun p => a.eval p.2).flatMap fun v => v.cells.toList).toArray, ?_, by simpa using hcs, by simpa using h3, h4, hxl⟩
  rcases Nat.eq_zero_or_pos len with h0 | h0
  · subst h0
    have hp : parts = #[] := by simpa using hlen
    subst hp
    simp [Instr.buildSlice, run_underlying hu, sizeOf, typeInfo, hie, Instr.fill, newRow]
    congr 1
    congr 1
    apply Array.ext'
    simp
  · refine run_buildSlice (P := E.P) w t e len _ _ ie z hu hie hz (by rw [hsz]; omega) (by rw [hsz]; intro h; rcases Nat.mul_eq_zero.1 h with h | h <;> omega) ?_
    rw [hsz]
    have hfw := Great.fill_whole (s := ti.size) hpos' (parts.toList.map fun p => a.eval p.2) ((Array.range (len * ti.size)).map (z.cells[· % z.cells.size]!)) h2 (by simp [hlen])
    rw [← h1] at hfw
    simpa using hfw

/-- '[]T{..}', which nobody will write. -/
theorem OW_lits (hE : E.Good) {o : Oper} {t e : TypeId} {len : Nat} {parts : Array (Nat × Operand)} (ho : ops[i]? = some o) (hop : o.op = .buildSlice t len parts) (hw : awant ops o st.s = some true) {z1 z2 : Nat} {z3 : List Value} (ht : E.T t = some ⟨.slice e, z1, z2, z3⟩)
    {k : TK} {sz bts : Nat} {z6 : List Value} (hte : E.T e = some ⟨k, sz, bts, z6⟩) (hpos : Nat.ble 1 sz = true) (hlen : parts.size = len) (hsmall : Nat.ble (len * sz) 16777216 = true) (hbts : Nat.ble (len * bts) 16777216 = true) (hl2 : Nat.ble len 16777216 = true) {xs : List (List D)} (hx : partsD st.s sz 0 parts.toList = some xs)
    {s' : Slots} (hs : putS E.N st.s o.dst (.d (.sl sz bts xs)) = some s') (h : OW E ops (i + 1) Q { st with s := s' }) : OW E ops i Q st := by
  refine OW_gives ho hE.ok hw (by rw [hop]; intro c hc; cases hc) (R := .d (.sl sz bts xs)) (fun Z K Y ι a w r => ?_) hs h
  obtain ⟨dst, op, ty, pos, af, gd⟩ := o
  simp only at hop
  subst hop
  obtain ⟨cells, h1, h2, h3, h4, h5⟩ := build_slice_run hE ht (ti := ⟨k, sz, bts, z6⟩) hte hpos hlen hsmall hx r
  have hb := Nat.le_of_ble_eq_true hbts
  have hl := Nat.le_of_ble_eq_true hl2
  refine ⟨.slice (some ⟨w.heap.size, 0, none⟩) len len, w.alloc (.cells cells e), by simp only [execOp, Sem.run_bind]; rw [h1]; simp, Grew.alloc w _, ?_⟩
  simp only [RA, RD]
  have hn := RC_new r.mem e h3
  simp only [Array.toArray_toList] at hn
  refine ⟨_, len, by rw [h5], by omega, by rw [h5]; omega, by rw [h5]; omega, .inr ⟨w.heap.size, 0, rfl, hn.1, ⟨_, _, _, heap_alloc_new w _⟩, RCs_of_flat h4 hn.2⟩⟩

theorem row_new {Z K : Nat → Prop} {J : World → Prop} {h : Heap} {ι : Nat → Value} {w w' : World} (m : Mem Z K J h ι w) (hg : Grew w w') {k : Nat} (hk : h k = none) (e : TypeId) (sz : Nat) (xs : List (List D)) (vs : List Value) (v : Value) (hv : RDs w (cx Z h ι w).M xs.flatten vs)
    (hb : ∀ b, blk v = some b → w.heap.size ≤ b) (hr : RowOk w' v e sz xs.length vs) (hl : ∀ x ∈ xs, x.length = sz) (hn : xs.length ≤ 140737488355328) :
    EntOk (cx Z (hset h k (some (.row e sz xs))) (fun j => bif Nat.beq j k then v else ι j) w') (.row e sz xs) v := by
  refine ⟨vs, hr, RDs_keeps ⟨fun b o u _ hc => cell_grew hg hc, fun b _ hi => hi.grew hg, fun b hlt hm hm' => ?_⟩ _ _ hv, hl, hn⟩
  rcases hm' with hz | ⟨j, hj, hjb⟩
  · exact hm (.inl hz)
  · by_cases hjk : j = k
    · subst hjk
      simp at hjb
      have := hb b hjb
      have hlt' : b < w.heap.size := hlt.lt
      omega
    · have hbq : Nat.beq j k = false := Bool.eq_false_iff.2 fun h' => hjk (Nat.eq_of_beq_eq_true h')
      simp only [dom, hset_ne h _ hjk] at hj
      simp only [hbq, cond_false] at hjb
      exact hm (.inr ⟨j, hj, hjb⟩)
theorem key_row {Z : Nat → Prop} {h : Heap} {ι : Nat → Value} {w : World} {k : Nat} {e : Ent} {v : Value} :
    RA (cx Z (hset h k (some e)) (fun j => bif Nat.beq j k then v else ι j) w) (.row k) v := by
  simp only [RA]
  exact ⟨by show (hset h k (some e) k).isSome = true; rw [hset_same]; rfl, by simp⟩

/-- '[]T{..}' as a row of the frame's own. -/
theorem OW_litsOwn (hE : E.Good) (key : Nat) {o : Oper} {t e : TypeId} {len : Nat} {parts : Array (Nat × Operand)} (ho : ops[i]? = some o) (hop : o.op = .buildSlice t len parts) (hw : awant ops o st.s = some true) (hkey : st.h key = none) {z1 z2 : Nat} {z3 : List Value} (ht : E.T t = some ⟨.slice e, z1, z2, z3⟩)
    {ti : TI} (hte : E.T e = some ti) (hpos : Nat.ble 1 ti.size = true) (hlen : parts.size = len) (hsmall : Nat.ble (len * ti.size) 16777216 = true) (hl2 : Nat.ble len 16777216 = true) {xs : List (List D)} (hx : partsD st.s ti.size 0 parts.toList = some xs)
    {s' : Slots} (hs : putS E.N st.s o.dst (.row key) = some s') (h : OW E ops (i + 1) Q ⟨st.J, s', hset st.h key (some (.row e ti.size xs))⟩) : OW E ops i Q st := by
  refine OW_lays hE ho hw (by rw [hop]; intro c hc; cases hc) key hkey (.row e ti.size xs) (.row key) (fun Z K Y ι a w r => ?_) hs h
  obtain ⟨dst, op, ty, pos, af, gd⟩ := o
  simp only at hop
  subst hop
  obtain ⟨cells, h1, h2, h3, h4, h5⟩ := build_slice_run hE ht hte hpos hlen hsmall hx r
  have hl := Nat.le_of_ble_eq_true hl2
  refine ⟨.slice (some ⟨w.heap.size, 0, none⟩) len len, .slice (some ⟨w.heap.size, 0, none⟩) len len, w.alloc (.cells cells e), by simp only [execOp, Sem.run_bind]; rw [h1]; simp, Grew.alloc w _, ?_, ?_, key_row⟩
  · intro b hb
    simp only [blk] at hb
    split at hb
    · cases hb
    · cases hb; simp
  · refine row_new r.mem (Grew.alloc w _) hkey e ti.size xs cells.toList _ h3 ?_ ?_ h4 (by omega)
    · intro b hb
      simp only [blk] at hb
      split at hb
      · cases hb
      · cases hb; simp
    · rcases Nat.eq_zero_or_pos len with h0 | h0
      · left
        refine ⟨some ⟨w.heap.size, 0, none⟩, by rw [h0], by rw [h5, h0], ?_⟩
        have := RDs_length h3
        have hx0 : xs = [] := List.eq_nil_of_length_eq_zero (by omega)
        rw [hx0] at this
        simpa using this
      · right
        refine ⟨w.heap.size, len, cells, by rw [h5], h0, heap_alloc_new w _, by omega, by simp [maxLen]; omega, h2, ?_⟩
        rw [h5, List.take_of_length_le (by simp [h2])]
end
end Go.AL
