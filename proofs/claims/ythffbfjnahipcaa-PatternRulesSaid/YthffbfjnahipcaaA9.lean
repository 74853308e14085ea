/- AL, part 9: forgetting, knowing; variables of the frame's own: laid, written. -/
import Derived.Test.YthffbfjnahipcaaA8
namespace Go.AL
set_option linter.unusedVariables false
set_option linter.unusedSimpArgs false

/-! ### Forgetting slots -/
def sle (s s' : Slots) : Prop := ∀ i, s' i = .any ∨ s' i = s i
theorem sle_no (s : Slots) : sle s noSlots := fun _ => .inl rfl
theorem sle_refl (s : Slots) : sle s s := fun _ => .inr rfl
theorem sle_set {s s' : Slots} (h : sle s s') {d : Nat} {v : AV} (hv : s d = v) : sle s (sset s' d v) := fun i => by
  by_cases hi : i = d
  · subst hi; rw [sset_same]; exact .inr hv.symm
  · rw [sset_ne _ _ hi]; exact h i
theorem LE_s {E : Env} {J : Jt} {s s' : Slots} {h : Heap} (hs : sle s s') : LE E ⟨J, s, h⟩ ⟨J, s', h⟩ := fun ι a w ⟨Z, K, Y, hZ, r⟩ =>
  ⟨ι, Z, K, Y, hZ, r.mem, r.size, fun i => by
    show RA _ (s' i) _
    rcases hs i with e | e <;> rw [e]
    · simp [RA]
    · exact r.slot i, r.ds⟩
/-- One slot told otherwise. -/
theorem LE_slot {E : Env} {J : Jt} {s : Slots} {h : Heap} (d : Nat) (v : AV) (hv : ∀ C x, RA C (s d) x → RA C v x) : LE E ⟨J, s, h⟩ ⟨J, sset s d v, h⟩ := fun ι a w ⟨Z, K, Y, hZ, r⟩ =>
  ⟨ι, Z, K, Y, hZ, r.mem, r.size, fun i => by
    show RA _ (sset s d v i) _
    by_cases hi : i = d
    · subst hi; rw [sset_same]; exact hv _ _ (r.slot i)
    · rw [sset_ne _ _ hi]; exact r.slot i, r.ds⟩

/-! ### Knowing -/
section
variable {E : Env} {Q : Exit → St → Prop} {st : St} {c : Code} {ops : List Oper} {i : Nat}
theorem CW_know {p : Prop} (hp : ∀ ι a w, RelS E st ι a w → p) (h : p → CW E c Q st) : CW E c Q st := fun ι a w r => h (hp ι a w r) ι a w r
theorem OW_know {p : Prop} (hp : ∀ ι a w, RelS E st ι a w → p) (h : p → OW E ops i Q st) : OW E ops i Q st := fun ι a w r => h (hp ι a w r) ι a w r
theorem know_sl {d sz bts : Nat} {xs : List (List D)} (hs : st.s d = .d (.sl sz bts xs)) : ∀ ι a w, RelS E st ι a w → xs.length ≤ 140737488355328 ∧ xs.length * bts ≤ 140737488355328 := fun ι a w ⟨Z, K, Y, hZ, r⟩ => by
  have := r.slot d
  rw [hs] at this
  simp only [RA, RD] at this
  obtain ⟨_, _, _, _, h1, h2, _⟩ := this
  exact ⟨h2, h1⟩
theorem know_str {d : Nat} {b : ByteArray} (hs : st.s d = .d (.lit (.string b))) : ∀ ι a w, RelS E st ι a w → b.size ≤ 140737488355328 := fun ι a w ⟨Z, K, Y, hZ, r⟩ => by
  have := r.slot d
  rw [hs] at this
  obtain ⟨_, h⟩ := RA_lit.1 this
  exact h
theorem know_int {d : Nat} {k : IntKind} {n : Int} (hs : st.s d = .d (.lit (.int k n))) : ∀ ι a w, RelS E st ι a w → k.min ≤ n ∧ n ≤ k.max := fun ι a w ⟨Z, K, Y, hZ, r⟩ => by
  have := r.slot d
  rw [hs] at this
  obtain ⟨_, h⟩ := RA_lit.1 this
  exact h
end
theorem wrap_succ {i : Nat} (h : i ≤ 140737488355328) : IntKind.i64.wrap ((i : Int) + 1) = ((i + 1 : Nat) : Int) := by
  rw [wrap_id]
  · omega
  · simp [IntKind.min, IntKind.signed, IntKind.bits]; omega
  · simp [IntKind.max, IntKind.signed, IntKind.bits]; omega

/-! ### New variables -/
theorem Mem.add {Z K : Nat → Prop} {J : World → Prop} {h : Heap} {ι : Nat → Value} {w w' : World} (m : Mem Z K J h ι w) (hg : Grew w w') {k : Nat} (hk : h k = none) {e : Ent} {v : Value}
    (hb : ∀ b, blk v = some b → w.heap.size ≤ b ∧ b < w'.heap.size)
    (he : EntOk (cx Z (hset h k (some e)) (fun j => bif Nat.beq j k then v else ι j) w') e v) :
    Mem Z K J (hset h k (some e)) (fun j => bif Nat.beq j k then v else ι j) w' ∧ KeepsC (cx Z h ι w) (cx Z (hset h k (some e)) (fun j => bif Nat.beq j k then v else ι j) w') := by
  have hne : ∀ j, dom h j → j ≠ k := by intro j hj e; subst e; simp [dom, hk] at hj
  have hι : ∀ j, j ≠ k → (bif Nat.beq j k then v else ι j) = ι j := by
    intro j hj
    have : Nat.beq j k = false := Bool.eq_false_iff.2 fun h' => hj (Nat.eq_of_beq_eq_true h')
    rw [this]; rfl
  have hιk : (bif Nat.beq k k then v else ι k) = v := by simp
  have hdom : ∀ j, dom (hset h k (some e)) j → j = k ∨ dom h j := by
    intro j hj
    by_cases hjk : j = k
    · exact .inl hjk
    · simp only [dom, hset_ne h _ hjk] at hj; exact .inr hj
  have kc : KeepsC (cx Z h ι w) (cx Z (hset h k (some e)) (fun j => bif Nat.beq j k then v else ι j) w') := by
    refine ⟨⟨fun b o u _ hc => cell_grew hg hc, fun b _ hi => hi.grew hg, fun b hlt hm hm' => ?_⟩, fun j hj => ⟨?_, ?_⟩⟩
    · rcases hm' with hz | ⟨j, hj, hjb⟩
      · exact hm (.inl hz)
      · rcases hdom j hj with rfl | hj'
        · simp only [hιk] at hjb
          have hlt' : b < w.heap.size := hlt.lt
          have := (hb b hjb).1
          omega
        · simp only [hι j (hne j hj')] at hjb
          exact hm (.inr ⟨j, hj', hjb⟩)
    · show (hset h k (some e) j).isSome = true
      rw [hset_ne h _ (hne j hj)]; exact hj
    · exact hι j (hne j hj)
  refine ⟨⟨fun j e' hj => ?_, fun j b hj hjb => ?_, fun j j' b hj hj' hb1 hb2 => ?_, fun b hz => Nat.lt_of_lt_of_le (m.Zlt b hz) hg.size, fun b hz => Nat.lt_of_lt_of_le (m.Klt b hz) hg.size, m.Jc w w' m.Jw (hg.step m.Klt), m.Jc⟩, kc⟩
  · by_cases hjk : j = k
    · subst hjk
      rw [hset_same] at hj
      cases hj
      simp only [hιk]
      exact he
    · rw [hset_ne h _ hjk] at hj
      simp only [hι j hjk]
      exact EntOk.keeps kc (fun b cs t f _ hbk => by
        have hbk' : w.heap[b]? = some (.cells cs t f) := hbk
        show w'.heap[b]? = _
        rw [hg.block b (Array.getElem?_eq_some_iff.1 hbk').1]; exact hbk') (m.ent j e' hj)
  · rcases hdom j hj with rfl | hj'
    · simp only [hιk] at hjb
      have := hb b hjb
      exact ⟨fun hz => by have := m.Zlt b hz; omega, fun hz => by have := m.Klt b hz; omega, this.2⟩
    · simp only [hι j (hne j hj')] at hjb
      have := m.own j b hj' hjb
      exact ⟨this.1, this.2.1, Nat.lt_of_lt_of_le this.2.2 hg.size⟩
  · rcases hdom j hj with rfl | h1 <;> rcases hdom j' hj' with h2 | h2
    · exact h2.symm
    · simp only [hιk] at hb1
      simp only [hι j' (hne j' h2)] at hb2
      have := (hb b hb1).1
      have := (m.own j' b h2 hb2).2.2
      omega
    · subst h2
      simp only [hιk] at hb2
      simp only [hι j (hne j h1)] at hb1
      have := (hb b hb2).1
      have := (m.own j b h1 hb1).2.2
      omega
    · simp only [hι j (hne j h1)] at hb1
      simp only [hι j' (hne j' h2)] at hb2
      exact m.apart j j' b h1 h2 hb1 hb2

/-- The operation lays a block of its own under the key k. -/
theorem OW_lays {E : Env} {ops : List Oper} {i : Nat} {Q : Exit → St → Prop} {st : St} (hE : E.Good) {o : Oper} (ho : ops[i]? = some o) (hw : awant ops o st.s = some true) (hdf : ∀ c, o.op ≠ .defer c) (k : Nat) (hk : st.h k = none) (e : Ent) (R : AV)
    (hg : ∀ Z K Y ι a w, Rel Z K E.N (st.J K Y Z) st.s st.h ι a w → ∃ u v w', (execOp a.eval o).run E.P w = .ok (.value u) w' ∧ Grew w w' ∧ (∀ b, blk v = some b → w.heap.size ≤ b ∧ b < w'.heap.size) ∧
      EntOk (cx Z (hset st.h k (some e)) (fun j => bif Nat.beq j k then v else ι j) w') e v ∧ RA (cx Z (hset st.h k (some e)) (fun j => bif Nat.beq j k then v else ι j) w') R u)
    {s' : Slots} (hs : putS E.N st.s o.dst R = some s') (h : OW E ops (i + 1) Q ⟨st.J, s', hset st.h k (some e)⟩) : OW E ops i Q st := fun ι a w r => by
  have hd : ops.drop i = o :: ops.drop (i + 1) := by
    obtain ⟨hlt, rfl⟩ := List.getElem?_eq_some_iff.1 ho
    exact List.drop_eq_getElem_cons hlt
  rw [hd]
  simp only [wpListIn]
  rw [if_pos (awant_ok r hw)]
  refine ⟨fun f _ => hE.wide.fn f, ?_⟩
  rw [Oper.semAt_plain E.F _ _ hdf]
  obtain ⟨Z, K, Y, hZE, r⟩ := r
  obtain ⟨u, v, w', hr, hgr, hb, he, hR⟩ := hg Z K Y ι a w r
  rw [hr]
  show wpListIn _ _ _ _ _ _ _ _
  obtain ⟨m', kc⟩ := r.mem.add hgr hk hb he
  have r0 : Rel Z K E.N (st.J K Y Z) st.s (hset st.h k (some e)) (fun j => bif Nat.beq j k then v else ι j) a w' := ⟨m', r.size, fun i => RA_keeps kc _ _ (r.slot i), r.ds.grew hgr⟩
  unfold putS at hs
  cases hdst : o.dst with
  | none =>
    rw [hdst] at hs
    cases hs
    exact h _ _ w' ⟨Z, K, Y, hZE, Rel.put_none r0 (Grew.refl _) _⟩
  | some d =>
    rw [hdst] at hs
    simp only at hs
    cases hbd : Nat.ble (d + 1) E.N with
    | false => rw [hbd] at hs; cases hs
    | true =>
      rw [hbd] at hs
      cases hs
      exact h _ _ w' ⟨Z, K, Y, hZE, Rel.put r0 (Grew.refl _) hbd hR⟩

theorem box_new {Z K : Nat → Prop} {J : World → Prop} {h : Heap} {ι : Nat → Value} {w : World} (m : Mem Z K J h ι w) {k : Nat} (hk : h k = none) (t : TypeId) (cs : List AV) (vs : Array Value) (hv : RAs (cx Z h ι w) cs vs.toList) :
    EntOk (cx Z (hset h k (some (.box t cs))) (fun j => bif Nat.beq j k then .pointer (some ⟨w.heap.size, 0, none⟩) else ι j) (w.alloc (.cells vs t))) (.box t cs) (.pointer (some ⟨w.heap.size, 0, none⟩)) := by
  refine ⟨w.heap.size, vs, rfl, heap_alloc_new w _, RAs_keeps (C := cx Z h ι w) ⟨⟨fun b o u _ hc => cell_grew (Grew.alloc w _) hc, fun b _ hi => hi.grew (Grew.alloc w _), fun b hlt hm hm' => ?_⟩, fun j hj => ⟨?_, ?_⟩⟩ _ _ hv⟩
  · rcases hm' with hz | ⟨j, hj, hjb⟩
    · exact hm (.inl hz)
    · by_cases hjk : j = k
      · subst hjk
        simp [blk] at hjb
        have hlt' : b < w.heap.size := hlt.lt
        omega
      · have hb : Nat.beq j k = false := Bool.eq_false_iff.2 fun h' => hjk (Nat.eq_of_beq_eq_true h')
        simp only [dom, hset_ne h _ hjk] at hj
        simp only [hb, cond_false] at hjb
        exact hm (.inr ⟨j, hj, hjb⟩)
  · have hjk : j ≠ k := by intro e; subst e; simp [dom, hk] at hj
    show (hset h k _ j).isSome = true
    rw [hset_ne h _ hjk]; exact hj
  · have hjk : j ≠ k := by intro e; subst e; simp [dom, hk] at hj
    have hb : Nat.beq j k = false := Bool.eq_false_iff.2 fun h' => hjk (Nat.eq_of_beq_eq_true h')
    simp [hb]

section
variable {E : Env} {ops : List Oper} {Q : Exit → St → Prop} {st : St} {i : Nat}
theorem key_ptr {Z : Nat → Prop} {h : Heap} {ι : Nat → Value} {w : World} {k : Nat} {e : Ent} {b : Nat} :
    RA (cx Z (hset h k (some e)) (fun j => bif Nat.beq j k then .pointer (some ⟨b, 0, none⟩) else ι j) w) (.ptr k 0) (.pointer (some ⟨b, 0, none⟩)) := by
  simp only [RA]
  exact ⟨by show (hset h k (some e) k).isSome = true; rw [hset_same]; rfl, b, by simp [blk], rfl⟩

/-- 'new variable, zero'. -/
theorem OW_alloc (hE : E.Good) (k : Nat) {o : Oper} {t : TypeId} (ho : ops[i]? = some o) (hop : o.op = .alloc t) (hw : awant ops o st.s = some true) (hk : st.h k = none) {ti : TI} (ht : E.T t = some ti) {cs : List AV} (hz : litCells ti.zero = some cs)
    {s' : Slots} (hs : putS E.N st.s o.dst (.ptr k 0) = some s') (h : OW E ops (i + 1) Q ⟨st.J, s', hset st.h k (some (.box t cs))⟩) : OW E ops i Q st := by
  refine OW_lays hE ho hw (by rw [hop]; intro c hc; cases hc) k hk (.box t cs) (.ptr k 0) (fun Z K Y ι a w r => ?_) hs h
  obtain ⟨dst, op, ty, pos, af, gd⟩ := o
  simp only at hop
  subst hop
  obtain ⟨z, h1, h2⟩ := run_zero hE.ok.T ht w
  refine ⟨.pointer (some ⟨w.heap.size, 0, none⟩), .pointer (some ⟨w.heap.size, 0, none⟩), w.alloc (.cells z.cells t), ?_, Grew.alloc w _, ?_, box_new r.mem hk t cs z.cells (by rw [h2]; exact litCells_ok hz), key_ptr⟩
  · simp [execOp, Instr.alloc, h1, newVar, newRow]
  · intro b hb; simp [blk] at hb; subst hb; simp

/-- A variable of the frame's own that begins with a value. -/
theorem OW_box (hE : E.Good) (k : Nat) {o : Oper} {t : TypeId} {x : Operand} (ho : ops[i]? = some o) (hop : o.op = .box t x) (hw : awant ops o st.s = some true) (hk : st.h k = none) (hc : cellsOk (ev st.s x) = true)
    {s' : Slots} (hs : putS E.N st.s o.dst (.ptr k 0) = some s') (h : OW E ops (i + 1) Q ⟨st.J, s', hset st.h k (some (.box t (cellsOf (ev st.s x))))⟩) : OW E ops i Q st := by
  refine OW_lays hE ho hw (by rw [hop]; intro c hc; cases hc) k hk (.box t (cellsOf (ev st.s x))) (.ptr k 0) (fun Z K Y ι a w r => ?_) hs h
  obtain ⟨dst, op, ty, pos, af, gd⟩ := o
  simp only at hop
  subst hop
  refine ⟨.pointer (some ⟨w.heap.size, 0, none⟩), .pointer (some ⟨w.heap.size, 0, none⟩), w.alloc (.cells (a.eval x).cells t), ?_, Grew.alloc w _, ?_, box_new r.mem hk t _ _ (RA_cells r.mem.named hc (RA_ev x fun t _ => r.slot t)), key_ptr⟩
  · simp [execOp, Instr.box, newVar, newRow]
  · intro b hb; simp [blk] at hb; subst hb; simp
end

/-! ### Writing -/
def oneAll : List AV → Bool
  | [] => true
  | x :: xs => x.one && oneAll xs
theorem oneAll_ok {C : Cx} (hn : Named C) : ∀ {cs : List AV} {vs : List Value}, oneAll cs = true → RAs C cs vs → ∀ v ∈ vs, v.oneCell' = true
  | [], vs, _, h => by simp only [RAs] at h; subst h; simp
  | x :: cs, vs, ho, h => by
    simp only [RAs] at h
    obtain ⟨v, t, rfl, h1, h2⟩ := h
    simp [oneAll] at ho
    intro u hu
    rcases List.mem_cons.1 hu with rfl | hu
    · exact (RA_one hn ho.1 h1).1
    · exact oneAll_ok hn ho.2 h2 u hu

/-- One of the frame's own blocks has turned, its handle has not. -/
theorem Mem.turn {Z K : Nat → Prop} {J : World → Prop} {h : Heap} {ι : Nat → Value} {w w' : World} (m : Mem Z K J h ι w) {k g : Nat} (hkd : dom h k) (hb : blk (ι k) = some g) (hs : Step (fun b => b ≠ g) w w') (hsz : w'.heap.size = w.heap.size) {e : Ent}
    (he : EntOk (cx Z (hset h k (some e)) ι w') e (ι k)) : Mem Z K J (hset h k (some e)) ι w' ∧ KeepsC (cx Z h ι w) (cx Z (hset h k (some e)) ι w') := by
  have hdom : ∀ j, dom (hset h k (some e)) j ↔ dom h j := by
    intro j
    by_cases hjk : j = k
    · subst hjk; simp only [dom, hset_same]; exact ⟨fun _ => hkd, fun _ => rfl⟩
    · simp only [dom, hset_ne h _ hjk]
  have kc : KeepsC (cx Z h ι w) (cx Z (hset h k (some e)) ι w') := by
    refine ⟨⟨fun b o u hm hc => ?_, fun b hm hi => hi.at (hs.block b fun e => hm (e ▸ .inr ⟨k, hkd, hb⟩)), fun b _ hm hm' => ?_⟩, fun j hj => ⟨(hdom j).2 hj, rfl⟩⟩
    · have hne : b ≠ g := by intro e; subst e; exact hm (.inr ⟨k, hkd, hb⟩)
      show w'.cell? _ = _
      rw [World.cell?_of_block (w := w) (a := ⟨b, o, none⟩) (hs.block b hne)]; exact hc
    · rcases hm' with hz | ⟨j, hj, hjb⟩
      · exact hm (.inl hz)
      · exact hm (.inr ⟨j, (hdom j).1 hj, hjb⟩)
  have hgK := m.own k g hkd hb
  refine ⟨⟨fun j e' hj => ?_, fun j b hj hjb => ?_, fun j j' b hj hj' => m.apart j j' b ((hdom j).1 hj) ((hdom j').1 hj'), fun b hz => by rw [hsz]; exact m.Zlt b hz, fun b hz => by rw [hsz]; exact m.Klt b hz,
    m.Jc w w' m.Jw ⟨hs.os, hs.tape, hs.output, hs.size, fun b hz => hs.block b (fun e => hgK.2.1 (e ▸ hz))⟩, m.Jc⟩, kc⟩
  · by_cases hjk : j = k
    · subst hjk; rw [hset_same] at hj; cases hj; exact he
    · rw [hset_ne h _ hjk] at hj
      refine EntOk.keeps kc (fun b cs t f hbj hbk => ?_) (m.ent j e' hj)
      have hne : b ≠ g := by
        intro e; subst e
        exact hjk (m.apart j k b (by simp [dom, hj]) hkd hbj hb)
      have hbk' : w.heap[b]? = some (.cells cs t f) := hbk
      show w'.heap[b]? = _
      rw [hs.block b hne]; exact hbk'
  · rw [hsz]; exact m.own j b ((hdom j).1 hj) hjb

theorem Marks.turn {Z K : Nat → Prop} {w w' : World} {l : List Deferred} {g : Nat} (m : Marks Z K w l) (hc : ∃ cs t f, w.heap[g]? = some (.cells cs t f)) (hs : Step (fun b => b ≠ g) w w') : Marks Z K w' l := by
  obtain ⟨rs, h1, h2, h3⟩ := m
  refine ⟨rs, h1, h2, fun r hr => ?_⟩
  obtain ⟨h4, h5⟩ := h3 r hr
  have hne : r ≠ g := by
    intro e; subst e
    obtain ⟨cs, t, f, hc⟩ := hc
    rw [hc] at h4; cases h4
  exact ⟨by rw [hs.block r hne]; exact h4, h5⟩

theorem setRow_step (w : World) (g : Nat) (cs : Array Value) : Step (fun b => b ≠ g) w (w.setRow g cs) := ⟨rfl, rfl, rfl, by simp, fun b hb => setRow_other w g b cs hb⟩

def overwrite (cs : List AV) (o : Nat) (vs : List AV) : List AV := cs.take o ++ vs ++ cs.drop (o + vs.length)

section
variable {E : Env} {ops : List Oper} {Q : Exit → St → Prop} {st : St} {i : Nat}
/-- A store into a variable of the frame's own. -/
theorem OW_store (hE : E.Good) {o : Oper} {t : TypeId} {p x : Operand} (ho : ops[i]? = some o) (hop : o.op = .store t p x) (hw : awant ops o st.s = some true) (hdst : o.dst = none) {ti : TI} (ht : E.T t = some ti) {k off : Nat} (hp : ev st.s p = .ptr k off)
    {bt : TypeId} {cs : List AV} (hk : st.h k = some (.box bt cs)) {vs : List AV} (hv : cellsOf (ev st.s x) = vs) (hc : cellsOk (ev st.s x) = true) (h1 : oneAll vs = true) (hl : Nat.beq vs.length ti.size = true) (hfit : Nat.ble (off + vs.length) cs.length = true)
    (h : OW E ops (i + 1) Q ⟨st.J, st.s, hset st.h k (some (.box bt (overwrite cs off vs)))⟩) : OW E ops i Q st := fun ι a w r => by
  have hd : ops.drop i = o :: ops.drop (i + 1) := by
    obtain ⟨hlt, rfl⟩ := List.getElem?_eq_some_iff.1 ho
    exact List.drop_eq_getElem_cons hlt
  rw [hd]
  simp only [wpListIn]
  rw [if_pos (awant_ok r hw)]
  refine ⟨fun f _ => hE.wide.fn f, ?_⟩
  rw [Oper.semAt_plain E.F _ _ (by rw [hop]; intro c hc; cases hc)]
  obtain ⟨dst, op, ty, pos, af, gd⟩ := o
  simp only at hop hdst
  subst hop hdst
  obtain ⟨Z, K, Y, hZE, r⟩ := r
  have hpa := RA_ev (C := cx Z st.h ι w) (s := st.s) (a := a) p fun t _ => r.slot t
  rw [hp] at hpa
  simp only [RA] at hpa
  obtain ⟨hkd, b, hb, he⟩ := hpa
  obtain ⟨b', cur, e1, e2, e3⟩ := r.mem.ent k _ hk
  have : b' = b := by rw [blk_ptr e1] at hb; injection hb
  subst this
  have hxv := RA_cells r.mem.named hc (RA_ev (C := cx Z st.h ι w) (s := st.s) (a := a) x fun t _ => r.slot t)
  rw [hv] at hxv
  have hlen := RAs_length hxv
  have hcl := RAs_length e3
  have hfit' := Nat.le_of_ble_eq_true hfit
  have e2' : w.heap[b']? = some (.cells cur bt (0, 0)) := e2
  have hst := run_storeCells_at (P := E.P) b' off bt (a.eval x).cells.toList 0 cur w e2' (by simp at hlen hcl ⊢; omega) (oneAll_ok r.mem.named h1 hxv)
  have hsz := run_size hE.ok.T ht w
  have hsize : (a.eval x).cells.size = ti.size := by have := Nat.eq_of_beq_eq_true hl; simp at hlen; omega
  have hrun : (execOp a.eval ⟨none, .store t p x, ty, pos, af, gd⟩).run E.P w = .ok .skip (w.setRow b' (cur.toList.take off ++ (a.eval x).cells.toList ++ cur.toList.drop (off + (a.eval x).cells.toList.length)).toArray) := by
    simp [execOp, Instr.storeAt, Instr.sureAddr, he, storeVar, hsz, hsize]
    simp at hst
    rw [hsize] at hst
    rw [hst]
    rfl
  rw [hrun]
  show wpListIn _ _ _ _ _ _ _ _
  have hnew : (w.setRow b' (cur.toList.take off ++ (a.eval x).cells.toList ++ cur.toList.drop (off + (a.eval x).cells.toList.length)).toArray).heap[b']? = some (.cells (cur.toList.take off ++ (a.eval x).cells.toList ++ cur.toList.drop (off + (a.eval x).cells.toList.length)).toArray bt (0, 0)) := setRow_heap w b' cur _ bt _ e2'
  have hdom : ∀ j, dom st.h j → dom (hset st.h k (some (.box bt (overwrite cs off vs)))) j := by
    intro j hj
    by_cases hjk : j = k
    · subst hjk; simp [dom, hset_same]
    · simp only [dom, hset_ne st.h _ hjk]; exact hj
  have kc : KeepsC (cx Z st.h ι w) (cx Z (hset st.h k (some (.box bt (overwrite cs off vs)))) ι (w.setRow b' (cur.toList.take off ++ (a.eval x).cells.toList ++ cur.toList.drop (off + (a.eval x).cells.toList.length)).toArray)) := by
    refine ⟨⟨fun b o u hm hcc => ?_, fun b hm hi => hi.at (setRow_other w b' b _ fun e => hm (e ▸ .inr ⟨k, hkd, hb⟩)), fun b _ hm hm' => ?_⟩, fun j hj => ⟨hdom j hj, rfl⟩⟩
    · have hne : b ≠ b' := by intro e; subst e; exact hm (.inr ⟨k, hkd, hb⟩)
      show World.cell? _ _ = _
      rw [World.cell?_of_block (w := w) (a := ⟨b, o, none⟩) (setRow_other w b' b _ hne)]; exact hcc
    · rcases hm' with hz | ⟨j, hj, hjb⟩
      · exact hm (.inl hz)
      · refine hm (.inr ⟨j, ?_, hjb⟩)
        by_cases hjk : j = k
        · rw [hjk]; exact hkd
        · simp only [dom, hset_ne st.h _ hjk] at hj; exact hj
  have hent : EntOk (cx Z (hset st.h k (some (.box bt (overwrite cs off vs)))) ι (w.setRow b' (cur.toList.take off ++ (a.eval x).cells.toList ++ cur.toList.drop (off + (a.eval x).cells.toList.length)).toArray)) (.box bt (overwrite cs off vs)) (ι k) := by
    refine ⟨b', _, e1, hnew, ?_⟩
    have h3 : RAs (cx Z st.h ι w) (overwrite cs off vs) (cur.toList.take off ++ (a.eval x).cells.toList ++ cur.toList.drop (off + (a.eval x).cells.toList.length)) := by
      unfold overwrite
      rw [hlen]
      exact RAs_append (RAs_append (RAs_take off e3) hxv) (RAs_drop (off + vs.length) e3)
    exact RAs_keeps kc _ _ h3
  obtain ⟨m', _⟩ := r.mem.turn hkd hb (setRow_step w b' _) (by simp) hent
  exact h ι _ _ ⟨Z, K, Y, hZE, Rel.put_none ⟨m', r.size, fun i => RA_keeps kc _ _ (r.slot i), r.ds.turn ⟨cur, bt, _, e2'⟩ (setRow_step w b' _)⟩ (Grew.refl _) _⟩
end
end Go.AL
