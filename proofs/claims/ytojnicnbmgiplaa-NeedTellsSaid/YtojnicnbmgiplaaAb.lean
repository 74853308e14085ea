/- Parts of an abstract logic over the kit's walks, and walks in it: A8, A9, A10, A11, A12, A13, A14. -/
import Derived.Test.YtojnicnbmgiplaaAa
import Derived.Great.BuildSlice
import Derived.OrdersIn
import Derived.StillTail
/- AL, part 8: elements, bytes; a table of types held against the program. -/
namespace Go.AL
set_option linter.unusedVariables false
set_option linter.unusedSimpArgs false

section
variable {E : Env} {ops : List Oper} {Q : Exit → St → Prop} {st : St} {i : Nat}

end

/-! ### The table -/
def sameLit : Value → Value → Bool
  | .bool a, .bool b => a == b
  | .int k a, .int j b => decide (k = j) && decide (a = b)
  | .string a, .string b => decide (a.data.toList = b.data.toList)
  | .pointer none, .pointer none => true
  | .slice none a b, .slice none c d => Nat.beq a c && Nat.beq b d
  | .nilIface, .nilIface => true
  | .nilFunc, .nilFunc => true
  | _, _ => false
theorem sameLit_ok : ∀ {a b : Value}, sameLit a b = true → a = b := by
  intro a b h
  unfold sameLit at h
  split at h <;> simp at h <;> first | rfl | skip
  · rw [h]
  · rw [h.1, h.2]
  · rename_i a b
    obtain ⟨⟨a⟩⟩ := a
    obtain ⟨⟨b⟩⟩ := b
    simp at h
    rw [h]
  · rw [h.1, h.2]
def sameLits : List Value → List Value → Bool
  | [], [] => true
  | a :: x, b :: y => sameLit a b && sameLits x y
  | _, _ => false
theorem sameLits_ok : ∀ {a b : List Value}, sameLits a b = true → a = b
  | [], [], _ => rfl
  | [], _ :: _, h => by simp [sameLits] at h
  | _ :: _, [], h => by simp [sameLits] at h
  | a :: x, b :: y, h => by
    simp [sameLits] at h
    rw [sameLit_ok h.1, sameLits_ok h.2]
def TK.holds (P : Program) (t : TypeId) : TK → Bool
  | .bool => match P.underlying t with | some .bool => true | _ => false
  | .int k => match P.underlying t with | some (.int j) => decide (j = k) | _ => false
  | .str => match P.underlying t with | some .string => true | _ => false
  | .slice e => match P.underlying t with | some (.slice x) => Nat.beq x e | _ => false
  | .struct fs => match P.underlying t with | some (.struct fields) => decide (fields.toList.map (fun f => (f.type, f.offset)) = fs) | _ => false
  | .ptr e => match P.underlying t with | some (.pointer x) => Nat.beq x e | _ => false
  | .iface => match P.underlying t with | some (.interface _) => true | _ => false
  | .array n e => match P.underlying t with | some (.array m x) => Nat.beq m n && Nat.beq x e | _ => false
  | .other => match P.underlying t with | some (.struct _) | some (.array _ _) | some (.interface _) | none => false | _ => true
theorem TK.holds_ok {P : Program} {t : TypeId} {k : TK} (h : k.holds P t = true) : k.fits P t := by
  cases k <;> simp only [TK.holds] at h <;> split at h <;> simp at h <;> simp only [TK.fits]
  · assumption
  · rename_i j hj; rw [← h]; exact hj
  · assumption
  · rename_i j hj; rw [← h]; exact hj
  · rename_i j hj; exact ⟨_, hj, h⟩
  · rename_i j hj; rw [← h]; exact hj
  · rename_i j hj; exact ⟨_, hj⟩
  · rename_i h1 h2 h3 h4
    cases hu : P.underlying t with
    | none => exact (h4 hu).elim
    | some d => exact ⟨d, rfl, by cases d <;> first | rfl | exact (h1 _ hu).elim | exact (h2 _ _ hu).elim | exact (h3 _ hu).elim⟩
  · rename_i m x hj; rw [← h.1, ← h.2]; exact hj
def TI.holds (P : Program) (t : TypeId) (x : TI) : Bool :=
  match P.info? t with
  | some i => Nat.beq i.size x.size && Nat.beq i.bytes x.bytes && (match i.zero with | some z => sameLits z.cells.toList x.zero && Nat.beq x.zero.length x.size | none => false) && x.k.holds P t
  | none => false
theorem TI.holds_ok {P : Program} {t : TypeId} {x : TI} (h : x.holds P t = true) : x.fits P t := by
  unfold TI.holds at h
  split at h
  · rename_i i hi
    simp only [Bool.and_eq_true] at h
    obtain ⟨⟨⟨h1, h2⟩, h3⟩, h4⟩ := h
    split at h3
    · rename_i z hz
      simp only [Bool.and_eq_true] at h3
      exact ⟨⟨i, hi, Nat.eq_of_beq_eq_true h1, Nat.eq_of_beq_eq_true h2, z, hz, sameLits_ok h3.1, Nat.eq_of_beq_eq_true h3.2⟩, TK.holds_ok h4⟩
    · cases h3
  · cases h
def tableOf : List (Nat × TI) → Nat → Option TI
  | [], _ => none
  | (k, x) :: r, t => bif Nat.beq t k then some x else tableOf r t
def tableHolds (P : Program) : List (Nat × TI) → Bool
  | [] => true
  | (k, x) :: r => x.holds P k && tableHolds P r
theorem TOk_of {P : Program} : ∀ {l : List (Nat × TI)}, tableHolds P l = true → TOk P (tableOf l)
  | [], _, t, x, ht => by simp [tableOf] at ht
  | (k, y) :: r, h, t, x, ht => by
    simp only [tableHolds, Bool.and_eq_true] at h
    simp only [tableOf] at ht
    cases hb : Nat.beq t k with
    | true =>
      rw [hb] at ht
      cases ht
      rw [Nat.eq_of_beq_eq_true hb]
      exact TI.holds_ok h.1
    | false =>
      rw [hb] at ht
      exact TOk_of h.2 t x ht
end Go.AL
/- AL, part 9: forgetting, knowing; variables of the frame's own: laid, written. -/
namespace Go.AL
set_option linter.unusedVariables false
set_option linter.unusedSimpArgs false

/-! ### Forgetting slots -/
def sle (s s' : Slots) : Prop := ∀ i, s' i = .any ∨ s' i = s i
theorem sle_no (s : Slots) : sle s noSlots := fun _ => .inl rfl
theorem sle_set {s s' : Slots} (h : sle s s') {d : Nat} {v : AV} (hv : s d = v) : sle s (sset s' d v) := fun i => by
  by_cases hi : i = d
  · subst hi; rw [sset_same]; exact .inr hv.symm
  · rw [sset_ne _ _ hi]; exact h i
theorem LE_s {E : Env} {J : Jt} {s s' : Slots} {h : Heap} (hs : sle s s') : LE E ⟨J, s, h⟩ ⟨J, s', h⟩ := fun ι a w ⟨Z, K, Y, hZ, r⟩ =>
  ⟨ι, Z, K, Y, hZ, r.mem, r.size, fun i => by
    show RA _ (s' i) _
    rcases hs i with e | e <;> rw [e]
    · simp [RA]
    · exact r.slot i, r.ds⟩
/-- One slot told otherwise. -/
theorem LE_slot {E : Env} {J : Jt} {s : Slots} {h : Heap} (d : Nat) (v : AV) (hv : ∀ C x, RA C (s d) x → RA C v x) : LE E ⟨J, s, h⟩ ⟨J, sset s d v, h⟩ := fun ι a w ⟨Z, K, Y, hZ, r⟩ =>
  ⟨ι, Z, K, Y, hZ, r.mem, r.size, fun i => by
    show RA _ (sset s d v i) _
    by_cases hi : i = d
    · subst hi; rw [sset_same]; exact hv _ _ (r.slot i)
    · rw [sset_ne _ _ hi]; exact r.slot i, r.ds⟩

/-! ### Knowing -/
section
variable {E : Env} {Q : Exit → St → Prop} {st : St} {c : Code} {ops : List Oper} {i : Nat}
theorem CW_know {p : Prop} (hp : ∀ ι a w, RelS E st ι a w → p) (h : p → CW E c Q st) : CW E c Q st := fun ι a w r => h (hp ι a w r) ι a w r
theorem OW_know {p : Prop} (hp : ∀ ι a w, RelS E st ι a w → p) (h : p → OW E ops i Q st) : OW E ops i Q st := fun ι a w r => h (hp ι a w r) ι a w r
theorem know_sl {d sz bts : Nat} {xs : List (List D)} (hs : st.s d = .d (.sl sz bts xs)) : ∀ ι a w, RelS E st ι a w → xs.length ≤ 140737488355328 ∧ xs.length * bts ≤ 140737488355328 := fun ι a w ⟨Z, K, Y, hZ, r⟩ => by
  have := r.slot d
  rw [hs] at this
  simp only [RA, RD] at this
  obtain ⟨_, _, _, _, h1, h2, _⟩ := this
  exact ⟨h2, h1⟩
theorem know_str {d : Nat} {b : ByteArray} (hs : st.s d = .d (.lit (.string b))) : ∀ ι a w, RelS E st ι a w → b.size ≤ 140737488355328 := fun ι a w ⟨Z, K, Y, hZ, r⟩ => by
  have := r.slot d
  rw [hs] at this
  obtain ⟨_, h⟩ := RA_lit.1 this
  exact h
end
theorem wrap_succ {i : Nat} (h : i ≤ 140737488355328) : IntKind.i64.wrap ((i : Int) + 1) = ((i + 1 : Nat) : Int) := by
  rw [wrap_id]
  · omega
  · simp [IntKind.min, IntKind.signed, IntKind.bits]; omega
  · simp [IntKind.max, IntKind.signed, IntKind.bits]; omega

/-! ### New variables -/
theorem Mem.add {Z K : Nat → Prop} {J : World → Prop} {h : Heap} {ι : Nat → Value} {w w' : World} (m : Mem Z K J h ι w) (hg : Grew w w') {k : Nat} (hk : h k = none) {e : Ent} {v : Value}
    (hb : ∀ b, blk v = some b → w.heap.size ≤ b ∧ b < w'.heap.size)
    (he : EntOk (cx Z (hset h k (some e)) (fun j => bif Nat.beq j k then v else ι j) w') e v) :
    Mem Z K J (hset h k (some e)) (fun j => bif Nat.beq j k then v else ι j) w' ∧ KeepsC (cx Z h ι w) (cx Z (hset h k (some e)) (fun j => bif Nat.beq j k then v else ι j) w') := by
  have hne : ∀ j, dom h j → j ≠ k := by intro j hj e; subst e; simp [dom, hk] at hj
  have hι : ∀ j, j ≠ k → (bif Nat.beq j k then v else ι j) = ι j := by
    intro j hj
    have : Nat.beq j k = false := Bool.eq_false_iff.2 fun h' => hj (Nat.eq_of_beq_eq_true h')
    rw [this]; rfl
  have hιk : (bif Nat.beq k k then v else ι k) = v := by simp
  have hdom : ∀ j, dom (hset h k (some e)) j → j = k ∨ dom h j := by
    intro j hj
    by_cases hjk : j = k
    · exact .inl hjk
    · simp only [dom, hset_ne h _ hjk] at hj; exact .inr hj
  have kc : KeepsC (cx Z h ι w) (cx Z (hset h k (some e)) (fun j => bif Nat.beq j k then v else ι j) w') := by
    refine ⟨⟨fun b o u _ hc => cell_grew hg hc, fun b _ hi => hi.grew hg, fun b hlt hm hm' => ?_⟩, fun j hj => ⟨?_, ?_⟩⟩
    · rcases hm' with hz | ⟨j, hj, hjb⟩
      · exact hm (.inl hz)
      · rcases hdom j hj with rfl | hj'
        · simp only [hιk] at hjb
          have hlt' : b < w.heap.size := hlt.lt
          have := (hb b hjb).1
          omega
        · simp only [hι j (hne j hj')] at hjb
          exact hm (.inr ⟨j, hj', hjb⟩)
    · show (hset h k (some e) j).isSome = true
      rw [hset_ne h _ (hne j hj)]; exact hj
    · exact hι j (hne j hj)
  refine ⟨⟨fun j e' hj => ?_, fun j b hj hjb => ?_, fun j j' b hj hj' hb1 hb2 => ?_, fun b hz => Nat.lt_of_lt_of_le (m.Zlt b hz) hg.size, fun b hz => Nat.lt_of_lt_of_le (m.Klt b hz) hg.size, m.Jc w w' m.Jw (hg.step m.Klt), m.Jc⟩, kc⟩
  · by_cases hjk : j = k
    · subst hjk
      rw [hset_same] at hj
      cases hj
      simp only [hιk]
      exact he
    · rw [hset_ne h _ hjk] at hj
      simp only [hι j hjk]
      exact EntOk.keeps kc (fun b cs t f _ hbk => by
        have hbk' : w.heap[b]? = some (.cells cs t f) := hbk
        show w'.heap[b]? = _
        rw [hg.block b (Array.getElem?_eq_some_iff.1 hbk').1]; exact hbk') (m.ent j e' hj)
  · rcases hdom j hj with rfl | hj'
    · simp only [hιk] at hjb
      have := hb b hjb
      exact ⟨fun hz => by have := m.Zlt b hz; omega, fun hz => by have := m.Klt b hz; omega, this.2⟩
    · simp only [hι j (hne j hj')] at hjb
      have := m.own j b hj' hjb
      exact ⟨this.1, this.2.1, Nat.lt_of_lt_of_le this.2.2 hg.size⟩
  · rcases hdom j hj with rfl | h1 <;> rcases hdom j' hj' with h2 | h2
    · exact h2.symm
    · simp only [hιk] at hb1
      simp only [hι j' (hne j' h2)] at hb2
      have := (hb b hb1).1
      have := (m.own j' b h2 hb2).2.2
      omega
    · subst h2
      simp only [hιk] at hb2
      simp only [hι j (hne j h1)] at hb1
      have := (hb b hb2).1
      have := (m.own j b h1 hb1).2.2
      omega
    · simp only [hι j (hne j h1)] at hb1
      simp only [hι j' (hne j' h2)] at hb2
      exact m.apart j j' b h1 h2 hb1 hb2

/-- The operation lays a block of its own under the key k. -/
theorem OW_lays {E : Env} {ops : List Oper} {i : Nat} {Q : Exit → St → Prop} {st : St} (hE : E.Good) {o : Oper} (ho : ops[i]? = some o) (hw : awant ops o st.s = some true) (hdf : ∀ c, o.op ≠ .defer c) (k : Nat) (hk : st.h k = none) (e : Ent) (R : AV)
    (hg : ∀ Z K Y ι a w, Rel Z K E.N (st.J K Y Z) st.s st.h ι a w → ∃ u v w', (execOp a.eval o).run E.P w = .ok (.value u) w' ∧ Grew w w' ∧ (∀ b, blk v = some b → w.heap.size ≤ b ∧ b < w'.heap.size) ∧
      EntOk (cx Z (hset st.h k (some e)) (fun j => bif Nat.beq j k then v else ι j) w') e v ∧ RA (cx Z (hset st.h k (some e)) (fun j => bif Nat.beq j k then v else ι j) w') R u)
    {s' : Slots} (hs : putS E.N st.s o.dst R = some s') (h : OW E ops (i + 1) Q ⟨st.J, s', hset st.h k (some e)⟩) : OW E ops i Q st := fun ι a w r => by
  have hd : ops.drop i = o :: ops.drop (i + 1) := by
    obtain ⟨hlt, rfl⟩ := List.getElem?_eq_some_iff.1 ho
    exact List.drop_eq_getElem_cons hlt
  rw [hd]
  simp only [wpListIn]
  rw [if_pos (awant_ok r hw)]
  refine ⟨fun f _ => hE.wide.fn f, ?_⟩
  rw [Oper.semAt_plain E.F _ _ hdf]
  obtain ⟨Z, K, Y, hZE, r⟩ := r
  obtain ⟨u, v, w', hr, hgr, hb, he, hR⟩ := hg Z K Y ι a w r
  rw [hr]
  show wpListIn _ _ _ _ _ _ _ _
  obtain ⟨m', kc⟩ := r.mem.add hgr hk hb he
  have r0 : Rel Z K E.N (st.J K Y Z) st.s (hset st.h k (some e)) (fun j => bif Nat.beq j k then v else ι j) a w' := ⟨m', r.size, fun i => RA_keeps kc _ _ (r.slot i), r.ds.grew hgr⟩
  unfold putS at hs
  cases hdst : o.dst with
  | none =>
    rw [hdst] at hs
    cases hs
    exact h _ _ w' ⟨Z, K, Y, hZE, Rel.put_none r0 (Grew.refl _) _⟩
  | some d =>
    rw [hdst] at hs
    simp only at hs
    cases hbd : Nat.ble (d + 1) E.N with
    | false => rw [hbd] at hs; cases hs
    | true =>
      rw [hbd] at hs
      cases hs
      exact h _ _ w' ⟨Z, K, Y, hZE, Rel.put r0 (Grew.refl _) hbd hR⟩

theorem box_new {Z K : Nat → Prop} {J : World → Prop} {h : Heap} {ι : Nat → Value} {w : World} (m : Mem Z K J h ι w) {k : Nat} (hk : h k = none) (t : TypeId) (cs : List AV) (vs : Array Value) (hv : RAs (cx Z h ι w) cs vs.toList) :
    EntOk (cx Z (hset h k (some (.box t cs))) (fun j => bif Nat.beq j k then .pointer (some ⟨w.heap.size, 0, none⟩) else ι j) (w.alloc (.cells vs t))) (.box t cs) (.pointer (some ⟨w.heap.size, 0, none⟩)) := by
  refine ⟨w.heap.size, vs, rfl, heap_alloc_new w _, RAs_keeps (C := cx Z h ι w) ⟨⟨fun b o u _ hc => cell_grew (Grew.alloc w _) hc, fun b _ hi => hi.grew (Grew.alloc w _), fun b hlt hm hm' => ?_⟩, fun j hj => ⟨?_, ?_⟩⟩ _ _ hv⟩
  · rcases hm' with hz | ⟨j, hj, hjb⟩
    · exact hm (.inl hz)
    · by_cases hjk : j = k
      · subst hjk
        simp [blk] at hjb
        have hlt' : b < w.heap.size := hlt.lt
        omega
      · have hb : Nat.beq j k = false := Bool.eq_false_iff.2 fun h' => hjk (Nat.eq_of_beq_eq_true h')
        simp only [dom, hset_ne h _ hjk] at hj
        simp only [hb, cond_false] at hjb
        exact hm (.inr ⟨j, hj, hjb⟩)
  · have hjk : j ≠ k := by intro e; subst e; simp [dom, hk] at hj
    show (hset h k _ j).isSome = true
    rw [hset_ne h _ hjk]; exact hj
  · have hjk : j ≠ k := by intro e; subst e; simp [dom, hk] at hj
    have hb : Nat.beq j k = false := Bool.eq_false_iff.2 fun h' => hjk (Nat.eq_of_beq_eq_true h')
    simp [hb]

section
variable {E : Env} {ops : List Oper} {Q : Exit → St → Prop} {st : St} {i : Nat}
theorem key_ptr {Z : Nat → Prop} {h : Heap} {ι : Nat → Value} {w : World} {k : Nat} {e : Ent} {b : Nat} :
    RA (cx Z (hset h k (some e)) (fun j => bif Nat.beq j k then .pointer (some ⟨b, 0, none⟩) else ι j) w) (.ptr k 0) (.pointer (some ⟨b, 0, none⟩)) := by
  simp only [RA]
  exact ⟨by show (hset h k (some e) k).isSome = true; rw [hset_same]; rfl, b, by simp [blk], rfl⟩

/-- 'new variable, zero'. -/
theorem OW_alloc (hE : E.Good) (k : Nat) {o : Oper} {t : TypeId} (ho : ops[i]? = some o) (hop : o.op = .alloc t) (hw : awant ops o st.s = some true) (hk : st.h k = none) {ti : TI} (ht : E.T t = some ti) {cs : List AV} (hz : litCells ti.zero = some cs)
    {s' : Slots} (hs : putS E.N st.s o.dst (.ptr k 0) = some s') (h : OW E ops (i + 1) Q ⟨st.J, s', hset st.h k (some (.box t cs))⟩) : OW E ops i Q st := by
  refine OW_lays hE ho hw (by rw [hop]; intro c hc; cases hc) k hk (.box t cs) (.ptr k 0) (fun Z K Y ι a w r => ?_) hs h
  obtain ⟨dst, op, ty, pos, af, gd⟩ := o
  simp only at hop
  subst hop
  obtain ⟨z, h1, h2⟩ := run_zero hE.ok.T ht w
  refine ⟨.pointer (some ⟨w.heap.size, 0, none⟩), .pointer (some ⟨w.heap.size, 0, none⟩), w.alloc (.cells z.cells t), ?_, Grew.alloc w _, ?_, box_new r.mem hk t cs z.cells (by rw [h2]; exact litCells_ok hz), key_ptr⟩
  · simp [execOp, Instr.alloc, h1, newVar, newRow]
  · intro b hb; simp [blk] at hb; subst hb; simp

/-- A variable of the frame's own that begins with a value. -/
theorem OW_box (hE : E.Good) (k : Nat) {o : Oper} {t : TypeId} {x : Operand} (ho : ops[i]? = some o) (hop : o.op = .box t x) (hw : awant ops o st.s = some true) (hk : st.h k = none) (hc : cellsOk (ev st.s x) = true)
    {s' : Slots} (hs : putS E.N st.s o.dst (.ptr k 0) = some s') (h : OW E ops (i + 1) Q ⟨st.J, s', hset st.h k (some (.box t (cellsOf (ev st.s x))))⟩) : OW E ops i Q st := by
  refine OW_lays hE ho hw (by rw [hop]; intro c hc; cases hc) k hk (.box t (cellsOf (ev st.s x))) (.ptr k 0) (fun Z K Y ι a w r => ?_) hs h
  obtain ⟨dst, op, ty, pos, af, gd⟩ := o
  simp only at hop
  subst hop
  refine ⟨.pointer (some ⟨w.heap.size, 0, none⟩), .pointer (some ⟨w.heap.size, 0, none⟩), w.alloc (.cells (a.eval x).cells t), ?_, Grew.alloc w _, ?_, box_new r.mem hk t _ _ (RA_cells r.mem.named hc (RA_ev x fun t _ => r.slot t)), key_ptr⟩
  · simp [execOp, Instr.box, newVar, newRow]
  · intro b hb; simp [blk] at hb; subst hb; simp
end

/-! ### Writing -/
def oneAll : List AV → Bool
  | [] => true
  | x :: xs => x.one && oneAll xs
theorem oneAll_ok {C : Cx} (hn : Named C) : ∀ {cs : List AV} {vs : List Value}, oneAll cs = true → RAs C cs vs → ∀ v ∈ vs, v.oneCell' = true
  | [], vs, _, h => by simp only [RAs] at h; subst h; simp
  | x :: cs, vs, ho, h => by
    simp only [RAs] at h
    obtain ⟨v, t, rfl, h1, h2⟩ := h
    simp [oneAll] at ho
    intro u hu
    rcases List.mem_cons.1 hu with rfl | hu
    · exact (RA_one hn ho.1 h1).1
    · exact oneAll_ok hn ho.2 h2 u hu

/-- One of the frame's own blocks has turned, its handle has not. -/
theorem Mem.turn {Z K : Nat → Prop} {J : World → Prop} {h : Heap} {ι : Nat → Value} {w w' : World} (m : Mem Z K J h ι w) {k g : Nat} (hkd : dom h k) (hb : blk (ι k) = some g) (hs : Step (fun b => b ≠ g) w w') (hsz : w'.heap.size = w.heap.size) {e : Ent}
    (he : EntOk (cx Z (hset h k (some e)) ι w') e (ι k)) : Mem Z K J (hset h k (some e)) ι w' ∧ KeepsC (cx Z h ι w) (cx Z (hset h k (some e)) ι w') := by
  have hdom : ∀ j, dom (hset h k (some e)) j ↔ dom h j := by
    intro j
    by_cases hjk : j = k
    · subst hjk; simp only [dom, hset_same]; exact ⟨fun _ => hkd, fun _ => rfl⟩
    · simp only [dom, hset_ne h _ hjk]
  have kc : KeepsC (cx Z h ι w) (cx Z (hset h k (some e)) ι w') := by
    refine ⟨⟨fun b o u hm hc => ?_, fun b hm hi => hi.at (hs.block b fun e => hm (e ▸ .inr ⟨k, hkd, hb⟩)), fun b _ hm hm' => ?_⟩, fun j hj => ⟨(hdom j).2 hj, rfl⟩⟩
    · have hne : b ≠ g := by intro e; subst e; exact hm (.inr ⟨k, hkd, hb⟩)
      show w'.cell? _ = _
      rw [World.cell?_of_block (w := w) (a := ⟨b, o, none⟩) (hs.block b hne)]; exact hc
    · rcases hm' with hz | ⟨j, hj, hjb⟩
      · exact hm (.inl hz)
      · exact hm (.inr ⟨j, (hdom j).1 hj, hjb⟩)
  have hgK := m.own k g hkd hb
  refine ⟨⟨fun j e' hj => ?_, fun j b hj hjb => ?_, fun j j' b hj hj' => m.apart j j' b ((hdom j).1 hj) ((hdom j').1 hj'), fun b hz => by rw [hsz]; exact m.Zlt b hz, fun b hz => by rw [hsz]; exact m.Klt b hz,
    m.Jc w w' m.Jw ⟨hs.os, hs.tape, hs.output, hs.size, hs.drawn, fun b hz => hs.block b (fun e => hgK.2.1 (e ▸ hz))⟩, m.Jc⟩, kc⟩
  · by_cases hjk : j = k
    · subst hjk; rw [hset_same] at hj; cases hj; exact he
    · rw [hset_ne h _ hjk] at hj
      refine EntOk.keeps kc (fun b cs t f hbj hbk => ?_) (m.ent j e' hj)
      have hne : b ≠ g := by
        intro e; subst e
        exact hjk (m.apart j k b (by simp [dom, hj]) hkd hbj hb)
      have hbk' : w.heap[b]? = some (.cells cs t f) := hbk
      show w'.heap[b]? = _
      rw [hs.block b hne]; exact hbk'
  · rw [hsz]; exact m.own j b ((hdom j).1 hj) hjb

theorem Marks.turn {Z K : Nat → Prop} {w w' : World} {l : List Deferred} {g : Nat} (m : Marks Z K w l) (hc : ∃ cs t f, w.heap[g]? = some (.cells cs t f)) (hs : Step (fun b => b ≠ g) w w') : Marks Z K w' l := by
  obtain ⟨rs, h1, h2, h3⟩ := m
  refine ⟨rs, h1, h2, fun r hr => ?_⟩
  obtain ⟨h4, h5⟩ := h3 r hr
  have hne : r ≠ g := by
    intro e; subst e
    obtain ⟨cs, t, f, hc⟩ := hc
    rw [hc] at h4; cases h4
  exact ⟨by rw [hs.block r hne]; exact h4, h5⟩

theorem setRow_step (w : World) (g : Nat) (cs : Array Value) : Step (fun b => b ≠ g) w (w.setRow g cs) := ⟨rfl, rfl, rfl, by simp, (by first | exact Nat.le_refl _ | exact Nat.le_succ _ | simp), fun b hb => setRow_other w g b cs hb⟩

def overwrite (cs : List AV) (o : Nat) (vs : List AV) : List AV := cs.take o ++ vs ++ cs.drop (o + vs.length)

section
variable {E : Env} {ops : List Oper} {Q : Exit → St → Prop} {st : St} {i : Nat}
/-- A store into a variable of the frame's own. -/
theorem OW_store (hE : E.Good) {o : Oper} {t : TypeId} {p x : Operand} (ho : ops[i]? = some o) (hop : o.op = .store t p x) (hw : awant ops o st.s = some true) (hdst : o.dst = none) {ti : TI} (ht : E.T t = some ti) {k off : Nat} (hp : ev st.s p = .ptr k off)
    {bt : TypeId} {cs : List AV} (hk : st.h k = some (.box bt cs)) {vs : List AV} (hv : cellsOf (ev st.s x) = vs) (hc : cellsOk (ev st.s x) = true) (h1 : oneAll vs = true) (hl : Nat.beq vs.length ti.size = true) (hfit : Nat.ble (off + vs.length) cs.length = true)
    (h : OW E ops (i + 1) Q ⟨st.J, st.s, hset st.h k (some (.box bt (overwrite cs off vs)))⟩) : OW E ops i Q st := fun ι a w r => by
  have hd : ops.drop i = o :: ops.drop (i + 1) := by
    obtain ⟨hlt, rfl⟩ := List.getElem?_eq_some_iff.1 ho
    exact List.drop_eq_getElem_cons hlt
  rw [hd]
  simp only [wpListIn]
  rw [if_pos (awant_ok r hw)]
  refine ⟨fun f _ => hE.wide.fn f, ?_⟩
  rw [Oper.semAt_plain E.F _ _ (by rw [hop]; intro c hc; cases hc)]
  obtain ⟨dst, op, ty, pos, af, gd⟩ := o
  simp only at hop hdst
  subst hop hdst
  obtain ⟨Z, K, Y, hZE, r⟩ := r
  have hpa := RA_ev (C := cx Z st.h ι w) (s := st.s) (a := a) p fun t _ => r.slot t
  rw [hp] at hpa
  simp only [RA] at hpa
  obtain ⟨hkd, b, hb, he⟩ := hpa
  obtain ⟨b', cur, e1, e2, e3⟩ := r.mem.ent k _ hk
  have : b' = b := by rw [blk_ptr e1] at hb; injection hb
  subst this
  have hxv := RA_cells r.mem.named hc (RA_ev (C := cx Z st.h ι w) (s := st.s) (a := a) x fun t _ => r.slot t)
  rw [hv] at hxv
  have hlen := RAs_length hxv
  have hcl := RAs_length e3
  have hfit' := Nat.le_of_ble_eq_true hfit
  have e2' : w.heap[b']? = some (.cells cur bt (0, 0)) := e2
  have hst := run_storeCells_at (P := E.P) b' off bt (a.eval x).cells.toList 0 cur w e2' (by simp at hlen hcl ⊢; omega) (oneAll_ok r.mem.named h1 hxv)
  have hsz := run_size hE.ok.T ht w
  have hsize : (a.eval x).cells.size = ti.size := by have := Nat.eq_of_beq_eq_true hl; simp at hlen; omega
  have hrun : (execOp a.eval ⟨none, .store t p x, ty, pos, af, gd⟩).run E.P w = .ok .skip (w.setRow b' (cur.toList.take off ++ (a.eval x).cells.toList ++ cur.toList.drop (off + (a.eval x).cells.toList.length)).toArray) := by
    simp [execOp, Instr.storeAt, Instr.sureAddr, he, storeVar, hsz, hsize]
    simp at hst
    rw [hsize] at hst
    rw [hst]
    rfl
  rw [hrun]
  show wpListIn _ _ _ _ _ _ _ _
  have hnew : (w.setRow b' (cur.toList.take off ++ (a.eval x).cells.toList ++ cur.toList.drop (off + (a.eval x).cells.toList.length)).toArray).heap[b']? = some (.cells (cur.toList.take off ++ (a.eval x).cells.toList ++ cur.toList.drop (off + (a.eval x).cells.toList.length)).toArray bt (0, 0)) := setRow_heap w b' cur _ bt _ e2'
  have hdom : ∀ j, dom st.h j → dom (hset st.h k (some (.box bt (overwrite cs off vs)))) j := by
    intro j hj
    by_cases hjk : j = k
    · subst hjk; simp [dom, hset_same]
    · simp only [dom, hset_ne st.h _ hjk]; exact hj
  have kc : KeepsC (cx Z st.h ι w) (cx Z (hset st.h k (some (.box bt (overwrite cs off vs)))) ι (w.setRow b' (cur.toList.take off ++ (a.eval x).cells.toList ++ cur.toList.drop (off + (a.eval x).cells.toList.length)).toArray)) := by
    refine ⟨⟨fun b o u hm hcc => ?_, fun b hm hi => hi.at (setRow_other w b' b _ fun e => hm (e ▸ .inr ⟨k, hkd, hb⟩)), fun b _ hm hm' => ?_⟩, fun j hj => ⟨hdom j hj, rfl⟩⟩
    · have hne : b ≠ b' := by intro e; subst e; exact hm (.inr ⟨k, hkd, hb⟩)
      show World.cell? _ _ = _
      rw [World.cell?_of_block (w := w) (a := ⟨b, o, none⟩) (setRow_other w b' b _ hne)]; exact hcc
    · rcases hm' with hz | ⟨j, hj, hjb⟩
      · exact hm (.inl hz)
      · refine hm (.inr ⟨j, ?_, hjb⟩)
        by_cases hjk : j = k
        · rw [hjk]; exact hkd
        · simp only [dom, hset_ne st.h _ hjk] at hj; exact hj
  have hent : EntOk (cx Z (hset st.h k (some (.box bt (overwrite cs off vs)))) ι (w.setRow b' (cur.toList.take off ++ (a.eval x).cells.toList ++ cur.toList.drop (off + (a.eval x).cells.toList.length)).toArray)) (.box bt (overwrite cs off vs)) (ι k) := by
    refine ⟨b', _, e1, hnew, ?_⟩
    have h3 : RAs (cx Z st.h ι w) (overwrite cs off vs) (cur.toList.take off ++ (a.eval x).cells.toList ++ cur.toList.drop (off + (a.eval x).cells.toList.length)) := by
      unfold overwrite
      rw [hlen]
      exact RAs_append (RAs_append (RAs_take off e3) hxv) (RAs_drop (off + vs.length) e3)
    exact RAs_keeps kc _ _ h3
  obtain ⟨m', _⟩ := r.mem.turn hkd hb (setRow_step w b' _) (by simp) hent
  exact h ι _ _ ⟨Z, K, Y, hZE, Rel.put_none ⟨m', r.size, fun i => RA_keeps kc _ _ (r.slot i), r.ds.turn ⟨cur, bt, _, e2'⟩ (setRow_step w b' _)⟩ (Grew.refl _) _⟩
end
end Go.AL
/- AL, part 10: structs and slices that are written out; rows of the frame's own: appended to, handed on as data. -/
namespace Go.AL
set_option linter.unusedVariables false
set_option linter.unusedSimpArgs false

/-! ### Structs written out -/
theorem foldl_set_list (l : List Value) : ∀ (off k : Nat) (c : Array Value), off + k + l.length ≤ c.size →
    ((l.zipIdx k).foldl (fun cs (x : Value × Nat) => cs.setIfInBounds (off + x.2) x.1) c).toList = c.toList.take (off + k) ++ l ++ c.toList.drop (off + k + l.length) := by
  induction l with
  | nil => intro off k c h; simp
  | cons v l ih =>
    intro off k c h
    simp only [List.length_cons] at h
    simp only [List.zipIdx_cons, List.foldl_cons]
    rw [ih off (k + 1) _ (by simp; omega)]
    have hlt : off + k < c.toList.length := by simp; omega
    simp only [Array.toList_setIfInBounds, List.length_cons]
    rw [show off + (k + 1) = off + k + 1 by omega, show off + k + 1 + l.length = off + k + (l.length + 1) by omega]
    rw [List.take_succ_eq_append_getElem (by simpa using hlt), List.drop_set_of_lt (by omega)]
    simp [List.take_set_of_le]
theorem fill_one (place : Nat → Option (Nat × Nat)) (cells : Array Value) (i : Nat) (v : Value) (rest : List (Nat × Value)) {off size : Nat} (hp : place i = some (off, size)) (hs : v.cells.size = size) (hf : off + size ≤ cells.size) :
    Instr.fill place cells ((i, v) :: rest) = Instr.fill place (cells.toList.take off ++ v.cells.toList ++ cells.toList.drop (off + size)).toArray rest := by
  simp only [Instr.fill, hp]
  rw [if_neg (by simp; omega)]
  congr 1
  have := foldl_set_list v.cells.toList off 0 cells (by simp; omega)
  rw [← Array.toArray_toList (xs := Array.foldl _ _ _)]
  congr 1
  rw [← Array.foldl_toList]
  simp only [Array.toList_zipIdx]
  simpa [hs] using this

/-- Parts laid into cells: places told by (offset, size). -/
def afill (places : List (Nat × Nat)) : List AV → List (Nat × AV) → Option (List AV)
  | cells, [] => some cells
  | cells, (i, x) :: rest => match places[i]? with
    | some (off, size) => bif cellsOk x && Nat.beq (cellsOf x).length size && Nat.ble (off + size) cells.length then afill places (overwrite cells off (cellsOf x)) rest else none
    | none => none
theorem afill_ok {C : Cx} (hn : Named C) {places : List (Nat × Nat)} {place : Nat → Option (Nat × Nat)} (hp : ∀ i q, places[i]? = some q → place i = some q) : ∀ (parts : List (Nat × AV)) (vparts : List (Nat × Value)) (cs : List AV) (cells : Array Value) (R : List AV),
    vparts.map (·.1) = parts.map (·.1) → RAs C (parts.map (·.2)) (vparts.map (·.2)) → RAs C cs cells.toList → afill places cs parts = some R → ∃ r, Instr.fill place cells vparts = some r ∧ RAs C R r.toList
  | [], [], cs, cells, R, _, _, hc, hr => by
    simp only [afill, Option.some.injEq] at hr
    subst hr
    exact ⟨cells, rfl, hc⟩
  | [], _ :: _, cs, cells, R, h1, _, _, _ => by simp at h1
  | _ :: _, [], cs, cells, R, h1, _, _, _ => by simp at h1
  | (i, x) :: parts, (j, v) :: vparts, cs, cells, R, h1, h2, hc, hr => by
    simp only [List.map_cons, List.cons.injEq] at h1
    obtain ⟨rfl, h1⟩ := h1
    simp only [List.map_cons, RAs] at h2
    obtain ⟨v', t, e, hx, h2⟩ := h2
    simp only [List.cons.injEq] at e
    obtain ⟨rfl, rfl⟩ := e
    simp only [afill] at hr
    split at hr
    · rename_i off size hpl
      cases hb : cellsOk x && Nat.beq (cellsOf x).length size && Nat.ble (off + size) cs.length with
      | false => rw [hb] at hr; cases hr
      | true =>
        rw [hb] at hr
        simp only [cond_true] at hr
        simp only [Bool.and_eq_true] at hb
        obtain ⟨⟨b1, b2⟩, b3⟩ := hb
        have hcx := RA_cells hn b1 hx
        have hl1 := RAs_length hcx
        have hl2 := RAs_length hc
        have e2 := Nat.eq_of_beq_eq_true b2
        have e3 := Nat.le_of_ble_eq_true b3
        rw [fill_one place cells j v vparts (hp _ _ hpl) (by simp at hl1; omega) (by simp at hl2; omega)]
        refine afill_ok hn hp parts vparts _ _ R h1 h2 ?_ hr
        unfold overwrite
        rw [e2]
        simpa using RAs_append (RAs_append (RAs_take off hc) hcx) (RAs_drop (off + size) hc)
    · cases hr

def placesOf (T : Nat → Option TI) : List (TypeId × Nat) → Option (List (Nat × Nat))
  | [] => some []
  | (t, off) :: r => match T t, placesOf T r with
    | some ti, some ps => some ((off, ti.size) :: ps)
    | _, _ => none
def stepBuild (T : Nat → Option TI) (s : Slots) (t : TypeId) (parts : List (Nat × Operand)) : Option AV :=
  match T t with
  | some ⟨.struct fs, _, _, z⟩ => match placesOf T fs, litCells z with
    | some ps, some cs => (afill ps cs (parts.map fun p => (p.1, ev s p.2))).map .agg
    | _, _ => none
  | _ => none

theorem places_run {P : Program} {T : Nat → Option TI} (hT : TOk P T) {w : World} : ∀ (l : List Field) (ps : List (Nat × Nat)), placesOf T (l.map fun f => (f.type, f.offset)) = some ps →
    (l.mapM fun f => (do pure (f.offset, ← sizeOf f.type) : Sem (Nat × Nat))).run P w = .ok ps w
  | [], ps, h => by simp [placesOf] at h; subst h; simp
  | f :: l, ps, h => by
    simp only [List.map_cons, placesOf] at h
    split at h
    · rename_i ti ps' h1 h2
      cases h
      have := places_run hT (w := w) l ps' h2
      simp only [List.mapM_cons, Sem.run_bind, run_size hT h1 w, Result.andThen_ok, Sem.run_pure]
      rw [this]
      simp
    · cases h

section
variable {E : Env} {ops : List Oper} {Q : Exit → St → Prop} {st : St} {i : Nat}
theorem OW_build (hE : E.Good) {o : Oper} {t : TypeId} {parts : Array (Nat × Operand)} (ho : ops[i]? = some o) (hop : o.op = .build t parts) (hw : awant ops o st.s = some true) {R : AV} (hR : stepBuild E.T st.s t parts.toList = some R)
    {s' : Slots} (hs : putS E.N st.s o.dst R = some s') (h : OW E ops (i + 1) Q { st with s := s' }) : OW E ops i Q st := by
  refine OW_gives ho hE.ok hw (by rw [hop]; intro c hc; cases hc) (fun Z K Y ι a w r => ?_) hs h
  obtain ⟨dst, op, ty, pos, af, gd⟩ := o
  simp only at hop
  subst hop
  unfold stepBuild at hR
  split at hR
  · rename_i fs sz bt z ht
    split at hR
    · rename_i ps cs hps hcs
      simp only [Option.map_eq_some_iff] at hR
      obtain ⟨R', hR', rfl⟩ := hR
      obtain ⟨fields, hu, hf⟩ := (hE.ok.T t _ ht).2
      obtain ⟨zv, hz1, hz2⟩ := run_zero hE.ok.T ht w
      rw [← hf] at hps
      have hpr := places_run hE.ok.T (w := w) fields.toList ps hps
      have hpr' : (fields.mapM fun f => (do pure (f.offset, ← sizeOf f.type) : Sem (Nat × Nat))).run E.P w = .ok ps.toArray w := by
        rw [Array.mapM_eq_mapM_toList, map_eq_pure_bind, Sem.run_bind, hpr]
        simp
      obtain ⟨r', hr1, hr2⟩ := afill_ok (C := cx Z st.h ι w) r.mem.named (places := ps) (place := (ps.toArray[·]?)) (fun i q hq => by simpa using hq) (parts.toList.map fun p => (p.1, ev st.s p.2)) (parts.toList.map fun p => (p.1, a.eval p.2)) cs zv.cells R' (by simp) (by
        have := RAs_evs (C := cx Z st.h ι w) (s := st.s) (a := a) (l := parts.toList.map (·.2)) fun x _ => RA_ev x fun t _ => r.slot t
        simpa [List.map_map, Function.comp_def] using this) (by rw [hz2]; exact litCells_ok hcs) hR'
      refine ⟨.agg r', w, ?_, Grew.refl w, by simp only [RA]; exact ⟨_, rfl, hr2⟩⟩
      have hb : (Instr.build t (parts.map fun p => (p.1, a.eval p.2))).run E.P w = .ok (.agg r') w := by
        unfold Instr.build
        simp only [Sem.run_bind, hz1, Result.andThen_ok, run_underlying hu, hpr', Array.toList_map, hr1, Sem.run_pure]
      simp only [execOp, Sem.run_bind]
      rw [hb]
      simp
    · cases hR
  · cases hR
end

/-! ### Slices written out -/
def partsD (s : Slots) (sz : Nat) : Nat → List (Nat × Operand) → Option (List (List D))
  | _, [] => some []
  | i, (j, x) :: r => bif Nat.beq j i && cellsOk (ev s x) && Nat.beq (cellsOf (ev s x)).length sz then
      match allD (cellsOf (ev s x)), partsD s sz (i + 1) r with
      | some ds, some xs => some (ds :: xs)
      | _, _ => none
    else none
theorem partsD_ok {C : Cx} (hn : Named C) {s : Slots} {a : Act} (hs : ∀ x, RA C (ev s x) (a.eval x)) {sz : Nat} : ∀ (parts : List (Nat × Operand)) (i : Nat) (xs : List (List D)), partsD s sz i parts = some xs →
    (parts.map fun p => (p.1, a.eval p.2)) = (((parts.map fun p => a.eval p.2).zipIdx i).map fun x => (x.2, x.1)) ∧ (∀ v ∈ parts.map (fun p => a.eval p.2), v.cells.size = sz) ∧
    RDs C.w C.M xs.flatten ((parts.map fun p => a.eval p.2).flatMap fun v => v.cells.toList) ∧ (∀ x ∈ xs, x.length = sz) ∧ xs.length = parts.length
  | [], i, xs, h => by simp [partsD] at h; subst h; simp [RDs]
  | (j, x) :: parts, i, xs, h => by
    simp only [partsD] at h
    cases hb : Nat.beq j i && cellsOk (ev s x) && Nat.beq (cellsOf (ev s x)).length sz with
    | false => rw [hb] at h; cases h
    | true =>
      rw [hb] at h
      simp only [cond_true] at h
      simp only [Bool.and_eq_true] at hb
      obtain ⟨⟨b1, b2⟩, b3⟩ := hb
      have e1 := Nat.eq_of_beq_eq_true b1
      have e3 := Nat.eq_of_beq_eq_true b3
      split at h
      · rename_i ds xs' hds hxs
        cases h
        obtain ⟨h1, h2, h3, h4, h5⟩ := partsD_ok hn hs parts (i + 1) xs' hxs
        have hcx := RA_cells hn b2 (hs x)
        have hl := RAs_length hcx
        rw [allD_eq hds] at hcx
        have e4 : ds.length = sz := by rw [allD_eq hds] at e3; simpa using e3
        refine ⟨by simp [h1, e1], ?_, ?_, ?_, by simp [h5]⟩
        · intro v hv
          simp only [List.map_cons, List.mem_cons] at hv
          rcases hv with rfl | hv
          · simp at hl; omega
          · exact h2 v hv
        · simp only [List.flatten_cons, List.map_cons, List.flatMap_cons]
          exact RDs_append (RAs_map_d.1 hcx) h3
        · intro y hy
          rcases List.mem_cons.1 hy with rfl | hy
          · exact e4
          · exact h4 y hy
      · cases h

theorem RCs_of_flat {w : World} {M : Nat → Prop} {b sz : Nat} : ∀ {xs : List (List D)} {off : Nat}, (∀ x ∈ xs, x.length = sz) → RC w M b xs.flatten off → RCs w M b sz xs off
  | [], off, _, _ => by simp [RCs]
  | x :: xs, off, hl, h => by
    simp only [List.flatten_cons] at h
    have hx := hl x (by simp)
    simp only [RCs]
    refine ⟨hx, ?_, ?_⟩
    · obtain ⟨vs, h1, h2⟩ := RC_list h
      have : RDs w M x (vs.take x.length) := by
        have := RAs_take (C := ⟨w, M, fun _ => False, noι⟩) x.length (RAs_map_d.2 (show RDs w _ (x ++ xs.flatten) vs from RDs_keeps ⟨fun _ _ _ _ h => h, fun _ _ h => h, fun b _ hm h' => by rcases h' with h' | ⟨_, h', _⟩; exact hm h'; exact h'⟩ _ _ h1))
        rw [← List.map_take, List.take_left', RAs_map_d] at this
        · exact RDs_keeps ⟨fun _ _ _ _ h => h, fun _ _ h => h, fun b _ hm h' => hm (.inl h')⟩ _ _ this
        · rfl
      refine RC_of_list this fun j v hj => h2 j v ?_
      rw [List.getElem?_take] at hj
      split at hj
      · exact hj
      · cases hj
    · have := RC_drop sz h
      rw [List.drop_left' hx] at this
      exact RCs_of_flat (fun y hy => hl y (by simp [hy])) this

section
variable {E : Env} {ops : List Oper} {Q : Exit → St → Prop} {st : St} {i : Nat}

theorem build_slice_run (hE : E.Good) {t e : TypeId} {z1 z2 : Nat} {z3 : List Value} (ht : E.T t = some ⟨.slice e, z1, z2, z3⟩) {ti : TI} (hte : E.T e = some ti) (hpos : Nat.ble 1 ti.size = true) {len : Nat} {parts : Array (Nat × Operand)} (hlen : parts.size = len) (hsmall : Nat.ble (len * ti.size) 16777216 = true)
    {xs : List (List D)} (hx : partsD st.s ti.size 0 parts.toList = some xs) {Z K Y : Nat → Prop} {ι : Nat → Value} {a : Act} {w : World} (r : Rel Z K E.N (st.J K Y Z) st.s st.h ι a w) :
    ∃ cells : Array Value, (Instr.buildSlice t len (parts.map fun p => (p.1, a.eval p.2))).run E.P w = .ok (.slice (some ⟨w.heap.size, 0, none⟩) len len) (w.alloc (.cells cells e)) ∧ cells.size = len * ti.size ∧
      RDs w (cx Z st.h ι w).M xs.flatten cells.toList ∧ (∀ x ∈ xs, x.length = ti.size) ∧ xs.length = len := by
  have hu := (hE.ok.T t _ ht).2
  simp only [TK.fits] at hu
  obtain ⟨⟨ie, hie, hsz, hby, z, hz, hzc⟩, _⟩ := hE.ok.T e _ hte
  obtain ⟨h1, h2, h3, h4, h5⟩ := partsD_ok (C := cx Z st.h ι w) r.mem.named (s := st.s) (a := a) (fun x => RA_ev x fun t _ => r.slot t) parts.toList 0 xs hx
  have hpos' : 1 ≤ ti.size := Nat.le_of_ble_eq_true hpos
  have hsm' := Nat.le_of_ble_eq_true hsmall
  have hxl : xs.length = len := by rw [h5]; simpa using hlen
  have hcs : ((parts.toList.map fun p => a.eval p.2).flatMap fun v => v.cells.toList).length = len * ti.size := by
    rw [RDs_length h3]
    have : ∀ (ys : List (List D)), (∀ y ∈ ys, y.length = ti.size) → ys.flatten.length = ys.length * ti.size := by
      intro ys
      induction ys with
      | nil => simp
      | cons y ys ih => intro hy; simp [ih (fun q hq => hy q (by simp [hq])), hy y (by simp), Nat.add_mul]; omega
    rw [this xs h4, hxl]
  refine ⟨((parts.toList.map fun p => a.eval p.2).flatMap fun v => v.cells.toList).toArray, ?_, by simpa using hcs, by simpa using h3, h4, hxl⟩
  rcases Nat.eq_zero_or_pos len with h0 | h0
  · subst h0
    have hp : parts = #[] := by simpa using hlen
    subst hp
    simp [Instr.buildSlice, run_underlying hu, sizeOf, typeInfo, hie, Instr.fill, newRow]
    congr 1
    congr 1
    apply Array.ext'
    simp
  · refine run_buildSlice (P := E.P) w t e len _ _ ie z hu hie hz (by rw [hsz]; omega) (by rw [hsz]; intro h; rcases Nat.mul_eq_zero.1 h with h | h <;> omega) ?_
    rw [hsz]
    have hfw := Great.fill_whole (s := ti.size) hpos' (parts.toList.map fun p => a.eval p.2) ((Array.range (len * ti.size)).map (z.cells[· % z.cells.size]!)) h2 (by simp [hlen])
    rw [← h1] at hfw
    simpa using hfw

/-- '[]T{..}', which nobody will write. -/
theorem OW_lits (hE : E.Good) {o : Oper} {t e : TypeId} {len : Nat} {parts : Array (Nat × Operand)} (ho : ops[i]? = some o) (hop : o.op = .buildSlice t len parts) (hw : awant ops o st.s = some true) {z1 z2 : Nat} {z3 : List Value} (ht : E.T t = some ⟨.slice e, z1, z2, z3⟩)
    {k : TK} {sz bts : Nat} {z6 : List Value} (hte : E.T e = some ⟨k, sz, bts, z6⟩) (hpos : Nat.ble 1 sz = true) (hlen : parts.size = len) (hsmall : Nat.ble (len * sz) 16777216 = true) (hbts : Nat.ble (len * bts) 16777216 = true) (hl2 : Nat.ble len 16777216 = true) {xs : List (List D)} (hx : partsD st.s sz 0 parts.toList = some xs)
    {s' : Slots} (hs : putS E.N st.s o.dst (.d (.sl sz bts xs)) = some s') (h : OW E ops (i + 1) Q { st with s := s' }) : OW E ops i Q st := by
  refine OW_gives ho hE.ok hw (by rw [hop]; intro c hc; cases hc) (R := .d (.sl sz bts xs)) (fun Z K Y ι a w r => ?_) hs h
  obtain ⟨dst, op, ty, pos, af, gd⟩ := o
  simp only at hop
  subst hop
  obtain ⟨cells, h1, h2, h3, h4, h5⟩ := build_slice_run hE ht (ti := ⟨k, sz, bts, z6⟩) hte hpos hlen hsmall hx r
  have hb := Nat.le_of_ble_eq_true hbts
  have hl := Nat.le_of_ble_eq_true hl2
  refine ⟨.slice (some ⟨w.heap.size, 0, none⟩) len len, w.alloc (.cells cells e), by simp only [execOp, Sem.run_bind]; rw [h1]; simp, Grew.alloc w _, ?_⟩
  simp only [RA, RD]
  have hn := RC_new r.mem e h3
  simp only [Array.toArray_toList] at hn
  refine ⟨_, len, by rw [h5], by omega, by rw [h5]; omega, by rw [h5]; omega, .inr ⟨w.heap.size, 0, rfl, hn.1, ⟨_, _, _, heap_alloc_new w _⟩, RCs_of_flat h4 hn.2⟩⟩

theorem row_new {Z K : Nat → Prop} {J : World → Prop} {h : Heap} {ι : Nat → Value} {w w' : World} (m : Mem Z K J h ι w) (hg : Grew w w') {k : Nat} (hk : h k = none) (e : TypeId) (sz : Nat) (xs : List (List D)) (vs : List Value) (v : Value) (hv : RDs w (cx Z h ι w).M xs.flatten vs)
    (hb : ∀ b, blk v = some b → w.heap.size ≤ b) (hr : RowOk w' v e sz xs.length vs) (hl : ∀ x ∈ xs, x.length = sz) (hn : xs.length ≤ 140737488355328) :
    EntOk (cx Z (hset h k (some (.row e sz xs))) (fun j => bif Nat.beq j k then v else ι j) w') (.row e sz xs) v := by
  refine ⟨vs, hr, RDs_keeps ⟨fun b o u _ hc => cell_grew hg hc, fun b _ hi => hi.grew hg, fun b hlt hm hm' => ?_⟩ _ _ hv, hl, hn⟩
  rcases hm' with hz | ⟨j, hj, hjb⟩
  · exact hm (.inl hz)
  · by_cases hjk : j = k
    · subst hjk
      simp at hjb
      have := hb b hjb
      have hlt' : b < w.heap.size := hlt.lt
      omega
    · have hbq : Nat.beq j k = false := Bool.eq_false_iff.2 fun h' => hjk (Nat.eq_of_beq_eq_true h')
      simp only [dom, hset_ne h _ hjk] at hj
      simp only [hbq, cond_false] at hjb
      exact hm (.inr ⟨j, hj, hjb⟩)
theorem key_row {Z : Nat → Prop} {h : Heap} {ι : Nat → Value} {w : World} {k : Nat} {e : Ent} {v : Value} :
    RA (cx Z (hset h k (some e)) (fun j => bif Nat.beq j k then v else ι j) w) (.row k) v := by
  simp only [RA]
  exact ⟨by show (hset h k (some e) k).isSome = true; rw [hset_same]; rfl, by simp⟩

/-- '[]T{..}' as a row of the frame's own. -/
theorem OW_litsOwn (hE : E.Good) (key : Nat) {o : Oper} {t e : TypeId} {len : Nat} {parts : Array (Nat × Operand)} (ho : ops[i]? = some o) (hop : o.op = .buildSlice t len parts) (hw : awant ops o st.s = some true) (hkey : st.h key = none) {z1 z2 : Nat} {z3 : List Value} (ht : E.T t = some ⟨.slice e, z1, z2, z3⟩)
    {ti : TI} (hte : E.T e = some ti) (hpos : Nat.ble 1 ti.size = true) (hlen : parts.size = len) (hsmall : Nat.ble (len * ti.size) 16777216 = true) (hl2 : Nat.ble len 16777216 = true) {xs : List (List D)} (hx : partsD st.s ti.size 0 parts.toList = some xs)
    {s' : Slots} (hs : putS E.N st.s o.dst (.row key) = some s') (h : OW E ops (i + 1) Q ⟨st.J, s', hset st.h key (some (.row e ti.size xs))⟩) : OW E ops i Q st := by
  refine OW_lays hE ho hw (by rw [hop]; intro c hc; cases hc) key hkey (.row e ti.size xs) (.row key) (fun Z K Y ι a w r => ?_) hs h
  obtain ⟨dst, op, ty, pos, af, gd⟩ := o
  simp only at hop
  subst hop
  obtain ⟨cells, h1, h2, h3, h4, h5⟩ := build_slice_run hE ht hte hpos hlen hsmall hx r
  have hl := Nat.le_of_ble_eq_true hl2
  refine ⟨.slice (some ⟨w.heap.size, 0, none⟩) len len, .slice (some ⟨w.heap.size, 0, none⟩) len len, w.alloc (.cells cells e), by simp only [execOp, Sem.run_bind]; rw [h1]; simp, Grew.alloc w _, ?_, ?_, key_row⟩
  · intro b hb
    simp only [blk] at hb
    split at hb
    · cases hb
    · cases hb; simp
  · refine row_new r.mem (Grew.alloc w _) hkey e ti.size xs cells.toList _ h3 ?_ ?_ h4 (by omega)
    · intro b hb
      simp only [blk] at hb
      split at hb
      · cases hb
      · cases hb; simp
    · rcases Nat.eq_zero_or_pos len with h0 | h0
      · left
        refine ⟨some ⟨w.heap.size, 0, none⟩, by rw [h0], by rw [h5, h0], ?_⟩
        have := RDs_length h3
        have hx0 : xs = [] := List.eq_nil_of_length_eq_zero (by omega)
        rw [hx0] at this
        simpa using this
      · right
        refine ⟨w.heap.size, len, cells, by rw [h5], h0, heap_alloc_new w _, by omega, by simp [maxLen]; omega, h2, ?_⟩
        rw [h5, List.take_of_length_le (by simp [h2])]
end
end Go.AL
/- AL, part 11: append; a row handed on as data. -/
namespace Go.AL
set_option linter.unusedVariables false
set_option linter.unusedSimpArgs false

/-! No mention of the key k. -/
mutual
def nokey (k : Nat) : AV → Bool
  | .d _ => true
  | .any => true
  | .agg cs => nokeys k cs
  | .tup cs => nokeys k cs
  | .fn _ a b => nokeys k a && nokeys k b
  | .ptr j _ => !Nat.beq j k
  | .row j => !Nat.beq j k
  | .view j _ _ => !Nat.beq j k
def nokeys (k : Nat) : List AV → Bool
  | [] => true
  | x :: xs => nokey k x && nokeys k xs
end
/-- As KeepsC, but for one key. -/
structure KeepsK (k : Nat) (C C' : Cx) : Prop where
  d : Keeps C.w C'.w C.M C'.M
  dom : ∀ j, j ≠ k → C.dom j → C'.dom j ∧ C'.ι j = C.ι j
mutual
theorem RA_keepsK {k : Nat} {C C' : Cx} (h : KeepsK k C C') : ∀ (x : AV) (v : Value), nokey k x = true → RA C x v → RA C' x v
  | .d x, v => fun _ hx => by simp only [RA] at hx ⊢; exact RD_keeps h.d x v hx
  | .agg cs, v => fun hk hx => by
    simp only [RA] at hx ⊢
    obtain ⟨vs, e, h1⟩ := hx
    exact ⟨vs, e, RAs_keepsK h cs _ (by simpa [nokey] using hk) h1⟩
  | .tup cs, v => fun hk hx => by
    simp only [RA] at hx ⊢
    obtain ⟨vs, e, h1⟩ := hx
    exact ⟨vs, e, RAs_keepsK h cs _ (by simpa [nokey] using hk) h1⟩
  | .fn f first cap, v => fun hk hx => by
    simp only [RA] at hx ⊢
    obtain ⟨vf, vc, e, h1, h2⟩ := hx
    simp [nokey] at hk
    exact ⟨vf, vc, e, RAs_keepsK h first _ hk.1 h1, RAs_keepsK h cap _ hk.2 h2⟩
  | .any, v => fun _ hx => by simp only [RA]
  | .ptr j o, v => fun hk hx => by
    have hk : j ≠ k := by intro e; subst e; simp [nokey] at hk
    simp only [RA] at hx ⊢
    obtain ⟨hj, b, hb, e⟩ := hx
    have := h.dom j hk hj
    exact ⟨this.1, b, by rw [this.2]; exact hb, e⟩
  | .view j o n, v => fun hk hx => by
    have hk : j ≠ k := by intro e; subst e; simp [nokey] at hk
    simp only [RA] at hx ⊢
    obtain ⟨hj, b, cap, hb, e⟩ := hx
    have := h.dom j hk hj
    exact ⟨this.1, b, cap, by rw [this.2]; exact hb, by rw [this.2]; exact e⟩
  | .row j, v => fun hk hx => by
    have hk : j ≠ k := by intro e; subst e; simp [nokey] at hk
    simp only [RA] at hx ⊢
    have := h.dom j hk hx.1
    exact ⟨this.1, by rw [this.2]; exact hx.2⟩
theorem RAs_keepsK {k : Nat} {C C' : Cx} (h : KeepsK k C C') : ∀ (xs : List AV) (vs : List Value), nokeys k xs = true → RAs C xs vs → RAs C' xs vs
  | [], vs => fun _ hx => by simpa only [RAs] using hx
  | x :: xs, vs => fun hk hx => by
    simp only [RAs] at hx ⊢
    obtain ⟨v, t, e, h1, h2⟩ := hx
    simp [nokeys] at hk
    exact ⟨v, t, e, RA_keepsK h x v hk.1 h1, RAs_keepsK h xs t hk.2 h2⟩
end

/-- Whatever names the key is forgotten. -/
def unk (k : Nat) (x : AV) : AV := bif nokey k x then x else .any
def unkS (k : Nat) (s : Slots) : Slots := fun i => unk k (s i)
def unkE (k : Nat) : Ent → Ent
  | .box t cs => .box t (cs.map (unk k))
  | .row e sz xs => .row e sz xs
  | .ghost cs vs => .ghost (cs.map (unk k)) vs
  | .rowA e sz n cs => .rowA e sz n (cs.map (unk k))
def unkH (k : Nat) (h : Heap) : Heap := fun j => match h j with
  | some e => some (unkE k e)
  | none => none
theorem nokey_unk (k : Nat) (x : AV) : nokey k (unk k x) = true := by
  unfold unk
  cases h : nokey k x with
  | true => simpa using h
  | false => simp [nokey]
theorem RA_unk {k : Nat} {C : Cx} {x : AV} {v : Value} (h : RA C x v) : RA C (unk k x) v := by
  unfold unk
  cases nokey k x with
  | true => exact h
  | false => simp [RA]
theorem RAs_unk {k : Nat} {C : Cx} : ∀ {xs : List AV} {vs : List Value}, RAs C xs vs → RAs C (xs.map (unk k)) vs
  | [], vs, h => by simpa only [List.map_nil, RAs] using h
  | x :: xs, vs, h => by
    simp only [RAs, List.map_cons] at h ⊢
    obtain ⟨v, t, e, h1, h2⟩ := h
    exact ⟨v, t, e, RA_unk h1, RAs_unk h2⟩
theorem nokeys_unk (k : Nat) : ∀ (xs : List AV), nokeys k (xs.map (unk k)) = true
  | [] => by simp [nokeys]
  | x :: xs => by simp [nokeys, nokey_unk, nokeys_unk k xs]
theorem dom_unkH {k : Nat} {h : Heap} {j : Nat} : dom (unkH k h) j ↔ dom h j := by
  unfold dom unkH
  cases h j <;> simp

/-- The block of a key has turned, or the key has a new one. -/
theorem Mem.redo {Z K : Nat → Prop} {J : World → Prop} {h : Heap} {ι : Nat → Value} {w w' : World} (m : Mem Z K J h ι w) {k : Nat} (hkd : dom h k) {v' : Value} (hs : Step (fun b => b < w.heap.size ∧ some b ≠ blk (ι k)) w w')
    (hb' : ∀ b, blk v' = some b → b < w'.heap.size ∧ (blk (ι k) = some b ∨ w.heap.size ≤ b)) {e' : Ent}
    (he : EntOk (cx Z (hset (unkH k h) k (some e')) (fun j => bif Nat.beq j k then v' else ι j) w') e' v') :
    Mem Z K J (hset (unkH k h) k (some e')) (fun j => bif Nat.beq j k then v' else ι j) w' ∧ KeepsK k (cx Z h ι w) (cx Z (hset (unkH k h) k (some e')) (fun j => bif Nat.beq j k then v' else ι j) w') := by
  have hι : ∀ j, j ≠ k → (bif Nat.beq j k then v' else ι j) = ι j := by
    intro j hj
    have : Nat.beq j k = false := Bool.eq_false_iff.2 fun h' => hj (Nat.eq_of_beq_eq_true h')
    rw [this]; rfl
  have hιk : (bif Nat.beq k k then v' else ι k) = v' := by simp
  have hdom : ∀ j, dom (hset (unkH k h) k (some e')) j ↔ dom h j := by
    intro j
    by_cases hjk : j = k
    · subst hjk; simp only [dom, hset_same]; exact ⟨fun _ => hkd, fun _ => rfl⟩
    · simp only [dom, hset_ne (unkH k h) _ hjk]; exact dom_unkH
  have kk : KeepsK k (cx Z h ι w) (cx Z (hset (unkH k h) k (some e')) (fun j => bif Nat.beq j k then v' else ι j) w') := by
    refine ⟨⟨fun b o u hm hc => ?_, fun b hm hi => hi.at (hs.block b ⟨hi.lt, fun e => hm (.inr ⟨k, hkd, e.symm⟩)⟩), fun b hlt hm hm' => ?_⟩, fun j hj hd => ⟨(hdom j).2 hd, hι j hj⟩⟩
    · have hne : some b ≠ blk (ι k) := fun e => hm (.inr ⟨k, hkd, e.symm⟩)
      show w'.cell? _ = _
      rw [World.cell?_of_block (w := w) (a := ⟨b, o, none⟩) (hs.block b ⟨World.block_lt_of_cell? w ⟨b, o, none⟩ hc, hne⟩)]; exact hc
    · rcases hm' with hz | ⟨j, hj, hjb⟩
      · exact hm (.inl hz)
      · by_cases hjk : j = k
        · subst hjk
          simp only [hιk] at hjb
          have hlt' : b < w.heap.size := hlt.lt
          rcases (hb' b hjb).2 with h1 | h1
          · exact hm (.inr ⟨j, hkd, h1⟩)
          · omega
        · simp only [hι j hjk] at hjb
          exact hm (.inr ⟨j, (hdom j).1 hj, hjb⟩)
  have hstep : ∀ (b : Nat), K b → w'.heap[b]? = w.heap[b]? := fun b hz => hs.block b ⟨m.Klt b hz, fun e => (m.own k b hkd e.symm).2.1 hz⟩
  refine ⟨⟨fun j e hj => ?_, fun j b hj hjb => ?_, fun j j' b hj hj' hb1 hb2 => ?_, fun b hz => Nat.lt_of_lt_of_le (m.Zlt b hz) hs.size, fun b hz => Nat.lt_of_lt_of_le (m.Klt b hz) hs.size,
    m.Jc w w' m.Jw ⟨hs.os, hs.tape, hs.output, hs.size, hs.drawn, hstep⟩, m.Jc⟩, kk⟩
  · by_cases hjk : j = k
    · subst hjk; rw [hset_same] at hj; cases hj; simp only [hιk]; exact he
    · rw [hset_ne (unkH k h) _ hjk] at hj
      simp only [hι j hjk]
      unfold unkH at hj
      split at hj
      · rename_i e0 he0
        cases hj
        have ho := m.ent j e0 he0
        have hdj : dom h j := by simp [dom, he0]
        have hkeep : ∀ b cs t f, blk (ι j) = some b → w.heap[b]? = some (.cells cs t f) → w'.heap[b]? = some (.cells cs t f) := by
          intro b cs t f hbj hbk
          rw [hs.block b ⟨(Array.getElem?_eq_some_iff.1 hbk).1, fun e => hjk (m.apart j k b hdj hkd hbj e.symm)⟩]; exact hbk
        cases e0 with
        | box t cs =>
          obtain ⟨b, vs, h1, h2, h3⟩ := ho
          exact ⟨b, vs, h1, hkeep b _ _ _ (blk_ptr h1) h2, RAs_keepsK kk _ _ (nokeys_unk k cs) (RAs_unk h3)⟩
        | row e sz xs =>
          obtain ⟨vs, h1, h2, h3⟩ := ho
          refine ⟨vs, ?_, RDs_keeps kk.d _ _ h2, h3⟩
          rcases h1 with h1 | ⟨g, cap, cur, g1, g0, g2, g3⟩
          · exact .inl h1
          · exact .inr ⟨g, cap, cur, g1, g0, hkeep g _ _ _ (by rw [g1]; simp [blk]; omega) g2, g3⟩
        | ghost cs vs => exact ⟨ho.1, RAs_keepsK kk _ _ (nokeys_unk k cs) (RAs_unk ho.2)⟩
        | rowA e sz n cs =>
          obtain ⟨vs, h1, h2, h3⟩ := ho
          refine ⟨vs, ?_, RAs_keepsK kk _ _ (nokeys_unk k cs) (RAs_unk h2), h3⟩
          rcases h1 with h1 | ⟨g, cap, cur, g1, g0, g2, g3⟩
          · exact .inl h1
          · exact .inr ⟨g, cap, cur, g1, g0, hkeep g _ _ _ (by rw [g1]; simp [blk]; omega) g2, g3⟩
      · cases hj
  · by_cases hjk : j = k
    · subst hjk
      simp only [hιk] at hjb
      rcases hb' b hjb with ⟨h1, h2 | h2⟩
      · have := m.own j b hkd h2
        exact ⟨this.1, this.2.1, h1⟩
      · exact ⟨fun hz => by have := m.Zlt b hz; omega, fun hz => by have := m.Klt b hz; omega, h1⟩
    · simp only [hι j hjk] at hjb
      have := m.own j b ((hdom j).1 hj) hjb
      exact ⟨this.1, this.2.1, Nat.lt_of_lt_of_le this.2.2 hs.size⟩
  · have hj0 := (hdom j).1 hj
    have hj0' := (hdom j').1 hj'
    by_cases h1 : j = k <;> by_cases h2 : j' = k
    · rw [h1, h2]
    · subst h1
      simp only [hιk] at hb1
      simp only [hι j' h2] at hb2
      rcases (hb' b hb1).2 with h3 | h3
      · exact m.apart _ _ b hkd hj0' h3 hb2
      · have := (m.own j' b hj0' hb2).2.2; omega
    · subst h2
      simp only [hιk] at hb2
      simp only [hι j h1] at hb1
      rcases (hb' b hb2).2 with h3 | h3
      · exact m.apart _ _ b hj0 hkd hb1 h3
      · have := (m.own j b hj0 hb1).2.2; omega
    · simp only [hι j h1] at hb1
      simp only [hι j' h2] at hb2
      exact m.apart _ _ b hj0 hj0' hb1 hb2

/-! ### append -/
/-- What is appended: values that lie side by side. -/
def Src (w : World) (u : Value) (m : Nat) (news : List Value) : Prop :=
  (∃ a c, u = .slice (some a) m c ∧ ∀ j x, news[j]? = some x → w.cell? (a.add j) = some x) ∨ (m = 0 ∧ ∃ c, u = .slice none 0 c)
theorem Src_of {C : Cx} {sz bts : Nat} {ys : List (List D)} {u : Value} (h : RA C (.d (.sl sz bts ys)) u) : ∃ news, Src C.w u ys.length news ∧ RDs C.w C.M ys.flatten news ∧ news.length = ys.length * sz := by
  simp only [RA, RD] at h
  obtain ⟨a, cap, rfl, h1, h2, h3, h4⟩ := h
  rcases h4 with rfl | ⟨b, off, rfl, hm, hb, hc⟩
  · refine ⟨[], ?_, by simp [RDs], by simp⟩
    cases a with
    | none => exact .inr ⟨rfl, cap, rfl⟩
    | some a => exact .inl ⟨a, cap, rfl, by simp⟩
  · obtain ⟨hf, hl⟩ := RCs_flat hc
    obtain ⟨vs, g1, g2⟩ := RC_list hf
    refine ⟨vs, .inl ⟨⟨b, off, none⟩, cap, rfl, fun j x hj => ?_⟩, g1, by rw [RDs_length g1, hl]⟩
    have : (⟨b, off, none⟩ : Addr).add j = ⟨b, off + j, none⟩ := by
      unfold Addr.add; split
      · subst_vars; simp
      · rfl
    rw [this]; exact g2 j x hj
theorem Src_nil {C : Cx} {u : Value} (h : RA C (.d (.lit (.slice none 0 0))) u) : Src C.w u 0 [] := by
  obtain ⟨rfl, _⟩ := RA_lit.1 h
  exact .inr ⟨rfl, 0, rfl⟩
theorem RDs_one {w : World} {M : Nat → Prop} : ∀ {xs : List D} {vs : List Value}, RDs w M xs vs → ∀ v ∈ vs, v.oneCell' = true
  | [], vs, h => by simp only [RDs] at h; subst h; simp
  | x :: xs, vs, h => by
    simp only [RDs] at h
    obtain ⟨v, t, rfl, h1, h2⟩ := h
    intro u hu
    rcases List.mem_cons.1 hu with rfl | hu
    · exact (RD_one h1).1
    · exact RDs_one h2 u hu

theorem run_append_any {P : Program} {T : Nat → Option TI} (hT : TOk P T) {t ty e : TypeId} {z1 z2 : Nat} {z3 : List Value} (ht : T t = some ⟨.slice e, z1, z2, z3⟩) {k : TK} {sz bts : Nat} {z6 : List Value} (hte : T e = some ⟨k, sz, bts, z6⟩) (hpos : Nat.ble 1 sz = true)
    {w : World} {v u : Value} {n m : Nat} {vs news : List Value} (hv : RowOk w v e sz n vs) (hvl : vs.length = n * sz) (hs : Src w u m news) (hnl : news.length = m * sz) (h1 : ∀ x ∈ news, x.oneCell' = true) (hn : n + m ≤ 140737488355328) (hb : (n + m) * bts ≤ 140737488355328) :
    ∃ v' w', (Builtin.append_ #[t, t] ty #[v, u]).run P w = .ok v' w' ∧ RowOk w' v' e sz (n + m) (vs ++ news) ∧ Step (fun b => b < w.heap.size ∧ some b ≠ blk v) w w' ∧ (∀ b, blk v' = some b → b < w'.heap.size ∧ (blk v = some b ∨ w.heap.size ≤ b)) := by
  have hu := (hT t _ ht).2
  simp only [TK.fits] at hu
  obtain ⟨⟨ie, hie, hsz, hby, z, hz, hzc, hzl⟩, _⟩ := hT e _ hte
  simp only at hsz hby hzc hzl
  have hpos' : 1 ≤ sz := Nat.le_of_ble_eq_true hpos
  have hmax : n + m ≤ maxLen := by simp [maxLen]; omega
  rcases Nat.eq_zero_or_pos m with hm | hm
  · -- nothing is appended
    subst hm
    have hn0 : news = [] := List.eq_nil_of_length_eq_zero (by simpa using hnl)
    subst hn0
    have hsame : ∀ a0 cap, v = .slice a0 n cap → n ≤ cap → (Builtin.append_ #[t, t] ty #[v, u]).run P w = .ok v w := by
      intro a0 cap e1 hcap
      subst e1
      rcases hs with ⟨a, c, rfl, _⟩ | ⟨_, c, rfl⟩ <;> cases a0 <;>
        simp [Builtin.append_, run_underlying hu, sizeOf, typeInfo, hie, Builtin.lenOf, hcap, Builtin.firstCells, loadCells, loadCellsFrom, storeCells]
    rcases hv with ⟨a0, e1, rfl, rfl⟩ | ⟨g, cap, cur, e1, hc0, hg, hnc, hcm, hcs, htk⟩
    · refine ⟨v, w, hsame a0 0 e1 (Nat.le_refl _), .inl ⟨a0, e1, rfl, rfl⟩, Step.refl _ w, fun b hb => ?_⟩
      rw [e1] at hb; cases a0 <;> simp [blk] at hb
    · refine ⟨v, w, hsame _ cap e1 hnc, .inr ⟨g, cap, cur, e1, hc0, hg, hnc, hcm, hcs, by simpa using htk⟩, Step.refl _ w, fun b hb => ⟨?_, .inl hb⟩⟩
      rw [e1] at hb
      simp [blk] at hb
      obtain ⟨_, rfl⟩ := hb
      exact (Array.getElem?_eq_some_iff.1 hg).1
  · obtain ⟨a, c, rfl, hnews⟩ : ∃ a c, u = .slice (some a) m c ∧ ∀ j x, news[j]? = some x → w.cell? (a.add j) = some x := by
      rcases hs with h | ⟨h, _⟩
      · exact h
      · omega
    have hzs : z.cells.size = sz := by
      have : z.cells.toList.length = sz := by rw [hzc]; exact hzl
      simpa using this
    have hfit : ∀ old, old < n + m → Builtin.nextslicecap (n + m) old * ie.bytes ≤ 281474976710656 := fun old ho => growslice_fits ho (by rw [hby]; exact hb)
    -- the new block where it grows
    have grown : ∀ (old : Nat), RowOk (w.drew.alloc (.cells (vs.toArray ++ news.toArray ++ Builtin.zeroCells z.cells (grownCap w (n + m) old e - (n + m))) e)) (.slice (some ⟨w.heap.size, 0, none⟩) (n + m) (grownCap w (n + m) old e)) e sz (n + m) (vs ++ news) ∧
        Step (fun b => b < w.heap.size ∧ some b ≠ blk v) w (w.drew.alloc (.cells (vs.toArray ++ news.toArray ++ Builtin.zeroCells z.cells (grownCap w (n + m) old e - (n + m))) e)) ∧
        (∀ b, blk (.slice (some ⟨w.heap.size, 0, none⟩) (n + m) (grownCap w (n + m) old e)) = some b → b < (w.drew.alloc (.cells (vs.toArray ++ news.toArray ++ Builtin.zeroCells z.cells (grownCap w (n + m) old e - (n + m))) e)).heap.size ∧ (blk v = some b ∨ w.heap.size ≤ b)) := by
      intro old
      have hge := grownCap_ge w (n + m) old e
      have hcm := grownCap_le_maxLen w (n + m) old e hmax
      have hlen : (vs ++ news).length = (n + m) * sz := by rw [List.length_append, hvl, hnl, Nat.add_mul]
      refine ⟨.inr ⟨w.heap.size, _, _, rfl, by omega, heap_alloc_new w.drew _, hge, hcm, ?_, ?_⟩, ⟨rfl, rfl, rfl, by simp, (by first | exact Nat.le_refl _ | exact Nat.le_succ _ | simp), fun b hbs => RowKit.Below.heap_alloc w.drew _ b hbs.1⟩, fun b hbb => ?_⟩
      · simp only [Array.size_append, List.size_toArray, size_zeroCells, hzs, hvl, hnl, ← Nat.add_mul]
        congr 1
        omega
      · simp only [Array.toList_append, List.append_assoc]
        rw [← List.append_assoc, ← hlen]
        exact List.take_left
      · simp only [blk] at hbb
        split at hbb
        · cases hbb
        · cases hbb; exact ⟨by simp, .inr (Nat.le_refl _)⟩
    rcases hv with ⟨a0, e1, rfl, rfl⟩ | ⟨g, cap, cur, e1, hc0, hg, hnc, hcm, hcs, htk⟩
    · have gr := grown 0
      simp only [Nat.zero_add, List.nil_append, Array.empty_append] at gr hfit hb hn ⊢
      subst e1
      cases a0 with
      | none =>
        have hr := run_append_nil (P := P) w t ty e ie z hu hie hz a m c news (by rw [hsz]; exact hnl) hnews hm (by omega) (by rw [hby]; omega)
        exact ⟨_, _, hr, gr⟩
      | some b0 =>
        have hr := run_append_grow (P := P) w t ty e ie z hu hie hz b0 0 0 [] (by simp) (by simp) a m c news (by rw [hsz]; exact hnl) hnews (by omega) (by omega) (by simpa using hfit 0 hm)
        simp only [Nat.zero_add, Array.empty_append] at hr
        exact ⟨_, _, hr, gr⟩
    · subst e1
      have hbk : blk (.slice (some ⟨g, 0, none⟩) n cap) = some g := by simp [blk]; omega
      by_cases hroom : n + m ≤ cap
      · have hfit2 : n * ie.size + news.length ≤ cur.size := by rw [hnl, hcs, hsz, ← Nat.add_mul]; exact Nat.mul_le_mul_right _ hroom
        have hr := run_append_room (P := P) w t ty e ie hu hie g n cap cur hg a m c news (by rw [hsz]; exact hnl) hnews h1 hroom hfit2
        refine ⟨_, _, hr, .inr ⟨g, cap, _, rfl, hc0, setRow_heap w g cur _ e _ hg, hroom, hcm, ?_, ?_⟩, ⟨rfl, rfl, rfl, by simp, (by first | exact Nat.le_refl _ | exact Nat.le_succ _ | simp), fun b hb => setRow_other w g b _ (fun e => hb.2 (by rw [hbk, e]))⟩, fun b hb => ?_⟩
        · simp only [List.size_toArray, List.length_append, List.length_take, List.length_drop, Array.length_toList]
          rw [hsz] at hfit2 ⊢
          omega
        · rw [hsz, htk]
          have : (vs ++ news).length = (n + m) * sz := by rw [List.length_append, hvl, hnl, Nat.add_mul]
          rw [← this]
          exact List.take_left
        · have hgl := (Array.getElem?_eq_some_iff.1 hg).1
          simp only [blk] at hb
          split at hb
          · cases hb
          · cases hb; exact ⟨by simpa using hgl, .inl hbk⟩
      · have holds : ∀ j x, vs[j]? = some x → w.cell? ((⟨g, 0, none⟩ : Addr).add j) = some x := by
          intro j x hj
          have hadd : (⟨g, 0, none⟩ : Addr).add j = ⟨g, j, none⟩ := by unfold Addr.add; split <;> simp_all
          rw [hadd, cell_of_row w g j cur e (0, 0) hg]
          rw [← htk, List.getElem?_take] at hj
          split at hj
          · simpa using hj
          · cases hj
        have hr := run_append_grow (P := P) w t ty e ie z hu hie hz ⟨g, 0, none⟩ n cap vs (by rw [hsz]; exact hvl) holds a m c news (by rw [hsz]; exact hnl) hnews (by omega) (by omega) (hfit cap (by omega))
        exact ⟨_, _, hr, grown cap⟩

section
variable {E : Env} {ops : List Oper} {Q : Exit → St → Prop} {st : St} {i : Nat}

theorem srcOf {Z : Nat → Prop} {h : Heap} {ι : Nat → Value} {w : World} {X : AV} {u : Value} (hx : RA (cx Z h ι w) X u) {sz bts : Nat} {ys : List (List D)} (hX : X = .d (.sl sz bts ys) ∨ (X = .d (.lit (.slice none 0 0)) ∧ ys = [])) :
    ∃ news, Src w u ys.length news ∧ RDs w (cx Z h ι w).M ys.flatten news ∧ news.length = ys.length * sz ∧ (∀ y ∈ ys, y.length = sz) := by
  rcases hX with rfl | ⟨rfl, rfl⟩
  · obtain ⟨news, h1, h2, h3⟩ := Src_of hx
    refine ⟨news, h1, h2, h3, ?_⟩
    simp only [RA, RD] at hx
    obtain ⟨a, cap, _, _, _, _, h4⟩ := hx
    rcases h4 with rfl | ⟨b, off, _, _, _, hc⟩
    · simp
    · intro y hy
      obtain ⟨j, hj⟩ := List.mem_iff_getElem?.1 hy
      exact (RCs_get hc hj).1
  · exact ⟨[], Src_nil hx, by simp [RDs], by simp, by simp⟩

theorem exec_append {P : Program} {dst : Option Tmp} {so xo : Operand} {t : TypeId} {ty : TypeId} {pos : String} {af : Array Edge} {gd : Option (Nat × Bool)} {a : Act} {w w' : World} {v' : Value}
    (hr : (Builtin.append_ #[t, t] ty #[a.eval so, a.eval xo]).run P w = .ok v' w') : (execOp a.eval ⟨dst, .call ⟨.builtin .append, #[so, xo], #[t, t]⟩, ty, pos, af, gd⟩).run P w = .ok (.value v') w' := by
  simp [execOp, resolve, invoke, builtin, hr]

/-- 'append' to nil: a new row. -/
theorem OW_appendNil (hE : E.Good) (key : Nat) {o : Oper} {t e : TypeId} {so xo : Operand} (ho : ops[i]? = some o) (hop : o.op = .call ⟨.builtin .append, #[so, xo], #[t, t]⟩) (hw : awant ops o st.s = some true) (hkey : st.h key = none) {z1 z2 : Nat} {z3 : List Value} (ht : E.T t = some ⟨.slice e, z1, z2, z3⟩)
    {k : TK} {sz bts : Nat} {z6 : List Value} (hte : E.T e = some ⟨k, sz, bts, z6⟩) (hpos : Nat.ble 1 sz = true) (hso : ev st.s so = .d (.lit (.slice none 0 0))) {ys : List (List D)} (hxo : ev st.s xo = .d (.sl sz bts ys) ∨ (ev st.s xo = .d (.lit (.slice none 0 0)) ∧ ys = []))
    (hn : ys.length ≤ 140737488355328) (hb : ys.length * bts ≤ 140737488355328)
    {s' : Slots} (hs : putS E.N st.s o.dst (.row key) = some s') (h : OW E ops (i + 1) Q ⟨st.J, s', hset st.h key (some (.row e sz ys))⟩) : OW E ops i Q st := by
  refine OW_lays hE ho hw (by rw [hop]; intro c hc; cases hc) key hkey (.row e sz ys) (.row key) (fun Z K Y ι a w r => ?_) hs h
  obtain ⟨dst, op, ty, pos, af, gd⟩ := o
  simp only at hop
  subst hop
  have h1 := RA_ev (C := cx Z st.h ι w) (s := st.s) (a := a) so fun t _ => r.slot t
  rw [hso] at h1
  obtain ⟨e1, _⟩ := RA_lit.1 h1
  obtain ⟨news, g1, g2, g3, g4⟩ := srcOf (RA_ev (C := cx Z st.h ι w) (s := st.s) (a := a) xo fun t _ => r.slot t) hxo
  obtain ⟨v', w', hr, q1, q2, q3⟩ := run_append_any hE.ok.T ht (ty := ty) hte hpos (n := 0) (m := ys.length) (vs := []) (v := .slice none 0 0) (.inl ⟨none, rfl, rfl, rfl⟩) (by simp) g1 g3 (RDs_one g2) (by omega) (by simpa using hb)
  have hg : Grew w w' := ⟨q2.os, q2.tape, q2.output, q2.size, q2.drawn, fun b hbb => q2.block b ⟨hbb, by simp [blk]⟩⟩
  have hnew : ∀ b, blk v' = some b → w.heap.size ≤ b ∧ b < w'.heap.size := fun b hbb => by
    refine ⟨?_, (q3 b hbb).1⟩
    rcases (q3 b hbb).2 with h | h
    · simp [blk] at h
    · exact h
  refine ⟨v', v', w', exec_append (by rw [e1]; exact hr), hg, hnew, ?_, key_row⟩
  simp only [Nat.zero_add, List.nil_append] at q1
  exact row_new r.mem hg hkey e sz ys news v' g2 (fun b hbb => (hnew b hbb).1) q1 g4 hn

/-- 'append' to a row of the frame's own: under the same key; what named it before is forgotten. -/
theorem OW_append (hE : E.Good) {key : Nat} {o : Oper} {t e : TypeId} {so xo : Operand} (ho : ops[i]? = some o) (hop : o.op = .call ⟨.builtin .append, #[so, xo], #[t, t]⟩) (hw : awant ops o st.s = some true) {z1 z2 : Nat} {z3 : List Value} (ht : E.T t = some ⟨.slice e, z1, z2, z3⟩)
    {k : TK} {sz bts : Nat} {z6 : List Value} (hte : E.T e = some ⟨k, sz, bts, z6⟩) (hpos : Nat.ble 1 sz = true) (hso : ev st.s so = .row key) {xs : List (List D)} (hkey : st.h key = some (.row e sz xs)) {ys : List (List D)} (hxo : ev st.s xo = .d (.sl sz bts ys) ∨ (ev st.s xo = .d (.lit (.slice none 0 0)) ∧ ys = []))
    (hn : xs.length + ys.length ≤ 140737488355328) (hb : (xs.length + ys.length) * bts ≤ 140737488355328)
    {s' : Slots} (hs : putS E.N (unkS key st.s) o.dst (.row key) = some s') (h : OW E ops (i + 1) Q ⟨st.J, s', hset (unkH key st.h) key (some (.row e sz (xs ++ ys)))⟩) : OW E ops i Q st := fun ι a w r => by
  have hd : ops.drop i = o :: ops.drop (i + 1) := by
    obtain ⟨hlt, rfl⟩ := List.getElem?_eq_some_iff.1 ho
    exact List.drop_eq_getElem_cons hlt
  rw [hd]
  simp only [wpListIn]
  rw [if_pos (awant_ok r hw)]
  refine ⟨fun f _ => hE.wide.fn f, ?_⟩
  rw [Oper.semAt_plain E.F _ _ (by rw [hop]; intro c hc; cases hc)]
  obtain ⟨dst, op, ty, pos, af, gd⟩ := o
  simp only at hop hs
  subst hop
  obtain ⟨Z, K, Y, hZE, r⟩ := r
  have h1 := RA_ev (C := cx Z st.h ι w) (s := st.s) (a := a) so fun t _ => r.slot t
  rw [hso] at h1
  simp only [RA] at h1
  obtain ⟨hkd, e1⟩ := h1
  obtain ⟨news, g1, g2, g3, g4⟩ := srcOf (RA_ev (C := cx Z st.h ι w) (s := st.s) (a := a) xo fun t _ => r.slot t) hxo
  obtain ⟨vs, f1, f2, f3, f4⟩ := r.mem.ent key _ hkey
  have hfl : ∀ (l : List (List D)), (∀ y ∈ l, y.length = sz) → l.flatten.length = l.length * sz := by
    intro l
    induction l with
    | nil => simp
    | cons y ys ih => intro hy; simp [ih (fun q hq => hy q (by simp [hq])), hy y (by simp), Nat.add_mul]; omega
  have hvl : vs.length = xs.length * sz := by rw [RDs_length f2]; exact hfl xs f3
  obtain ⟨v', w', hr, q1, q2, q3⟩ := run_append_any hE.ok.T ht (ty := ty) hte hpos (n := xs.length) (m := ys.length) f1 hvl g1 g3 (RDs_one g2) hn hb
  rw [exec_append (v' := v') (w' := w') (by rw [e1]; exact hr)]
  show wpListIn _ _ _ _ _ _ _ _
  have hent : EntOk (cx Z (hset (unkH key st.h) key (some (.row e sz (xs ++ ys)))) (fun j => bif Nat.beq j key then v' else ι j) w') (.row e sz (xs ++ ys)) v' := by
    refine ⟨vs ++ news, by simpa using q1, ?_, ?_, by simpa using hn⟩
    · have := RDs_append f2 g2
      rw [← List.flatten_append] at this
      refine RDs_keeps (w := w) (M := (cx Z st.h ι w).M) ⟨fun b o u hm hc => ?_, fun b hm hi => hi.at (q2.block b ⟨hi.lt, fun e => hm (.inr ⟨key, hkd, e.symm⟩)⟩), fun b hlt hm hm' => ?_⟩ _ _ this
      · rw [World.cell?_of_block (w := w) (a := ⟨b, o, none⟩) (q2.block b ⟨World.block_lt_of_cell? w ⟨b, o, none⟩ hc, fun e => hm (.inr ⟨key, hkd, e.symm⟩)⟩)]; exact hc
      · rcases hm' with hz | ⟨j, hj, hjb⟩
        · exact hm (.inl hz)
        · by_cases hjk : j = key
          · subst hjk
            simp at hjb
            rcases (q3 b hjb).2 with h | h
            · exact hm (.inr ⟨_, hkd, h⟩)
            · have hlt' : b < w.heap.size := hlt.lt
              have h' : w.heap.size ≤ b := h
              omega
          · have hbq : Nat.beq j key = false := Bool.eq_false_iff.2 fun h' => hjk (Nat.eq_of_beq_eq_true h')
            simp only [dom, hset_ne (unkH key st.h) _ hjk] at hj
            simp only [hbq, cond_false] at hjb
            exact hm (.inr ⟨j, dom_unkH.1 hj, hjb⟩)
    · intro y hy
      rcases List.mem_append.1 hy with hy | hy
      · exact f3 y hy
      · exact g4 y hy
  obtain ⟨m', kk⟩ := r.mem.redo hkd q2 q3 hent
  have hmarks : Marks Z K w' a.defers := by
    obtain ⟨rs, p1, p2, p3⟩ := r.ds
    refine ⟨rs, p1, p2, fun x hx => ?_⟩
    obtain ⟨p4, p5⟩ := p3 x hx
    refine ⟨?_, p5⟩
    rw [q2.block x ⟨(Array.getElem?_eq_some_iff.1 p4).1, fun e => ?_⟩]
    · exact p4
    · rcases f1 with ⟨a0, e0, _⟩ | ⟨g, cap, cur, e0, hc0, hg, _⟩
      · rw [e0] at e; cases a0 <;> simp [blk] at e
      · rw [e0] at e
        have hg' : w.heap[g]? = some (.cells cur _ (0, 0)) := hg
        have : blk (.slice (some ⟨g, 0, none⟩) xs.length cap) = some g := by simp [blk]; omega
        rw [this] at e
        cases e
        rw [hg'] at p4
        cases p4
  have r0 : Rel Z K E.N (st.J K Y Z) (unkS key st.s) (hset (unkH key st.h) key (some (.row e sz (xs ++ ys)))) (fun j => bif Nat.beq j key then v' else ι j) a w' :=
    ⟨m', r.size, fun j => RA_keepsK kk _ _ (nokey_unk key _) (RA_unk (r.slot j)), hmarks⟩
  unfold putS at hs
  cases hdst : dst with
  | none =>
    simp only [hdst] at hs
    cases hs
    exact h _ _ w' ⟨Z, K, Y, hZE, Rel.put_none r0 (Grew.refl _) _⟩
  | some d =>
    simp only [hdst] at hs
    cases hbd : Nat.ble (d + 1) E.N with
    | false => rw [hbd] at hs; cases hs
    | true =>
      rw [hbd] at hs
      cases hs
      exact h _ _ w' ⟨Z, K, Y, hZE, Rel.put r0 (Grew.refl _) hbd key_row⟩
end

/-! ### A row handed on as data: nobody writes it from now on -/
mutual
def fz (k : Nat) (X : D) : AV → AV
  | .d x => .d x
  | .any => .any
  | .agg cs => .agg (fzs k X cs)
  | .tup cs => .tup (fzs k X cs)
  | .fn f a b => .fn f (fzs k X a) (fzs k X b)
  | .ptr j o => bif Nat.beq j k then .any else .ptr j o
  | .row j => bif Nat.beq j k then .d X else .row j
  | .view j o n => bif Nat.beq j k then .any else .view j o n
def fzs (k : Nat) (X : D) : List AV → List AV
  | [] => []
  | x :: xs => fz k X x :: fzs k X xs
end
def fzS (k : Nat) (X : D) (s : Slots) : Slots := fun i => fz k X (s i)
def fzE (k : Nat) (X : D) : Ent → Ent
  | .box t cs => .box t (fzs k X cs)
  | .row e sz xs => .row e sz xs
  | .ghost cs vs => .ghost (fzs k X cs) vs
  | .rowA e sz n cs => .rowA e sz n (fzs k X cs)
def fzH (k : Nat) (X : D) (h : Heap) : Heap := fun j => bif Nat.beq j k then none else match h j with
  | some e => some (fzE k X e)
  | none => none
mutual
theorem RA_fz {k : Nat} {X : D} {C C' : Cx} (hk : Keeps C.w C'.w C.M C'.M) (hd : ∀ j, j ≠ k → C.dom j → C'.dom j ∧ C'.ι j = C.ι j) (hX : RD C'.w C'.M X (C.ι k)) : ∀ (x : AV) (v : Value), RA C x v → RA C' (fz k X x) v
  | .d x, v => fun hx => by simp only [RA, fz] at hx ⊢; exact RD_keeps hk x v hx
  | .agg cs, v => fun hx => by
    simp only [RA, fz] at hx ⊢
    obtain ⟨vs, e, h1⟩ := hx
    exact ⟨vs, e, RAs_fz hk hd hX cs _ h1⟩
  | .tup cs, v => fun hx => by
    simp only [RA, fz] at hx ⊢
    obtain ⟨vs, e, h1⟩ := hx
    exact ⟨vs, e, RAs_fz hk hd hX cs _ h1⟩
  | .fn f first cap, v => fun hx => by
    simp only [RA, fz] at hx ⊢
    obtain ⟨vf, vc, e, h1, h2⟩ := hx
    exact ⟨vf, vc, e, RAs_fz hk hd hX first _ h1, RAs_fz hk hd hX cap _ h2⟩
  | .any, v => fun _ => by simp only [RA, fz]
  | .ptr j o, v => fun hx => by
    simp only [fz]
    cases hb : Nat.beq j k with
    | true => simp [RA]
    | false =>
      have hne : j ≠ k := by intro e; subst e; simp at hb
      simp only [RA, cond_false] at hx ⊢
      obtain ⟨hj, b, hbk, e⟩ := hx
      have := hd j hne hj
      exact ⟨this.1, b, by rw [this.2]; exact hbk, e⟩
  | .view j o n, v => fun hx => by
    simp only [fz]
    cases hb : Nat.beq j k with
    | true => simp [RA]
    | false =>
      have hne : j ≠ k := by intro e; subst e; simp at hb
      simp only [RA, cond_false] at hx ⊢
      obtain ⟨hj, b, cap, hbk, e⟩ := hx
      have := hd j hne hj
      exact ⟨this.1, b, cap, by rw [this.2]; exact hbk, by rw [this.2]; exact e⟩
  | .row j, v => fun hx => by
    simp only [fz]
    cases hb : Nat.beq j k with
    | true =>
      have e := Nat.eq_of_beq_eq_true hb
      subst e
      simp only [RA, cond_true] at hx ⊢
      rw [hx.2]; exact hX
    | false =>
      have hne : j ≠ k := by intro e; subst e; simp at hb
      simp only [RA, cond_false] at hx ⊢
      have := hd j hne hx.1
      exact ⟨this.1, by rw [this.2]; exact hx.2⟩
theorem RAs_fz {k : Nat} {X : D} {C C' : Cx} (hk : Keeps C.w C'.w C.M C'.M) (hd : ∀ j, j ≠ k → C.dom j → C'.dom j ∧ C'.ι j = C.ι j) (hX : RD C'.w C'.M X (C.ι k)) : ∀ (xs : List AV) (vs : List Value), RAs C xs vs → RAs C' (fzs k X xs) vs
  | [], vs => fun hx => by simpa only [RAs, fzs] using hx
  | x :: xs, vs => fun hx => by
    simp only [RAs, fzs] at hx ⊢
    obtain ⟨v, t, e, h1, h2⟩ := hx
    exact ⟨v, t, e, RA_fz hk hd hX x v h1, RAs_fz hk hd hX xs t h2⟩
end

theorem LE_freeze {E : Env} {J : Jt} {s : Slots} {h : Heap} (k : Nat) {e : TypeId} {sz : Nat} {xs : List (List D)} (bts : Nat) (hk : h k = some (.row e sz xs)) (hb : xs.length * bts ≤ 140737488355328) :
    LE E ⟨J, s, h⟩ ⟨J, fzS k (.sl sz bts xs) s, fzH k (.sl sz bts xs) h⟩ := fun ι a w ⟨Z, K, Y, hZE, r⟩ => by
  have hdom : ∀ j, dom (fzH k (.sl sz bts xs) h) j ↔ j ≠ k ∧ dom h j := by
    intro j
    unfold dom fzH
    cases hbq : Nat.beq j k with
    | true =>
      have e := Nat.eq_of_beq_eq_true hbq
      simp [e]
    | false =>
      have hne : j ≠ k := by intro e; subst e; simp at hbq
      simp only [cond_false]
      cases hj : h j <;> simp [hne]
  have hkd : dom h k := by simp [dom, hk]
  have keeps : Keeps w w (cx Z h ι w).M (cx Z (fzH k (.sl sz bts xs) h) ι w).M := by
    refine ⟨fun _ _ _ _ hh => hh, fun _ _ hh => hh, fun b _ hm hm' => ?_⟩
    rcases hm' with hz | ⟨j, hj, hjb⟩
    · exact hm (.inl hz)
    · exact hm (.inr ⟨j, ((hdom j).1 hj).2, hjb⟩)
  have hd : ∀ j, j ≠ k → (cx Z h ι w).dom j → (cx Z (fzH k (.sl sz bts xs) h) ι w).dom j ∧ ι j = ι j := fun j hne hj => ⟨(hdom j).2 ⟨hne, hj⟩, rfl⟩
  have hX : RD w (cx Z (fzH k (.sl sz bts xs) h) ι w).M (.sl sz bts xs) (ι k) := by
    obtain ⟨vs, h1, h2, h3, h4⟩ := r.mem.ent k _ hk
    simp only [RD]
    rcases h1 with ⟨a0, e0, hn, _⟩ | ⟨g, cap, cur, e0, hc0, hg, hnc, hcm, hcs, htk⟩
    · have hx : xs = [] := List.eq_nil_of_length_eq_zero hn
      subst hx
      exact ⟨a0, 0, by rw [e0]; rfl, by simp, by simp, by simp, .inl rfl⟩
    · have hbk : blk (ι k) = some g := by rw [e0]; simp [blk]; omega
      have hg' : w.heap[g]? = some (.cells cur e (0, 0)) := hg
      refine ⟨some ⟨g, 0, none⟩, cap, e0, hnc, hb, h4, .inr ⟨g, 0, rfl, fun hm => ?_, ⟨_, _, _, hg'⟩, RCs_of_flat h3 (RC_of_list (RDs_keeps keeps _ _ h2) fun j v hj => ?_)⟩⟩
      · rcases hm with hz | ⟨j, hj, hjb⟩
        · exact (r.mem.own k g hkd hbk).1 hz
        · have hj' := (hdom j).1 hj
          exact hj'.1 (r.mem.apart j k g hj'.2 hkd hjb hbk)
      · rw [cell_of_row w g _ cur e (0, 0) hg']
        rw [← htk, List.getElem?_take] at hj
        split at hj
        · simpa using hj
        · cases hj
  refine ⟨ι, Z, K, Y, hZE, ⟨fun j e' hj => ?_, fun j b hj hjb => r.mem.own j b ((hdom j).1 hj).2 hjb, fun j j' b hj hj' => r.mem.apart j j' b ((hdom j).1 hj).2 ((hdom j').1 hj').2, r.mem.Zlt, r.mem.Klt, r.mem.Jw, r.mem.Jc⟩, r.size,
    fun j => RA_fz (C := cx Z h ι w) (C' := cx Z (fzH k (.sl sz bts xs) h) ι w) keeps hd hX _ _ (r.slot j), r.ds⟩
  have hj0 : j ≠ k := ((hdom j).1 (show (fzH k (.sl sz bts xs) h j).isSome = true by rw [show fzH k (.sl sz bts xs) h j = some e' from hj]; rfl)).1
  have hbq : Nat.beq j k = false := Bool.eq_false_iff.2 fun h' => hj0 (Nat.eq_of_beq_eq_true h')
  have hj' : (match h j with | some e => some (fzE k (.sl sz bts xs) e) | none => none) = some e' := by
    have : fzH k (.sl sz bts xs) h j = some e' := hj
    unfold fzH at this
    rw [hbq] at this
    exact this
  split at hj'
  · rename_i e0 he0
    cases hj'
    have ho := r.mem.ent j e0 he0
    cases e0 with
    | box t cs =>
      obtain ⟨b, vs, h1, h2, h3⟩ := ho
      exact ⟨b, vs, h1, h2, RAs_fz (C := cx Z h ι w) (C' := cx Z (fzH k (.sl sz bts xs) h) ι w) keeps hd hX _ _ h3⟩
    | row e2 sz2 xs2 =>
      obtain ⟨vs, h1, h2, h3⟩ := ho
      exact ⟨vs, h1, RDs_keeps keeps _ _ h2, h3⟩
    | ghost cs vs => exact ⟨ho.1, RAs_fz (C := cx Z h ι w) (C' := cx Z (fzH k (.sl sz bts xs) h) ι w) keeps hd hX _ _ ho.2⟩
    | rowA e2 sz2 n2 cs =>
      obtain ⟨vs, h1, h2, h3⟩ := ho
      exact ⟨vs, h1, RAs_fz (C := cx Z h ι w) (C' := cx Z (fzH k (.sl sz bts xs) h) ι w) keeps hd hX _ _ h2, h3⟩
  · cases hj'
end Go.AL
/- AL, part 12: regions that draw their order. A head of quiet operations, in whatever order; behind it a tail in the text's order. -/
namespace Go.AL
set_option linter.unusedVariables false
set_option linter.unusedSimpArgs false

def pu (s : Slots) (dst : Option Tmp) (x : AV) : Slots :=
  match dst with
  | none => s
  | some d => sset s d x
def dstOk (N : Nat) (dst : Option Tmp) : Bool :=
  match dst with
  | none => true
  | some d => Nat.ble (d + 1) N
theorem pu_of_putS {N : Nat} {s s' : Slots} {dst : Option Tmp} {x : AV} (h : putS N s dst x = some s') : dstOk N dst = true ∧ s' = pu s dst x := by
  unfold putS at h
  cases dst with
  | none => cases h; exact ⟨rfl, rfl⟩
  | some d =>
    simp only at h
    cases hb : Nat.ble (d + 1) N with
    | false => rw [hb] at h; cases h
    | true => rw [hb] at h; cases h; exact ⟨hb, rfl⟩
theorem sset_comm (s : Slots) {d d' : Nat} (h : d ≠ d') (x y : AV) : sset (sset s d x) d' y = sset (sset s d' y) d x := by
  funext i
  by_cases h1 : i = d'
  · subst h1; rw [sset_same, sset_ne _ _ (Ne.symm h), sset_same]
  · rw [sset_ne _ _ h1]
    by_cases h2 : i = d
    · subst h2; rw [sset_same, sset_same]
    · rw [sset_ne _ _ h2, sset_ne _ _ h2, sset_ne _ _ h1]
theorem pu_comm (s : Slots) {x y : Option Tmp} (u v : AV) (h : ∀ d, x = some d → y ≠ some d) : pu (pu s x u) y v = pu (pu s y v) x u := by
  cases x with
  | none => rfl
  | some d =>
    cases y with
    | none => rfl
    | some d' => exact sset_comm s (fun e => h d rfl (by rw [e])) u v
theorem pu_look (s : Slots) {dst : Option Tmp} (u : AV) {t : Nat} (h : ∀ d, dst = some d → d ≠ t) : pu s dst u t = s t := by
  cases dst with
  | none => rfl
  | some d => exact sset_ne _ _ (Ne.symm (h d rfl))

/-- The operation, wherever what it looks at is as told: it gives R and does no more than let memory grow. -/
def LY (E : Env) (ops : Array Oper) (J : Jt) (h : Heap) (o : Oper) (s : Slots) (R : AV) : Prop :=
  ∀ Z K Y ι (a : Act) w, Mem Z K (J K Y Z) h ι w → (∀ t ∈ o.looksAt ops, RA (cx Z h ι w) (s t) (a.tmps.getD t undef)) → ∀ (K' : Act → World → Prop) (Q' : Exit → Act → World → Prop),
    (∀ v w', Grew w w' → RA (cx Z h ι w') R v → K' (a.put o.dst v) w') → o.wpIn E.F E.n E.P a w K' Q'
def YA (E : Env) (ops : List Oper) (J : Jt) (h : Heap) (o : Oper) (s : Slots) (x : AV) : Prop :=
  (awant ops o s = some true ∧ LY E ops.toArray J h o s x) ∨ (awant ops o s = some false ∧ x = .tup [])

theorem awant_same {ops : List Oper} {o : Oper} {s s' : Slots} (h : ∀ t ∈ o.looksAt ops.toArray, s' t = s t) : awant ops o s' = awant ops o s := by
  unfold awant
  cases hg : o.guard with
  | none => rfl
  | some p =>
    obtain ⟨j, b⟩ := p
    simp only
    cases hj : ops[j]? with
    | none => rfl
    | some g =>
      simp only
      cases hd : g.dst with
      | none => rfl
      | some t =>
        simp only
        have : s' t = s t := h t (by simp [Oper.looksAt, hg, hj, hd])
        rw [this]
theorem YA_same {E : Env} {ops : List Oper} {J : Jt} {h : Heap} {o : Oper} {s s' : Slots} {x : AV} (hs : ∀ t ∈ o.looksAt ops.toArray, s' t = s t) (hy : YA E ops J h o s x) : YA E ops J h o s' x := by
  rcases hy with ⟨h1, h2⟩ | ⟨h1, h2⟩
  · exact .inl ⟨by rw [awant_same hs]; exact h1, fun Z K Y ι a w m hl => h2 Z K Y ι a w m fun t ht => by rw [← hs t ht]; exact hl t ht⟩
  · exact .inr ⟨by rw [awant_same hs]; exact h1, h2⟩

section
variable (E : Env) (ops : List Oper) (J : Jt) (h : Heap)
/-- Operation number i comes up. -/
def qA (i : Nat) (K : Slots → Prop) (s : Slots) : Prop :=
  match ops[i]? with
  | none => K s
  | some o => ∃ x, dstOk E.N o.dst = true ∧ YA E ops J h o s x ∧ K (pu s o.dst x)
/-- The head, in whatever order. -/
def anyL (n : Nat) (L : Array Bool → Slots → Prop) : Nat → Array Bool → Slots → Prop
  | 0, listed, s => L listed s
  | f + 1, listed, s => Region.ready .any ops.toArray listed ≠ [] ∧ ∀ i ∈ Region.ready .any ops.toArray listed, i < n ∧ qA E ops J h i (anyL n L f (listed.setIfInBounds i true)) s
/-- The head in the text's order. -/
def QW (K : Slots → Prop) : List Oper → Slots → Prop
  | [], s => K s
  | o :: rest, s => ∃ x, dstOk E.N o.dst = true ∧ YA E ops J h o s x ∧ QW K rest (pu s o.dst x)
end

section
variable {E : Env} {ops : List Oper} {J : Jt} {h : Heap}
theorem qA_mono {i : Nat} {K K' : Slots → Prop} {s : Slots} (hk : ∀ s, K s → K' s) (hq : qA E ops J h i K s) : qA E ops J h i K' s := by
  unfold qA at *
  split
  · rename_i ho; simp only [ho] at hq; exact hk _ hq
  · rename_i o ho; simp only [ho] at hq; obtain ⟨x, h1, h2, h3⟩ := hq; exact ⟨x, h1, h2, hk _ h3⟩

theorem qA_put {j : Nat} {oi oj : Oper} {v : AV} (hj : ops[j]? = some oj) (hap : oi.apart ops.toArray oj = true) {K : Slots → Prop} {s : Slots} (hy : YA E ops J h oi s v) (hq : qA E ops J h j K (pu s oi.dst v)) :
    qA E ops J h j (fun s' => YA E ops J h oi s' v ∧ K (pu s' oi.dst v)) s := by
  obtain ⟨h1, h2, h3⟩ := Oper.apart_spec hap
  unfold qA at *
  simp only [hj] at *
  obtain ⟨u, g1, g2, g3⟩ := hq
  refine ⟨u, g1, YA_same (s' := s) (s := pu s oi.dst v) (fun t ht => (pu_look s v fun d hd e => h1 d hd (e ▸ ht)).symm) g2, YA_same (s' := pu s oj.dst u) (s := s) (fun t ht => pu_look s u fun d hd e => h3 d hd (e ▸ ht)) hy, ?_⟩
  rw [← pu_comm s v u h2]
  exact g3

theorem anyL_first {n i : Nat} {oi : Oper} {v : AV} {L : Array Bool → Slots → Prop} (hi : ops[i]? = some oi) (hs : Region.sinkB .any ops.toArray n = true) (hc : Region.chainB .any ops.toArray n = true) (hn : n < ops.toArray.size) (hin : i < n) (hdo : dstOk E.N oi.dst = true)
    (hdone : ∀ listed s, L listed s → ∀ j ∈ Region.ready .any ops.toArray listed, n ≤ j) :
    ∀ (f : Nat) (listed : Array Bool) (s : Slots), HeadInv .any ops.toArray n listed →
      (∀ j oj, ops.toArray[j]? = some oj → j ≠ i → listed.getD j true = false → (∀ e ∈ oj.after, Region.binds .any e = true → e.on ≠ i) → oi.apart ops.toArray oj = true) →
      i ∈ Region.ready .any ops.toArray listed → YA E ops J h oi s v →
      anyL E ops J h n L f (listed.setIfInBounds i true) (pu s oi.dst v) → anyL E ops J h n L (f + 1) listed s := by
  intro f
  induction f with
  | zero =>
    intro listed s inv _ hr hy H
    have hun := (mem_ready.1 hr).1
    refine ⟨fun h => (by rw [h] at hr; cases hr), fun j hj => ?_⟩
    have hjn : j < n := by
      rcases Nat.lt_or_ge j n with h | h
      · exact h
      · exact absurd hj (tail_waits hs hc hn inv _ i rfl hin hun j h)
    refine ⟨hjn, ?_⟩
    by_cases hji : j = i
    · subst hji
      unfold qA
      simp only [hi]
      exact ⟨v, hdo, hy, H⟩
    · have := hdone _ _ H j (ready_mono hj hji)
      omega
  | succ f ih =>
    intro listed s inv hfree hr hy H
    have hun := (mem_ready.1 hr).1
    refine ⟨fun h => (by rw [h] at hr; cases hr), fun j hj => ?_⟩
    have hjn : j < n := by
      rcases Nat.lt_or_ge j n with h | h
      · exact h
      · exact absurd hj (tail_waits hs hc hn inv _ i rfl hin hun j h)
    refine ⟨hjn, ?_⟩
    by_cases hji : j = i
    · subst hji
      unfold qA
      simp only [hi]
      exact ⟨v, hdo, hy, H⟩
    · have h1 := (H.2 j (ready_mono hj hji)).2
      obtain ⟨hjun, oj, hoj, hall⟩ := mem_ready.1 hj
      have hoj' : ops[j]? = some oj := by simpa using hoj
      have hnot : ∀ e ∈ oj.after, Region.binds .any e = true → e.on ≠ i := fun e he hb heq => by
        have h1 := hall e he hb
        rw [heq, getD_both hun] at h1
        cases h1
      have h2 := qA_put hoj' (hfree j oj hoj hji hjun hnot) hy h1
      have hfree' : ∀ k ok, ops.toArray[k]? = some ok → k ≠ i → (listed.setIfInBounds j true).getD k true = false →
          (∀ e ∈ ok.after, Region.binds .any e = true → e.on ≠ i) → oi.apart ops.toArray ok = true := fun k ok hk hki hun hno => by
        refine hfree k ok hk hki ?_ hno
        by_cases hjk : j = k
        · subst hjk; exact hjun
        · rw [getD_set_ne true hjk] at hun; exact hun
      refine qA_mono (fun s' h3 => ih (listed.setIfInBounds j true) s' (inv.set hj hjn) hfree' (ready_mono hr (Ne.symm hji)) h3.1 ?_) h2
      rw [Array.setIfInBounds_comm _ _ hji]
      exact h3.2

theorem anyL_lex {n g : Nat} {K : Slots → Prop} (hs : Region.sinkB .any ops.toArray n = true) (hc : Region.chainB .any ops.toArray n = true) (hn : n < ops.toArray.size) :
    ∀ (l : List Oper) (k : Nat) (listed : Array Bool) (s : Slots), (∀ j, j < l.length → l[j]? = ops[k + j]?) → k + l.length = n → HeadInv .any ops.toArray n listed →
    Region.lexHead .any ops.toArray g l.length k listed = true → QW E ops J h K l s →
    anyL E ops J h n (fun listed' s' => Region.seqB .any ops.toArray g n listed' = true ∧ K s') l.length listed s
  | [], k, listed, s, _, hk, _, hB, hq => by
    have : k = n := by simpa using hk
    subst this
    exact ⟨by simpa [Region.lexHead] using hB, hq⟩
  | o :: l, k, listed, s, hl, hk, inv, hB, hq => by
    have h0 : ops[k]? = some o := by simpa using (hl 0 (by simp)).symm
    simp only [List.length_cons, Region.lexHead, Bool.and_eq_true] at hB
    obtain ⟨⟨hr, hf⟩, hB'⟩ := hB
    have hkn : k < n := by simp only [List.length_cons] at hk; omega
    have hr' : k ∈ Region.ready .any ops.toArray listed := by simpa using hr
    obtain ⟨x, g1, g2, g3⟩ := hq
    exact anyL_first h0 hs hc hn hkn g1 (fun listed' s' hL => seqB_ready hL.1) l.length listed s inv (Region.free_spec (by simpa using h0) hf) hr' g2
      (anyL_lex hs hc hn l (k + 1) _ _ (fun j hj => by have := hl (j + 1) (by simp; omega); simpa [Nat.add_assoc, Nat.add_comm 1 j] using this) (by simp only [List.length_cons] at hk; omega) (inv.set hr' hkn) hB' g3)

/-- On the machine. -/
theorem wpOpIn_of_qA (hE : E.Good) {i : Nat} {K : Slots → Prop} {K' : Act → World → Prop} {Q' : Exit → Act → World → Prop} {s : Slots} {ι : Nat → Value} {a : Act} {w : World} (r : RelS E ⟨J, s, h⟩ ι a w)
    (hk : ∀ s' a' w', RelS E ⟨J, s', h⟩ ι a' w' → K s' → K' a' w') (hq : qA E ops J h i K s) : wpOpIn E.F E.n E.P ops.toArray Q' i K' a w := by
  unfold qA at hq
  unfold wpOpIn
  simp only [List.getElem?_toArray]
  split
  · rename_i ho; simp only [ho] at hq; exact hk _ _ _ r hq
  · rename_i o ho
    simp only [ho] at hq
    obtain ⟨x, h1, h2, h3⟩ := hq
    have hwant := fun {b} (hw : awant ops o s = some b) => awant_ok (st := ⟨J, s, h⟩) r hw
    obtain ⟨Z, K, Y, hZE, r⟩ := r
    have put : ∀ v w', Grew w w' → RA (cx Z h ι w') x v → RelS E ⟨J, pu s o.dst x, h⟩ ι (a.put o.dst v) w' := by
      intro v w' hg hv
      cases hd : o.dst with
      | none => exact ⟨Z, K, Y, hZE, Rel.put_none r hg v⟩
      | some d => exact ⟨Z, K, Y, hZE, Rel.put r hg (by rw [hd] at h1; exact h1) hv⟩
    rcases h2 with ⟨hw, hy⟩ | ⟨hw, rfl⟩
    · rw [if_pos (hwant hw)]
      exact hy Z K Y ι a w r.mem (fun t _ => r.slot t) K' Q' fun v w' hg hv => hk _ _ _ (put v w' hg hv) h3
    · rw [if_neg (by rw [hwant hw]; simp)]
      exact ⟨fun f _ => hE.wide.fn f, hk _ _ _ (put undef w (Grew.refl w) (by simp [RA, RAs, undef])) h3⟩

theorem wpAnyIn_of_head (hE : E.Good) {n g : Nat} {L : Array Bool → Slots → Prop} {Q' : Exit → Act → World → Prop} {ι : Nat → Value} (hL : ∀ listed s a w, RelS E ⟨J, s, h⟩ ι a w → L listed s → wpAnyIn E.F E.n E.P .any ops.toArray Q' g listed a w) :
    ∀ (f : Nat) (listed : Array Bool) (s : Slots) (a : Act) (w : World), RelS E ⟨J, s, h⟩ ι a w → anyL E ops J h n L f listed s → wpAnyIn E.F E.n E.P .any ops.toArray Q' (f + g) listed a w
  | 0, listed, s, a, w, r, hh => by rw [Nat.zero_add]; exact hL _ _ _ _ r hh
  | f + 1, listed, s, a, w, r, hh => by
    rw [show f + 1 + g = (f + g) + 1 by omega]
    exact ⟨fun h0 => absurd h0 hh.1, fun i hi => wpOpIn_of_qA hE r (fun s' a' w' r' hs' => wpAnyIn_of_head hE hL f _ s' a' w' r' hs') (hh.2 i hi).2⟩

theorem wpAnyIn_of_seq {F : Fence} {n : Nat} {P : Program} {ops : Array Oper} {Q' : Exit → Act → World → Prop} : ∀ (l : List Oper) (k : Nat) (listed : Array Bool) (a : Act) (w : World), (∀ j, l[j]? = ops[k + j]?) →
    Region.seqB .any ops l.length k listed = true → wpListIn F n P ops Q' l a w → wpAnyIn F n P .any ops Q' l.length listed a w
  | [], _, _, _, _, _, hB, h => ⟨by simpa [Region.seqB] using hB, h⟩
  | o :: l, k, listed, a, w, hl, hB, h => by
    have h0 : ops[k]? = some o := by simpa using (hl 0).symm
    simp only [List.length_cons, Region.seqB, Bool.and_eq_true, decide_eq_true_eq] at hB
    refine ⟨fun h1 => (by rw [hB.1] at h1; cases h1), fun i hi => ?_⟩
    rw [hB.1] at hi
    have hik : i = k := by simpa using hi
    subst hik
    have hw : wpOpIn F n P ops Q' i (wpListIn F n P ops Q' l) a w := by unfold wpOpIn; simp only [h0]; exact h
    exact wpOpIn_mono (fun a' w' h' => wpAnyIn_of_seq l (i + 1) _ a' w' (fun j => by have := hl (j + 1); simpa [Nat.add_assoc, Nat.add_comm 1 j] using this) hB.2 h') hw

/-- **A region that draws: n quiet operations, then the rest in the text's order.** -/
theorem CW_draw (hE : E.Good) (n : Nat) {id : Nat} {Q : Exit → St → Prop} {st : St} (hB : Region.lexTailB .any ops.toArray n = true)
    (hq : QW E ops st.J st.h (fun s => OW E ops n Q ⟨st.J, s, st.h⟩) (ops.take n) st.s) : CW E (.region id ops.toArray true) Q st := fun ι a w r => by
  simp only [Region.lexTailB, Bool.and_eq_true, decide_eq_true_eq] at hB
  obtain ⟨⟨⟨⟨hsel, hn⟩, hs⟩, hc⟩, hlex⟩ := hB
  have hn' : n < ops.length := by simpa using hn
  have htl : (ops.take n).length = n := by simp; omega
  have hdl : (ops.drop n).length = ops.toArray.size - n := by simp
  have inv0 : HeadInv .any ops.toArray n (Array.replicate ops.toArray.size false) :=
    ⟨by simp, fun j oj _ hl => (by rw [getD_replicate_false] at hl; cases hl), fun t _ ht => getD_in (by simpa using ht) (getD_replicate_false _ _)⟩
  have H := anyL_lex (E := E) (J := st.J) (h := st.h) (g := ops.toArray.size - n) hs hc hn (ops.take n) 0 _ st.s (fun j hj => by
    have hj' : j < n := by rw [htl] at hj; exact hj
    simp [hj']) (by simpa using htl) inv0 (by rw [htl]; exact hlex) hq
  have r1 : RelS E ⟨st.J, st.s, st.h⟩ ι a { w with drawn := w.drawn + 1 } := by
    obtain ⟨Z, K, Y, hZE, r⟩ := r
    exact ⟨Z, K, Y, hZE, r.mem.grew (Grew.drew w), r.size, fun i => RA_keeps (keepsC_grew (K := K) (J := st.J K Y Z) (Grew.drew w)) _ _ (r.slot i), r.ds.grew (Grew.drew w)⟩
  refine wpIn_region_any hE.ok.mixed ?_
  have hh := wpAnyIn_of_head (Q' := Post E Q) hE (g := ops.toArray.size - n) (ι := ι) (fun listed s a' w' r' hL => by
    have := wpAnyIn_of_seq (Q' := Post E Q) (ops.drop n) n listed a' w' (fun j => by simp [List.getElem?_drop]) (by rw [hdl]; exact hL.1) (hL.2 ι a' w' r')
    rwa [hdl] at this) _ _ _ a _ r1 H
  rw [htl] at hh
  rwa [show n + (ops.toArray.size - n) = ops.toArray.size by simp; omega] at hh

/-! ### The head's walk -/
/-- From operation number i up to (not with) number n. -/
def HW (E : Env) (ops : List Oper) (J : Jt) (h : Heap) (n i : Nat) (K : Slots → Prop) (s : Slots) : Prop := QW E ops J h K ((ops.take n).drop i) s
theorem HW_end {n : Nat} {K : Slots → Prop} {s : Slots} (hk : K s) : HW E ops J h n n K s := by
  unfold HW
  rw [List.drop_eq_nil_of_le (by simp; omega)]
  exact hk
theorem CW_drawn (hE : E.Good) (n : Nat) {id : Nat} {Q : Exit → St → Prop} {st : St} (hB : Region.lexTailB .any ops.toArray n = true)
    (hq : HW E ops st.J st.h n 0 (fun s => OW E ops n Q ⟨st.J, s, st.h⟩) st.s) : CW E (.region id ops.toArray true) Q st := CW_draw hE n hB hq

theorem HW_cons {n i : Nat} {K : Slots → Prop} {s : Slots} {o : Oper} (ho : ops[i]? = some o) (hi : Nat.ble (i + 1) n = true) {x : AV} (hd : dstOk E.N o.dst = true) (hy : YA E ops J h o s x) (hk : HW E ops J h n (i + 1) K (pu s o.dst x)) : HW E ops J h n i K s := by
  unfold HW at *
  have hi' := Nat.le_of_ble_eq_true hi
  obtain ⟨hlt, rfl⟩ := List.getElem?_eq_some_iff.1 ho
  have hlt2 : i < (ops.take n).length := by simp; omega
  rw [List.drop_eq_getElem_cons hlt2, List.getElem_take]
  exact ⟨x, hd, hy, hk⟩

theorem LY_of_gives (hE : E.Good) {o : Oper} (hdf : ∀ c, o.op ≠ .defer c) {s : Slots} {R : AV}
    (hg : ∀ Z K Y ι (a : Act) w, Mem Z K (J K Y Z) h ι w → (∀ t ∈ o.looksAt ops.toArray, RA (cx Z h ι w) (s t) (a.tmps.getD t undef)) → OGives E.P Z h ι (execOp a.eval o) w R) : LY E ops.toArray J h o s R := by
  intro Z K Y ι a w m hl K' Q' hk
  refine ⟨fun f _ => hE.wide.fn f, ?_⟩
  rw [Oper.semAt_plain E.F _ _ hdf]
  obtain ⟨v, w', hr, hgr, hv⟩ := hg Z K Y ι a w m hl
  rw [hr]
  exact hk v w' hgr hv

theorem look_ev {o : Oper} {s : Slots} {C : Cx} {a : Act} (hl : ∀ t ∈ o.looksAt ops.toArray, RA C (s t) (a.tmps.getD t undef)) : ∀ x ∈ o.op.operands.toList, RA C (ev s x) (a.eval x) := fun x hx =>
  RA_ev x fun t e => hl t (by
    subst e
    simp only [Oper.looksAt, List.mem_append, List.mem_filterMap]
    exact .inl ⟨_, hx, rfl⟩)

/-- Plain operations of the head, m of them. -/
theorem HW_run (hE : E.Good) (m : Nat) {n i : Nat} {K : Slots → Prop} {s s' : Slots} (hp : runPure E ops h m i s = some s') (hi : Nat.ble (i + m) n = true) (hk : HW E ops J h n (i + m) K s') : HW E ops J h n i K s := by
  induction m generalizing i s with
  | zero => simp only [runPure, Option.some.injEq] at hp; subst hp; exact hk
  | succ m ih =>
    have hi' := Nat.le_of_ble_eq_true hi
    have hi1 : Nat.ble (i + 1) n = true := Nat.ble_eq_true_of_le (by omega)
    have hi2 : Nat.ble (i + 1 + m) n = true := Nat.ble_eq_true_of_le (by omega)
    simp only [runPure] at hp
    split at hp
    · rename_i o ho
      split at hp
      · rename_i hw
        split at hp
        · rename_i R hR
          split at hp
          · rename_i s1 hs1
            obtain ⟨hd, rfl⟩ := pu_of_putS hs1
            refine HW_cons ho hi1 hd (.inl ⟨hw, LY_of_gives hE (stepPure_notDefer hR) fun Z K Y ι a w m hl => stepPure_ok (K := K) (J := J K Y Z) hE.ok.T m o (look_ev hl) hR⟩) (ih hp hi2 ?_)
            rwa [show i + 1 + m = i + (m + 1) by omega]
          · cases hp
        · cases hp
      · rename_i hw
        split at hp
        · rename_i s1 hs1
          obtain ⟨hd, rfl⟩ := pu_of_putS hs1
          refine HW_cons ho hi1 hd (.inr ⟨hw, rfl⟩) (ih hp hi2 ?_)
          rwa [show i + 1 + m = i + (m + 1) by omega]
        · cases hp
      · cases hp
    · cases hp

/-- A call, wherever what it looks at is as told. -/
theorem LY_call (hE : E.Good) {f : Nat} {L : List AV} {R : AV} (hc : Does E.P f L noHeap R) {s : Slots} {o : Oper} {fo : Operand} {args : Array Operand} {ts : Array TypeId} (hop : o.op = .call ⟨.value fo, args, ts⟩)
    (hL : callArgs s fo args.toList = some (f, L)) (hkf : kfs L = true) (hR : kf R = true) : LY E ops.toArray J h o s R := by
  intro Z K Y ι a w m hl K' Q' hk'
  refine ⟨fun f _ => hE.wide.fn f, ?_⟩
  rw [Oper.semAt_plain E.F _ _ (by rw [hop]; intro c hc; cases hc)]
  have hevs := look_ev (ops := ops) (o := o) (s := s) (C := cx Z h ι w) (a := a) hl
  have hfo : RA (cx Z h ι w) (ev s fo) (a.eval fo) := hevs fo (by rw [hop]; simp [Op.operands, Call.operands])
  have hargs : RAs (cx Z h ι w) (args.toList.map (ev s)) (args.toList.map a.eval) := RAs_evs fun x hx => hevs x (by rw [hop]; simp [Op.operands, Call.operands]; exact .inr (by simpa using hx))
  obtain ⟨vf, vc, he, hv⟩ : ∃ vf vc, a.eval fo = .func (.func f) vf vc ∧ RAs (cx Z h ι w) L (vf ++ args.map a.eval ++ vc).toList := by
    unfold callArgs at hL
    split at hL
    · rename_i f' first cap hee
      cases hL
      rw [hee] at hfo
      simp only [RA, RD] at hfo
      obtain ⟨vf, vc, e, h1, h2⟩ := hfo
      exact ⟨vf, vc, e, by simpa using RAs_append (RAs_map_d.2 h1) (RAs_append hargs (RAs_map_d.2 h2))⟩
    · rename_i f' first cap hee
      cases hL
      rw [hee] at hfo
      simp only [RA] at hfo
      obtain ⟨vf, vc, e, h1, h2⟩ := hfo
      exact ⟨vf, vc, e, by simpa using RAs_append h1 (RAs_append hargs h2)⟩
    · cases hL
  obtain ⟨dst, op, ty, pos, af, gd⟩ := o
  simp only at hop
  subst hop
  rw [exec_call he hc.1]
  simp only [Oper.uponIn]
  refine ⟨fun hx => (by rw [hE.wide.depth] at hx; cases hx), ?_⟩
  have hZ : ∀ b, (cx Z h ι w).M b → b < w.heap.size := fun b hb => m.Mlt hb
  have hv' : RAs (cx (cx Z h ι w).M noHeap noι w) L (vf ++ args.map a.eval ++ vc).toList :=
    RAs_kf (C := cx Z h ι w) (C' := cx (cx Z h ι w).M noHeap noι w) ⟨fun _ _ _ _ hh => hh, fun _ _ hh => hh, fun b _ hm hm' => by rw [M_of] at hm'; exact hm hm'⟩ _ _ hkf hv
  have := hc.2 (E.n - 1) (cx Z h ι w).M w _ hZ hv'
  simp only [Array.toArray_toList] at this
  refine (hE.wide.calls this).mono fun e w' ⟨v, ι', he', hg, hRv, _⟩ => ?_
  subst he'
  exact hk' v w' hg (RA_kf (C := cx (cx Z h ι w).M noHeap ι' w') (C' := cx Z h ι w') ⟨fun _ _ _ _ hh => hh, fun _ _ hh => hh, fun b _ hm hm' => hm (.inl hm')⟩ _ _ hR hRv)
/-- A call in the head. -/
theorem HW_call (hE : E.Good) {f : Nat} {L : List AV} {R : AV} (hc : Does E.P f L noHeap R) {n i : Nat} {K : Slots → Prop} {s s' : Slots} {o : Oper} {fo : Operand} {args : Array Operand} {ts : Array TypeId} (ho : ops[i]? = some o) (hi : Nat.ble (i + 1) n = true) (hop : o.op = .call ⟨.value fo, args, ts⟩)
    (hw : awant ops o s = some true) (hL : callArgs s fo args.toList = some (f, L)) (hkf : kfs L = true) (hR : kf R = true) (hs : putS E.N s o.dst R = some s') (hk : HW E ops J h n (i + 1) K s') : HW E ops J h n i K s := by
  obtain ⟨hd, rfl⟩ := pu_of_putS hs
  exact HW_cons ho hi hd (.inl ⟨hw, LY_call hE hc hop hL hkf hR⟩) hk
end
end Go.AL
/- AL, part 13: operations told by what they look at: they serve in a walk and in a head. -/
namespace Go.AL
set_option linter.unusedVariables false
set_option linter.unusedSimpArgs false

/-- The operation gives R wherever what it looks at is as told. -/
def Loc (E : Env) (ops : List Oper) (J : Jt) (h : Heap) (o : Oper) (s : Slots) (R : AV) : Prop :=
  (∀ c, o.op ≠ .defer c) ∧ ∀ Z K Y ι (a : Act) w, Mem Z K (J K Y Z) h ι w → (∀ x ∈ o.op.operands.toList, RA (cx Z h ι w) (ev s x) (a.eval x)) → OGives E.P Z h ι (execOp a.eval o) w R

section
variable {E : Env} {ops : List Oper} {Q : Exit → St → Prop} {st : St} {i : Nat} {J : Jt} {h : Heap} {s : Slots} {o : Oper}
theorem OW_loc (hE : E.Good) {R : AV} (hl : Loc E ops st.J st.h o st.s R) (ho : ops[i]? = some o) (hw : awant ops o st.s = some true) {s' : Slots} (hs : putS E.N st.s o.dst R = some s') (hk : OW E ops (i + 1) Q { st with s := s' }) : OW E ops i Q st :=
  OW_gives ho hE.ok hw hl.1 (fun Z K Y ι a w r => hl.2 Z K Y ι a w r.mem fun x _ => RA_ev x fun t _ => r.slot t) hs hk
theorem HW_loc (hE : E.Good) {R : AV} {n : Nat} {K : Slots → Prop} (hl : Loc E ops J h o s R) (ho : ops[i]? = some o) (hi : Nat.ble (i + 1) n = true) (hw : awant ops o s = some true) {s' : Slots} (hs : putS E.N s o.dst R = some s') (hk : HW E ops J h n (i + 1) K s') : HW E ops J h n i K s := by
  obtain ⟨hd, rfl⟩ := pu_of_putS hs
  exact HW_cons ho hi hd (.inl ⟨hw, LY_of_gives hE hl.1 fun Z K Y ι a w m hlk => hl.2 Z K Y ι a w m (look_ev hlk)⟩) hk

theorem loc_indexAddr (hE : E.Good) {t : TypeId} {xo io : Operand} (hop : o.op = .indexAddr t xo io)
    {e : TypeId} {z1 z2 : Nat} {z3 : List Value} (ht : E.T t = some ⟨.slice e, z1, z2, z3⟩) {sz bts : Nat} {k : TK} {z5 : Nat} {z6 : List Value} (hte : E.T e = some ⟨k, sz, z5, z6⟩)
    {xs : List (List D)} {ik : IntKind} {n : Int} (hx : ev s xo = .d (.sl sz bts xs)) (hi : ev s io = .d (.lit (.int ik n))) (h0 : 0 ≤ n) {x : List D} (hn : xs[n.toNat]? = some x) : Loc E ops J h o s (.d (.iptr x)) := by
  refine ⟨(by rw [hop]; intro c hc; cases hc), fun Z K Y ι a w m hl => ?_⟩
  obtain ⟨dst, op, ty, pos, af, gd⟩ := o
  simp only at hop
  subst hop
  have h1 := hl xo (by simp [Op.operands])
  have h2 := hl io (by simp [Op.operands])
  rw [hx] at h1
  rw [hi] at h2
  obtain ⟨e2, _⟩ := RA_lit.1 h2
  simp only [RA, RD] at h1
  obtain ⟨ad, cap, e1, _, _, _, hc⟩ := h1
  obtain ⟨hlt, hxe⟩ := List.getElem?_eq_some_iff.1 hn
  rcases hc with hc | ⟨b, off, rfl, hm, hb, hc⟩
  · subst hc; simp at hlt
  · obtain ⟨hlen, hr⟩ := RCs_get hc hn
    have hu := (hE.ok.T t _ ht).2
    simp only [TK.fits] at hu
    have hsz := run_size hE.ok.T hte w
    have hlt' : n < xs.length := by omega
    refine ⟨.pointer (some ⟨b, off + n.toNat * sz, none⟩), w, ?_, Grew.refl w, ?_⟩
    · simp [execOp, Instr.indexAt, e1, e2, asIntOf, run_underlying hu, h0, hlt', hsz]
      simp [Addr.add]
    · simp only [RA, RD]
      exact ⟨b, _, rfl, hm, hb, hr⟩

theorem loc_index (hE : E.Good) {t : TypeId} {xo io : Operand} (hop : o.op = .index t xo io)
    {z1 z2 : Nat} {z3 : List Value} (ht : E.T t = some ⟨.str, z1, z2, z3⟩) {b : ByteArray} {ik : IntKind} {n : Int} (hx : ev s xo = .d (.lit (.string b))) (hi : ev s io = .d (.lit (.int ik n))) (h0 : 0 ≤ n) {x : UInt8} (hn : b.data.toList[n.toNat]? = some x) :
    Loc E ops J h o s (.d (.lit (.int .u8 x.toNat))) := by
  refine ⟨(by rw [hop]; intro c hc; cases hc), fun Z K Y ι a w m hl => ?_⟩
  obtain ⟨dst, op, ty, pos, af, gd⟩ := o
  simp only at hop
  subst hop
  have h1 := hl xo (by simp [Op.operands])
  have h2 := hl io (by simp [Op.operands])
  rw [hx] at h1
  rw [hi] at h2
  obtain ⟨e2, _⟩ := RA_lit.1 h2
  obtain ⟨e1, _⟩ := RA_lit.1 h1
  have hu := (hE.ok.T t _ ht).2
  simp only [TK.fits] at hu
  have hb : b[n.toNat]? = some x := by
    obtain ⟨hlt, hxe⟩ := List.getElem?_eq_some_iff.1 hn
    have hlt' : n.toNat < b.size := by simpa using hlt
    rw [getElem?_pos b n.toNat hlt']
    simp only [Option.some.injEq]
    rw [← hxe]
    simp [ByteArray.getElem_eq_getElem_data]
  refine ⟨.int .u8 x.toNat, w, by simp [execOp, Instr.index, e1, e2, asIntOf, run_underlying hu, h0, hb], Grew.refl w, RA_lit_mk ?_⟩
  have := x.toNat_lt
  simp only [okLit]
  constructor <;> simp [IntKind.min, IntKind.max, IntKind.signed, IntKind.bits] <;> omega

/-- '==', '!=' of structs, as a law of their type says. -/
def EqLaw (P : Program) (t : TypeId) (X Y : List AV) (r : Bool) : Prop :=
  ∀ (C : Cx) (xs ys : Array Value) (w : World) (xo yo : Operand), RAs C X xs.toList → RAs C Y ys.toList →
    (do eqGuard .eql t xo yo (.agg xs) (.agg ys); binOp .eql t (.agg xs) (.agg ys) : Sem Value).run P w = .ok (.bool r) w ∧
    (do eqGuard .neq t xo yo (.agg xs) (.agg ys); binOp .neq t (.agg xs) (.agg ys) : Sem Value).run P w = .ok (.bool (!r)) w
theorem loc_eql {t yt : TypeId} {xo yo : Operand} (hop : o.op = .binOp .eql t xo yo yt) {X Y : List AV} (hx : ev s xo = .agg X) (hy : ev s yo = .agg Y) {r : Bool} (hq : EqLaw E.P t X Y r) : Loc E ops J h o s (.d (.lit (.bool r))) := by
  refine ⟨(by rw [hop]; intro c hc; cases hc), fun Z K Y ι a w m hl => ?_⟩
  obtain ⟨dst, op, ty, pos, af, gd⟩ := o
  simp only at hop
  subst hop
  have h1 := hl xo (by simp [Op.operands])
  have h2 := hl yo (by simp [Op.operands])
  rw [hx] at h1
  rw [hy] at h2
  simp only [RA] at h1 h2
  obtain ⟨xs, e1, g1⟩ := h1
  obtain ⟨ys, e2, g2⟩ := h2
  refine OGives.of ⟨.bool r, w, ?_, Grew.refl w, RA_lit_mk trivial⟩
  show (do eqGuard .eql t xo yo (a.eval xo) (a.eval yo); binOp .eql t (a.eval xo) (a.eval yo) : Sem Value).run E.P w = _
  rw [e1, e2]
  exact (hq _ xs ys w xo yo g1 g2).1
theorem loc_neq {t yt : TypeId} {xo yo : Operand} (hop : o.op = .binOp .neq t xo yo yt) {X Y : List AV} (hx : ev s xo = .agg X) (hy : ev s yo = .agg Y) {r : Bool} (hq : EqLaw E.P t X Y r) : Loc E ops J h o s (.d (.lit (.bool (!r)))) := by
  refine ⟨(by rw [hop]; intro c hc; cases hc), fun Z K Y ι a w m hl => ?_⟩
  obtain ⟨dst, op, ty, pos, af, gd⟩ := o
  simp only at hop
  subst hop
  have h1 := hl xo (by simp [Op.operands])
  have h2 := hl yo (by simp [Op.operands])
  rw [hx] at h1
  rw [hy] at h2
  simp only [RA] at h1 h2
  obtain ⟨xs, e1, g1⟩ := h1
  obtain ⟨ys, e2, g2⟩ := h2
  refine OGives.of ⟨.bool (!r), w, ?_, Grew.refl w, RA_lit_mk trivial⟩
  show (do eqGuard .neq t xo yo (a.eval xo) (a.eval yo); binOp .neq t (a.eval xo) (a.eval yo) : Sem Value).run E.P w = _
  rw [e1, e2]
  exact (hq _ xs ys w xo yo g1 g2).2

/-! ### Cutting -/
theorem loc_slice (hE : E.Good) {t : TypeId} {xo : Operand} {lo hi : Option Operand} (hop : o.op = .slice t xo lo hi none) {e : TypeId} {z1 z2 : Nat} {z3 : List Value} (ht : E.T t = some ⟨.slice e, z1, z2, z3⟩) {sz bts : Nat} {k : TK} {z5 : Nat} {z6 : List Value} (hte : E.T e = some ⟨k, sz, z5, z6⟩)
    {xs : List (List D)} (hx : ev s xo = .d (.sl sz bts xs)) {l u : Nat} (hl : match lo with | some p => ∃ ik, ev s p = .d (.lit (.int ik (l : Int))) | none => l = 0) (hu : match hi with | some p => ∃ ik, ev s p = .d (.lit (.int ik (u : Int))) | none => u = xs.length)
    (h1 : l ≤ u) (h2 : u ≤ xs.length) : Loc E ops J h o s (.d (.sl sz bts ((xs.take u).drop l))) := by
  refine ⟨(by rw [hop]; intro c hc; cases hc), fun Z K Y ι a w m hlk => ?_⟩
  obtain ⟨dst, op, ty, pos, af, gd⟩ := o
  simp only at hop
  subst hop
  have hxv := hlk xo (by simp [Op.operands])
  rw [hx] at hxv
  simp only [RA, RD] at hxv
  obtain ⟨ad, cap, e1, g1, g2, g3, hc⟩ := hxv
  have hund := (hE.ok.T t _ ht).2
  simp only [TK.fits] at hund
  have hsz := run_size hE.ok.T hte w
  have hl' : ∀ p, lo = some p → ∃ ik, a.eval p = .int ik (l : Int) := by
    intro p hp
    subst hp
    obtain ⟨ik, hik⟩ := hl
    have := hlk p (by simp [Op.operands])
    rw [hik] at this
    exact ⟨ik, (RA_lit.1 this).1⟩
  have hu' : ∀ p, hi = some p → ∃ ik, a.eval p = .int ik (u : Int) := by
    intro p hp
    subst hp
    obtain ⟨ik, hik⟩ := hu
    have := hlk p (by simp [Op.operands])
    rw [hik] at this
    exact ⟨ik, (RA_lit.1 this).1⟩
  have hbo : (Instr.sliceBounds true xs.length cap (lo.map a.eval) (hi.map a.eval) none).run E.P w = .ok (l, u, cap) w := by
    have bnd : ∀ (ik : IntKind) (x y : Nat) (c : BoundsCode), x ≤ y → (Instr.sliceBound (.int ik (x : Int)) y c).run E.P w = .ok x w := by
      intro ik x y c hxy
      simp [Instr.sliceBound, asIntOf, hxy]
    cases lo with
    | none =>
      simp only at hl
      subst hl
      cases hi with
      | none => simp only at hu; subst hu; simp [Instr.sliceBounds]
      | some q =>
        obtain ⟨ik, hq⟩ := hu' q rfl
        simp [Instr.sliceBounds, hq, bnd ik u cap .sliceAcap (by omega)]
    | some p =>
      obtain ⟨ik, hp⟩ := hl' p rfl
      cases hi with
      | none => simp only at hu; subst hu; simp [Instr.sliceBounds, hp, bnd ik l xs.length .sliceB h1]
      | some q =>
        obtain ⟨ik', hq⟩ := hu' q rfl
        simp [Instr.sliceBounds, hp, hq, bnd ik' u cap .sliceAcap (by omega), bnd ik l u .sliceB h1]
  have hlen : ((xs.take u).drop l).length = u - l := by simp; omega
  refine ⟨.slice (if cap = l then ad else ad.map (·.add (l * sz))) (u - l) (cap - l), w, ?_, Grew.refl w, ?_⟩
  · simp [execOp, Instr.sliceAt, Instr.slice, run_underlying hund, e1, hbo, hsz]
  · simp only [RA, RD]
    refine ⟨_, _, by rw [hlen], by rw [hlen]; omega, ?_, by rw [hlen]; omega, ?_⟩
    · rw [hlen]
      exact Nat.le_trans (Nat.mul_le_mul_right _ (by omega)) g2
    · by_cases hne : (xs.take u).drop l = []
      · exact .inl hne
      · have hlu : l < u := by
          rcases Nat.lt_or_ge l u with h | h
          · exact h
          · exfalso; apply hne; apply List.eq_nil_of_length_eq_zero; rw [hlen]; omega
        rcases hc with rfl | ⟨b, off, rfl, hm, hb, hcs⟩
        · simp at h2; omega
        · right
          refine ⟨b, off + l * sz, ?_, hm, hb, ?_⟩
          · rw [if_neg (by omega)]
            simp only [Option.map_some, Option.some.injEq]
            unfold Addr.add
            split
            · rename_i hz; rw [hz]; simp
            · rfl
          · have key : ∀ (l : Nat) (xs : List (List D)) (off : Nat), RCs w (cx Z h ι w).M b sz xs off → RCs w (cx Z h ι w).M b sz (xs.drop l) (off + l * sz) := by
              intro l
              induction l with
              | zero => intro xs off hh; simpa using hh
              | succ l ih =>
                intro xs off hh
                cases xs with
                | nil => simp [RCs]
                | cons x xs =>
                  simp only [RCs] at hh
                  have := ih xs (off + sz) hh.2.2
                  simp only [List.drop_succ_cons]
                  rwa [show off + (l + 1) * sz = off + sz + l * sz by rw [Nat.add_mul]; omega]
            have key2 : ∀ (u : Nat) (xs : List (List D)) (off : Nat), RCs w (cx Z h ι w).M b sz xs off → RCs w (cx Z h ι w).M b sz (xs.take u) off := by
              intro u
              induction u with
              | zero => intro xs off hh; simp [RCs]
              | succ u ih =>
                intro xs off hh
                cases xs with
                | nil => simp [RCs]
                | cons x xs =>
                  simp only [RCs] at hh
                  simp only [List.take_succ_cons, RCs]
                  exact ⟨hh.1, hh.2.1, ih xs (off + sz) hh.2.2⟩
            exact key l _ off (key2 u xs off hcs)
end
end Go.AL
/- AL, part 14: ranges over functions: what a consumer and an iterator owe each other. -/
namespace Go.AL
set_option linter.unusedVariables false
set_option linter.unusedSimpArgs false

theorem Mem.cells {Z K : Nat → Prop} {J : World → Prop} {h : Heap} {ι : Nat → Value} {w : World} (m : Mem Z K J h ι w) {k b : Nat} (hk : dom h k) (hb : blk (ι k) = some b) : isCells w b := by
  have hk' : (h k).isSome = true := hk
  obtain ⟨e, he⟩ := Option.isSome_iff_exists.1 hk'
  have := m.ent k e he
  cases e with
  | box t cs =>
    obtain ⟨b', vs, h1, h2, _⟩ := this
    rw [blk_ptr h1] at hb
    cases hb
    exact ⟨_, _, _, h2⟩
  | row e sz xs =>
    obtain ⟨vs, h1, _⟩ := this
    rcases h1 with ⟨a, h1, _⟩ | ⟨g, cap, cur, h1, h0, h2, _⟩
    · rw [h1] at hb
      cases a <;> simp [blk] at hb
    · rw [h1] at hb
      simp only [blk] at hb
      rw [if_neg (by omega)] at hb
      cases hb
      exact ⟨_, _, _, h2⟩
  | ghost cs vs =>
    have h1 : ι k = .slice none 0 0 := this.1
    rw [h1] at hb
    simp [blk] at hb
  | rowA e sz n cs =>
    obtain ⟨vs, h1, _⟩ := this
    rcases h1 with ⟨a, h1, _⟩ | ⟨g, cap, cur, h1, h0, h2, _⟩
    · rw [h1] at hb
      cases a <;> simp [blk] at hb
    · rw [h1] at hb
      simp only [blk] at hb
      rw [if_neg (by omega)] at hb
      cases hb
      exact ⟨_, _, _, h2⟩

/-- The same memory from another side. -/
theorem Mem.side {Z K Z' K' : Nat → Prop} {J J' : World → Prop} {h : Heap} {ι : Nat → Value} {w w' : World} (m : Mem Z K J h ι w) (hs : ∀ b, b < w.heap.size → ¬ Z b → w'.heap[b]? = w.heap[b]?) (hsz : w.heap.size ≤ w'.heap.size)
    (hZ : ∀ b, Z' b → Z b ∨ w.heap.size ≤ b) (hZ' : ∀ b, Z' b → b < w'.heap.size) (hK : ∀ k b, dom h k → blk (ι k) = some b → ¬ K' b) (hK' : ∀ b, K' b → b < w'.heap.size) (hJ : J' w') (hJc : Closed K' J') :
    Mem Z' K' J' h ι w' ∧ KeepsC (cx Z h ι w) (cx Z' h ι w') := by
  have kc : KeepsC (cx Z h ι w) (cx Z' h ι w') := by
    refine ⟨⟨fun b o u hm hc => ?_, fun b hm hi => hi.at (hs b hi.lt fun hz => hm (.inl hz)), fun b hi hm hm' => ?_⟩, fun k hk => ⟨hk, rfl⟩⟩
    · show w'.cell? _ = _
      rw [World.cell?_of_block (w := w) (a := ⟨b, o, none⟩) (hs b (isCells.of_cell hc).lt fun hz => hm (.inl hz))]; exact hc
    · rcases hm' with hz | hz
      · rcases hZ b hz with h1 | h1
        · exact hm (.inl h1)
        · have : b < w.heap.size := hi.lt
          omega
      · exact hm (.inr hz)
  have hnz : ∀ k b, dom h k → blk (ι k) = some b → ¬ Z' b := fun k b hk hb hz => by
    have := m.own k b hk hb
    rcases hZ b hz with h1 | h1
    · exact this.1 h1
    · omega
  refine ⟨⟨fun k e hk => EntOk.keeps kc (fun b cs t f hb hc => ?_) (m.ent k e hk), fun k b hk hb => ⟨hnz k b hk hb, hK k b hk hb, Nat.lt_of_lt_of_le (m.own k b hk hb).2.2 hsz⟩, m.apart, hZ', hK', hJ, hJc⟩, kc⟩
  have hd : dom h k := by simp [dom, hk]
  have := m.own k b hd hb
  show w'.heap[b]? = _
  rw [hs b this.2.2 this.1]; exact hc

def fresh (w w' : World) (b : Nat) : Prop := w.heap.size ≤ b ∧ b < w'.heap.size
def plus (K K2 : Nat → Prop) (b : Nat) : Prop := K b ∨ K2 b
/-- What may turn behind the back: Y. -/
abbrev Turned (Y : Nat → Prop) (w w' : World) : Prop := Step (fun b => b < w.heap.size ∧ ¬ Y b) w w'
theorem Step.weaken {K K' : Nat → Prop} {w w' : World} (h : Step K w w') (hK : ∀ b, K' b → K b) : Step K' w w' := ⟨h.os, h.tape, h.output, h.size, h.drawn, fun b hb => h.block b (hK b hb)⟩

/-- A way to lay more upon what is to be kept. -/
structure Wrap (Z0 : Nat → Prop) (W : Jt → Jt) : Prop where
  mono : ∀ J, Mono J → Mono (W J)
  yields : ∀ J K Y Z w, W J K Y Z w → (∀ b, Z0 b → Z b) → ∃ Kj : Nat → Prop, (∀ b, Kj b → K b) ∧ J Kj Y Z w ∧
    ∀ (J' : Jt) (Kj' : Nat → Prop) (w' : World), (∀ b, Kj b → Kj' b) → (∀ b, Kj' b → Kj b ∨ (¬ Z b ∧ isCells w b) ∨ fresh w w' b) → Turned Y w w' →
      J' Kj' (plus Y (fresh w w')) (plus Z (fresh w w')) w' → W J' (plus K Kj') (plus Y (fresh w w')) (plus Z (fresh w w')) w'
theorem Wrap.id (Z0 : Nat → Prop) : Wrap Z0 (fun J => J) :=
  ⟨fun _ h => h, fun J K Y Z w h _ => ⟨K, fun _ h => h, h, fun J' Kj' w' h1 _ _ h2 => by
    have : plus K Kj' = Kj' := by
      funext b
      exact propext ⟨fun hb => hb.elim (h1 b) fun hb => hb, .inr⟩
    rw [this]; exact h2⟩⟩

/-- What a consumer owes: a round for each of ys. -/
def YieldSpec (P : Program) (l : Nat) (ys : List (List AV)) (C : Nat → Jt) (X : Jt) : Prop :=
  ∀ (n i : Nat) (args : List AV), ys[i]? = some args → ∀ (K Y Z : Nat → Prop) (w : World) (vs : List Value), C i K Y Z w → (∀ b, Y b → Z b) → (∀ b, K b → b < w.heap.size) → (∀ b, Z b → b < w.heap.size) →
    RAs (cx (fun b => Z b ∨ (b < w.heap.size ∧ ¬ K b)) noHeap noι w) args vs →
    YieldAt Fence.wide n P l vs.toArray w fun e w' => Turned Y w w' ∧
      ((e = .returned (.bool true) ∧ C (i + 1) (plus K (fresh w w')) (plus Y (fresh w w')) (plus Z (fresh w w')) w') ∨
       (e = .returned (.bool false) ∧ X (plus K (fresh w w')) (plus Y (fresh w w')) (plus Z (fresh w w')) w'))

/-- What an iterator owes: the rounds, one by one. -/
def Iter (P : Program) (f : Nat) (first cap : List AV) (ys : List (List AV)) : Prop :=
  Callable P f ∧ ∀ (n l : Nat) (C : Nat → Jt) (X : Jt), (∀ i, Mono (C i)) → Mono X → YieldSpec P l ys C X → ∀ (K Y Z : Nat → Prop) (w : World) (vs : List Value), C 0 K Y Z w → (∀ b, Y b → Z b) → (∀ b, K b → b < w.heap.size) → (∀ b, Z b → b < w.heap.size) →
    RAs (cx Z noHeap noι w) (first ++ .d (.fn (.yield l) [] []) :: cap) vs →
    CallsIn Fence.wide n P f vs.toArray w fun e w' => ∃ v K Y Z, e = .returned v ∧ (C ys.length K Y Z w' ∨ X K Y Z w')

def RetI (T : Nat → Option TI) (fn : Func) (J J' : Jt) : Exit → St → Prop := fun e st =>
  (e = .normal ∨ e = .ret) ∧ (st.J = J ∨ st.J = J') ∧ ∃ Rs, aresults T st.h st.s fn.results.toList = some Rs

/-- An iterator's contract out of its body. -/
theorem Iter_of {P : Program} {T : Nat → Option TI} (hT : TOk P T) (hm : P.follows .mixedOrders = true) {f : Nat} {fn : Func} {c : Code} {first cap : List AV} {ys : List (List AV)} (hf : P.funcs[f]? = some fn) (hb : fn.body = some c) (hn : (fn.name == "runtime.NumGoroutine") = false)
    {N : Nat} (hN : fn.ntmps = N) (hl : Nat.ble (first.length + (cap.length + 1)) N = true)
    (h : ∀ F n Z, (⟨P, T, F, n, Z, N⟩ : Env).Good → F = Fence.wide → ∀ l C X, (∀ i, Mono (C i)) → Mono X → YieldSpec P l ys C X →
      CW ⟨P, T, F, n, Z, N⟩ c (RetI T fn (C ys.length) X) ⟨C 0, argSlots (first ++ .d (.fn (.yield l) [] []) :: cap) 0, noHeap⟩) : Iter P f first cap ys := by
  subst hN
  refine ⟨⟨fn, hf, hn, by rw [hb]; rfl⟩, fun n l C X hC hX hy K Y Z w vs h0 hYZ hK hZ hv => ?_⟩
  let E : Env := ⟨P, T, Fence.wide, n, Z, fn.ntmps⟩
  have hE : E.Good := ⟨⟨hT, fun f => trivial, rfl, hm⟩, .inl rfl⟩
  refine callsIn_of_wp_marks hf hb trivial (wpIn_mono (h _ _ _ hE rfl l C X hC hX hy noι _ w ?_) ?_) rfl
  · exact ⟨Z, K, Y, ⟨fun b hb => hb, hYZ, hC 0⟩, rel_begin hZ hK h0 ((hC 0).closed K Y Z) hv (by simpa using hl)⟩
  · rintro e a' w' ⟨st, ι, ⟨he, hJ, Rs, hRs⟩, Z', K', Y', hZE, r⟩
    have goal : LeavesInM Fence.wide n P fn a'.tmps (fun e w' => ∃ v K Y Z, e = .returned v ∧ (C ys.length K Y Z w' ∨ X K Y Z w')) a'.defers .returning w' := by
      refine leaves_marks r fun w1 r1 => ?_
      obtain ⟨v, g1, g2⟩ := results_ok hT r1 hRs
      refine ⟨v, g1, v, K', Y', Z', rfl, ?_⟩
      have := r1.mem.Jw
      rcases hJ with hJ | hJ
      · rw [hJ] at this; exact .inl this
      · rw [hJ] at this; exact .inr this
    rcases he with rfl | rfl
    · exact goal
    · exact goal

theorem exec_yield {P : Program} {dst : Option Tmp} {fo : Operand} {args : Array Operand} {ts : Array TypeId} {ty : TypeId} {pos : String} {af : Array Edge} {gd : Option (Nat × Bool)} {a : Act} {w : World} {l : Nat}
    (he : a.eval fo = .func (.yield l) #[] #[]) :
    (execOp a.eval ⟨dst, .call ⟨.value fo, args, ts⟩, ty, pos, af, gd⟩).run P w = (Instr.yield l (args.map a.eval)).run P w := by
  simp [execOp, resolve, Deferred.ofValue, he, invoke]

section
variable {E : Env} {ops : List Oper} {Q : Exit → St → Prop} {st : St} {i : Nat}
theorem isWide.round {F : Fence} (h : isWide F) {n : Nat} {P : Program} {l : Nat} {f : FuncId} {tmps : Array Value} {assign body : Code} {w : World} {R : Ending → World → Prop} (hc : RoundIn Fence.wide n P l f tmps assign body w R) : RoundIn F n P l f tmps assign body w R := by
  rcases h with rfl | ⟨l', rfl⟩
  · exact hc
  · exact hc

/-- A call of yield. -/
theorem OW_yield (hE : E.Good) {l : Nat} {ys : List (List AV)} {C : Nat → Jt} {X : Jt} (hy : YieldSpec E.P l ys C X) (hC : ∀ i, Mono (C i)) (hX : Mono X) {W : Jt → Jt} (hW : Wrap E.Z W) (k : Nat)
    {o : Oper} {fo : Operand} {args : Array Operand} {ts : Array TypeId} (ho : ops[i]? = some o) (hop : o.op = .call ⟨.value fo, args, ts⟩) (hw : awant ops o st.s = some true) (hJ : st.J = W (C k)) (hf : ev st.s fo = .d (.fn (.yield l) [] []))
    {L : List AV} (hL : args.toList.map (ev st.s) = L) (hk : ys[k]? = some L) (hkf : kfs L = true) {s1 s2 : Slots} (hs1 : putS E.N st.s o.dst (.d (.lit (.bool true))) = some s1) (hs2 : putS E.N st.s o.dst (.d (.lit (.bool false))) = some s2)
    (h1 : OW E ops (i + 1) Q ⟨W (C (k + 1)), s1, st.h⟩) (h2 : OW E ops (i + 1) Q ⟨W X, s2, st.h⟩) : OW E ops i Q st := fun ι a w r => by
  have hd : ops.drop i = o :: ops.drop (i + 1) := by
    obtain ⟨hlt, rfl⟩ := List.getElem?_eq_some_iff.1 ho
    exact List.drop_eq_getElem_cons hlt
  rw [hd]
  simp only [wpListIn]
  rw [if_pos (awant_ok r hw)]
  refine ⟨fun f _ => hE.wide.fn f, ?_⟩
  rw [Oper.semAt_plain E.F _ _ (by rw [hop]; intro c hc; cases hc)]
  obtain ⟨Z, K, Y, hZE, r⟩ := r
  have hfo := RA_ev (C := cx Z st.h ι w) (s := st.s) (a := a) fo fun t _ => r.slot t
  rw [hf] at hfo
  simp only [RA, RD, RDs] at hfo
  obtain ⟨vf, vc, he, hvf, hvc⟩ := hfo
  have hvf' : vf = #[] := by simpa using hvf
  have hvc' : vc = #[] := by simpa using hvc
  subst hvf' hvc'
  have hargs : RAs (cx Z st.h ι w) L (args.toList.map a.eval) := by
    rw [← hL]
    exact RAs_evs fun x _ => RA_ev x fun t _ => r.slot t
  obtain ⟨dst, op, ty, pos, af, gd⟩ := o
  simp only at hop
  subst hop
  rw [exec_yield he]
  have hJw := r.mem.Jw
  rw [hJ] at hJw
  obtain ⟨Kj, hKj, hCk, hback⟩ := hW.yields (C k) K Y Z w hJw hZE.1
  have hKjlt : ∀ b, Kj b → b < w.heap.size := fun b hb => r.mem.Klt b (hKj b hb)
  let K1 : Nat → Prop := fun b => Kj b ∨ (¬ (cx Z st.h ι w).M b ∧ isCells w b)
  have hK1lt : ∀ b, K1 b → b < w.heap.size := fun b hb => by
    rcases hb with hb | hb
    · exact hKjlt b hb
    · exact hb.2.lt
  have hC1 : C k K1 Y Z w := (hC k).mono Kj K1 Y Z Z w hCk (fun b hb => .inl hb) (fun b hb => hb.imp (fun h => h) (fun h => h.2)) (fun b _ hz => hz) (fun b hz => .inl hz)
  have hv' : RAs (cx (fun b => Z b ∨ (b < w.heap.size ∧ ¬ K1 b)) noHeap noι w) L (args.toList.map a.eval) := by
    refine RAs_kf (C := cx Z st.h ι w) (C' := cx (fun b => Z b ∨ (b < w.heap.size ∧ ¬ K1 b)) noHeap noι w) ⟨fun _ _ _ _ hh => hh, fun _ _ hh => hh, fun b hi hm hm' => ?_⟩ _ _ hkf hargs
    rcases hm' with (hm' | hm') | ⟨k, hk, _⟩
    · exact hm (.inl hm')
    · exact hm'.2 (.inr ⟨hm, hi⟩)
    · simp [dom, noHeap] at hk
  obtain ⟨fn, tmps, assign, body, hrun, hround⟩ := hy (E.n - 1) k L hk K1 Y Z w _ hC1 hZE.2.1 hK1lt r.mem.Zlt hv'
  rw [show args.map a.eval = (args.toList.map a.eval).toArray by rw [← Array.toList_map], hrun]
  simp only [Oper.uponIn]
  refine ⟨fun hx => (by rw [hE.wide.depth] at hx; cases hx), ?_⟩
  refine (hE.wide.round hround).mono fun e w' ⟨htu, hend⟩ => ?_
  have hK1' : ∀ b, Kj b → plus K1 (fresh w w') b := fun b hb => .inl (.inl hb)
  have hK1'' : ∀ b, plus K1 (fresh w w') b → Kj b ∨ (¬ Z b ∧ isCells w b) ∨ fresh w w' b := fun b hb => by
    rcases hb with (hb | hb) | hb
    · exact .inl hb
    · exact .inr (.inl ⟨fun hz => hb.1 (.inl hz), hb.2⟩)
    · exact .inr (.inr hb)
  have rel' : ∀ (J' : Jt), Mono J' → J' (plus K1 (fresh w w')) (plus Y (fresh w w')) (plus Z (fresh w w')) w' → ∀ (b : Bool) (s' : Slots), putS E.N st.s dst (.d (.lit (.bool b))) = some s' →
      RelS E ⟨W J', s', st.h⟩ ι (a.put dst (.bool b)) w' := by
    intro J' hJ' hj b s' hs'
    have hW' := hback J' _ w' hK1' hK1'' htu hj
    obtain ⟨m', kc⟩ := r.mem.side (Z' := plus Z (fresh w w')) (K' := plus K (plus K1 (fresh w w'))) (J' := W J' (plus K (plus K1 (fresh w w'))) (plus Y (fresh w w')) (plus Z (fresh w w'))) (w' := w')
      (fun b hb hz => htu.block b ⟨hb, fun hy => hz (hZE.2.1 b hy)⟩) htu.size (fun b hb => hb.imp (fun h => h) (fun h => h.1))
      (fun b hb => hb.elim (fun h => Nat.lt_of_lt_of_le (r.mem.Zlt b h) htu.size) (fun h => h.2))
      (fun k b hk hb hK => by
        have := r.mem.own k b hk hb
        rcases hK with hK | (hK | hK) | hK
        · exact this.2.1 hK
        · exact this.2.1 (hKj b hK)
        · exact hK.1 (.inr ⟨k, hk, hb⟩)
        · have := hK.1; omega)
      (fun b hb => by
        rcases hb with hK | hK | hK
        · exact Nat.lt_of_lt_of_le (r.mem.Klt b hK) htu.size
        · exact Nat.lt_of_lt_of_le (hK1lt b hK) htu.size
        · exact hK.2)
      hW' ((hW.mono J' hJ').closed _ _ _)
    refine ⟨plus Z (fresh w w'), plus K (plus K1 (fresh w w')), plus Y (fresh w w'), ⟨fun b hb => .inl (hZE.1 b hb), fun b hb => hb.imp (hZE.2.1 b) (fun h => h), hW.mono J' hJ'⟩, ?_⟩
    have hds : Marks (plus Z (fresh w w')) (plus K (plus K1 (fresh w w'))) w' a.defers := by
      obtain ⟨rs, g1, g2, g3⟩ := r.ds
      refine ⟨rs, g1, g2, fun x hx => ?_⟩
      obtain ⟨g4, g5, g6⟩ := g3 x hx
      have hlt := (Array.getElem?_eq_some_iff.1 g4).1
      have hnc : ¬ isCells w x := fun ⟨c, t, f, hc⟩ => by rw [g4] at hc; cases hc
      refine ⟨by rw [htu.block x ⟨hlt, fun hy => g6 (hZE.2.1 x hy)⟩]; exact g4, fun hK => ?_, fun hz => ?_⟩
      · rcases hK with hK | (hK | hK) | hK
        · exact g5 hK
        · exact g5 (hKj x hK)
        · exact hnc hK.2
        · have := hK.1; omega
      · rcases hz with hz | hz
        · exact g6 hz
        · have := hz.1; omega
    have r0 : Rel (plus Z (fresh w w')) (plus K (plus K1 (fresh w w'))) E.N (W J' (plus K (plus K1 (fresh w w'))) (plus Y (fresh w w')) (plus Z (fresh w w'))) st.s st.h ι a w' := ⟨m', r.size, fun i => RA_keeps kc _ _ (r.slot i), hds⟩
    unfold putS at hs'
    cases dst with
    | none => cases hs'; exact Rel.put_none r0 (Grew.refl _) _
    | some d =>
      simp only at hs'
      cases hb : Nat.ble (d + 1) E.N with
      | false => rw [hb] at hs'; cases hs'
      | true =>
        rw [hb] at hs'
        cases hs'
        exact Rel.put r0 (Grew.refl _) hb (RA_lit.2 ⟨rfl, trivial⟩)
  rcases hend with ⟨rfl, hj⟩ | ⟨rfl, hj⟩
  · exact h1 ι _ w' (rel' _ (hC _) hj true s1 hs1)
  · exact h2 ι _ w' (rel' _ hX hj false s2 hs2)
end
end Go.AL
