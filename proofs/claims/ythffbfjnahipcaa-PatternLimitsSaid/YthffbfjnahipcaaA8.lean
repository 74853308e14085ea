/- AL, part 8: elements, bytes; a table of types held against the program. -/
import Derived.Test.YthffbfjnahipcaaA7
namespace Go.AL
set_option linter.unusedVariables false
set_option linter.unusedSimpArgs false

section
variable {E : Env} {ops : List Oper} {Q : Exit → St → Prop} {st : St} {i : Nat}

theorem OW_indexAddr (hE : E.Good) {o : Oper} {t : TypeId} {xo io : Operand} (ho : ops[i]? = some o) (hop : o.op = .indexAddr t xo io) (hw : awant ops o st.s = some true)
    {e : TypeId} {z1 z2 : Nat} {z3 : List Value} (ht : E.T t = some ⟨.slice e, z1, z2, z3⟩) {sz bts : Nat} {k : TK} {z5 : Nat} {z6 : List Value} (hte : E.T e = some ⟨k, sz, z5, z6⟩)
    {xs : List (List D)} {ik : IntKind} {n : Int} (hx : ev st.s xo = .d (.sl sz bts xs)) (hi : ev st.s io = .d (.lit (.int ik n))) (h0 : 0 ≤ n) {x : List D} (hn : xs[n.toNat]? = some x)
    {s' : Slots} (hs : putS E.N st.s o.dst (.d (.iptr x)) = some s') (h : OW E ops (i + 1) Q { st with s := s' }) : OW E ops i Q st := by
  refine OW_gives ho hE.ok hw (by rw [hop]; intro c hc; cases hc) (R := .d (.iptr x)) (fun Z K Y ι a w r => ?_) hs h
  obtain ⟨dst, op, ty, pos, af, gd⟩ := o
  simp only at hop
  subst hop
  have h1 := RA_ev (C := cx Z st.h ι w) (s := st.s) (a := a) xo fun t _ => r.slot t
  have h2 := RA_ev (C := cx Z st.h ι w) (s := st.s) (a := a) io fun t _ => r.slot t
  rw [hx] at h1
  rw [hi] at h2
  obtain ⟨e2, _⟩ := RA_lit.1 h2
  simp only [RA, RD] at h1
  obtain ⟨ad, cap, e1, _, _, _, hc⟩ := h1
  obtain ⟨hlt, hxe⟩ := List.getElem?_eq_some_iff.1 hn
  rcases hc with hc | ⟨b, off, rfl, hm, hb, hc⟩
  · subst hc; simp at hlt
  · obtain ⟨hlen, hr⟩ := RCs_get hc hn
    have hu := (hE.ok.T t _ ht).2
    simp only [TK.fits] at hu
    have hsz := run_size hE.ok.T hte w
    have hlt' : n < xs.length := by omega
    refine ⟨.pointer (some ⟨b, off + n.toNat * sz, none⟩), w, ?_, Grew.refl w, ?_⟩
    · simp [execOp, Instr.indexAt, e1, e2, asIntOf, run_underlying hu, h0, hlt', hsz]
      simp [Addr.add]
    · simp only [RA, RD]
      exact ⟨b, _, rfl, hm, hb, hr⟩

theorem OW_index (hE : E.Good) {o : Oper} {t : TypeId} {xo io : Operand} (ho : ops[i]? = some o) (hop : o.op = .index t xo io) (hw : awant ops o st.s = some true)
    {z1 z2 : Nat} {z3 : List Value} (ht : E.T t = some ⟨.str, z1, z2, z3⟩) {b : ByteArray} {ik : IntKind} {n : Int} (hx : ev st.s xo = .d (.lit (.string b))) (hi : ev st.s io = .d (.lit (.int ik n))) (h0 : 0 ≤ n) {x : UInt8} (hn : b.data.toList[n.toNat]? = some x)
    {s' : Slots} (hs : putS E.N st.s o.dst (.d (.lit (.int .u8 x.toNat))) = some s') (h : OW E ops (i + 1) Q { st with s := s' }) : OW E ops i Q st := by
  refine OW_gives ho hE.ok hw (by rw [hop]; intro c hc; cases hc) (R := .d (.lit (.int .u8 x.toNat))) (fun Z K Y ι a w r => ?_) hs h
  obtain ⟨dst, op, ty, pos, af, gd⟩ := o
  simp only at hop
  subst hop
  have h1 := RA_ev (C := cx Z st.h ι w) (s := st.s) (a := a) xo fun t _ => r.slot t
  have h2 := RA_ev (C := cx Z st.h ι w) (s := st.s) (a := a) io fun t _ => r.slot t
  rw [hx] at h1
  rw [hi] at h2
  obtain ⟨e2, _⟩ := RA_lit.1 h2
  obtain ⟨e1, _⟩ := RA_lit.1 h1
  have hu := (hE.ok.T t _ ht).2
  simp only [TK.fits] at hu
  have hb : b[n.toNat]? = some x := by
    obtain ⟨hlt, hxe⟩ := List.getElem?_eq_some_iff.1 hn
    have hlt' : n.toNat < b.size := by simpa using hlt
    rw [getElem?_pos b n.toNat hlt']
    simp only [Option.some.injEq]
    rw [← hxe]
    simp [ByteArray.getElem_eq_getElem_data]
  refine ⟨.int .u8 x.toNat, w, by simp [execOp, Instr.index, e1, e2, asIntOf, run_underlying hu, h0, hb], Grew.refl w, RA_lit_mk ?_⟩
  have := x.toNat_lt
  simp only [okLit]
  constructor <;> simp [IntKind.min, IntKind.max, IntKind.signed, IntKind.bits] <;> omega
end

/-! ### The table -/
def sameLit : Value → Value → Bool
  | .bool a, .bool b => a == b
  | .int k a, .int j b => decide (k = j) && decide (a = b)
  | .string a, .string b => decide (a.data.toList = b.data.toList)
  | .pointer none, .pointer none => true
  | .slice none a b, .slice none c d => Nat.beq a c && Nat.beq b d
  | .nilIface, .nilIface => true
  | .nilFunc, .nilFunc => true
  | _, _ => false
theorem sameLit_ok : ∀ {a b : Value}, sameLit a b = true → a = b := by
  intro a b h
  unfold sameLit at h
  split at h <;> simp at h <;> first | rfl | skip
  · rw [h]
  · rw [h.1, h.2]
  · rename_i a b
    obtain ⟨⟨a⟩⟩ := a
    obtain ⟨⟨b⟩⟩ := b
    simp at h
    rw [h]
  · rw [h.1, h.2]
def sameLits : List Value → List Value → Bool
  | [], [] => true
  | a :: x, b :: y => sameLit a b && sameLits x y
  | _, _ => false
theorem sameLits_ok : ∀ {a b : List Value}, sameLits a b = true → a = b
  | [], [], _ => rfl
  | [], _ :: _, h => by simp [sameLits] at h
  | _ :: _, [], h => by simp [sameLits] at h
  | a :: x, b :: y, h => by
    simp [sameLits] at h
    rw [sameLit_ok h.1, sameLits_ok h.2]
def TK.holds (P : Program) (t : TypeId) : TK → Bool
  | .bool => match P.underlying t with | some .bool => true | _ => false
  | .int k => match P.underlying t with | some (.int j) => decide (j = k) | _ => false
  | .str => match P.underlying t with | some .string => true | _ => false
  | .slice e => match P.underlying t with | some (.slice x) => Nat.beq x e | _ => false
  | .struct fs => match P.underlying t with | some (.struct fields) => decide (fields.toList.map (fun f => (f.type, f.offset)) = fs) | _ => false
  | .ptr e => match P.underlying t with | some (.pointer x) => Nat.beq x e | _ => false
  | .iface => match P.underlying t with | some (.interface _) => true | _ => false
  | .other => match P.underlying t with | some (.struct _) | some (.array _ _) | some (.interface _) | none => false | _ => true
theorem TK.holds_ok {P : Program} {t : TypeId} {k : TK} (h : k.holds P t = true) : k.fits P t := by
  cases k <;> simp only [TK.holds] at h <;> split at h <;> simp at h <;> simp only [TK.fits]
  · assumption
  · rename_i j hj; rw [← h]; exact hj
  · assumption
  · rename_i j hj; rw [← h]; exact hj
  · rename_i j hj; exact ⟨_, hj, h⟩
  · rename_i j hj; rw [← h]; exact hj
  · rename_i j hj; exact ⟨_, hj⟩
  · rename_i h1 h2 h3 h4
    cases hu : P.underlying t with
    | none => exact (h4 hu).elim
    | some d => exact ⟨d, rfl, by cases d <;> first | rfl | exact (h1 _ hu).elim | exact (h2 _ _ hu).elim | exact (h3 _ hu).elim⟩
def TI.holds (P : Program) (t : TypeId) (x : TI) : Bool :=
  match P.info? t with
  | some i => Nat.beq i.size x.size && Nat.beq i.bytes x.bytes && (match i.zero with | some z => sameLits z.cells.toList x.zero && Nat.beq x.zero.length x.size | none => false) && x.k.holds P t
  | none => false
theorem TI.holds_ok {P : Program} {t : TypeId} {x : TI} (h : x.holds P t = true) : x.fits P t := by
  unfold TI.holds at h
  split at h
  · rename_i i hi
    simp only [Bool.and_eq_true] at h
    obtain ⟨⟨⟨h1, h2⟩, h3⟩, h4⟩ := h
    split at h3
    · rename_i z hz
      simp only [Bool.and_eq_true] at h3
      exact ⟨⟨i, hi, Nat.eq_of_beq_eq_true h1, Nat.eq_of_beq_eq_true h2, z, hz, sameLits_ok h3.1, Nat.eq_of_beq_eq_true h3.2⟩, TK.holds_ok h4⟩
    · cases h3
  · cases h
def tableOf : List (Nat × TI) → Nat → Option TI
  | [], _ => none
  | (k, x) :: r, t => bif Nat.beq t k then some x else tableOf r t
def tableHolds (P : Program) : List (Nat × TI) → Bool
  | [] => true
  | (k, x) :: r => x.holds P k && tableHolds P r
theorem TOk_of {P : Program} : ∀ {l : List (Nat × TI)}, tableHolds P l = true → TOk P (tableOf l)
  | [], _, t, x, ht => by simp [tableOf] at ht
  | (k, y) :: r, h, t, x, ht => by
    simp only [tableHolds, Bool.and_eq_true] at h
    simp only [tableOf] at ht
    cases hb : Nat.beq t k with
    | true =>
      rw [hb] at ht
      cases ht
      rw [Nat.eq_of_beq_eq_true hb]
      exact TI.holds_ok h.1
    | false =>
      rw [hb] at ht
      exact TOk_of h.2 t x ht
end Go.AL
