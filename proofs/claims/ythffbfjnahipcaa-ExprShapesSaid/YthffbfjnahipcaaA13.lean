/- AL, part 13: operations told by what they look at: they serve in a walk and in a head. -/
import Derived.Test.YthffbfjnahipcaaA12
namespace Go.AL
set_option linter.unusedVariables false
set_option linter.unusedSimpArgs false

/-- The operation gives R wherever what it looks at is as told. -/
def Loc (E : Env) (ops : List Oper) (J : Jt) (h : Heap) (o : Oper) (s : Slots) (R : AV) : Prop :=
  (∀ c, o.op ≠ .defer c) ∧ ∀ Z K Y ι (a : Act) w, Mem Z K (J K Y Z) h ι w → (∀ x ∈ o.op.operands.toList, RA (cx Z h ι w) (ev s x) (a.eval x)) → OGives E.P Z h ι (execOp a.eval o) w R

section
variable {E : Env} {ops : List Oper} {Q : Exit → St → Prop} {st : St} {i : Nat} {J : Jt} {h : Heap} {s : Slots} {o : Oper}
theorem OW_loc (hE : E.Good) {R : AV} (hl : Loc E ops st.J st.h o st.s R) (ho : ops[i]? = some o) (hw : awant ops o st.s = some true) {s' : Slots} (hs : putS E.N st.s o.dst R = some s') (hk : OW E ops (i + 1) Q { st with s := s' }) : OW E ops i Q st :=
  OW_gives ho hE.ok hw hl.1 (fun Z K Y ι a w r => hl.2 Z K Y ι a w r.mem fun x _ => RA_ev x fun t _ => r.slot t) hs hk
theorem HW_loc (hE : E.Good) {R : AV} {n : Nat} {K : Slots → Prop} (hl : Loc E ops J h o s R) (ho : ops[i]? = some o) (hi : Nat.ble (i + 1) n = true) (hw : awant ops o s = some true) {s' : Slots} (hs : putS E.N s o.dst R = some s') (hk : HW E ops J h n (i + 1) K s') : HW E ops J h n i K s := by
  obtain ⟨hd, rfl⟩ := pu_of_putS hs
  exact HW_cons ho hi hd (.inl ⟨hw, LY_of_gives hE hl.1 fun Z K Y ι a w m hlk => hl.2 Z K Y ι a w m (look_ev hlk)⟩) hk

theorem loc_indexAddr (hE : E.Good) {t : TypeId} {xo io : Operand} (hop : o.op = .indexAddr t xo io)
    {e : TypeId} {z1 z2 : Nat} {z3 : List Value} (ht : E.T t = some ⟨.slice e, z1, z2, z3⟩) {sz bts : Nat} {k : TK} {z5 : Nat} {z6 : List Value} (hte : E.T e = some ⟨k, sz, z5, z6⟩)
    {xs : List (List D)} {ik : IntKind} {n : Int} (hx : ev s xo = .d (.sl sz bts xs)) (hi : ev s io = .d (.lit (.int ik n))) (h0 : 0 ≤ n) {x : List D} (hn : xs[n.toNat]? = some x) : Loc E ops J h o s (.d (.iptr x)) := by
  refine ⟨(by rw [hop]; intro c hc; cases hc), fun Z K Y ι a w m hl => ?_⟩
  obtain ⟨dst, op, ty, pos, af, gd⟩ := o
  simp only at hop
  subst hop
  have h1 := hl xo (by simp [Op.operands])
  have h2 := hl io (by simp [Op.operands])
  rw [hx] at h1
  rw [hi] at h2
  obtain ⟨e2, _⟩ := RA_lit.1 h2
  simp only [RA, RD] at h1
  obtain ⟨ad, cap, e1, _, _, _, hc⟩ := h1
  obtain ⟨hlt, hxe⟩ := List.getElem?_eq_some_iff.1 hn
  rcases hc with hc | ⟨b, off, rfl, hm, hb, hc⟩
  · subst hc; simp at hlt
  · obtain ⟨hlen, hr⟩ := RCs_get hc hn
    have hu := (hE.ok.T t _ ht).2
    simp only [TK.fits] at hu
    have hsz := run_size hE.ok.T hte w
    have hlt' : n < xs.length := by omega
    refine ⟨.pointer (some ⟨b, off + n.toNat * sz, none⟩), w, ?_, Grew.refl w, ?_⟩
    · simp [execOp, Instr.indexAt, e1, e2, asIntOf, run_underlying hu, h0, hlt', hsz]
      simp [Addr.add]
    · simp only [RA, RD]
      exact ⟨b, _, rfl, hm, hb, hr⟩

theorem loc_index (hE : E.Good) {t : TypeId} {xo io : Operand} (hop : o.op = .index t xo io)
    {z1 z2 : Nat} {z3 : List Value} (ht : E.T t = some ⟨.str, z1, z2, z3⟩) {b : ByteArray} {ik : IntKind} {n : Int} (hx : ev s xo = .d (.lit (.string b))) (hi : ev s io = .d (.lit (.int ik n))) (h0 : 0 ≤ n) {x : UInt8} (hn : b.data.toList[n.toNat]? = some x) :
    Loc E ops J h o s (.d (.lit (.int .u8 x.toNat))) := by
  refine ⟨(by rw [hop]; intro c hc; cases hc), fun Z K Y ι a w m hl => ?_⟩
  obtain ⟨dst, op, ty, pos, af, gd⟩ := o
  simp only at hop
  subst hop
  have h1 := hl xo (by simp [Op.operands])
  have h2 := hl io (by simp [Op.operands])
  rw [hx] at h1
  rw [hi] at h2
  obtain ⟨e2, _⟩ := RA_lit.1 h2
  obtain ⟨e1, _⟩ := RA_lit.1 h1
  have hu := (hE.ok.T t _ ht).2
  simp only [TK.fits] at hu
  have hb : b[n.toNat]? = some x := by
    obtain ⟨hlt, hxe⟩ := List.getElem?_eq_some_iff.1 hn
    have hlt' : n.toNat < b.size := by simpa using hlt
    rw [getElem?_pos b n.toNat hlt']
    simp only [Option.some.injEq]
    rw [← hxe]
    simp [ByteArray.getElem_eq_getElem_data]
  refine ⟨.int .u8 x.toNat, w, by simp [execOp, Instr.index, e1, e2, asIntOf, run_underlying hu, h0, hb], Grew.refl w, RA_lit_mk ?_⟩
  have := x.toNat_lt
  simp only [okLit]
  constructor <;> simp [IntKind.min, IntKind.max, IntKind.signed, IntKind.bits] <;> omega

/-- '==', '!=' of structs, as a law of their type says. -/
def EqLaw (P : Program) (t : TypeId) (X Y : List AV) (r : Bool) : Prop :=
  ∀ (C : Cx) (xs ys : Array Value) (w : World) (xo yo : Operand), RAs C X xs.toList → RAs C Y ys.toList →
    (do eqGuard .eql t xo yo (.agg xs) (.agg ys); binOp .eql t (.agg xs) (.agg ys) : Sem Value).run P w = .ok (.bool r) w ∧
    (do eqGuard .neq t xo yo (.agg xs) (.agg ys); binOp .neq t (.agg xs) (.agg ys) : Sem Value).run P w = .ok (.bool (!r)) w
theorem loc_eql {t yt : TypeId} {xo yo : Operand} (hop : o.op = .binOp .eql t xo yo yt) {X Y : List AV} (hx : ev s xo = .agg X) (hy : ev s yo = .agg Y) {r : Bool} (hq : EqLaw E.P t X Y r) : Loc E ops J h o s (.d (.lit (.bool r))) := by
  refine ⟨(by rw [hop]; intro c hc; cases hc), fun Z K Y ι a w m hl => ?_⟩
  obtain ⟨dst, op, ty, pos, af, gd⟩ := o
  simp only at hop
  subst hop
  have h1 := hl xo (by simp [Op.operands])
  have h2 := hl yo (by simp [Op.operands])
  rw [hx] at h1
  rw [hy] at h2
  simp only [RA] at h1 h2
  obtain ⟨xs, e1, g1⟩ := h1
  obtain ⟨ys, e2, g2⟩ := h2
  refine OGives.of ⟨.bool r, w, ?_, Grew.refl w, RA_lit_mk trivial⟩
  show (do eqGuard .eql t xo yo (a.eval xo) (a.eval yo); binOp .eql t (a.eval xo) (a.eval yo) : Sem Value).run E.P w = _
  rw [e1, e2]
  exact (hq _ xs ys w xo yo g1 g2).1
theorem loc_neq {t yt : TypeId} {xo yo : Operand} (hop : o.op = .binOp .neq t xo yo yt) {X Y : List AV} (hx : ev s xo = .agg X) (hy : ev s yo = .agg Y) {r : Bool} (hq : EqLaw E.P t X Y r) : Loc E ops J h o s (.d (.lit (.bool (!r)))) := by
  refine ⟨(by rw [hop]; intro c hc; cases hc), fun Z K Y ι a w m hl => ?_⟩
  obtain ⟨dst, op, ty, pos, af, gd⟩ := o
  simp only at hop
  subst hop
  have h1 := hl xo (by simp [Op.operands])
  have h2 := hl yo (by simp [Op.operands])
  rw [hx] at h1
  rw [hy] at h2
  simp only [RA] at h1 h2
  obtain ⟨xs, e1, g1⟩ := h1
  obtain ⟨ys, e2, g2⟩ := h2
  refine OGives.of ⟨.bool (!r), w, ?_, Grew.refl w, RA_lit_mk trivial⟩
  show (do eqGuard .neq t xo yo (a.eval xo) (a.eval yo); binOp .neq t (a.eval xo) (a.eval yo) : Sem Value).run E.P w = _
  rw [e1, e2]
  exact (hq _ xs ys w xo yo g1 g2).2

/-! ### Cutting -/
theorem loc_slice (hE : E.Good) {t : TypeId} {xo : Operand} {lo hi : Option Operand} (hop : o.op = .slice t xo lo hi none) {e : TypeId} {z1 z2 : Nat} {z3 : List Value} (ht : E.T t = some ⟨.slice e, z1, z2, z3⟩) {sz bts : Nat} {k : TK} {z5 : Nat} {z6 : List Value} (hte : E.T e = some ⟨k, sz, z5, z6⟩)
    {xs : List (List D)} (hx : ev s xo = .d (.sl sz bts xs)) {l u : Nat} (hl : match lo with | some p => ∃ ik, ev s p = .d (.lit (.int ik (l : Int))) | none => l = 0) (hu : match hi with | some p => ∃ ik, ev s p = .d (.lit (.int ik (u : Int))) | none => u = xs.length)
    (h1 : l ≤ u) (h2 : u ≤ xs.length) : Loc E ops J h o s (.d (.sl sz bts ((xs.take u).drop l))) := by
  refine ⟨(by rw [hop]; intro c hc; cases hc), fun Z K Y ι a w m hlk => ?_⟩
  obtain ⟨dst, op, ty, pos, af, gd⟩ := o
  simp only at hop
  subst hop
  have hxv := hlk xo (by simp [Op.operands])
  rw [hx] at hxv
  simp only [RA, RD] at hxv
  obtain ⟨ad, cap, e1, g1, g2, g3, hc⟩ := hxv
  have hund := (hE.ok.T t _ ht).2
  simp only [TK.fits] at hund
  have hsz := run_size hE.ok.T hte w
  have hl' : ∀ p, lo = some p → ∃ ik, a.eval p = .int ik (l : Int) := by
    intro p hp
    subst hp
    obtain ⟨ik, hik⟩ := hl
    have := hlk p (by simp [Op.operands])
    rw [hik] at this
    exact ⟨ik, (RA_lit.1 this).1⟩
  have hu' : ∀ p, hi = some p → ∃ ik, a.eval p = .int ik (u : Int) := by
    intro p hp
    subst hp
    obtain ⟨ik, hik⟩ := hu
    have := hlk p (by simp [Op.operands])
    rw [hik] at this
    exact ⟨ik, (RA_lit.1 this).1⟩
  have hbo : (Instr.sliceBounds true xs.length cap (lo.map a.eval) (hi.map a.eval) none).run E.P w = .ok (l, u, cap) w := by
    have bnd : ∀ (ik : IntKind) (x y : Nat) (c : BoundsCode), x ≤ y → (Instr.sliceBound (.int ik (x : Int)) y c).run E.P w = .ok x w := by
      intro ik x y c hxy
      simp [Instr.sliceBound, asIntOf, hxy]
    cases lo with
    | none =>
      simp only at hl
      subst hl
      cases hi with
      | none => simp only at hu; subst hu; simp [Instr.sliceBounds]
      | some q =>
        obtain ⟨ik, hq⟩ := hu' q rfl
        simp [Instr.sliceBounds, hq, bnd ik u cap .sliceAcap (by omega)]
    | some p =>
      obtain ⟨ik, hp⟩ := hl' p rfl
      cases hi with
      | none => simp only at hu; subst hu; simp [Instr.sliceBounds, hp, bnd ik l xs.length .sliceB h1]
      | some q =>
        obtain ⟨ik', hq⟩ := hu' q rfl
        simp [Instr.sliceBounds, hp, hq, bnd ik' u cap .sliceAcap (by omega), bnd ik l u .sliceB h1]
  have hlen : ((xs.take u).drop l).length = u - l := by simp; omega
  refine ⟨.slice (if cap = l then ad else ad.map (·.add (l * sz))) (u - l) (cap - l), w, ?_, Grew.refl w, ?_⟩
  · simp [execOp, Instr.sliceAt, Instr.slice, run_underlying hund, e1, hbo, hsz]
  · simp only [RA, RD]
    refine ⟨_, _, by rw [hlen], by rw [hlen]; omega, ?_, by rw [hlen]; omega, ?_⟩
    · rw [hlen]
      exact Nat.le_trans (Nat.mul_le_mul_right _ (by omega)) g2
    · by_cases hne : (xs.take u).drop l = []
      · exact .inl hne
      · have hlu : l < u := by
          rcases Nat.lt_or_ge l u with h | h
          · exact h
          · exfalso; apply hne; apply List.eq_nil_of_length_eq_zero; rw [hlen]; omega
        rcases hc with rfl | ⟨b, off, rfl, hm, hb, hcs⟩
        · simp at h2; omega
        · right
          refine ⟨b, off + l * sz, ?_, hm, hb, ?_⟩
          · rw [if_neg (by omega)]
            simp only [Option.map_some, Option.some.injEq]
            unfold Addr.add
            split
            · rename_i hz; rw [hz]; simp
            · rfl
          · have key : ∀ (l : Nat) (xs : List (List D)) (off : Nat), RCs w (cx Z h ι w).M b sz xs off → RCs w (cx Z h ι w).M b sz (xs.drop l) (off + l * sz) := by
              intro l
              induction l with
              | zero => intro xs off hh; simpa using hh
              | succ l ih =>
                intro xs off hh
                cases xs with
                | nil => simp [RCs]
                | cons x xs =>
                  simp only [RCs] at hh
                  have := ih xs (off + sz) hh.2.2
                  simp only [List.drop_succ_cons]
                  rwa [show off + (l + 1) * sz = off + sz + l * sz by rw [Nat.add_mul]; omega]
            have key2 : ∀ (u : Nat) (xs : List (List D)) (off : Nat), RCs w (cx Z h ι w).M b sz xs off → RCs w (cx Z h ι w).M b sz (xs.take u) off := by
              intro u
              induction u with
              | zero => intro xs off hh; simp [RCs]
              | succ u ih =>
                intro xs off hh
                cases xs with
                | nil => simp [RCs]
                | cons x xs =>
                  simp only [RCs] at hh
                  simp only [List.take_succ_cons, RCs]
                  exact ⟨hh.1, hh.2.1, ih xs (off + sz) hh.2.2⟩
            exact key l _ off (key2 u xs off hcs)
end
end Go.AL
