/- AL, part 32: a variable of the frame's own handed on as data: nobody writes it from now on. -/
import Derived.Test.YthffbfjnahipcaaA31
namespace Go.AL
set_option linter.unusedVariables false
set_option linter.unusedSimpArgs false
mutual
def fb (k : Nat) (ds : List D) : AV → AV
  | .d x => .d x
  | .any => .any
  | .agg cs => .agg (fbs k ds cs)
  | .tup cs => .tup (fbs k ds cs)
  | .fn f a b => .fn f (fbs k ds a) (fbs k ds b)
  | .ptr j o => bif Nat.beq j k then .d (.iptr (ds.drop o)) else .ptr j o
  | .row j => bif Nat.beq j k then .any else .row j
def fbs (k : Nat) (ds : List D) : List AV → List AV
  | [] => []
  | x :: xs => fb k ds x :: fbs k ds xs
end
def fbS (k : Nat) (ds : List D) (s : Slots) : Slots := fun i => fb k ds (s i)
def fbE (k : Nat) (ds : List D) : Ent → Ent
  | .box t cs => .box t (fbs k ds cs)
  | .row e sz xs => .row e sz xs
  | .ghost cs vs => .ghost (fbs k ds cs) vs
def fbH (k : Nat) (ds : List D) (h : Heap) : Heap := fun j => bif Nat.beq j k then none else match h j with
  | some e => some (fbE k ds e)
  | none => none
mutual
theorem RA_fb {k : Nat} {ds : List D} {C C' : Cx} (hk : Keeps C.w C'.w C.M C'.M) (hd : ∀ j, j ≠ k → C.dom j → C'.dom j ∧ C'.ι j = C.ι j) (hX : ∀ o b, blk (C.ι k) = some b → RD C'.w C'.M (.iptr (ds.drop o)) (.pointer (some ⟨b, o, none⟩))) : ∀ (x : AV) (v : Value), RA C x v → RA C' (fb k ds x) v
  | .d x, v => fun hx => by simp only [RA, fb] at hx ⊢; exact RD_keeps hk x v hx
  | .agg cs, v => fun hx => by
    simp only [RA, fb] at hx ⊢
    obtain ⟨vs, e, h1⟩ := hx
    exact ⟨vs, e, RAs_fb hk hd hX cs _ h1⟩
  | .tup cs, v => fun hx => by
    simp only [RA, fb] at hx ⊢
    obtain ⟨vs, e, h1⟩ := hx
    exact ⟨vs, e, RAs_fb hk hd hX cs _ h1⟩
  | .fn f first cap, v => fun hx => by
    simp only [RA, fb] at hx ⊢
    obtain ⟨vf, vc, e, h1, h2⟩ := hx
    exact ⟨vf, vc, e, RAs_fb hk hd hX first _ h1, RAs_fb hk hd hX cap _ h2⟩
  | .any, v => fun _ => by simp only [RA, fb]
  | .ptr j o, v => fun hx => by
    simp only [fb]
    cases hb : Nat.beq j k with
    | true =>
      have e := Nat.eq_of_beq_eq_true hb
      subst e
      simp only [RA, cond_true] at hx ⊢
      obtain ⟨_, b, hbk, e⟩ := hx
      rw [e]; exact hX o b hbk
    | false =>
      have hne : j ≠ k := by intro e; subst e; simp at hb
      simp only [RA, cond_false] at hx ⊢
      obtain ⟨hj, b, hbk, e⟩ := hx
      have := hd j hne hj
      exact ⟨this.1, b, by rw [this.2]; exact hbk, e⟩
  | .row j, v => fun hx => by
    simp only [fb]
    cases hb : Nat.beq j k with
    | true => simp [RA]
    | false =>
      have hne : j ≠ k := by intro e; subst e; simp at hb
      simp only [RA, cond_false] at hx ⊢
      have := hd j hne hx.1
      exact ⟨this.1, by rw [this.2]; exact hx.2⟩
theorem RAs_fb {k : Nat} {ds : List D} {C C' : Cx} (hk : Keeps C.w C'.w C.M C'.M) (hd : ∀ j, j ≠ k → C.dom j → C'.dom j ∧ C'.ι j = C.ι j) (hX : ∀ o b, blk (C.ι k) = some b → RD C'.w C'.M (.iptr (ds.drop o)) (.pointer (some ⟨b, o, none⟩))) : ∀ (xs : List AV) (vs : List Value), RAs C xs vs → RAs C' (fbs k ds xs) vs
  | [], vs => fun hx => by simpa only [RAs, fbs] using hx
  | x :: xs, vs => fun hx => by
    simp only [RAs, fbs] at hx ⊢
    obtain ⟨v, t, e, h1, h2⟩ := hx
    exact ⟨v, t, e, RA_fb hk hd hX x v h1, RAs_fb hk hd hX xs t h2⟩
end

theorem LE_freezeBox {E : Env} {J : Jt} {s : Slots} {h : Heap} (k : Nat) {t : TypeId} {cs : List AV} {ds : List D} (hk : h k = some (.box t cs)) (hds : cs = ds.map .d) : LE E ⟨J, s, h⟩ ⟨J, fbS k ds s, fbH k ds h⟩ := fun ι a w ⟨Z, K, Y, hZE, r⟩ => by
  subst hds
  have hdom : ∀ j, dom (fbH k ds h) j ↔ j ≠ k ∧ dom h j := by
    intro j
    unfold dom fbH
    cases hbq : Nat.beq j k with
    | true =>
      have e := Nat.eq_of_beq_eq_true hbq
      simp [e]
    | false =>
      have hne : j ≠ k := by intro e; subst e; simp at hbq
      simp only [cond_false]
      cases hj : h j <;> simp [hne]
  have hkd : dom h k := by simp [dom, hk]
  have keeps : Keeps w w (cx Z h ι w).M (cx Z (fbH k ds h) ι w).M := by
    refine ⟨fun _ _ _ _ hh => hh, fun _ _ hh => hh, fun b _ hm hm' => ?_⟩
    rcases hm' with hz | ⟨j, hj, hjb⟩
    · exact hm (.inl hz)
    · exact hm (.inr ⟨j, ((hdom j).1 hj).2, hjb⟩)
  have hd : ∀ j, j ≠ k → (cx Z h ι w).dom j → (cx Z (fbH k ds h) ι w).dom j ∧ ι j = ι j := fun j hne hj => ⟨(hdom j).2 ⟨hne, hj⟩, rfl⟩
  have hX : ∀ o b, blk (ι k) = some b → RD w (cx Z (fbH k ds h) ι w).M (.iptr (ds.drop o)) (.pointer (some ⟨b, o, none⟩)) := by
    intro o b hb
    obtain ⟨b', vs, h1, h2, h3⟩ := r.mem.ent k _ hk
    have : b' = b := by rw [blk_ptr h1] at hb; injection hb
    subst this
    have h2' : w.heap[b']? = some (.cells vs t (0, 0)) := h2
    simp only [RD]
    refine ⟨b', o, rfl, fun hm => ?_, ⟨_, _, _, h2'⟩, RC_of_list (RDs_keeps keeps _ _ (RDs_drop o (RAs_map_d.1 h3))) fun j v hj => ?_⟩
    · rcases hm with hz | ⟨j, hj, hjb⟩
      · exact (r.mem.own k b' hkd hb).1 hz
      · have hj' := (hdom j).1 hj
        exact hj'.1 (r.mem.apart j k b' hj'.2 hkd hjb hb)
    · simp only [World.cell?, h2']
      simpa [List.getElem?_drop] using hj
  refine ⟨ι, Z, K, Y, hZE, ⟨fun j e' hj => ?_, fun j b hj hjb => r.mem.own j b ((hdom j).1 hj).2 hjb, fun j j' b hj hj' => r.mem.apart j j' b ((hdom j).1 hj).2 ((hdom j').1 hj').2, r.mem.Zlt, r.mem.Klt, r.mem.Jw, r.mem.Jc⟩, r.size,
    fun j => RA_fb (C := cx Z h ι w) (C' := cx Z (fbH k ds h) ι w) keeps hd hX _ _ (r.slot j), r.ds⟩
  have hj0 : j ≠ k := ((hdom j).1 (show (fbH k ds h j).isSome = true by rw [show fbH k ds h j = some e' from hj]; rfl)).1
  have hbq : Nat.beq j k = false := Bool.eq_false_iff.2 fun h' => hj0 (Nat.eq_of_beq_eq_true h')
  have hj' : (match h j with | some e => some (fbE k ds e) | none => none) = some e' := by
    have : fbH k ds h j = some e' := hj
    unfold fbH at this
    rw [hbq] at this
    exact this
  split at hj'
  · rename_i e0 he0
    cases hj'
    have ho := r.mem.ent j e0 he0
    cases e0 with
    | box t cs =>
      obtain ⟨b, vs, h1, h2, h3⟩ := ho
      exact ⟨b, vs, h1, h2, RAs_fb (C := cx Z h ι w) (C' := cx Z (fbH k ds h) ι w) keeps hd hX _ _ h3⟩
    | row e2 sz2 xs2 =>
      obtain ⟨vs, h1, h2, h3⟩ := ho
      exact ⟨vs, h1, RDs_keeps keeps _ _ h2, h3⟩
    | ghost cs vs => exact ⟨ho.1, RAs_fb (C := cx Z h ι w) (C' := cx Z (fbH k ds h) ι w) keeps hd hX _ _ ho.2⟩
  · cases hj'

/-- 's + t' of texts. -/
theorem loc_concat {E : Env} {ops : List Oper} {J : Jt} {s : Slots} {h : Heap} (hE : E.Good) {o : Oper} {t yt : TypeId} {xo yo : Operand} (hop : o.op = .binOp .add t xo yo yt) {x y : ByteArray} (hx : ev s xo = .d (.lit (.string x))) (hy : ev s yo = .d (.lit (.string y))) (hsz : x.size + y.size ≤ 140737488355328) : Loc E ops J h o s (.d (.lit (.string (x ++ y)))) := by
  refine ⟨(by rw [hop]; intro c hc; cases hc), fun Z K Y ι ac w m hl => ?_⟩
  obtain ⟨dst, op, ty, pos, af, gd⟩ := o
  simp only at hop
  subst hop
  have h1 := hl xo (by simp [Op.operands])
  have h2 := hl yo (by simp [Op.operands])
  rw [hx] at h1
  rw [hy] at h2
  obtain ⟨e1, o1⟩ := RA_lit.1 h1
  obtain ⟨e2, o2⟩ := RA_lit.1 h2
  have hg : (eqGuard .add t xo yo (.string x) (.string y)).run E.P w = .ok () w := by
    unfold eqGuard; split <;> simp
  refine ⟨.string (x ++ y), w, ?_, Grew.refl w, RA_lit_mk (by simp only [okLit, ByteArray.size_append]; omega)⟩
  · simp only [execOp, e1, e2, Sem.run_bind, hg, Result.andThen_ok]
    simp [binOp, Op.stringOp]
    omega
end Go.AL
