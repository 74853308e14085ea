/- Parts of an abstract logic over the kit's walks, and walks in it: A30, A31, A32, A33, A34, A35, A36, A41, A37, A43, A44, A45, A46, A47, A48, A49, A38, A39, A40, A42. -/
import Derived.Test.YtojnicnbmgiplaaAd
import Derived.Test.YtojnicnbmgiplaaAc
/- AL, part 30: struct values in a head; a nil slice inside a variable as a row; a row made shorter; a cut where several ways meet. -/
namespace Go.AL
set_option linter.unusedVariables false
set_option linter.unusedSimpArgs false

section
variable {E : Env} {ops : List Oper} {Q : Exit → St → Prop} {i : Nat} {J : Jt} {s : Slots} {h : Heap} {o : Oper}

theorem loc_build (hE : E.Good) {t : TypeId} {parts : Array (Nat × Operand)} (hop : o.op = .build t parts) {R : AV} (hR : stepBuild E.T s t parts.toList = some R) : Loc E ops J h o s R := by
  refine ⟨(by rw [hop]; intro c hc; cases hc), fun Z K Y ι a w m hlk => ?_⟩
  obtain ⟨dst, op, ty, pos, af, gd⟩ := o
  simp only at hop
  subst hop
  unfold stepBuild at hR
  split at hR
  · rename_i fs sz bt z ht
    split at hR
    · rename_i ps cs hps hcs
      simp only [Option.map_eq_some_iff] at hR
      obtain ⟨R', hR', rfl⟩ := hR
      obtain ⟨fields, hu, hf⟩ := (hE.ok.T t _ ht).2
      obtain ⟨zv, hz1, hz2⟩ := run_zero hE.ok.T ht w
      rw [← hf] at hps
      have hpr := places_run hE.ok.T (w := w) fields.toList ps hps
      have hpr' : (fields.mapM fun f => (do pure (f.offset, ← sizeOf f.type) : Sem (Nat × Nat))).run E.P w = .ok ps.toArray w := by
        rw [Array.mapM_eq_mapM_toList, map_eq_pure_bind, Sem.run_bind, hpr]
        simp
      obtain ⟨r', hr1, hr2⟩ := afill_ok (C := cx Z h ι w) m.named (places := ps) (place := (ps.toArray[·]?)) (fun i q hq => by simpa using hq) (parts.toList.map fun p => (p.1, ev s p.2)) (parts.toList.map fun p => (p.1, a.eval p.2)) cs zv.cells R' (by simp) (by
        have := RAs_evs (C := cx Z h ι w) (s := s) (a := a) (l := parts.toList.map (·.2)) fun x hx => hlk x (by simp only [Op.operands, Array.toList_map]; exact hx)
        simpa [List.map_map, Function.comp_def] using this) (by rw [hz2]; exact litCells_ok hcs) hR'
      refine ⟨.agg r', w, ?_, Grew.refl w, by simp only [RA]; exact ⟨_, rfl, hr2⟩⟩
      have hb : (Instr.build t (parts.map fun p => (p.1, a.eval p.2))).run E.P w = .ok (.agg r') w := by
        unfold Instr.build
        simp only [Sem.run_bind, hz1, Result.andThen_ok, run_underlying hu, hpr', Array.toList_map, hr1, Sem.run_pure]
      simp only [execOp, Sem.run_bind]
      rw [hb]
      simp
    · cases hR
  · cases hR

/-- Several ways meet: what is told of all of them goes on. -/
theorem CW_cutE {x y : Code} {st : St} {α : Type} (S : α → St) (φ : α → Prop) (h : CW E x (thenQ (fun st => ∃ p, φ p ∧ LE E st (S p)) Q) st) (h2 : ∀ p, φ p → CW E y Q (S p)) : CW E (.seq x y) Q st :=
  CW_seq (CW.mono h fun e st' q => by
    cases e with
    | normal => obtain ⟨p, hp, hle⟩ := q; exact CW.le hle (h2 p hp)
    | _ => exact q)
end
end Go.AL
/- AL, part 31: regions that draw whose last operations come in several orders; 'max'. -/
namespace Go.AL
set_option linter.unusedVariables false
set_option linter.unusedSimpArgs false

section
variable {E : Env} {ops : List Oper} {Y : Nat → Slots → AV → Prop}
end

/-! ### Behind the head: whichever is ready -/
section
variable {E : Env} {ops : List Oper} {Q : Exit → St → Prop} {st : St} {listed : Array Bool} {g : Nat}
end

/-- 'max' of two ints. -/
theorem loc_max {E : Env} {ops : List Oper} {J : Jt} {s : Slots} {h : Heap} (hE : E.Good) {o : Oper} {xo yo : Operand} {t : TypeId} (hop : o.op = .call ⟨.builtin .max, #[xo, yo], #[t, t]⟩) {x1 x2 : Nat} {x3 : List Value} (ht : E.T t = some ⟨.int .i64, x1, x2, x3⟩) {a b : Int} (hx : ev s xo = .d (.lit (.int .i64 a))) (hy : ev s yo = .d (.lit (.int .i64 b))) :
    Loc E ops J h o s (.d (.lit (.int .i64 (max a b)))) := by
  refine ⟨(by rw [hop]; intro c hc; cases hc), fun Z K Y ι ac w m hl => ?_⟩
  obtain ⟨dst, op, ty, pos, af, gd⟩ := o
  simp only at hop
  subst hop
  have h1 := hl xo (by simp [Op.operands, Call.operands])
  have h2 := hl yo (by simp [Op.operands, Call.operands])
  rw [hx] at h1
  rw [hy] at h2
  obtain ⟨e1, o1⟩ := RA_lit.1 h1
  obtain ⟨e2, o2⟩ := RA_lit.1 h2
  have hu := (hE.ok.T t _ ht).2
  simp only [TK.fits] at hu
  refine ⟨.int .i64 (max a b), w, ?_, Grew.refl w, RA_lit_mk ?_⟩
  · have hm : (if b > a then b else a) = max a b := by simp only [Int.max_def]; split <;> split <;> omega
    simp [execOp, resolve, invoke, builtin, Builtin.max_, Builtin.max2, e1, e2, hm]
  · simp only [okLit] at o1 o2 ⊢
    omega

end Go.AL
/- AL, part 32: a variable of the frame's own handed on as data: nobody writes it from now on. -/
namespace Go.AL
set_option linter.unusedVariables false
set_option linter.unusedSimpArgs false
mutual
def fb (k : Nat) (ds : List D) : AV → AV
  | .d x => .d x
  | .any => .any
  | .agg cs => .agg (fbs k ds cs)
  | .tup cs => .tup (fbs k ds cs)
  | .fn f a b => .fn f (fbs k ds a) (fbs k ds b)
  | .ptr j o => bif Nat.beq j k then .d (.iptr (ds.drop o)) else .ptr j o
  | .row j => bif Nat.beq j k then .any else .row j
  | .view j o n => bif Nat.beq j k then .any else .view j o n
def fbs (k : Nat) (ds : List D) : List AV → List AV
  | [] => []
  | x :: xs => fb k ds x :: fbs k ds xs
end
def fbS (k : Nat) (ds : List D) (s : Slots) : Slots := fun i => fb k ds (s i)
def fbE (k : Nat) (ds : List D) : Ent → Ent
  | .box t cs => .box t (fbs k ds cs)
  | .row e sz xs => .row e sz xs
  | .ghost cs vs => .ghost (fbs k ds cs) vs
  | .rowA e sz n cs => .rowA e sz n (fbs k ds cs)
def fbH (k : Nat) (ds : List D) (h : Heap) : Heap := fun j => bif Nat.beq j k then none else match h j with
  | some e => some (fbE k ds e)
  | none => none
mutual
theorem RA_fb {k : Nat} {ds : List D} {C C' : Cx} (hk : Keeps C.w C'.w C.M C'.M) (hd : ∀ j, j ≠ k → C.dom j → C'.dom j ∧ C'.ι j = C.ι j) (hX : ∀ o b, blk (C.ι k) = some b → RD C'.w C'.M (.iptr (ds.drop o)) (.pointer (some ⟨b, o, none⟩))) : ∀ (x : AV) (v : Value), RA C x v → RA C' (fb k ds x) v
  | .d x, v => fun hx => by simp only [RA, fb] at hx ⊢; exact RD_keeps hk x v hx
  | .agg cs, v => fun hx => by
    simp only [RA, fb] at hx ⊢
    obtain ⟨vs, e, h1⟩ := hx
    exact ⟨vs, e, RAs_fb hk hd hX cs _ h1⟩
  | .tup cs, v => fun hx => by
    simp only [RA, fb] at hx ⊢
    obtain ⟨vs, e, h1⟩ := hx
    exact ⟨vs, e, RAs_fb hk hd hX cs _ h1⟩
  | .fn f first cap, v => fun hx => by
    simp only [RA, fb] at hx ⊢
    obtain ⟨vf, vc, e, h1, h2⟩ := hx
    exact ⟨vf, vc, e, RAs_fb hk hd hX first _ h1, RAs_fb hk hd hX cap _ h2⟩
  | .any, v => fun _ => by simp only [RA, fb]
  | .ptr j o, v => fun hx => by
    simp only [fb]
    cases hb : Nat.beq j k with
    | true =>
      have e := Nat.eq_of_beq_eq_true hb
      subst e
      simp only [RA, cond_true] at hx ⊢
      obtain ⟨_, b, hbk, e⟩ := hx
      rw [e]; exact hX o b hbk
    | false =>
      have hne : j ≠ k := by intro e; subst e; simp at hb
      simp only [RA, cond_false] at hx ⊢
      obtain ⟨hj, b, hbk, e⟩ := hx
      have := hd j hne hj
      exact ⟨this.1, b, by rw [this.2]; exact hbk, e⟩
  | .view j o n, v => fun hx => by
    simp only [fb]
    cases hb : Nat.beq j k with
    | true => simp [RA]
    | false =>
      have hne : j ≠ k := by intro e; subst e; simp at hb
      simp only [RA, cond_false] at hx ⊢
      obtain ⟨hj, b, cap, hbk, e⟩ := hx
      have := hd j hne hj
      exact ⟨this.1, b, cap, by rw [this.2]; exact hbk, by rw [this.2]; exact e⟩
  | .row j, v => fun hx => by
    simp only [fb]
    cases hb : Nat.beq j k with
    | true => simp [RA]
    | false =>
      have hne : j ≠ k := by intro e; subst e; simp at hb
      simp only [RA, cond_false] at hx ⊢
      have := hd j hne hx.1
      exact ⟨this.1, by rw [this.2]; exact hx.2⟩
theorem RAs_fb {k : Nat} {ds : List D} {C C' : Cx} (hk : Keeps C.w C'.w C.M C'.M) (hd : ∀ j, j ≠ k → C.dom j → C'.dom j ∧ C'.ι j = C.ι j) (hX : ∀ o b, blk (C.ι k) = some b → RD C'.w C'.M (.iptr (ds.drop o)) (.pointer (some ⟨b, o, none⟩))) : ∀ (xs : List AV) (vs : List Value), RAs C xs vs → RAs C' (fbs k ds xs) vs
  | [], vs => fun hx => by simpa only [RAs, fbs] using hx
  | x :: xs, vs => fun hx => by
    simp only [RAs, fbs] at hx ⊢
    obtain ⟨v, t, e, h1, h2⟩ := hx
    exact ⟨v, t, e, RA_fb hk hd hX x v h1, RAs_fb hk hd hX xs t h2⟩
end

theorem LE_freezeBox {E : Env} {J : Jt} {s : Slots} {h : Heap} (k : Nat) {t : TypeId} {cs : List AV} {ds : List D} (hk : h k = some (.box t cs)) (hds : cs = ds.map .d) : LE E ⟨J, s, h⟩ ⟨J, fbS k ds s, fbH k ds h⟩ := fun ι a w ⟨Z, K, Y, hZE, r⟩ => by
  subst hds
  have hdom : ∀ j, dom (fbH k ds h) j ↔ j ≠ k ∧ dom h j := by
    intro j
    unfold dom fbH
    cases hbq : Nat.beq j k with
    | true =>
      have e := Nat.eq_of_beq_eq_true hbq
      simp [e]
    | false =>
      have hne : j ≠ k := by intro e; subst e; simp at hbq
      simp only [cond_false]
      cases hj : h j <;> simp [hne]
  have hkd : dom h k := by simp [dom, hk]
  have keeps : Keeps w w (cx Z h ι w).M (cx Z (fbH k ds h) ι w).M := by
    refine ⟨fun _ _ _ _ hh => hh, fun _ _ hh => hh, fun b _ hm hm' => ?_⟩
    rcases hm' with hz | ⟨j, hj, hjb⟩
    · exact hm (.inl hz)
    · exact hm (.inr ⟨j, ((hdom j).1 hj).2, hjb⟩)
  have hd : ∀ j, j ≠ k → (cx Z h ι w).dom j → (cx Z (fbH k ds h) ι w).dom j ∧ ι j = ι j := fun j hne hj => ⟨(hdom j).2 ⟨hne, hj⟩, rfl⟩
  have hX : ∀ o b, blk (ι k) = some b → RD w (cx Z (fbH k ds h) ι w).M (.iptr (ds.drop o)) (.pointer (some ⟨b, o, none⟩)) := by
    intro o b hb
    obtain ⟨b', vs, h1, h2, h3⟩ := r.mem.ent k _ hk
    have : b' = b := by rw [blk_ptr h1] at hb; injection hb
    subst this
    have h2' : w.heap[b']? = some (.cells vs t (0, 0)) := h2
    simp only [RD]
    refine ⟨b', o, rfl, fun hm => ?_, ⟨_, _, _, h2'⟩, RC_of_list (RDs_keeps keeps _ _ (RDs_drop o (RAs_map_d.1 h3))) fun j v hj => ?_⟩
    · rcases hm with hz | ⟨j, hj, hjb⟩
      · exact (r.mem.own k b' hkd hb).1 hz
      · have hj' := (hdom j).1 hj
        exact hj'.1 (r.mem.apart j k b' hj'.2 hkd hjb hb)
    · simp only [World.cell?, h2']
      simpa [List.getElem?_drop] using hj
  refine ⟨ι, Z, K, Y, hZE, ⟨fun j e' hj => ?_, fun j b hj hjb => r.mem.own j b ((hdom j).1 hj).2 hjb, fun j j' b hj hj' => r.mem.apart j j' b ((hdom j).1 hj).2 ((hdom j').1 hj').2, r.mem.Zlt, r.mem.Klt, r.mem.Jw, r.mem.Jc⟩, r.size,
    fun j => RA_fb (C := cx Z h ι w) (C' := cx Z (fbH k ds h) ι w) keeps hd hX _ _ (r.slot j), r.ds⟩
  have hj0 : j ≠ k := ((hdom j).1 (show (fbH k ds h j).isSome = true by rw [show fbH k ds h j = some e' from hj]; rfl)).1
  have hbq : Nat.beq j k = false := Bool.eq_false_iff.2 fun h' => hj0 (Nat.eq_of_beq_eq_true h')
  have hj' : (match h j with | some e => some (fbE k ds e) | none => none) = some e' := by
    have : fbH k ds h j = some e' := hj
    unfold fbH at this
    rw [hbq] at this
    exact this
  split at hj'
  · rename_i e0 he0
    cases hj'
    have ho := r.mem.ent j e0 he0
    cases e0 with
    | box t cs =>
      obtain ⟨b, vs, h1, h2, h3⟩ := ho
      exact ⟨b, vs, h1, h2, RAs_fb (C := cx Z h ι w) (C' := cx Z (fbH k ds h) ι w) keeps hd hX _ _ h3⟩
    | row e2 sz2 xs2 =>
      obtain ⟨vs, h1, h2, h3⟩ := ho
      exact ⟨vs, h1, RDs_keeps keeps _ _ h2, h3⟩
    | ghost cs vs => exact ⟨ho.1, RAs_fb (C := cx Z h ι w) (C' := cx Z (fbH k ds h) ι w) keeps hd hX _ _ ho.2⟩
    | rowA e2 sz2 n2 cs =>
      obtain ⟨vs, h1, h2, h3⟩ := ho
      exact ⟨vs, h1, RAs_fb (C := cx Z h ι w) (C' := cx Z (fbH k ds h) ι w) keeps hd hX _ _ h2, h3⟩
  · cases hj'

end Go.AL
/- AL, part 33: shifts to the left. -/
namespace Go.AL
set_option linter.unusedVariables false
set_option linter.unusedSimpArgs false
section
variable {E : Env} {ops : List Oper} {J : Jt} {h : Heap} {s : Slots}
end
end Go.AL
/- AL, part 34: calls that are lent what is the frame's own; rows told with less. -/
namespace Go.AL
set_option linter.unusedVariables false
set_option linter.unusedSimpArgs false
section
variable {E : Env} {ops : List Oper} {Q : Exit → St → Prop} {i : Nat} {J : Jt} {h : Heap} {s : Slots}

/-! ### Data told with less -/
def Dle (x y : D) : Prop := ∀ w M v, RD w M x v → RD w M y v
def Dles (x y : List D) : Prop := ∀ w M vs, RDs w M x vs → RDs w M y vs
theorem Dle.refl (x : D) : Dle x x := fun _ _ _ h => h
theorem Dles.refl (x : List D) : Dles x x := fun _ _ _ h => h
theorem Dles.nil : Dles [] [] := fun _ _ _ h => h
theorem Dles.cons {x y : D} {xs ys : List D} (h : Dle x y) (hs : Dles xs ys) : Dles (x :: xs) (y :: ys) := fun w M vs hv => by
  simp only [RDs] at hv ⊢
  obtain ⟨v, t, e, h1, h2⟩ := hv
  exact ⟨v, t, e, h _ _ _ h1, hs _ _ _ h2⟩
theorem RDs_split {w : World} {M : Nat → Prop} : ∀ {xs ys : List D} {vs : List Value}, RDs w M (xs ++ ys) vs → ∃ a b, vs = a ++ b ∧ RDs w M xs a ∧ RDs w M ys b
  | [], ys, vs, h => ⟨[], vs, rfl, by simp [RDs], h⟩
  | x :: xs, ys, vs, h => by
    simp only [List.cons_append, RDs] at h
    obtain ⟨v, t, rfl, h1, h2⟩ := h
    obtain ⟨a, b, rfl, h3, h4⟩ := RDs_split h2
    exact ⟨v :: a, b, rfl, by simp only [RDs]; exact ⟨v, a, rfl, h1, h3⟩, h4⟩
theorem Dles.append {x y xs ys : List D} (h : Dles x y) (hs : Dles xs ys) : Dles (x ++ xs) (y ++ ys) := fun w M vs hv => by
  obtain ⟨a, b, rfl, h1, h2⟩ := RDs_split hv
  exact RDs_append (h _ _ _ h1) (hs _ _ _ h2)
theorem Dle.nilSl (sz bts : Nat) : Dle (.lit (.slice none 0 0)) (.sl sz bts []) := fun w M v hv => by
  simp only [RD] at hv
  obtain ⟨rfl, _⟩ := hv
  simp only [RD]
  exact ⟨none, 0, rfl, by simp, by simp, by simp, by simp⟩
theorem Dles.set {x y : List D} : ∀ {xs : List (List D)} {j : Nat}, xs[j]? = some x → Dles x y → Dles xs.flatten (xs.set j y).flatten
  | [], j, h, _ => by simp at h
  | z :: xs, 0, h, hl => by
    simp at h; subst h
    simpa using hl.append (Dles.refl _)
  | z :: xs, j + 1, h, hl => by
    have := Dles.set (xs := xs) (j := j) (by simpa using h) hl
    simpa using (Dles.refl z).append this
/-- 'a / b', b not nought. -/
theorem loc_quo (hE : E.Good) {o : Oper} {t yt : TypeId} {xo yo : Operand} (hop : o.op = .binOp .quo t xo yo yt) {k : IntKind} {a b : Int} (hx : ev s xo = .d (.lit (.int k a))) (hy : ev s yo = .d (.lit (.int k b))) (hb : b ≠ 0) : Loc E ops J h o s (.d (.lit (.int k (k.wrap (a.tdiv b))))) := by
  refine ⟨(by rw [hop]; intro c hc; cases hc), fun Z K Y ι ac w m hl => ?_⟩
  obtain ⟨dst, op, ty, pos, af, gd⟩ := o
  simp only at hop
  subst hop
  have h1 := hl xo (by simp [Op.operands])
  have h2 := hl yo (by simp [Op.operands])
  rw [hx] at h1
  rw [hy] at h2
  obtain ⟨e1, o1⟩ := RA_lit.1 h1
  obtain ⟨e2, o2⟩ := RA_lit.1 h2
  have hg : (eqGuard .quo t xo yo (.int k a) (.int k b)).run E.P w = .ok () w := by
    unfold eqGuard; split <;> simp
  refine ⟨.int k (k.wrap (a.tdiv b)), w, ?_, Grew.refl w, RA_lit_mk ?_⟩
  · simp only [execOp, e1, e2, Sem.run_bind, hg, Result.andThen_ok]
    simp [binOp, Op.intDiv, hb]
  · exact wrap_ok k _
end
end Go.AL
/- AL, part 35: shifts to the right, the low bits of a number. -/
namespace Go.AL
set_option linter.unusedVariables false
set_option linter.unusedSimpArgs false
section
variable {E : Env} {ops : List Oper} {J : Jt} {h : Heap} {s : Slots}
end
end Go.AL
/- AL, part 36: arrays: written out, their elements read. -/
namespace Go.AL
set_option linter.unusedVariables false
set_option linter.unusedSimpArgs false
def stepBuildA (T : Nat → Option TI) (s : Slots) (t : TypeId) (parts : List (Nat × Operand)) : Option AV :=
  match T t with
  | some ⟨.array n e, _, _, z⟩ => match T e, litCells z with
    | some ti, some cs => (afill ((List.range n).map fun i => (i * ti.size, ti.size)) cs (parts.map fun p => (p.1, ev s p.2))).map .agg
    | _, _ => none
  | _ => none
section
variable {E : Env} {ops : List Oper} {J : Jt} {h : Heap} {s : Slots}
theorem loc_buildA (hE : E.Good) {o : Oper} {t : TypeId} {parts : Array (Nat × Operand)} (hop : o.op = .build t parts) {R : AV} (hR : stepBuildA E.T s t parts.toList = some R) : Loc E ops J h o s R := by
  refine ⟨(by rw [hop]; intro c hc; cases hc), fun Z K Y ι a w m hlk => ?_⟩
  obtain ⟨dst, op, ty, pos, af, gd⟩ := o
  simp only at hop
  subst hop
  unfold stepBuildA at hR
  split at hR
  · rename_i n e sz bt z ht
    split at hR
    · rename_i ti cs hti hcs
      simp only [Option.map_eq_some_iff] at hR
      obtain ⟨R', hR', rfl⟩ := hR
      have hu := (hE.ok.T t _ ht).2
      simp only [TK.fits] at hu
      obtain ⟨zv, hz1, hz2⟩ := run_zero hE.ok.T ht w
      have hsz := run_size hE.ok.T hti w
      obtain ⟨r', hr1, hr2⟩ := afill_ok (C := cx Z h ι w) m.named (places := (List.range n).map fun i => (i * ti.size, ti.size)) (place := fun i => some (i * ti.size, ti.size)) (fun i q hq => by
        simp only [List.getElem?_map, Option.map_eq_some_iff] at hq
        obtain ⟨j, hj, rfl⟩ := hq
        obtain ⟨hlt, hj⟩ := List.getElem?_eq_some_iff.1 hj
        simp at hj
        rw [hj]) (parts.toList.map fun p => (p.1, ev s p.2)) (parts.toList.map fun p => (p.1, a.eval p.2)) cs zv.cells R' (by simp) (by
        have := RAs_evs (C := cx Z h ι w) (s := s) (a := a) (l := parts.toList.map (·.2)) fun x hx => hlk x (by simp only [Op.operands, Array.toList_map]; exact hx)
        simpa [List.map_map, Function.comp_def] using this) (by rw [hz2]; exact litCells_ok hcs) hR'
      refine ⟨.agg r', w, ?_, Grew.refl w, by simp only [RA]; exact ⟨_, rfl, hr2⟩⟩
      have hb : (Instr.build t (parts.map fun p => (p.1, a.eval p.2))).run E.P w = .ok (.agg r') w := by
        unfold Instr.build
        simp only [Sem.run_bind, hz1, Result.andThen_ok, run_underlying hu, hsz, Array.toList_map, hr1, Sem.run_pure]
      simp only [execOp, Sem.run_bind]
      rw [hb]
      simp
    · cases hR
  · cases hR
/-- An element of an array that is a value. -/
theorem loc_indexA (hE : E.Good) {o : Oper} {t : TypeId} {xo io : Operand} (hop : o.op = .index t xo io) {n : Nat} {e : TypeId} {z1 z2 : Nat} {z3 : List Value} (ht : E.T t = some ⟨.array n e, z1, z2, z3⟩) {ti : TI} (hte : E.T e = some ti)
    {cs : List AV} {ik : IntKind} {i : Int} (hx : ev s xo = .agg cs) (hi : ev s io = .d (.lit (.int ik i))) (h0 : 0 ≤ i) (h1 : i < n) {R : AV} (hR : ofCells ti.k.isAgg ti.size (cs.drop (i.toNat * ti.size)) = some R) : Loc E ops J h o s R := by
  refine ⟨(by rw [hop]; intro c hc; cases hc), fun Z K Y ι a w m hl => ?_⟩
  obtain ⟨dst, op, ty, pos, af, gd⟩ := o
  simp only at hop
  subst hop
  have g1 := hl xo (by simp [Op.operands])
  have g2 := hl io (by simp [Op.operands])
  rw [hx] at g1
  rw [hi] at g2
  obtain ⟨e2, _⟩ := RA_lit.1 g2
  simp only [RA] at g1
  obtain ⟨vs, e1, hv⟩ := g1
  have hu := (hE.ok.T t _ ht).2
  simp only [TK.fits] at hu
  have hsz := run_size hE.ok.T hte w
  obtain ⟨v, hv1, hv2⟩ := run_part_of hE.ok.T hte (C := cx Z h ι w) hv (i.toNat * ti.size) hR w
  refine ⟨v, w, ?_, Grew.refl w, hv2⟩
  simp [execOp, Instr.index, e1, e2, asIntOf, run_underlying hu, h0, h1, hsz, hv1]
end
end Go.AL
/- AL, part 41: a law's arguments as they come in, with their bulk: how many values and letters the data hold. -/
namespace Go.AL
set_option linter.unusedVariables false
set_option linter.unusedSimpArgs false

section
variable {P : Program} {T : Nat → Option TI} (hT : TOk P T) {S : List TypeId} (hS : closedT T S = true)
include hT hS
end

end Go.AL
/- AL, part 37: views into rows; functions that write the row that they are handed. -/
namespace Go.AL
set_option linter.unusedVariables false
set_option linter.unusedSimpArgs false
section
variable {E : Env} {ops : List Oper} {Q : Exit → St → Prop} {i : Nat} {J : Jt} {s : Slots} {h : Heap} {o : Oper}

/-- Rows of numbers. -/
def intRow (ks : List Int) : List (List D) := ks.map fun k => [.lit (.int .i64 k)]
theorem intRow_len (ks : List Int) : (intRow ks).length = ks.length := by simp [intRow]
end

/-! ### Functions that write the row of numbers that they are handed, and give it back -/
section
variable {E : Env} {ops : List Oper} {Q : Exit → St → Prop} {i : Nat} {J : Jt} {s : Slots} {h : Heap}
end
end Go.AL
/- AL, part 43: a variable that holds a function which captures that variable: frozen, to any depth. -/
namespace Go.AL
set_option linter.unusedVariables false
set_option linter.unusedSimpArgs false

end Go.AL
/- AL, part 44: rows whose elements hold what is the frame's own. -/
namespace Go.AL
set_option linter.unusedVariables false
set_option linter.unusedSimpArgs false

/-- An entry told otherwise. -/
theorem LE_ent {E : Env} {J : Jt} {s : Slots} {h : Heap} (k : Nat) {e0 e1 : Ent} (hk : h k = some e0) (hd : ∀ C v, EntOk C e0 v → EntOk C e1 v) : LE E ⟨J, s, h⟩ ⟨J, s, hset h k (some e1)⟩ := fun ι a w ⟨Z, K, Y, hZ, r⟩ => by
  have hdom : dom (hset h k (some e1)) = dom h := by
    funext j
    by_cases hj : j = k
    · subst hj; simp [dom, hset_same, hk]
    · simp [dom, hset_ne _ _ hj]
  have hcx : cx Z (hset h k (some e1)) ι w = cx Z h ι w := by simp only [cx, hdom]
  refine ⟨ι, Z, K, Y, hZ, ⟨fun j e' hj => ?_, fun j b hj hb => r.mem.own j b (by rw [← hdom]; exact hj) hb, fun j j' b hj hj' => r.mem.apart j j' b (by rw [← hdom]; exact hj) (by rw [← hdom]; exact hj'), r.mem.Zlt, r.mem.Klt, r.mem.Jw, r.mem.Jc⟩, r.size, fun j => ?_, r.ds⟩
  · rw [show (⟨w, Z, dom (hset h k (some e1)), ι⟩ : Cx) = cx Z h ι w from hcx]
    have hj : hset h k (some e1) j = some e' := hj
    by_cases hjk : j = k
    · subst hjk
      rw [hset_same] at hj
      cases hj
      exact hd _ _ (r.mem.ent j _ hk)
    · rw [hset_ne _ _ hjk] at hj
      exact r.mem.ent j _ hj
  · rw [show cx Z (hset h k (some e1)) ι w = cx Z h ι w from hcx]
    exact r.slot j
theorem LE_rowA {E : Env} {J : Jt} {s : Slots} {h : Heap} (k : Nat) {e : TypeId} {sz : Nat} {xs : List (List D)} {n : Nat} {cs : List AV} (hk : h k = some (.row e sz xs)) (hn : xs.length = n) (hc : xs.flatten.map .d = cs) : LE E ⟨J, s, h⟩ ⟨J, s, hset h k (some (.rowA e sz n cs))⟩ := by
  subst hn; subst hc
  exact LE_ent k hk fun C v ⟨vs, h1, h2, h3, h4⟩ => ⟨vs, h1, RAs_map_d.2 h2, h4⟩
theorem LE_rowD {E : Env} {J : Jt} {s : Slots} {h : Heap} (k : Nat) {e : TypeId} {sz : Nat} {xs : List (List D)} {n : Nat} {cs : List AV} (hk : h k = some (.rowA e sz n cs)) (hn : xs.length = n) (hc : cs = xs.flatten.map .d) (hl : ∀ x ∈ xs, x.length = sz) : LE E ⟨J, s, h⟩ ⟨J, s, hset h k (some (.row e sz xs))⟩ := by
  subst hn; subst hc
  exact LE_ent k hk fun C v ⟨vs, h1, h2, h3⟩ => ⟨vs, h1, RAs_map_d.1 h2, hl, h3⟩
section
variable {E : Env} {ops : List Oper} {Q : Exit → St → Prop} {i : Nat} {J : Jt} {h : Heap} {s : Slots} {o : Oper}
end

/-! ### Literals and append -/
theorem keeps_new {Z K : Nat → Prop} {J : World → Prop} {h : Heap} {ι : Nat → Value} {w w' : World} (m : Mem Z K J h ι w) {k : Nat} (hk : h k = none) (hg : Grew w w') {e : Ent} {v : Value} (hb : ∀ b, blk v = some b → w.heap.size ≤ b) :
    KeepsC (cx Z h ι w) (cx Z (hset h k (some e)) (fun j => bif Nat.beq j k then v else ι j) w') := by
  refine ⟨⟨fun b o u _ hc => cell_grew hg hc, fun b _ hi => hi.grew hg, fun b hlt hm hm' => ?_⟩, fun j hj => ⟨?_, ?_⟩⟩
  · rcases hm' with hz | ⟨j, hj, hjb⟩
    · exact hm (.inl hz)
    · by_cases hjk : j = k
      · subst hjk
        simp only [Nat.beq_refl, cond_true] at hjb
        have hlt' : b < w.heap.size := hlt.lt
        have := hb b hjb
        omega
      · have hbq : Nat.beq j k = false := Bool.eq_false_iff.2 fun h' => hjk (Nat.eq_of_beq_eq_true h')
        simp only [dom, hset_ne h _ hjk] at hj
        simp only [hbq, cond_false] at hjb
        exact hm (.inr ⟨j, hj, hjb⟩)
  · have hjk : j ≠ k := by intro e; subst e; simp [dom, hk] at hj
    show (hset h k _ j).isSome = true
    rw [hset_ne h _ hjk]; exact hj
  · have hjk : j ≠ k := by intro e; subst e; simp [dom, hk] at hj
    have hb : Nat.beq j k = false := Bool.eq_false_iff.2 fun h' => hjk (Nat.eq_of_beq_eq_true h')
    simp [hb]
def partsA (s : Slots) (sz : Nat) : Nat → List (Nat × Operand) → Option (List AV)
  | _, [] => some []
  | i, (j, x) :: r => bif Nat.beq j i && cellsOk (ev s x) && Nat.beq (cellsOf (ev s x)).length sz then
      match partsA s sz (i + 1) r with
      | some cs => some (cellsOf (ev s x) ++ cs)
      | none => none
    else none
theorem partsA_ok {C : Cx} (hn : Named C) {s : Slots} {a : Act} (hs : ∀ x, RA C (ev s x) (a.eval x)) {sz : Nat} : ∀ (parts : List (Nat × Operand)) (i : Nat) (cs : List AV), partsA s sz i parts = some cs →
    (parts.map fun p => (p.1, a.eval p.2)) = (((parts.map fun p => a.eval p.2).zipIdx i).map fun x => (x.2, x.1)) ∧ (∀ v ∈ parts.map (fun p => a.eval p.2), v.cells.size = sz) ∧
    RAs C cs ((parts.map fun p => a.eval p.2).flatMap fun v => v.cells.toList) ∧ cs.length = parts.length * sz
  | [], i, cs, h => by simp [partsA] at h; subst h; simp [RAs]
  | (j, x) :: parts, i, cs, h => by
    simp only [partsA] at h
    cases hb : Nat.beq j i && cellsOk (ev s x) && Nat.beq (cellsOf (ev s x)).length sz with
    | false => rw [hb] at h; cases h
    | true =>
      rw [hb] at h
      simp only [cond_true] at h
      simp only [Bool.and_eq_true] at hb
      obtain ⟨⟨b1, b2⟩, b3⟩ := hb
      have e1 := Nat.eq_of_beq_eq_true b1
      have e3 := Nat.eq_of_beq_eq_true b3
      split at h
      · rename_i cs' hcs
        cases h
        obtain ⟨h1, h2, h3, h4⟩ := partsA_ok hn hs parts (i + 1) cs' hcs
        have hcx := RA_cells hn b2 (hs x)
        have hl := RAs_length hcx
        refine ⟨by simp [h1, e1], ?_, ?_, by simp [h4, e3, Nat.add_mul]; omega⟩
        · intro v hv
          simp only [List.map_cons, List.mem_cons] at hv
          rcases hv with rfl | hv
          · simp at hl; omega
          · exact h2 v hv
        · simp only [List.map_cons, List.flatMap_cons]
          exact RAs_append hcx h3
      · cases h
/-- A literal row whose elements hold what is the frame's own. -/
theorem OW_litsOwnA' {E : Env} {ops : List Oper} {Q : Exit → St → Prop} {i : Nat} {J : Jt} {h : Heap} {s : Slots} (hE : E.Good) (key : Nat) {o : Oper} {t e : TypeId} {len : Nat} {parts : Array (Nat × Operand)} (ho : ops[i]? = some o) (hop : o.op = .buildSlice t len parts) (hw : awant ops o s = some true) (hkey : h key = none) {z1 z2 : Nat} {z3 : List Value} (ht : E.T t = some ⟨.slice e, z1, z2, z3⟩)
    {ti : TI} (hte : E.T e = some ti) (hpos : Nat.ble 1 ti.size = true) (hlen : parts.size = len) (hl1 : Nat.ble 1 len = true) (hsmall : Nat.ble (len * ti.size) 16777216 = true) (hl2 : Nat.ble len 16777216 = true) {cs : List AV} (hx : partsA s ti.size 0 parts.toList = some cs)
    {s' : Slots} (hs : putS E.N s o.dst (.row key) = some s') (hk : OW E ops (i + 1) Q ⟨J, s', hset h key (some (.rowA e ti.size len cs))⟩) : OW E ops i Q ⟨J, s, h⟩ := by
  refine OW_lays (st := ⟨J, s, h⟩) hE ho hw (by rw [hop]; intro c hc; cases hc) key hkey (.rowA e ti.size len cs) (.row key) (fun Z K Y ι a w r => ?_) hs hk
  obtain ⟨dst, op, ty, pos, af, gd⟩ := o
  simp only at hop
  subst hop
  have hu := (hE.ok.T t _ ht).2
  simp only [TK.fits] at hu
  obtain ⟨⟨ie, hie, hsz, hby, z, hz, hzc⟩, _⟩ := hE.ok.T e _ hte
  obtain ⟨h1, h2, h3, h4⟩ := partsA_ok (C := cx Z h ι w) r.mem.named (s := s) (a := a) (fun x => RA_ev x fun t _ => r.slot t) parts.toList 0 cs hx
  have hpos' : 1 ≤ ti.size := Nat.le_of_ble_eq_true hpos
  have hsm' := Nat.le_of_ble_eq_true hsmall
  have h0 : 1 ≤ len := Nat.le_of_ble_eq_true hl1
  have hl := Nat.le_of_ble_eq_true hl2
  have hpl : parts.toList.length = len := by simpa using hlen
  have hcs : ((parts.toList.map fun p => a.eval p.2).flatMap fun v => v.cells.toList).length = len * ti.size := by rw [RAs_length h3, h4, hpl]
  have hb : (Instr.buildSlice t len (parts.map fun p => (p.1, a.eval p.2))).run E.P w = .ok (.slice (some ⟨w.heap.size, 0, none⟩) len len) (w.alloc (.cells ((parts.toList.map fun p => a.eval p.2).flatMap fun v => v.cells.toList).toArray e)) := by
    refine run_buildSlice (P := E.P) w t e len _ _ ie z hu hie hz (by rw [hsz]; omega) (by rw [hsz]; intro h; rcases Nat.mul_eq_zero.1 h with h | h <;> omega) ?_
    rw [hsz]
    have hfw := Great.fill_whole (s := ti.size) hpos' (parts.toList.map fun p => a.eval p.2) ((Array.range (len * ti.size)).map (z.cells[· % z.cells.size]!)) h2 (by simp [hlen])
    rw [← h1] at hfw
    simpa using hfw
  obtain ⟨cells, hcc⟩ : ∃ c, c = ((parts.toList.map fun p => a.eval p.2).flatMap fun v => v.cells.toList).toArray := ⟨_, rfl⟩
  rw [← hcc] at hb
  have h3' : RAs (cx Z h ι w) cs cells.toList := by rw [hcc]; simpa using h3
  have hcs' : cells.size = len * ti.size := by rw [hcc]; simpa using hcs
  refine ⟨.slice (some ⟨w.heap.size, 0, none⟩) len len, .slice (some ⟨w.heap.size, 0, none⟩) len len, w.alloc (.cells cells e), by simp only [execOp, Sem.run_bind]; rw [hb]; simp, Grew.alloc w _, ?_, ?_, key_row⟩
  · intro b hb
    simp only [blk] at hb
    split at hb
    · cases hb
    · cases hb; simp
  · refine ⟨cells.toList, .inr ⟨w.heap.size, len, cells, rfl, by omega, heap_alloc_new w _, by omega, by simp [maxLen]; omega, hcs', ?_⟩, RAs_keeps (keeps_new r.mem hkey (Grew.alloc w _) (fun b hb => by simp only [blk] at hb; split at hb <;> first | (cases hb; done) | (cases hb; exact Nat.le_refl _))) _ _ h3', by omega⟩
    rw [List.take_of_length_le (by simp; omega)]
/-- A row of the frame's own as a source of 'append'. -/
theorem Src_row {w : World} {u : Value} {e : TypeId} {sz n : Nat} {vs : List Value} (h : RowOk w u e sz n vs) : Src w u n vs := by
  rcases h with ⟨a, rfl, rfl, rfl⟩ | ⟨g, cap, cur, rfl, hc0, hg, hnc, hcm, hcs, htk⟩
  · cases a with
    | none => exact .inr ⟨rfl, 0, rfl⟩
    | some a => exact .inl ⟨a, 0, rfl, by simp⟩
  · refine .inl ⟨_, cap, rfl, fun j x hj => ?_⟩
    have hadd : (⟨g, 0, none⟩ : Addr).add j = ⟨g, j, none⟩ := by unfold Addr.add; split <;> simp_all
    rw [hadd, cell_of_row w g j cur e (0, 0) hg]
    rw [← htk, List.getElem?_take] at hj
    split at hj
    · simpa using hj
    · cases hj
section
variable {E : Env} {ops : List Oper} {Q : Exit → St → Prop} {i : Nat} {J : Jt} {h : Heap} {s : Slots} {o : Oper}
/-- 'append' of one own row to another one, cells of the frame's own among them. -/
theorem OW_appendA' (hE : E.Good) {key key2 : Nat} {t e : TypeId} {so xo : Operand} (ho : ops[i]? = some o) (hop : o.op = .call ⟨.builtin .append, #[so, xo], #[t, t]⟩) (hw : awant ops o s = some true) {z1 z2 : Nat} {z3 : List Value} (ht : E.T t = some ⟨.slice e, z1, z2, z3⟩)
    {k : TK} {sz bts : Nat} {z6 : List Value} (hte : E.T e = some ⟨k, sz, bts, z6⟩) (hpos : Nat.ble 1 sz = true) (hso : ev s so = .row key) {n m : Nat} {cs ys : List AV} (hkey : h key = some (.rowA e sz n cs)) (hxo : ev s xo = .row key2) (hkey2 : h key2 = some (.rowA e sz m ys))
    (hone : oneAll ys = true) (hcl : cs.length = n * sz) (hyl : ys.length = m * sz) (hn : n + m ≤ 140737488355328) (hb : (n + m) * bts ≤ 140737488355328) {zs : List AV} (hz : (cs ++ ys).map (unk key) = zs)
    {s' : Slots} (hs : putS E.N (unkS key s) o.dst (.row key) = some s') (hk : OW E ops (i + 1) Q ⟨J, s', hset (unkH key h) key (some (.rowA e sz (n + m) zs))⟩) : OW E ops i Q ⟨J, s, h⟩ := fun ι a w r => by
  subst hz
  have hd : ops.drop i = o :: ops.drop (i + 1) := by
    obtain ⟨hlt, rfl⟩ := List.getElem?_eq_some_iff.1 ho
    exact List.drop_eq_getElem_cons hlt
  rw [hd]
  simp only [wpListIn]
  rw [if_pos (awant_ok r hw)]
  refine ⟨fun f _ => hE.wide.fn f, ?_⟩
  rw [Oper.semAt_plain E.F _ _ (by rw [hop]; intro c hc; cases hc)]
  obtain ⟨dst, op, ty, pos, af, gd⟩ := o
  simp only at hop hs
  subst hop
  obtain ⟨Z, K, Y, hZE, r⟩ := r
  have h1 := RA_ev (C := cx Z h ι w) (s := s) (a := a) so fun t _ => r.slot t
  rw [hso] at h1
  simp only [RA] at h1
  obtain ⟨hkd, e1⟩ := h1
  have h2 := RA_ev (C := cx Z h ι w) (s := s) (a := a) xo fun t _ => r.slot t
  rw [hxo] at h2
  simp only [RA] at h2
  obtain ⟨hkd2, e2⟩ := h2
  obtain ⟨vs, f1, f2, f3⟩ := r.mem.ent key _ hkey
  obtain ⟨news, g1, g2, g3⟩ := r.mem.ent key2 _ hkey2
  have hvl : vs.length = n * sz := by rw [RAs_length f2]; exact hcl
  have hnl : news.length = m * sz := by rw [RAs_length g2]; exact hyl
  obtain ⟨v', w', hr, q1, q2, q3⟩ := run_append_any hE.ok.T ht (ty := ty) hte hpos (n := n) (m := m) f1 hvl (Src_row g1) hnl (oneAll_ok r.mem.named hone g2) hn hb
  rw [exec_append (v' := v') (w' := w') (by rw [e1, e2]; exact hr)]
  show wpListIn _ _ _ _ _ _ _ _
  have kk0 : KeepsK key (cx Z h ι w) (cx Z (hset (unkH key h) key (some (.rowA e sz (n + m) ((cs ++ ys).map (unk key))))) (fun j => bif Nat.beq j key then v' else ι j) w') := by
    refine ⟨⟨fun b o u hm hc => ?_, fun b hm hi => hi.at (q2.block b ⟨hi.lt, fun e => hm (.inr ⟨key, hkd, e.symm⟩)⟩), fun b hlt hm hm' => ?_⟩, fun j hjk hj => ?_⟩
    · rw [World.cell?_of_block (w := w) (a := ⟨b, o, none⟩) (q2.block b ⟨World.block_lt_of_cell? w ⟨b, o, none⟩ hc, fun e => hm (.inr ⟨key, hkd, e.symm⟩)⟩)]; exact hc
    · rcases hm' with hz | ⟨j, hj, hjb⟩
      · exact hm (.inl hz)
      · by_cases hjk : j = key
        · subst hjk
          simp at hjb
          rcases (q3 b hjb).2 with h | h
          · exact hm (.inr ⟨_, hkd, h⟩)
          · have hlt' : b < w.heap.size := hlt.lt
            have h' : w.heap.size ≤ b := h
            omega
        · have hbq : Nat.beq j key = false := Bool.eq_false_iff.2 fun h' => hjk (Nat.eq_of_beq_eq_true h')
          simp only [dom, hset_ne (unkH key h) _ hjk] at hj
          simp only [hbq, cond_false] at hjb
          exact hm (.inr ⟨j, dom_unkH.1 hj, hjb⟩)
    · have hbq : Nat.beq j key = false := Bool.eq_false_iff.2 fun h' => hjk (Nat.eq_of_beq_eq_true h')
      refine ⟨?_, by show (bif Nat.beq j key then v' else ι j) = ι j; rw [hbq]; rfl⟩
      show dom (hset (unkH key h) key _) j
      simp only [dom, hset_ne (unkH key h) _ hjk]
      exact dom_unkH.2 hj
  have hent : EntOk (cx Z (hset (unkH key h) key (some (.rowA e sz (n + m) ((cs ++ ys).map (unk key))))) (fun j => bif Nat.beq j key then v' else ι j) w') (.rowA e sz (n + m) ((cs ++ ys).map (unk key))) v' :=
    ⟨vs ++ news, q1, RAs_keepsK kk0 _ _ (nokeys_unk key _) (RAs_unk (RAs_append f2 g2)), hn⟩
  obtain ⟨m', kk⟩ := r.mem.redo hkd q2 q3 hent
  have hmarks : Marks Z K w' a.defers := by
    obtain ⟨rs, p1, p2, p3⟩ := r.ds
    refine ⟨rs, p1, p2, fun x hx => ?_⟩
    obtain ⟨p4, p5⟩ := p3 x hx
    refine ⟨?_, p5⟩
    rw [q2.block x ⟨(Array.getElem?_eq_some_iff.1 p4).1, fun e => ?_⟩]
    · exact p4
    · rcases f1 with ⟨a0, e0, _⟩ | ⟨g, cap, cur, e0, hc0, hg, _⟩
      · rw [e0] at e; cases a0 <;> simp [blk] at e
      · rw [e0] at e
        have hg' : w.heap[g]? = some (.cells cur _ (0, 0)) := hg
        have : blk (.slice (some ⟨g, 0, none⟩) n cap) = some g := by simp [blk]; omega
        rw [this] at e
        cases e
        rw [hg'] at p4
        cases p4
  have r0 : Rel Z K E.N (J K Y Z) (unkS key s) (hset (unkH key h) key (some (.rowA e sz (n + m) ((cs ++ ys).map (unk key))))) (fun j => bif Nat.beq j key then v' else ι j) a w' :=
    ⟨m', r.size, fun j => RA_keepsK kk _ _ (nokey_unk key _) (RA_unk (r.slot j)), hmarks⟩
  unfold putS at hs
  cases hdst : dst with
  | none =>
    simp only [hdst] at hs
    cases hs
    exact hk _ _ w' ⟨Z, K, Y, hZE, Rel.put_none r0 (Grew.refl _) _⟩
  | some d =>
    simp only [hdst] at hs
    cases hbd : Nat.ble (d + 1) E.N with
    | false => rw [hbd] at hs; cases hs
    | true =>
      rw [hbd] at hs
      cases hs
      exact hk _ _ w' ⟨Z, K, Y, hZE, Rel.put r0 (Grew.refl _) hbd key_row⟩
end
end Go.AL
/- AL, part 45: functions that are lent what is the frame's own, write it, and give it back. -/
namespace Go.AL
set_option linter.unusedVariables false
set_option linter.unusedSimpArgs false

/-! ### Other keys -/
/-! ### Without some keys -/
/-! ### Heaps as lists -/
def heapOf : List (Nat × Ent) → Heap
  | [] => noHeap
  | (k, e) :: l => hset (heapOf l) k (some e)
theorem heapOf_mem : ∀ {l : List (Nat × Ent)} {k : Nat} {e : Ent}, heapOf l k = some e → (k, e) ∈ l
  | [], k, e, h => by simp [heapOf, noHeap] at h
  | (j, x) :: l, k, e, h => by
    by_cases hjk : k = j
    · subst hjk
      simp only [heapOf, hset_same] at h
      cases h; simp
    · simp only [heapOf] at h
      rw [hset_ne _ _ hjk] at h
      exact List.mem_cons_of_mem _ (heapOf_mem h)
def closedL (l : List (Nat × Ent)) : Bool := l.all fun x => inE (heapOf l) x.2
def keyOf (l : List (Nat × Ent)) (k : Nat) : Bool := l.any fun x => Nat.beq x.1 k
/-! ### The contract -/
structure OwnIn (Z : Nat → Prop) (h : Heap) (ι : Nat → Value) (w : World) : Prop where
  ent : ∀ k e, h k = some e → EntOk (cx Z h ι w) e (ι k)
  own : ∀ k b, dom h k → blk (ι k) = some b → ¬ Z b ∧ b < w.heap.size
  apart : ∀ k k' b, dom h k → dom h k' → blk (ι k) = some b → blk (ι k') = some b → k = k'
def Lent (h : Heap) (ι : Nat → Value) (b : Nat) : Prop := ∃ k, dom h k ∧ blk (ι k) = some b
structure Gave (Z : Nat → Prop) (h0 : Heap) (ι : Nat → Value) (w : World) (h1 : Heap) (kept : List Nat) (ι' : Nat → Value) (w' : World) : Prop where
  ent : ∀ k e, h1 k = some e → EntOk (cx Z h1 ι' w') e (ι' k)
  own : ∀ k b, dom h1 k → blk (ι' k) = some b → ¬ Z b ∧ b < w'.heap.size ∧ (Lent h0 ι b ∨ w.heap.size ≤ b)
  apart : ∀ k k' b, dom h1 k → dom h1 k' → blk (ι' k) = some b → blk (ι' k') = some b → k = k'
  kept : ∀ k ∈ kept, ι' k = ι k
  step : Step (fun b => b < w.heap.size ∧ ¬ Lent h0 ι b) w w'
/-- A function that is lent the entries l0 and gives back l1; kept: the keys whose handles stay. -/
def DoesM (P : Program) (f : Nat) (l0 : List (Nat × Ent)) (args : List AV) (R : AV) (l1 : List (Nat × Ent)) (kept : List Nat) : Prop :=
  (Callable P f ∧ closedL l0 = true ∧ closedL l1 = true ∧ inHs (heapOf l0) args = true ∧ inH (heapOf l1) R = true ∧ (kept.all fun k => keyOf l0 k && keyOf l1 k) = true) ∧
  ∀ n Z w ι vs, (∀ b, Z b → b < w.heap.size) → OwnIn Z (heapOf l0) ι w → RAs (cx Z (heapOf l0) ι w) args vs →
    CallsIn Fence.wide n P f vs.toArray w fun x w' => ∃ v ι', x = .returned v ∧ RA (cx Z (heapOf l1) ι' w') R v ∧ Gave Z (heapOf l0) ι w (heapOf l1) kept ι' w'
end Go.AL
/- AL, part 46: calls of functions that are lent what is the frame's own. -/
namespace Go.AL
set_option linter.unusedVariables false
set_option linter.unusedSimpArgs false

/-- Keys to keys, by a list. -/
def tr : List (Nat × Nat) → Nat → Nat
  | [], k => k
  | (a, b) :: l, k => bif Nat.beq k a then b else tr l k
def gone (ρ : Nat → Nat) (l : List (Nat × Ent)) (j : Nat) : Bool := l.any fun x => Nat.beq j (ρ x.1)
section
variable {E : Env} {ops : List Oper} {Q : Exit → St → Prop} {i : Nat} {J : Jt} {s : Slots} {h : Heap} {o : Oper}
end
end Go.AL
/- AL, part 47: parts of rows of the frame's own: taken, laid over, cleared, made rows again. -/
namespace Go.AL
set_option linter.unusedVariables false
set_option linter.unusedSimpArgs false

section
variable {E : Env} {ops : List Oper} {Q : Exit → St → Prop} {i : Nat} {J : Jt} {s : Slots} {h : Heap} {o : Oper}

end
end Go.AL
/- AL, part 48: parts of rows cleared; a part that becomes the row. -/
namespace Go.AL
set_option linter.unusedVariables false
set_option linter.unusedSimpArgs false

section
variable {E : Env} {ops : List Oper} {Q : Exit → St → Prop} {i : Nat} {J : Jt} {s : Slots} {h : Heap} {o : Oper}
end

end Go.AL
/- AL, part 49: what a function does in worlds of which something is known (a table that stands). -/
namespace Go.AL
set_option linter.unusedVariables false
set_option linter.unusedSimpArgs false
def DoesW (P : Program) (Tab : World → Prop) (f : Nat) (args : List AV) (R : AV) : Prop :=
  Callable P f ∧ ∀ n Z w vs, (∀ b, Z b → b < w.heap.size) → Tab w → RAs (cx Z noHeap noι w) args vs →
    CallsIn Fence.wide n P f vs.toArray w fun e w' => ∃ v ι, e = .returned v ∧ Grew w w' ∧ RA (cx Z noHeap ι w') R v ∧ Own Z w.heap.size noHeap ι w'
theorem DoesW.of {P : Program} {Tab : World → Prop} {f : Nat} {args : List AV} {R : AV} (h : Does P f args noHeap R) : DoesW P Tab f args R := ⟨h.1, fun n Z w vs hZ _ hv => h.2 n Z w vs hZ hv⟩
section
variable {E : Env} {ops : List Oper} {Q : Exit → St → Prop} {st : St} {i : Nat}
end
section
variable {E : Env} {ops : List Oper} {Q : Exit → St → Prop} {J : Jt} {s : Slots} {h : Heap} {i : Nat}
end
section
variable {E : Env} {ops : List Oper} {J : Jt} {h : Heap}
end
end Go.AL
/- AL, part 38: rows begun by a call in a drawn head; calls that are lent own rows and give errors. -/
namespace Go.AL
set_option linter.unusedVariables false
set_option linter.unusedSimpArgs false
section
variable {E : Env} {ops : List Oper} {Q : Exit → St → Prop} {J : Jt} {s : Slots} {h : Heap}
variable {p : Grow} {n i : Nat} {K : Slots → Prop}
end
/-- Data without memory. -/
def flatD : D → Bool
  | .lit _ => true
  | .iface _ x => flatD x
  | _ => false
theorem RD_flat {w w' : World} {M M' : Nat → Prop} : ∀ {x : D} {v : Value}, flatD x = true → RD w M x v → RD w' M' x v
  | .lit u, v, _, h => by simpa only [RD] using h
  | .iface t x, v, hx, h => by
    simp only [RD] at h ⊢
    obtain ⟨u, e, h1⟩ := h
    exact ⟨u, e, RD_flat (by simpa [flatD] using hx) h1⟩
section
variable {E : Env} {ops : List Oper} {Q : Exit → St → Prop} {i : Nat} {J : Jt} {h : Heap} {s : Slots}
end
end Go.AL
/- AL, part 39: a row that is begun by a call, lengthened, and lent in a drawn head. -/
namespace Go.AL
set_option linter.unusedVariables false
set_option linter.unusedSimpArgs false
mutual
def flatA : AV → Bool
  | .d x => flatD x
  | .agg xs => flatAs xs
  | .tup xs => flatAs xs
  | _ => false
def flatAs : List AV → Bool
  | [] => true
  | x :: xs => flatA x && flatAs xs
end
mutual
theorem RA_flat {C C' : Cx} : ∀ {x : AV} {v : Value}, flatA x = true → RA C x v → RA C' x v
  | .d x, v, hx, h => by simp only [RA] at h ⊢; exact RD_flat hx h
  | .agg xs, v, hx, h => by
    simp only [RA] at h ⊢
    obtain ⟨vs, e, h1⟩ := h
    exact ⟨vs, e, RAs_flat (by simpa [flatA] using hx) h1⟩
  | .tup xs, v, hx, h => by
    simp only [RA] at h ⊢
    obtain ⟨vs, e, h1⟩ := h
    exact ⟨vs, e, RAs_flat (by simpa [flatA] using hx) h1⟩
  | .ptr _ _, v, hx, _ => by simp [flatA] at hx
  | .row _, v, hx, _ => by simp [flatA] at hx
  | .view _ _ _, v, hx, _ => by simp [flatA] at hx
  | .fn _ _ _, v, hx, _ => by simp [flatA] at hx
  | .any, v, hx, _ => by simp [flatA] at hx
theorem RAs_flat {C C' : Cx} : ∀ {xs : List AV} {vs : List Value}, flatAs xs = true → RAs C xs vs → RAs C' xs vs
  | [], vs, _, h => by simpa only [RAs] using h
  | x :: xs, vs, hx, h => by
    simp only [RAs] at h ⊢
    obtain ⟨v, t, e, h1, h2⟩ := h
    simp only [flatAs, Bool.and_eq_true] at hx
    exact ⟨v, t, e, RA_flat hx.1 h1, RAs_flat hx.2 h2⟩
end
theorem ev_fzS {k : Nat} {X : D} {s : Slots} (x : Operand) : ev (fzS k X s) x = fz k X (ev s x) := by
  cases x with
  | tmp t => rfl
  | const v => simp only [ev]; cases okLitB v <;> rfl
  | func f => rfl
  | global g => rfl
section
variable {E : Env} {ops : List Oper} {Q : Exit → St → Prop} {i : Nat} {J : Jt} {h : Heap} {s : Slots}
/-- A call of a function that writes nothing of what it is handed and gives a plain value: what is the frame's own may be lent to it as data. -/
theorem OW_callLendA' (hE : E.Good) {sF : Slots} {hF : Heap} (hle : LE E ⟨J, s, h⟩ ⟨J, sF, hF⟩) {f : Nat} {L : List AV} {x : AV} (hx : flatA x = true) (hc : Does E.P f L noHeap x) {o : Oper} {fo : Operand} {args : Array Operand} {ts : Array TypeId} (ho : ops[i]? = some o) (hop : o.op = .call ⟨.value fo, args, ts⟩) (hw : awant ops o s = some true)
    (hL : callArgs sF fo args.toList = some (f, L)) (hk : kfs L = true) {s' : Slots} (hs : putS E.N s o.dst x = some s') (hq : OW E ops (i + 1) Q ⟨J, s', h⟩) : OW E ops i Q ⟨J, s, h⟩ := fun ι a w r => by
  have hd : ops.drop i = o :: ops.drop (i + 1) := by
    obtain ⟨hlt, rfl⟩ := List.getElem?_eq_some_iff.1 ho
    exact List.drop_eq_getElem_cons hlt
  rw [hd]
  simp only [wpListIn]
  rw [if_pos (awant_ok r hw)]
  refine ⟨fun f _ => hE.wide.fn f, ?_⟩
  rw [Oper.semAt_plain E.F _ _ (by rw [hop]; intro c hc; cases hc)]
  obtain ⟨ι2, Z2, K2, Y2, hZE2, r2⟩ := hle ι a w r
  obtain ⟨Z, K, Y, hZE, r⟩ := r
  obtain ⟨vf, vc, he, hv⟩ := call_args hL r2.slot
  obtain ⟨dst, op, ty, pos, af, gd⟩ := o
  simp only at hop
  subst hop
  rw [exec_call he hc.1]
  simp only [Oper.uponIn]
  refine ⟨fun hx => (by rw [hE.wide.depth] at hx; cases hx), ?_⟩
  have hZ : ∀ b, (cx Z2 hF ι2 w).M b → b < w.heap.size := fun b hb => r2.mem.Mlt hb
  have hv' : RAs (cx (cx Z2 hF ι2 w).M noHeap noι w) L (vf ++ args.map a.eval ++ vc).toList :=
    RAs_kf (C := cx Z2 hF ι2 w) (C' := cx (cx Z2 hF ι2 w).M noHeap noι w) ⟨fun _ _ _ _ hh => hh, fun _ _ hh => hh, fun b _ hm hm' => by rw [M_of] at hm'; exact hm hm'⟩ _ _ hk hv
  have := hc.2 (E.n - 1) (cx Z2 hF ι2 w).M w _ hZ hv'
  simp only [Array.toArray_toList] at this
  refine (hE.wide.calls this).mono fun e w' ⟨v, ι', he', hg, hRv, _⟩ => ?_
  subst he'
  show wpListIn _ _ _ _ _ _ _ _
  have hRv' : RA (cx Z h ι w') x v := RA_flat hx hRv
  unfold putS at hs
  cases hdst : dst with
  | none =>
    simp only [hdst] at hs
    cases hs
    exact hq ι _ w' ⟨Z, K, Y, hZE, Rel.put_none r hg _⟩
  | some d =>
    simp only [hdst] at hs
    cases hb : Nat.ble (d + 1) E.N with
    | false => rw [hb] at hs; cases hs
    | true =>
      rw [hb] at hs
      cases hs
      exact hq ι _ w' ⟨Z, K, Y, hZE, Rel.put r hg hb hRv'⟩


variable {p : Grow} {n g3 : Nat} {R3 : AV} {P3 : Slots → Prop} {K : Slots → Prop}
end
end Go.AL
/- AL, part 40: a drawn head in which a new variable is laid, that is written behind it. -/
namespace Go.AL
set_option linter.unusedVariables false
set_option linter.unusedSimpArgs false
section
variable {E : Env} {ops : List Oper} {Q : Exit → St → Prop} {J : Jt} {s : Slots} {h : Heap}
theorem CW_drawn6 (hE : E.Good) (n g1 k : Nat) {id : Nat} (hB : Region.lexTailB .any ops.toArray n = true) {o1 : Oper} {t : TypeId} {ti : TI} {zs : List AV} {d : Tmp}
    (ho1 : ops[g1]? = some o1) (hop1 : o1.op = .alloc t) (hgd1 : o1.guard = none) (hd1 : o1.dst = some d) (hn1 : Nat.ble (d + 1) E.N = true) (hlt : (Nat.ble (g1 + 1) n && Nat.ble ops.length 999) = true) (hk : h k = none) (ht : E.T t = some ti) (hz : litCells ti.zero = some zs) (hzl : Nat.beq zs.length ti.size = true)
    (hq : H2W ⟨h, k, g1, 999, t, ti.size, d, .tmp d, zs, zs⟩ E ops J n 0 (fun s => OW E ops n Q ⟨J, s, hset h k (some (.box t zs))⟩) s) : CW E (.region id ops.toArray true) Q ⟨J, s, h⟩ := fun ι a w r => by
  simp only [Bool.and_eq_true] at hlt
  have hl1 : g1 < n := Nat.le_of_ble_eq_true hlt.1
  have hl9 : ops.length ≤ 999 := Nat.le_of_ble_eq_true hlt.2
  let p : Pair := ⟨h, k, g1, 999, t, ti.size, d, .tmp d, zs, zs⟩
  simp only [Region.lexTailB, Bool.and_eq_true, decide_eq_true_eq] at hB
  obtain ⟨⟨⟨⟨hsel, hn⟩, hs⟩, hc⟩, hlex⟩ := hB
  have hn' : n < ops.length := by simpa using hn
  have b9 : ∀ l : Array Bool, l.size = ops.toArray.size → bits l 999 = false := fun l hl => by
    have hsz : l.size = ops.length := by simpa using hl
    show l.getD 999 false = false
    rw [Array.getD_eq_getD_getElem?, Array.getElem?_eq_none (by omega)]; rfl
  have htl : (ops.take n).length = n := by simp; omega
  have hdl : (ops.drop n).length = ops.toArray.size - n := by simp
  have inv0 : HeadInv .any ops.toArray n (Array.replicate ops.toArray.size false) :=
    ⟨by simp, fun j oj _ hl => (by rw [getD_replicate_false] at hl; cases hl), fun t _ ht => getD_in (by simpa using ht) (getD_replicate_false _ _)⟩
  have hYS : YStable ops (p.Y E ops J) := by
    intro i o s s' x ho hss hy
    rcases hy with hy | ⟨h1, h2, h3, h4, h5, h6⟩ | ⟨h1, h2, o', h3, h4⟩
    · exact .inl hy
    · exact absurd (show i = 999 from h1) (by
        have := (List.getElem?_eq_some_iff.1 ho).1
        omega)
    · have hoo : o' = o := by rw [ho] at h3; exact (Option.some.inj h3).symm
      subst hoo
      exact .inr (.inr ⟨h1, h2, o', h3, fun b => YA_same hss (h4 b)⟩)
  have H0 := anyB_lex (E := E) (Y := p.Y E ops J) (g := ops.toArray.size - n) hYS hs hc hn (ops.take n) 0 _ s (fun j hj => by
    have hj' : j < n := by rw [htl] at hj; exact hj
    simp [hj']) (by simpa using htl) inv0 (fun j hj => by omega) (by rw [htl]; exact hlex) (by simpa [H2W] using hq)
  have hH0 : p.H (bits (Array.replicate ops.toArray.size false)) = h := by
    have b1 : bits (Array.replicate ops.toArray.size false) 999 = false := getD_replicate_false _ _
    have b2 : bits (Array.replicate ops.toArray.size false) g1 = false := getD_replicate_false _ _
    show hset h k (bif bits _ 999 then _ else bif bits _ g1 then _ else none) = h
    rw [b1, b2]; exact hset_none hk
  have r1 : RelS E ⟨J, s, p.H (bits (Array.replicate ops.toArray.size false))⟩ ι a { w with drawn := w.drawn + 1 } := by
    rw [hH0]
    obtain ⟨Z, K, Y, hZE, r⟩ := r
    exact ⟨Z, K, Y, hZE, r.mem.grew (Grew.drew w), r.size, fun i => RA_keeps (keepsC_grew (K := K) (J := J K Y Z) (Grew.drew w)) _ _ (r.slot i), r.ds.grew (Grew.drew w)⟩
  refine wpIn_region_any hE.ok.mixed ?_
  have hh := wpAnyIn_of_headB (Y := p.Y E ops J) (J := J) (Q' := Post E Q) p.H (g := ops.toArray.size - n) (fun i o listed s x ho inv hi hin hy hdo ι a w r K' hk' => ?_) (fun listed s ι a' w' r' hL => by
    have hb1 : bits listed g1 = true := hL.1.2 g1 hl1
    have hH : p.H (bits listed) = hset h k (some (.box t zs)) := by
      show hset h k (bif bits listed 999 then _ else bif bits listed g1 then _ else none) = _
      rw [hb1]; cases bits listed 999 <;> rfl
    rw [hH] at r'
    have := wpAnyIn_of_seq (Q' := Post E Q) (ops.drop n) n listed a' w' (fun j => by simp [List.getElem?_drop]) (by rw [hdl]; exact hL.1.1) (hL.2 ι a' w' r')
    rwa [hdl] at this) _ _ _ ι a _ inv0 r1 H0
  · rw [htl] at hh
    rwa [show n + (ops.toArray.size - n) = ops.toArray.size by simp; omega] at hh
  · have hun : listed.getD i true = false := (mem_ready.1 hi).1
    have hst' : ∀ j, j ≠ i → bits (listed.setIfInBounds i true) j = bits listed j := fun j hj => getD_set_ne false (Ne.symm hj)
    have hsz : i < listed.size := by
      rw [inv.size]
      have := (List.getElem?_eq_some_iff.1 ho).1
      simpa using this
    have hseti : bits (listed.setIfInBounds i true) i = true := by simp [bits, hsz]
    rcases hy with ⟨h1, rfl⟩ | ⟨h1, rfl, h3, h4, h5, h6, h7⟩ | ⟨h1, h2, o', h3, h4⟩
    · have h1 : i = g1 := h1
      subst h1
      have hoo : o = o1 := by rw [ho1] at ho; exact (Option.some.inj ho).symm
      subst hoo
      have b1 : bits listed i = false := getD_both hun
      have b2 : bits listed 999 = false := b9 listed inv.size
      have hHb : p.H (bits listed) = h := by
        show hset h k (bif bits listed 999 then _ else bif bits listed i then _ else none) = h
        rw [b1, b2]; exact hset_none hk
      have hHa : p.H (bits (listed.setIfInBounds i true)) = hset h k (some (.box t zs)) := by
        show hset h k (bif bits _ 999 then _ else bif bits _ i then _ else none) = _
        rw [b9 _ (by simpa using inv.size), hseti]; rfl
      rw [hHb] at r
      have g := opG_of_OW (E := E) (o := o) (st := ⟨J, s, h⟩) (K := fun st' => st' = ⟨J, pu s o.dst (.ptr k 0), Go.AL.hset h k (some (.box t zs))⟩) hgd1
        (OW_alloc' hE k (o := o) rfl hop1 (by simp [awant, hgd1]) hk ht hz (s' := pu s o.dst (.ptr k 0)) (by rw [hd1]; simp [putS, hn1, pu]) (OW_end rfl ⟨rfl, rfl⟩))
      unfold wpOpIn
      simp only [List.getElem?_toArray, ho]
      rw [if_pos (by simp [Region.wanted, hgd1])]
      refine g ι a w r K' (Post E Q) fun st' ι' a' w' hst r' => ?_
      subst hst
      refine hk' ι' a' w' ?_
      rw [hHa]; exact r'
    · exact absurd (show i = 999 from h1) (by
        have := (List.getElem?_eq_some_iff.1 ho).1
        omega)
    · have hoo : o' = o := by rw [ho] at h3; exact (Option.some.inj h3).symm
      subst hoo
      have hHs : p.H (bits (listed.setIfInBounds i true)) = p.H (bits listed) := by
        show Go.AL.hset h k (bif bits _ 999 then _ else bif bits _ g1 then _ else none) = Go.AL.hset h k _
        rw [hst' 999 (Ne.symm h2), hst' g1 (Ne.symm h1)]
      refine wpOpIn_of_qA (J := J) (h := p.H (bits listed)) (K := fun s' => s' = pu s o'.dst x) hE r (fun s' a' w' r' hs' => ?_) ?_
      · subst hs'
        refine hk' ι a' w' ?_
        rw [hHs]; exact r'
      · unfold qA
        simp only [ho]
        exact ⟨x, hdo, h4 _, rfl⟩
end
end Go.AL
/- AL, part 42: a drawn head in which some operations each lay something new under a key of its own (variables, rows that calls give, rows appended to nothing), in whatever order. -/
namespace Go.AL
set_option linter.unusedVariables false
set_option linter.unusedSimpArgs false

/-- (operation, key, what it lays) -/
abbrev Effs := List (Nat × Nat × Ent)
def HG (h : Heap) (b : Nat → Bool) : Effs → Heap
  | [] => h
  | (i, k, e) :: r => hset (HG h b r) k (bif b i then some e else none)
/-- All of it laid. -/
def HGt (h : Heap) : Effs → Heap
  | [] => h
  | (_, k, e) :: r => hset (HGt h r) k (some e)
def keysOf : Effs → List Nat
  | [] => []
  | (_, k, _) :: r => k :: keysOf r
def opsOf : Effs → List Nat
  | [] => []
  | (i, _, _) :: r => i :: opsOf r
def freshK (h : Heap) : Effs → Bool
  | [] => true
  | (_, k, _) :: r => (h k).isNone && freshK h r
def distinctB : List Nat → Bool
  | [] => true
  | x :: r => !(r.any (Nat.beq x)) && distinctB r

theorem HG_true {h : Heap} {b : Nat → Bool} : ∀ {l : Effs}, (∀ i ∈ opsOf l, b i = true) → HG h b l = HGt h l
  | [], _ => rfl
  | (i, k, e) :: r, hb => by
    simp only [HG, HGt]
    rw [hb i (by simp [opsOf]), HG_true fun j hj => hb j (by simp [opsOf, hj])]
    rfl
theorem HG_none {h : Heap} {b : Nat → Bool} : ∀ {l : Effs}, freshK h l = true → (∀ i ∈ opsOf l, b i = false) → HG h b l = h
  | [], _, _ => rfl
  | (i, k, e) :: r, hf, hb => by
    simp only [freshK, Bool.and_eq_true, Option.isNone_iff_eq_none] at hf
    simp only [HG]
    rw [hb i (by simp [opsOf]), HG_none hf.2 fun j hj => hb j (by simp [opsOf, hj])]
    exact hset_none hf.1
theorem HG_out {h : Heap} {b b' : Nat → Bool} : ∀ {l : Effs}, (∀ i ∈ opsOf l, b' i = b i) → HG h b' l = HG h b l
  | [], _ => rfl
  | (i, k, e) :: r, hb => by
    simp only [HG]
    rw [hb i (by simp [opsOf]), HG_out fun j hj => hb j (by simp [opsOf, hj])]
theorem mem_opsOf {i k : Nat} {e : Ent} : ∀ {l : Effs}, (i, k, e) ∈ l → i ∈ opsOf l
  | (i', k', e') :: r, hm => by
    rcases List.mem_cons.1 hm with hm | hm
    · cases hm; simp [opsOf]
    · simp [opsOf, mem_opsOf hm]
theorem mem_keysOf {i k : Nat} {e : Ent} : ∀ {l : Effs}, (i, k, e) ∈ l → k ∈ keysOf l
  | (i', k', e') :: r, hm => by
    rcases List.mem_cons.1 hm with hm | hm
    · cases hm; simp [keysOf]
    · simp [keysOf, mem_keysOf hm]
theorem distinct_not {x : Nat} {r : List Nat} (h : distinctB (x :: r) = true) : x ∉ r := fun hm => by
  simp only [distinctB, Bool.and_eq_true, Bool.not_eq_true'] at h
  have := h.1
  rw [List.any_eq_false] at this
  exact this x hm (Nat.beq_refl x)
theorem distinct_tail {x : Nat} {r : List Nat} (h : distinctB (x :: r) = true) : distinctB r = true := by
  simp only [distinctB, Bool.and_eq_true] at h; exact h.2
theorem hset_swap (h : Heap) {k k' : Nat} (hn : k ≠ k') (x y : Option Ent) : hset (hset h k x) k' y = hset (hset h k' y) k x := by
  funext i
  by_cases h1 : i = k'
  · subst h1; rw [hset_same, hset_ne _ _ (Ne.symm hn), hset_same]
  · rw [hset_ne _ _ h1]
    by_cases h2 : i = k
    · subst h2; rw [hset_same, hset_same]
    · rw [hset_ne _ _ h2, hset_ne _ _ h2, hset_ne _ _ h1]
theorem HG_set {h : Heap} {b b' : Nat → Bool} {i k : Nat} {e : Ent} (hi : b i = false) (hi' : b' i = true) (hb : ∀ j, j ≠ i → b' j = b j) : ∀ {l : Effs}, distinctB (opsOf l) = true → distinctB (keysOf l) = true → (i, k, e) ∈ l →
    HG h b' l = hset (HG h b l) k (some e) ∧ HG h b l k = none
  | (i', k', e') :: r, h1, h2, hm => by
    have n1 := distinct_not h1
    have n2 := distinct_not h2
    rcases List.mem_cons.1 hm with hm | hm
    · cases hm
      have : HG h b' r = HG h b r := HG_out fun j hj => hb j (fun e => n1 (e ▸ hj))
      simp only [HG]
      rw [this, hi, hi']
      exact ⟨by rw [hset_hset]; rfl, hset_same _ _ _⟩
    · have hne : i' ≠ i := fun e => n1 (e ▸ mem_opsOf hm)
      have hnk : k ≠ k' := fun e => n2 (e ▸ mem_keysOf hm)
      obtain ⟨g1, g2⟩ := HG_set hi hi' hb (distinct_tail h1) (distinct_tail h2) hm
      simp only [HG]
      rw [hb i' hne, g1]
      exact ⟨hset_swap _ hnk _ _, by rw [hset_ne _ _ hnk]; exact g2⟩
theorem HG_more {h : Heap} {b : Nat → Bool} : ∀ {l : Effs}, freshK h l = true → ∀ j e, h j = some e → HG h b l j = some e
  | [], _, j, e, hj => hj
  | (i, k, e') :: r, hf, j, e, hj => by
    simp only [freshK, Bool.and_eq_true, Option.isNone_iff_eq_none] at hf
    have hne : j ≠ k := fun h => by rw [h, hf.1] at hj; cases hj
    simp only [HG]
    rw [hset_ne _ _ hne]
    exact HG_more hf.2 j e hj

/-- The operation lays e under k and gives x. -/
def Lays (E : Env) (ops : List Oper) (J : Jt) (H : (Nat → Bool) → Heap) (i : Nat) (o : Oper) (s : Slots) (x : AV) (k : Nat) (e : Ent) : Prop :=
  o.guard = none ∧ ∀ s1 b, (∀ t ∈ o.looksAt ops.toArray, s1 t = s t) → b i = false → H b k = none → OpG E o ⟨J, s1, H b⟩ (fun st' => st' = ⟨J, pu s1 o.dst x, hset (H b) k (some e)⟩)
def YG (h : Heap) (l : Effs) (E : Env) (ops : List Oper) (J : Jt) (i : Nat) (s : Slots) (x : AV) : Prop :=
  (∃ k e o, (i, k, e) ∈ l ∧ ops[i]? = some o ∧ Lays E ops J (fun b => HG h b l) i o s x k e) ∨
  (i ∉ opsOf l ∧ ∃ o, ops[i]? = some o ∧ ∀ b, YA E ops J (HG h b l) o s x)
def HGW (h : Heap) (l : Effs) (E : Env) (ops : List Oper) (J : Jt) (n i : Nat) (K : Slots → Prop) (s : Slots) : Prop := QB E (YG h l E ops J) K ((ops.take n).drop i) i s

section
variable {E : Env} {ops : List Oper} {Q : Exit → St → Prop} {J : Jt} {s : Slots} {h : Heap}
theorem CW_drawnG (hE : E.Good) (n : Nat) (l : Effs) {id : Nat} (hB : Region.lexTailB .any ops.toArray n = true)
    (hl : ((opsOf l).all (fun i => Nat.ble (i + 1) n) && distinctB (opsOf l) && distinctB (keysOf l) && freshK h l) = true)
    (hq : HGW h l E ops J n 0 (fun s => OW E ops n Q ⟨J, s, HGt h l⟩) s) : CW E (.region id ops.toArray true) Q ⟨J, s, h⟩ := fun ι a w r => by
  simp only [Bool.and_eq_true, List.all_eq_true] at hl
  obtain ⟨⟨⟨hl1, hl2⟩, hl3⟩, hl4⟩ := hl
  simp only [Region.lexTailB, Bool.and_eq_true, decide_eq_true_eq] at hB
  obtain ⟨⟨⟨⟨hsel, hn⟩, hs⟩, hc⟩, hlex⟩ := hB
  have hn' : n < ops.length := by simpa using hn
  have htl : (ops.take n).length = n := by simp; omega
  have hdl : (ops.drop n).length = ops.toArray.size - n := by simp
  have inv0 : HeadInv .any ops.toArray n (Array.replicate ops.toArray.size false) :=
    ⟨by simp, fun j oj _ hl => (by rw [getD_replicate_false] at hl; cases hl), fun t _ ht => getD_in (by simpa using ht) (getD_replicate_false _ _)⟩
  have hYS : YStable ops (YG h l E ops J) := by
    intro i o s s' x ho hss hy
    rcases hy with ⟨k, e, o', h1, h2, h3, h4⟩ | ⟨h1, o', h3, h4⟩
    · have hoo : o' = o := by rw [ho] at h2; exact (Option.some.inj h2).symm
      subst hoo
      exact .inl ⟨k, e, o', h1, h2, h3, fun s1 b hs1 => h4 s1 b fun t ht => (hs1 t ht).trans (hss t ht)⟩
    · have hoo : o' = o := by rw [ho] at h3; exact (Option.some.inj h3).symm
      subst hoo
      exact .inr ⟨h1, o', h3, fun b => YA_same hss (h4 b)⟩
  have H0 := anyB_lex (E := E) (Y := YG h l E ops J) (g := ops.toArray.size - n) hYS hs hc hn (ops.take n) 0 _ s (fun j hj => by
    have hj' : j < n := by rw [htl] at hj; exact hj
    simp [hj']) (by simpa using htl) inv0 (fun j hj => by omega) (by rw [htl]; exact hlex) (by simpa [HGW] using hq)
  have hH0 : HG h (bits (Array.replicate ops.toArray.size false)) l = h := HG_none hl4 fun i _ => getD_replicate_false _ _
  have r1 : RelS E ⟨J, s, HG h (bits (Array.replicate ops.toArray.size false)) l⟩ ι a { w with drawn := w.drawn + 1 } := by
    rw [hH0]
    obtain ⟨Z, K, Y, hZE, r⟩ := r
    exact ⟨Z, K, Y, hZE, r.mem.grew (Grew.drew w), r.size, fun i => RA_keeps (keepsC_grew (K := K) (J := J K Y Z) (Grew.drew w)) _ _ (r.slot i), r.ds.grew (Grew.drew w)⟩
  refine wpIn_region_any hE.ok.mixed ?_
  have hh := wpAnyIn_of_headB (Y := YG h l E ops J) (J := J) (Q' := Post E Q) (fun b => HG h b l) (g := ops.toArray.size - n) (fun i o listed s x ho inv hi hin hy hdo ι a w r K' hk' => ?_) (fun listed s ι a' w' r' hL => by
    have hH : HG h (bits listed) l = HGt h l := HG_true fun i hi => hL.1.2 i (Nat.le_of_ble_eq_true (hl1 i hi))
    have r' : RelS E ⟨J, s, HG h (bits listed) l⟩ ι a' w' := r'
    rw [hH] at r'
    have := wpAnyIn_of_seq (Q' := Post E Q) (ops.drop n) n listed a' w' (fun j => by simp [List.getElem?_drop]) (by rw [hdl]; exact hL.1.1) (hL.2 ι a' w' r')
    rwa [hdl] at this) _ _ _ ι a _ inv0 r1 H0
  · rw [htl] at hh
    rwa [show n + (ops.toArray.size - n) = ops.toArray.size by simp; omega] at hh
  · have hun : listed.getD i true = false := (mem_ready.1 hi).1
    have hst' : ∀ j, j ≠ i → bits (listed.setIfInBounds i true) j = bits listed j := fun j hj => getD_set_ne false (Ne.symm hj)
    have hsz : i < listed.size := by
      rw [inv.size]
      have := (List.getElem?_eq_some_iff.1 ho).1
      simpa using this
    have hseti : bits (listed.setIfInBounds i true) i = true := by simp [bits, hsz]
    have b1 : bits listed i = false := getD_both hun
    rcases hy with ⟨k, e, o', h1, h2, hgd, h4⟩ | ⟨h1, o', h3, h4⟩
    · have hoo : o' = o := by rw [ho] at h2; exact (Option.some.inj h2).symm
      subst hoo
      obtain ⟨g1, g2⟩ := HG_set (h := h) b1 hseti hst' hl2 hl3 h1
      have g := h4 s (bits listed) (fun _ _ => rfl) b1 g2
      unfold wpOpIn
      simp only [List.getElem?_toArray, ho]
      rw [if_pos (by simp [Region.wanted, hgd])]
      refine g ι a w r K' (Post E Q) fun st' ι' a' w' hst r' => ?_
      subst hst
      refine hk' ι' a' w' ?_
      show RelS E ⟨J, _, HG h _ l⟩ _ _ _
      rw [g1]; exact r'
    · have hoo : o' = o := by rw [ho] at h3; exact (Option.some.inj h3).symm
      subst hoo
      have hHs : HG h (bits (listed.setIfInBounds i true)) l = HG h (bits listed) l := HG_out fun j hj => hst' j (fun e => h1 (e ▸ hj))
      refine wpOpIn_of_qA (J := J) (h := HG h (bits listed) l) (K := fun s' => s' = pu s o'.dst x) hE r (fun s' a' w' r' hs' => ?_) ?_
      · subst hs'
        refine hk' ι a' w' ?_
        show RelS E ⟨J, _, HG h _ l⟩ _ _ _
        rw [hHs]; exact r'
      · unfold qA
        simp only [ho]
        exact ⟨x, hdo, h4 _, rfl⟩

variable {l : Effs} {n i : Nat} {K : Slots → Prop}
theorem HG_cons {o : Oper} (ho : ops[i]? = some o) (hi : Nat.ble (i + 1) n = true) {x : AV} (hd : dstOk E.N o.dst = true) (hy : YG h l E ops J i s x) (hk : HGW h l E ops J n (i + 1) K (pu s o.dst x)) : HGW h l E ops J n i K s := by
  unfold HGW at *
  have hi' := Nat.le_of_ble_eq_true hi
  obtain ⟨hlt, rfl⟩ := List.getElem?_eq_some_iff.1 ho
  have hlt2 : i < (ops.take n).length := by simp; omega
  rw [List.drop_eq_getElem_cons hlt2, List.getElem_take]
  exact ⟨x, hd, hy, hk⟩
theorem HG_end (hk : K s) : HGW h l E ops J n n K s := by
  unfold HGW
  rw [List.drop_eq_nil_of_le (by simp; omega)]
  exact hk
def offRange (l : Effs) (i m : Nat) : Bool := (opsOf l).all fun g => Nat.ble (i + m) g || Nat.ble (g + 1) i
theorem off_not {m q : Nat} (h : offRange l i m = true) (h1 : i ≤ q) (h2 : q < i + m) : q ∉ opsOf l := fun hm => by
  have := List.all_eq_true.1 h q hm
  simp only [Bool.or_eq_true] at this
  rcases this with h | h <;> have := Nat.le_of_ble_eq_true h <;> omega
theorem HG_run (hE : E.Good) (m : Nat) {s' : Slots} (hfr : freshK h l = true) (hp : runPure E ops h m i s = some s') (hi : Nat.ble (i + m) n = true) (h1 : offRange l i m = true)
    (hk : HGW h l E ops J n (i + m) K s') : HGW h l E ops J n i K s := by
  have more : ∀ b j e, h j = some e → HG h b l j = some e := fun b j e hj => HG_more hfr j e hj
  have n1 : ∀ q, i ≤ q → q < i + m → q ∉ opsOf l := fun q a b => off_not h1 a b
  clear h1
  induction m generalizing i s with
  | zero => simp only [runPure, Option.some.injEq] at hp; subst hp; exact hk
  | succ m ih =>
    have hi' := Nat.le_of_ble_eq_true hi
    have hi1 : Nat.ble (i + 1) n = true := Nat.ble_eq_true_of_le (by omega)
    have hi2 : Nat.ble (i + 1 + m) n = true := Nat.ble_eq_true_of_le (by omega)
    have a1 := n1 i (Nat.le_refl _) (by omega)
    simp only [runPure] at hp
    split at hp
    · rename_i o ho
      split at hp
      · rename_i hw
        split at hp
        · rename_i R hR
          split at hp
          · rename_i s1 hs1
            obtain ⟨hd, rfl⟩ := pu_of_putS hs1
            refine HG_cons ho hi1 hd (.inr ⟨a1, o, ho, fun b => .inl ⟨hw, LY_of_gives hE (stepPure_notDefer hR) fun Z K Y ι a w m hl => stepPure_ok (K := K) (J := J K Y Z) hE.ok.T m o (look_ev hl) (stepPure_more (more b) hR)⟩⟩) (ih hp hi2 ?_ (fun q a b => n1 q (by omega) (by omega)))
            rwa [show i + 1 + m = i + (m + 1) by omega]
          · cases hp
        · cases hp
      · rename_i hw
        split at hp
        · rename_i s1 hs1
          obtain ⟨hd, rfl⟩ := pu_of_putS hs1
          refine HG_cons ho hi1 hd (.inr ⟨a1, o, ho, fun b => .inr ⟨hw, rfl⟩⟩) (ih hp hi2 ?_ (fun q a b => n1 q (by omega) (by omega)))
          rwa [show i + 1 + m = i + (m + 1) by omega]
        · cases hp
      · cases hp
    · cases hp
theorem HG_call (hE : E.Good) {f : Nat} {L : List AV} {R : AV} (hc : Does E.P f L noHeap R) {s' : Slots} {o : Oper} {fo : Operand} {args : Array Operand} {ts : Array TypeId} (ho : ops[i]? = some o) (hi : Nat.ble (i + 1) n = true) (hop : o.op = .call ⟨.value fo, args, ts⟩)
    (hw : awant ops o s = some true) (hL : callArgs s fo args.toList = some (f, L)) (hkf : kfs L = true) (hR : kf R = true) (hs : putS E.N s o.dst R = some s') (h1 : offRange l i 1 = true) (hk : HGW h l E ops J n (i + 1) K s') : HGW h l E ops J n i K s := by
  obtain ⟨hd, rfl⟩ := pu_of_putS hs
  exact HG_cons ho hi hd (.inr ⟨off_not h1 (Nat.le_refl _) (by omega), o, ho, fun b => .inl ⟨hw, LY_call hE hc hop hL hkf hR⟩⟩) hk
theorem mem_find {l : Effs} {i k : Nat} {e : Ent} (h : l.find? (fun x => Nat.beq x.1 i) = some (i, k, e)) : (i, k, e) ∈ l := List.mem_of_find?_eq_some h
theorem callArgs_same {ops : List Oper} {o : Oper} {fo : Operand} {args : Array Operand} {ts : Array TypeId} (hop : o.op = .call ⟨.value fo, args, ts⟩) {s s1 : Slots} (hs : ∀ t ∈ o.looksAt ops.toArray, s1 t = s t) : callArgs s1 fo args.toList = callArgs s fo args.toList := by
  have look : ∀ t, (Operand.tmp t = fo ∨ Operand.tmp t ∈ args) → t ∈ o.looksAt ops.toArray := fun t ht => by
    simp only [Oper.looksAt, List.mem_append, List.mem_filterMap]
    refine .inl ⟨.tmp t, ?_, rfl⟩
    rw [hop]
    rcases ht with h | h
    · simp [Op.operands, Call.operands, h]
    · simp [Op.operands, Call.operands]; exact .inr h
  have e1 : ev s1 fo = ev s fo := ev_same fun t e => hs t (look t (.inl e.symm))
  have e2 : args.toList.map (ev s1) = args.toList.map (ev s) := List.map_congr_left fun x hx => ev_same fun t e => hs t (look t (.inr (by rw [← e]; simpa using hx)))
  unfold callArgs
  rw [e1, e2]
/-- A call that gives a row of its own. -/
theorem HG_own (hE : E.Good) {f : Nat} {L : List AV} {e : TypeId} {sz : Nat} {ys : List (List D)} {R : AV} (hc : Does E.P f L (oneRow e sz ys) R) {k : Nat} (hm : l.find? (fun x => Nat.beq x.1 i) = some (i, k, .row e sz ys)) {o : Oper} {fo : Operand} {args : Array Operand} {ts : Array TypeId} (ho : ops[i]? = some o) (hi : Nat.ble (i + 1) n = true)
    (hop : o.op = .call ⟨.value fo, args, ts⟩) (hgd : o.guard = none) (hL : callArgs s fo args.toList = some (f, L)) (hkf : kfs L = true) {s' : Slots} (hs : putS E.N s o.dst (rk 0 k R) = some s') (hk : HGW h l E ops J n (i + 1) K s') : HGW h l E ops J n i K s := by
  obtain ⟨hd, rfl⟩ := pu_of_putS hs
  refine HG_cons ho hi hd (.inl ⟨k, _, o, mem_find hm, ho, hgd, fun s1 b hs1 hbi hbk => ?_⟩) hk
  refine opG_of_OW hgd (OW_callOwn' hE k hc (o := o) rfl hop (by simp [awant, hgd]) ((callArgs_same hop hs1).trans hL) hkf hbk (s' := pu s1 o.dst (rk 0 k R)) ?_ (OW_end rfl ⟨rfl, rfl⟩))
  have hd : dstOk E.N o.dst = true := hd
  cases hdd : o.dst with
  | none => rfl
  | some d => rw [hdd] at hd; simp only [dstOk] at hd; simp [putS, hd, pu]
end
end Go.AL
