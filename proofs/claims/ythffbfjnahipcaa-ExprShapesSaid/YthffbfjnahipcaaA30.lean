/- AL, part 30: struct values in a head; a nil slice inside a variable as a row; a row made shorter; a cut where several ways meet. -/
import Derived.Test.YthffbfjnahipcaaA29
namespace Go.AL
set_option linter.unusedVariables false
set_option linter.unusedSimpArgs false

section
variable {E : Env} {ops : List Oper} {Q : Exit → St → Prop} {i : Nat} {J : Jt} {s : Slots} {h : Heap} {o : Oper}

theorem loc_build (hE : E.Good) {t : TypeId} {parts : Array (Nat × Operand)} (hop : o.op = .build t parts) {R : AV} (hR : stepBuild E.T s t parts.toList = some R) : Loc E ops J h o s R := by
  refine ⟨(by rw [hop]; intro c hc; cases hc), fun Z K Y ι a w m hlk => ?_⟩
  obtain ⟨dst, op, ty, pos, af, gd⟩ := o
  simp only at hop
  subst hop
  unfold stepBuild at hR
  split at hR
  · rename_i fs sz bt z ht
    split at hR
    · rename_i ps cs hps hcs
      simp only [Option.map_eq_some_iff] at hR
      obtain ⟨R', hR', rfl⟩ := hR
      obtain ⟨fields, hu, hf⟩ := (hE.ok.T t _ ht).2
      obtain ⟨zv, hz1, hz2⟩ := run_zero hE.ok.T ht w
      rw [← hf] at hps
      have hpr := places_run hE.ok.T (w := w) fields.toList ps hps
      have hpr' : (fields.mapM fun f => (do pure (f.offset, ← sizeOf f.type) : Sem (Nat × Nat))).run E.P w = .ok ps.toArray w := by
        rw [Array.mapM_eq_mapM_toList, map_eq_pure_bind, Sem.run_bind, hpr]
        simp
      obtain ⟨r', hr1, hr2⟩ := afill_ok (C := cx Z h ι w) m.named (places := ps) (place := (ps.toArray[·]?)) (fun i => by simp) (parts.toList.map fun p => (p.1, ev s p.2)) (parts.toList.map fun p => (p.1, a.eval p.2)) cs zv.cells R' (by simp) (by
        have := RAs_evs (C := cx Z h ι w) (s := s) (a := a) (l := parts.toList.map (·.2)) fun x hx => hlk x (by simp only [Op.operands, Array.toList_map]; exact hx)
        simpa [List.map_map, Function.comp_def] using this) (by rw [hz2]; exact litCells_ok hcs) hR'
      refine ⟨.agg r', w, ?_, Grew.refl w, by simp only [RA]; exact ⟨_, rfl, hr2⟩⟩
      have hb : (Instr.build t (parts.map fun p => (p.1, a.eval p.2))).run E.P w = .ok (.agg r') w := by
        unfold Instr.build
        simp only [Sem.run_bind, hz1, Result.andThen_ok, run_underlying hu, hpr', Array.toList_map, hr1, Sem.run_pure]
      simp only [execOp, Sem.run_bind]
      rw [hb]
      simp
    · cases hR
  · cases hR

/-- A cell of a variable that holds a nil slice: a row of the frame's own, as yet empty. -/
theorem LE_nilCell (k key off : Nat) (e : TypeId) (sz : Nat) {t : TypeId} {cs : List AV} (hk : h k = some (.box t cs)) (hc : cs[off]? = some (.d (.lit (.slice none 0 0)))) (hkey : h key = none) :
    LE E ⟨J, s, h⟩ ⟨J, s, hset (hset h key (some (.row e sz []))) k (some (.box t (cs.set off (.row key))))⟩ := fun ι a w ⟨Z, K, Y, hZ, r⟩ => by
  have hne : k ≠ key := by intro e; subst e; rw [hk] at hkey; cases hkey
  obtain ⟨m1, kc⟩ := r.mem.add (Grew.refl w) hkey (e := .row e sz []) (v := .slice none 0 0) (fun b hb => by simp [blk] at hb) ⟨[], .inl ⟨none, rfl, rfl, rfl⟩, by simp [RDs], by simp, by simp⟩
  have hdom : ∀ j, dom (hset (hset h key (some (.row e sz []))) k (some (.box t (cs.set off (.row key))))) j ↔ dom (hset h key (some (.row e sz []))) j := by
    intro j
    by_cases hj : j = k
    · subst hj; simp only [dom, hset_same, hset_ne h _ hne, hk]; simp
    · simp only [dom, hset_ne _ _ hj]
  have hM : (cx Z (hset (hset h key (some (.row e sz []))) k (some (.box t (cs.set off (.row key))))) (fun j => bif Nat.beq j key then .slice none 0 0 else ι j) w).M = (cx Z (hset h key (some (.row e sz []))) (fun j => bif Nat.beq j key then .slice none 0 0 else ι j) w).M := by
    funext b
    refine propext (or_congr Iff.rfl ⟨fun ⟨j, hj, hb⟩ => ⟨j, (hdom j).1 hj, hb⟩, fun ⟨j, hj, hb⟩ => ⟨j, (hdom j).2 hj, hb⟩⟩)
  have kc2 : KeepsC (cx Z (hset h key (some (.row e sz []))) (fun j => bif Nat.beq j key then .slice none 0 0 else ι j) w) (cx Z (hset (hset h key (some (.row e sz []))) k (some (.box t (cs.set off (.row key))))) (fun j => bif Nat.beq j key then .slice none 0 0 else ι j) w) :=
    ⟨⟨fun _ _ _ _ hh => hh, fun _ _ hh => hh, fun b _ hm => by rw [hM]; exact hm⟩, fun j hj => ⟨(hdom j).2 hj, rfl⟩⟩
  refine ⟨_, Z, K, Y, hZ, ⟨fun j en hj => ?_, fun j b hj hjb => m1.own j b ((hdom j).1 hj) hjb, fun j j' b hj hj' => m1.apart j j' b ((hdom j).1 hj) ((hdom j').1 hj'), m1.Zlt, m1.Klt, m1.Jw, m1.Jc⟩, r.size, fun i => RA_keeps kc2 _ _ (RA_keeps kc _ _ (r.slot i)), r.ds⟩
  by_cases hjk : j = k
  · subst hjk
    have hj' : some (Ent.box t (cs.set off (.row key))) = some en := (hset_same _ _ _).symm.trans hj
    cases hj'
    have hb : Nat.beq j key = false := Bool.eq_false_iff.2 fun h' => hne (Nat.eq_of_beq_eq_true h')
    obtain ⟨b, vs, h1, h2, h3⟩ := r.mem.ent j _ hk
    obtain ⟨v, hv1, hv2⟩ := RAs_get h3 hc
    obtain ⟨rfl, _⟩ := RA_lit.1 hv2
    refine ⟨b, vs, by simp only [hb, cond_false]; exact h1, h2, ?_⟩
    have h4 := RAs_keeps kc2 _ _ (RAs_keeps kc _ _ h3)
    have h5 := RAs_set off h4 (x := .row key) (v := .slice none 0 0) (by
      simp only [RA]
      refine ⟨(hdom key).2 ?_, by simp⟩
      simp [dom, hset_same])
    have hvs : vs.toList.set off (.slice none 0 0) = vs.toList := by
      obtain ⟨hl, he⟩ := List.getElem?_eq_some_iff.1 hv1
      rw [← he, List.set_getElem_self]
    rwa [hvs] at h5
  · have hj' : hset h key (some (.row e sz [])) j = some en := (hset_ne _ _ hjk).symm.trans hj
    exact EntOk.keeps kc2 (fun b cs t f _ hb => hb) (m1.ent j en hj')

/-- 'x[:u]' of a row of the frame's own: under the same key; what named it before is forgotten. -/
theorem OW_cutRow' (hE : E.Good) {key : Nat} {t : TypeId} {xo uo : Operand} (ho : ops[i]? = some o) (hop : o.op = .slice t xo none (some uo) none) (hw : awant ops o s = some true) {e : TypeId} {z1 z2 : Nat} {z3 : List Value} (ht : E.T t = some ⟨.slice e, z1, z2, z3⟩) {k : TK} {sz z5 : Nat} {z6 : List Value} (hte : E.T e = some ⟨k, sz, z5, z6⟩)
    {xs : List (List D)} (hx : ev s xo = .row key) (hkey : h key = some (.row e sz xs)) {ik : IntKind} {u : Nat} (hu : ev s uo = .d (.lit (.int ik (u : Int)))) (hle : u ≤ xs.length)
    {s' : Slots} (hs : putS E.N (unkS key s) o.dst (.row key) = some s') (hk : OW E ops (i + 1) Q ⟨J, s', hset (unkH key h) key (some (.row e sz (xs.take u)))⟩) : OW E ops i Q ⟨J, s, h⟩ := fun ι a w r => by
  have hd : ops.drop i = o :: ops.drop (i + 1) := by
    obtain ⟨hlt, rfl⟩ := List.getElem?_eq_some_iff.1 ho
    exact List.drop_eq_getElem_cons hlt
  rw [hd]
  simp only [wpListIn]
  rw [if_pos (awant_ok r hw)]
  refine ⟨fun f _ => hE.wide.fn f, ?_⟩
  rw [Oper.semAt_plain E.F _ _ (by rw [hop]; intro c hc; cases hc)]
  obtain ⟨dst, op, ty, pos, af, gd⟩ := o
  simp only at hop hs
  subst hop
  obtain ⟨Z, K, Y, hZE, r⟩ := r
  have h1 := RA_ev (C := cx Z h ι w) (s := s) (a := a) xo fun t _ => r.slot t
  rw [hx] at h1
  simp only [RA] at h1
  obtain ⟨hkd, e1⟩ := h1
  have h2 := RA_ev (C := cx Z h ι w) (s := s) (a := a) uo fun t _ => r.slot t
  rw [hu] at h2
  have e2 := (RA_lit.1 h2).1
  obtain ⟨vs, f1, f2, f3, f4⟩ := r.mem.ent key _ hkey
  have hund := (hE.ok.T t _ ht).2
  simp only [TK.fits] at hund
  have hsz := run_size hE.ok.T hte w
  have hvl : vs.length = xs.length * sz := by rw [RDs_length f2]; exact flat_len xs f3
  have husz : u * sz ≤ xs.length * sz := Nat.mul_le_mul_right _ hle
  have hbo : ∀ cap, xs.length ≤ cap → (Instr.sliceBounds true xs.length cap none (some (.int ik (u : Int))) none).run E.P w = .ok (0, u, cap) w := by
    intro cap hcap
    have huc : u ≤ cap := by omega
    simp [Instr.sliceBounds, Instr.sliceBound, asIntOf, huc]
  obtain ⟨v', hv', hrow, hblk⟩ : ∃ v', (execOp a.eval ⟨dst, .slice t xo none (some uo) none, ty, pos, af, gd⟩).run E.P w = .ok (.value v') w ∧ RowOk w v' e sz u (vs.take (u * sz)) ∧ (∀ b, blk v' = some b → b < w.heap.size ∧ (blk (ι key) = some b ∨ w.heap.size ≤ b)) := by
    rcases f1 with ⟨ad, e0, h0, hv0⟩ | ⟨g, cap, cur, e0, hc0, hg, hnc, hcm, hcs, htk⟩
    · have hu0 : u = 0 := by omega
      subst hu0
      have e1' : a.eval xo = .slice ad 0 0 := e1.trans e0
      have hb0 := hbo 0 (by omega)
      rw [h0, show ((0 : Nat) : Int) = 0 from rfl] at hb0
      refine ⟨.slice ad 0 0, ?_, .inl ⟨ad, rfl, rfl, by rw [hv0]; simp⟩, fun b hb => by cases ad <;> simp [blk] at hb⟩
      cases ad <;> simp [execOp, Instr.sliceAt, Instr.slice, run_underlying hund, e1', e2, hb0, hsz]
    · have e1' : a.eval xo = .slice (some ⟨g, 0, none⟩) xs.length cap := e1.trans e0
      have hg' : w.heap[g]? = some (.cells cur e (0, 0)) := hg
      have hb0 := hbo cap hnc
      have hbk : blk (ι key) = some g := by rw [e0]; simp [blk]; omega
      refine ⟨.slice (some ⟨g, 0, none⟩) u cap, ?_, .inr ⟨g, cap, cur, rfl, hc0, hg', by omega, hcm, hcs, ?_⟩, fun b hb => ?_⟩
      · simp [execOp, Instr.sliceAt, Instr.slice, run_underlying hund, e1', e2, hb0, hsz, Addr.add]
      · rw [← htk, List.take_take, Nat.min_eq_left husz]
      · have : blk (.slice (some ⟨g, 0, none⟩) u cap) = some g := by simp [blk]; omega
        rw [this] at hb
        cases hb
        exact ⟨(Array.getElem?_eq_some_iff.1 hg').1, .inl hbk⟩
  rw [hv']
  show wpListIn _ _ _ _ _ _ _ _
  have hlen : (xs.take u).length = u := by simp; omega
  have hent : EntOk (cx Z (hset (unkH key h) key (some (.row e sz (xs.take u)))) (fun j => bif Nat.beq j key then v' else ι j) w) (.row e sz (xs.take u)) v' := by
    refine ⟨vs.take (u * sz), by rw [hlen]; exact hrow, ?_, fun y hy => f3 y (List.mem_of_mem_take hy), by rw [hlen]; omega⟩
    have h5 := RDs_take (u * sz) f2
    rw [← flat_take xs u f3] at h5
    refine RDs_keeps (w := w) (M := (cx Z h ι w).M) ⟨fun _ _ _ _ hh => hh, fun _ _ hh => hh, fun b _ hm hm' => ?_⟩ _ _ h5
    rcases hm' with hz | ⟨j, hj, hjb⟩
    · exact hm (.inl hz)
    · by_cases hjk : j = key
      · subst hjk
        simp at hjb
        rcases (hblk b hjb).2 with h6 | h6
        · exact hm (.inr ⟨_, hkd, h6⟩)
        · have := (hblk b hjb).1
          omega
      · have hbq : Nat.beq j key = false := Bool.eq_false_iff.2 fun h' => hjk (Nat.eq_of_beq_eq_true h')
        simp only [dom, hset_ne (unkH key h) _ hjk] at hj
        simp only [hbq, cond_false] at hjb
        exact hm (.inr ⟨j, dom_unkH.1 hj, hjb⟩)
  obtain ⟨m', kk⟩ := r.mem.redo (w' := w) hkd (Step.refl _ w) hblk hent
  have r0 : Rel Z K E.N (J K Y Z) (unkS key s) (hset (unkH key h) key (some (.row e sz (xs.take u)))) (fun j => bif Nat.beq j key then v' else ι j) a w :=
    ⟨m', r.size, fun j => RA_keepsK kk _ _ (nokey_unk key _) (RA_unk (r.slot j)), r.ds⟩
  unfold putS at hs
  cases hdst : dst with
  | none =>
    simp only [hdst] at hs
    cases hs
    exact hk _ _ w ⟨Z, K, Y, hZE, Rel.put_none r0 (Grew.refl _) _⟩
  | some d =>
    simp only [hdst] at hs
    cases hbd : Nat.ble (d + 1) E.N with
    | false => rw [hbd] at hs; cases hs
    | true =>
      rw [hbd] at hs
      cases hs
      exact hk _ _ w ⟨Z, K, Y, hZE, Rel.put r0 (Grew.refl _) hbd key_row⟩

/-- Several ways meet: what is told of all of them goes on. -/
theorem CW_cutE {x y : Code} {st : St} {α : Type} (S : α → St) (φ : α → Prop) (h : CW E x (thenQ (fun st => ∃ p, φ p ∧ LE E st (S p)) Q) st) (h2 : ∀ p, φ p → CW E y Q (S p)) : CW E (.seq x y) Q st :=
  CW_seq (CW.mono h fun e st' q => by
    cases e with
    | normal => obtain ⟨p, hp, hle⟩ := q; exact CW.le hle (h2 p hp)
    | _ => exact q)
end
end Go.AL
