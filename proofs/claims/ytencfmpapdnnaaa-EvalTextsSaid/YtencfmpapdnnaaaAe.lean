/- Parts of an abstract logic over the kit's walks, and walks in it: A30, A31, A32, A33, A34, A35, A36. -/
import Derived.Test.YtencfmpapdnnaaaAd
/- AL, part 30: struct values in a head; a nil slice inside a variable as a row; a row made shorter; a cut where several ways meet. -/
namespace Go.AL
set_option linter.unusedVariables false
set_option linter.unusedSimpArgs false

section
variable {E : Env} {ops : List Oper} {Q : Exit → St → Prop} {i : Nat} {J : Jt} {s : Slots} {h : Heap} {o : Oper}

theorem loc_build (hE : E.Good) {t : TypeId} {parts : Array (Nat × Operand)} (hop : o.op = .build t parts) {R : AV} (hR : stepBuild E.T s t parts.toList = some R) : Loc E ops J h o s R := by
  refine ⟨(by rw [hop]; intro c hc; cases hc), fun Z K Y ι a w m hlk => ?_⟩
  obtain ⟨dst, op, ty, pos, af, gd⟩ := o
  simp only at hop
  subst hop
  unfold stepBuild at hR
  split at hR
  · rename_i fs sz bt z ht
    split at hR
    · rename_i ps cs hps hcs
      simp only [Option.map_eq_some_iff] at hR
      obtain ⟨R', hR', rfl⟩ := hR
      obtain ⟨fields, hu, hf⟩ := (hE.ok.T t _ ht).2
      obtain ⟨zv, hz1, hz2⟩ := run_zero hE.ok.T ht w
      rw [← hf] at hps
      have hpr := places_run hE.ok.T (w := w) fields.toList ps hps
      have hpr' : (fields.mapM fun f => (do pure (f.offset, ← sizeOf f.type) : Sem (Nat × Nat))).run E.P w = .ok ps.toArray w := by
        rw [Array.mapM_eq_mapM_toList, map_eq_pure_bind, Sem.run_bind, hpr]
        simp
      obtain ⟨r', hr1, hr2⟩ := afill_ok (C := cx Z h ι w) m.named (places := ps) (place := (ps.toArray[·]?)) (fun i q hq => by simpa using hq) (parts.toList.map fun p => (p.1, ev s p.2)) (parts.toList.map fun p => (p.1, a.eval p.2)) cs zv.cells R' (by simp) (by
        have := RAs_evs (C := cx Z h ι w) (s := s) (a := a) (l := parts.toList.map (·.2)) fun x hx => hlk x (by simp only [Op.operands, Array.toList_map]; exact hx)
        simpa [List.map_map, Function.comp_def] using this) (by rw [hz2]; exact litCells_ok hcs) hR'
      refine ⟨.agg r', w, ?_, Grew.refl w, by simp only [RA]; exact ⟨_, rfl, hr2⟩⟩
      have hb : (Instr.build t (parts.map fun p => (p.1, a.eval p.2))).run E.P w = .ok (.agg r') w := by
        unfold Instr.build
        simp only [Sem.run_bind, hz1, Result.andThen_ok, run_underlying hu, hpr', Array.toList_map, hr1, Sem.run_pure]
      simp only [execOp, Sem.run_bind]
      rw [hb]
      simp
    · cases hR
  · cases hR

/-- A cell of a variable that holds a nil slice: a row of the frame's own, as yet empty. -/
theorem LE_nilCell (k key off : Nat) (e : TypeId) (sz : Nat) {t : TypeId} {cs : List AV} (hk : h k = some (.box t cs)) (hc : cs[off]? = some (.d (.lit (.slice none 0 0)))) (hkey : h key = none) :
    LE E ⟨J, s, h⟩ ⟨J, s, hset (hset h key (some (.row e sz []))) k (some (.box t (cs.set off (.row key))))⟩ := fun ι a w ⟨Z, K, Y, hZ, r⟩ => by
  have hne : k ≠ key := by intro e; subst e; rw [hk] at hkey; cases hkey
  obtain ⟨m1, kc⟩ := r.mem.add (Grew.refl w) hkey (e := .row e sz []) (v := .slice none 0 0) (fun b hb => by simp [blk] at hb) ⟨[], .inl ⟨none, rfl, rfl, rfl⟩, by simp [RDs], by simp, by simp⟩
  have hdom : ∀ j, dom (hset (hset h key (some (.row e sz []))) k (some (.box t (cs.set off (.row key))))) j ↔ dom (hset h key (some (.row e sz []))) j := by
    intro j
    by_cases hj : j = k
    · subst hj; simp only [dom, hset_same, hset_ne h _ hne, hk]; simp
    · simp only [dom, hset_ne _ _ hj]
  have hM : (cx Z (hset (hset h key (some (.row e sz []))) k (some (.box t (cs.set off (.row key))))) (fun j => bif Nat.beq j key then .slice none 0 0 else ι j) w).M = (cx Z (hset h key (some (.row e sz []))) (fun j => bif Nat.beq j key then .slice none 0 0 else ι j) w).M := by
    funext b
    refine propext (or_congr Iff.rfl ⟨fun ⟨j, hj, hb⟩ => ⟨j, (hdom j).1 hj, hb⟩, fun ⟨j, hj, hb⟩ => ⟨j, (hdom j).2 hj, hb⟩⟩)
  have kc2 : KeepsC (cx Z (hset h key (some (.row e sz []))) (fun j => bif Nat.beq j key then .slice none 0 0 else ι j) w) (cx Z (hset (hset h key (some (.row e sz []))) k (some (.box t (cs.set off (.row key))))) (fun j => bif Nat.beq j key then .slice none 0 0 else ι j) w) :=
    ⟨⟨fun _ _ _ _ hh => hh, fun _ _ hh => hh, fun b _ hm => by rw [hM]; exact hm⟩, fun j hj => ⟨(hdom j).2 hj, rfl⟩⟩
  refine ⟨_, Z, K, Y, hZ, ⟨fun j en hj => ?_, fun j b hj hjb => m1.own j b ((hdom j).1 hj) hjb, fun j j' b hj hj' => m1.apart j j' b ((hdom j).1 hj) ((hdom j').1 hj'), m1.Zlt, m1.Klt, m1.Jw, m1.Jc⟩, r.size, fun i => RA_keeps kc2 _ _ (RA_keeps kc _ _ (r.slot i)), r.ds⟩
  by_cases hjk : j = k
  · subst hjk
    have hj' : some (Ent.box t (cs.set off (.row key))) = some en := (hset_same _ _ _).symm.trans hj
    cases hj'
    have hb : Nat.beq j key = false := Bool.eq_false_iff.2 fun h' => hne (Nat.eq_of_beq_eq_true h')
    obtain ⟨b, vs, h1, h2, h3⟩ := r.mem.ent j _ hk
    obtain ⟨v, hv1, hv2⟩ := RAs_get h3 hc
    obtain ⟨rfl, _⟩ := RA_lit.1 hv2
    refine ⟨b, vs, by simp only [hb, cond_false]; exact h1, h2, ?_⟩
    have h4 := RAs_keeps kc2 _ _ (RAs_keeps kc _ _ h3)
    have h5 := RAs_set off h4 (x := .row key) (v := .slice none 0 0) (by
      simp only [RA]
      refine ⟨(hdom key).2 ?_, by simp⟩
      simp [dom, hset_same])
    have hvs : vs.toList.set off (.slice none 0 0) = vs.toList := by
      obtain ⟨hl, he⟩ := List.getElem?_eq_some_iff.1 hv1
      rw [← he, List.set_getElem_self]
    rwa [hvs] at h5
  · have hj' : hset h key (some (.row e sz [])) j = some en := (hset_ne _ _ hjk).symm.trans hj
    exact EntOk.keeps kc2 (fun b cs t f _ hb => hb) (m1.ent j en hj')

/-- 'x[:u]' of a row of the frame's own: under the same key; what named it before is forgotten. -/
theorem OW_cutRow' (hE : E.Good) {key : Nat} {t : TypeId} {xo uo : Operand} (ho : ops[i]? = some o) (hop : o.op = .slice t xo none (some uo) none) (hw : awant ops o s = some true) {e : TypeId} {z1 z2 : Nat} {z3 : List Value} (ht : E.T t = some ⟨.slice e, z1, z2, z3⟩) {k : TK} {sz z5 : Nat} {z6 : List Value} (hte : E.T e = some ⟨k, sz, z5, z6⟩)
    {xs : List (List D)} (hx : ev s xo = .row key) (hkey : h key = some (.row e sz xs)) {ik : IntKind} {u : Nat} (hu : ev s uo = .d (.lit (.int ik (u : Int)))) (hle : u ≤ xs.length)
    {s' : Slots} (hs : putS E.N (unkS key s) o.dst (.row key) = some s') (hk : OW E ops (i + 1) Q ⟨J, s', hset (unkH key h) key (some (.row e sz (xs.take u)))⟩) : OW E ops i Q ⟨J, s, h⟩ := fun ι a w r => by
  have hd : ops.drop i = o :: ops.drop (i + 1) := by
    obtain ⟨hlt, rfl⟩ := List.getElem?_eq_some_iff.1 ho
    exact List.drop_eq_getElem_cons hlt
  rw [hd]
  simp only [wpListIn]
  rw [if_pos (awant_ok r hw)]
  refine ⟨fun f _ => hE.wide.fn f, ?_⟩
  rw [Oper.semAt_plain E.F _ _ (by rw [hop]; intro c hc; cases hc)]
  obtain ⟨dst, op, ty, pos, af, gd⟩ := o
  simp only at hop hs
  subst hop
  obtain ⟨Z, K, Y, hZE, r⟩ := r
  have h1 := RA_ev (C := cx Z h ι w) (s := s) (a := a) xo fun t _ => r.slot t
  rw [hx] at h1
  simp only [RA] at h1
  obtain ⟨hkd, e1⟩ := h1
  have h2 := RA_ev (C := cx Z h ι w) (s := s) (a := a) uo fun t _ => r.slot t
  rw [hu] at h2
  have e2 := (RA_lit.1 h2).1
  obtain ⟨vs, f1, f2, f3, f4⟩ := r.mem.ent key _ hkey
  have hund := (hE.ok.T t _ ht).2
  simp only [TK.fits] at hund
  have hsz := run_size hE.ok.T hte w
  have hvl : vs.length = xs.length * sz := by rw [RDs_length f2]; exact flat_len xs f3
  have husz : u * sz ≤ xs.length * sz := Nat.mul_le_mul_right _ hle
  have hbo : ∀ cap, xs.length ≤ cap → (Instr.sliceBounds true xs.length cap none (some (.int ik (u : Int))) none).run E.P w = .ok (0, u, cap) w := by
    intro cap hcap
    have huc : u ≤ cap := by omega
    simp [Instr.sliceBounds, Instr.sliceBound, asIntOf, huc]
  obtain ⟨v', hv', hrow, hblk⟩ : ∃ v', (execOp a.eval ⟨dst, .slice t xo none (some uo) none, ty, pos, af, gd⟩).run E.P w = .ok (.value v') w ∧ RowOk w v' e sz u (vs.take (u * sz)) ∧ (∀ b, blk v' = some b → b < w.heap.size ∧ (blk (ι key) = some b ∨ w.heap.size ≤ b)) := by
    rcases f1 with ⟨ad, e0, h0, hv0⟩ | ⟨g, cap, cur, e0, hc0, hg, hnc, hcm, hcs, htk⟩
    · have hu0 : u = 0 := by omega
      subst hu0
      have e1' : a.eval xo = .slice ad 0 0 := e1.trans e0
      have hb0 := hbo 0 (by omega)
      rw [h0, show ((0 : Nat) : Int) = 0 from rfl] at hb0
      refine ⟨.slice ad 0 0, ?_, .inl ⟨ad, rfl, rfl, by rw [hv0]; simp⟩, fun b hb => by cases ad <;> simp [blk] at hb⟩
      cases ad <;> simp [execOp, Instr.sliceAt, Instr.slice, run_underlying hund, e1', e2, hb0, hsz]
    · have e1' : a.eval xo = .slice (some ⟨g, 0, none⟩) xs.length cap := e1.trans e0
      have hg' : w.heap[g]? = some (.cells cur e (0, 0)) := hg
      have hb0 := hbo cap hnc
      have hbk : blk (ι key) = some g := by rw [e0]; simp [blk]; omega
      refine ⟨.slice (some ⟨g, 0, none⟩) u cap, ?_, .inr ⟨g, cap, cur, rfl, hc0, hg', by omega, hcm, hcs, ?_⟩, fun b hb => ?_⟩
      · simp [execOp, Instr.sliceAt, Instr.slice, run_underlying hund, e1', e2, hb0, hsz, Addr.add]
      · rw [← htk, List.take_take, Nat.min_eq_left husz]
      · have : blk (.slice (some ⟨g, 0, none⟩) u cap) = some g := by simp [blk]; omega
        rw [this] at hb
        cases hb
        exact ⟨(Array.getElem?_eq_some_iff.1 hg').1, .inl hbk⟩
  rw [hv']
  show wpListIn _ _ _ _ _ _ _ _
  have hlen : (xs.take u).length = u := by simp; omega
  have hent : EntOk (cx Z (hset (unkH key h) key (some (.row e sz (xs.take u)))) (fun j => bif Nat.beq j key then v' else ι j) w) (.row e sz (xs.take u)) v' := by
    refine ⟨vs.take (u * sz), by rw [hlen]; exact hrow, ?_, fun y hy => f3 y (List.mem_of_mem_take hy), by rw [hlen]; omega⟩
    have h5 := RDs_take (u * sz) f2
    rw [← flat_take xs u f3] at h5
    refine RDs_keeps (w := w) (M := (cx Z h ι w).M) ⟨fun _ _ _ _ hh => hh, fun _ _ hh => hh, fun b _ hm hm' => ?_⟩ _ _ h5
    rcases hm' with hz | ⟨j, hj, hjb⟩
    · exact hm (.inl hz)
    · by_cases hjk : j = key
      · subst hjk
        simp at hjb
        rcases (hblk b hjb).2 with h6 | h6
        · exact hm (.inr ⟨_, hkd, h6⟩)
        · have := (hblk b hjb).1
          omega
      · have hbq : Nat.beq j key = false := Bool.eq_false_iff.2 fun h' => hjk (Nat.eq_of_beq_eq_true h')
        simp only [dom, hset_ne (unkH key h) _ hjk] at hj
        simp only [hbq, cond_false] at hjb
        exact hm (.inr ⟨j, dom_unkH.1 hj, hjb⟩)
  obtain ⟨m', kk⟩ := r.mem.redo (w' := w) hkd (Step.refl _ w) hblk hent
  have r0 : Rel Z K E.N (J K Y Z) (unkS key s) (hset (unkH key h) key (some (.row e sz (xs.take u)))) (fun j => bif Nat.beq j key then v' else ι j) a w :=
    ⟨m', r.size, fun j => RA_keepsK kk _ _ (nokey_unk key _) (RA_unk (r.slot j)), r.ds⟩
  unfold putS at hs
  cases hdst : dst with
  | none =>
    simp only [hdst] at hs
    cases hs
    exact hk _ _ w ⟨Z, K, Y, hZE, Rel.put_none r0 (Grew.refl _) _⟩
  | some d =>
    simp only [hdst] at hs
    cases hbd : Nat.ble (d + 1) E.N with
    | false => rw [hbd] at hs; cases hs
    | true =>
      rw [hbd] at hs
      cases hs
      exact hk _ _ w ⟨Z, K, Y, hZE, Rel.put r0 (Grew.refl _) hbd key_row⟩

/-- Several ways meet: what is told of all of them goes on. -/
theorem CW_cutE {x y : Code} {st : St} {α : Type} (S : α → St) (φ : α → Prop) (h : CW E x (thenQ (fun st => ∃ p, φ p ∧ LE E st (S p)) Q) st) (h2 : ∀ p, φ p → CW E y Q (S p)) : CW E (.seq x y) Q st :=
  CW_seq (CW.mono h fun e st' q => by
    cases e with
    | normal => obtain ⟨p, hp, hle⟩ := q; exact CW.le hle (h2 p hp)
    | _ => exact q)
end
end Go.AL
/- AL, part 31: regions that draw whose last operations come in several orders; 'max'. -/
namespace Go.AL
set_option linter.unusedVariables false
set_option linter.unusedSimpArgs false

def lexH (ops : Array Oper) : Nat → Nat → Array Bool → Bool
  | 0, _, _ => true
  | f + 1, k, listed => (Region.ready .any ops listed).contains k && Region.free .any ops listed k && lexH ops f (k + 1) (listed.setIfInBounds k true)
/-- Whatever is not of the head waits for all of the head. -/
def allSink (ops : Array Oper) (n : Nat) : Bool := (List.range ops.size).all fun t => Nat.ble (t + 1) n || (List.range n).all fun i => match ops[t]? with
  | some o => o.after.any fun e => Region.binds .any e && Nat.beq e.on i
  | none => true
def headB (ops : Array Oper) (n : Nat) : Bool := Nat.ble n ops.size && allSink ops n && lexH ops n 0 (Array.replicate ops.size false)

theorem waits_of {ops : Array Oper} {n : Nat} (h : allSink ops n = true) {listed : Array Bool} {i : Nat} (hi : i < n) (hun : listed.getD i true = false) : ∀ t, n ≤ t → t ∉ Region.ready .any ops listed := by
  intro t ht hr
  obtain ⟨_, ot, hot, hall⟩ := mem_ready.1 hr
  have htl : t < ops.size := (Array.getElem?_eq_some_iff.1 hot).1
  have h1 := List.all_eq_true.1 h t (List.mem_range.2 htl)
  simp only [Bool.or_eq_true] at h1
  rcases h1 with h1 | h1
  · have := Nat.le_of_ble_eq_true h1; omega
  · have h2 := List.all_eq_true.1 h1 i (List.mem_range.2 hi)
    rw [hot] at h2
    obtain ⟨e, he, hb⟩ := Array.any_eq_true'.1 h2
    simp only [Bool.and_eq_true] at hb
    have hon := Nat.eq_of_beq_eq_true hb.2
    have := hall e he hb.1
    rw [hon] at this
    rcases Nat.lt_or_ge i listed.size with h' | h'
    · simp [h'] at hun this
      rw [hun] at this; cases this
    · simp [Array.getElem?_eq_none h'] at hun

section
variable {E : Env} {ops : List Oper} {Y : Nat → Slots → AV → Prop}
theorem anyB_firstW (hY : YStable ops Y) {n i : Nat} {oi : Oper} {v : AV} {L : Array Bool → Slots → Prop} (hi : ops[i]? = some oi) (hw : allSink ops.toArray n = true) (hin : i < n) (hdo : dstOk E.N oi.dst = true)
    (hdone : ∀ listed s, L listed s → ∀ j ∈ Region.ready .any ops.toArray listed, n ≤ j) :
    ∀ (f : Nat) (listed : Array Bool) (s : Slots), HeadInv .any ops.toArray n listed →
      (∀ j oj, ops.toArray[j]? = some oj → j ≠ i → listed.getD j true = false → (∀ e ∈ oj.after, Region.binds .any e = true → e.on ≠ i) → oi.apart ops.toArray oj = true) →
      i ∈ Region.ready .any ops.toArray listed → Y i s v →
      anyB E ops Y n L f (listed.setIfInBounds i true) (pu s oi.dst v) → anyB E ops Y n L (f + 1) listed s := by
  intro f
  induction f with
  | zero =>
    intro listed s inv _ hr hy H
    have hun := (mem_ready.1 hr).1
    refine ⟨fun h => (by rw [h] at hr; cases hr), fun j hj => ?_⟩
    have hjn : j < n := by
      rcases Nat.lt_or_ge j n with h | h
      · exact h
      · exact absurd hj (waits_of hw hin hun j h)
    refine ⟨hjn, ?_⟩
    by_cases hji : j = i
    · subst hji
      unfold qB
      simp only [hi]
      exact ⟨v, hdo, hy, H⟩
    · have := hdone _ _ H j (ready_mono hj hji)
      omega
  | succ f ih =>
    intro listed s inv hfree hr hy H
    have hun := (mem_ready.1 hr).1
    refine ⟨fun h => (by rw [h] at hr; cases hr), fun j hj => ?_⟩
    have hjn : j < n := by
      rcases Nat.lt_or_ge j n with h | h
      · exact h
      · exact absurd hj (waits_of hw hin hun j h)
    refine ⟨hjn, ?_⟩
    by_cases hji : j = i
    · subst hji
      unfold qB
      simp only [hi]
      exact ⟨v, hdo, hy, H⟩
    · have h1 := (H.2 j (ready_mono hj hji)).2
      obtain ⟨hjun, oj, hoj, hall⟩ := mem_ready.1 hj
      have hoj' : ops[j]? = some oj := by simpa using hoj
      have hnot : ∀ e ∈ oj.after, Region.binds .any e = true → e.on ≠ i := fun e he hb heq => by
        have h1 := hall e he hb
        rw [heq, getD_both hun] at h1
        cases h1
      have h2 := qB_put hY hi hoj' (hfree j oj hoj hji hjun hnot) hy h1
      have hfree' : ∀ k ok, ops.toArray[k]? = some ok → k ≠ i → (listed.setIfInBounds j true).getD k true = false →
          (∀ e ∈ ok.after, Region.binds .any e = true → e.on ≠ i) → oi.apart ops.toArray ok = true := fun k ok hk hki hun hno => by
        refine hfree k ok hk hki ?_ hno
        by_cases hjk : j = k
        · subst hjk; exact hjun
        · rw [getD_set_ne true hjk] at hun; exact hun
      refine qB_mono (fun s' h3 => ih (listed.setIfInBounds j true) s' (inv.set hj hjn) hfree' (ready_mono hr (Ne.symm hji)) h3.1 ?_) h2
      rw [Array.setIfInBounds_comm _ _ hji]
      exact h3.2

theorem anyB_lexW (hY : YStable ops Y) {n : Nat} {K : Slots → Prop} (hw : allSink ops.toArray n = true) (hn : n ≤ ops.toArray.size) :
    ∀ (l : List Oper) (k : Nat) (listed : Array Bool) (s : Slots), (∀ j, j < l.length → l[j]? = ops[k + j]?) → k + l.length = n → HeadInv .any ops.toArray n listed → (∀ j, j < k → listed.getD j false = true) →
    lexH ops.toArray l.length k listed = true → QB E Y K l k s →
    anyB E ops Y n (fun listed' s' => (HeadInv .any ops.toArray n listed' ∧ ∀ j, j < n → listed'.getD j false = true) ∧ K s') l.length listed s
  | [], k, listed, s, _, hk, inv, hall, hB, hq => by
    have : k = n := by simpa using hk
    subst this
    exact ⟨⟨inv, hall⟩, hq⟩
  | o :: l, k, listed, s, hl, hk, inv, hall, hB, hq => by
    have h0 : ops[k]? = some o := by simpa using (hl 0 (by simp)).symm
    simp only [List.length_cons, lexH, Bool.and_eq_true] at hB
    obtain ⟨⟨hr, hf⟩, hB'⟩ := hB
    have hkn : k < n := by simp only [List.length_cons] at hk; omega
    have hr' : k ∈ Region.ready .any ops.toArray listed := by simpa using hr
    obtain ⟨x, g1, g2, g3⟩ := hq
    have hall' : ∀ j, j < k + 1 → (listed.setIfInBounds k true).getD j false = true := fun j hj => by
      by_cases hjk : k = j
      · subst hjk
        have : k < listed.size := by rw [inv.size]; omega
        simp [this]
      · rw [getD_set_ne false hjk]; exact hall j (by omega)
    exact anyB_firstW hY h0 hw hkn g1 (fun listed' s' hL j hj => by
      rcases Nat.lt_or_ge j n with h | h
      · have h1 := hL.1.2 j h
        have h2 := (mem_ready.1 hj).1
        rw [getD_both h2] at h1; cases h1
      · exact h) l.length listed s inv (Region.free_spec (by simpa using h0) hf) hr' g2
      (anyB_lexW hY hw hn l (k + 1) _ _ (fun j hj => by have := hl (j + 1) (by simp; omega); simpa [Nat.add_assoc, Nat.add_comm 1 j] using this) (by simp only [List.length_cons] at hk; omega) (inv.set hr' hkn) hall' hB' g3)
end

/-! ### Behind the head: whichever is ready -/
def AW (E : Env) (ops : List Oper) (g : Nat) (listed : Array Bool) (Q : Exit → St → Prop) (st : St) : Prop :=
  ∀ ι a w, RelS E st ι a w → wpAnyIn E.F E.n E.P .any ops.toArray (Post E Q) g listed a w
section
variable {E : Env} {ops : List Oper} {Q : Exit → St → Prop} {st : St} {listed : Array Bool} {g : Nat}
theorem AW_end (hr : Region.ready .any ops.toArray listed = []) (h : Q .normal st) : AW E ops 0 listed Q st := fun ι a w r => ⟨hr, st, ι, h, r⟩
theorem AW_le {st' : St} (hle : LE E st st') (h : AW E ops g listed Q st') : AW E ops g listed Q st := fun ι a w r => let ⟨ι', r'⟩ := hle ι a w r; h ι' a w r'
theorem opIn_of {i : Nat} {o : Oper} (ho : ops[i]? = some o) (hg : o.guard = none) {K : St → Prop} (h : OW E [o] 0 (fun e st' => e = .normal ∧ K st') st) {K' : Act → World → Prop} {Q' : Exit → Act → World → Prop} (hk : ∀ st' ι' a' w', K st' → RelS E st' ι' a' w' → K' a' w')
    {ι : Nat → Value} {a : Act} {w : World} (r : RelS E st ι a w) : wpOpIn E.F E.n E.P ops.toArray Q' i K' a w := by
  unfold wpOpIn
  simp only [List.getElem?_toArray, ho]
  rw [if_pos (by simp [Region.wanted, hg])]
  exact opG_of_OW hg h ι a w r K' Q' hk
theorem AW_one {i : Nat} {o : Oper} (hr : Region.ready .any ops.toArray listed = [i]) (ho : ops[i]? = some o) (hg : o.guard = none) (h : OW E [o] 0 (fun e st' => e = .normal ∧ AW E ops g (listed.setIfInBounds i true) Q st') st) : AW E ops (g + 1) listed Q st := fun ι a w r => by
  refine ⟨fun h0 => (by rw [hr] at h0; cases h0), fun j hj => ?_⟩
  rw [hr] at hj
  have : j = i := by simpa using hj
  subst this
  exact opIn_of ho hg h (fun st' ι' a' w' k r' => k ι' a' w' r') r
theorem AW_two {i j : Nat} {o o' : Oper} (hr : Region.ready .any ops.toArray listed = [i, j]) (ho : ops[i]? = some o) (hg : o.guard = none) (ho' : ops[j]? = some o') (hg' : o'.guard = none)
    (h : OW E [o] 0 (fun e st' => e = .normal ∧ AW E ops g (listed.setIfInBounds i true) Q st') st) (h' : OW E [o'] 0 (fun e st' => e = .normal ∧ AW E ops g (listed.setIfInBounds j true) Q st') st) : AW E ops (g + 1) listed Q st := fun ι a w r => by
  refine ⟨fun h0 => (by rw [hr] at h0; cases h0), fun q hq => ?_⟩
  rw [hr] at hq
  have : q = i ∨ q = j := by simpa using hq
  rcases this with rfl | rfl
  · exact opIn_of ho hg h (fun st' ι' a' w' k r' => k ι' a' w' r') r
  · exact opIn_of ho' hg' h' (fun st' ι' a' w' k r' => k ι' a' w' r') r
end

def headListed (n m : Nat) : Array Bool := ((List.replicate n true) ++ List.replicate (m - n) false).toArray

theorem CW_fork {E : Env} {ops : List Oper} {Q : Exit → St → Prop} {J : Jt} {s : Slots} {h : Heap} (hE : E.Good) (n : Nat) {id : Nat} (hB : headB ops.toArray n = true)
    (hq : HW E ops J h n 0 (fun s => AW E ops (ops.length - n) (headListed n ops.length) Q ⟨J, s, h⟩) s) : CW E (.region id ops.toArray true) Q ⟨J, s, h⟩ := fun ι a w r => by
  simp only [headB, Bool.and_eq_true] at hB
  obtain ⟨⟨hn, hs⟩, hlex⟩ := hB
  have hn := Nat.le_of_ble_eq_true hn
  have hn' : n ≤ ops.length := by simpa using hn
  have htl : (ops.take n).length = n := by simp; omega
  let Y : Nat → Slots → AV → Prop := fun i s x => ∃ o, ops[i]? = some o ∧ YA E ops J h o s x
  have hYS : YStable ops Y := by
    rintro i o s s' x ho hss ⟨o', ho', hy⟩
    have : o' = o := by rw [ho] at ho'; exact (Option.some.inj ho').symm
    subst this
    exact ⟨o', ho', YA_same hss hy⟩
  have inv0 : HeadInv .any ops.toArray n (Array.replicate ops.toArray.size false) :=
    ⟨by simp, fun j oj _ hl => (by rw [getD_replicate_false] at hl; cases hl), fun t _ ht => getD_in (by simpa using ht) (getD_replicate_false _ _)⟩
  have hQB : ∀ (l : List Oper) (k : Nat) (K : Slots → Prop) (s : Slots), (∀ j, j < l.length → l[j]? = ops[k + j]?) → QW E ops J h K l s → QB E Y K l k s := by
    intro l
    induction l with
    | nil => intro k K s _ hq; exact hq
    | cons o l ih =>
      intro k K s hl hq
      obtain ⟨x, h1, h2, h3⟩ := hq
      exact ⟨x, h1, ⟨o, by simpa using (hl 0 (by simp)).symm, h2⟩, ih (k + 1) K _ (fun j hj => by have := hl (j + 1) (by simp; omega); simpa [Nat.add_assoc, Nat.add_comm 1 j] using this) h3⟩
  have H0 := anyB_lexW (E := E) (Y := Y) hYS hs hn (ops.take n) 0 _ s (fun j hj => by
    have hj' : j < n := by rw [htl] at hj; exact hj
    simp [hj']) (by simpa using htl) inv0 (fun j hj => by omega) (by rw [htl]; exact hlex) (hQB _ 0 _ s (fun j hj => by
    have hj' : j < n := by rw [htl] at hj; exact hj
    simp [hj']) (by simpa [HW] using hq))
  have r1 : RelS E ⟨J, s, h⟩ ι a { w with drawn := w.drawn + 1 } := by
    obtain ⟨Z, K, Y, hZE, r⟩ := r
    exact ⟨Z, K, Y, hZE, r.mem.grew (Grew.drew w), r.size, fun i => RA_keeps (keepsC_grew (K := K) (J := J K Y Z) (Grew.drew w)) _ _ (r.slot i), r.ds.grew (Grew.drew w)⟩
  refine wpIn_region_any hE.ok.mixed ?_
  have hh := wpAnyIn_of_headB (Y := Y) (J := J) (Q' := Post E Q) (fun _ => h) (g := ops.length - n) (fun i o listed s x ho inv hi hin hy hdo ι a w r K' hk' => ?_) (fun listed s ι a' w' r' hL => by
    have hlist : listed = headListed n ops.length := by
      have hsz := hL.1.1.size
      apply Array.ext
      · rw [hsz]; simp [headListed]; omega
      · intro q hq1 hq2
        rcases Nat.lt_or_ge q n with hqn | hqn
        · have := hL.1.2 q hqn
          have e1 : listed[q] = true := by simpa [hq1] using this
          rw [e1]
          simp [headListed, List.getElem_append, hqn]
        · have := hL.1.1.tail q hqn (by rw [← hsz]; exact hq1)
          have e1 : listed[q] = false := by simpa [hq1] using this
          rw [e1]
          simp [headListed, List.getElem_append, Nat.not_lt.2 hqn]
    subst hlist
    exact hL.2 ι a' w' r') _ _ _ ι a _ inv0 r1 H0
  · rw [htl] at hh
    rwa [show n + (ops.length - n) = ops.toArray.size by simp; omega] at hh
  · obtain ⟨o', ho', hya⟩ := hy
    have : o' = o := by rw [ho] at ho'; exact (Option.some.inj ho').symm
    subst this
    refine wpOpIn_of_qA (J := J) (h := h) (K := fun s' => s' = pu s o'.dst x) hE r (fun s' a' w' r' hs' => ?_) ?_
    · subst hs'
      exact hk' ι a' w' r'
    · unfold qA
      simp only [ho]
      exact ⟨x, hdo, hya, rfl⟩

/-- 'max' of two ints. -/
theorem loc_max {E : Env} {ops : List Oper} {J : Jt} {s : Slots} {h : Heap} (hE : E.Good) {o : Oper} {xo yo : Operand} {t : TypeId} (hop : o.op = .call ⟨.builtin .max, #[xo, yo], #[t, t]⟩) {x1 x2 : Nat} {x3 : List Value} (ht : E.T t = some ⟨.int .i64, x1, x2, x3⟩) {a b : Int} (hx : ev s xo = .d (.lit (.int .i64 a))) (hy : ev s yo = .d (.lit (.int .i64 b))) :
    Loc E ops J h o s (.d (.lit (.int .i64 (max a b)))) := by
  refine ⟨(by rw [hop]; intro c hc; cases hc), fun Z K Y ι ac w m hl => ?_⟩
  obtain ⟨dst, op, ty, pos, af, gd⟩ := o
  simp only at hop
  subst hop
  have h1 := hl xo (by simp [Op.operands, Call.operands])
  have h2 := hl yo (by simp [Op.operands, Call.operands])
  rw [hx] at h1
  rw [hy] at h2
  obtain ⟨e1, o1⟩ := RA_lit.1 h1
  obtain ⟨e2, o2⟩ := RA_lit.1 h2
  have hu := (hE.ok.T t _ ht).2
  simp only [TK.fits] at hu
  refine ⟨.int .i64 (max a b), w, ?_, Grew.refl w, RA_lit_mk ?_⟩
  · have hm : (if b > a then b else a) = max a b := by simp only [Int.max_def]; split <;> split <;> omega
    simp [execOp, resolve, invoke, builtin, Builtin.max_, Builtin.max2, e1, e2, hm]
  · simp only [okLit] at o1 o2 ⊢
    omega

/-- '[]T{zero}', the element a constant of several cells. -/
theorem loc_litAgg {E : Env} {ops : List Oper} {J : Jt} {s : Slots} {h : Heap} (hE : E.Good) {o : Oper} {t e : TypeId} {vs : Array Value} (hop : o.op = .buildSlice t 1 #[(0, .const (.agg vs))]) {z1 z2 : Nat} {z3 : List Value} (ht : E.T t = some ⟨.slice e, z1, z2, z3⟩)
    {k : TK} {sz bts : Nat} {z6 : List Value} (hte : E.T e = some ⟨k, sz, bts, z6⟩) (hpos : Nat.ble 1 sz = true) (hsz : vs.size = sz) (hok : vs.toList.all okLitB = true) (hsmall : Nat.ble (1 * sz) 16777216 = true) (hbts : Nat.ble bts 16777216 = true) : Loc E ops J h o s (.d (.sl sz bts [vs.toList.map .lit])) := by
  refine ⟨(by rw [hop]; intro c hc; cases hc), fun Z K Y ι a w m hlk => ?_⟩
  obtain ⟨dst, op, ty, pos, af, gd⟩ := o
  simp only at hop
  subst hop
  have hu := (hE.ok.T t _ ht).2
  simp only [TK.fits] at hu
  obtain ⟨⟨ie, hie, hisz, hby, z, hz, hzc⟩, _⟩ := hE.ok.T e _ hte
  simp only at hisz hby hzc
  have hpos' : 1 ≤ sz := Nat.le_of_ble_eq_true hpos
  have hsm' := Nat.le_of_ble_eq_true hsmall
  have hb := Nat.le_of_ble_eq_true hbts
  have hr : (Instr.buildSlice t 1 (#[(0, Operand.const (.agg vs))].map fun p => (p.1, a.eval p.2))).run E.P w = .ok (.slice (some ⟨w.heap.size, 0, none⟩) 1 1) (w.alloc (.cells vs e)) := by
    refine run_buildSlice (P := E.P) w t e 1 _ _ ie z hu hie hz (by rw [hisz]; omega) (by rw [hisz]; omega) ?_
    rw [hisz]
    have hfw := Great.fill_whole (s := sz) hpos' [Value.agg vs] ((Array.range (1 * sz)).map (z.cells[· % z.cells.size]!)) (by intro v hv; simp at hv; subst hv; simpa [Value.cells] using hsz) (by simp)
    simpa [Act.eval, Value.cells] using hfw
  refine ⟨.slice (some ⟨w.heap.size, 0, none⟩) 1 1, w.alloc (.cells vs e), by simp only [execOp, Sem.run_bind]; rw [hr]; simp, Grew.alloc w _, ?_⟩
  have hRD : ∀ l : List Value, l.all okLitB = true → RDs w (cx Z h ι w).M (l.map .lit) l := by
    intro l
    induction l with
    | nil => simp [RDs]
    | cons v l ih =>
      intro hl
      simp only [List.all_cons, Bool.and_eq_true] at hl
      simp only [List.map_cons, RDs]
      exact ⟨v, l, rfl, by simp only [RD]; exact ⟨trivial, okLit_of_B hl.1⟩, ih hl.2⟩
  simp only [RA, RD]
  have hn := RC_new m e (hRD vs.toList hok)
  refine ⟨_, 1, rfl, by simp, by simp; omega, by simp, .inr ⟨w.heap.size, 0, rfl, hn.1, ⟨_, _, _, heap_alloc_new w _⟩, RCs_of_flat (by intro x hx; simp at hx; subst hx; simpa using hsz) (by simpa using hn.2)⟩⟩
end Go.AL
/- AL, part 32: a variable of the frame's own handed on as data: nobody writes it from now on. -/
namespace Go.AL
set_option linter.unusedVariables false
set_option linter.unusedSimpArgs false
mutual
def fb (k : Nat) (ds : List D) : AV → AV
  | .d x => .d x
  | .any => .any
  | .agg cs => .agg (fbs k ds cs)
  | .tup cs => .tup (fbs k ds cs)
  | .fn f a b => .fn f (fbs k ds a) (fbs k ds b)
  | .ptr j o => bif Nat.beq j k then .d (.iptr (ds.drop o)) else .ptr j o
  | .row j => bif Nat.beq j k then .any else .row j
  | .view j o n => bif Nat.beq j k then .any else .view j o n
def fbs (k : Nat) (ds : List D) : List AV → List AV
  | [] => []
  | x :: xs => fb k ds x :: fbs k ds xs
end
def fbS (k : Nat) (ds : List D) (s : Slots) : Slots := fun i => fb k ds (s i)
def fbE (k : Nat) (ds : List D) : Ent → Ent
  | .box t cs => .box t (fbs k ds cs)
  | .row e sz xs => .row e sz xs
  | .ghost cs vs => .ghost (fbs k ds cs) vs
def fbH (k : Nat) (ds : List D) (h : Heap) : Heap := fun j => bif Nat.beq j k then none else match h j with
  | some e => some (fbE k ds e)
  | none => none
mutual
theorem RA_fb {k : Nat} {ds : List D} {C C' : Cx} (hk : Keeps C.w C'.w C.M C'.M) (hd : ∀ j, j ≠ k → C.dom j → C'.dom j ∧ C'.ι j = C.ι j) (hX : ∀ o b, blk (C.ι k) = some b → RD C'.w C'.M (.iptr (ds.drop o)) (.pointer (some ⟨b, o, none⟩))) : ∀ (x : AV) (v : Value), RA C x v → RA C' (fb k ds x) v
  | .d x, v => fun hx => by simp only [RA, fb] at hx ⊢; exact RD_keeps hk x v hx
  | .agg cs, v => fun hx => by
    simp only [RA, fb] at hx ⊢
    obtain ⟨vs, e, h1⟩ := hx
    exact ⟨vs, e, RAs_fb hk hd hX cs _ h1⟩
  | .tup cs, v => fun hx => by
    simp only [RA, fb] at hx ⊢
    obtain ⟨vs, e, h1⟩ := hx
    exact ⟨vs, e, RAs_fb hk hd hX cs _ h1⟩
  | .fn f first cap, v => fun hx => by
    simp only [RA, fb] at hx ⊢
    obtain ⟨vf, vc, e, h1, h2⟩ := hx
    exact ⟨vf, vc, e, RAs_fb hk hd hX first _ h1, RAs_fb hk hd hX cap _ h2⟩
  | .any, v => fun _ => by simp only [RA, fb]
  | .ptr j o, v => fun hx => by
    simp only [fb]
    cases hb : Nat.beq j k with
    | true =>
      have e := Nat.eq_of_beq_eq_true hb
      subst e
      simp only [RA, cond_true] at hx ⊢
      obtain ⟨_, b, hbk, e⟩ := hx
      rw [e]; exact hX o b hbk
    | false =>
      have hne : j ≠ k := by intro e; subst e; simp at hb
      simp only [RA, cond_false] at hx ⊢
      obtain ⟨hj, b, hbk, e⟩ := hx
      have := hd j hne hj
      exact ⟨this.1, b, by rw [this.2]; exact hbk, e⟩
  | .view j o n, v => fun hx => by
    simp only [fb]
    cases hb : Nat.beq j k with
    | true => simp [RA]
    | false =>
      have hne : j ≠ k := by intro e; subst e; simp at hb
      simp only [RA, cond_false] at hx ⊢
      obtain ⟨hj, b, cap, hbk, e⟩ := hx
      have := hd j hne hj
      exact ⟨this.1, b, cap, by rw [this.2]; exact hbk, e⟩
  | .row j, v => fun hx => by
    simp only [fb]
    cases hb : Nat.beq j k with
    | true => simp [RA]
    | false =>
      have hne : j ≠ k := by intro e; subst e; simp at hb
      simp only [RA, cond_false] at hx ⊢
      have := hd j hne hx.1
      exact ⟨this.1, by rw [this.2]; exact hx.2⟩
theorem RAs_fb {k : Nat} {ds : List D} {C C' : Cx} (hk : Keeps C.w C'.w C.M C'.M) (hd : ∀ j, j ≠ k → C.dom j → C'.dom j ∧ C'.ι j = C.ι j) (hX : ∀ o b, blk (C.ι k) = some b → RD C'.w C'.M (.iptr (ds.drop o)) (.pointer (some ⟨b, o, none⟩))) : ∀ (xs : List AV) (vs : List Value), RAs C xs vs → RAs C' (fbs k ds xs) vs
  | [], vs => fun hx => by simpa only [RAs, fbs] using hx
  | x :: xs, vs => fun hx => by
    simp only [RAs, fbs] at hx ⊢
    obtain ⟨v, t, e, h1, h2⟩ := hx
    exact ⟨v, t, e, RA_fb hk hd hX x v h1, RAs_fb hk hd hX xs t h2⟩
end

theorem LE_freezeBox {E : Env} {J : Jt} {s : Slots} {h : Heap} (k : Nat) {t : TypeId} {cs : List AV} {ds : List D} (hk : h k = some (.box t cs)) (hds : cs = ds.map .d) : LE E ⟨J, s, h⟩ ⟨J, fbS k ds s, fbH k ds h⟩ := fun ι a w ⟨Z, K, Y, hZE, r⟩ => by
  subst hds
  have hdom : ∀ j, dom (fbH k ds h) j ↔ j ≠ k ∧ dom h j := by
    intro j
    unfold dom fbH
    cases hbq : Nat.beq j k with
    | true =>
      have e := Nat.eq_of_beq_eq_true hbq
      simp [e]
    | false =>
      have hne : j ≠ k := by intro e; subst e; simp at hbq
      simp only [cond_false]
      cases hj : h j <;> simp [hne]
  have hkd : dom h k := by simp [dom, hk]
  have keeps : Keeps w w (cx Z h ι w).M (cx Z (fbH k ds h) ι w).M := by
    refine ⟨fun _ _ _ _ hh => hh, fun _ _ hh => hh, fun b _ hm hm' => ?_⟩
    rcases hm' with hz | ⟨j, hj, hjb⟩
    · exact hm (.inl hz)
    · exact hm (.inr ⟨j, ((hdom j).1 hj).2, hjb⟩)
  have hd : ∀ j, j ≠ k → (cx Z h ι w).dom j → (cx Z (fbH k ds h) ι w).dom j ∧ ι j = ι j := fun j hne hj => ⟨(hdom j).2 ⟨hne, hj⟩, rfl⟩
  have hX : ∀ o b, blk (ι k) = some b → RD w (cx Z (fbH k ds h) ι w).M (.iptr (ds.drop o)) (.pointer (some ⟨b, o, none⟩)) := by
    intro o b hb
    obtain ⟨b', vs, h1, h2, h3⟩ := r.mem.ent k _ hk
    have : b' = b := by rw [blk_ptr h1] at hb; injection hb
    subst this
    have h2' : w.heap[b']? = some (.cells vs t (0, 0)) := h2
    simp only [RD]
    refine ⟨b', o, rfl, fun hm => ?_, ⟨_, _, _, h2'⟩, RC_of_list (RDs_keeps keeps _ _ (RDs_drop o (RAs_map_d.1 h3))) fun j v hj => ?_⟩
    · rcases hm with hz | ⟨j, hj, hjb⟩
      · exact (r.mem.own k b' hkd hb).1 hz
      · have hj' := (hdom j).1 hj
        exact hj'.1 (r.mem.apart j k b' hj'.2 hkd hjb hb)
    · simp only [World.cell?, h2']
      simpa [List.getElem?_drop] using hj
  refine ⟨ι, Z, K, Y, hZE, ⟨fun j e' hj => ?_, fun j b hj hjb => r.mem.own j b ((hdom j).1 hj).2 hjb, fun j j' b hj hj' => r.mem.apart j j' b ((hdom j).1 hj).2 ((hdom j').1 hj').2, r.mem.Zlt, r.mem.Klt, r.mem.Jw, r.mem.Jc⟩, r.size,
    fun j => RA_fb (C := cx Z h ι w) (C' := cx Z (fbH k ds h) ι w) keeps hd hX _ _ (r.slot j), r.ds⟩
  have hj0 : j ≠ k := ((hdom j).1 (show (fbH k ds h j).isSome = true by rw [show fbH k ds h j = some e' from hj]; rfl)).1
  have hbq : Nat.beq j k = false := Bool.eq_false_iff.2 fun h' => hj0 (Nat.eq_of_beq_eq_true h')
  have hj' : (match h j with | some e => some (fbE k ds e) | none => none) = some e' := by
    have : fbH k ds h j = some e' := hj
    unfold fbH at this
    rw [hbq] at this
    exact this
  split at hj'
  · rename_i e0 he0
    cases hj'
    have ho := r.mem.ent j e0 he0
    cases e0 with
    | box t cs =>
      obtain ⟨b, vs, h1, h2, h3⟩ := ho
      exact ⟨b, vs, h1, h2, RAs_fb (C := cx Z h ι w) (C' := cx Z (fbH k ds h) ι w) keeps hd hX _ _ h3⟩
    | row e2 sz2 xs2 =>
      obtain ⟨vs, h1, h2, h3⟩ := ho
      exact ⟨vs, h1, RDs_keeps keeps _ _ h2, h3⟩
    | ghost cs vs => exact ⟨ho.1, RAs_fb (C := cx Z h ι w) (C' := cx Z (fbH k ds h) ι w) keeps hd hX _ _ ho.2⟩
  · cases hj'

/-- 's + t' of texts. -/
theorem loc_concat {E : Env} {ops : List Oper} {J : Jt} {s : Slots} {h : Heap} (hE : E.Good) {o : Oper} {t yt : TypeId} {xo yo : Operand} (hop : o.op = .binOp .add t xo yo yt) {x y : ByteArray} (hx : ev s xo = .d (.lit (.string x))) (hy : ev s yo = .d (.lit (.string y))) (hsz : x.size + y.size ≤ 140737488355328) : Loc E ops J h o s (.d (.lit (.string (x ++ y)))) := by
  refine ⟨(by rw [hop]; intro c hc; cases hc), fun Z K Y ι ac w m hl => ?_⟩
  obtain ⟨dst, op, ty, pos, af, gd⟩ := o
  simp only at hop
  subst hop
  have h1 := hl xo (by simp [Op.operands])
  have h2 := hl yo (by simp [Op.operands])
  rw [hx] at h1
  rw [hy] at h2
  obtain ⟨e1, o1⟩ := RA_lit.1 h1
  obtain ⟨e2, o2⟩ := RA_lit.1 h2
  have hg : (eqGuard .add t xo yo (.string x) (.string y)).run E.P w = .ok () w := by
    unfold eqGuard; split <;> simp
  refine ⟨.string (x ++ y), w, ?_, Grew.refl w, RA_lit_mk (by simp only [okLit, ByteArray.size_append]; omega)⟩
  · simp only [execOp, e1, e2, Sem.run_bind, hg, Result.andThen_ok]
    simp [binOp, Op.stringOp]
    omega
end Go.AL
/- AL, part 33: shifts to the left. -/
namespace Go.AL
set_option linter.unusedVariables false
set_option linter.unusedSimpArgs false
section
variable {E : Env} {ops : List Oper} {J : Jt} {h : Heap} {s : Slots}
/-- '1 << k'. -/
theorem loc_shl (hE : E.Good) {o : Oper} {t yt : TypeId} {xo yo : Operand} (hop : o.op = .binOp .shl t xo yo yt) {k : Nat} {yk : IntKind} (hx : ev s xo = .d (.lit (.int .i64 1))) (hy : ev s yo = .d (.lit (.int yk (k : Int)))) (hk : k ≤ 60) : Loc E ops J h o s (.d (.lit (.int .i64 ((2 ^ k : Nat) : Int)))) := by
  refine ⟨(by rw [hop]; intro c hc; cases hc), fun Z K Y ι a w m hl => ?_⟩
  obtain ⟨dst, op, ty, pos, af, gd⟩ := o
  simp only at hop
  subst hop
  have h1 := hl xo (by simp [Op.operands])
  have h2 := hl yo (by simp [Op.operands])
  rw [hx] at h1
  rw [hy] at h2
  obtain ⟨e1, o1⟩ := RA_lit.1 h1
  obtain ⟨e2, _⟩ := RA_lit.1 h2
  have hg : (eqGuard .shl t xo yo (.int .i64 1) (.int yk k)).run E.P w = .ok () w := by
    unfold eqGuard; split <;> simp
  have hp : (2 : Nat) ^ k ≤ 2 ^ 60 := Nat.pow_le_pow_right (by omega) hk
  have h4 : (1 : Int) * 2 ^ k = ((2 ^ k : Nat) : Int) := by simp
  generalize 2 ^ k = m at hp h4 ⊢
  have hw : IntKind.i64.wrap (m : Int) = (m : Int) :=
    wrap_id _ _ (by have : IntKind.i64.min = -9223372036854775808 := rfl; omega) (by have : IntKind.i64.max = 9223372036854775807 := rfl; omega)
  refine ⟨.int .i64 (m : Int), w, ?_, Grew.refl w, RA_lit_mk ?_⟩
  · simp only [execOp, e1, e2, Sem.run_bind, hg, Result.andThen_ok]
    have hb : min k IntKind.i64.bits = k := by have : IntKind.i64.bits = 64 := rfl; omega
    have h3 : ¬ ((k : Int) < 0) := by omega
    simp only [binOp, Op.shift, h3, if_false, Int.toNat_natCast, hb, h4, hw]
    rfl
  · simp only [okLit]
    have : IntKind.i64.min = -9223372036854775808 := rfl
    have : IntKind.i64.max = 9223372036854775807 := rfl
    constructor <;> omega
end
end Go.AL
/- AL, part 34: calls that are lent what is the frame's own; rows told with less. -/
namespace Go.AL
set_option linter.unusedVariables false
set_option linter.unusedSimpArgs false
section
variable {E : Env} {ops : List Oper} {Q : Exit → St → Prop} {i : Nat} {J : Jt} {h : Heap} {s : Slots}

/-- A call of a function that writes nothing of what it is handed and gives a plain value: what is the frame's own may be lent to it as data. -/
theorem OW_callLend' (hE : E.Good) {sF : Slots} {hF : Heap} (hle : LE E ⟨J, s, h⟩ ⟨J, sF, hF⟩) {f : Nat} {L : List AV} {x : Value} (hc : Does E.P f L noHeap (.d (.lit x))) {o : Oper} {fo : Operand} {args : Array Operand} {ts : Array TypeId} (ho : ops[i]? = some o) (hop : o.op = .call ⟨.value fo, args, ts⟩) (hw : awant ops o s = some true)
    (hL : callArgs sF fo args.toList = some (f, L)) (hk : kfs L = true) {s' : Slots} (hs : putS E.N s o.dst (.d (.lit x)) = some s') (hq : OW E ops (i + 1) Q ⟨J, s', h⟩) : OW E ops i Q ⟨J, s, h⟩ := fun ι a w r => by
  have hd : ops.drop i = o :: ops.drop (i + 1) := by
    obtain ⟨hlt, rfl⟩ := List.getElem?_eq_some_iff.1 ho
    exact List.drop_eq_getElem_cons hlt
  rw [hd]
  simp only [wpListIn]
  rw [if_pos (awant_ok r hw)]
  refine ⟨fun f _ => hE.wide.fn f, ?_⟩
  rw [Oper.semAt_plain E.F _ _ (by rw [hop]; intro c hc; cases hc)]
  obtain ⟨ι2, Z2, K2, Y2, hZE2, r2⟩ := hle ι a w r
  obtain ⟨Z, K, Y, hZE, r⟩ := r
  obtain ⟨vf, vc, he, hv⟩ := call_args hL r2.slot
  obtain ⟨dst, op, ty, pos, af, gd⟩ := o
  simp only at hop
  subst hop
  rw [exec_call he hc.1]
  simp only [Oper.uponIn]
  refine ⟨fun hx => (by rw [hE.wide.depth] at hx; cases hx), ?_⟩
  have hZ : ∀ b, (cx Z2 hF ι2 w).M b → b < w.heap.size := fun b hb => r2.mem.Mlt hb
  have hv' : RAs (cx (cx Z2 hF ι2 w).M noHeap noι w) L (vf ++ args.map a.eval ++ vc).toList :=
    RAs_kf (C := cx Z2 hF ι2 w) (C' := cx (cx Z2 hF ι2 w).M noHeap noι w) ⟨fun _ _ _ _ hh => hh, fun _ _ hh => hh, fun b _ hm hm' => by rw [M_of] at hm'; exact hm hm'⟩ _ _ hk hv
  have := hc.2 (E.n - 1) (cx Z2 hF ι2 w).M w _ hZ hv'
  simp only [Array.toArray_toList] at this
  refine (hE.wide.calls this).mono fun e w' ⟨v, ι', he', hg, hRv, _⟩ => ?_
  subst he'
  show wpListIn _ _ _ _ _ _ _ _
  have hRv' : RA (cx Z h ι w') (.d (.lit x)) v := by
    obtain ⟨e, o⟩ := RA_lit.1 hRv
    rw [e]; exact RA_lit_mk o
  unfold putS at hs
  cases hdst : dst with
  | none =>
    simp only [hdst] at hs
    cases hs
    exact hq ι _ w' ⟨Z, K, Y, hZE, Rel.put_none r hg _⟩
  | some d =>
    simp only [hdst] at hs
    cases hb : Nat.ble (d + 1) E.N with
    | false => rw [hb] at hs; cases hs
    | true =>
      rw [hb] at hs
      cases hs
      exact hq ι _ w' ⟨Z, K, Y, hZE, Rel.put r hg hb hRv'⟩

/-! ### Data told with less -/
def Dle (x y : D) : Prop := ∀ w M v, RD w M x v → RD w M y v
def Dles (x y : List D) : Prop := ∀ w M vs, RDs w M x vs → RDs w M y vs
theorem Dle.refl (x : D) : Dle x x := fun _ _ _ h => h
theorem Dles.refl (x : List D) : Dles x x := fun _ _ _ h => h
theorem Dles.nil : Dles [] [] := fun _ _ _ h => h
theorem Dles.cons {x y : D} {xs ys : List D} (h : Dle x y) (hs : Dles xs ys) : Dles (x :: xs) (y :: ys) := fun w M vs hv => by
  simp only [RDs] at hv ⊢
  obtain ⟨v, t, e, h1, h2⟩ := hv
  exact ⟨v, t, e, h _ _ _ h1, hs _ _ _ h2⟩
theorem RDs_split {w : World} {M : Nat → Prop} : ∀ {xs ys : List D} {vs : List Value}, RDs w M (xs ++ ys) vs → ∃ a b, vs = a ++ b ∧ RDs w M xs a ∧ RDs w M ys b
  | [], ys, vs, h => ⟨[], vs, rfl, by simp [RDs], h⟩
  | x :: xs, ys, vs, h => by
    simp only [List.cons_append, RDs] at h
    obtain ⟨v, t, rfl, h1, h2⟩ := h
    obtain ⟨a, b, rfl, h3, h4⟩ := RDs_split h2
    exact ⟨v :: a, b, rfl, by simp only [RDs]; exact ⟨v, a, rfl, h1, h3⟩, h4⟩
theorem Dles.append {x y xs ys : List D} (h : Dles x y) (hs : Dles xs ys) : Dles (x ++ xs) (y ++ ys) := fun w M vs hv => by
  obtain ⟨a, b, rfl, h1, h2⟩ := RDs_split hv
  exact RDs_append (h _ _ _ h1) (hs _ _ _ h2)
theorem Dle.nilSl (sz bts : Nat) : Dle (.lit (.slice none 0 0)) (.sl sz bts []) := fun w M v hv => by
  simp only [RD] at hv
  obtain ⟨rfl, _⟩ := hv
  simp only [RD]
  exact ⟨none, 0, rfl, by simp, by simp, by simp, by simp⟩
theorem Dles.set {x y : List D} : ∀ {xs : List (List D)} {j : Nat}, xs[j]? = some x → Dles x y → Dles xs.flatten (xs.set j y).flatten
  | [], j, h, _ => by simp at h
  | z :: xs, 0, h, hl => by
    simp at h; subst h
    simpa using hl.append (Dles.refl _)
  | z :: xs, j + 1, h, hl => by
    have := Dles.set (xs := xs) (j := j) (by simpa using h) hl
    simpa using (Dles.refl z).append this
theorem Dles.set2 {x y : List D} (hl : Dles x y) : ∀ {xs : List (List D)} {j : Nat}, Dles (xs.set j x).flatten (xs.set j y).flatten
  | [], j => by simpa using Dles.refl _
  | z :: xs, 0 => by simpa using hl.append (Dles.refl _)
  | z :: xs, j + 1 => by simpa using (Dles.refl z).append (Dles.set2 hl (xs := xs) (j := j))
theorem LE_rowLe (k : Nat) {e : TypeId} {sz : Nat} {xs xs' : List (List D)} (hk : h k = some (.row e sz xs)) (hl : xs'.length = xs.length) (hz : (∀ x ∈ xs, x.length = sz) → ∀ x ∈ xs', x.length = sz) (hd : Dles xs.flatten xs'.flatten) : LE E ⟨J, s, h⟩ ⟨J, s, hset h k (some (.row e sz xs'))⟩ := fun ι a w ⟨Z, K, Y, hZ, r⟩ => by
  have hdom : dom (hset h k (some (.row e sz xs'))) = dom h := by
    funext j
    by_cases hj : j = k
    · subst hj; simp [dom, hset_same, hk]
    · simp [dom, hset_ne _ _ hj]
  have hcx : cx Z (hset h k (some (.row e sz xs'))) ι w = cx Z h ι w := by simp only [cx, hdom]
  refine ⟨ι, Z, K, Y, hZ, ⟨fun j e' hj => ?_, fun j b hj hb => r.mem.own j b (by rw [← hdom]; exact hj) hb, fun j j' b hj hj' => r.mem.apart j j' b (by rw [← hdom]; exact hj) (by rw [← hdom]; exact hj'), r.mem.Zlt, r.mem.Klt, r.mem.Jw, r.mem.Jc⟩, r.size, fun j => ?_, r.ds⟩
  · rw [show (⟨w, Z, dom (hset h k (some (.row e sz xs'))), ι⟩ : Cx) = cx Z h ι w from hcx]
    have hj : hset h k (some (.row e sz xs')) j = some e' := hj
    by_cases hjk : j = k
    · subst hjk
      rw [hset_same] at hj
      cases hj
      obtain ⟨vs, h1, h2, h3, h4⟩ := r.mem.ent j _ hk
      exact ⟨vs, by rw [hl]; exact h1, hd _ _ _ h2, hz h3, by rw [hl]; exact h4⟩
    · rw [hset_ne _ _ hjk] at hj
      exact r.mem.ent j _ hj
  · rw [show cx Z (hset h k (some (.row e sz xs'))) ι w = cx Z h ι w from hcx]
    exact r.slot j
/-- 'a / b', b not nought. -/
theorem loc_quo (hE : E.Good) {o : Oper} {t yt : TypeId} {xo yo : Operand} (hop : o.op = .binOp .quo t xo yo yt) {k : IntKind} {a b : Int} (hx : ev s xo = .d (.lit (.int k a))) (hy : ev s yo = .d (.lit (.int k b))) (hb : b ≠ 0) : Loc E ops J h o s (.d (.lit (.int k (k.wrap (a.tdiv b))))) := by
  refine ⟨(by rw [hop]; intro c hc; cases hc), fun Z K Y ι ac w m hl => ?_⟩
  obtain ⟨dst, op, ty, pos, af, gd⟩ := o
  simp only at hop
  subst hop
  have h1 := hl xo (by simp [Op.operands])
  have h2 := hl yo (by simp [Op.operands])
  rw [hx] at h1
  rw [hy] at h2
  obtain ⟨e1, o1⟩ := RA_lit.1 h1
  obtain ⟨e2, o2⟩ := RA_lit.1 h2
  have hg : (eqGuard .quo t xo yo (.int k a) (.int k b)).run E.P w = .ok () w := by
    unfold eqGuard; split <;> simp
  refine ⟨.int k (k.wrap (a.tdiv b)), w, ?_, Grew.refl w, RA_lit_mk ?_⟩
  · simp only [execOp, e1, e2, Sem.run_bind, hg, Result.andThen_ok]
    simp [binOp, Op.intDiv, hb]
  · exact wrap_ok k _
end
end Go.AL
/- AL, part 35: shifts to the right, the low bits of a number. -/
namespace Go.AL
set_option linter.unusedVariables false
set_option linter.unusedSimpArgs false
section
variable {E : Env} {ops : List Oper} {J : Jt} {h : Heap} {s : Slots}
theorem fdiv_range (x : Int) (n : Nat) (k : IntKind) (h0 : k.min ≤ x) (h1 : x ≤ k.max) : k.min ≤ x.fdiv (2 ^ n) ∧ x.fdiv (2 ^ n) ≤ k.max := by
  have hp : (0 : Int) < 2 ^ n := Int.pow_pos (by omega)
  have h1p : (1 : Int) ≤ 2 ^ n := hp
  have h4 : k.min ≤ 0 := by cases k <;> simp [IntKind.min, IntKind.signed, IntKind.bits]
  have h5 : 0 ≤ k.max := by cases k <;> simp [IntKind.max, IntKind.signed, IntKind.bits]
  rw [Int.fdiv_eq_ediv_of_nonneg _ (by omega)]
  constructor
  · rw [Int.le_ediv_iff_mul_le hp]
    have : k.min * 2 ^ n ≤ k.min * 1 := Int.mul_le_mul_of_nonpos_left h4 h1p
    omega
  · rcases Int.le_total 0 x with h | h
    · exact Int.le_trans (Int.ediv_le_self _ h) h1
    · have : x / 2 ^ n ≤ 0 := by
        have := Int.ediv_le_ediv hp h
        simpa using this
      omega
/-- 'x >> n'. -/
theorem loc_shr (hE : E.Good) {o : Oper} {t yt : TypeId} {xo yo : Operand} (hop : o.op = .binOp .shr t xo yo yt) {k yk : IntKind} {x : Int} {n : Nat} (hx : ev s xo = .d (.lit (.int k x))) (hy : ev s yo = .d (.lit (.int yk (n : Int)))) (hn : Nat.ble n k.bits = true) : Loc E ops J h o s (.d (.lit (.int k (x.fdiv (2 ^ n))))) := by
  refine ⟨(by rw [hop]; intro c hc; cases hc), fun Z K Y ι a w m hl => ?_⟩
  obtain ⟨dst, op, ty, pos, af, gd⟩ := o
  simp only at hop
  subst hop
  have h1 := hl xo (by simp [Op.operands])
  have h2 := hl yo (by simp [Op.operands])
  rw [hx] at h1
  rw [hy] at h2
  obtain ⟨e1, o1⟩ := RA_lit.1 h1
  obtain ⟨e2, _⟩ := RA_lit.1 h2
  have hg : (eqGuard .shr t xo yo (.int k x) (.int yk n)).run E.P w = .ok () w := by
    unfold eqGuard; split <;> simp
  refine ⟨.int k (x.fdiv (2 ^ n)), w, ?_, Grew.refl w, RA_lit_mk ?_⟩
  · simp only [execOp, e1, e2, Sem.run_bind, hg, Result.andThen_ok]
    have hb : min n k.bits = n := Nat.min_eq_left (Nat.le_of_ble_eq_true hn)
    have h3 : ¬ ((n : Int) < 0) := by omega
    simp only [binOp, Op.shift, h3, if_false, Int.toNat_natCast, hb]
    rfl
  · exact fdiv_range x n k o1.1 o1.2
theorem and_low64 (x n : Nat) : ((BitVec.ofNat 64 x) &&& (BitVec.ofNat 64 (2 ^ n - 1))).toNat = if n < 64 then (x % 2 ^ 64) % 2 ^ n else (x % 2 ^ 64) &&& ((2 ^ n - 1) % 2 ^ 64) := by
  split
  · rename_i h
    have hp : 2 ^ n ≤ 2 ^ 63 := Nat.pow_le_pow_right (by omega) (by omega)
    have : (2 ^ n - 1) % 2 ^ 64 = 2 ^ n - 1 := Nat.mod_eq_of_lt (by omega)
    rw [BitVec.toNat_and, BitVec.toNat_ofNat, BitVec.toNat_ofNat, this, Nat.and_two_pow_sub_one_eq_mod]
  · rw [BitVec.toNat_and, BitVec.toNat_ofNat, BitVec.toNat_ofNat]
/-- 'x & (1<<n - 1)' at uint64. -/
theorem loc_lowU (hE : E.Good) {o : Oper} {t yt : TypeId} {xo yo : Operand} (hop : o.op = .binOp .and t xo yo yt) (n : Nat) (hn : Nat.ble n 63 = true) {x m : Int} (hx : ev s xo = .d (.lit (.int .u64 x))) (hy : ev s yo = .d (.lit (.int .u64 m))) (hm : m = ((2 ^ n - 1 : Nat) : Int)) : Loc E ops J h o s (.d (.lit (.int .u64 (x % ((2 ^ n : Nat) : Int))))) := by
  subst hm
  refine ⟨(by rw [hop]; intro c hc; cases hc), fun Z K Y ι a w m hl => ?_⟩
  obtain ⟨dst, op, ty, pos, af, gd⟩ := o
  simp only at hop
  subst hop
  have h1 := hl xo (by simp [Op.operands])
  have h2 := hl yo (by simp [Op.operands])
  rw [hx] at h1
  rw [hy] at h2
  obtain ⟨e1, o1⟩ := RA_lit.1 h1
  obtain ⟨e2, _⟩ := RA_lit.1 h2
  have q0 : IntKind.u64.min = 0 := rfl
  have q1 : IntKind.u64.max = 18446744073709551615 := rfl
  simp only [okLit] at o1
  obtain ⟨x, rfl⟩ := Int.eq_ofNat_of_zero_le (show 0 ≤ x by omega)
  have hg : (eqGuard .and t xo yo (.int .u64 x) (.int .u64 ((2 ^ n - 1 : Nat) : Int))).run E.P w = .ok () w := by
    unfold eqGuard; split <;> simp
  have hn' := Nat.le_of_ble_eq_true hn
  have hx64 : x < 2 ^ 64 := by omega
  have key : (BitVec.ofInt 64 (x : Int) &&& BitVec.ofInt 64 ((2 ^ n - 1 : Nat) : Int)).toNat = x % 2 ^ n := by
    rw [BitVec.ofInt_natCast, BitVec.ofInt_natCast, and_low64, if_pos (by omega), Nat.mod_eq_of_lt hx64]
  have hle : x % 2 ^ n ≤ x := Nat.mod_le _ _
  have hw : IntKind.u64.wrap ((x % 2 ^ n : Nat) : Int) = ((x % 2 ^ n : Nat) : Int) := by
    generalize x % 2 ^ n = q at hle ⊢
    exact wrap_id _ _ (by omega) (by omega)
  rw [show ((x : Int) % ((2 ^ n : Nat) : Int)) = ((x % 2 ^ n : Nat) : Int) by rw [Int.natCast_emod]]
  refine ⟨.int .u64 ((x % 2 ^ n : Nat) : Int), w, ?_, Grew.refl w, RA_lit_mk ?_⟩
  · simp only [execOp, e1, e2, Sem.run_bind, hg, Result.andThen_ok]
    simp only [binOp, Op.intBits]
    simp only [ne_eq, not_true_eq_false, if_false]
    show Result.andThen ((pure (Value.int .u64 (IntKind.u64.wrap ((BitVec.ofInt 64 (x : Int) &&& BitVec.ofInt 64 ((2 ^ n - 1 : Nat) : Int)).toNat : Int))) : Sem Value).run E.P w) _ = _
    rw [key, hw]
    rfl
  · have := wrap_ok .u64 ((x % 2 ^ n : Nat) : Int)
    rw [hw] at this
    exact this
theorem and_one_i64 (x : Int) : IntKind.i64.wrap ((BitVec.ofInt 64 x &&& BitVec.ofInt 64 1).toNat : Int) = x % 2 := by
  have h1 : (BitVec.ofInt 64 x &&& BitVec.ofInt 64 1).toNat = (x % 2).toNat := by
    rw [BitVec.toNat_and, BitVec.toNat_ofInt, BitVec.toNat_ofInt]
    have e : ((1 : Int) % ((2 ^ 64 : Nat) : Int)).toNat = 1 := by decide
    rw [e, Nat.and_one_is_mod]
    omega
  rw [h1]
  have h2 : ((x % 2).toNat : Int) = x % 2 := by omega
  rw [h2]
  exact wrap_id _ _ (by have : IntKind.i64.min = -9223372036854775808 := rfl; omega) (by have : IntKind.i64.max = 9223372036854775807 := rfl; omega)
/-- 'x & 1' at int64. -/
theorem loc_and1 (hE : E.Good) {o : Oper} {t yt : TypeId} {xo yo : Operand} (hop : o.op = .binOp .and t xo yo yt) {x : Int} (hx : ev s xo = .d (.lit (.int .i64 x))) (hy : ev s yo = .d (.lit (.int .i64 1))) : Loc E ops J h o s (.d (.lit (.int .i64 (x % 2)))) := by
  refine ⟨(by rw [hop]; intro c hc; cases hc), fun Z K Y ι a w m hl => ?_⟩
  obtain ⟨dst, op, ty, pos, af, gd⟩ := o
  simp only at hop
  subst hop
  have h1 := hl xo (by simp [Op.operands])
  have h2 := hl yo (by simp [Op.operands])
  rw [hx] at h1
  rw [hy] at h2
  obtain ⟨e1, o1⟩ := RA_lit.1 h1
  obtain ⟨e2, _⟩ := RA_lit.1 h2
  have hg : (eqGuard .and t xo yo (.int .i64 x) (.int .i64 1)).run E.P w = .ok () w := by
    unfold eqGuard; split <;> simp
  refine ⟨.int .i64 (x % 2), w, ?_, Grew.refl w, RA_lit_mk ?_⟩
  · simp only [execOp, e1, e2, Sem.run_bind, hg, Result.andThen_ok]
    simp only [binOp, Op.intBits]
    simp only [ne_eq, not_true_eq_false, if_false]
    show Result.andThen ((pure (Value.int .i64 (IntKind.i64.wrap ((BitVec.ofInt 64 x &&& BitVec.ofInt 64 1).toNat : Int))) : Sem Value).run E.P w) _ = _
    rw [and_one_i64]
    rfl
  · rw [← and_one_i64 x]; exact wrap_ok .i64 _
end
end Go.AL
/- AL, part 36: arrays: written out, their elements read. -/
namespace Go.AL
set_option linter.unusedVariables false
set_option linter.unusedSimpArgs false
def stepBuildA (T : Nat → Option TI) (s : Slots) (t : TypeId) (parts : List (Nat × Operand)) : Option AV :=
  match T t with
  | some ⟨.array n e, _, _, z⟩ => match T e, litCells z with
    | some ti, some cs => (afill ((List.range n).map fun i => (i * ti.size, ti.size)) cs (parts.map fun p => (p.1, ev s p.2))).map .agg
    | _, _ => none
  | _ => none
section
variable {E : Env} {ops : List Oper} {J : Jt} {h : Heap} {s : Slots}
theorem loc_buildA (hE : E.Good) {o : Oper} {t : TypeId} {parts : Array (Nat × Operand)} (hop : o.op = .build t parts) {R : AV} (hR : stepBuildA E.T s t parts.toList = some R) : Loc E ops J h o s R := by
  refine ⟨(by rw [hop]; intro c hc; cases hc), fun Z K Y ι a w m hlk => ?_⟩
  obtain ⟨dst, op, ty, pos, af, gd⟩ := o
  simp only at hop
  subst hop
  unfold stepBuildA at hR
  split at hR
  · rename_i n e sz bt z ht
    split at hR
    · rename_i ti cs hti hcs
      simp only [Option.map_eq_some_iff] at hR
      obtain ⟨R', hR', rfl⟩ := hR
      have hu := (hE.ok.T t _ ht).2
      simp only [TK.fits] at hu
      obtain ⟨zv, hz1, hz2⟩ := run_zero hE.ok.T ht w
      have hsz := run_size hE.ok.T hti w
      obtain ⟨r', hr1, hr2⟩ := afill_ok (C := cx Z h ι w) m.named (places := (List.range n).map fun i => (i * ti.size, ti.size)) (place := fun i => some (i * ti.size, ti.size)) (fun i q hq => by
        simp only [List.getElem?_map, Option.map_eq_some_iff] at hq
        obtain ⟨j, hj, rfl⟩ := hq
        obtain ⟨hlt, hj⟩ := List.getElem?_eq_some_iff.1 hj
        simp at hj
        rw [hj]) (parts.toList.map fun p => (p.1, ev s p.2)) (parts.toList.map fun p => (p.1, a.eval p.2)) cs zv.cells R' (by simp) (by
        have := RAs_evs (C := cx Z h ι w) (s := s) (a := a) (l := parts.toList.map (·.2)) fun x hx => hlk x (by simp only [Op.operands, Array.toList_map]; exact hx)
        simpa [List.map_map, Function.comp_def] using this) (by rw [hz2]; exact litCells_ok hcs) hR'
      refine ⟨.agg r', w, ?_, Grew.refl w, by simp only [RA]; exact ⟨_, rfl, hr2⟩⟩
      have hb : (Instr.build t (parts.map fun p => (p.1, a.eval p.2))).run E.P w = .ok (.agg r') w := by
        unfold Instr.build
        simp only [Sem.run_bind, hz1, Result.andThen_ok, run_underlying hu, hsz, Array.toList_map, hr1, Sem.run_pure]
      simp only [execOp, Sem.run_bind]
      rw [hb]
      simp
    · cases hR
  · cases hR
/-- An element of an array that is a value. -/
theorem loc_indexA (hE : E.Good) {o : Oper} {t : TypeId} {xo io : Operand} (hop : o.op = .index t xo io) {n : Nat} {e : TypeId} {z1 z2 : Nat} {z3 : List Value} (ht : E.T t = some ⟨.array n e, z1, z2, z3⟩) {ti : TI} (hte : E.T e = some ti)
    {cs : List AV} {ik : IntKind} {i : Int} (hx : ev s xo = .agg cs) (hi : ev s io = .d (.lit (.int ik i))) (h0 : 0 ≤ i) (h1 : i < n) {R : AV} (hR : ofCells ti.k.isAgg ti.size (cs.drop (i.toNat * ti.size)) = some R) : Loc E ops J h o s R := by
  refine ⟨(by rw [hop]; intro c hc; cases hc), fun Z K Y ι a w m hl => ?_⟩
  obtain ⟨dst, op, ty, pos, af, gd⟩ := o
  simp only at hop
  subst hop
  have g1 := hl xo (by simp [Op.operands])
  have g2 := hl io (by simp [Op.operands])
  rw [hx] at g1
  rw [hi] at g2
  obtain ⟨e2, _⟩ := RA_lit.1 g2
  simp only [RA] at g1
  obtain ⟨vs, e1, hv⟩ := g1
  have hu := (hE.ok.T t _ ht).2
  simp only [TK.fits] at hu
  have hsz := run_size hE.ok.T hte w
  obtain ⟨v, hv1, hv2⟩ := run_part_of hE.ok.T hte (C := cx Z h ι w) hv (i.toNat * ti.size) hR w
  refine ⟨v, w, ?_, Grew.refl w, hv2⟩
  simp [execOp, Instr.index, e1, e2, asIntOf, run_underlying hu, h0, h1, hsz, hv1]
/-- The address of an element of an array of the frame's own. -/
theorem loc_addrA (hE : E.Good) {o : Oper} {t : TypeId} {xo io : Operand} (hop : o.op = .indexAddr t xo io) {n : Nat} {e : TypeId} {z1 z2 : Nat} {z3 : List Value} (ht : E.T t = some ⟨.array n e, z1, z2, z3⟩) {ti : TI} (hte : E.T e = some ti)
    {k off : Nat} {ik : IntKind} {i : Int} (hx : ev s xo = .ptr k off) (hi : ev s io = .d (.lit (.int ik i))) (h0 : 0 ≤ i) (h1 : i < n) : Loc E ops J h o s (.ptr k (off + i.toNat * ti.size)) := by
  refine ⟨(by rw [hop]; intro c hc; cases hc), fun Z K Y ι a w m hl => ?_⟩
  obtain ⟨dst, op, ty, pos, af, gd⟩ := o
  simp only at hop
  subst hop
  have g1 := hl xo (by simp [Op.operands])
  have g2 := hl io (by simp [Op.operands])
  rw [hx] at g1
  rw [hi] at g2
  obtain ⟨e2, _⟩ := RA_lit.1 g2
  simp only [RA] at g1
  obtain ⟨hk, b, hb, e1⟩ := g1
  have hu := (hE.ok.T t _ ht).2
  simp only [TK.fits] at hu
  have hsz := run_size hE.ok.T hte w
  refine ⟨.pointer (some ⟨b, off + i.toNat * ti.size, none⟩), w, ?_, Grew.refl w, by simp only [RA]; exact ⟨hk, b, hb, rfl⟩⟩
  simp [execOp, Instr.indexAt, e1, e2, asIntOf, Instr.sureAddr, run_underlying hu, h0, h1, hsz]
  simp [Addr.add]
theorem loc_addrAI (hE : E.Good) {o : Oper} {t : TypeId} {xo io : Operand} (hop : o.op = .indexAddr t xo io) {n : Nat} {e : TypeId} {z1 z2 : Nat} {z3 : List Value} (ht : E.T t = some ⟨.array n e, z1, z2, z3⟩) {ti : TI} (hte : E.T e = some ti)
    {cs : List D} {ik : IntKind} {i : Int} (hx : ev s xo = .d (.iptr cs)) (hi : ev s io = .d (.lit (.int ik i))) (h0 : 0 ≤ i) (h1 : i < n) : Loc E ops J h o s (.d (.iptr (cs.drop (i.toNat * ti.size)))) := by
  refine ⟨(by rw [hop]; intro c hc; cases hc), fun Z K Y ι a w m hl => ?_⟩
  obtain ⟨dst, op, ty, pos, af, gd⟩ := o
  simp only at hop
  subst hop
  have g1 := hl xo (by simp [Op.operands])
  have g2 := hl io (by simp [Op.operands])
  rw [hx] at g1
  rw [hi] at g2
  obtain ⟨e2, _⟩ := RA_lit.1 g2
  simp only [RA, RD] at g1
  obtain ⟨b, off, e1, hm, hb, hc⟩ := g1
  have hu := (hE.ok.T t _ ht).2
  simp only [TK.fits] at hu
  have hsz := run_size hE.ok.T hte w
  refine ⟨.pointer (some ⟨b, off + i.toNat * ti.size, none⟩), w, ?_, Grew.refl w, by simp only [RA, RD]; exact ⟨b, _, rfl, hm, hb, RC_drop _ hc⟩⟩
  simp [execOp, Instr.indexAt, e1, e2, asIntOf, Instr.sureAddr, run_underlying hu, h0, h1, hsz]
  simp [Addr.add]
/-- A read of a variable of the frame's own, at a place that is told by an equation. -/
theorem loc_loadBox (hE : E.Good) {o : Oper} {t : TypeId} {po : Operand} (hop : o.op = .load t po) {ti : TI} (ht : E.T t = some ti) {k off : Nat} (hp : ev s po = .ptr k off) {t' : TypeId} {cs : List AV} (hk : h k = some (.box t' cs))
    {R : AV} (hR : ofCells ti.k.isAgg ti.size (cs.drop off) = some R) : Loc E ops J h o s R := by
  refine ⟨(by rw [hop]; intro c hc; cases hc), fun Z K Y ι a w m hl => ?_⟩
  obtain ⟨dst, op, ty, pos, af, gd⟩ := o
  simp only at hop
  subst hop
  have h1 := hl po (by simp [Op.operands])
  rw [hp] at h1
  simp only [RA] at h1
  obtain ⟨hkd, b, hb, e1⟩ := h1
  obtain ⟨b', vs, g1, g2, g3⟩ := m.ent k _ hk
  have : b' = b := by rw [blk_ptr g1] at hb; injection hb
  subst this
  have g2' : w.heap[b']? = some (.cells vs t' (0, 0)) := g2
  obtain ⟨v, h3, h4⟩ := run_loadVar_of (w := w) hE.ok.T ht (C := cx Z h ι w) (RAs_drop off g3) b' off (fun j v hj => by
    simp only [World.cell?, g2']
    simpa [List.getElem?_drop] using hj) hR
  exact ⟨v, w, by simp [execOp, Instr.loadAt, Instr.sureAddr, e1, h3], Grew.refl w, h4⟩
theorem H2_as (d : Nat) (v : AV) {p : Pair} {n i : Nat} {K : Slots → Prop} (hs : s d = v) (hk : H2W p E ops J n i K (sset s d v)) : H2W p E ops J n i K s := by rwa [sset_self hs] at hk
end
end Go.AL
