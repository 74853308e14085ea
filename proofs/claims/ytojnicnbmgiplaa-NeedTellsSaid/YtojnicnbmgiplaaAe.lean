/- Parts of an abstract logic over the kit's walks, and walks in it: A30, A31, A32, A33, A34, A35, A36, A41, A37, A43, A44, A45, A46, A47, A48, A49, A38, A39, A40, A42. -/
import Derived.Test.YtojnicnbmgiplaaAd
import Derived.Test.YtojnicnbmgiplaaAc
/- AL, part 30: struct values in a head; a nil slice inside a variable as a row; a row made shorter; a cut where several ways meet. -/
namespace Go.AL
set_option linter.unusedVariables false
set_option linter.unusedSimpArgs false

section
variable {E : Env} {ops : List Oper} {Q : Exit → St → Prop} {i : Nat} {J : Jt} {s : Slots} {h : Heap} {o : Oper}

theorem loc_build (hE : E.Good) {t : TypeId} {parts : Array (Nat × Operand)} (hop : o.op = .build t parts) {R : AV} (hR : stepBuild E.T s t parts.toList = some R) : Loc E ops J h o s R := by
  refine ⟨(by rw [hop]; intro c hc; cases hc), fun Z K Y ι a w m hlk => ?_⟩
  obtain ⟨dst, op, ty, pos, af, gd⟩ := o
  simp only at hop
  subst hop
  unfold stepBuild at hR
  split at hR
  · rename_i fs sz bt z ht
    split at hR
    · rename_i ps cs hps hcs
      simp only [Option.map_eq_some_iff] at hR
      obtain ⟨R', hR', rfl⟩ := hR
      obtain ⟨fields, hu, hf⟩ := (hE.ok.T t _ ht).2
      obtain ⟨zv, hz1, hz2⟩ := run_zero hE.ok.T ht w
      rw [← hf] at hps
      have hpr := places_run hE.ok.T (w := w) fields.toList ps hps
      have hpr' : (fields.mapM fun f => (do pure (f.offset, ← sizeOf f.type) : Sem (Nat × Nat))).run E.P w = .ok ps.toArray w := by
        rw [Array.mapM_eq_mapM_toList, map_eq_pure_bind, Sem.run_bind, hpr]
        simp
      obtain ⟨r', hr1, hr2⟩ := afill_ok (C := cx Z h ι w) m.named (places := ps) (place := (ps.toArray[·]?)) (fun i q hq => by simpa using hq) (parts.toList.map fun p => (p.1, ev s p.2)) (parts.toList.map fun p => (p.1, a.eval p.2)) cs zv.cells R' (by simp) (by
        have := RAs_evs (C := cx Z h ι w) (s := s) (a := a) (l := parts.toList.map (·.2)) fun x hx => hlk x (by simp only [Op.operands, Array.toList_map]; exact hx)
        simpa [List.map_map, Function.comp_def] using this) (by rw [hz2]; exact litCells_ok hcs) hR'
      refine ⟨.agg r', w, ?_, Grew.refl w, by simp only [RA]; exact ⟨_, rfl, hr2⟩⟩
      have hb : (Instr.build t (parts.map fun p => (p.1, a.eval p.2))).run E.P w = .ok (.agg r') w := by
        unfold Instr.build
        simp only [Sem.run_bind, hz1, Result.andThen_ok, run_underlying hu, hpr', Array.toList_map, hr1, Sem.run_pure]
      simp only [execOp, Sem.run_bind]
      rw [hb]
      simp
    · cases hR
  · cases hR

/-- 'x[:u]' of a row of the frame's own: under the same key; what named it before is forgotten. -/
theorem OW_cutRow' (hE : E.Good) {key : Nat} {t : TypeId} {xo uo : Operand} (ho : ops[i]? = some o) (hop : o.op = .slice t xo none (some uo) none) (hw : awant ops o s = some true) {e : TypeId} {z1 z2 : Nat} {z3 : List Value} (ht : E.T t = some ⟨.slice e, z1, z2, z3⟩) {k : TK} {sz z5 : Nat} {z6 : List Value} (hte : E.T e = some ⟨k, sz, z5, z6⟩)
    {xs : List (List D)} (hx : ev s xo = .row key) (hkey : h key = some (.row e sz xs)) {ik : IntKind} {u : Nat} (hu : ev s uo = .d (.lit (.int ik (u : Int)))) (hle : u ≤ xs.length)
    {s' : Slots} (hs : putS E.N (unkS key s) o.dst (.row key) = some s') (hk : OW E ops (i + 1) Q ⟨J, s', hset (unkH key h) key (some (.row e sz (xs.take u)))⟩) : OW E ops i Q ⟨J, s, h⟩ := fun ι a w r => by
  have hd : ops.drop i = o :: ops.drop (i + 1) := by
    obtain ⟨hlt, rfl⟩ := List.getElem?_eq_some_iff.1 ho
    exact List.drop_eq_getElem_cons hlt
  rw [hd]
  simp only [wpListIn]
  rw [if_pos (awant_ok r hw)]
  refine ⟨fun f _ => hE.wide.fn f, ?_⟩
  rw [Oper.semAt_plain E.F _ _ (by rw [hop]; intro c hc; cases hc)]
  obtain ⟨dst, op, ty, pos, af, gd⟩ := o
  simp only at hop hs
  subst hop
  obtain ⟨Z, K, Y, hZE, r⟩ := r
  have h1 := RA_ev (C := cx Z h ι w) (s := s) (a := a) xo fun t _ => r.slot t
  rw [hx] at h1
  simp only [RA] at h1
  obtain ⟨hkd, e1⟩ := h1
  have h2 := RA_ev (C := cx Z h ι w) (s := s) (a := a) uo fun t _ => r.slot t
  rw [hu] at h2
  have e2 := (RA_lit.1 h2).1
  obtain ⟨vs, f1, f2, f3, f4⟩ := r.mem.ent key _ hkey
  have hund := (hE.ok.T t _ ht).2
  simp only [TK.fits] at hund
  have hsz := run_size hE.ok.T hte w
  have hvl : vs.length = xs.length * sz := by rw [RDs_length f2]; exact flat_len xs f3
  have husz : u * sz ≤ xs.length * sz := Nat.mul_le_mul_right _ hle
  have hbo : ∀ cap, xs.length ≤ cap → (Instr.sliceBounds true xs.length cap none (some (.int ik (u : Int))) none).run E.P w = .ok (0, u, cap) w := by
    intro cap hcap
    have huc : u ≤ cap := by omega
    simp [Instr.sliceBounds, Instr.sliceBound, asIntOf, huc]
  obtain ⟨v', hv', hrow, hblk⟩ : ∃ v', (execOp a.eval ⟨dst, .slice t xo none (some uo) none, ty, pos, af, gd⟩).run E.P w = .ok (.value v') w ∧ RowOk w v' e sz u (vs.take (u * sz)) ∧ (∀ b, blk v' = some b → b < w.heap.size ∧ (blk (ι key) = some b ∨ w.heap.size ≤ b)) := by
    rcases f1 with ⟨ad, e0, h0, hv0⟩ | ⟨g, cap, cur, e0, hc0, hg, hnc, hcm, hcs, htk⟩
    · have hu0 : u = 0 := by omega
      subst hu0
      have e1' : a.eval xo = .slice ad 0 0 := e1.trans e0
      have hb0 := hbo 0 (by omega)
      rw [h0, show ((0 : Nat) : Int) = 0 from rfl] at hb0
      refine ⟨.slice ad 0 0, ?_, .inl ⟨ad, rfl, rfl, by rw [hv0]; simp⟩, fun b hb => by cases ad <;> simp [blk] at hb⟩
      cases ad <;> simp [execOp, Instr.sliceAt, Instr.slice, run_underlying hund, e1', e2, hb0, hsz]
    · have e1' : a.eval xo = .slice (some ⟨g, 0, none⟩) xs.length cap := e1.trans e0
      have hg' : w.heap[g]? = some (.cells cur e (0, 0)) := hg
      have hb0 := hbo cap hnc
      have hbk : blk (ι key) = some g := by rw [e0]; simp [blk]; omega
      refine ⟨.slice (some ⟨g, 0, none⟩) u cap, ?_, .inr ⟨g, cap, cur, rfl, hc0, hg', by omega, hcm, hcs, ?_⟩, fun b hb => ?_⟩
      · simp [execOp, Instr.sliceAt, Instr.slice, run_underlying hund, e1', e2, hb0, hsz, Addr.add]
      · rw [← htk, List.take_take, Nat.min_eq_left husz]
      · have : blk (.slice (some ⟨g, 0, none⟩) u cap) = some g := by simp [blk]; omega
        rw [this] at hb
        cases hb
        exact ⟨(Array.getElem?_eq_some_iff.1 hg').1, .inl hbk⟩
  rw [hv']
  show wpListIn _ _ _ _ _ _ _ _
  have hlen : (xs.take u).length = u := by simp; omega
  have hent : EntOk (cx Z (hset (unkH key h) key (some (.row e sz (xs.take u)))) (fun j => bif Nat.beq j key then v' else ι j) w) (.row e sz (xs.take u)) v' := by
    refine ⟨vs.take (u * sz), by rw [hlen]; exact hrow, ?_, fun y hy => f3 y (List.mem_of_mem_take hy), by rw [hlen]; omega⟩
    have h5 := RDs_take (u * sz) f2
    rw [← flat_take xs u f3] at h5
    refine RDs_keeps (w := w) (M := (cx Z h ι w).M) ⟨fun _ _ _ _ hh => hh, fun _ _ hh => hh, fun b _ hm hm' => ?_⟩ _ _ h5
    rcases hm' with hz | ⟨j, hj, hjb⟩
    · exact hm (.inl hz)
    · by_cases hjk : j = key
      · subst hjk
        simp at hjb
        rcases (hblk b hjb).2 with h6 | h6
        · exact hm (.inr ⟨_, hkd, h6⟩)
        · have := (hblk b hjb).1
          omega
      · have hbq : Nat.beq j key = false := Bool.eq_false_iff.2 fun h' => hjk (Nat.eq_of_beq_eq_true h')
        simp only [dom, hset_ne (unkH key h) _ hjk] at hj
        simp only [hbq, cond_false] at hjb
        exact hm (.inr ⟨j, dom_unkH.1 hj, hjb⟩)
  obtain ⟨m', kk⟩ := r.mem.redo (w' := w) hkd (Step.refl _ w) hblk hent
  have r0 : Rel Z K E.N (J K Y Z) (unkS key s) (hset (unkH key h) key (some (.row e sz (xs.take u)))) (fun j => bif Nat.beq j key then v' else ι j) a w :=
    ⟨m', r.size, fun j => RA_keepsK kk _ _ (nokey_unk key _) (RA_unk (r.slot j)), r.ds⟩
  unfold putS at hs
  cases hdst : dst with
  | none =>
    simp only [hdst] at hs
    cases hs
    exact hk _ _ w ⟨Z, K, Y, hZE, Rel.put_none r0 (Grew.refl _) _⟩
  | some d =>
    simp only [hdst] at hs
    cases hbd : Nat.ble (d + 1) E.N with
    | false => rw [hbd] at hs; cases hs
    | true =>
      rw [hbd] at hs
      cases hs
      exact hk _ _ w ⟨Z, K, Y, hZE, Rel.put r0 (Grew.refl _) hbd key_row⟩

/-- Several ways meet: what is told of all of them goes on. -/
theorem CW_cutE {x y : Code} {st : St} {α : Type} (S : α → St) (φ : α → Prop) (h : CW E x (thenQ (fun st => ∃ p, φ p ∧ LE E st (S p)) Q) st) (h2 : ∀ p, φ p → CW E y Q (S p)) : CW E (.seq x y) Q st :=
  CW_seq (CW.mono h fun e st' q => by
    cases e with
    | normal => obtain ⟨p, hp, hle⟩ := q; exact CW.le hle (h2 p hp)
    | _ => exact q)
end
end Go.AL
/- AL, part 31: regions that draw whose last operations come in several orders; 'max'. -/
namespace Go.AL
set_option linter.unusedVariables false
set_option linter.unusedSimpArgs false

def lexH (ops : Array Oper) : Nat → Nat → Array Bool → Bool
  | 0, _, _ => true
  | f + 1, k, listed => (Region.ready .any ops listed).contains k && Region.free .any ops listed k && lexH ops f (k + 1) (listed.setIfInBounds k true)
/-- Whatever is not of the head waits for all of the head. -/
def allSink (ops : Array Oper) (n : Nat) : Bool := (List.range ops.size).all fun t => Nat.ble (t + 1) n || (List.range n).all fun i => match ops[t]? with
  | some o => o.after.any fun e => Region.binds .any e && Nat.beq e.on i
  | none => true
def headB (ops : Array Oper) (n : Nat) : Bool := Nat.ble n ops.size && allSink ops n && lexH ops n 0 (Array.replicate ops.size false)

theorem waits_of {ops : Array Oper} {n : Nat} (h : allSink ops n = true) {listed : Array Bool} {i : Nat} (hi : i < n) (hun : listed.getD i true = false) : ∀ t, n ≤ t → t ∉ Region.ready .any ops listed := by
  intro t ht hr
  obtain ⟨_, ot, hot, hall⟩ := mem_ready.1 hr
  have htl : t < ops.size := (Array.getElem?_eq_some_iff.1 hot).1
  have h1 := List.all_eq_true.1 h t (List.mem_range.2 htl)
  simp only [Bool.or_eq_true] at h1
  rcases h1 with h1 | h1
  · have := Nat.le_of_ble_eq_true h1; omega
  · have h2 := List.all_eq_true.1 h1 i (List.mem_range.2 hi)
    rw [hot] at h2
    obtain ⟨e, he, hb⟩ := Array.any_eq_true'.1 h2
    simp only [Bool.and_eq_true] at hb
    have hon := Nat.eq_of_beq_eq_true hb.2
    have := hall e he hb.1
    rw [hon] at this
    rcases Nat.lt_or_ge i listed.size with h' | h'
    · simp [h'] at hun this
      rw [hun] at this; cases this
    · simp [Array.getElem?_eq_none h'] at hun

section
variable {E : Env} {ops : List Oper} {Y : Nat → Slots → AV → Prop}
theorem anyB_firstW (hY : YStable ops Y) {n i : Nat} {oi : Oper} {v : AV} {L : Array Bool → Slots → Prop} (hi : ops[i]? = some oi) (hw : allSink ops.toArray n = true) (hin : i < n) (hdo : dstOk E.N oi.dst = true)
    (hdone : ∀ listed s, L listed s → ∀ j ∈ Region.ready .any ops.toArray listed, n ≤ j) :
    ∀ (f : Nat) (listed : Array Bool) (s : Slots), HeadInv .any ops.toArray n listed →
      (∀ j oj, ops.toArray[j]? = some oj → j ≠ i → listed.getD j true = false → (∀ e ∈ oj.after, Region.binds .any e = true → e.on ≠ i) → oi.apart ops.toArray oj = true) →
      i ∈ Region.ready .any ops.toArray listed → Y i s v →
      anyB E ops Y n L f (listed.setIfInBounds i true) (pu s oi.dst v) → anyB E ops Y n L (f + 1) listed s := by
  intro f
  induction f with
  | zero =>
    intro listed s inv _ hr hy H
    have hun := (mem_ready.1 hr).1
    refine ⟨fun h => (by rw [h] at hr; cases hr), fun j hj => ?_⟩
    have hjn : j < n := by
      rcases Nat.lt_or_ge j n with h | h
      · exact h
      · exact absurd hj (waits_of hw hin hun j h)
    refine ⟨hjn, ?_⟩
    by_cases hji : j = i
    · subst hji
      unfold qB
      simp only [hi]
      exact ⟨v, hdo, hy, H⟩
    · have := hdone _ _ H j (ready_mono hj hji)
      omega
  | succ f ih =>
    intro listed s inv hfree hr hy H
    have hun := (mem_ready.1 hr).1
    refine ⟨fun h => (by rw [h] at hr; cases hr), fun j hj => ?_⟩
    have hjn : j < n := by
      rcases Nat.lt_or_ge j n with h | h
      · exact h
      · exact absurd hj (waits_of hw hin hun j h)
    refine ⟨hjn, ?_⟩
    by_cases hji : j = i
    · subst hji
      unfold qB
      simp only [hi]
      exact ⟨v, hdo, hy, H⟩
    · have h1 := (H.2 j (ready_mono hj hji)).2
      obtain ⟨hjun, oj, hoj, hall⟩ := mem_ready.1 hj
      have hoj' : ops[j]? = some oj := by simpa using hoj
      have hnot : ∀ e ∈ oj.after, Region.binds .any e = true → e.on ≠ i := fun e he hb heq => by
        have h1 := hall e he hb
        rw [heq, getD_both hun] at h1
        cases h1
      have h2 := qB_put hY hi hoj' (hfree j oj hoj hji hjun hnot) hy h1
      have hfree' : ∀ k ok, ops.toArray[k]? = some ok → k ≠ i → (listed.setIfInBounds j true).getD k true = false →
          (∀ e ∈ ok.after, Region.binds .any e = true → e.on ≠ i) → oi.apart ops.toArray ok = true := fun k ok hk hki hun hno => by
        refine hfree k ok hk hki ?_ hno
        by_cases hjk : j = k
        · subst hjk; exact hjun
        · rw [getD_set_ne true hjk] at hun; exact hun
      refine qB_mono (fun s' h3 => ih (listed.setIfInBounds j true) s' (inv.set hj hjn) hfree' (ready_mono hr (Ne.symm hji)) h3.1 ?_) h2
      rw [Array.setIfInBounds_comm _ _ hji]
      exact h3.2

theorem anyB_lexW (hY : YStable ops Y) {n : Nat} {K : Slots → Prop} (hw : allSink ops.toArray n = true) (hn : n ≤ ops.toArray.size) :
    ∀ (l : List Oper) (k : Nat) (listed : Array Bool) (s : Slots), (∀ j, j < l.length → l[j]? = ops[k + j]?) → k + l.length = n → HeadInv .any ops.toArray n listed → (∀ j, j < k → listed.getD j false = true) →
    lexH ops.toArray l.length k listed = true → QB E Y K l k s →
    anyB E ops Y n (fun listed' s' => (HeadInv .any ops.toArray n listed' ∧ ∀ j, j < n → listed'.getD j false = true) ∧ K s') l.length listed s
  | [], k, listed, s, _, hk, inv, hall, hB, hq => by
    have : k = n := by simpa using hk
    subst this
    exact ⟨⟨inv, hall⟩, hq⟩
  | o :: l, k, listed, s, hl, hk, inv, hall, hB, hq => by
    have h0 : ops[k]? = some o := by simpa using (hl 0 (by simp)).symm
    simp only [List.length_cons, lexH, Bool.and_eq_true] at hB
    obtain ⟨⟨hr, hf⟩, hB'⟩ := hB
    have hkn : k < n := by simp only [List.length_cons] at hk; omega
    have hr' : k ∈ Region.ready .any ops.toArray listed := by simpa using hr
    obtain ⟨x, g1, g2, g3⟩ := hq
    have hall' : ∀ j, j < k + 1 → (listed.setIfInBounds k true).getD j false = true := fun j hj => by
      by_cases hjk : k = j
      · subst hjk
        have : k < listed.size := by rw [inv.size]; omega
        simp [this]
      · rw [getD_set_ne false hjk]; exact hall j (by omega)
    exact anyB_firstW hY h0 hw hkn g1 (fun listed' s' hL j hj => by
      rcases Nat.lt_or_ge j n with h | h
      · have h1 := hL.1.2 j h
        have h2 := (mem_ready.1 hj).1
        rw [getD_both h2] at h1; cases h1
      · exact h) l.length listed s inv (Region.free_spec (by simpa using h0) hf) hr' g2
      (anyB_lexW hY hw hn l (k + 1) _ _ (fun j hj => by have := hl (j + 1) (by simp; omega); simpa [Nat.add_assoc, Nat.add_comm 1 j] using this) (by simp only [List.length_cons] at hk; omega) (inv.set hr' hkn) hall' hB' g3)
end

/-! ### Behind the head: whichever is ready -/
def AW (E : Env) (ops : List Oper) (g : Nat) (listed : Array Bool) (Q : Exit → St → Prop) (st : St) : Prop :=
  ∀ ι a w, RelS E st ι a w → wpAnyIn E.F E.n E.P .any ops.toArray (Post E Q) g listed a w
section
variable {E : Env} {ops : List Oper} {Q : Exit → St → Prop} {st : St} {listed : Array Bool} {g : Nat}
theorem AW_end (hr : Region.ready .any ops.toArray listed = []) (h : Q .normal st) : AW E ops 0 listed Q st := fun ι a w r => ⟨hr, st, ι, h, r⟩
theorem opIn_of {i : Nat} {o : Oper} (ho : ops[i]? = some o) (hg : o.guard = none) {K : St → Prop} (h : OW E [o] 0 (fun e st' => e = .normal ∧ K st') st) {K' : Act → World → Prop} {Q' : Exit → Act → World → Prop} (hk : ∀ st' ι' a' w', K st' → RelS E st' ι' a' w' → K' a' w')
    {ι : Nat → Value} {a : Act} {w : World} (r : RelS E st ι a w) : wpOpIn E.F E.n E.P ops.toArray Q' i K' a w := by
  unfold wpOpIn
  simp only [List.getElem?_toArray, ho]
  rw [if_pos (by simp [Region.wanted, hg])]
  exact opG_of_OW hg h ι a w r K' Q' hk
theorem AW_one {i : Nat} {o : Oper} (hr : Region.ready .any ops.toArray listed = [i]) (ho : ops[i]? = some o) (hg : o.guard = none) (h : OW E [o] 0 (fun e st' => e = .normal ∧ AW E ops g (listed.setIfInBounds i true) Q st') st) : AW E ops (g + 1) listed Q st := fun ι a w r => by
  refine ⟨fun h0 => (by rw [hr] at h0; cases h0), fun j hj => ?_⟩
  rw [hr] at hj
  have : j = i := by simpa using hj
  subst this
  exact opIn_of ho hg h (fun st' ι' a' w' k r' => k ι' a' w' r') r
theorem AW_two {i j : Nat} {o o' : Oper} (hr : Region.ready .any ops.toArray listed = [i, j]) (ho : ops[i]? = some o) (hg : o.guard = none) (ho' : ops[j]? = some o') (hg' : o'.guard = none)
    (h : OW E [o] 0 (fun e st' => e = .normal ∧ AW E ops g (listed.setIfInBounds i true) Q st') st) (h' : OW E [o'] 0 (fun e st' => e = .normal ∧ AW E ops g (listed.setIfInBounds j true) Q st') st) : AW E ops (g + 1) listed Q st := fun ι a w r => by
  refine ⟨fun h0 => (by rw [hr] at h0; cases h0), fun q hq => ?_⟩
  rw [hr] at hq
  have : q = i ∨ q = j := by simpa using hq
  rcases this with rfl | rfl
  · exact opIn_of ho hg h (fun st' ι' a' w' k r' => k ι' a' w' r') r
  · exact opIn_of ho' hg' h' (fun st' ι' a' w' k r' => k ι' a' w' r') r
end

def headListed (n m : Nat) : Array Bool := ((List.replicate n true) ++ List.replicate (m - n) false).toArray

theorem CW_fork {E : Env} {ops : List Oper} {Q : Exit → St → Prop} {J : Jt} {s : Slots} {h : Heap} (hE : E.Good) (n : Nat) {id : Nat} (hB : headB ops.toArray n = true)
    (hq : HW E ops J h n 0 (fun s => AW E ops (ops.length - n) (headListed n ops.length) Q ⟨J, s, h⟩) s) : CW E (.region id ops.toArray true) Q ⟨J, s, h⟩ := fun ι a w r => by
  simp only [headB, Bool.and_eq_true] at hB
  obtain ⟨⟨hn, hs⟩, hlex⟩ := hB
  have hn := Nat.le_of_ble_eq_true hn
  have hn' : n ≤ ops.length := by simpa using hn
  have htl : (ops.take n).length = n := by simp; omega
  let Y : Nat → Slots → AV → Prop := fun i s x => ∃ o, ops[i]? = some o ∧ YA E ops J h o s x
  have hYS : YStable ops Y := by
    rintro i o s s' x ho hss ⟨o', ho', hy⟩
    have : o' = o := by rw [ho] at ho'; exact (Option.some.inj ho').symm
    subst this
    exact ⟨o', ho', YA_same hss hy⟩
  have inv0 : HeadInv .any ops.toArray n (Array.replicate ops.toArray.size false) :=
    ⟨by simp, fun j oj _ hl => (by rw [getD_replicate_false] at hl; cases hl), fun t _ ht => getD_in (by simpa using ht) (getD_replicate_false _ _)⟩
  have hQB : ∀ (l : List Oper) (k : Nat) (K : Slots → Prop) (s : Slots), (∀ j, j < l.length → l[j]? = ops[k + j]?) → QW E ops J h K l s → QB E Y K l k s := by
    intro l
    induction l with
    | nil => intro k K s _ hq; exact hq
    | cons o l ih =>
      intro k K s hl hq
      obtain ⟨x, h1, h2, h3⟩ := hq
      exact ⟨x, h1, ⟨o, by simpa using (hl 0 (by simp)).symm, h2⟩, ih (k + 1) K _ (fun j hj => by have := hl (j + 1) (by simp; omega); simpa [Nat.add_assoc, Nat.add_comm 1 j] using this) h3⟩
  have H0 := anyB_lexW (E := E) (Y := Y) hYS hs hn (ops.take n) 0 _ s (fun j hj => by
    have hj' : j < n := by rw [htl] at hj; exact hj
    simp [hj']) (by simpa using htl) inv0 (fun j hj => by omega) (by rw [htl]; exact hlex) (hQB _ 0 _ s (fun j hj => by
    have hj' : j < n := by rw [htl] at hj; exact hj
    simp [hj']) (by simpa [HW] using hq))
  have r1 : RelS E ⟨J, s, h⟩ ι a { w with drawn := w.drawn + 1 } := by
    obtain ⟨Z, K, Y, hZE, r⟩ := r
    exact ⟨Z, K, Y, hZE, r.mem.grew (Grew.drew w), r.size, fun i => RA_keeps (keepsC_grew (K := K) (J := J K Y Z) (Grew.drew w)) _ _ (r.slot i), r.ds.grew (Grew.drew w)⟩
  refine wpIn_region_any hE.ok.mixed ?_
  have hh := wpAnyIn_of_headB (Y := Y) (J := J) (Q' := Post E Q) (fun _ => h) (g := ops.length - n) (fun i o listed s x ho inv hi hin hy hdo ι a w r K' hk' => ?_) (fun listed s ι a' w' r' hL => by
    have hlist : listed = headListed n ops.length := by
      have hsz := hL.1.1.size
      apply Array.ext
      · rw [hsz]; simp [headListed]; omega
      · intro q hq1 hq2
        rcases Nat.lt_or_ge q n with hqn | hqn
        · have := hL.1.2 q hqn
          have e1 : listed[q] = true := by simpa [hq1] using this
          rw [e1]
          simp [headListed, List.getElem_append, hqn]
        · have := hL.1.1.tail q hqn (by rw [← hsz]; exact hq1)
          have e1 : listed[q] = false := by simpa [hq1] using this
          rw [e1]
          simp [headListed, List.getElem_append, Nat.not_lt.2 hqn]
    subst hlist
    exact hL.2 ι a' w' r') _ _ _ ι a _ inv0 r1 H0
  · rw [htl] at hh
    rwa [show n + (ops.length - n) = ops.toArray.size by simp; omega] at hh
  · obtain ⟨o', ho', hya⟩ := hy
    have : o' = o := by rw [ho] at ho'; exact (Option.some.inj ho').symm
    subst this
    refine wpOpIn_of_qA (J := J) (h := h) (K := fun s' => s' = pu s o'.dst x) hE r (fun s' a' w' r' hs' => ?_) ?_
    · subst hs'
      exact hk' ι a' w' r'
    · unfold qA
      simp only [ho]
      exact ⟨x, hdo, hya, rfl⟩

/-- 'max' of two ints. -/
theorem loc_max {E : Env} {ops : List Oper} {J : Jt} {s : Slots} {h : Heap} (hE : E.Good) {o : Oper} {xo yo : Operand} {t : TypeId} (hop : o.op = .call ⟨.builtin .max, #[xo, yo], #[t, t]⟩) {x1 x2 : Nat} {x3 : List Value} (ht : E.T t = some ⟨.int .i64, x1, x2, x3⟩) {a b : Int} (hx : ev s xo = .d (.lit (.int .i64 a))) (hy : ev s yo = .d (.lit (.int .i64 b))) :
    Loc E ops J h o s (.d (.lit (.int .i64 (max a b)))) := by
  refine ⟨(by rw [hop]; intro c hc; cases hc), fun Z K Y ι ac w m hl => ?_⟩
  obtain ⟨dst, op, ty, pos, af, gd⟩ := o
  simp only at hop
  subst hop
  have h1 := hl xo (by simp [Op.operands, Call.operands])
  have h2 := hl yo (by simp [Op.operands, Call.operands])
  rw [hx] at h1
  rw [hy] at h2
  obtain ⟨e1, o1⟩ := RA_lit.1 h1
  obtain ⟨e2, o2⟩ := RA_lit.1 h2
  have hu := (hE.ok.T t _ ht).2
  simp only [TK.fits] at hu
  refine ⟨.int .i64 (max a b), w, ?_, Grew.refl w, RA_lit_mk ?_⟩
  · have hm : (if b > a then b else a) = max a b := by simp only [Int.max_def]; split <;> split <;> omega
    simp [execOp, resolve, invoke, builtin, Builtin.max_, Builtin.max2, e1, e2, hm]
  · simp only [okLit] at o1 o2 ⊢
    omega

/-- '[]T{zero}', the element a constant of several cells. -/
theorem loc_litAgg {E : Env} {ops : List Oper} {J : Jt} {s : Slots} {h : Heap} (hE : E.Good) {o : Oper} {t e : TypeId} {vs : Array Value} (hop : o.op = .buildSlice t 1 #[(0, .const (.agg vs))]) {z1 z2 : Nat} {z3 : List Value} (ht : E.T t = some ⟨.slice e, z1, z2, z3⟩)
    {k : TK} {sz bts : Nat} {z6 : List Value} (hte : E.T e = some ⟨k, sz, bts, z6⟩) (hpos : Nat.ble 1 sz = true) (hsz : vs.size = sz) (hok : vs.toList.all okLitB = true) (hsmall : Nat.ble (1 * sz) 16777216 = true) (hbts : Nat.ble bts 16777216 = true) : Loc E ops J h o s (.d (.sl sz bts [vs.toList.map .lit])) := by
  refine ⟨(by rw [hop]; intro c hc; cases hc), fun Z K Y ι a w m hlk => ?_⟩
  obtain ⟨dst, op, ty, pos, af, gd⟩ := o
  simp only at hop
  subst hop
  have hu := (hE.ok.T t _ ht).2
  simp only [TK.fits] at hu
  obtain ⟨⟨ie, hie, hisz, hby, z, hz, hzc⟩, _⟩ := hE.ok.T e _ hte
  simp only at hisz hby hzc
  have hpos' : 1 ≤ sz := Nat.le_of_ble_eq_true hpos
  have hsm' := Nat.le_of_ble_eq_true hsmall
  have hb := Nat.le_of_ble_eq_true hbts
  have hr : (Instr.buildSlice t 1 (#[(0, Operand.const (.agg vs))].map fun p => (p.1, a.eval p.2))).run E.P w = .ok (.slice (some ⟨w.heap.size, 0, none⟩) 1 1) (w.alloc (.cells vs e)) := by
    refine run_buildSlice (P := E.P) w t e 1 _ _ ie z hu hie hz (by rw [hisz]; omega) (by rw [hisz]; omega) ?_
    rw [hisz]
    have hfw := Great.fill_whole (s := sz) hpos' [Value.agg vs] ((Array.range (1 * sz)).map (z.cells[· % z.cells.size]!)) (by intro v hv; simp at hv; subst hv; simpa [Value.cells] using hsz) (by simp)
    simpa [Act.eval, Value.cells] using hfw
  refine ⟨.slice (some ⟨w.heap.size, 0, none⟩) 1 1, w.alloc (.cells vs e), by simp only [execOp, Sem.run_bind]; rw [hr]; simp, Grew.alloc w _, ?_⟩
  have hRD : ∀ l : List Value, l.all okLitB = true → RDs w (cx Z h ι w).M (l.map .lit) l := by
    intro l
    induction l with
    | nil => simp [RDs]
    | cons v l ih =>
      intro hl
      simp only [List.all_cons, Bool.and_eq_true] at hl
      simp only [List.map_cons, RDs]
      exact ⟨v, l, rfl, by simp only [RD]; exact ⟨trivial, okLit_of_B hl.1⟩, ih hl.2⟩
  simp only [RA, RD]
  have hn := RC_new m e (hRD vs.toList hok)
  refine ⟨_, 1, rfl, by simp, by simp; omega, by simp, .inr ⟨w.heap.size, 0, rfl, hn.1, ⟨_, _, _, heap_alloc_new w _⟩, RCs_of_flat (by intro x hx; simp at hx; subst hx; simpa using hsz) (by simpa using hn.2)⟩⟩
end Go.AL
/- AL, part 32: a variable of the frame's own handed on as data: nobody writes it from now on. -/
namespace Go.AL
set_option linter.unusedVariables false
set_option linter.unusedSimpArgs false
mutual
def fb (k : Nat) (ds : List D) : AV → AV
  | .d x => .d x
  | .any => .any
  | .agg cs => .agg (fbs k ds cs)
  | .tup cs => .tup (fbs k ds cs)
  | .fn f a b => .fn f (fbs k ds a) (fbs k ds b)
  | .ptr j o => bif Nat.beq j k then .d (.iptr (ds.drop o)) else .ptr j o
  | .row j => bif Nat.beq j k then .any else .row j
  | .view j o n => bif Nat.beq j k then .any else .view j o n
def fbs (k : Nat) (ds : List D) : List AV → List AV
  | [] => []
  | x :: xs => fb k ds x :: fbs k ds xs
end
def fbS (k : Nat) (ds : List D) (s : Slots) : Slots := fun i => fb k ds (s i)
def fbE (k : Nat) (ds : List D) : Ent → Ent
  | .box t cs => .box t (fbs k ds cs)
  | .row e sz xs => .row e sz xs
  | .ghost cs vs => .ghost (fbs k ds cs) vs
  | .rowA e sz n cs => .rowA e sz n (fbs k ds cs)
def fbH (k : Nat) (ds : List D) (h : Heap) : Heap := fun j => bif Nat.beq j k then none else match h j with
  | some e => some (fbE k ds e)
  | none => none
mutual
theorem RA_fb {k : Nat} {ds : List D} {C C' : Cx} (hk : Keeps C.w C'.w C.M C'.M) (hd : ∀ j, j ≠ k → C.dom j → C'.dom j ∧ C'.ι j = C.ι j) (hX : ∀ o b, blk (C.ι k) = some b → RD C'.w C'.M (.iptr (ds.drop o)) (.pointer (some ⟨b, o, none⟩))) : ∀ (x : AV) (v : Value), RA C x v → RA C' (fb k ds x) v
  | .d x, v => fun hx => by simp only [RA, fb] at hx ⊢; exact RD_keeps hk x v hx
  | .agg cs, v => fun hx => by
    simp only [RA, fb] at hx ⊢
    obtain ⟨vs, e, h1⟩ := hx
    exact ⟨vs, e, RAs_fb hk hd hX cs _ h1⟩
  | .tup cs, v => fun hx => by
    simp only [RA, fb] at hx ⊢
    obtain ⟨vs, e, h1⟩ := hx
    exact ⟨vs, e, RAs_fb hk hd hX cs _ h1⟩
  | .fn f first cap, v => fun hx => by
    simp only [RA, fb] at hx ⊢
    obtain ⟨vf, vc, e, h1, h2⟩ := hx
    exact ⟨vf, vc, e, RAs_fb hk hd hX first _ h1, RAs_fb hk hd hX cap _ h2⟩
  | .any, v => fun _ => by simp only [RA, fb]
  | .ptr j o, v => fun hx => by
    simp only [fb]
    cases hb : Nat.beq j k with
    | true =>
      have e := Nat.eq_of_beq_eq_true hb
      subst e
      simp only [RA, cond_true] at hx ⊢
      obtain ⟨_, b, hbk, e⟩ := hx
      rw [e]; exact hX o b hbk
    | false =>
      have hne : j ≠ k := by intro e; subst e; simp at hb
      simp only [RA, cond_false] at hx ⊢
      obtain ⟨hj, b, hbk, e⟩ := hx
      have := hd j hne hj
      exact ⟨this.1, b, by rw [this.2]; exact hbk, e⟩
  | .view j o n, v => fun hx => by
    simp only [fb]
    cases hb : Nat.beq j k with
    | true => simp [RA]
    | false =>
      have hne : j ≠ k := by intro e; subst e; simp at hb
      simp only [RA, cond_false] at hx ⊢
      obtain ⟨hj, b, cap, hbk, e⟩ := hx
      have := hd j hne hj
      exact ⟨this.1, b, cap, by rw [this.2]; exact hbk, by rw [this.2]; exact e⟩
  | .row j, v => fun hx => by
    simp only [fb]
    cases hb : Nat.beq j k with
    | true => simp [RA]
    | false =>
      have hne : j ≠ k := by intro e; subst e; simp at hb
      simp only [RA, cond_false] at hx ⊢
      have := hd j hne hx.1
      exact ⟨this.1, by rw [this.2]; exact hx.2⟩
theorem RAs_fb {k : Nat} {ds : List D} {C C' : Cx} (hk : Keeps C.w C'.w C.M C'.M) (hd : ∀ j, j ≠ k → C.dom j → C'.dom j ∧ C'.ι j = C.ι j) (hX : ∀ o b, blk (C.ι k) = some b → RD C'.w C'.M (.iptr (ds.drop o)) (.pointer (some ⟨b, o, none⟩))) : ∀ (xs : List AV) (vs : List Value), RAs C xs vs → RAs C' (fbs k ds xs) vs
  | [], vs => fun hx => by simpa only [RAs, fbs] using hx
  | x :: xs, vs => fun hx => by
    simp only [RAs, fbs] at hx ⊢
    obtain ⟨v, t, e, h1, h2⟩ := hx
    exact ⟨v, t, e, RA_fb hk hd hX x v h1, RAs_fb hk hd hX xs t h2⟩
end

theorem LE_freezeBox {E : Env} {J : Jt} {s : Slots} {h : Heap} (k : Nat) {t : TypeId} {cs : List AV} {ds : List D} (hk : h k = some (.box t cs)) (hds : cs = ds.map .d) : LE E ⟨J, s, h⟩ ⟨J, fbS k ds s, fbH k ds h⟩ := fun ι a w ⟨Z, K, Y, hZE, r⟩ => by
  subst hds
  have hdom : ∀ j, dom (fbH k ds h) j ↔ j ≠ k ∧ dom h j := by
    intro j
    unfold dom fbH
    cases hbq : Nat.beq j k with
    | true =>
      have e := Nat.eq_of_beq_eq_true hbq
      simp [e]
    | false =>
      have hne : j ≠ k := by intro e; subst e; simp at hbq
      simp only [cond_false]
      cases hj : h j <;> simp [hne]
  have hkd : dom h k := by simp [dom, hk]
  have keeps : Keeps w w (cx Z h ι w).M (cx Z (fbH k ds h) ι w).M := by
    refine ⟨fun _ _ _ _ hh => hh, fun _ _ hh => hh, fun b _ hm hm' => ?_⟩
    rcases hm' with hz | ⟨j, hj, hjb⟩
    · exact hm (.inl hz)
    · exact hm (.inr ⟨j, ((hdom j).1 hj).2, hjb⟩)
  have hd : ∀ j, j ≠ k → (cx Z h ι w).dom j → (cx Z (fbH k ds h) ι w).dom j ∧ ι j = ι j := fun j hne hj => ⟨(hdom j).2 ⟨hne, hj⟩, rfl⟩
  have hX : ∀ o b, blk (ι k) = some b → RD w (cx Z (fbH k ds h) ι w).M (.iptr (ds.drop o)) (.pointer (some ⟨b, o, none⟩)) := by
    intro o b hb
    obtain ⟨b', vs, h1, h2, h3⟩ := r.mem.ent k _ hk
    have : b' = b := by rw [blk_ptr h1] at hb; injection hb
    subst this
    have h2' : w.heap[b']? = some (.cells vs t (0, 0)) := h2
    simp only [RD]
    refine ⟨b', o, rfl, fun hm => ?_, ⟨_, _, _, h2'⟩, RC_of_list (RDs_keeps keeps _ _ (RDs_drop o (RAs_map_d.1 h3))) fun j v hj => ?_⟩
    · rcases hm with hz | ⟨j, hj, hjb⟩
      · exact (r.mem.own k b' hkd hb).1 hz
      · have hj' := (hdom j).1 hj
        exact hj'.1 (r.mem.apart j k b' hj'.2 hkd hjb hb)
    · simp only [World.cell?, h2']
      simpa [List.getElem?_drop] using hj
  refine ⟨ι, Z, K, Y, hZE, ⟨fun j e' hj => ?_, fun j b hj hjb => r.mem.own j b ((hdom j).1 hj).2 hjb, fun j j' b hj hj' => r.mem.apart j j' b ((hdom j).1 hj).2 ((hdom j').1 hj').2, r.mem.Zlt, r.mem.Klt, r.mem.Jw, r.mem.Jc⟩, r.size,
    fun j => RA_fb (C := cx Z h ι w) (C' := cx Z (fbH k ds h) ι w) keeps hd hX _ _ (r.slot j), r.ds⟩
  have hj0 : j ≠ k := ((hdom j).1 (show (fbH k ds h j).isSome = true by rw [show fbH k ds h j = some e' from hj]; rfl)).1
  have hbq : Nat.beq j k = false := Bool.eq_false_iff.2 fun h' => hj0 (Nat.eq_of_beq_eq_true h')
  have hj' : (match h j with | some e => some (fbE k ds e) | none => none) = some e' := by
    have : fbH k ds h j = some e' := hj
    unfold fbH at this
    rw [hbq] at this
    exact this
  split at hj'
  · rename_i e0 he0
    cases hj'
    have ho := r.mem.ent j e0 he0
    cases e0 with
    | box t cs =>
      obtain ⟨b, vs, h1, h2, h3⟩ := ho
      exact ⟨b, vs, h1, h2, RAs_fb (C := cx Z h ι w) (C' := cx Z (fbH k ds h) ι w) keeps hd hX _ _ h3⟩
    | row e2 sz2 xs2 =>
      obtain ⟨vs, h1, h2, h3⟩ := ho
      exact ⟨vs, h1, RDs_keeps keeps _ _ h2, h3⟩
    | ghost cs vs => exact ⟨ho.1, RAs_fb (C := cx Z h ι w) (C' := cx Z (fbH k ds h) ι w) keeps hd hX _ _ ho.2⟩
    | rowA e2 sz2 n2 cs =>
      obtain ⟨vs, h1, h2, h3⟩ := ho
      exact ⟨vs, h1, RAs_fb (C := cx Z h ι w) (C' := cx Z (fbH k ds h) ι w) keeps hd hX _ _ h2, h3⟩
  · cases hj'

end Go.AL
/- AL, part 33: shifts to the left. -/
namespace Go.AL
set_option linter.unusedVariables false
set_option linter.unusedSimpArgs false
section
variable {E : Env} {ops : List Oper} {J : Jt} {h : Heap} {s : Slots}
end
end Go.AL
/- AL, part 34: calls that are lent what is the frame's own; rows told with less. -/
namespace Go.AL
set_option linter.unusedVariables false
set_option linter.unusedSimpArgs false
section
variable {E : Env} {ops : List Oper} {Q : Exit → St → Prop} {i : Nat} {J : Jt} {h : Heap} {s : Slots}

/-! ### Data told with less -/
def Dle (x y : D) : Prop := ∀ w M v, RD w M x v → RD w M y v
def Dles (x y : List D) : Prop := ∀ w M vs, RDs w M x vs → RDs w M y vs
theorem Dle.refl (x : D) : Dle x x := fun _ _ _ h => h
theorem Dles.refl (x : List D) : Dles x x := fun _ _ _ h => h
theorem Dles.nil : Dles [] [] := fun _ _ _ h => h
theorem Dles.cons {x y : D} {xs ys : List D} (h : Dle x y) (hs : Dles xs ys) : Dles (x :: xs) (y :: ys) := fun w M vs hv => by
  simp only [RDs] at hv ⊢
  obtain ⟨v, t, e, h1, h2⟩ := hv
  exact ⟨v, t, e, h _ _ _ h1, hs _ _ _ h2⟩
theorem RDs_split {w : World} {M : Nat → Prop} : ∀ {xs ys : List D} {vs : List Value}, RDs w M (xs ++ ys) vs → ∃ a b, vs = a ++ b ∧ RDs w M xs a ∧ RDs w M ys b
  | [], ys, vs, h => ⟨[], vs, rfl, by simp [RDs], h⟩
  | x :: xs, ys, vs, h => by
    simp only [List.cons_append, RDs] at h
    obtain ⟨v, t, rfl, h1, h2⟩ := h
    obtain ⟨a, b, rfl, h3, h4⟩ := RDs_split h2
    exact ⟨v :: a, b, rfl, by simp only [RDs]; exact ⟨v, a, rfl, h1, h3⟩, h4⟩
theorem Dles.append {x y xs ys : List D} (h : Dles x y) (hs : Dles xs ys) : Dles (x ++ xs) (y ++ ys) := fun w M vs hv => by
  obtain ⟨a, b, rfl, h1, h2⟩ := RDs_split hv
  exact RDs_append (h _ _ _ h1) (hs _ _ _ h2)
theorem Dle.nilSl (sz bts : Nat) : Dle (.lit (.slice none 0 0)) (.sl sz bts []) := fun w M v hv => by
  simp only [RD] at hv
  obtain ⟨rfl, _⟩ := hv
  simp only [RD]
  exact ⟨none, 0, rfl, by simp, by simp, by simp, by simp⟩
theorem Dles.set {x y : List D} : ∀ {xs : List (List D)} {j : Nat}, xs[j]? = some x → Dles x y → Dles xs.flatten (xs.set j y).flatten
  | [], j, h, _ => by simp at h
  | z :: xs, 0, h, hl => by
    simp at h; subst h
    simpa using hl.append (Dles.refl _)
  | z :: xs, j + 1, h, hl => by
    have := Dles.set (xs := xs) (j := j) (by simpa using h) hl
    simpa using (Dles.refl z).append this
end
end Go.AL
/- AL, part 35: shifts to the right, the low bits of a number. -/
namespace Go.AL
set_option linter.unusedVariables false
set_option linter.unusedSimpArgs false
section
variable {E : Env} {ops : List Oper} {J : Jt} {h : Heap} {s : Slots}
end
end Go.AL
/- AL, part 36: arrays: written out, their elements read. -/
namespace Go.AL
set_option linter.unusedVariables false
set_option linter.unusedSimpArgs false
section
variable {E : Env} {ops : List Oper} {J : Jt} {h : Heap} {s : Slots}
/-- The address of an element of an array of the frame's own. -/
theorem loc_addrA (hE : E.Good) {o : Oper} {t : TypeId} {xo io : Operand} (hop : o.op = .indexAddr t xo io) {n : Nat} {e : TypeId} {z1 z2 : Nat} {z3 : List Value} (ht : E.T t = some ⟨.array n e, z1, z2, z3⟩) {ti : TI} (hte : E.T e = some ti)
    {k off : Nat} {ik : IntKind} {i : Int} (hx : ev s xo = .ptr k off) (hi : ev s io = .d (.lit (.int ik i))) (h0 : 0 ≤ i) (h1 : i < n) : Loc E ops J h o s (.ptr k (off + i.toNat * ti.size)) := by
  refine ⟨(by rw [hop]; intro c hc; cases hc), fun Z K Y ι a w m hl => ?_⟩
  obtain ⟨dst, op, ty, pos, af, gd⟩ := o
  simp only at hop
  subst hop
  have g1 := hl xo (by simp [Op.operands])
  have g2 := hl io (by simp [Op.operands])
  rw [hx] at g1
  rw [hi] at g2
  obtain ⟨e2, _⟩ := RA_lit.1 g2
  simp only [RA] at g1
  obtain ⟨hk, b, hb, e1⟩ := g1
  have hu := (hE.ok.T t _ ht).2
  simp only [TK.fits] at hu
  have hsz := run_size hE.ok.T hte w
  refine ⟨.pointer (some ⟨b, off + i.toNat * ti.size, none⟩), w, ?_, Grew.refl w, by simp only [RA]; exact ⟨hk, b, hb, rfl⟩⟩
  simp [execOp, Instr.indexAt, e1, e2, asIntOf, Instr.sureAddr, run_underlying hu, h0, h1, hsz]
  simp [Addr.add]
theorem H2_as (d : Nat) (v : AV) {p : Pair} {n i : Nat} {K : Slots → Prop} (hs : s d = v) (hk : H2W p E ops J n i K (sset s d v)) : H2W p E ops J n i K s := by rwa [sset_self hs] at hk
end
end Go.AL
/- AL, part 41: a law's arguments as they come in, with their bulk: how many values and letters the data hold. -/
namespace Go.AL
set_option linter.unusedVariables false
set_option linter.unusedSimpArgs false

section
variable {P : Program} {T : Nat → Option TI} (hT : TOk P T) {S : List TypeId} (hS : closedT T S = true)
include hT hS
end

end Go.AL
/- AL, part 37: views into rows; functions that write the row that they are handed. -/
namespace Go.AL
set_option linter.unusedVariables false
set_option linter.unusedSimpArgs false
section
variable {E : Env} {ops : List Oper} {Q : Exit → St → Prop} {i : Nat} {J : Jt} {s : Slots} {h : Heap} {o : Oper}

/-- 'xs[l:]' of a row of the frame's own. -/
theorem loc_viewRow (hE : E.Good) {key : Nat} {t : TypeId} {xo lo : Operand} (hop : o.op = .slice t xo (some lo) none none) {e : TypeId} {z1 z2 : Nat} {z3 : List Value} (ht : E.T t = some ⟨.slice e, z1, z2, z3⟩) {k : TK} {sz z5 : Nat} {z6 : List Value} (hte : E.T e = some ⟨k, sz, z5, z6⟩) (hpos : Nat.ble 1 sz = true)
    {xs : List (List D)} (hx : ev s xo = .row key) (hkey : h key = some (.row e sz xs)) {ik : IntKind} {l : Nat} (hl0 : ev s lo = .d (.lit (.int ik (l : Int)))) (hlt : l < xs.length) : Loc E ops J h o s (.view key (l * sz) (xs.length - l)) := by
  refine ⟨(by rw [hop]; intro c hc; cases hc), fun Z K Y ι a w m hl => ?_⟩
  obtain ⟨dst, op, ty, pos, af, gd⟩ := o
  simp only at hop
  subst hop
  have h1 := hl xo (by simp [Op.operands])
  have h2 := hl lo (by simp [Op.operands])
  rw [hx] at h1
  rw [hl0] at h2
  obtain ⟨e2, _⟩ := RA_lit.1 h2
  simp only [RA] at h1
  obtain ⟨hkd, e1⟩ := h1
  obtain ⟨vs, f1, f2, f3, f4⟩ := m.ent key _ hkey
  rcases f1 with ⟨_, _, h0, _⟩ | ⟨g, cap, cur, e0, hc0, hg, hnc, hcm, hcs, htk⟩
  · omega
  have hb : blk (ι key) = some g := by rw [e0]; simp [blk]; omega
  have hu := (hE.ok.T t _ ht).2
  simp only [TK.fits] at hu
  have hsz := run_size hE.ok.T hte w
  have e1' : a.eval xo = .slice (some ⟨g, 0, none⟩) xs.length cap := e1.trans e0
  have hb0 : (Instr.sliceBounds true xs.length cap (some (.int ik (l : Int))) none none).run E.P w = .ok (l, xs.length, cap) w := by
    have : l ≤ xs.length := by omega
    simp [Instr.sliceBounds, Instr.sliceBound, asIntOf, this]
  have hne : cap ≠ l := by omega
  refine ⟨.slice (some ⟨g, l * sz, none⟩) (xs.length - l) (cap - l), w, ?_, Grew.refl w, ?_⟩
  · simp [execOp, Instr.sliceAt, Instr.slice, run_underlying hu, e1', e2, hb0, hsz, hne]
    simp [Addr.add]
    exact fun h => h.symm
  · simp only [RA]
    refine ⟨hkd, g, cap - l, hb, rfl, fun h0 => ?_⟩
    have hp := Nat.le_of_ble_eq_true hpos
    have hl0 : l = 0 := by rcases Nat.mul_eq_zero.1 h0 with h | h <;> omega
    have e0' : ι key = .slice (some ⟨g, 0, none⟩) xs.length cap := e0
    show cap - l = capOf (ι key)
    rw [e0']
    show cap - l = cap
    omega
theorem loc_lenView (hE : E.Good) {key off m : Nat} {xo : Operand} {t : TypeId} (hop : o.op = .call ⟨.builtin .len, #[xo], #[t]⟩) {e : TypeId} {z1 z2 : Nat} {z3 : List Value} (ht : E.T t = some ⟨.slice e, z1, z2, z3⟩) (hx : ev s xo = .view key off m) (hm : m ≤ 140737488355328) : Loc E ops J h o s (.d (.lit (.int .i64 (m : Int)))) := by
  refine ⟨(by rw [hop]; intro c hc; cases hc), fun Z K Y ι a w mm hl => ?_⟩
  obtain ⟨dst, op, ty, pos, af, gd⟩ := o
  simp only at hop
  subst hop
  have h1 := hl xo (by simp [Op.operands, Call.operands])
  rw [hx] at h1
  simp only [RA] at h1
  obtain ⟨hkd, b, cap, hb, e1, _⟩ := h1
  have hu := (hE.ok.T t _ ht).2
  simp only [TK.fits] at hu
  refine ⟨.int .i64 m, w, ?_, Grew.refl w, RA_lit_mk ?_⟩
  · simp [execOp, resolve, invoke, builtin, Builtin.len_, e1, run_underlying hu, goInt]
  · simp only [okLit]
    have : IntKind.i64.min = -9223372036854775808 := rfl
    have : IntKind.i64.max = 9223372036854775807 := rfl
    omega
theorem loc_idxView (hE : E.Good) {key off m : Nat} {t : TypeId} {xo io : Operand} (hop : o.op = .indexAddr t xo io)
    {e : TypeId} {z1 z2 : Nat} {z3 : List Value} (ht : E.T t = some ⟨.slice e, z1, z2, z3⟩) {k : TK} {sz z5 : Nat} {z6 : List Value} (hte : E.T e = some ⟨k, sz, z5, z6⟩)
    (hx : ev s xo = .view key off m) {ik : IntKind} {j : Nat} (hi : ev s io = .d (.lit (.int ik j))) (hj : j < m) : Loc E ops J h o s (.ptr key (off + j * sz)) := by
  refine ⟨(by rw [hop]; intro c hc; cases hc), fun Z K Y ι a w mm hl => ?_⟩
  obtain ⟨dst, op, ty, pos, af, gd⟩ := o
  simp only at hop
  subst hop
  have h1 := hl xo (by simp [Op.operands])
  have h2 := hl io (by simp [Op.operands])
  rw [hx] at h1
  rw [hi] at h2
  obtain ⟨e2, _⟩ := RA_lit.1 h2
  simp only [RA] at h1
  obtain ⟨hkd, b, cap, hb, e1, _⟩ := h1
  have hu := (hE.ok.T t _ ht).2
  simp only [TK.fits] at hu
  have hsz := run_size hE.ok.T hte w
  refine ⟨.pointer (some ⟨b, off + j * sz, none⟩), w, ?_, Grew.refl w, ?_⟩
  · simp [execOp, Instr.indexAt, e1, e2, asIntOf, run_underlying hu, hj, hsz]
    simp [Addr.add]
  · simp only [RA]
    exact ⟨hkd, b, hb, rfl⟩
/-- Rows of numbers. -/
def intRow (ks : List Int) : List (List D) := ks.map fun k => [.lit (.int .i64 k)]
theorem intRow_len (ks : List Int) : (intRow ks).length = ks.length := by simp [intRow]
end

/-! ### Functions that write the row of numbers that they are handed, and give it back -/
section
variable {E : Env} {ops : List Oper} {Q : Exit → St → Prop} {i : Nat} {J : Jt} {s : Slots} {h : Heap}
end
end Go.AL
/- AL, part 43: a variable that holds a function which captures that variable: frozen, to any depth. -/
namespace Go.AL
set_option linter.unusedVariables false
set_option linter.unusedSimpArgs false

end Go.AL
/- AL, part 44: rows whose elements hold what is the frame's own. -/
namespace Go.AL
set_option linter.unusedVariables false
set_option linter.unusedSimpArgs false

section
variable {E : Env} {ops : List Oper} {Q : Exit → St → Prop} {i : Nat} {J : Jt} {h : Heap} {s : Slots} {o : Oper}
end

/-! ### Literals and append -/
section
variable {E : Env} {ops : List Oper} {Q : Exit → St → Prop} {i : Nat} {J : Jt} {h : Heap} {s : Slots} {o : Oper}
end
end Go.AL
/- AL, part 45: functions that are lent what is the frame's own, write it, and give it back. -/
namespace Go.AL
set_option linter.unusedVariables false
set_option linter.unusedSimpArgs false

/-! ### Other keys -/
mutual
def rnA (ρ : Nat → Nat) : AV → AV
  | .d x => .d x
  | .any => .any
  | .agg cs => .agg (rnAs ρ cs)
  | .tup cs => .tup (rnAs ρ cs)
  | .fn f a b => .fn f (rnAs ρ a) (rnAs ρ b)
  | .ptr k o => .ptr (ρ k) o
  | .view k o n => .view (ρ k) o n
  | .row k => .row (ρ k)
def rnAs (ρ : Nat → Nat) : List AV → List AV
  | [] => []
  | x :: xs => rnA ρ x :: rnAs ρ xs
end
def rnE (ρ : Nat → Nat) : Ent → Ent
  | .box t cs => .box t (rnAs ρ cs)
  | .row e sz xs => .row e sz xs
  | .ghost cs vs => .ghost (rnAs ρ cs) vs
  | .rowA e sz n cs => .rowA e sz n (rnAs ρ cs)
mutual
theorem RA_rn {ρ : Nat → Nat} {H : Heap} {C C' : Cx} (hk : Keeps C.w C'.w C.M C'.M) (hd : ∀ k, (H k).isSome = true → C'.dom (ρ k) ∧ C'.ι (ρ k) = C.ι k) : ∀ (x : AV) (v : Value), inH H x = true → RA C x v → RA C' (rnA ρ x) v
  | .d x, v => fun _ hx => by simp only [RA, rnA] at hx ⊢; exact RD_keeps hk x v hx
  | .agg cs, v => fun hi hx => by
    simp only [RA, rnA] at hx ⊢
    obtain ⟨vs, e, h1⟩ := hx
    exact ⟨vs, e, RAs_rn hk hd cs _ (by simpa [inH] using hi) h1⟩
  | .tup cs, v => fun hi hx => by
    simp only [RA, rnA] at hx ⊢
    obtain ⟨vs, e, h1⟩ := hx
    exact ⟨vs, e, RAs_rn hk hd cs _ (by simpa [inH] using hi) h1⟩
  | .fn f first cap, v => fun hi hx => by
    simp only [RA, rnA] at hx ⊢
    obtain ⟨vf, vc, e, h1, h2⟩ := hx
    simp [inH] at hi
    exact ⟨vf, vc, e, RAs_rn hk hd first _ hi.1 h1, RAs_rn hk hd cap _ hi.2 h2⟩
  | .any, v => fun _ hx => by simp only [RA, rnA]
  | .ptr k o, v => fun hi hx => by
    simp only [RA, rnA] at hx ⊢
    obtain ⟨_, b, h2, e⟩ := hx
    obtain ⟨g1, g2⟩ := hd k (by simpa [inH] using hi)
    exact ⟨g1, b, by rw [g2]; exact h2, e⟩
  | .view k o n, v => fun hi hx => by
    simp only [RA, rnA] at hx ⊢
    obtain ⟨_, b, cap, h2, e⟩ := hx
    obtain ⟨g1, g2⟩ := hd k (by simpa [inH] using hi)
    exact ⟨g1, b, cap, by rw [g2]; exact h2, by rw [g2]; exact e⟩
  | .row k, v => fun hi hx => by
    simp only [RA, rnA] at hx ⊢
    obtain ⟨g1, g2⟩ := hd k (by simpa [inH] using hi)
    exact ⟨g1, by rw [g2]; exact hx.2⟩
theorem RAs_rn {ρ : Nat → Nat} {H : Heap} {C C' : Cx} (hk : Keeps C.w C'.w C.M C'.M) (hd : ∀ k, (H k).isSome = true → C'.dom (ρ k) ∧ C'.ι (ρ k) = C.ι k) : ∀ (xs : List AV) (vs : List Value), inHs H xs = true → RAs C xs vs → RAs C' (rnAs ρ xs) vs
  | [], vs => fun _ hx => by simpa only [RAs, rnAs] using hx
  | x :: xs, vs => fun hi hx => by
    simp only [RAs, rnAs] at hx ⊢
    obtain ⟨v, t, e, h1, h2⟩ := hx
    simp [inHs] at hi
    exact ⟨v, t, e, RA_rn hk hd x v hi.1 h1, RAs_rn hk hd xs t hi.2 h2⟩
end
mutual
theorem RA_nr {ρ : Nat → Nat} {H : Heap} {C C' : Cx} (hk : Keeps C.w C'.w C.M C'.M) (hd : ∀ k, (H k).isSome = true → C'.dom k ∧ C'.ι k = C.ι (ρ k)) : ∀ (x : AV) (v : Value), inH H x = true → RA C (rnA ρ x) v → RA C' x v
  | .d x, v => fun _ hx => by simp only [RA, rnA] at hx ⊢; exact RD_keeps hk x v hx
  | .agg cs, v => fun hi hx => by
    simp only [RA, rnA] at hx ⊢
    obtain ⟨vs, e, h1⟩ := hx
    exact ⟨vs, e, RAs_nr hk hd cs _ (by simpa [inH] using hi) h1⟩
  | .tup cs, v => fun hi hx => by
    simp only [RA, rnA] at hx ⊢
    obtain ⟨vs, e, h1⟩ := hx
    exact ⟨vs, e, RAs_nr hk hd cs _ (by simpa [inH] using hi) h1⟩
  | .fn f first cap, v => fun hi hx => by
    simp only [RA, rnA] at hx ⊢
    obtain ⟨vf, vc, e, h1, h2⟩ := hx
    simp [inH] at hi
    exact ⟨vf, vc, e, RAs_nr hk hd first _ hi.1 h1, RAs_nr hk hd cap _ hi.2 h2⟩
  | .any, v => fun _ hx => by simp only [RA]
  | .ptr k o, v => fun hi hx => by
    simp only [RA, rnA] at hx ⊢
    obtain ⟨_, b, h2, e⟩ := hx
    obtain ⟨g1, g2⟩ := hd k (by simpa [inH] using hi)
    exact ⟨g1, b, by rw [g2]; exact h2, e⟩
  | .view k o n, v => fun hi hx => by
    simp only [RA, rnA] at hx ⊢
    obtain ⟨_, b, cap, h2, e⟩ := hx
    obtain ⟨g1, g2⟩ := hd k (by simpa [inH] using hi)
    exact ⟨g1, b, cap, by rw [g2]; exact h2, by rw [g2]; exact e⟩
  | .row k, v => fun hi hx => by
    simp only [RA, rnA] at hx ⊢
    obtain ⟨g1, g2⟩ := hd k (by simpa [inH] using hi)
    exact ⟨g1, by rw [g2]; exact hx.2⟩
theorem RAs_nr {ρ : Nat → Nat} {H : Heap} {C C' : Cx} (hk : Keeps C.w C'.w C.M C'.M) (hd : ∀ k, (H k).isSome = true → C'.dom k ∧ C'.ι k = C.ι (ρ k)) : ∀ (xs : List AV) (vs : List Value), inHs H xs = true → RAs C (rnAs ρ xs) vs → RAs C' xs vs
  | [], vs => fun _ hx => by simpa only [RAs, rnAs] using hx
  | x :: xs, vs => fun hi hx => by
    simp only [RAs, rnAs] at hx ⊢
    obtain ⟨v, t, e, h1, h2⟩ := hx
    simp [inHs] at hi
    exact ⟨v, t, e, RA_nr hk hd x v hi.1 h1, RAs_nr hk hd xs t hi.2 h2⟩
end
theorem EntOk_rn {ρ : Nat → Nat} {H : Heap} {C C' : Cx} (hw : C'.w = C.w) (hk : Keeps C.w C'.w C.M C'.M) (hd : ∀ k, (H k).isSome = true → C'.dom (ρ k) ∧ C'.ι (ρ k) = C.ι k) {e : Ent} {v : Value} (hi : inE H e = true) (h : EntOk C e v) : EntOk C' (rnE ρ e) v := by
  cases e with
  | box t cs => obtain ⟨b, vs, h1, h2, h3⟩ := h; exact ⟨b, vs, h1, by rw [hw]; exact h2, RAs_rn hk hd _ _ hi h3⟩
  | row e sz xs => obtain ⟨vs, h1, h2, h3⟩ := h; exact ⟨vs, by rw [hw]; exact h1, RDs_keeps hk _ _ h2, h3⟩
  | ghost cs vs => exact ⟨h.1, RAs_rn hk hd _ _ hi h.2⟩
  | rowA e sz n cs => obtain ⟨vs, h1, h2, h3⟩ := h; exact ⟨vs, by rw [hw]; exact h1, RAs_rn hk hd _ _ hi h2, h3⟩
theorem EntOk_nr {ρ : Nat → Nat} {H : Heap} {C C' : Cx} (hw : C'.w = C.w) (hk : Keeps C.w C'.w C.M C'.M) (hd : ∀ k, (H k).isSome = true → C'.dom k ∧ C'.ι k = C.ι (ρ k)) {e : Ent} {v : Value} (hi : inE H e = true) (h : EntOk C (rnE ρ e) v) : EntOk C' e v := by
  cases e with
  | box t cs => obtain ⟨b, vs, h1, h2, h3⟩ := h; exact ⟨b, vs, h1, by rw [hw]; exact h2, RAs_nr hk hd _ _ hi h3⟩
  | row e sz xs => obtain ⟨vs, h1, h2, h3⟩ := h; exact ⟨vs, by rw [hw]; exact h1, RDs_keeps hk _ _ h2, h3⟩
  | ghost cs vs => exact ⟨h.1, RAs_nr hk hd _ _ hi h.2⟩
  | rowA e sz n cs => obtain ⟨vs, h1, h2, h3⟩ := h; exact ⟨vs, by rw [hw]; exact h1, RAs_nr hk hd _ _ hi h2, h3⟩
theorem EntOk_in {H : Heap} {C C' : Cx} (hw : C'.w = C.w) (hk : Keeps C.w C'.w C.M C'.M) (hd : ∀ k, (H k).isSome = true → C'.dom k ∧ C'.ι k = C.ι k) {e : Ent} {v : Value} (hi : inE H e = true) (h : EntOk C e v) : EntOk C' e v := by
  cases e with
  | box t cs => obtain ⟨b, vs, h1, h2, h3⟩ := h; exact ⟨b, vs, h1, by rw [hw]; exact h2, RAs_in hk hd _ _ hi h3⟩
  | row e sz xs => obtain ⟨vs, h1, h2, h3⟩ := h; exact ⟨vs, by rw [hw]; exact h1, RDs_keeps hk _ _ h2, h3⟩
  | ghost cs vs => exact ⟨h.1, RAs_in hk hd _ _ hi h.2⟩
  | rowA e sz n cs => obtain ⟨vs, h1, h2, h3⟩ := h; exact ⟨vs, by rw [hw]; exact h1, RAs_in hk hd _ _ hi h2, h3⟩

/-! ### Without some keys -/
mutual
def noP (p : Nat → Bool) : AV → Bool
  | .d _ => true
  | .any => true
  | .agg cs => noPs p cs
  | .tup cs => noPs p cs
  | .fn _ a b => noPs p a && noPs p b
  | .ptr k _ => !p k
  | .view k _ _ => !p k
  | .row k => !p k
def noPs (p : Nat → Bool) : List AV → Bool
  | [] => true
  | x :: xs => noP p x && noPs p xs
end
mutual
theorem RA_noP {p : Nat → Bool} {C C' : Cx} (hk : Keeps C.w C'.w C.M C'.M) (hd : ∀ k, p k = false → C.dom k → C'.dom k ∧ C'.ι k = C.ι k) : ∀ (x : AV) (v : Value), noP p x = true → RA C x v → RA C' x v
  | .d x, v => fun _ hx => by simp only [RA] at hx ⊢; exact RD_keeps hk x v hx
  | .agg cs, v => fun hi hx => by
    simp only [RA] at hx ⊢
    obtain ⟨vs, e, h1⟩ := hx
    exact ⟨vs, e, RAs_noP hk hd cs _ (by simpa [noP] using hi) h1⟩
  | .tup cs, v => fun hi hx => by
    simp only [RA] at hx ⊢
    obtain ⟨vs, e, h1⟩ := hx
    exact ⟨vs, e, RAs_noP hk hd cs _ (by simpa [noP] using hi) h1⟩
  | .fn f first cap, v => fun hi hx => by
    simp only [RA] at hx ⊢
    obtain ⟨vf, vc, e, h1, h2⟩ := hx
    simp [noP] at hi
    exact ⟨vf, vc, e, RAs_noP hk hd first _ hi.1 h1, RAs_noP hk hd cap _ hi.2 h2⟩
  | .any, v => fun _ hx => by simp only [RA]
  | .ptr k o, v => fun hi hx => by
    simp only [RA] at hx ⊢
    obtain ⟨hdk, b, h2, e⟩ := hx
    obtain ⟨g1, g2⟩ := hd k (by simpa [noP] using hi) hdk
    exact ⟨g1, b, by rw [g2]; exact h2, e⟩
  | .view k o n, v => fun hi hx => by
    simp only [RA] at hx ⊢
    obtain ⟨hdk, b, cap, h2, e⟩ := hx
    obtain ⟨g1, g2⟩ := hd k (by simpa [noP] using hi) hdk
    exact ⟨g1, b, cap, by rw [g2]; exact h2, by rw [g2]; exact e⟩
  | .row k, v => fun hi hx => by
    simp only [RA] at hx ⊢
    obtain ⟨g1, g2⟩ := hd k (by simpa [noP] using hi) hx.1
    exact ⟨g1, by rw [g2]; exact hx.2⟩
theorem RAs_noP {p : Nat → Bool} {C C' : Cx} (hk : Keeps C.w C'.w C.M C'.M) (hd : ∀ k, p k = false → C.dom k → C'.dom k ∧ C'.ι k = C.ι k) : ∀ (xs : List AV) (vs : List Value), noPs p xs = true → RAs C xs vs → RAs C' xs vs
  | [], vs => fun _ hx => by simpa only [RAs] using hx
  | x :: xs, vs => fun hi hx => by
    simp only [RAs] at hx ⊢
    obtain ⟨v, t, e, h1, h2⟩ := hx
    simp [noPs] at hi
    exact ⟨v, t, e, RA_noP hk hd x v hi.1 h1, RAs_noP hk hd xs t hi.2 h2⟩
end
def unP (p : Nat → Bool) (x : AV) : AV := bif noP p x then x else .any
def unPs (p : Nat → Bool) (xs : List AV) : List AV := xs.map (unP p)
def unPE (p : Nat → Bool) : Ent → Ent
  | .box t cs => .box t (unPs p cs)
  | .row e sz xs => .row e sz xs
  | .ghost cs vs => .ghost (unPs p cs) vs
  | .rowA e sz n cs => .rowA e sz n (unPs p cs)
theorem RA_unP {p : Nat → Bool} {C C' : Cx} (hk : Keeps C.w C'.w C.M C'.M) (hd : ∀ k, p k = false → C.dom k → C'.dom k ∧ C'.ι k = C.ι k) (x : AV) (v : Value) (h : RA C x v) : RA C' (unP p x) v := by
  unfold unP
  cases hn : noP p x with
  | true => exact RA_noP hk hd x v hn h
  | false => simp [RA]
theorem RAs_unP {p : Nat → Bool} {C C' : Cx} (hk : Keeps C.w C'.w C.M C'.M) (hd : ∀ k, p k = false → C.dom k → C'.dom k ∧ C'.ι k = C.ι k) : ∀ (xs : List AV) (vs : List Value), RAs C xs vs → RAs C' (unPs p xs) vs
  | [], vs, h => by simpa only [RAs, unPs, List.map_nil] using h
  | x :: xs, vs, h => by
    simp only [RAs, unPs, List.map_cons] at h ⊢
    obtain ⟨v, t, e, h1, h2⟩ := h
    exact ⟨v, t, e, RA_unP hk hd x v h1, RAs_unP hk hd xs t h2⟩
theorem EntOk_unP {p : Nat → Bool} {C C' : Cx} (hk : Keeps C.w C'.w C.M C'.M) (hd : ∀ k, p k = false → C.dom k → C'.dom k ∧ C'.ι k = C.ι k) {e : Ent} {v : Value} (hb : ∀ b cs t f, blk v = some b → C.w.heap[b]? = some (.cells cs t f) → C'.w.heap[b]? = some (.cells cs t f)) (h : EntOk C e v) : EntOk C' (unPE p e) v := by
  have hrow : ∀ {e sz n vs}, RowOk C.w v e sz n vs → RowOk C'.w v e sz n vs := fun h1 => by
    rcases h1 with h1 | ⟨g, cap, cur, g1, g0, g2, g3⟩
    · exact .inl h1
    · exact .inr ⟨g, cap, cur, g1, g0, hb g _ _ _ (by rw [g1]; simp [blk]; omega) g2, g3⟩
  cases e with
  | box t cs => obtain ⟨b, vs, h1, h2, h3⟩ := h; exact ⟨b, vs, h1, hb b _ _ _ (blk_ptr h1) h2, RAs_unP hk hd _ _ h3⟩
  | row e sz xs => obtain ⟨vs, h1, h2, h3⟩ := h; exact ⟨vs, hrow h1, RDs_keeps hk _ _ h2, h3⟩
  | ghost cs vs => exact ⟨h.1, RAs_unP hk hd _ _ h.2⟩
  | rowA e sz n cs => obtain ⟨vs, h1, h2, h3⟩ := h; exact ⟨vs, hrow h1, RAs_unP hk hd _ _ h2, h3⟩

/-! ### Heaps as lists -/
def heapOf : List (Nat × Ent) → Heap
  | [] => noHeap
  | (k, e) :: l => hset (heapOf l) k (some e)
def allE (h : Heap) : List (Nat × Ent) → Prop
  | [] => True
  | (k, e) :: l => h k = some e ∧ allE h l
theorem heapOf_mem : ∀ {l : List (Nat × Ent)} {k : Nat} {e : Ent}, heapOf l k = some e → (k, e) ∈ l
  | [], k, e, h => by simp [heapOf, noHeap] at h
  | (j, x) :: l, k, e, h => by
    by_cases hjk : k = j
    · subst hjk
      simp only [heapOf, hset_same] at h
      cases h; simp
    · simp only [heapOf] at h
      rw [hset_ne _ _ hjk] at h
      exact List.mem_cons_of_mem _ (heapOf_mem h)
theorem allE_mem {h : Heap} : ∀ {l : List (Nat × Ent)} {k : Nat} {e : Ent}, allE h l → (k, e) ∈ l → h k = some e
  | (j, x) :: l, k, e, ha, hm => by
    rcases List.mem_cons.1 hm with hm | hm
    · cases hm; exact ha.1
    · exact allE_mem ha.2 hm
theorem allE_of {h : Heap} {l : List (Nat × Ent)} {k : Nat} {e : Ent} (ha : allE h l) (hk : heapOf l k = some e) : h k = some e := allE_mem ha (heapOf_mem hk)
def closedL (l : List (Nat × Ent)) : Bool := l.all fun x => inE (heapOf l) x.2
theorem closedL_of {l : List (Nat × Ent)} (h : closedL l = true) {k : Nat} {e : Ent} (hk : heapOf l k = some e) : inE (heapOf l) e = true := List.all_eq_true.1 h _ (heapOf_mem hk)
def keyOf (l : List (Nat × Ent)) (k : Nat) : Bool := l.any fun x => Nat.beq x.1 k
theorem keyOf_dom {l : List (Nat × Ent)} {k : Nat} : keyOf l k = true ↔ dom (heapOf l) k := by
  induction l with
  | nil => simp [keyOf, dom, heapOf, noHeap]
  | cons x l ih =>
    obtain ⟨j, e⟩ := x
    by_cases hjk : k = j
    · subst hjk
      simp [keyOf, dom, heapOf, hset_same]
    · have hb : Nat.beq j k = false := Bool.eq_false_iff.2 fun h' => hjk (Nat.eq_of_beq_eq_true h').symm
      simp only [keyOf, List.any_cons, hb, Bool.false_or, dom, heapOf]
      rw [hset_ne _ _ hjk]
      exact ih

/-! ### The contract -/
structure OwnIn (Z : Nat → Prop) (h : Heap) (ι : Nat → Value) (w : World) : Prop where
  ent : ∀ k e, h k = some e → EntOk (cx Z h ι w) e (ι k)
  own : ∀ k b, dom h k → blk (ι k) = some b → ¬ Z b ∧ b < w.heap.size
  apart : ∀ k k' b, dom h k → dom h k' → blk (ι k) = some b → blk (ι k') = some b → k = k'
def Lent (h : Heap) (ι : Nat → Value) (b : Nat) : Prop := ∃ k, dom h k ∧ blk (ι k) = some b
structure Gave (Z : Nat → Prop) (h0 : Heap) (ι : Nat → Value) (w : World) (h1 : Heap) (kept : List Nat) (ι' : Nat → Value) (w' : World) : Prop where
  ent : ∀ k e, h1 k = some e → EntOk (cx Z h1 ι' w') e (ι' k)
  own : ∀ k b, dom h1 k → blk (ι' k) = some b → ¬ Z b ∧ b < w'.heap.size ∧ (Lent h0 ι b ∨ w.heap.size ≤ b)
  apart : ∀ k k' b, dom h1 k → dom h1 k' → blk (ι' k) = some b → blk (ι' k') = some b → k = k'
  kept : ∀ k ∈ kept, ι' k = ι k
  step : Step (fun b => b < w.heap.size ∧ ¬ Lent h0 ι b) w w'
/-- A function that is lent the entries l0 and gives back l1; kept: the keys whose handles stay. -/
def DoesM (P : Program) (f : Nat) (l0 : List (Nat × Ent)) (args : List AV) (R : AV) (l1 : List (Nat × Ent)) (kept : List Nat) : Prop :=
  (Callable P f ∧ closedL l0 = true ∧ closedL l1 = true ∧ inHs (heapOf l0) args = true ∧ inH (heapOf l1) R = true ∧ (kept.all fun k => keyOf l0 k && keyOf l1 k) = true) ∧
  ∀ n Z w ι vs, (∀ b, Z b → b < w.heap.size) → OwnIn Z (heapOf l0) ι w → RAs (cx Z (heapOf l0) ι w) args vs →
    CallsIn Fence.wide n P f vs.toArray w fun x w' => ∃ v ι', x = .returned v ∧ RA (cx Z (heapOf l1) ι' w') R v ∧ Gave Z (heapOf l0) ι w (heapOf l1) kept ι' w'
def lentJ (h0 : Heap) (ι : Nat → Value) (w : World) : Jt := fun K _ _ w' => Step (fun b => b < w.heap.size ∧ ¬ Lent h0 ι b) w w' ∧ ∀ b, (b < w.heap.size ∧ ¬ Lent h0 ι b) → K b
theorem mono_lent (h0 : Heap) (ι : Nat → Value) (w : World) : Mono (lentJ h0 ι w) :=
  ⟨fun K Y Z w1 w2 h1 h2 => ⟨⟨h2.os.trans h1.1.os, h2.tape.trans h1.1.tape, h2.output.trans h1.1.output, Nat.le_trans h1.1.size h2.size, Nat.le_trans h1.1.drawn h2.drawn, fun b hb => (h2.block b (h1.2 b hb)).trans (h1.1.block b hb)⟩, h1.2⟩,
   fun K K2 Y Z Z2 w1 h1 h2 _ _ _ => ⟨h1.1, fun b hb => h2 b (h1.2 b hb)⟩⟩
def RetM (T : Nat → Option TI) (fn : Func) (J : Jt) (l1 : List (Nat × Ent)) (R : AV) (kept : List Nat) (V : List Value) : Exit → St → Prop := fun x st =>
  (x = .normal ∨ x = .ret) ∧ st.J = J ∧ (∃ Rs, aresults T st.h st.s fn.results.toList = some Rs ∧ AVle (packR Rs) R) ∧ allE st.h l1 ∧ st.h 99 = some (.ghost (kept.map .row) V)
theorem RAs_rows {C : Cx} : ∀ {ks : List Nat} {V : List Value}, RAs C (ks.map .row) V → V = ks.map C.ι ∧ ∀ k ∈ ks, C.dom k
  | [], V, h => by simp only [List.map_nil, RAs] at h; exact ⟨by simpa using h, by simp⟩
  | k :: ks, V, h => by
    simp only [List.map_cons, RAs, RA] at h
    obtain ⟨v, t, rfl, ⟨h1, rfl⟩, h2⟩ := h
    obtain ⟨e, h3⟩ := RAs_rows h2
    refine ⟨by rw [e]; rfl, fun j hj => ?_⟩
    rcases List.mem_cons.1 hj with rfl | hj
    · exact h1
    · exact h3 j hj
theorem RAs_rows_mk {C : Cx} : ∀ {ks : List Nat}, (∀ k ∈ ks, C.dom k) → RAs C (ks.map .row) (ks.map C.ι)
  | [], _ => by simp [RAs]
  | k :: ks, h => by
    simp only [List.map_cons, RAs, RA]
    exact ⟨_, _, rfl, ⟨h k (by simp), rfl⟩, RAs_rows_mk fun j hj => h j (by simp [hj])⟩
theorem DoesM_of {P : Program} {T : Nat → Option TI} (hT : TOk P T) (hm : P.follows .mixedOrders = true) {f : Nat} {fn : Func} {c : Code} {l0 : List (Nat × Ent)} {args : List AV} {R : AV} {l1 : List (Nat × Ent)} {kept : List Nat} (hf : P.funcs[f]? = some fn) (hb : fn.body = some c) (hn : (fn.name == "runtime.NumGoroutine") = false)
    {N : Nat} (hN : fn.ntmps = N) (hl : Nat.ble args.length N = true) (h99 : keyOf l0 99 = false) (hc0 : closedL l0 = true) (hc1 : closedL l1 = true) (hia : inHs (heapOf l0) args = true) (hiR : inH (heapOf l1) R = true) (hkp : (kept.all fun k => keyOf l0 k && keyOf l1 k) = true)
    (h : ∀ F n Z, (⟨P, T, F, n, Z, N⟩ : Env).Good → F = Fence.wide → ∀ J V, CW ⟨P, T, F, n, Z, N⟩ c (RetM T fn J l1 R kept V) ⟨J, argSlots args 0, hset (heapOf l0) 99 (some (.ghost (kept.map .row) V))⟩) : DoesM P f l0 args R l1 kept := by
  subst hN
  refine ⟨⟨⟨fn, hf, hn, by rw [hb]; rfl⟩, hc0, hc1, hia, hiR, hkp⟩, fun n Z w ι vs hZ ho hv => ?_⟩
  have hd99 : ¬ dom (heapOf l0) 99 := fun hd => by rw [keyOf_dom.2 hd] at h99; cases h99
  have hne : ∀ k, dom (heapOf l0) k → k ≠ 99 := fun k hk e => hd99 (e ▸ hk)
  have hkd : ∀ k ∈ kept, dom (heapOf l0) k := fun k hk => by
    have := List.all_eq_true.1 hkp k hk
    rw [Bool.and_eq_true] at this
    exact keyOf_dom.1 this.1
  let E : Env := ⟨P, T, Fence.wide, n, Z, fn.ntmps⟩
  have hE : E.Good := ⟨⟨hT, fun f => trivial, rfl, hm⟩, .inl rfl⟩
  let V := kept.map ι
  let hs : Heap := hset (heapOf l0) 99 (some (.ghost (kept.map .row) V))
  let ιs : Nat → Value := fun j => bif Nat.beq j 99 then .slice none 0 0 else ι j
  have hιs : ∀ j, j ≠ 99 → ιs j = ι j := fun j hj => by
    have : Nat.beq j 99 = false := Bool.eq_false_iff.2 fun h' => hj (Nat.eq_of_beq_eq_true h')
    show (bif Nat.beq j 99 then _ else _) = _
    rw [this]; rfl
  have hds : ∀ j, dom hs j → j = 99 ∨ dom (heapOf l0) j := fun j hj => by
    by_cases hj9 : j = 99
    · exact .inl hj9
    · right
      have : hs j = heapOf l0 j := hset_ne _ _ hj9
      unfold dom at hj ⊢; rw [← this]; exact hj
  have hdm : ∀ j, dom (heapOf l0) j → dom hs j := fun j hj => by
    have : hs j = heapOf l0 j := hset_ne _ _ (hne j hj)
    unfold dom at hj ⊢; rw [this]; exact hj
  have kc : KeepsC (cx Z (heapOf l0) ι w) (cx Z hs ιs w) := by
    refine ⟨⟨fun _ _ _ _ hh => hh, fun _ _ hh => hh, fun b _ hm hm' => ?_⟩, fun k hk => ⟨hdm k hk, hιs k (hne k hk)⟩⟩
    rcases hm' with hz | ⟨j, hj, hjb⟩
    · exact hm (.inl hz)
    · rcases hds j hj with rfl | hj'
      · simp [ιs, blk] at hjb
      · have : ιs j = ι j := hιs j (hne j hj')
        rw [show (cx Z hs ιs w).ι j = ιs j from rfl, this] at hjb
        exact hm (.inr ⟨j, hj', hjb⟩)
  have hown : ∀ k b, dom hs k → blk (ιs k) = some b → dom (heapOf l0) k ∧ blk (ι k) = some b := fun k b hk hkb => by
    rcases hds k hk with rfl | hk'
    · simp [ιs, blk] at hkb
    · rw [hιs k (hne k hk')] at hkb; exact ⟨hk', hkb⟩
  refine callsIn_of_wp_marks hf hb trivial (wpIn_mono (h _ _ _ hE rfl (lentJ (heapOf l0) ι w) V ιs _ w ?_) ?_) rfl
  · refine ⟨Z, fun b => b < w.heap.size ∧ ¬ Lent (heapOf l0) ι b, fun _ => False, ⟨fun b hb => hb, fun _ hb => hb.elim, mono_lent _ _ w⟩, ⟨fun k e' hk => ?_, fun k b hk hb => ?_, fun k k' b hk hk' h1 h2 => ?_, hZ, fun b hb => hb.1, ⟨Step.refl _ w, fun b hb => hb⟩, (mono_lent _ _ w).closed (fun b => b < w.heap.size ∧ ¬ Lent (heapOf l0) ι b) (fun _ => False) Z⟩, ?_, fun j => ?_, Marks.nil _ _ _⟩
    · by_cases hk9 : k = 99
      · subst hk9
        have : hs 99 = some e' := hk
        rw [show hs 99 = some (.ghost (kept.map .row) V) from hset_same _ _ _] at this
        cases this
        refine ⟨by show ιs 99 = _; simp [ιs], ?_⟩
        have hR := RAs_rows_mk (C := cx Z hs ιs w) (ks := kept) fun k hk => hdm k (hkd k hk)
        have hVe : kept.map (cx Z hs ιs w).ι = V := List.map_congr_left fun k hk => hιs k (hne k (hkd k hk))
        rw [hVe] at hR
        exact hR
      · have h1 : heapOf l0 k = some e' := by rw [← show hs k = heapOf l0 k from hset_ne _ _ hk9]; exact hk
        show EntOk (cx Z hs ιs w) e' (ιs k)
        rw [hιs k hk9]
        exact EntOk.keeps kc (fun _ _ _ _ _ hb => hb) (ho.ent k e' h1)
    · obtain ⟨h1, h2⟩ := hown k b hk hb
      have := ho.own k b h1 h2
      exact ⟨this.1, fun hK => hK.2 ⟨k, h1, h2⟩, this.2⟩
    · obtain ⟨g1, g2⟩ := hown k b hk h1
      obtain ⟨g3, g4⟩ := hown k' b hk' h2
      exact ho.apart k k' b g1 g3 g2 g4
    · have hlen := RAs_length hv
      have hle := Nat.le_of_ble_eq_true hl
      simp [hlen]
      omega
    · have := argSlots_ok (C := cx Z hs ιs w) args vs 0 [] (List.replicate (fn.ntmps - vs.length) undef) (RAs_keeps kc _ _ hv) rfl j
      rw [List.nil_append] at this
      have e2 : (vs.toArray ++ Array.replicate (fn.ntmps - vs.toArray.size) undef : Array Value) = (vs ++ List.replicate (fn.ntmps - vs.length) undef).toArray := by rw [← List.toArray_replicate]; simp
      show RA (cx Z hs ιs w) (argSlots args 0 j) ((vs.toArray ++ Array.replicate (fn.ntmps - vs.toArray.size) undef).getD j undef)
      rw [e2]
      exact this
  · rintro x a' w' ⟨st, ι1, ⟨he, hJ, ⟨Rs, hRs, hR⟩, hall, hgh⟩, Z', K, Y, hZE, r⟩
    have goal : LeavesInM Fence.wide n P fn a'.tmps (fun x w' => ∃ v ι', x = .returned v ∧ RA (cx Z (heapOf l1) ι' w') R v ∧ Gave Z (heapOf l0) ι w (heapOf l1) kept ι' w') a'.defers .returning w' := by
      refine leaves_marks r fun w1 r1 => ?_
      have hg : Step (fun b => b < w.heap.size ∧ ¬ Lent (heapOf l0) ι b) w w1 ∧ ∀ b, (b < w.heap.size ∧ ¬ Lent (heapOf l0) ι b) → K b := by have := r1.mem.Jw; rw [hJ] at this; exact this
      obtain ⟨v, g1, g2⟩ := results_ok hT r1 hRs
      have hd1 : ∀ k, dom (heapOf l1) k → dom st.h k := fun k hk => by
        obtain ⟨e, he⟩ := Option.isSome_iff_exists.1 hk
        show (st.h k).isSome = true
        rw [allE_of hall he]; rfl
      have keeps : Keeps w1 w1 (cx Z' st.h ι1 w1).M (cx Z (heapOf l1) ι1 w1).M := ⟨fun _ _ _ _ hh => hh, fun _ _ hh => hh, fun b _ hm hm' => by
        rcases hm' with hm' | ⟨j, hj, hjb⟩
        · exact hm (.inl (hZE.1 b hm'))
        · exact hm (.inr ⟨j, hd1 j hj, hjb⟩)⟩
      have hd : ∀ k, ((heapOf l1) k).isSome = true → (cx Z (heapOf l1) ι1 w1).dom k ∧ (cx Z (heapOf l1) ι1 w1).ι k = (cx Z' st.h ι1 w1).ι k := fun k hk => ⟨hk, rfl⟩
      have hgv : V = kept.map ι1 := (RAs_rows (r1.mem.ent 99 _ hgh).2).1
      refine ⟨v, g1, v, ι1, rfl, RA_in (C := cx Z' st.h ι1 w1) (C' := cx Z (heapOf l1) ι1 w1) keeps hd _ _ hiR (hR _ _ g2), ⟨fun k e hk => ?_, fun k b hk hkb => ?_, fun k k' b hk hk' => r1.mem.apart k k' b (hd1 k hk) (hd1 k' hk'), fun k hk => ?_, hg.1⟩⟩
      · exact EntOk_in (C := cx Z' st.h ι1 w1) (C' := cx Z (heapOf l1) ι1 w1) rfl keeps hd (closedL_of hc1 hk) (r1.mem.ent k e (allE_of hall hk))
      · have hw := r1.mem.own k b (hd1 k hk) hkb
        refine ⟨fun hz => hw.1 (hZE.1 b hz), hw.2.2, ?_⟩
        by_cases hlt : b < w.heap.size
        · left
          by_cases hL : Lent (heapOf l0) ι b
          · exact hL
          · exact absurd (hg.2 b ⟨hlt, hL⟩) hw.2.1
        · right; omega
      · have : kept.map ι = kept.map ι1 := hgv
        exact (List.map_inj_left.1 this k hk).symm
    rcases he with rfl | rfl
    · exact goal
    · exact goal
end Go.AL
/- AL, part 46: calls of functions that are lent what is the frame's own. -/
namespace Go.AL
set_option linter.unusedVariables false
set_option linter.unusedSimpArgs false

/-- Keys to keys, by a list. -/
def tr : List (Nat × Nat) → Nat → Nat
  | [], k => k
  | (a, b) :: l, k => bif Nat.beq k a then b else tr l k
/-- Which of the callee's keys stands under the caller's key j. -/
def lkK (ρ : Nat → Nat) : List (Nat × Ent) → Nat → Option Nat
  | [], _ => none
  | (k, _) :: l, j => bif Nat.beq j (ρ k) then some k else lkK ρ l j
def gone (ρ : Nat → Nat) (l : List (Nat × Ent)) (j : Nat) : Bool := l.any fun x => Nat.beq j (ρ x.1)
def lostP (ρ : Nat → Nat) (l : List (Nat × Ent)) (kept : List Nat) (j : Nat) : Bool := l.any fun x => Nat.beq j (ρ x.1) && !(kept.any fun k => Nat.beq k x.1)
def callH (ρ : Nat → Nat) (l0 l1 : List (Nat × Ent)) (kept : List Nat) (h : Heap) : Heap := fun j => match lkK ρ l1 j with
  | some k => (heapOf l1 k).map (rnE ρ)
  | none => bif gone ρ l0 j then none else (h j).map (unPE (lostP ρ l0 kept))
def callS (ρ : Nat → Nat) (l0 : List (Nat × Ent)) (kept : List Nat) (s : Slots) : Slots := fun i => unP (lostP ρ l0 kept) (s i)
def pairE (ρ : Nat → Nat) (l : List (Nat × Ent)) : List (Nat × Ent) := l.map fun x => (ρ x.1, rnE ρ x.2)
/-- Different keys are different keys of the caller. -/
def injB (ρ : Nat → Nat) (ks : List Nat) : Bool := ks.all fun k => ks.all fun k' => !(Nat.beq (ρ k) (ρ k')) || Nat.beq k k'
def keysL (l : List (Nat × Ent)) : List Nat := l.map (·.1)
/-- What is new has a key of its own. -/
def freshL (ρ : Nat → Nat) (h : Heap) (l0 : List (Nat × Ent)) : List (Nat × Ent) → Bool
  | [] => true
  | (k, _) :: l => (keyOf l0 k || (h (ρ k)).isNone) && freshL ρ h l0 l

theorem lkK_some {ρ : Nat → Nat} : ∀ {l : List (Nat × Ent)} {j k : Nat}, lkK ρ l j = some k → j = ρ k ∧ dom (heapOf l) k ∧ k ∈ keysL l
  | [], j, k, h => by simp [lkK] at h
  | (a, e) :: l, j, k, h => by
    simp only [lkK] at h
    cases hb : Nat.beq j (ρ a) with
    | true =>
      rw [hb] at h
      cases h
      exact ⟨Nat.eq_of_beq_eq_true hb, by simp [dom, heapOf, hset_same], by simp [keysL]⟩
    | false =>
      rw [hb] at h
      obtain ⟨h1, h2, h3⟩ := lkK_some (l := l) h
      refine ⟨h1, ?_, by simp [keysL] at h3 ⊢; exact .inr h3⟩
      by_cases hka : k = a
      · subst hka; simp [dom, heapOf, hset_same]
      · simp only [dom, heapOf]; rw [hset_ne _ _ hka]; exact h2
theorem lkK_none {ρ : Nat → Nat} : ∀ {l : List (Nat × Ent)} {j : Nat}, lkK ρ l j = none → ∀ k ∈ keysL l, j ≠ ρ k
  | [], j, h => by simp [keysL]
  | (a, e) :: l, j, h => by
    simp only [lkK] at h
    cases hb : Nat.beq j (ρ a) with
    | true => rw [hb] at h; cases h
    | false =>
      rw [hb] at h
      intro k hk
      simp only [keysL, List.map_cons, List.mem_cons] at hk
      rcases hk with rfl | hk
      · intro e; rw [e] at hb; simp at hb
      · exact lkK_none (l := l) h k hk
theorem dom_keysL {l : List (Nat × Ent)} {k : Nat} (h : dom (heapOf l) k) : k ∈ keysL l := by
  obtain ⟨e, he⟩ := Option.isSome_iff_exists.1 h
  exact List.mem_map.2 ⟨_, heapOf_mem he, rfl⟩
theorem gone_iff {ρ : Nat → Nat} {l : List (Nat × Ent)} {j : Nat} : gone ρ l j = true ↔ ∃ k ∈ keysL l, j = ρ k := by
  unfold gone
  rw [List.any_eq_true]
  constructor
  · rintro ⟨x, hx, hb⟩
    exact ⟨x.1, List.mem_map.2 ⟨x, hx, rfl⟩, Nat.eq_of_beq_eq_true hb⟩
  · rintro ⟨k, hk, rfl⟩
    obtain ⟨x, hx, rfl⟩ := List.mem_map.1 hk
    exact ⟨x, hx, by simp⟩
theorem lost_iff {ρ : Nat → Nat} {l : List (Nat × Ent)} {kept : List Nat} {j : Nat} (hp : lostP ρ l kept j = false) {k : Nat} (hk : k ∈ keysL l) (hj : j = ρ k) : k ∈ kept := by
  unfold lostP at hp
  rw [List.any_eq_false] at hp
  obtain ⟨x, hx, rfl⟩ := List.mem_map.1 hk
  have := hp x hx
  subst hj
  simp only [Nat.beq_refl, Bool.true_and, Bool.not_eq_true', Bool.not_eq_true, Bool.not_eq_false', Bool.not_eq_false] at this
  obtain ⟨k, hk, hb⟩ := List.any_eq_true.1 this
  rw [← Nat.eq_of_beq_eq_true hb]; exact hk
theorem freshL_mem {ρ : Nat → Nat} {h : Heap} {l0 : List (Nat × Ent)} : ∀ {l : List (Nat × Ent)} {k : Nat}, freshL ρ h l0 l = true → k ∈ keysL l → dom (heapOf l0) k ∨ h (ρ k) = none
  | (a, e) :: l, k, hf, hk => by
    simp only [freshL, Bool.and_eq_true, Bool.or_eq_true] at hf
    simp only [keysL, List.map_cons, List.mem_cons] at hk
    rcases hk with rfl | hk
    · rcases hf.1 with h1 | h1
      · exact .inl (keyOf_dom.1 h1)
      · exact .inr (by simpa using h1)
    · exact freshL_mem hf.2 hk
theorem injB_of {ρ : Nat → Nat} {ks : List Nat} (h : injB ρ ks = true) {k k' : Nat} (hk : k ∈ ks) (hk' : k' ∈ ks) (he : ρ k = ρ k') : k = k' := by
  have := List.all_eq_true.1 (List.all_eq_true.1 h k hk) k' hk'
  rw [he] at this
  simp only [Nat.beq_refl, Bool.not_true, Bool.false_or] at this
  exact Nat.eq_of_beq_eq_true this
theorem pairE_mem {ρ : Nat → Nat} {h : Heap} {l : List (Nat × Ent)} (ha : allE h (pairE ρ l)) {k : Nat} {e : Ent} (hk : heapOf l k = some e) : h (ρ k) = some (rnE ρ e) :=
  allE_mem ha (List.mem_map.2 ⟨_, heapOf_mem hk, rfl⟩)

/-- The frame behind such a call. -/
theorem rel_callM {Z K : Nat → Prop} {N : Nat} {J : World → Prop} {s : Slots} {h : Heap} {ι : Nat → Value} {a : Act} {w w' : World} (r : Rel Z K N J s h ι a w) {l0 l1 : List (Nat × Ent)} {kept : List Nat} {ρ : Nat → Nat} (hc0 : closedL l0 = true) (hc1 : closedL l1 = true)
    (hkp : (kept.all fun k => keyOf l0 k && keyOf l1 k) = true) (hinj : injB ρ (keysL l0 ++ keysL l1) = true) (hent : allE h (pairE ρ l0)) (hfr : freshL ρ h l0 l1 = true) {ι' : Nat → Value}
    (g : Gave (fun b => (cx Z h ι w).M b ∧ ¬ Lent (heapOf l0) (fun k => ι (ρ k)) b) (heapOf l0) (fun k => ι (ρ k)) w (heapOf l1) kept ι' w') :
    ∃ ι2, Rel Z K N J (callS ρ l0 kept s) (callH ρ l0 l1 kept h) ι2 a w' ∧ ∀ R v, inH (heapOf l1) R = true → RA (cx (fun b => (cx Z h ι w).M b ∧ ¬ Lent (heapOf l0) (fun k => ι (ρ k)) b) (heapOf l1) ι' w') R v → RA (cx Z (callH ρ l0 l1 kept h) ι2 w') (rnA ρ R) v := by
  obtain ⟨Z0, hZ0⟩ : ∃ Z0, (fun b => (cx Z h ι w).M b ∧ ¬ Lent (heapOf l0) (fun k => ι (ρ k)) b) = Z0 := ⟨_, rfl⟩
  rw [hZ0] at g ⊢
  have hZ0d : ∀ b, Z0 b ↔ ((cx Z h ι w).M b ∧ ¬ Lent (heapOf l0) (fun k => ι (ρ k)) b) := fun b => by rw [← hZ0]
  let h' := callH ρ l0 l1 kept h
  let ι2 : Nat → Value := fun j => match lkK ρ l1 j with | some k => ι' k | none => ι j
  have hdl : ∀ k, dom (heapOf l0) k → dom h (ρ k) := fun k hk => by
    obtain ⟨e, he⟩ := Option.isSome_iff_exists.1 hk
    show (h (ρ k)).isSome = true
    rw [pairE_mem hent he]; rfl
  have hlent : ∀ b, Lent (heapOf l0) (fun k => ι (ρ k)) b → (cx Z h ι w).M b ∧ ¬ Z b ∧ ¬ K b ∧ b < w.heap.size := fun b ⟨k, hk, hb⟩ => by
    have := r.mem.own (ρ k) b (hdl k hk) hb
    exact ⟨.inr ⟨ρ k, hdl k hk, hb⟩, this.1, this.2.1, this.2.2⟩
  -- the caller's keys behind the call
  have hcase : ∀ j, dom h' j → (∃ k, lkK ρ l1 j = some k ∧ j = ρ k ∧ dom (heapOf l1) k ∧ ι2 j = ι' k) ∨ (lkK ρ l1 j = none ∧ gone ρ l0 j = false ∧ dom h j ∧ ι2 j = ι j) := by
    intro j hj
    have hj : (callH ρ l0 l1 kept h j).isSome = true := hj
    unfold callH at hj
    cases hq : lkK ρ l1 j with
    | some k =>
      left
      obtain ⟨h1, h2, _⟩ := lkK_some hq
      exact ⟨k, rfl, h1, h2, by show (match lkK ρ l1 j with | some k => ι' k | none => ι j) = _; rw [hq]⟩
    | none =>
      right
      rw [hq] at hj
      simp only at hj
      cases hg : gone ρ l0 j with
      | true => rw [hg] at hj; simp at hj
      | false =>
        rw [hg] at hj
        refine ⟨rfl, rfl, ?_, by show (match lkK ρ l1 j with | some k => ι' k | none => ι j) = _; rw [hq]⟩
        show (h j).isSome = true
        simpa using hj
  have hold : ∀ j b, gone ρ l0 j = false → dom h j → blk (ι j) = some b → ¬ Lent (heapOf l0) (fun k => ι (ρ k)) b := fun j b hg hj hb ⟨k, hk, hkb⟩ => by
    have := r.mem.apart j (ρ k) b hj (hdl k hk) hb hkb
    have : gone ρ l0 j = true := gone_iff.2 ⟨k, dom_keysL hk, this⟩
    rw [hg] at this; cases this
  have hkept : ∀ k, k ∈ kept → dom (heapOf l0) k ∧ dom (heapOf l1) k := fun k hk => by
    have := List.all_eq_true.1 hkp k hk
    rw [Bool.and_eq_true] at this
    exact ⟨keyOf_dom.1 this.1, keyOf_dom.1 this.2⟩
  have hlk : ∀ k, dom (heapOf l1) k → lkK ρ l1 (ρ k) = some k := fun k hk => by
    cases hq : lkK ρ l1 (ρ k) with
    | none => exact absurd rfl (lkK_none hq k (dom_keysL hk))
    | some k' =>
      obtain ⟨h1, h2, h3⟩ := lkK_some hq
      have := injB_of hinj (k := k) (k' := k') (List.mem_append_right _ (dom_keysL hk)) (List.mem_append_right _ h3) h1
      rw [this]
  have hd1 : ∀ k, ((heapOf l1) k).isSome = true → (cx Z h' ι2 w').dom (ρ k) ∧ (cx Z h' ι2 w').ι (ρ k) = ι' k := fun k hk => by
    have hq := hlk k hk
    refine ⟨?_, by show (match lkK ρ l1 (ρ k) with | some k => ι' k | none => ι (ρ k)) = _; rw [hq]⟩
    show (callH ρ l0 l1 kept h (ρ k)).isSome = true
    unfold callH
    rw [hq]
    simpa using hk
  -- what may turn
  have hM : ∀ b, (cx Z h' ι2 w').M b → Z b ∨ (∃ k, dom (heapOf l1) k ∧ blk (ι' k) = some b) ∨ (∃ j, gone ρ l0 j = false ∧ dom h j ∧ blk (ι j) = some b) := fun b hb => by
    rcases hb with hz | ⟨j, hj, hjb⟩
    · exact .inl hz
    · rcases hcase j hj with ⟨k, _, rfl, h2, h3⟩ | ⟨_, h2, h3, h4⟩
      · rw [show (cx Z h' ι2 w').ι (ρ k) = ι' k from h3] at hjb
        exact .inr (.inl ⟨k, h2, hjb⟩)
      · rw [show (cx Z h' ι2 w').ι j = ι j from h4] at hjb
        exact .inr (.inr ⟨j, h2, h3, hjb⟩)
  have keeps1 : Keeps w' w' (cx Z0 (heapOf l1) ι' w').M (cx Z h' ι2 w').M := ⟨fun _ _ _ _ hh => hh, fun _ _ hh => hh, fun b _ hm hm' => by
    rcases hM b hm' with hz | ⟨k, hk, hkb⟩ | ⟨j, hg, hj, hjb⟩
    · exact hm (.inl ((hZ0d b).2 ⟨.inl hz, fun hL => (hlent b hL).2.1 hz⟩))
    · exact hm (.inr ⟨k, hk, hkb⟩)
    · exact hm (.inl ((hZ0d b).2 ⟨.inr ⟨j, hj, hjb⟩, hold j b hg hj hjb⟩))⟩
  have hst := g.step
  have hblock : ∀ b, b < w.heap.size → ¬ (cx Z h ι w).M b → w'.heap[b]? = w.heap[b]? := fun b hb hm => hst.block b ⟨hb, fun hL => hm (hlent b hL).1⟩
  have keeps2 : Keeps w w' (cx Z h ι w).M (cx Z h' ι2 w').M := ⟨fun b o v hm hc => by
      rw [World.cell?_of_block (w := w) (a := ⟨b, o, none⟩) (hblock b (isCells.of_cell hc).lt hm)]; exact hc,
    fun b hm hi => hi.at (hblock b hi.lt hm), fun b hi hm hm' => by
      rcases hM b hm' with hz | ⟨k, hk, hkb⟩ | ⟨j, hg, hj, hjb⟩
      · exact hm (.inl hz)
      · rcases (g.own k b hk hkb).2.2 with hL | hL
        · exact hm (hlent b hL).1
        · have := hi.lt; have hL' : w.heap.size ≤ b := hL; have h3 : b < w.heap.size := this; omega
      · exact hm (.inr ⟨j, hj, hjb⟩)⟩
  have hd2 : ∀ j, lostP ρ l0 kept j = false → (cx Z h ι w).dom j → (cx Z h' ι2 w').dom j ∧ (cx Z h' ι2 w').ι j = (cx Z h ι w).ι j := fun j hp hj => by
    cases hg : gone ρ l0 j with
    | true =>
      obtain ⟨k, hk, rfl⟩ := gone_iff.1 hg
      have hkk := lost_iff hp hk rfl
      obtain ⟨_, hk1⟩ := hkept k hkk
      obtain ⟨g1, g2⟩ := hd1 k hk1
      exact ⟨g1, by rw [g2]; exact g.kept k hkk⟩
    | false =>
      have hq : lkK ρ l1 j = none := by
        cases hq : lkK ρ l1 j with
        | none => rfl
        | some k =>
          obtain ⟨rfl, h2, h3⟩ := lkK_some hq
          rcases freshL_mem hfr h3 with hk0 | hn
          · have : gone ρ l0 (ρ k) = true := gone_iff.2 ⟨k, dom_keysL hk0, rfl⟩
            rw [hg] at this; cases this
          · have hj' : (h (ρ k)).isSome = true := hj
            rw [hn] at hj'; cases hj'
      refine ⟨?_, by show (match lkK ρ l1 j with | some k => ι' k | none => ι j) = _; rw [hq]⟩
      show (callH ρ l0 l1 kept h j).isSome = true
      unfold callH
      rw [hq, hg]
      have hj' : (h j).isSome = true := hj
      simpa using hj'
  have hcells : ∀ b, Lent (heapOf l0) (fun k => ι (ρ k)) b → isCells w b := fun b ⟨k, hk, hb⟩ => r.mem.cells (hdl k hk) hb
  refine ⟨ι2, ⟨⟨fun j e hj => ?_, fun j b hj hjb => ?_, fun j j' b hj hj' h1 h2 => ?_, fun b hz => Nat.lt_of_lt_of_le (r.mem.Zlt b hz) hst.size, fun b hz => Nat.lt_of_lt_of_le (r.mem.Klt b hz) hst.size, ?_, r.mem.Jc⟩, r.size, fun i => ?_, ?_⟩, fun R v hR hv => ?_⟩
  · -- the entries
    have hjd : dom h' j := by show (h' j).isSome = true; rw [show h' j = some e from hj]; rfl
    rcases hcase j hjd with ⟨k, hq, rfl, h2, h3⟩ | ⟨hq, h2, h3, h4⟩
    · have hj' : (heapOf l1 k).map (rnE ρ) = some e := by
        have : callH ρ l0 l1 kept h (ρ k) = some e := hj
        unfold callH at this
        rw [hq] at this
        exact this
      obtain ⟨e1, he1, rfl⟩ := Option.map_eq_some_iff.1 hj'
      show EntOk (cx Z h' ι2 w') (rnE ρ e1) (ι2 (ρ k))
      rw [h3]
      exact EntOk_rn (C := cx Z0 (heapOf l1) ι' w') (C' := cx Z h' ι2 w') (H := heapOf l1) rfl keeps1 (fun k hk => hd1 k hk) (closedL_of hc1 he1) (g.ent k e1 he1)
    · have hj' : (h j).map (unPE (lostP ρ l0 kept)) = some e := by
        have : callH ρ l0 l1 kept h j = some e := hj
        unfold callH at this
        rw [hq, h2] at this
        exact this
      obtain ⟨e0, he0, rfl⟩ := Option.map_eq_some_iff.1 hj'
      show EntOk (cx Z h' ι2 w') (unPE _ e0) (ι2 j)
      rw [h4]
      exact EntOk_unP (C := cx Z h ι w) keeps2 hd2 (fun b cs t f hb hc => by
        have hc' : w.heap[b]? = some (.cells cs t f) := hc
        show w'.heap[b]? = _
        rw [hst.block b ⟨(Array.getElem?_eq_some_iff.1 hc').1, hold j b h2 h3 hb⟩]; exact hc') (r.mem.ent j e0 he0)
  · rcases hcase j hj with ⟨k, _, rfl, h2, h3⟩ | ⟨_, h2, h3, h4⟩
    · rw [h3] at hjb
      obtain ⟨q1, q2, q3⟩ := g.own k b h2 hjb
      rcases q3 with hL | hL
      · obtain ⟨_, e1, e2, _⟩ := hlent b hL
        exact ⟨e1, e2, q2⟩
      · exact ⟨fun hz => by have := r.mem.Zlt b hz; omega, fun hz => by have := r.mem.Klt b hz; omega, q2⟩
    · rw [h4] at hjb
      have := r.mem.own j b h3 hjb
      exact ⟨this.1, this.2.1, Nat.lt_of_lt_of_le this.2.2 hst.size⟩
  · have mix : ∀ k j, dom (heapOf l1) k → blk (ι' k) = some b → gone ρ l0 j = false → dom h j → blk (ι j) = some b → False := fun k j hk hkb hg hj hjb => by
      rcases (g.own k b hk hkb).2.2 with hL | hL
      · exact hold j b hg hj hjb hL
      · have := (r.mem.own j b hj hjb).2.2; omega
    rcases hcase j hj with ⟨k, _, rfl, g2, g3⟩ | ⟨_, g2, g3, g4⟩ <;> rcases hcase j' hj' with ⟨k', _, rfl, g2', g3'⟩ | ⟨_, g2', g3', g4'⟩
    · rw [g3] at h1
      rw [g3'] at h2
      rw [g.apart k k' b g2 g2' h1 h2]
    · rw [g3] at h1
      rw [g4'] at h2
      exact (mix k j' g2 h1 g2' g3' h2).elim
    · rw [g4] at h1
      rw [g3'] at h2
      exact (mix k' j g2' h2 g2 g3 h1).elim
    · rw [g4] at h1
      rw [g4'] at h2
      exact r.mem.apart j j' b g3 g3' h1 h2
  · exact r.mem.Jc w w' r.mem.Jw ⟨hst.os, hst.tape, hst.output, hst.size, hst.drawn, fun b hz => hst.block b ⟨r.mem.Klt b hz, fun hL => (hlent b hL).2.2.1 hz⟩⟩
  · exact RA_unP (C := cx Z h ι w) (C' := cx Z h' ι2 w') keeps2 hd2 _ _ (r.slot i)
  · obtain ⟨rs, p1, p2, p3⟩ := r.ds
    refine ⟨rs, p1, p2, fun x hx => ?_⟩
    obtain ⟨p4, p5⟩ := p3 x hx
    refine ⟨?_, p5⟩
    rw [hst.block x ⟨(Array.getElem?_eq_some_iff.1 p4).1, fun hL => ?_⟩]
    · exact p4
    · obtain ⟨cs, t, f, hc⟩ := hcells x hL
      rw [p4] at hc; cases hc
  · exact RA_rn (C := cx Z0 (heapOf l1) ι' w') (C' := cx Z h' ι2 w') (H := heapOf l1) keeps1 (fun k hk => hd1 k hk) _ _ hR hv

section
variable {E : Env} {ops : List Oper} {Q : Exit → St → Prop} {i : Nat} {J : Jt} {s : Slots} {h : Heap} {o : Oper}
/-- A call that is lent what is the frame's own. -/
theorem OW_callM' (hE : E.Good) (ρ : Nat → Nat) {f : Nat} {l0 : List (Nat × Ent)} {L : List AV} {R : AV} {l1 : List (Nat × Ent)} {kept : List Nat} (hc : DoesM E.P f l0 L R l1 kept) {o : Oper} {fo : Operand} {args : Array Operand} {ts : Array TypeId} (ho : ops[i]? = some o) (hop : o.op = .call ⟨.value fo, args, ts⟩) (hw : awant ops o s = some true)
    (hL : callArgs s fo args.toList = some (f, rnAs ρ L)) (hinj : injB ρ (keysL l0 ++ keysL l1) = true) (hent : allE h (pairE ρ l0)) (hfr : freshL ρ h l0 l1 = true)
    {s' : Slots} (hs : putS E.N (callS ρ l0 kept s) o.dst (rnA ρ R) = some s') (hk' : OW E ops (i + 1) Q ⟨J, s', callH ρ l0 l1 kept h⟩) : OW E ops i Q ⟨J, s, h⟩ := fun ι a w r => by
  have hd : ops.drop i = o :: ops.drop (i + 1) := by
    obtain ⟨hlt, rfl⟩ := List.getElem?_eq_some_iff.1 ho
    exact List.drop_eq_getElem_cons hlt
  rw [hd]
  simp only [wpListIn]
  rw [if_pos (awant_ok r hw)]
  refine ⟨fun f _ => hE.wide.fn f, ?_⟩
  rw [Oper.semAt_plain E.F _ _ (by rw [hop]; intro c hc; cases hc)]
  obtain ⟨Z, K, Y, hZE, r⟩ := r
  obtain ⟨vf, vc, he, hv⟩ := call_args hL r.slot
  obtain ⟨dst, op, ty, pos, af, gd⟩ := o
  simp only at hop hs
  subst hop
  obtain ⟨⟨hcal, hc0, hc1, hia, hiR, hkp⟩, hcc⟩ := hc
  rw [exec_call he hcal]
  simp only [Oper.uponIn]
  refine ⟨fun hx => (by rw [hE.wide.depth] at hx; cases hx), ?_⟩
  have hdl : ∀ k, dom (heapOf l0) k → dom h (ρ k) := fun k hk => by
    obtain ⟨e, he⟩ := Option.isSome_iff_exists.1 hk
    show (h (ρ k)).isSome = true
    rw [pairE_mem hent he]; rfl
  have keeps : Keeps w w (cx Z h ι w).M (cx (fun b => (cx Z h ι w).M b ∧ ¬ Lent (heapOf l0) (fun k => ι (ρ k)) b) (heapOf l0) (fun k => ι (ρ k)) w).M := ⟨fun _ _ _ _ hh => hh, fun _ _ hh => hh, fun b _ hm hm' => by
    rcases hm' with hz | ⟨k, hk, hkb⟩
    · exact hm hz.1
    · exact hm (.inr ⟨ρ k, hdl k hk, hkb⟩)⟩
  have hd0 : ∀ k, ((heapOf l0) k).isSome = true → (cx (fun b => (cx Z h ι w).M b ∧ ¬ Lent (heapOf l0) (fun k => ι (ρ k)) b) (heapOf l0) (fun k => ι (ρ k)) w).dom k ∧ (cx (fun b => (cx Z h ι w).M b ∧ ¬ Lent (heapOf l0) (fun k => ι (ρ k)) b) (heapOf l0) (fun k => ι (ρ k)) w).ι k = (cx Z h ι w).ι (ρ k) := fun k hk => ⟨hk, rfl⟩
  have hown : OwnIn (fun b => (cx Z h ι w).M b ∧ ¬ Lent (heapOf l0) (fun k => ι (ρ k)) b) (heapOf l0) (fun k => ι (ρ k)) w := by
    refine ⟨fun k e hk => ?_, fun k b hk hb => ⟨fun hz => hz.2 ⟨k, hk, hb⟩, (r.mem.own (ρ k) b (hdl k hk) hb).2.2⟩, fun k k' b hk hk' h1 h2 => ?_⟩
    · exact EntOk_nr (C := cx Z h ι w) (C' := cx (fun b => (cx Z h ι w).M b ∧ ¬ Lent (heapOf l0) (fun k => ι (ρ k)) b) (heapOf l0) (fun k => ι (ρ k)) w) (H := heapOf l0) rfl keeps hd0 (closedL_of hc0 hk) (r.mem.ent (ρ k) _ (pairE_mem hent hk))
    · exact injB_of hinj (List.mem_append_left _ (dom_keysL hk)) (List.mem_append_left _ (dom_keysL hk')) (r.mem.apart _ _ b (hdl k hk) (hdl k' hk') h1 h2)
  have hv' := RAs_nr (C := cx Z h ι w) (H := heapOf l0) keeps hd0 _ _ hia hv
  have hcall := hcc (E.n - 1) _ w _ _ (fun b hb => r.mem.Mlt hb.1) hown hv'
  simp only [Array.toArray_toList] at hcall
  refine (hE.wide.calls hcall).mono fun x w' ⟨v, ι', he', hRv, hg⟩ => ?_
  subst he'
  show wpListIn _ _ _ _ _ _ _ _
  obtain ⟨ι2, r0, hres⟩ := rel_callM r hc0 hc1 hkp hinj hent hfr hg
  have hRv' := hres R v hiR hRv
  unfold putS at hs
  cases hdst : dst with
  | none =>
    simp only [hdst] at hs
    cases hs
    exact hk' _ _ w' ⟨Z, K, Y, hZE, Rel.put_none r0 (Grew.refl _) _⟩
  | some d =>
    simp only [hdst] at hs
    cases hb : Nat.ble (d + 1) E.N with
    | false => rw [hb] at hs; cases hs
    | true =>
      rw [hb] at hs
      cases hs
      exact hk' _ _ w' ⟨Z, K, Y, hZE, Rel.put r0 (Grew.refl _) hb hRv'⟩
end
end Go.AL
/- AL, part 47: parts of rows of the frame's own: taken, laid over, cleared, made rows again. -/
namespace Go.AL
set_option linter.unusedVariables false
set_option linter.unusedSimpArgs false

theorem zero_flat (z : Array Value) : ∀ m : Nat, (Builtin.zeroCells z m).toList = (List.replicate m z.toList).flatten
  | 0 => by simp [Builtin.zeroCells]
  | m + 1 => by
    have ih := zero_flat z m
    simp only [Builtin.zeroCells, Array.toList_map, Array.toList_range] at ih ⊢
    rw [List.replicate_succ, List.flatten_cons, ← ih, show (m + 1) * z.size = z.size + m * z.size by rw [Nat.add_mul]; omega, List.range_add, List.map_append]
    congr 1
    · apply List.ext_getElem?
      intro q
      simp only [List.getElem?_map, List.getElem?_range, Array.getElem?_toList]
      by_cases hq : q < z.size
      · rw [List.getElem?_range hq]
        simp [Nat.mod_eq_of_lt hq, hq]
      · rw [List.getElem?_eq_none (by simpa using hq)]
        simp; omega
    · rw [List.map_map]
      apply List.map_congr_left
      intro q _
      simp

section
variable {E : Env} {ops : List Oper} {Q : Exit → St → Prop} {i : Nat} {J : Jt} {s : Slots} {h : Heap} {o : Oper}

/-- The row has turned, its handle has not. -/
theorem OW_turned {key g cap : Nat} {e : TypeId} {sz : Nat} {xs xs' : List (List D)} {cur cur' : Array Value} {vs' : List Value} {Z K Y : Nat → Prop} {ι : Nat → Value} {a : Act} {w : World} (r : Rel Z K E.N (J K Y Z) s h ι a w) (hkey : h key = some (.row e sz xs)) (hkd : dom h key)
    (e0 : ι key = .slice (some ⟨g, 0, none⟩) xs.length cap) (hc0 : 0 < cap) (hg : w.heap[g]? = some (.cells cur e (0, 0))) (hnc : xs.length ≤ cap) (hcm : cap ≤ maxLen) (hcs : cur'.size = cap * sz) (hl : xs'.length = xs.length) (htk : cur'.toList.take (xs.length * sz) = vs')
    (hv : RDs w (cx Z h ι w).M xs'.flatten vs') (hz : ∀ x ∈ xs', x.length = sz) (hn : xs.length ≤ 140737488355328) : Rel Z K E.N (J K Y Z) s (hset h key (some (.row e sz xs'))) ι a (w.setRow g cur') := by
  have hb : blk (ι key) = some g := by rw [e0]; simp [blk]; omega
  have hdom : ∀ k', dom h k' ↔ dom (hset h key (some (.row e sz xs'))) k' := by
    intro k'
    by_cases hjk : k' = key
    · subst hjk; simp [dom, hset_same]; rw [hkey]; rfl
    · simp only [dom, hset_ne h _ hjk]
  have kc : KeepsC (cx Z h ι w) (cx Z (hset h key (some (.row e sz xs'))) ι (w.setRow g cur')) := by
    refine ⟨⟨fun b o u hm hcc => ?_, fun b hm hi => hi.at (setRow_other w g b _ fun e => hm (e ▸ .inr ⟨key, hkd, hb⟩)), fun b _ hm hm' => ?_⟩, fun k' hk' => ⟨(hdom k').1 hk', rfl⟩⟩
    · have hne : b ≠ g := by intro e; subst e; exact hm (.inr ⟨key, hkd, hb⟩)
      show World.cell? _ _ = _
      rw [World.cell?_of_block (w := w) (a := ⟨b, o, none⟩) (setRow_other w g b _ hne)]; exact hcc
    · rcases hm' with hz | ⟨k', hk', hkb⟩
      · exact hm (.inl hz)
      · exact hm (.inr ⟨k', (hdom k').2 hk', hkb⟩)
  have hent : EntOk (cx Z (hset h key (some (.row e sz xs'))) ι (w.setRow g cur')) (.row e sz xs') (ι key) :=
    ⟨vs', .inr ⟨g, cap, cur', by rw [hl]; exact e0, hc0, setRow_heap w g cur _ e _ hg, by rw [hl]; exact hnc, hcm, hcs, by rw [hl]; exact htk⟩, RDs_keeps kc.d _ _ hv, hz, by rw [hl]; exact hn⟩
  obtain ⟨m', _⟩ := r.mem.turn hkd hb (setRow_step w g _) (by simp) hent
  exact ⟨m', r.size, fun i => RA_keeps kc _ _ (r.slot i), r.ds.turn ⟨cur, e, _, hg⟩ (setRow_step w g _)⟩

end
end Go.AL
/- AL, part 48: parts of rows cleared; a part that becomes the row. -/
namespace Go.AL
set_option linter.unusedVariables false
set_option linter.unusedSimpArgs false

theorem RDs_reps {w : World} {M : Nat → Prop} {zs : List D} {zv : List Value} (h : RDs w M zs zv) : ∀ m : Nat, RDs w M (List.replicate m zs).flatten (List.replicate m zv).flatten
  | 0 => by simp [RDs]
  | m + 1 => by
    rw [List.replicate_succ, List.replicate_succ, List.flatten_cons, List.flatten_cons]
    exact RDs_append h (RDs_reps h m)
section
variable {E : Env} {ops : List Oper} {Q : Exit → St → Prop} {i : Nat} {J : Jt} {s : Slots} {h : Heap} {o : Oper}
/-- 'clear' of a part of a row. -/
theorem OW_clearView' (hE : E.Good) {key l m : Nat} {xo : Operand} {t : TypeId} (ho : ops[i]? = some o) (hop : o.op = .call ⟨.builtin .clear, #[xo], #[t]⟩) (hw : awant ops o s = some true) (hdst : o.dst = none)
    {e : TypeId} {z1 z2 : Nat} {z3 : List Value} (ht : E.T t = some ⟨.slice e, z1, z2, z3⟩) {k : TK} {sz z5 : Nat} {z6 : List Value} (hte : E.T e = some ⟨k, sz, z5, z6⟩) {zs : List D} (hzs : litCells z6 = some (zs.map .d)) {q : Nat} (hx : ev s xo = .view key q m) (hq : q = l * sz) {xs : List (List D)} (hkey : h key = some (.row e sz xs)) (hm : l + m ≤ xs.length) (hm0 : 0 < m)
    (hk : OW E ops (i + 1) Q ⟨J, s, hset h key (some (.row e sz (xs.take l ++ List.replicate m zs ++ xs.drop (l + m))))⟩) : OW E ops i Q ⟨J, s, h⟩ := fun ι a w r => by
  subst hq
  have hd : ops.drop i = o :: ops.drop (i + 1) := by
    obtain ⟨hlt, rfl⟩ := List.getElem?_eq_some_iff.1 ho
    exact List.drop_eq_getElem_cons hlt
  rw [hd]
  simp only [wpListIn]
  rw [if_pos (awant_ok r hw)]
  refine ⟨fun f _ => hE.wide.fn f, ?_⟩
  rw [Oper.semAt_plain E.F _ _ (by rw [hop]; intro c hc; cases hc)]
  obtain ⟨dst, op, ty, pos, af, gd⟩ := o
  simp only at hop hdst
  subst hop hdst
  obtain ⟨Z, K, Y, hZE, r⟩ := r
  have h1 := RA_ev (C := cx Z h ι w) (s := s) (a := a) xo fun t _ => r.slot t
  rw [hx] at h1
  simp only [RA] at h1
  obtain ⟨hkd, b0, cap1, hb0, e1, _⟩ := h1
  obtain ⟨vs, f1, f2, f3, f4⟩ := r.mem.ent key _ hkey
  rcases f1 with ⟨_, _, h0, _⟩ | ⟨g, cap, cur, e0, hc0, hg, hnc, hcm, hcs, htk⟩
  · omega
  have hg' : w.heap[g]? = some (.cells cur e (0, 0)) := hg
  have e0' : ι key = .slice (some ⟨g, 0, none⟩) xs.length cap := e0
  have hb : blk (ι key) = some g := by rw [e0]; simp [blk]; omega
  have : b0 = g := by
    have hb0' : blk (ι key) = some b0 := hb0
    rw [hb] at hb0'; injection hb0' with hb0'; exact hb0'.symm
  subst this
  have hu := (hE.ok.T t _ ht).2
  simp only [TK.fits] at hu
  obtain ⟨z, hz1, hz2⟩ := run_zero hE.ok.T hte w
  have hz6 : z6.length = sz := by obtain ⟨⟨_, _, _, _, _, _, _, h⟩, _⟩ := hE.ok.T e _ hte; exact h
  have hz2' : z.cells.toList = z6 := hz2
  have hzl : z.cells.size = sz := by rw [← hz6, ← hz2']; simp
  obtain ⟨zv, hzv⟩ : ∃ zv, zv = (List.replicate m z6).flatten := ⟨_, rfl⟩
  have hzc : (Builtin.zeroCells z.cells m).toList = zv := by rw [hzv, zero_flat, hz2']
  have hzvl : zv.length = m * sz := by
    rw [← hzc]; simp [Builtin.zeroCells, hzl]
  have hRz : RDs w (cx Z h ι w).M zs z6 := RAs_map_d.1 (litCells_ok (C := cx Z h ι w) hzs)
  have hRr := RDs_reps hRz m
  rw [← hzv] at hRr
  have hvl : vs.length = xs.length * sz := by rw [RDs_length f2]; exact flat_len xs f3
  have hcl : cur.toList.length = cap * sz := by simpa using hcs
  have hns : xs.length * sz ≤ cap * sz := Nat.mul_le_mul_right _ hnc
  have hlm : (l + m) * sz ≤ xs.length * sz := Nat.mul_le_mul_right _ hm
  have hlm2 : (l + m) * sz = l * sz + m * sz := Nat.add_mul _ _ _
  have hst := run_storeCells_at (P := E.P) b0 (l * sz) e zv 0 cur w hg' (by rw [hzvl]; have : cur.size = cap * sz := hcs; omega) (RDs_one hRr)
  obtain ⟨cur', hcur'⟩ : ∃ cur', cur' = (cur.toList.take (l * sz) ++ zv ++ cur.toList.drop (l * sz + zv.length)).toArray := ⟨_, rfl⟩
  have hrun : (execOp a.eval ⟨none, .call ⟨.builtin .clear, #[xo], #[t]⟩, ty, pos, af, gd⟩).run E.P w = .ok (.value (.tuple #[])) (w.setRow b0 cur') := by
    have hm' : m ≠ 0 := by omega
    obtain ⟨m, rfl⟩ : ∃ q, m = q + 1 := ⟨m - 1, by omega⟩
    simp only [execOp, resolve, invoke, builtin, Builtin.clear_]
    simp [e1, run_underlying hu, hz1, hzc]
    simp at hst
    rw [hst, hcur']
    simp
  rw [hrun]
  show wpListIn _ _ _ _ _ _ _ _
  obtain ⟨xs', hxs'⟩ : ∃ xs', xs.take l ++ List.replicate m zs ++ xs.drop (l + m) = xs' := ⟨_, rfl⟩
  rw [hxs'] at hk
  have hzsl : zs.length = sz := by rw [← RDs_length hRz]; exact hz6
  have hdz : ∀ x ∈ xs', x.length = sz := fun x hx => by
    rw [← hxs'] at hx
    rcases List.mem_append.1 hx with hx | hx
    · rcases List.mem_append.1 hx with hx | hx
      · exact f3 x (List.mem_of_mem_take hx)
      · rw [List.eq_of_mem_replicate hx]; exact hzsl
    · exact f3 x (List.mem_of_mem_drop hx)
  have hfl : xs'.flatten = xs.flatten.take (l * sz) ++ (List.replicate m zs).flatten ++ xs.flatten.drop ((l + m) * sz) := by
    rw [← hxs', List.flatten_append, List.flatten_append, flat_take xs l f3, flat_drop xs _ f3]
  have hxl : xs'.length = xs.length := by rw [← hxs']; simp; omega
  have r0' : Rel Z K E.N (J K Y Z) s (hset h key (some (.row e sz xs'))) ι a (w.setRow b0 cur') := by
    refine OW_turned (vs' := vs.take (l * sz) ++ zv ++ vs.drop ((l + m) * sz)) r hkey hkd e0' hc0 hg' hnc hcm ?_ hxl ?_ ?_ hdz f4
    · rw [hcur']; simp only [List.size_toArray, List.length_append, List.length_take, List.length_drop, hcl, hzvl]; omega
    · rw [hcur', ← htk]
      have hl1 : (cur.toList.take (l * sz)).length = l * sz := by simp; omega
      apply List.ext_getElem?
      intro q
      simp only [List.getElem?_take, List.getElem?_append, List.getElem?_drop, List.length_append, List.length_take, List.length_drop, hzvl, hl1, hlm2]
      rw [hcl]
      repeat' split
      all_goals first | rfl | omega | (exfalso; omega) | skip
      all_goals first | (congr 1; omega) | (simp; omega) | skip
      all_goals first | (rw [List.getElem?_eq_none (by simp; omega)]) | skip
    · rw [hfl]
      exact RDs_append (RDs_append (RDs_take _ f2) hRr) (RDs_drop _ f2)
  exact hk ι _ _ ⟨Z, K, Y, hZE, Rel.put_none r0' (Grew.refl _) _⟩
end

end Go.AL
/- AL, part 49: what a function does in worlds of which something is known (a table that stands). -/
namespace Go.AL
set_option linter.unusedVariables false
set_option linter.unusedSimpArgs false
def DoesW (P : Program) (Tab : World → Prop) (f : Nat) (args : List AV) (R : AV) : Prop :=
  Callable P f ∧ ∀ n Z w vs, (∀ b, Z b → b < w.heap.size) → Tab w → RAs (cx Z noHeap noι w) args vs →
    CallsIn Fence.wide n P f vs.toArray w fun e w' => ∃ v ι, e = .returned v ∧ Grew w w' ∧ RA (cx Z noHeap ι w') R v ∧ Own Z w.heap.size noHeap ι w'
theorem DoesW.of {P : Program} {Tab : World → Prop} {f : Nat} {args : List AV} {R : AV} (h : Does P f args noHeap R) : DoesW P Tab f args R := ⟨h.1, fun n Z w vs hZ _ hv => h.2 n Z w vs hZ hv⟩
section
variable {E : Env} {ops : List Oper} {Q : Exit → St → Prop} {st : St} {i : Nat}
end
section
variable {E : Env} {ops : List Oper} {Q : Exit → St → Prop} {J : Jt} {s : Slots} {h : Heap} {i : Nat}
end
section
variable {E : Env} {ops : List Oper} {J : Jt} {h : Heap}
end
end Go.AL
/- AL, part 38: rows begun by a call in a drawn head; calls that are lent own rows and give errors. -/
namespace Go.AL
set_option linter.unusedVariables false
set_option linter.unusedSimpArgs false
section
variable {E : Env} {ops : List Oper} {Q : Exit → St → Prop} {J : Jt} {s : Slots} {h : Heap}
variable {p : Grow} {n i : Nat} {K : Slots → Prop}
end
section
variable {E : Env} {ops : List Oper} {Q : Exit → St → Prop} {i : Nat} {J : Jt} {h : Heap} {s : Slots}
end
end Go.AL
/- AL, part 39: a row that is begun by a call, lengthened, and lent in a drawn head. -/
namespace Go.AL
set_option linter.unusedVariables false
set_option linter.unusedSimpArgs false
section
variable {E : Env} {ops : List Oper} {Q : Exit → St → Prop} {i : Nat} {J : Jt} {h : Heap} {s : Slots}
variable {p : Grow} {n g3 : Nat} {R3 : AV} {P3 : Slots → Prop} {K : Slots → Prop}
end
end Go.AL
/- AL, part 40: a drawn head in which a new variable is laid, that is written behind it. -/
namespace Go.AL
set_option linter.unusedVariables false
set_option linter.unusedSimpArgs false
section
variable {E : Env} {ops : List Oper} {Q : Exit → St → Prop} {J : Jt} {s : Slots} {h : Heap}
theorem CW_drawn6 (hE : E.Good) (n g1 k : Nat) {id : Nat} (hB : Region.lexTailB .any ops.toArray n = true) {o1 : Oper} {t : TypeId} {ti : TI} {zs : List AV} {d : Tmp}
    (ho1 : ops[g1]? = some o1) (hop1 : o1.op = .alloc t) (hgd1 : o1.guard = none) (hd1 : o1.dst = some d) (hn1 : Nat.ble (d + 1) E.N = true) (hlt : (Nat.ble (g1 + 1) n && Nat.ble ops.length 999) = true) (hk : h k = none) (ht : E.T t = some ti) (hz : litCells ti.zero = some zs) (hzl : Nat.beq zs.length ti.size = true)
    (hq : H2W ⟨h, k, g1, 999, t, ti.size, d, .tmp d, zs, zs⟩ E ops J n 0 (fun s => OW E ops n Q ⟨J, s, hset h k (some (.box t zs))⟩) s) : CW E (.region id ops.toArray true) Q ⟨J, s, h⟩ := fun ι a w r => by
  simp only [Bool.and_eq_true] at hlt
  have hl1 : g1 < n := Nat.le_of_ble_eq_true hlt.1
  have hl9 : ops.length ≤ 999 := Nat.le_of_ble_eq_true hlt.2
  let p : Pair := ⟨h, k, g1, 999, t, ti.size, d, .tmp d, zs, zs⟩
  simp only [Region.lexTailB, Bool.and_eq_true, decide_eq_true_eq] at hB
  obtain ⟨⟨⟨⟨hsel, hn⟩, hs⟩, hc⟩, hlex⟩ := hB
  have hn' : n < ops.length := by simpa using hn
  have b9 : ∀ l : Array Bool, l.size = ops.toArray.size → bits l 999 = false := fun l hl => by
    have hsz : l.size = ops.length := by simpa using hl
    show l.getD 999 false = false
    rw [Array.getD_eq_getD_getElem?, Array.getElem?_eq_none (by omega)]; rfl
  have htl : (ops.take n).length = n := by simp; omega
  have hdl : (ops.drop n).length = ops.toArray.size - n := by simp
  have inv0 : HeadInv .any ops.toArray n (Array.replicate ops.toArray.size false) :=
    ⟨by simp, fun j oj _ hl => (by rw [getD_replicate_false] at hl; cases hl), fun t _ ht => getD_in (by simpa using ht) (getD_replicate_false _ _)⟩
  have hYS : YStable ops (p.Y E ops J) := by
    intro i o s s' x ho hss hy
    rcases hy with hy | ⟨h1, h2, h3, h4, h5, h6⟩ | ⟨h1, h2, o', h3, h4⟩
    · exact .inl hy
    · exact absurd (show i = 999 from h1) (by
        have := (List.getElem?_eq_some_iff.1 ho).1
        omega)
    · have hoo : o' = o := by rw [ho] at h3; exact (Option.some.inj h3).symm
      subst hoo
      exact .inr (.inr ⟨h1, h2, o', h3, fun b => YA_same hss (h4 b)⟩)
  have H0 := anyB_lex (E := E) (Y := p.Y E ops J) (g := ops.toArray.size - n) hYS hs hc hn (ops.take n) 0 _ s (fun j hj => by
    have hj' : j < n := by rw [htl] at hj; exact hj
    simp [hj']) (by simpa using htl) inv0 (fun j hj => by omega) (by rw [htl]; exact hlex) (by simpa [H2W] using hq)
  have hH0 : p.H (bits (Array.replicate ops.toArray.size false)) = h := by
    have b1 : bits (Array.replicate ops.toArray.size false) 999 = false := getD_replicate_false _ _
    have b2 : bits (Array.replicate ops.toArray.size false) g1 = false := getD_replicate_false _ _
    show hset h k (bif bits _ 999 then _ else bif bits _ g1 then _ else none) = h
    rw [b1, b2]; exact hset_none hk
  have r1 : RelS E ⟨J, s, p.H (bits (Array.replicate ops.toArray.size false))⟩ ι a { w with drawn := w.drawn + 1 } := by
    rw [hH0]
    obtain ⟨Z, K, Y, hZE, r⟩ := r
    exact ⟨Z, K, Y, hZE, r.mem.grew (Grew.drew w), r.size, fun i => RA_keeps (keepsC_grew (K := K) (J := J K Y Z) (Grew.drew w)) _ _ (r.slot i), r.ds.grew (Grew.drew w)⟩
  refine wpIn_region_any hE.ok.mixed ?_
  have hh := wpAnyIn_of_headB (Y := p.Y E ops J) (J := J) (Q' := Post E Q) p.H (g := ops.toArray.size - n) (fun i o listed s x ho inv hi hin hy hdo ι a w r K' hk' => ?_) (fun listed s ι a' w' r' hL => by
    have hb1 : bits listed g1 = true := hL.1.2 g1 hl1
    have hH : p.H (bits listed) = hset h k (some (.box t zs)) := by
      show hset h k (bif bits listed 999 then _ else bif bits listed g1 then _ else none) = _
      rw [hb1]; cases bits listed 999 <;> rfl
    rw [hH] at r'
    have := wpAnyIn_of_seq (Q' := Post E Q) (ops.drop n) n listed a' w' (fun j => by simp [List.getElem?_drop]) (by rw [hdl]; exact hL.1.1) (hL.2 ι a' w' r')
    rwa [hdl] at this) _ _ _ ι a _ inv0 r1 H0
  · rw [htl] at hh
    rwa [show n + (ops.toArray.size - n) = ops.toArray.size by simp; omega] at hh
  · have hun : listed.getD i true = false := (mem_ready.1 hi).1
    have hst' : ∀ j, j ≠ i → bits (listed.setIfInBounds i true) j = bits listed j := fun j hj => getD_set_ne false (Ne.symm hj)
    have hsz : i < listed.size := by
      rw [inv.size]
      have := (List.getElem?_eq_some_iff.1 ho).1
      simpa using this
    have hseti : bits (listed.setIfInBounds i true) i = true := by simp [bits, hsz]
    rcases hy with ⟨h1, rfl⟩ | ⟨h1, rfl, h3, h4, h5, h6, h7⟩ | ⟨h1, h2, o', h3, h4⟩
    · have h1 : i = g1 := h1
      subst h1
      have hoo : o = o1 := by rw [ho1] at ho; exact (Option.some.inj ho).symm
      subst hoo
      have b1 : bits listed i = false := getD_both hun
      have b2 : bits listed 999 = false := b9 listed inv.size
      have hHb : p.H (bits listed) = h := by
        show hset h k (bif bits listed 999 then _ else bif bits listed i then _ else none) = h
        rw [b1, b2]; exact hset_none hk
      have hHa : p.H (bits (listed.setIfInBounds i true)) = hset h k (some (.box t zs)) := by
        show hset h k (bif bits _ 999 then _ else bif bits _ i then _ else none) = _
        rw [b9 _ (by simpa using inv.size), hseti]; rfl
      rw [hHb] at r
      have g := opG_of_OW (E := E) (o := o) (st := ⟨J, s, h⟩) (K := fun st' => st' = ⟨J, pu s o.dst (.ptr k 0), Go.AL.hset h k (some (.box t zs))⟩) hgd1
        (OW_alloc' hE k (o := o) rfl hop1 (by simp [awant, hgd1]) hk ht hz (s' := pu s o.dst (.ptr k 0)) (by rw [hd1]; simp [putS, hn1, pu]) (OW_end rfl ⟨rfl, rfl⟩))
      unfold wpOpIn
      simp only [List.getElem?_toArray, ho]
      rw [if_pos (by simp [Region.wanted, hgd1])]
      refine g ι a w r K' (Post E Q) fun st' ι' a' w' hst r' => ?_
      subst hst
      refine hk' ι' a' w' ?_
      rw [hHa]; exact r'
    · exact absurd (show i = 999 from h1) (by
        have := (List.getElem?_eq_some_iff.1 ho).1
        omega)
    · have hoo : o' = o := by rw [ho] at h3; exact (Option.some.inj h3).symm
      subst hoo
      have hHs : p.H (bits (listed.setIfInBounds i true)) = p.H (bits listed) := by
        show Go.AL.hset h k (bif bits _ 999 then _ else bif bits _ g1 then _ else none) = Go.AL.hset h k _
        rw [hst' 999 (Ne.symm h2), hst' g1 (Ne.symm h1)]
      refine wpOpIn_of_qA (J := J) (h := p.H (bits listed)) (K := fun s' => s' = pu s o'.dst x) hE r (fun s' a' w' r' hs' => ?_) ?_
      · subst hs'
        refine hk' ι a' w' ?_
        rw [hHs]; exact r'
      · unfold qA
        simp only [ho]
        exact ⟨x, hdo, h4 _, rfl⟩
end
end Go.AL
/- AL, part 42: a drawn head in which some operations each lay something new under a key of its own (variables, rows that calls give, rows appended to nothing), in whatever order. -/
namespace Go.AL
set_option linter.unusedVariables false
set_option linter.unusedSimpArgs false

/-- (operation, key, what it lays) -/
abbrev Effs := List (Nat × Nat × Ent)
def HG (h : Heap) (b : Nat → Bool) : Effs → Heap
  | [] => h
  | (i, k, e) :: r => hset (HG h b r) k (bif b i then some e else none)
/-- All of it laid. -/
def HGt (h : Heap) : Effs → Heap
  | [] => h
  | (_, k, e) :: r => hset (HGt h r) k (some e)
def keysOf : Effs → List Nat
  | [] => []
  | (_, k, _) :: r => k :: keysOf r
def opsOf : Effs → List Nat
  | [] => []
  | (i, _, _) :: r => i :: opsOf r
def freshK (h : Heap) : Effs → Bool
  | [] => true
  | (_, k, _) :: r => (h k).isNone && freshK h r
def distinctB : List Nat → Bool
  | [] => true
  | x :: r => !(r.any (Nat.beq x)) && distinctB r

theorem HG_true {h : Heap} {b : Nat → Bool} : ∀ {l : Effs}, (∀ i ∈ opsOf l, b i = true) → HG h b l = HGt h l
  | [], _ => rfl
  | (i, k, e) :: r, hb => by
    simp only [HG, HGt]
    rw [hb i (by simp [opsOf]), HG_true fun j hj => hb j (by simp [opsOf, hj])]
    rfl
theorem HG_none {h : Heap} {b : Nat → Bool} : ∀ {l : Effs}, freshK h l = true → (∀ i ∈ opsOf l, b i = false) → HG h b l = h
  | [], _, _ => rfl
  | (i, k, e) :: r, hf, hb => by
    simp only [freshK, Bool.and_eq_true, Option.isNone_iff_eq_none] at hf
    simp only [HG]
    rw [hb i (by simp [opsOf]), HG_none hf.2 fun j hj => hb j (by simp [opsOf, hj])]
    exact hset_none hf.1
theorem HG_out {h : Heap} {b b' : Nat → Bool} : ∀ {l : Effs}, (∀ i ∈ opsOf l, b' i = b i) → HG h b' l = HG h b l
  | [], _ => rfl
  | (i, k, e) :: r, hb => by
    simp only [HG]
    rw [hb i (by simp [opsOf]), HG_out fun j hj => hb j (by simp [opsOf, hj])]
theorem mem_opsOf {i k : Nat} {e : Ent} : ∀ {l : Effs}, (i, k, e) ∈ l → i ∈ opsOf l
  | (i', k', e') :: r, hm => by
    rcases List.mem_cons.1 hm with hm | hm
    · cases hm; simp [opsOf]
    · simp [opsOf, mem_opsOf hm]
theorem mem_keysOf {i k : Nat} {e : Ent} : ∀ {l : Effs}, (i, k, e) ∈ l → k ∈ keysOf l
  | (i', k', e') :: r, hm => by
    rcases List.mem_cons.1 hm with hm | hm
    · cases hm; simp [keysOf]
    · simp [keysOf, mem_keysOf hm]
theorem distinct_not {x : Nat} {r : List Nat} (h : distinctB (x :: r) = true) : x ∉ r := fun hm => by
  simp only [distinctB, Bool.and_eq_true, Bool.not_eq_true'] at h
  have := h.1
  rw [List.any_eq_false] at this
  exact this x hm (Nat.beq_refl x)
theorem distinct_tail {x : Nat} {r : List Nat} (h : distinctB (x :: r) = true) : distinctB r = true := by
  simp only [distinctB, Bool.and_eq_true] at h; exact h.2
theorem hset_swap (h : Heap) {k k' : Nat} (hn : k ≠ k') (x y : Option Ent) : hset (hset h k x) k' y = hset (hset h k' y) k x := by
  funext i
  by_cases h1 : i = k'
  · subst h1; rw [hset_same, hset_ne _ _ (Ne.symm hn), hset_same]
  · rw [hset_ne _ _ h1]
    by_cases h2 : i = k
    · subst h2; rw [hset_same, hset_same]
    · rw [hset_ne _ _ h2, hset_ne _ _ h2, hset_ne _ _ h1]
theorem HG_set {h : Heap} {b b' : Nat → Bool} {i k : Nat} {e : Ent} (hi : b i = false) (hi' : b' i = true) (hb : ∀ j, j ≠ i → b' j = b j) : ∀ {l : Effs}, distinctB (opsOf l) = true → distinctB (keysOf l) = true → (i, k, e) ∈ l →
    HG h b' l = hset (HG h b l) k (some e) ∧ HG h b l k = none
  | (i', k', e') :: r, h1, h2, hm => by
    have n1 := distinct_not h1
    have n2 := distinct_not h2
    rcases List.mem_cons.1 hm with hm | hm
    · cases hm
      have : HG h b' r = HG h b r := HG_out fun j hj => hb j (fun e => n1 (e ▸ hj))
      simp only [HG]
      rw [this, hi, hi']
      exact ⟨by rw [hset_hset]; rfl, hset_same _ _ _⟩
    · have hne : i' ≠ i := fun e => n1 (e ▸ mem_opsOf hm)
      have hnk : k ≠ k' := fun e => n2 (e ▸ mem_keysOf hm)
      obtain ⟨g1, g2⟩ := HG_set hi hi' hb (distinct_tail h1) (distinct_tail h2) hm
      simp only [HG]
      rw [hb i' hne, g1]
      exact ⟨hset_swap _ hnk _ _, by rw [hset_ne _ _ hnk]; exact g2⟩
theorem HG_more {h : Heap} {b : Nat → Bool} : ∀ {l : Effs}, freshK h l = true → ∀ j e, h j = some e → HG h b l j = some e
  | [], _, j, e, hj => hj
  | (i, k, e') :: r, hf, j, e, hj => by
    simp only [freshK, Bool.and_eq_true, Option.isNone_iff_eq_none] at hf
    have hne : j ≠ k := fun h => by rw [h, hf.1] at hj; cases hj
    simp only [HG]
    rw [hset_ne _ _ hne]
    exact HG_more hf.2 j e hj

/-- The operation lays e under k and gives x. -/
def Lays (E : Env) (ops : List Oper) (J : Jt) (H : (Nat → Bool) → Heap) (i : Nat) (o : Oper) (s : Slots) (x : AV) (k : Nat) (e : Ent) : Prop :=
  o.guard = none ∧ ∀ s1 b, (∀ t ∈ o.looksAt ops.toArray, s1 t = s t) → b i = false → H b k = none → OpG E o ⟨J, s1, H b⟩ (fun st' => st' = ⟨J, pu s1 o.dst x, hset (H b) k (some e)⟩)
def YG (h : Heap) (l : Effs) (E : Env) (ops : List Oper) (J : Jt) (i : Nat) (s : Slots) (x : AV) : Prop :=
  (∃ k e o, (i, k, e) ∈ l ∧ ops[i]? = some o ∧ Lays E ops J (fun b => HG h b l) i o s x k e) ∨
  (i ∉ opsOf l ∧ ∃ o, ops[i]? = some o ∧ ∀ b, YA E ops J (HG h b l) o s x)
def HGW (h : Heap) (l : Effs) (E : Env) (ops : List Oper) (J : Jt) (n i : Nat) (K : Slots → Prop) (s : Slots) : Prop := QB E (YG h l E ops J) K ((ops.take n).drop i) i s

section
variable {E : Env} {ops : List Oper} {Q : Exit → St → Prop} {J : Jt} {s : Slots} {h : Heap}
theorem CW_drawnG (hE : E.Good) (n : Nat) (l : Effs) {id : Nat} (hB : Region.lexTailB .any ops.toArray n = true)
    (hl : ((opsOf l).all (fun i => Nat.ble (i + 1) n) && distinctB (opsOf l) && distinctB (keysOf l) && freshK h l) = true)
    (hq : HGW h l E ops J n 0 (fun s => OW E ops n Q ⟨J, s, HGt h l⟩) s) : CW E (.region id ops.toArray true) Q ⟨J, s, h⟩ := fun ι a w r => by
  simp only [Bool.and_eq_true, List.all_eq_true] at hl
  obtain ⟨⟨⟨hl1, hl2⟩, hl3⟩, hl4⟩ := hl
  simp only [Region.lexTailB, Bool.and_eq_true, decide_eq_true_eq] at hB
  obtain ⟨⟨⟨⟨hsel, hn⟩, hs⟩, hc⟩, hlex⟩ := hB
  have hn' : n < ops.length := by simpa using hn
  have htl : (ops.take n).length = n := by simp; omega
  have hdl : (ops.drop n).length = ops.toArray.size - n := by simp
  have inv0 : HeadInv .any ops.toArray n (Array.replicate ops.toArray.size false) :=
    ⟨by simp, fun j oj _ hl => (by rw [getD_replicate_false] at hl; cases hl), fun t _ ht => getD_in (by simpa using ht) (getD_replicate_false _ _)⟩
  have hYS : YStable ops (YG h l E ops J) := by
    intro i o s s' x ho hss hy
    rcases hy with ⟨k, e, o', h1, h2, h3, h4⟩ | ⟨h1, o', h3, h4⟩
    · have hoo : o' = o := by rw [ho] at h2; exact (Option.some.inj h2).symm
      subst hoo
      exact .inl ⟨k, e, o', h1, h2, h3, fun s1 b hs1 => h4 s1 b fun t ht => (hs1 t ht).trans (hss t ht)⟩
    · have hoo : o' = o := by rw [ho] at h3; exact (Option.some.inj h3).symm
      subst hoo
      exact .inr ⟨h1, o', h3, fun b => YA_same hss (h4 b)⟩
  have H0 := anyB_lex (E := E) (Y := YG h l E ops J) (g := ops.toArray.size - n) hYS hs hc hn (ops.take n) 0 _ s (fun j hj => by
    have hj' : j < n := by rw [htl] at hj; exact hj
    simp [hj']) (by simpa using htl) inv0 (fun j hj => by omega) (by rw [htl]; exact hlex) (by simpa [HGW] using hq)
  have hH0 : HG h (bits (Array.replicate ops.toArray.size false)) l = h := HG_none hl4 fun i _ => getD_replicate_false _ _
  have r1 : RelS E ⟨J, s, HG h (bits (Array.replicate ops.toArray.size false)) l⟩ ι a { w with drawn := w.drawn + 1 } := by
    rw [hH0]
    obtain ⟨Z, K, Y, hZE, r⟩ := r
    exact ⟨Z, K, Y, hZE, r.mem.grew (Grew.drew w), r.size, fun i => RA_keeps (keepsC_grew (K := K) (J := J K Y Z) (Grew.drew w)) _ _ (r.slot i), r.ds.grew (Grew.drew w)⟩
  refine wpIn_region_any hE.ok.mixed ?_
  have hh := wpAnyIn_of_headB (Y := YG h l E ops J) (J := J) (Q' := Post E Q) (fun b => HG h b l) (g := ops.toArray.size - n) (fun i o listed s x ho inv hi hin hy hdo ι a w r K' hk' => ?_) (fun listed s ι a' w' r' hL => by
    have hH : HG h (bits listed) l = HGt h l := HG_true fun i hi => hL.1.2 i (Nat.le_of_ble_eq_true (hl1 i hi))
    have r' : RelS E ⟨J, s, HG h (bits listed) l⟩ ι a' w' := r'
    rw [hH] at r'
    have := wpAnyIn_of_seq (Q' := Post E Q) (ops.drop n) n listed a' w' (fun j => by simp [List.getElem?_drop]) (by rw [hdl]; exact hL.1.1) (hL.2 ι a' w' r')
    rwa [hdl] at this) _ _ _ ι a _ inv0 r1 H0
  · rw [htl] at hh
    rwa [show n + (ops.toArray.size - n) = ops.toArray.size by simp; omega] at hh
  · have hun : listed.getD i true = false := (mem_ready.1 hi).1
    have hst' : ∀ j, j ≠ i → bits (listed.setIfInBounds i true) j = bits listed j := fun j hj => getD_set_ne false (Ne.symm hj)
    have hsz : i < listed.size := by
      rw [inv.size]
      have := (List.getElem?_eq_some_iff.1 ho).1
      simpa using this
    have hseti : bits (listed.setIfInBounds i true) i = true := by simp [bits, hsz]
    have b1 : bits listed i = false := getD_both hun
    rcases hy with ⟨k, e, o', h1, h2, hgd, h4⟩ | ⟨h1, o', h3, h4⟩
    · have hoo : o' = o := by rw [ho] at h2; exact (Option.some.inj h2).symm
      subst hoo
      obtain ⟨g1, g2⟩ := HG_set (h := h) b1 hseti hst' hl2 hl3 h1
      have g := h4 s (bits listed) (fun _ _ => rfl) b1 g2
      unfold wpOpIn
      simp only [List.getElem?_toArray, ho]
      rw [if_pos (by simp [Region.wanted, hgd])]
      refine g ι a w r K' (Post E Q) fun st' ι' a' w' hst r' => ?_
      subst hst
      refine hk' ι' a' w' ?_
      show RelS E ⟨J, _, HG h _ l⟩ _ _ _
      rw [g1]; exact r'
    · have hoo : o' = o := by rw [ho] at h3; exact (Option.some.inj h3).symm
      subst hoo
      have hHs : HG h (bits (listed.setIfInBounds i true)) l = HG h (bits listed) l := HG_out fun j hj => hst' j (fun e => h1 (e ▸ hj))
      refine wpOpIn_of_qA (J := J) (h := HG h (bits listed) l) (K := fun s' => s' = pu s o'.dst x) hE r (fun s' a' w' r' hs' => ?_) ?_
      · subst hs'
        refine hk' ι a' w' ?_
        show RelS E ⟨J, _, HG h _ l⟩ _ _ _
        rw [hHs]; exact r'
      · unfold qA
        simp only [ho]
        exact ⟨x, hdo, h4 _, rfl⟩

variable {l : Effs} {n i : Nat} {K : Slots → Prop}
theorem HG_cons {o : Oper} (ho : ops[i]? = some o) (hi : Nat.ble (i + 1) n = true) {x : AV} (hd : dstOk E.N o.dst = true) (hy : YG h l E ops J i s x) (hk : HGW h l E ops J n (i + 1) K (pu s o.dst x)) : HGW h l E ops J n i K s := by
  unfold HGW at *
  have hi' := Nat.le_of_ble_eq_true hi
  obtain ⟨hlt, rfl⟩ := List.getElem?_eq_some_iff.1 ho
  have hlt2 : i < (ops.take n).length := by simp; omega
  rw [List.drop_eq_getElem_cons hlt2, List.getElem_take]
  exact ⟨x, hd, hy, hk⟩
theorem HG_end (hk : K s) : HGW h l E ops J n n K s := by
  unfold HGW
  rw [List.drop_eq_nil_of_le (by simp; omega)]
  exact hk
def offRange (l : Effs) (i m : Nat) : Bool := (opsOf l).all fun g => Nat.ble (i + m) g || Nat.ble (g + 1) i
theorem off_not {m q : Nat} (h : offRange l i m = true) (h1 : i ≤ q) (h2 : q < i + m) : q ∉ opsOf l := fun hm => by
  have := List.all_eq_true.1 h q hm
  simp only [Bool.or_eq_true] at this
  rcases this with h | h <;> have := Nat.le_of_ble_eq_true h <;> omega
theorem HG_run (hE : E.Good) (m : Nat) {s' : Slots} (hfr : freshK h l = true) (hp : runPure E ops h m i s = some s') (hi : Nat.ble (i + m) n = true) (h1 : offRange l i m = true)
    (hk : HGW h l E ops J n (i + m) K s') : HGW h l E ops J n i K s := by
  have more : ∀ b j e, h j = some e → HG h b l j = some e := fun b j e hj => HG_more hfr j e hj
  have n1 : ∀ q, i ≤ q → q < i + m → q ∉ opsOf l := fun q a b => off_not h1 a b
  clear h1
  induction m generalizing i s with
  | zero => simp only [runPure, Option.some.injEq] at hp; subst hp; exact hk
  | succ m ih =>
    have hi' := Nat.le_of_ble_eq_true hi
    have hi1 : Nat.ble (i + 1) n = true := Nat.ble_eq_true_of_le (by omega)
    have hi2 : Nat.ble (i + 1 + m) n = true := Nat.ble_eq_true_of_le (by omega)
    have a1 := n1 i (Nat.le_refl _) (by omega)
    simp only [runPure] at hp
    split at hp
    · rename_i o ho
      split at hp
      · rename_i hw
        split at hp
        · rename_i R hR
          split at hp
          · rename_i s1 hs1
            obtain ⟨hd, rfl⟩ := pu_of_putS hs1
            refine HG_cons ho hi1 hd (.inr ⟨a1, o, ho, fun b => .inl ⟨hw, LY_of_gives hE (stepPure_notDefer hR) fun Z K Y ι a w m hl => stepPure_ok (K := K) (J := J K Y Z) hE.ok.T m o (look_ev hl) (stepPure_more (more b) hR)⟩⟩) (ih hp hi2 ?_ (fun q a b => n1 q (by omega) (by omega)))
            rwa [show i + 1 + m = i + (m + 1) by omega]
          · cases hp
        · cases hp
      · rename_i hw
        split at hp
        · rename_i s1 hs1
          obtain ⟨hd, rfl⟩ := pu_of_putS hs1
          refine HG_cons ho hi1 hd (.inr ⟨a1, o, ho, fun b => .inr ⟨hw, rfl⟩⟩) (ih hp hi2 ?_ (fun q a b => n1 q (by omega) (by omega)))
          rwa [show i + 1 + m = i + (m + 1) by omega]
        · cases hp
      · cases hp
    · cases hp
theorem HG_loc (hE : E.Good) {o : Oper} {R : AV} (hl : ∀ b, Loc E ops J (HG h b l) o s R) (ho : ops[i]? = some o) (hi : Nat.ble (i + 1) n = true) (hw : awant ops o s = some true) {s' : Slots} (hs : putS E.N s o.dst R = some s') (h1 : offRange l i 1 = true) (hk : HGW h l E ops J n (i + 1) K s') : HGW h l E ops J n i K s := by
  obtain ⟨hd, rfl⟩ := pu_of_putS hs
  exact HG_cons ho hi hd (.inr ⟨off_not h1 (Nat.le_refl _) (by omega), o, ho, fun b => .inl ⟨hw, LY_of_gives hE (hl b).1 fun Z K Y ι a w m hlk => (hl b).2 Z K Y ι a w m (look_ev hlk)⟩⟩) hk

theorem mem_find {l : Effs} {i k : Nat} {e : Ent} (h : l.find? (fun x => Nat.beq x.1 i) = some (i, k, e)) : (i, k, e) ∈ l := List.mem_of_find?_eq_some h
/-- A new variable. -/
theorem HG_alloc (hE : E.Good) {o : Oper} {k : Nat} {t : TypeId} {ti : TI} {zs : List AV} (hm : l.find? (fun x => Nat.beq x.1 i) = some (i, k, .box t zs)) (ho : ops[i]? = some o) (hi : Nat.ble (i + 1) n = true) (hop : o.op = .alloc t) (hgd : o.guard = none)
    (ht : E.T t = some ti) (hz : litCells ti.zero = some zs) {s' : Slots} (hs : putS E.N s o.dst (.ptr k 0) = some s') (hk : HGW h l E ops J n (i + 1) K s') : HGW h l E ops J n i K s := by
  obtain ⟨hd, rfl⟩ := pu_of_putS hs
  refine HG_cons ho hi hd (.inl ⟨k, _, o, mem_find hm, ho, hgd, fun s1 b hs1 hbi hbk => ?_⟩) hk
  refine opG_of_OW hgd (OW_alloc' hE k (o := o) rfl hop (by simp [awant, hgd]) hbk ht hz (s' := pu s1 o.dst (.ptr k 0)) ?_ (OW_end rfl ⟨rfl, rfl⟩))
  have hd : dstOk E.N o.dst = true := hd
  cases hdd : o.dst with
  | none => rfl
  | some d => rw [hdd] at hd; simp only [dstOk] at hd; simp [putS, hd, pu]
end
end Go.AL
