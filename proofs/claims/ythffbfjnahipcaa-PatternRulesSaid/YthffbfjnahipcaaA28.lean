/- AL, part 28: a region that draws, in whose head a row is begun ('append' to nil) and lengthened once ('append' to it). -/
import Derived.Test.YthffbfjnahipcaaA27
namespace Go.AL
set_option linter.unusedVariables false
set_option linter.unusedSimpArgs false

theorem partsD_in {C : Cx} (hn : Named C) {s : Slots} {a : Act} {sz : Nat} : ∀ (parts : List (Nat × Operand)) (i : Nat) (xs : List (List D)), (∀ p ∈ parts, RA C (ev s p.2) (a.eval p.2)) → partsD s sz i parts = some xs →
    (parts.map fun p => (p.1, a.eval p.2)) = (((parts.map fun p => a.eval p.2).zipIdx i).map fun x => (x.2, x.1)) ∧ (∀ v ∈ parts.map (fun p => a.eval p.2), v.cells.size = sz) ∧
    RDs C.w C.M xs.flatten ((parts.map fun p => a.eval p.2).flatMap fun v => v.cells.toList) ∧ (∀ x ∈ xs, x.length = sz) ∧ xs.length = parts.length
  | [], i, xs, _, h => by simp [partsD] at h; subst h; simp [RDs]
  | (j, x) :: parts, i, xs, hs, h => by
    simp only [partsD] at h
    cases hb : Nat.beq j i && cellsOk (ev s x) && Nat.beq (cellsOf (ev s x)).length sz with
    | false => rw [hb] at h; cases h
    | true =>
      rw [hb] at h
      simp only [cond_true] at h
      simp only [Bool.and_eq_true] at hb
      obtain ⟨⟨b1, b2⟩, b3⟩ := hb
      have e1 := Nat.eq_of_beq_eq_true b1
      have e3 := Nat.eq_of_beq_eq_true b3
      split at h
      · rename_i ds xs' hds hxs
        cases h
        obtain ⟨h1, h2, h3, h4, h5⟩ := partsD_in hn parts (i + 1) xs' (fun p hp => hs p (by simp [hp])) hxs
        have hcx := RA_cells hn b2 (hs (j, x) (by simp))
        have hl := RAs_length hcx
        rw [allD_eq hds] at hcx
        have e4 : ds.length = sz := by rw [allD_eq hds] at e3; simpa using e3
        refine ⟨by simp [h1, e1], ?_, ?_, ?_, by simp [h5]⟩
        · intro v hv
          simp only [List.map_cons, List.mem_cons] at hv
          rcases hv with rfl | hv
          · simp at hl; omega
          · exact h2 v hv
        · simp only [List.flatten_cons, List.map_cons, List.flatMap_cons]
          exact RDs_append (RAs_map_d.1 hcx) h3
        · intro y hy
          rcases List.mem_cons.1 hy with rfl | hy
          · exact e4
          · exact h4 y hy
      · cases h

section
variable {E : Env} {ops : List Oper} {Q : Exit → St → Prop} {i : Nat} {J : Jt} {s : Slots} {h : Heap}
/-- '[]T{..}', not empty, which nobody will write, wherever what it looks at is as told. -/
theorem loc_lits (hE : E.Good) {o : Oper} {t e : TypeId} {len : Nat} {parts : Array (Nat × Operand)} (hop : o.op = .buildSlice t len parts) {z1 z2 : Nat} {z3 : List Value} (ht : E.T t = some ⟨.slice e, z1, z2, z3⟩)
    {k : TK} {sz bts : Nat} {z6 : List Value} (hte : E.T e = some ⟨k, sz, bts, z6⟩) (hpos : Nat.ble 1 sz = true) (hlen : parts.size = len) (hsmall : Nat.ble (len * sz) 16777216 = true) (hbts : Nat.ble (len * bts) 16777216 = true) (hl2 : (Nat.ble 1 len && Nat.ble len 16777216) = true) {xs : List (List D)} (hx : partsD s sz 0 parts.toList = some xs) :
    Loc E ops J h o s (.d (.sl sz bts xs)) := by
  refine ⟨(by rw [hop]; intro c hc; cases hc), fun Z K Y ι a w m hlk => ?_⟩
  obtain ⟨dst, op, ty, pos, af, gd⟩ := o
  simp only at hop
  subst hop
  simp only [Bool.and_eq_true] at hl2
  have hl0 := Nat.le_of_ble_eq_true hl2.1
  have hl := Nat.le_of_ble_eq_true hl2.2
  have hu := (hE.ok.T t _ ht).2
  simp only [TK.fits] at hu
  obtain ⟨⟨ie, hie, hsz, hby, z, hz, hzc⟩, _⟩ := hE.ok.T e _ hte
  simp only at hsz hby hzc
  obtain ⟨h1, h2, h3, h4, h5⟩ := partsD_in (C := cx Z h ι w) m.named (s := s) (a := a) parts.toList 0 xs (fun p hp => hlk p.2 (by simp only [Op.operands, Array.toList_map]; exact List.mem_map_of_mem hp)) hx
  have hpos' : 1 ≤ sz := Nat.le_of_ble_eq_true hpos
  have hsm' := Nat.le_of_ble_eq_true hsmall
  have hb := Nat.le_of_ble_eq_true hbts
  have hxl : xs.length = len := by rw [h5]; simpa using hlen
  have hcs : ((parts.toList.map fun p => a.eval p.2).flatMap fun v => v.cells.toList).length = len * sz := by
    rw [RDs_length h3, flat_len xs h4, hxl]
  have hr : (Instr.buildSlice t len (parts.map fun p => (p.1, a.eval p.2))).run E.P w = .ok (.slice (some ⟨w.heap.size, 0, none⟩) len len) (w.alloc (.cells ((parts.toList.map fun p => a.eval p.2).flatMap fun v => v.cells.toList).toArray e)) := by
    refine run_buildSlice (P := E.P) w t e len _ _ ie z hu hie hz (by rw [hsz]; omega) (by rw [hsz]; intro h; rcases Nat.mul_eq_zero.1 h with h | h <;> omega) ?_
    rw [hsz]
    have hfw := Great.fill_whole (s := sz) hpos' (parts.toList.map fun p => a.eval p.2) ((Array.range (len * sz)).map (z.cells[· % z.cells.size]!)) h2 (by simp [hlen])
    rw [← h1] at hfw
    simpa using hfw
  refine ⟨.slice (some ⟨w.heap.size, 0, none⟩) len len, w.alloc (.cells ((parts.toList.map fun p => a.eval p.2).flatMap fun v => v.cells.toList).toArray e), by simp only [execOp, Sem.run_bind]; rw [hr]; simp, Grew.alloc w _, ?_⟩
  simp only [RA, RD]
  have hn := RC_new m e h3
  refine ⟨_, len, by rw [hxl], by omega, by rw [hxl]; omega, by rw [hxl]; omega, .inr ⟨w.heap.size, 0, rfl, hn.1, ⟨_, _, _, heap_alloc_new w _⟩, RCs_of_flat h4 hn.2⟩⟩
end

/-! ### No key that isn't there is named -/
mutual
theorem RA_nokey {C : Cx} {k : Nat} (hk : ¬ C.dom k) : ∀ (x : AV) (v : Value), RA C x v → nokey k x = true
  | .d x, v => fun _ => by simp [nokey]
  | .any, v => fun _ => by simp [nokey]
  | .agg cs, v => fun hx => by
    simp only [RA] at hx
    obtain ⟨vs, e, h1⟩ := hx
    simpa [nokey] using RAs_nokey hk cs _ h1
  | .tup cs, v => fun hx => by
    simp only [RA] at hx
    obtain ⟨vs, e, h1⟩ := hx
    simpa [nokey] using RAs_nokey hk cs _ h1
  | .fn f a b, v => fun hx => by
    simp only [RA] at hx
    obtain ⟨vf, vc, e, h1, h2⟩ := hx
    simp only [nokey, Bool.and_eq_true]
    exact ⟨RAs_nokey hk a _ h1, RAs_nokey hk b _ h2⟩
  | .ptr j o, v => fun hx => by
    simp only [RA] at hx
    simp only [nokey, Bool.not_eq_true', ← Bool.not_eq_true]
    intro e
    have := Nat.eq_of_beq_eq_true e
    subst this
    exact hk hx.1
  | .row j, v => fun hx => by
    simp only [RA] at hx
    simp only [nokey, Bool.not_eq_true', ← Bool.not_eq_true]
    intro e
    have := Nat.eq_of_beq_eq_true e
    subst this
    exact hk hx.1
theorem RAs_nokey {C : Cx} {k : Nat} (hk : ¬ C.dom k) : ∀ (xs : List AV) (vs : List Value), RAs C xs vs → nokeys k xs = true
  | [], vs => fun _ => by simp [nokeys]
  | x :: xs, vs => fun hx => by
    simp only [RAs] at hx
    obtain ⟨v, t, e, h1, h2⟩ := hx
    simp only [nokeys, Bool.and_eq_true]
    exact ⟨RA_nokey hk x v h1, RAs_nokey hk xs t h2⟩
end
theorem unkS_id {k : Nat} {s : Slots} (h : ∀ i, nokey k (s i) = true) : unkS k s = s := by
  funext i; simp [unkS, unk, h i]

section
variable {E : Env} {ops : List Oper} {Y : Nat → Slots → AV → Prop}
theorem wpAnyIn_of_headR {J : Jt} (H : (Nat → Bool) → Heap) (R : (Nat → Bool) → Slots → (Nat → Value) → Act → Prop) {n g : Nat} {L : Array Bool → Slots → Prop} {Q' : Exit → Act → World → Prop}
    (hop : ∀ i o listed s x, ops[i]? = some o → HeadInv .any ops.toArray n listed → i ∈ Region.ready .any ops.toArray listed → i < n → Y i s x → dstOk E.N o.dst = true → ∀ ι a w, RelS E ⟨J, s, H (bits listed)⟩ ι a w → R (bits listed) s ι a → ∀ (K' : Act → World → Prop),
      (∀ ι' a' w', RelS E ⟨J, pu s o.dst x, H (bits (listed.setIfInBounds i true))⟩ ι' a' w' → R (bits (listed.setIfInBounds i true)) (pu s o.dst x) ι' a' → K' a' w') → wpOpIn E.F E.n E.P ops.toArray Q' i K' a w)
    (hL : ∀ listed s ι a w, RelS E ⟨J, s, H (bits listed)⟩ ι a w → L listed s → wpAnyIn E.F E.n E.P .any ops.toArray Q' g listed a w) :
    ∀ (f : Nat) (listed : Array Bool) (s : Slots) (ι : Nat → Value) (a : Act) (w : World), HeadInv .any ops.toArray n listed → RelS E ⟨J, s, H (bits listed)⟩ ι a w → R (bits listed) s ι a → anyB E ops Y n L f listed s → wpAnyIn E.F E.n E.P .any ops.toArray Q' (f + g) listed a w
  | 0, listed, s, ι, a, w, _, r, _, hh => by rw [Nat.zero_add]; exact hL _ _ _ _ _ r hh
  | f + 1, listed, s, ι, a, w, inv, r, hR, hh => by
    rw [show f + 1 + g = (f + g) + 1 by omega]
    refine ⟨fun h0 => absurd h0 hh.1, fun i hi => ?_⟩
    obtain ⟨hin, hq⟩ := hh.2 i hi
    obtain ⟨_, o, ho, _⟩ := mem_ready.1 hi
    have ho' : ops[i]? = some o := by simpa using ho
    unfold qB at hq
    simp only [ho'] at hq
    obtain ⟨x, h1, h2, h3⟩ := hq
    exact hop i o listed s x ho' inv hi hin h2 h1 ι a w r hR _ fun ι' a' w' r' hR' => wpAnyIn_of_headR H R hop hL f _ _ ι' a' w' (inv.set hi hin) r' hR' h3
end

/-- What the two are: number g1 begins the row of key k, number g2 lengthens it. -/
structure Grow where
  h : Heap
  k : Nat
  g1 : Nat
  g2 : Nat
  d : Tmp
  e : TypeId
  sz : Nat
  bts : Nat
  x1 : Operand
  x2 : Operand
  ys1 : List (List D)
  ys2 : List (List D)
def Grow.h1 (p : Grow) : Heap := hset p.h p.k (some (.row p.e p.sz p.ys1))
def Grow.h2 (p : Grow) : Heap := hset (unkH p.k p.h1) p.k (some (.row p.e p.sz (p.ys1 ++ p.ys2)))
def Grow.H (p : Grow) (b : Nat → Bool) : Heap := bif b p.g2 then p.h2 else bif b p.g1 then p.h1 else p.h
def Grow.Y (p : Grow) (E : Env) (ops : List Oper) (J : Jt) (i : Nat) (s : Slots) (x : AV) : Prop :=
  (i = p.g1 ∧ x = .any ∧ ev s p.x1 = .d (.sl p.sz p.bts p.ys1)) ∨
  (i = p.g2 ∧ x = .row p.k ∧ ev s p.x2 = .d (.sl p.sz p.bts p.ys2)) ∨
  (i ≠ p.g1 ∧ i ≠ p.g2 ∧ nokey p.k x = true ∧ ∃ o, ops[i]? = some o ∧ o.dst ≠ some p.d ∧ ∀ b, YA E ops J (p.H b) o s x)
def Grow.R (p : Grow) (b : Nat → Bool) (s : Slots) (ι : Nat → Value) (a : Act) : Prop :=
  b p.g2 = false → (∀ i, nokey p.k (s i) = true) ∧ (b p.g1 = true → s p.d = .any ∧ a.tmps.getD p.d undef = ι p.k)
def H3W (p : Grow) (E : Env) (ops : List Oper) (J : Jt) (n i : Nat) (K : Slots → Prop) (s : Slots) : Prop := QB E (p.Y E ops J) K ((ops.take n).drop i) i s

section
variable {E : Env} {ops : List Oper} {Q : Exit → St → Prop} {J : Jt} {s : Slots} {h : Heap}

theorem CW_drawn3 (hE : E.Good) (n g1 g2 k : Nat) {id : Nat} (hB : Region.lexTailB .any ops.toArray n = true) {o1 o2 : Oper} {t e : TypeId} {x1 x2 so1 : Operand} {d d2 : Tmp} {ys1 ys2 : List (List D)}
    (ho1 : ops[g1]? = some o1) (hop1 : o1.op = .call ⟨.builtin .append, #[so1, x1], #[t, t]⟩) (hso1 : so1 = .const (.slice none 0 0)) (hgd1 : o1.guard = none) (hd1 : o1.dst = some d) (hn1 : Nat.ble (d + 1) E.N = true)
    (ho2 : ops[g2]? = some o2) (hop2 : o2.op = .call ⟨.builtin .append, #[.tmp d, x2], #[t, t]⟩) (hgd2 : o2.guard = none) (hd2 : o2.dst = some d2) (hn2 : (Nat.ble (d2 + 1) E.N && !Nat.beq d2 d) = true) (hx2 : x2 ≠ .tmp d)
    (haf : (o2.after.any fun e => Region.binds .any e && Nat.beq e.on g1) = true) (hlt : (Nat.ble (g1 + 1) n && Nat.ble (g2 + 1) n && !Nat.beq g1 g2) = true) (hk : h k = none)
    {z1 z2 : Nat} {z3 : List Value} (ht : E.T t = some ⟨.slice e, z1, z2, z3⟩) {kk : TK} {sz bts : Nat} {z6 : List Value} (hte : E.T e = some ⟨kk, sz, bts, z6⟩) (hpos : Nat.ble 1 sz = true) (hnn : ys1.length + ys2.length ≤ 140737488355328) (hbb : (ys1.length + ys2.length) * bts ≤ 140737488355328)
    (hq : H3W ⟨h, k, g1, g2, d, e, sz, bts, x1, x2, ys1, ys2⟩ E ops J n 0 (fun s => OW E ops n Q ⟨J, s, hset (unkH k (hset h k (some (.row e sz ys1)))) k (some (.row e sz (ys1 ++ ys2)))⟩) s) : CW E (.region id ops.toArray true) Q ⟨J, s, h⟩ := fun ι a w r => by
  simp only [Bool.and_eq_true, Bool.not_eq_true'] at hlt hn2
  obtain ⟨⟨hl1, hl2⟩, hne⟩ := hlt
  have hl1 : g1 < n := Nat.le_of_ble_eq_true hl1
  have hl2 : g2 < n := Nat.le_of_ble_eq_true hl2
  have hne : g1 ≠ g2 := fun e => by subst e; simp at hne
  obtain ⟨ed, hem, hed⟩ := Array.any_eq_true'.1 haf
  simp only [Bool.and_eq_true] at hed
  have heon : ed.on = g1 := Nat.eq_of_beq_eq_true hed.2
  let p : Grow := ⟨h, k, g1, g2, d, e, sz, bts, x1, x2, ys1, ys2⟩
  simp only [Region.lexTailB, Bool.and_eq_true, decide_eq_true_eq] at hB
  obtain ⟨⟨⟨⟨hsel, hn⟩, hs⟩, hc⟩, hlex⟩ := hB
  have hn' : n < ops.length := by simpa using hn
  have htl : (ops.take n).length = n := by simp; omega
  have hdl : (ops.drop n).length = ops.toArray.size - n := by simp
  have inv0 : HeadInv .any ops.toArray n (Array.replicate ops.toArray.size false) :=
    ⟨by simp, fun j oj _ hl => (by rw [getD_replicate_false] at hl; cases hl), fun t _ ht => getD_in (by simpa using ht) (getD_replicate_false _ _)⟩
  have hYS : YStable ops (p.Y E ops J) := by
    intro i o s s' x ho hss hy
    rcases hy with ⟨h1, h2, h3⟩ | ⟨h1, h2, h3⟩ | ⟨h1, h2, h2', o', h3, h4, h5⟩
    · have hoo : o = o1 := by
        have h1' : i = g1 := h1
        rw [h1', ho1] at ho; exact (Option.some.inj ho).symm
      subst hoo
      refine .inl ⟨h1, h2, ?_⟩
      rw [← h3]
      refine ev_same fun t' e' => hss t' ?_
      simp only [Oper.looksAt, List.mem_append, List.mem_filterMap]
      refine .inl ⟨.tmp t', ?_, rfl⟩
      rw [hop1]
      have e'' : x1 = .tmp t' := e'
      simp [Op.operands, Call.operands, ← e'']
    · have hoo : o = o2 := by
        have h1' : i = g2 := h1
        rw [h1', ho2] at ho; exact (Option.some.inj ho).symm
      subst hoo
      refine .inr (.inl ⟨h1, h2, ?_⟩)
      rw [← h3]
      refine ev_same fun t' e' => hss t' ?_
      simp only [Oper.looksAt, List.mem_append, List.mem_filterMap]
      refine .inl ⟨.tmp t', ?_, rfl⟩
      rw [hop2]
      have e'' : x2 = .tmp t' := e'
      simp [Op.operands, Call.operands, ← e'']
    · have hoo : o' = o := by rw [ho] at h3; exact (Option.some.inj h3).symm
      subst hoo
      exact .inr (.inr ⟨h1, h2, h2', o', h3, h4, fun b => YA_same hss (h5 b)⟩)
  have H0 := anyB_lex (E := E) (Y := p.Y E ops J) (g := ops.toArray.size - n) hYS hs hc hn (ops.take n) 0 _ s (fun j hj => by
    have hj' : j < n := by rw [htl] at hj; exact hj
    simp [hj']) (by simpa using htl) inv0 (fun j hj => by omega) (by rw [htl]; exact hlex) (by simpa [H3W] using hq)
  have b2 : bits (Array.replicate ops.toArray.size false) g2 = false := getD_replicate_false _ _
  have b1 : bits (Array.replicate ops.toArray.size false) g1 = false := getD_replicate_false _ _
  have hH0 : p.H (bits (Array.replicate ops.toArray.size false)) = h := by
    show (bif bits _ g2 then _ else bif bits _ g1 then _ else _) = h
    rw [b1, b2]; rfl
  have hR0 : p.R (bits (Array.replicate ops.toArray.size false)) s ι a := by
    intro _
    refine ⟨fun i => ?_, fun hb => (by
      have hb' : bits (Array.replicate ops.toArray.size false) g1 = true := hb
      rw [b1] at hb'; cases hb')⟩
    obtain ⟨Z, K, Y, _, r⟩ := r
    exact RA_nokey (C := cx Z h ι w) (k := k) (by show ¬ (h k).isSome = true; rw [hk]; simp) _ _ (r.slot i)
  have r1 : RelS E ⟨J, s, p.H (bits (Array.replicate ops.toArray.size false))⟩ ι a { w with drawn := w.drawn + 1 } := by
    rw [hH0]
    obtain ⟨Z, K, Y, hZE, r⟩ := r
    exact ⟨Z, K, Y, hZE, r.mem.grew (Grew.drew w), r.size, fun i => RA_keeps (keepsC_grew (K := K) (J := J K Y Z) (Grew.drew w)) _ _ (r.slot i), r.ds.grew (Grew.drew w)⟩
  refine wpIn_region_any hE.ok.mixed ?_
  have hh := wpAnyIn_of_headR (Y := p.Y E ops J) (J := J) (Q' := Post E Q) p.H p.R (g := ops.toArray.size - n) (fun i o listed s x ho inv hi hin hy hdo ι a w r hR K' hk' => ?_) (fun listed s ι a' w' r' hL => by
    have hb : bits listed g2 = true := hL.1.2 g2 hl2
    have hH : p.H (bits listed) = p.h2 := by
      show (bif bits listed g2 then _ else _) = _
      rw [hb]; rfl
    rw [hH] at r'
    have := wpAnyIn_of_seq (Q' := Post E Q) (ops.drop n) n listed a' w' (fun j => by simp [List.getElem?_drop]) (by rw [hdl]; exact hL.1.1) (hL.2 ι a' w' r')
    rwa [hdl] at this) _ _ _ ι a _ inv0 r1 hR0 H0
  · rw [htl] at hh
    rwa [show n + (ops.toArray.size - n) = ops.toArray.size by simp; omega] at hh
  · have hun : listed.getD i true = false := (mem_ready.1 hi).1
    have hst' : ∀ j, j ≠ i → bits (listed.setIfInBounds i true) j = bits listed j := fun j hj => getD_set_ne false (Ne.symm hj)
    have hsz : i < listed.size := by
      rw [inv.size]
      have := (List.getElem?_eq_some_iff.1 ho).1
      simpa using this
    have hseti : bits (listed.setIfInBounds i true) i = true := by simp [bits, hsz]
    have hdlt : ∀ {a : Act} {ι w}, RelS E ⟨J, s, p.H (bits listed)⟩ ι a w → a.tmps.size = E.N := fun ⟨Z, K, Y, _, r⟩ => r.size
    rcases hy with ⟨h1, rfl, h3⟩ | ⟨h1, rfl, h3⟩ | ⟨h1, h2, h2', o', h3, h4, h5⟩
    · -- the row begins
      have h1 : i = g1 := h1
      subst h1
      have hoo : o = o1 := by rw [ho1] at ho; exact (Option.some.inj ho).symm
      subst hoo
      have b1 : bits listed i = false := getD_both hun
      have b2 : bits listed g2 = false := by
        cases hb : bits listed g2 with
        | false => rfl
        | true =>
          have := inv.closed g2 o2 (by simpa using ho2) hb ed hem hed.1
          rw [heon] at this
          rw [show listed.getD i false = bits listed i from rfl, b1] at this
          cases this
      have hHb : p.H (bits listed) = h := by
        show (bif bits listed g2 then _ else bif bits listed i then _ else _) = h
        rw [b1, b2]; rfl
      have hHa : p.H (bits (listed.setIfInBounds i true)) = hset h k (some (.row e sz ys1)) := by
        show (bif bits _ g2 then _ else bif bits _ i then _ else _) = _
        rw [hst' g2 (Ne.symm hne), b2, hseti]; rfl
      rw [hHb] at r
      have g := opG_of_OW (E := E) (o := o) (st := ⟨J, s, h⟩) (K := fun st' => st' = ⟨J, pu s o.dst (.row k), Go.AL.hset h k (some (.row e sz ys1))⟩) hgd1
        (OW_appendNil' hE k (o := o) rfl hop1 (by simp [awant, hgd1]) hk ht hte hpos (by rw [hso1]; rfl) (ys := ys1) (.inl h3) (Nat.le_trans (Nat.le_add_right _ _) hnn) (Nat.le_trans (Nat.mul_le_mul_right _ (Nat.le_add_right _ _)) hbb) (s' := pu s o.dst (.row k)) (by rw [hd1]; simp [putS, hn1, pu]) (OW_end rfl ⟨rfl, rfl⟩))
      unfold wpOpIn
      simp only [List.getElem?_toArray, ho]
      rw [if_pos (by simp [Region.wanted, hgd1])]
      refine g ι a w r K' (Post E Q) fun st' ι' a' w' hst r' => ?_
      subst hst
      rw [hd1] at r'
      obtain ⟨Z, K, Y, hZE, r'⟩ := r'
      have hrow : a'.tmps.getD d undef = ι' k := by
        have := r'.slot d
        have hsd : pu s (some d) (.row k) d = .row k := sset_same _ _ _
        rw [show (⟨J, pu s (some d) (.row k), _⟩ : St).s d = _ from hsd] at this
        simp only [RA] at this
        exact this.2
      refine hk' ι' a' w' ?_ ?_
      · rw [hHa, hd1]
        refine ⟨Z, K, Y, hZE, r'.mem, r'.size, fun j => ?_, r'.ds⟩
        by_cases hj : j = d
        · subst hj
          show RA _ (pu s (some j) .any j) _
          rw [show pu s (some j) .any j = .any from sset_same _ _ _]; simp [RA]
        · have := r'.slot j
          show RA _ (pu s (some d) .any j) _
          rw [show pu s (some d) .any j = s j from sset_ne _ _ hj]
          rwa [show (⟨J, pu s (some d) (.row k), _⟩ : St).s j = s j from sset_ne _ _ hj] at this
      · intro _
        rw [hd1]
        refine ⟨fun j => ?_, fun _ => ⟨sset_same _ _ _, hrow⟩⟩
        by_cases hj : j = d
        · subst hj; rw [show pu s (some j) .any j = .any from sset_same _ _ _]; rfl
        · rw [show pu s (some d) .any j = s j from sset_ne _ _ hj]; exact (hR b2).1 j
    · -- it is lengthened
      have h1 : i = g2 := h1
      subst h1
      have hoo : o = o2 := by rw [ho2] at ho; exact (Option.some.inj ho).symm
      subst hoo
      have b2 : bits listed i = false := getD_both hun
      have b1 : bits listed g1 = true := by
        obtain ⟨_, o', ho', hall⟩ := mem_ready.1 hi
        have : o' = o := by
          have h' : ops[i]? = some o' := by simpa using ho'
          rw [ho] at h'; exact (Option.some.inj h').symm
        subst this
        have hl := hall ed hem hed.1
        rw [heon] at hl
        have hlt1 : g1 < listed.size := by rw [inv.size]; have := (List.getElem?_eq_some_iff.1 ho1).1; simpa using this
        simpa [bits, hlt1] using hl
      have hHb : p.H (bits listed) = p.h1 := by
        show (bif bits listed i then _ else bif bits listed g1 then _ else _) = _
        rw [b1, b2]; rfl
      have hHa : p.H (bits (listed.setIfInBounds i true)) = p.h2 := by
        show (bif bits _ i then _ else _) = _
        rw [hseti]; rfl
      rw [hHb] at r
      obtain ⟨hnk, hrr⟩ := hR b2
      obtain ⟨hsd, hrow⟩ := hrr b1
      have hsd : s d = .any := hsd
      have hrow : a.tmps.getD d undef = ι k := hrow
      have r2 : RelS E ⟨J, sset s d (.row k), p.h1⟩ ι a w := by
        obtain ⟨Z, K, Y, hZE, r⟩ := r
        refine ⟨Z, K, Y, hZE, r.mem, r.size, fun j => ?_, r.ds⟩
        by_cases hj : j = d
        · subst hj
          show RA _ (sset s j (.row k) j) _
          rw [sset_same]
          simp only [RA]
          exact ⟨by show (p.h1 k).isSome = true; show (hset h k _ k).isSome = true; rw [hset_same]; rfl, hrow⟩
        · show RA _ (sset s d (.row k) j) _
          rw [sset_ne _ _ hj]; exact r.slot j
      have hunk : unkS k (sset s d (.row k)) = s := by
        funext j
        by_cases hj : j = d
        · subst hj; simp [unkS, unk, sset_same, nokey, hsd]
        · have : nokey k (s j) = true := hnk j
          simp [unkS, unk, sset_ne _ _ hj, this]
      have hev2 : ev (sset s d (.row k)) x2 = .d (.sl sz bts ys2) := by
        rw [ev_same (s := s)]
        · exact h3
        · intro t' e'
          exact sset_ne _ _ fun e'' => hx2 (by rw [e', e''])
      have g := opG_of_OW (E := E) (o := o) (st := ⟨J, sset s d (.row k), p.h1⟩) (K := fun st' => st' = ⟨J, pu s o.dst (.row k), p.h2⟩) hgd2
        (OW_append' hE (key := k) (o := o) rfl hop2 (by simp [awant, hgd2]) ht hte hpos (show ev (sset s d (.row k)) (.tmp d) = .row k from sset_same _ _ _) (show p.h1 k = some (.row e sz ys1) from hset_same _ _ _) (.inl hev2) hnn hbb (s' := pu s o.dst (.row k)) (by rw [hd2, hunk]; simp [putS, hn2.1, pu]) (OW_end rfl ⟨rfl, rfl⟩))
      unfold wpOpIn
      simp only [List.getElem?_toArray, ho]
      rw [if_pos (by simp [Region.wanted, hgd2])]
      refine g ι a w r2 K' (Post E Q) fun st' ι' a' w' hst r' => ?_
      subst hst
      refine hk' ι' a' w' ?_ ?_
      · rw [hHa]; exact r'
      · intro hb
        have : bits (listed.setIfInBounds i true) i = false := hb
        rw [hseti] at this; cases this
    · -- all others
      have hoo : o' = o := by rw [ho] at h3; exact (Option.some.inj h3).symm
      subst hoo
      have hHs : p.H (bits (listed.setIfInBounds i true)) = p.H (bits listed) := by
        show (bif bits _ g2 then _ else bif bits _ g1 then _ else _) = (bif bits _ g2 then _ else bif bits _ g1 then _ else _)
        rw [hst' g2 (Ne.symm h2), hst' g1 (Ne.symm h1)]
      have hRs : ∀ v : Value, p.R (bits (listed.setIfInBounds i true)) (pu s o'.dst x) ι (a.put o'.dst v) := by
        intro v hb
        have hb' : bits listed g2 = false := by
          have : bits (listed.setIfInBounds i true) g2 = false := hb
          rwa [hst' g2 (Ne.symm h2)] at this
        obtain ⟨q1, q2⟩ := hR hb'
        refine ⟨fun j => ?_, fun hb1 => ?_⟩
        · cases hd : o'.dst with
          | none => exact q1 j
          | some dd =>
            by_cases hj : j = dd
            · subst hj; rw [show pu s (some j) x j = x from sset_same _ _ _]; exact h2'
            · rw [show pu s (some dd) x j = s j from sset_ne _ _ hj]; exact q1 j
        · have hb1' : bits listed g1 = true := by
            have : bits (listed.setIfInBounds i true) g1 = true := hb1
            rwa [hst' g1 (Ne.symm h1)] at this
          obtain ⟨q3, q4⟩ := q2 hb1'
          cases hd : o'.dst with
          | none => exact ⟨q3, by simpa [Act.put] using q4⟩
          | some dd =>
            have hdd : dd ≠ d := fun e => h4 (by rw [hd, e])
            refine ⟨by rw [show pu s (some dd) x p.d = s p.d from sset_ne _ _ (Ne.symm hdd)]; exact q3, ?_⟩
            have : (a.put (some dd) v).tmps.getD d undef = a.tmps.getD d undef := by
              simp [Act.put, Array.getD_eq_getD_getElem?, Array.getElem?_setIfInBounds, hdd]
            rw [show p.d = d from rfl, this]; exact q4
      have hya := h5 (bits listed)
      unfold wpOpIn
      simp only [List.getElem?_toArray, ho]
      have hwant := fun {b} (hw : awant ops o' s = some b) => awant_ok (st := ⟨J, s, p.H (bits listed)⟩) r hw
      obtain ⟨Z, K, Y, hZE, r⟩ := r
      have put : ∀ v w', Grew w w' → RA (cx Z (p.H (bits listed)) ι w') x v → RelS E ⟨J, pu s o'.dst x, p.H (bits listed)⟩ ι (a.put o'.dst v) w' := by
        intro v w' hg hv
        cases hd : o'.dst with
        | none => exact ⟨Z, K, Y, hZE, Rel.put_none r hg v⟩
        | some dd => exact ⟨Z, K, Y, hZE, Rel.put r hg (by rw [hd] at hdo; exact hdo) hv⟩
      rcases hya with ⟨hw, hy⟩ | ⟨hw, rfl⟩
      · rw [if_pos (hwant hw)]
        exact hy Z K Y ι a w r.mem (fun t _ => r.slot t) K' (Post E Q) fun v w' hg hv => hk' ι _ w' (by rw [hHs]; exact put v w' hg hv) (hRs v)
      · rw [if_neg (by rw [hwant hw]; simp)]
        exact ⟨fun f _ => hE.wide.fn f, hk' ι _ w (by rw [hHs]; exact put undef w (Grew.refl w) (by simp [RA, RAs, undef])) (hRs undef)⟩

variable {p : Grow} {n i : Nat} {K : Slots → Prop}
theorem H3_cons {o : Oper} (ho : ops[i]? = some o) (hi : Nat.ble (i + 1) n = true) {x : AV} (hd : dstOk E.N o.dst = true) (hy : p.Y E ops J i s x) (hk : H3W p E ops J n (i + 1) K (pu s o.dst x)) : H3W p E ops J n i K s := by
  unfold H3W at *
  have hi' := Nat.le_of_ble_eq_true hi
  obtain ⟨hlt, rfl⟩ := List.getElem?_eq_some_iff.1 ho
  have hlt2 : i < (ops.take n).length := by simp; omega
  rw [List.drop_eq_getElem_cons hlt2, List.getElem_take]
  exact ⟨x, hd, hy, hk⟩
theorem H3_end (hk : K s) : H3W p E ops J n n K s := by
  unfold H3W
  rw [List.drop_eq_nil_of_le (by simp; omega)]
  exact hk
def notDst (d : Tmp) : Option Tmp → Bool
  | none => true
  | some t => !Nat.beq t d
theorem notDst_ne {d : Tmp} {x : Option Tmp} (h : notDst d x = true) : x ≠ some d := by
  intro e; subst e; simp [notDst] at h
/-- A plain operation of the head that looks at no memory of the frame's own. -/
theorem H3_one (hE : E.Good) {o : Oper} {R : AV} (ho : ops[i]? = some o) (hw : awant ops o s = some true) (hR : stepPure E.T noHeap s o.op = some R) (hi : Nat.ble (i + 1) n = true) {s' : Slots} (hs : putS E.N s o.dst R = some s') (hn : (!Nat.beq i p.g1 && !Nat.beq i p.g2 && notDst p.d o.dst && nokey p.k R) = true)
    (hk : H3W p E ops J n (i + 1) K s') : H3W p E ops J n i K s := by
  obtain ⟨hd, rfl⟩ := pu_of_putS hs
  simp only [Bool.and_eq_true, Bool.not_eq_true'] at hn
  exact H3_cons ho hi hd (.inr (.inr ⟨fun e => by rw [e] at hn; simp at hn, fun e => by rw [e] at hn; simp at hn, hn.2, o, ho, notDst_ne hn.1.2, fun b => .inl ⟨hw, LY_of_gives hE (stepPure_notDefer hR) fun Z K Y ι a w m hl => stepPure_ok (K := K) (J := J K Y Z) hE.ok.T m o (look_ev hl) (stepPure_more (h := noHeap) (fun j e hj => by simp [noHeap] at hj) hR)⟩⟩)) hk
theorem H3_loc (hE : E.Good) {o : Oper} {R : AV} (hl : ∀ h, Loc E ops J h o s R) (ho : ops[i]? = some o) (hi : Nat.ble (i + 1) n = true) (hw : awant ops o s = some true) {s' : Slots} (hs : putS E.N s o.dst R = some s') (hn : (!Nat.beq i p.g1 && !Nat.beq i p.g2 && notDst p.d o.dst && nokey p.k R) = true)
    (hk : H3W p E ops J n (i + 1) K s') : H3W p E ops J n i K s := by
  obtain ⟨hd, rfl⟩ := pu_of_putS hs
  simp only [Bool.and_eq_true, Bool.not_eq_true'] at hn
  exact H3_cons ho hi hd (.inr (.inr ⟨fun e => by rw [e] at hn; simp at hn, fun e => by rw [e] at hn; simp at hn, hn.2, o, ho, notDst_ne hn.1.2, fun b => .inl ⟨hw, LY_of_gives hE (hl (p.H b)).1 fun Z K Y ι a w m hlk => (hl (p.H b)).2 Z K Y ι a w m (look_ev hlk)⟩⟩)) hk
theorem H3_begin {o : Oper} (ho : ops[p.g1]? = some o) (hi : Nat.ble (p.g1 + 1) n = true) {s' : Slots} (hs : putS E.N s o.dst .any = some s') (hx : ev s p.x1 = .d (.sl p.sz p.bts p.ys1)) (hk : H3W p E ops J n (p.g1 + 1) K s') : H3W p E ops J n p.g1 K s := by
  obtain ⟨hd, rfl⟩ := pu_of_putS hs
  exact H3_cons ho hi hd (.inl ⟨rfl, rfl, hx⟩) hk
theorem H3_more {o : Oper} (ho : ops[p.g2]? = some o) (hi : Nat.ble (p.g2 + 1) n = true) {s' : Slots} (hs : putS E.N s o.dst (.row p.k) = some s') (hx : ev s p.x2 = .d (.sl p.sz p.bts p.ys2)) (hk : H3W p E ops J n (p.g2 + 1) K s') : H3W p E ops J n p.g2 K s := by
  obtain ⟨hd, rfl⟩ := pu_of_putS hs
  exact H3_cons ho hi hd (.inr (.inl ⟨rfl, rfl, hx⟩)) hk
end
end Go.AL
