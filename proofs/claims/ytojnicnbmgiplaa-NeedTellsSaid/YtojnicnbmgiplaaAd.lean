/- Parts of an abstract logic over the kit's walks, and walks in it: A23, A24, A25, A26, A27, A28, A29. -/
import Derived.Test.YtojnicnbmgiplaaAc
import Derived.Shelf.Spec.SlicesInsertGrow
import Derived.Laws.MakeOwn
import Derived.Laws.BytesArg
/- AL, part 23: a region that draws, in whose head a new variable is laid and written once. -/
namespace Go.AL
set_option linter.unusedVariables false
set_option linter.unusedSimpArgs false

/-- What the pair is: number g1 lays key k, number g2 writes it. -/
structure Pair where
  h : Heap
  k : Nat
  g1 : Nat
  g2 : Nat
  t : TypeId
  sz : Nat
  d : Tmp
  vo : Operand
  zs : List AV
  V : List AV
def Pair.H (p : Pair) (b : Nat → Bool) : Heap := hset p.h p.k (bif b p.g2 then some (.box p.t p.V) else bif b p.g1 then some (.box p.t p.zs) else none)
def Pair.Y (p : Pair) (E : Env) (ops : List Oper) (J : Jt) (i : Nat) (s : Slots) (x : AV) : Prop :=
  (i = p.g1 ∧ x = .ptr p.k 0) ∨
  (i = p.g2 ∧ x = .tup [] ∧ s p.d = .ptr p.k 0 ∧ cellsOf (ev s p.vo) = p.V ∧ cellsOk (ev s p.vo) = true ∧ oneAll p.V = true ∧ Nat.beq p.V.length p.sz = true) ∨
  (i ≠ p.g1 ∧ i ≠ p.g2 ∧ ∃ o, ops[i]? = some o ∧ ∀ b, YA E ops J (p.H b) o s x)
def H2W (p : Pair) (E : Env) (ops : List Oper) (J : Jt) (n i : Nat) (K : Slots → Prop) (s : Slots) : Prop := QB E (p.Y E ops J) K ((ops.take n).drop i) i s

theorem hset_hset (h : Heap) (k : Nat) (a b : Option Ent) : hset (hset h k a) k b = hset h k b := by
  funext i
  by_cases hi : i = k
  · subst hi; rw [hset_same, hset_same]
  · rw [hset_ne _ _ hi, hset_ne _ _ hi, hset_ne _ _ hi]
theorem hset_none {h : Heap} {k : Nat} (hk : h k = none) : hset h k none = h := by
  funext i
  by_cases hi : i = k
  · subst hi; rw [hset_same, hk]
  · rw [hset_ne _ _ hi]
theorem ev_same {s s' : Slots} {x : Operand} (h : ∀ t, x = .tmp t → s' t = s t) : ev s' x = ev s x := by
  cases x <;> first | rfl | exact h _ rfl

section
variable {E : Env} {ops : List Oper} {Q : Exit → St → Prop} {J : Jt} {s : Slots} {h : Heap}

theorem CW_drawn2 (hE : E.Good) (n g1 g2 k : Nat) {id : Nat} (hB : Region.lexTailB .any ops.toArray n = true) {o1 o2 : Oper} {t : TypeId} {ti : TI} {zs V : List AV} {d : Tmp} {vo : Operand}
    (ho1 : ops[g1]? = some o1) (hop1 : o1.op = .alloc t) (hgd1 : o1.guard = none) (hd1 : o1.dst = some d) (hn1 : Nat.ble (d + 1) E.N = true) (ho2 : ops[g2]? = some o2) (hop2 : o2.op = .store t (.tmp d) vo) (hgd2 : o2.guard = none) (hd2 : o2.dst = none)
    (haf : (o2.after.any fun e => Region.binds .any e && Nat.beq e.on g1) = true) (hlt : (Nat.ble (g1 + 1) n && Nat.ble (g2 + 1) n && !Nat.beq g1 g2) = true) (hk : h k = none) (ht : E.T t = some ti) (hz : litCells ti.zero = some zs) (hzl : Nat.beq zs.length ti.size = true)
    (hq : H2W ⟨h, k, g1, g2, t, ti.size, d, vo, zs, V⟩ E ops J n 0 (fun s => OW E ops n Q ⟨J, s, hset h k (some (.box t V))⟩) s) : CW E (.region id ops.toArray true) Q ⟨J, s, h⟩ := fun ι a w r => by
  simp only [Bool.and_eq_true, Bool.not_eq_true'] at hlt
  obtain ⟨⟨hl1, hl2⟩, hne⟩ := hlt
  have hl1 : g1 < n := Nat.le_of_ble_eq_true hl1
  have hl2 : g2 < n := Nat.le_of_ble_eq_true hl2
  have hne : g1 ≠ g2 := fun e => by subst e; simp at hne
  obtain ⟨e, hem, he⟩ := Array.any_eq_true'.1 haf
  simp only [Bool.and_eq_true] at he
  have heon : e.on = g1 := Nat.eq_of_beq_eq_true he.2
  have hzl : zs.length = ti.size := Nat.eq_of_beq_eq_true hzl
  let p : Pair := ⟨h, k, g1, g2, t, ti.size, d, vo, zs, V⟩
  simp only [Region.lexTailB, Bool.and_eq_true, decide_eq_true_eq] at hB
  obtain ⟨⟨⟨⟨hsel, hn⟩, hs⟩, hc⟩, hlex⟩ := hB
  have hn' : n < ops.length := by simpa using hn
  have htl : (ops.take n).length = n := by simp; omega
  have hdl : (ops.drop n).length = ops.toArray.size - n := by simp
  have inv0 : HeadInv .any ops.toArray n (Array.replicate ops.toArray.size false) :=
    ⟨by simp, fun j oj _ hl => (by rw [getD_replicate_false] at hl; cases hl), fun t _ ht => getD_in (by simpa using ht) (getD_replicate_false _ _)⟩
  have hYS : YStable ops (p.Y E ops J) := by
    intro i o s s' x ho hss hy
    rcases hy with hy | ⟨h1, h2, h3, h4, h5, h6⟩ | ⟨h1, h2, o', h3, h4⟩
    · exact .inl hy
    · refine .inr (.inl ?_)
      have hoo : o = o2 := by
        have h1' : i = g2 := h1
        rw [h1', ho2] at ho; exact (Option.some.inj ho).symm
      subst hoo
      have hlook : ∀ t', (Operand.tmp t' = .tmp d ∨ Operand.tmp t' = vo) → t' ∈ o.looksAt ops.toArray := fun t' ht' => by
        simp only [Oper.looksAt, List.mem_append, List.mem_filterMap]
        refine .inl ⟨.tmp t', ?_, rfl⟩
        rw [hop2]
        rcases ht' with h | h
        · rw [h]; simp [Op.operands]
        · rw [h]; simp [Op.operands]
      have e1 : s' d = s d := hss d (hlook d (.inl rfl))
      have e2 : ev s' vo = ev s vo := ev_same fun t' e => hss t' (hlook t' (.inr e.symm))
      refine ⟨h1, h2, ?_, ?_, ?_, h6⟩
      · show s' d = _; rw [e1]; exact h3
      · show cellsOf (ev s' vo) = _; rw [e2]; exact h4
      · show cellsOk (ev s' vo) = _; rw [e2]; exact h5
    · have hoo : o' = o := by rw [ho] at h3; exact (Option.some.inj h3).symm
      subst hoo
      exact .inr (.inr ⟨h1, h2, o', h3, fun b => YA_same hss (h4 b)⟩)
  have H0 := anyB_lex (E := E) (Y := p.Y E ops J) (g := ops.toArray.size - n) hYS hs hc hn (ops.take n) 0 _ s (fun j hj => by
    have hj' : j < n := by rw [htl] at hj; exact hj
    simp [hj']) (by simpa using htl) inv0 (fun j hj => by omega) (by rw [htl]; exact hlex) (by simpa [H2W] using hq)
  have hH0 : p.H (bits (Array.replicate ops.toArray.size false)) = h := by
    have b1 : bits (Array.replicate ops.toArray.size false) g2 = false := getD_replicate_false _ _
    have b2 : bits (Array.replicate ops.toArray.size false) g1 = false := getD_replicate_false _ _
    show hset h k (bif bits _ g2 then _ else bif bits _ g1 then _ else none) = h
    rw [b1, b2]; exact hset_none hk
  have r1 : RelS E ⟨J, s, p.H (bits (Array.replicate ops.toArray.size false))⟩ ι a { w with drawn := w.drawn + 1 } := by
    rw [hH0]
    obtain ⟨Z, K, Y, hZE, r⟩ := r
    exact ⟨Z, K, Y, hZE, r.mem.grew (Grew.drew w), r.size, fun i => RA_keeps (keepsC_grew (K := K) (J := J K Y Z) (Grew.drew w)) _ _ (r.slot i), r.ds.grew (Grew.drew w)⟩
  refine wpIn_region_any hE.ok.mixed ?_
  have hh := wpAnyIn_of_headB (Y := p.Y E ops J) (J := J) (Q' := Post E Q) p.H (g := ops.toArray.size - n) (fun i o listed s x ho inv hi hin hy hdo ι a w r K' hk' => ?_) (fun listed s ι a' w' r' hL => by
    have hb : bits listed g2 = true := hL.1.2 g2 hl2
    have hH : p.H (bits listed) = hset h k (some (.box t V)) := by
      show hset h k (bif bits listed g2 then _ else _) = _
      rw [hb]; rfl
    rw [hH] at r'
    have := wpAnyIn_of_seq (Q' := Post E Q) (ops.drop n) n listed a' w' (fun j => by simp [List.getElem?_drop]) (by rw [hdl]; exact hL.1.1) (hL.2 ι a' w' r')
    rwa [hdl] at this) _ _ _ ι a _ inv0 r1 H0
  · rw [htl] at hh
    rwa [show n + (ops.toArray.size - n) = ops.toArray.size by simp; omega] at hh
  · have hun : listed.getD i true = false := (mem_ready.1 hi).1
    have hst' : ∀ j, j ≠ i → bits (listed.setIfInBounds i true) j = bits listed j := fun j hj => getD_set_ne false (Ne.symm hj)
    have hsz : i < listed.size := by
      rw [inv.size]
      have := (List.getElem?_eq_some_iff.1 ho).1
      simpa using this
    have hseti : bits (listed.setIfInBounds i true) i = true := by simp [bits, hsz]
    rcases hy with ⟨h1, rfl⟩ | ⟨h1, rfl, h3, h4, h5, h6, h7⟩ | ⟨h1, h2, o', h3, h4⟩
    · have h1 : i = g1 := h1
      subst h1
      have hoo : o = o1 := by rw [ho1] at ho; exact (Option.some.inj ho).symm
      subst hoo
      have b1 : bits listed i = false := getD_both hun
      have b2 : bits listed g2 = false := by
        cases hb : bits listed g2 with
        | false => rfl
        | true =>
          have := inv.closed g2 o2 (by simpa using ho2) hb e hem he.1
          rw [heon] at this
          rw [show listed.getD i false = bits listed i from rfl, b1] at this
          cases this
      have hHb : p.H (bits listed) = h := by
        show hset h k (bif bits listed g2 then _ else bif bits listed i then _ else none) = h
        rw [b1, b2]; exact hset_none hk
      have hHa : p.H (bits (listed.setIfInBounds i true)) = hset h k (some (.box t zs)) := by
        show hset h k (bif bits _ g2 then _ else bif bits _ i then _ else none) = _
        rw [hst' g2 (Ne.symm hne), b2, hseti]; rfl
      rw [hHb] at r
      have g := opG_of_OW (E := E) (o := o) (st := ⟨J, s, h⟩) (K := fun st' => st' = ⟨J, pu s o.dst (.ptr k 0), Go.AL.hset h k (some (.box t zs))⟩) hgd1
        (OW_alloc' hE k (o := o) rfl hop1 (by simp [awant, hgd1]) hk ht hz (s' := pu s o.dst (.ptr k 0)) (by rw [hd1]; simp [putS, hn1, pu]) (OW_end rfl ⟨rfl, rfl⟩))
      unfold wpOpIn
      simp only [List.getElem?_toArray, ho]
      rw [if_pos (by simp [Region.wanted, hgd1])]
      refine g ι a w r K' (Post E Q) fun st' ι' a' w' hst r' => ?_
      subst hst
      refine hk' ι' a' w' ?_
      rw [hHa]; exact r'
    · have h1 : i = g2 := h1
      subst h1
      have hoo : o = o2 := by rw [ho2] at ho; exact (Option.some.inj ho).symm
      subst hoo
      have b2 : bits listed i = false := getD_both hun
      have b1 : bits listed g1 = true := by
        obtain ⟨_, o', ho', hall⟩ := mem_ready.1 hi
        have : o' = o := by
          have h' : ops[i]? = some o' := by simpa using ho'
          rw [ho] at h'; exact (Option.some.inj h').symm
        subst this
        have hl := hall e hem he.1
        rw [heon] at hl
        have hlt1 : g1 < listed.size := by rw [inv.size]; have := (List.getElem?_eq_some_iff.1 ho1).1; simpa using this
        simpa [bits, hlt1] using hl
      have hHb : p.H (bits listed) = hset h k (some (.box t zs)) := by
        show Go.AL.hset h k (bif bits listed i then _ else bif bits listed g1 then _ else none) = _
        rw [b1, b2]; rfl
      have hHa : p.H (bits (listed.setIfInBounds i true)) = hset h k (some (.box t V)) := by
        show Go.AL.hset h k (bif bits _ i then _ else _) = _
        rw [hseti]; rfl
      rw [hHb] at r
      have hVl : V.length = ti.size := Nat.eq_of_beq_eq_true h7
      have how : overwrite zs 0 V = V := by
        simp [overwrite, hzl, hVl]
      have g := opG_of_OW (E := E) (o := o) (st := ⟨J, s, Go.AL.hset h k (some (.box t zs))⟩) (K := fun st' => st' = ⟨J, s, Go.AL.hset h k (some (.box t V))⟩) hgd2
        (OW_store' hE (o := o) rfl hop2 (by simp [awant, hgd2]) hd2 ht (k := k) (off := 0) h3 (bt := t) (cs := zs) (vs := V) (hset_same _ _ _) h4 h5 h6 h7 (Nat.ble_eq_true_of_le (by omega)) (OW_end rfl ⟨rfl, by rw [hset_hset, how]⟩))
      unfold wpOpIn
      simp only [List.getElem?_toArray, ho]
      rw [if_pos (by simp [Region.wanted, hgd2])]
      refine g ι a w r K' (Post E Q) fun st' ι' a' w' hst r' => ?_
      subst hst
      refine hk' ι' a' w' ?_
      rw [hHa, hd2]; exact r'
    · have hoo : o' = o := by rw [ho] at h3; exact (Option.some.inj h3).symm
      subst hoo
      have hHs : p.H (bits (listed.setIfInBounds i true)) = p.H (bits listed) := by
        show Go.AL.hset h k (bif bits _ g2 then _ else bif bits _ g1 then _ else none) = Go.AL.hset h k _
        rw [hst' g2 (Ne.symm h2), hst' g1 (Ne.symm h1)]
      refine wpOpIn_of_qA (J := J) (h := p.H (bits listed)) (K := fun s' => s' = pu s o'.dst x) hE r (fun s' a' w' r' hs' => ?_) ?_
      · subst hs'
        refine hk' ι a' w' ?_
        rw [hHs]; exact r'
      · unfold qA
        simp only [ho]
        exact ⟨x, hdo, h4 _, rfl⟩

variable {p : Pair} {n i : Nat} {K : Slots → Prop}
theorem H2_cons {o : Oper} (ho : ops[i]? = some o) (hi : Nat.ble (i + 1) n = true) {x : AV} (hd : dstOk E.N o.dst = true) (hy : p.Y E ops J i s x) (hk : H2W p E ops J n (i + 1) K (pu s o.dst x)) : H2W p E ops J n i K s := by
  unfold H2W at *
  have hi' := Nat.le_of_ble_eq_true hi
  obtain ⟨hlt, rfl⟩ := List.getElem?_eq_some_iff.1 ho
  have hlt2 : i < (ops.take n).length := by simp; omega
  rw [List.drop_eq_getElem_cons hlt2, List.getElem_take]
  exact ⟨x, hd, hy, hk⟩
theorem H2_end (hk : K s) : H2W p E ops J n n K s := by
  unfold H2W
  rw [List.drop_eq_nil_of_le (by simp; omega)]
  exact hk
theorem stepLen_more {T : Nat → Option TI} {h h' : Heap} (hm : ∀ j e, h j = some e → h' j = some e) {t : TypeId} {X R : AV} (hp : stepLen T h t X = some R) : stepLen T h' t X = some R := by
  cases X with
  | row k =>
    cases ht : T t with
    | none => simp [stepLen, ht] at hp
    | some ti =>
      obtain ⟨kk, a, b, c⟩ := ti
      cases kk with
      | slice e =>
        simp only [stepLen, ht] at hp ⊢
        cases hk : h k with
        | none => rw [hk] at hp; cases hp
        | some e => rw [hk] at hp; rw [hm k e hk]; exact hp
      | _ => simp [stepLen, ht] at hp
  | d x =>
    unfold stepLen at hp ⊢
    split at hp <;> simp_all
  | _ =>
    unfold stepLen at hp ⊢
    split at hp <;> simp_all
theorem stepPure_more {T : Nat → Option TI} {h h' : Heap} (hm : ∀ j e, h j = some e → h' j = some e) {s : Slots} {op : Op} {R : AV} (hp : stepPure T h s op = some R) : stepPure T h' s op = some R := by
  cases op with
  | load t x =>
    simp only [stepPure] at hp ⊢
    cases ht : T t with
    | none => rw [ht] at hp; cases hp
    | some ti =>
      rw [ht] at hp
      simp only at hp ⊢
      cases he : ev s x with
      | ptr k o =>
        rw [he] at hp
        simp only at hp ⊢
        cases hk : h k with
        | none => rw [hk] at hp; cases hp
        | some e => rw [hk] at hp; rw [hm k e hk]; exact hp
      | d x => rw [he] at hp; cases x <;> exact hp
      | _ => rw [he] at hp; exact hp
  | call c =>
    obtain ⟨cal, args, ts⟩ := c
    cases cal with
    | builtin bi =>
      cases bi with
      | len =>
        simp only [stepPure] at hp ⊢
        split at hp
        · rename_i h1 h2
          exact stepLen_more hm hp
        · cases hp
      | _ => exact hp
    | _ => exact hp
  | _ => exact hp
/-- m plain operations of the head. -/
theorem H2_run (hE : E.Good) (m : Nat) {s' : Slots} (hpk : p.h p.k = none) (hp : runPure E ops p.h m i s = some s') (hi : Nat.ble (i + m) n = true) (h1 : (Nat.ble (i + m) p.g1 || Nat.ble (p.g1 + 1) i) = true) (h2 : (Nat.ble (i + m) p.g2 || Nat.ble (p.g2 + 1) i) = true)
    (hk : H2W p E ops J n (i + m) K s') : H2W p E ops J n i K s := by
  have more : ∀ b j e, p.h j = some e → p.H b j = some e := fun b j e hj => by
    have hne : j ≠ p.k := by intro h; rw [h, hpk] at hj; cases hj
    show hset p.h p.k _ j = _
    rw [hset_ne _ _ hne]; exact hj
  simp only [Bool.or_eq_true] at h1 h2
  have n1 : ∀ q, i ≤ q → q < i + m → q ≠ p.g1 := fun q a b e => by
    rcases h1 with h | h <;> have := Nat.le_of_ble_eq_true h <;> omega
  have n2 : ∀ q, i ≤ q → q < i + m → q ≠ p.g2 := fun q a b e => by
    rcases h2 with h | h <;> have := Nat.le_of_ble_eq_true h <;> omega
  clear h1 h2
  induction m generalizing i s with
  | zero => simp only [runPure, Option.some.injEq] at hp; subst hp; exact hk
  | succ m ih =>
    have hi' := Nat.le_of_ble_eq_true hi
    have hi1 : Nat.ble (i + 1) n = true := Nat.ble_eq_true_of_le (by omega)
    have hi2 : Nat.ble (i + 1 + m) n = true := Nat.ble_eq_true_of_le (by omega)
    have a1 := n1 i (Nat.le_refl _) (by omega)
    have a2 := n2 i (Nat.le_refl _) (by omega)
    simp only [runPure] at hp
    split at hp
    · rename_i o ho
      split at hp
      · rename_i hw
        split at hp
        · rename_i R hR
          split at hp
          · rename_i s1 hs1
            obtain ⟨hd, rfl⟩ := pu_of_putS hs1
            refine H2_cons ho hi1 hd (.inr (.inr ⟨a1, a2, o, ho, fun b => .inl ⟨hw, LY_of_gives hE (stepPure_notDefer hR) fun Z K Y ι a w m hl => stepPure_ok (K := K) (J := J K Y Z) hE.ok.T m o (look_ev hl) (stepPure_more (more b) hR)⟩⟩)) (ih hp hi2 ?_ (fun q a b => n1 q (by omega) (by omega)) (fun q a b => n2 q (by omega) (by omega)))
            rwa [show i + 1 + m = i + (m + 1) by omega]
          · cases hp
        · cases hp
      · rename_i hw
        split at hp
        · rename_i s1 hs1
          obtain ⟨hd, rfl⟩ := pu_of_putS hs1
          refine H2_cons ho hi1 hd (.inr (.inr ⟨a1, a2, o, ho, fun b => .inr ⟨hw, rfl⟩⟩)) (ih hp hi2 ?_ (fun q a b => n1 q (by omega) (by omega)) (fun q a b => n2 q (by omega) (by omega)))
          rwa [show i + 1 + m = i + (m + 1) by omega]
        · cases hp
      · cases hp
    · cases hp
theorem H2_call (hE : E.Good) {f : Nat} {L : List AV} {R : AV} (hc : Does E.P f L noHeap R) {s' : Slots} {o : Oper} {fo : Operand} {args : Array Operand} {ts : Array TypeId} (ho : ops[i]? = some o) (hi : Nat.ble (i + 1) n = true) (hop : o.op = .call ⟨.value fo, args, ts⟩)
    (hw : awant ops o s = some true) (hL : callArgs s fo args.toList = some (f, L)) (hkf : kfs L = true) (hR : kf R = true) (hs : putS E.N s o.dst R = some s') (hn : (!Nat.beq i p.g1 && !Nat.beq i p.g2) = true) (hk : H2W p E ops J n (i + 1) K s') : H2W p E ops J n i K s := by
  obtain ⟨hd, rfl⟩ := pu_of_putS hs
  simp only [Bool.and_eq_true, Bool.not_eq_true'] at hn
  exact H2_cons ho hi hd (.inr (.inr ⟨fun e => by rw [e] at hn; simp at hn, fun e => by rw [e] at hn; simp at hn, o, ho, fun b => .inl ⟨hw, LY_call hE hc hop hL hkf hR⟩⟩)) hk
theorem H2_loc (hE : E.Good) {o : Oper} {R : AV} (hl : ∀ b, Loc E ops J (p.H b) o s R) (ho : ops[i]? = some o) (hi : Nat.ble (i + 1) n = true) (hw : awant ops o s = some true) {s' : Slots} (hs : putS E.N s o.dst R = some s') (hn : (!Nat.beq i p.g1 && !Nat.beq i p.g2) = true) (hk : H2W p E ops J n (i + 1) K s') : H2W p E ops J n i K s := by
  obtain ⟨hd, rfl⟩ := pu_of_putS hs
  simp only [Bool.and_eq_true, Bool.not_eq_true'] at hn
  exact H2_cons ho hi hd (.inr (.inr ⟨fun e => by rw [e] at hn; simp at hn, fun e => by rw [e] at hn; simp at hn, o, ho, fun b => .inl ⟨hw, LY_of_gives hE (hl b).1 fun Z K Y ι a w m hlk => (hl b).2 Z K Y ι a w m (look_ev hlk)⟩⟩)) hk
theorem H2_alloc {o : Oper} (ho : ops[p.g1]? = some o) (hi : Nat.ble (p.g1 + 1) n = true) {s' : Slots} (hs : putS E.N s o.dst (.ptr p.k 0) = some s') (hk : H2W p E ops J n (p.g1 + 1) K s') : H2W p E ops J n p.g1 K s := by
  obtain ⟨hd, rfl⟩ := pu_of_putS hs
  exact H2_cons ho hi hd (.inl ⟨rfl, rfl⟩) hk
theorem H2_store {o : Oper} (ho : ops[p.g2]? = some o) (hi : Nat.ble (p.g2 + 1) n = true) (hd : o.dst = none) (hp : s p.d = .ptr p.k 0) (hv : cellsOf (ev s p.vo) = p.V) (hc : cellsOk (ev s p.vo) = true) (h1 : oneAll p.V = true) (hl : Nat.beq p.V.length p.sz = true) (hk : H2W p E ops J n (p.g2 + 1) K s) : H2W p E ops J n p.g2 K s := by
  refine H2_cons ho hi (x := .tup []) (by rw [hd]; rfl) (.inr (.inl ⟨rfl, rfl, hp, hv, hc, h1, hl⟩)) ?_
  rw [hd]; exact hk
end
end Go.AL
/- AL, part 24: a range over a function whose rounds keep the heap as told. -/
namespace Go.AL
set_option linter.unusedVariables false
set_option linter.unusedSimpArgs false

theorem hset_comm (h : Heap) {k k' : Nat} (hk : k ≠ k') (a b : Option Ent) : hset (hset h k a) k' b = hset (hset h k' b) k a := by
  funext i
  by_cases h1 : i = k'
  · subst h1; rw [hset_same, hset_ne _ _ (Ne.symm hk), hset_same]
  · rw [hset_ne _ _ h1]
    by_cases h2 : i = k
    · subst h2; rw [hset_same, hset_same]
    · rw [hset_ne _ _ h2, hset_ne _ _ h2, hset_ne _ _ h1]
theorem CW_rangeH {E : Env} {Q : Exit → St → Prop} {J : Jt} {s : Slots} {h : Heap} (hE : E.Good) (hF : E.F = Fence.wide) {g : Operand} {ps : Array Tmp} {assign body : Code} {f : Nat} {first cap : List AV} {ys : List (List AV)} (hI : Iter E.P f first cap ys)
    (hg : fnOf (ev s g) = some (f, first, cap)) (hkf : kfs first = true) (hkc : kfs cap = true) (hks : ∀ y ∈ ys, kfs y = true ∧ y.length = ps.size) (hps : ps.toList.all (fun p => Nat.ble (p + 1) E.N) = true) (G : Nat)
    (hp : Nat → Heap) (P : Nat → Prop) (h0 : h = hp 0) (hG : ∀ i, hp i G = none) (P0 : P 0)
    (hbody : ∀ F n Z Br Bb, (⟨E.P, E.T, F, n, Z, E.N⟩ : Env).Good → (∀ W, Wrap E.Z W → Wrap Z (fun J => Bb (W J))) → ∀ vs i args, ys[i]? = some args → P i →
      CW ⟨E.P, E.T, F, n, Z, E.N⟩ assign (asgQ ⟨E.P, E.T, F, n, Z, E.N⟩ Br Bb J body (bodyQ ⟨E.P, E.T, F, n, Z, E.N⟩ Bb J G vs (fun J' h' => J' = J ∧ h' = hset (hp (i + 1)) G (some (.ghost (slotsL E.N s) vs)) ∧ P (i + 1)) Q))
        ⟨Br J, psets ps.toList args (listS (slotsL E.N s)), hset (hp i) G (some (.ghost (slotsL E.N s) vs))⟩)
    (hdone : P ys.length → ∀ vs, Q .normal ⟨J, listS (slotsL E.N s), hset (hp ys.length) G (some (.ghost (slotsL E.N s) vs))⟩) : CW E (.rangeFunc g ps assign body) Q ⟨J, s, h⟩ := by
  refine CW_rangeFunc (st := ⟨J, s, h⟩) hE hF hI hg hkf hkc hks hps G (by rw [h0]; exact hG 0) (fun vs i J' h' => J' = J ∧ h' = hset (hp i) G (some (.ghost (slotsL E.N s) vs)) ∧ P i) ?_ ?_ ?_ ?_
  · rintro vs i J' h' ⟨rfl, rfl, _⟩
    exact ⟨fun hm => hm, hset_same _ _ _⟩
  · exact fun vs => ⟨rfl, by rw [h0], P0⟩
  · rintro F n Z Br Bb hE' hW vs i J' h' args ha ⟨rfl, rfl, hP⟩
    exact hbody F n Z Br Bb hE' hW vs i args ha hP
  · rintro vs J' h' ⟨rfl, rfl, hP⟩
    exact hdone hP vs
end Go.AL
/- AL, part 25: functions that hand over a new row of their own, and 'Insert' into a row of the frame's own. -/
namespace Go.AL
set_option linter.unusedVariables false
set_option linter.unusedSimpArgs false

def oneRow (e : TypeId) (sz : Nat) (ys : List (List D)) : Heap := hset noHeap 0 (some (.row e sz ys))
theorem dom_oneRow {e : TypeId} {sz : Nat} {ys : List (List D)} {k : Nat} (h : dom (oneRow e sz ys) k) : k = 0 := by
  by_cases hk : k = 0
  · exact hk
  · simp only [dom, oneRow, hset_ne noHeap _ hk] at h
    simp [noHeap] at h

/-- What is owed where a function ends that hands over a new row. -/
def RetRow (T : Nat → Option TI) (fn : Func) (J : Jt) (e : TypeId) (sz : Nat) (ys : List (List D)) : Exit → St → Prop := fun x st =>
  (x = .normal ∨ x = .ret) ∧ st.J = J ∧ ∃ k, aresults T st.h st.s fn.results.toList = some [.row k] ∧ st.h k = some (.row e sz ys)

theorem Does_ofRow {P : Program} {T : Nat → Option TI} (hT : TOk P T) (hm : P.follows .mixedOrders = true) {f : Nat} {fn : Func} {c : Code} {args : List AV} {e : TypeId} {sz : Nat} {ys : List (List D)} (hf : P.funcs[f]? = some fn) (hb : fn.body = some c) (hn : (fn.name == "runtime.NumGoroutine") = false)
    {N : Nat} (hN : fn.ntmps = N) (hl : Nat.ble args.length N = true)
    (h : ∀ F n Z, (⟨P, T, F, n, Z, N⟩ : Env).Good → F = Fence.wide → ∀ J, CW ⟨P, T, F, n, Z, N⟩ c (RetRow T fn J e sz ys) ⟨J, argSlots args 0, noHeap⟩) : Does P f args (oneRow e sz ys) (.row 0) := by
  subst hN
  refine ⟨⟨fn, hf, hn, by rw [hb]; rfl⟩, fun n Z w vs hZ hv => ?_⟩
  let E : Env := ⟨P, T, Fence.wide, n, Z, fn.ntmps⟩
  have hE : E.Good := ⟨⟨hT, fun f => trivial, rfl, hm⟩, .inl rfl⟩
  refine callsIn_of_wp_marks hf hb trivial (wpIn_mono (h _ _ _ hE rfl (grewJ w) noι _ w ?_) ?_) rfl
  · exact ⟨Z, fun b => b < w.heap.size, fun _ => False, ⟨fun b hb => hb, fun _ hb => hb.elim, mono_grew w⟩, rel_begin hZ (fun b hb => hb) ⟨Grew.refl w, fun b hb => hb⟩ ((mono_grew w).closed (fun b => b < w.heap.size) (fun _ => False) Z) hv hl⟩
  · rintro x a' w' ⟨st, ι, ⟨he, hJ, k, hRs, hk⟩, Z', K, Y, hZE, r⟩
    have goal : LeavesInM Fence.wide n P fn a'.tmps (fun x w' => ∃ v ι, x = .returned v ∧ Grew w w' ∧ RA (cx Z (oneRow e sz ys) ι w') (.row 0) v ∧ Own Z w.heap.size (oneRow e sz ys) ι w') a'.defers .returning w' := by
      refine leaves_marks r fun w1 r1 => ?_
      have hg : Grew w w1 ∧ ∀ b, b < w.heap.size → K b := by have := r1.mem.Jw; rw [hJ] at this; exact this
      obtain ⟨v, g1, g2⟩ := results_ok hT r1 hRs
      have g3 : dom st.h k ∧ v = ι k := by simpa only [packR, RA] using g2
      obtain ⟨us, f1, f2, f3, f4⟩ := r1.mem.ent k _ hk
      refine ⟨v, g1, v, fun _ => v, rfl, hg.1, ?_, ⟨fun j e' hj => ?_, fun j b hj hjb => ?_, fun j j' b hj hj' _ _ => (dom_oneRow hj).trans (dom_oneRow hj').symm⟩⟩
      · simp only [RA]
        exact ⟨by show (oneRow e sz ys 0).isSome = true; simp [oneRow, hset], trivial⟩
      · have hj0 := dom_oneRow (k := j) (by show (oneRow e sz ys j).isSome = true; rw [hj]; rfl)
        subst hj0
        have : e' = .row e sz ys := by simpa [oneRow, hset] using hj.symm
        subst this
        rw [g3.2]
        refine ⟨us, f1, RDs_keeps (w := w1) (M := (cx Z' st.h ι w1).M) ⟨fun _ _ _ _ hh => hh, fun _ _ hh => hh, fun b _ hm hm' => ?_⟩ _ _ f2, f3, f4⟩
        rcases hm' with hm' | ⟨j, hj, hjb⟩
        · exact hm (.inl (hZE.1 b hm'))
        · exact hm (.inr ⟨k, g3.1, hjb⟩)
      · have hjb' : blk (ι k) = some b := by rw [← g3.2]; exact hjb
        have ho := r1.mem.own k b g3.1 hjb'
        exact ⟨fun hz => ho.1 (hZE.1 b hz), Nat.le_of_not_lt fun hlt => ho.2.1 (hg.2 b hlt), ho.2.2⟩
    rcases he with rfl | rfl
    · exact goal
    · exact goal

section
variable {E : Env} {ops : List Oper} {Q : Exit → St → Prop} {i : Nat} {J : Jt} {s : Slots} {h : Heap}

/-- A call that hands over a new row. -/
theorem OW_callRow' (hE : E.Good) (key : Nat) {f : Nat} {L : List AV} {e : TypeId} {sz : Nat} {ys : List (List D)} (hc : Does E.P f L (oneRow e sz ys) (.row 0)) {o : Oper} {fo : Operand} {args : Array Operand} {ts : Array TypeId} (ho : ops[i]? = some o) (hop : o.op = .call ⟨.value fo, args, ts⟩) (hw : awant ops o s = some true)
    (hL : callArgs s fo args.toList = some (f, L)) (hk : kfs L = true) (hkey : h key = none) {s' : Slots} (hs : putS E.N s o.dst (.row key) = some s') (hk' : OW E ops (i + 1) Q ⟨J, s', hset h key (some (.row e sz ys))⟩) : OW E ops i Q ⟨J, s, h⟩ := fun ι a w r => by
  have hd : ops.drop i = o :: ops.drop (i + 1) := by
    obtain ⟨hlt, rfl⟩ := List.getElem?_eq_some_iff.1 ho
    exact List.drop_eq_getElem_cons hlt
  rw [hd]
  simp only [wpListIn]
  rw [if_pos (awant_ok r hw)]
  refine ⟨fun f _ => hE.wide.fn f, ?_⟩
  rw [Oper.semAt_plain E.F _ _ (by rw [hop]; intro c hc; cases hc)]
  obtain ⟨Z, K, Y, hZE, r⟩ := r
  obtain ⟨vf, vc, he, hv⟩ := call_args hL r.slot
  obtain ⟨dst, op, ty, pos, af, gd⟩ := o
  simp only at hop hs
  subst hop
  rw [exec_call he hc.1]
  simp only [Oper.uponIn]
  refine ⟨fun hx => (by rw [hE.wide.depth] at hx; cases hx), ?_⟩
  have hZ : ∀ b, (cx Z h ι w).M b → b < w.heap.size := fun b hb => r.mem.Mlt hb
  have hv' : RAs (cx (cx Z h ι w).M noHeap noι w) L (vf ++ args.map a.eval ++ vc).toList :=
    RAs_kf (C := cx Z h ι w) (C' := cx (cx Z h ι w).M noHeap noι w) ⟨fun _ _ _ _ hh => hh, fun _ _ hh => hh, fun b _ hm hm' => by rw [M_of] at hm'; exact hm hm'⟩ _ _ hk hv
  have := hc.2 (E.n - 1) (cx Z h ι w).M w _ hZ hv'
  simp only [Array.toArray_toList] at this
  refine (hE.wide.calls this).mono fun x w' ⟨v, ι', he', hg, hRv, hown⟩ => ?_
  subst he'
  show wpListIn _ _ _ _ _ _ _ _
  have hd0 : dom (oneRow e sz ys) 0 := by show (oneRow e sz ys 0).isSome = true; simp [oneRow, hset]
  have hv0 : v = ι' 0 := by simp only [RA] at hRv; exact hRv.2
  have hnew : ∀ b, blk v = some b → w.heap.size ≤ b ∧ b < w'.heap.size := fun b hb => by
    have := hown.own 0 b hd0 (by rw [← hv0]; exact hb)
    exact ⟨this.2.1, this.2.2⟩
  obtain ⟨us, f1, f2, f3, f4⟩ := hown.ent 0 (.row e sz ys) (by simp [oneRow, hset])
  have hent : EntOk (cx Z (hset h key (some (.row e sz ys))) (fun j => bif Nat.beq j key then v else ι j) w') (.row e sz ys) v := by
    rw [hv0]
    refine ⟨us, f1, RDs_keeps (w := w') (M := (cx (cx Z h ι w).M (oneRow e sz ys) ι' w').M) ⟨fun _ _ _ _ hh => hh, fun _ _ hh => hh, fun b _ hm hm' => ?_⟩ _ _ f2, f3, f4⟩
    rcases hm' with hz | ⟨j, hj, hjb⟩
    · exact hm (.inl (.inl hz))
    · by_cases hjk : j = key
      · subst hjk
        simp at hjb
        exact hm (.inr ⟨0, hd0, hjb⟩)
      · have hbq : Nat.beq j key = false := Bool.eq_false_iff.2 fun h' => hjk (Nat.eq_of_beq_eq_true h')
        simp only [dom, hset_ne h _ hjk] at hj
        simp only [hbq, cond_false] at hjb
        exact hm (.inl (.inr ⟨j, hj, hjb⟩))
  obtain ⟨m', kc⟩ := r.mem.add hg hkey hnew hent
  have r0 : Rel Z K E.N (J K Y Z) s (hset h key (some (.row e sz ys))) (fun j => bif Nat.beq j key then v else ι j) a w' := ⟨m', r.size, fun i => RA_keeps kc _ _ (r.slot i), r.ds.grew hg⟩
  unfold putS at hs
  cases hdst : dst with
  | none =>
    simp only [hdst] at hs
    cases hs
    exact hk' _ _ w' ⟨Z, K, Y, hZE, Rel.put_none r0 (Grew.refl _) _⟩
  | some d =>
    simp only [hdst] at hs
    cases hb : Nat.ble (d + 1) E.N with
    | false => rw [hb] at hs; cases hs
    | true =>
      rw [hb] at hs
      cases hs
      exact hk' _ _ w' ⟨Z, K, Y, hZE, Rel.put r0 (Grew.refl _) hb key_row⟩

theorem RDs_take {w : World} {M : Nat → Prop} : ∀ {xs : List D} {vs : List Value} (n : Nat), RDs w M xs vs → RDs w M (xs.take n) (vs.take n)
  | xs, vs, 0, h => by simp [RDs]
  | [], vs, n + 1, h => by simp only [RDs] at h; subst h; simp [RDs]
  | x :: xs, vs, n + 1, h => by
    simp only [RDs] at h
    obtain ⟨v, t, rfl, h1, h2⟩ := h
    simp only [List.take_succ_cons, RDs]
    exact ⟨v, t.take n, rfl, h1, RDs_take n h2⟩
theorem RDs_drop {w : World} {M : Nat → Prop} : ∀ {xs : List D} {vs : List Value} (n : Nat), RDs w M xs vs → RDs w M (xs.drop n) (vs.drop n)
  | xs, vs, 0, h => by simpa using h
  | [], vs, n + 1, h => by simp only [RDs] at h; subst h; simp [RDs]
  | x :: xs, vs, n + 1, h => by
    simp only [RDs] at h
    obtain ⟨v, t, rfl, h1, h2⟩ := h
    simpa using RDs_drop n h2
theorem flat_len {sz : Nat} : ∀ (l : List (List D)), (∀ y ∈ l, y.length = sz) → l.flatten.length = l.length * sz := by
  intro l
  induction l with
  | nil => simp
  | cons y ys ih => intro hy; simp [ih (fun q hq => hy q (by simp [hq])), hy y (by simp), Nat.add_mul]; omega
theorem flat_take {sz : Nat} : ∀ (l : List (List D)) (n : Nat), (∀ y ∈ l, y.length = sz) → (l.take n).flatten = l.flatten.take (n * sz)
  | l, 0, _ => by simp
  | [], n + 1, _ => by simp
  | y :: l, n + 1, h => by
    have hy := h y (by simp)
    rw [List.take_succ_cons, List.flatten_cons, List.flatten_cons, flat_take l n (fun q hq => h q (by simp [hq])), List.take_append, hy, List.take_of_length_le (l := y) (by rw [hy, Nat.add_mul]; omega)]
    congr 2
    rw [Nat.add_mul]; omega
theorem flat_drop {sz : Nat} : ∀ (l : List (List D)) (n : Nat), (∀ y ∈ l, y.length = sz) → (l.drop n).flatten = l.flatten.drop (n * sz)
  | l, 0, _ => by simp
  | [], n + 1, _ => by simp
  | y :: l, n + 1, h => by
    have hy := h y (by simp)
    rw [List.drop_succ_cons, List.flatten_cons, flat_drop l n (fun q hq => h q (by simp [hq])), List.drop_append, hy, List.drop_of_length_le (l := y) (by rw [hy, Nat.add_mul]; omega), List.nil_append]
    congr 1
    rw [Nat.add_mul]; omega

end
end Go.AL
/- AL, part 26: 'slices.Insert' at rows of texts: the shelf's contract in AL's words. -/
namespace Go.AL
open Go.Proofs Go.Shelf Go.RowKit Go.Lib
set_option linter.unusedVariables false
set_option linter.unusedSimpArgs false

end Go.AL
/- AL, part 27: rows of the frame's own that are made, written at a place, turned into a text; a slice asked whether it is nil. -/
namespace Go.AL
set_option linter.unusedVariables false
set_option linter.unusedSimpArgs false

section
variable {E : Env} {ops : List Oper} {Q : Exit → St → Prop} {i : Nat} {J : Jt} {s : Slots} {h : Heap}

theorem eq_nilSlice_ {P : Program} (d : Nat) {t e : TypeId} (hu : P.underlying t = some (.slice e)) (a : Option Addr) (n c : Nat) (w : World) : (Op.equalIn (d + 1) t (.slice a n c) (.slice none 0 0)).run P w = .ok a.isNone w := by
  cases a <;> simp [Op.equalIn, run_underlying hu]
theorem eq_nilSlice {P : Program} {t e : TypeId} (hu : P.underlying t = some (.slice e)) (a : Option Addr) (n c : Nat) (w : World) : (Op.equal t (.slice a n c) (.slice none 0 0)).run P w = .ok a.isNone w := eq_nilSlice_ 9999 hu a n c w

/-- 'x == nil' at a slice: where it is, the row is empty. -/
theorem OW_eqNil' (hE : E.Good) {o : Oper} {t yt : TypeId} {xo yo : Operand} (ho : ops[i]? = some o) (hop : o.op = .binOp .eql t xo yo yt) (hw : awant ops o s = some true) {e : TypeId} {z1 z2 : Nat} {z3 : List Value} (ht : E.T t = some ⟨.slice e, z1, z2, z3⟩)
    {sz bts : Nat} {xs : List (List D)} (hx : ev s xo = .d (.sl sz bts xs)) (hy : ev s yo = .d (.lit (.slice none 0 0))) {d : Nat} (hdst : o.dst = some d) (hd : Nat.ble (d + 1) E.N = true)
    (hk : ∀ b, (b = true → xs = []) → OW E ops (i + 1) Q ⟨J, sset s d (.d (.lit (.bool b))), h⟩) : OW E ops i Q ⟨J, s, h⟩ := fun ι a w r => by
  have hdr : ops.drop i = o :: ops.drop (i + 1) := by
    obtain ⟨hlt, rfl⟩ := List.getElem?_eq_some_iff.1 ho
    exact List.drop_eq_getElem_cons hlt
  rw [hdr]
  simp only [wpListIn]
  rw [if_pos (awant_ok r hw)]
  refine ⟨fun f _ => hE.wide.fn f, ?_⟩
  rw [Oper.semAt_plain E.F _ _ (by rw [hop]; intro c hc; cases hc)]
  obtain ⟨dst, op, ty, pos, af, gd⟩ := o
  simp only at hop hdst
  subst hop hdst
  obtain ⟨Z, K, Y, hZE, r⟩ := r
  have h1 := RA_ev (C := cx Z h ι w) (s := s) (a := a) xo fun t _ => r.slot t
  rw [hx] at h1
  have h2 := RA_ev (C := cx Z h ι w) (s := s) (a := a) yo fun t _ => r.slot t
  rw [hy] at h2
  obtain ⟨e2, _⟩ := RA_lit.1 h2
  simp only [RA, RD] at h1
  obtain ⟨ad, cap, e1, _, _, _, hc⟩ := h1
  have hu := (hE.ok.T t _ ht).2
  simp only [TK.fits] at hu
  have hg : (eqGuard .eql t xo yo (.slice ad xs.length cap) (.slice none 0 0)).run E.P w = .ok () w := by
    unfold eqGuard; split <;> simp
  have hrun : (execOp a.eval ⟨some d, .binOp .eql t xo yo yt, ty, pos, af, gd⟩).run E.P w = .ok (.value (.bool ad.isNone)) w := by
    simp only [execOp, e1, e2, Sem.run_bind, hg, Result.andThen_ok]
    simp [binOp, eq_nilSlice hu]
  rw [hrun]
  show wpListIn _ _ _ _ _ _ _ _
  refine hk ad.isNone (fun hn => ?_) ι _ w ⟨Z, K, Y, hZE, Rel.put r (Grew.refl w) hd (RA_lit_mk trivial)⟩
  rcases hc with hc | ⟨b, off, rfl, _⟩
  · exact hc
  · simp at hn

/-- A slot that holds a nil slice: a row of the frame's own, as yet empty. -/
theorem LE_nilSlot (d key : Nat) (e : TypeId) (sz : Nat) (hs : s d = .d (.lit (.slice none 0 0))) (hkey : h key = none) : LE E ⟨J, s, h⟩ ⟨J, sset s d (.row key), hset h key (some (.row e sz []))⟩ := fun ι a w ⟨Z, K, Y, hZ, r⟩ => by
  obtain ⟨m1, kc⟩ := r.mem.add (Grew.refl w) hkey (e := .row e sz []) (v := .slice none 0 0) (fun b hb => by simp [blk] at hb) ⟨[], .inl ⟨none, rfl, rfl, rfl⟩, by simp [RDs], by simp, by simp⟩
  refine ⟨_, Z, K, Y, hZ, m1, r.size, fun j => ?_, r.ds⟩
  by_cases hj : j = d
  · subst hj
    have h0 := r.slot j
    rw [show (⟨J, s, h⟩ : St).s j = _ from hs] at h0
    obtain ⟨e0, _⟩ := RA_lit.1 h0
    rw [e0]
    show RA _ (sset s j (.row key) j) _
    rw [sset_same]
    exact key_row
  · show RA _ (sset s d (.row key) j) _
    rw [sset_ne s _ hj]
    exact RA_keeps kc _ _ (r.slot j)

theorem flat_set {sz : Nat} {l : List (List D)} {j : Nat} {y : List D} (hj : j < l.length) (h : ∀ x ∈ l, x.length = sz) : (l.set j y).flatten = l.flatten.take (j * sz) ++ y ++ l.flatten.drop (j * sz + sz) := by
  rw [List.set_eq_take_append_cons_drop, if_pos hj, List.flatten_append, List.flatten_cons, flat_take l j h, flat_drop l (j + 1) h, List.append_assoc, Nat.add_mul, Nat.one_mul]

end
end Go.AL
/- AL, part 28: a region that draws, in whose head a row is begun ('append' to nil) and lengthened once ('append' to it). -/
namespace Go.AL
set_option linter.unusedVariables false
set_option linter.unusedSimpArgs false

theorem partsD_in {C : Cx} (hn : Named C) {s : Slots} {a : Act} {sz : Nat} : ∀ (parts : List (Nat × Operand)) (i : Nat) (xs : List (List D)), (∀ p ∈ parts, RA C (ev s p.2) (a.eval p.2)) → partsD s sz i parts = some xs →
    (parts.map fun p => (p.1, a.eval p.2)) = (((parts.map fun p => a.eval p.2).zipIdx i).map fun x => (x.2, x.1)) ∧ (∀ v ∈ parts.map (fun p => a.eval p.2), v.cells.size = sz) ∧
    RDs C.w C.M xs.flatten ((parts.map fun p => a.eval p.2).flatMap fun v => v.cells.toList) ∧ (∀ x ∈ xs, x.length = sz) ∧ xs.length = parts.length
  | [], i, xs, _, h => by simp [partsD] at h; subst h; simp [RDs]
  | (j, x) :: parts, i, xs, hs, h => by
    simp only [partsD] at h
    cases hb : Nat.beq j i && cellsOk (ev s x) && Nat.beq (cellsOf (ev s x)).length sz with
    | false => rw [hb] at h; cases h
    | true =>
      rw [hb] at h
      simp only [cond_true] at h
      simp only [Bool.and_eq_true] at hb
      obtain ⟨⟨b1, b2⟩, b3⟩ := hb
      have e1 := Nat.eq_of_beq_eq_true b1
      have e3 := Nat.eq_of_beq_eq_true b3
      split at h
      · rename_i ds xs' hds hxs
        cases h
        obtain ⟨h1, h2, h3, h4, h5⟩ := partsD_in hn parts (i + 1) xs' (fun p hp => hs p (by simp [hp])) hxs
        have hcx := RA_cells hn b2 (hs (j, x) (by simp))
        have hl := RAs_length hcx
        rw [allD_eq hds] at hcx
        have e4 : ds.length = sz := by rw [allD_eq hds] at e3; simpa using e3
        refine ⟨by simp [h1, e1], ?_, ?_, ?_, by simp [h5]⟩
        · intro v hv
          simp only [List.map_cons, List.mem_cons] at hv
          rcases hv with rfl | hv
          · simp at hl; omega
          · exact h2 v hv
        · simp only [List.flatten_cons, List.map_cons, List.flatMap_cons]
          exact RDs_append (RAs_map_d.1 hcx) h3
        · intro y hy
          rcases List.mem_cons.1 hy with rfl | hy
          · exact e4
          · exact h4 y hy
      · cases h

section
variable {E : Env} {ops : List Oper} {Q : Exit → St → Prop} {i : Nat} {J : Jt} {s : Slots} {h : Heap}
/-- '[]T{..}', not empty, which nobody will write, wherever what it looks at is as told. -/
theorem loc_lits (hE : E.Good) {o : Oper} {t e : TypeId} {len : Nat} {parts : Array (Nat × Operand)} (hop : o.op = .buildSlice t len parts) {z1 z2 : Nat} {z3 : List Value} (ht : E.T t = some ⟨.slice e, z1, z2, z3⟩)
    {k : TK} {sz bts : Nat} {z6 : List Value} (hte : E.T e = some ⟨k, sz, bts, z6⟩) (hpos : Nat.ble 1 sz = true) (hlen : parts.size = len) (hsmall : Nat.ble (len * sz) 16777216 = true) (hbts : Nat.ble (len * bts) 16777216 = true) (hl2 : (Nat.ble 1 len && Nat.ble len 16777216) = true) {xs : List (List D)} (hx : partsD s sz 0 parts.toList = some xs) :
    Loc E ops J h o s (.d (.sl sz bts xs)) := by
  refine ⟨(by rw [hop]; intro c hc; cases hc), fun Z K Y ι a w m hlk => ?_⟩
  obtain ⟨dst, op, ty, pos, af, gd⟩ := o
  simp only at hop
  subst hop
  simp only [Bool.and_eq_true] at hl2
  have hl0 := Nat.le_of_ble_eq_true hl2.1
  have hl := Nat.le_of_ble_eq_true hl2.2
  have hu := (hE.ok.T t _ ht).2
  simp only [TK.fits] at hu
  obtain ⟨⟨ie, hie, hsz, hby, z, hz, hzc⟩, _⟩ := hE.ok.T e _ hte
  simp only at hsz hby hzc
  obtain ⟨h1, h2, h3, h4, h5⟩ := partsD_in (C := cx Z h ι w) m.named (s := s) (a := a) parts.toList 0 xs (fun p hp => hlk p.2 (by simp only [Op.operands, Array.toList_map]; exact List.mem_map_of_mem hp)) hx
  have hpos' : 1 ≤ sz := Nat.le_of_ble_eq_true hpos
  have hsm' := Nat.le_of_ble_eq_true hsmall
  have hb := Nat.le_of_ble_eq_true hbts
  have hxl : xs.length = len := by rw [h5]; simpa using hlen
  have hcs : ((parts.toList.map fun p => a.eval p.2).flatMap fun v => v.cells.toList).length = len * sz := by
    rw [RDs_length h3, flat_len xs h4, hxl]
  have hr : (Instr.buildSlice t len (parts.map fun p => (p.1, a.eval p.2))).run E.P w = .ok (.slice (some ⟨w.heap.size, 0, none⟩) len len) (w.alloc (.cells ((parts.toList.map fun p => a.eval p.2).flatMap fun v => v.cells.toList).toArray e)) := by
    refine run_buildSlice (P := E.P) w t e len _ _ ie z hu hie hz (by rw [hsz]; omega) (by rw [hsz]; intro h; rcases Nat.mul_eq_zero.1 h with h | h <;> omega) ?_
    rw [hsz]
    have hfw := Great.fill_whole (s := sz) hpos' (parts.toList.map fun p => a.eval p.2) ((Array.range (len * sz)).map (z.cells[· % z.cells.size]!)) h2 (by simp [hlen])
    rw [← h1] at hfw
    simpa using hfw
  refine ⟨.slice (some ⟨w.heap.size, 0, none⟩) len len, w.alloc (.cells ((parts.toList.map fun p => a.eval p.2).flatMap fun v => v.cells.toList).toArray e), by simp only [execOp, Sem.run_bind]; rw [hr]; simp, Grew.alloc w _, ?_⟩
  simp only [RA, RD]
  have hn := RC_new m e h3
  refine ⟨_, len, by rw [hxl], by omega, by rw [hxl]; omega, by rw [hxl]; omega, .inr ⟨w.heap.size, 0, rfl, hn.1, ⟨_, _, _, heap_alloc_new w _⟩, RCs_of_flat h4 hn.2⟩⟩
end

/-! ### No key that isn't there is named -/
section
variable {E : Env} {ops : List Oper} {Y : Nat → Slots → AV → Prop}
end

/-- What the two are: number g1 begins the row of key k, number g2 lengthens it. -/
structure Grow where
  h : Heap
  k : Nat
  g1 : Nat
  g2 : Nat
  d : Tmp
  e : TypeId
  sz : Nat
  bts : Nat
  x1 : Operand
  x2 : Operand
  ys1 : List (List D)
  ys2 : List (List D)
def Grow.h1 (p : Grow) : Heap := hset p.h p.k (some (.row p.e p.sz p.ys1))
def Grow.h2 (p : Grow) : Heap := hset (unkH p.k p.h1) p.k (some (.row p.e p.sz (p.ys1 ++ p.ys2)))
def Grow.H (p : Grow) (b : Nat → Bool) : Heap := bif b p.g2 then p.h2 else bif b p.g1 then p.h1 else p.h
def Grow.Y (p : Grow) (E : Env) (ops : List Oper) (J : Jt) (i : Nat) (s : Slots) (x : AV) : Prop :=
  (i = p.g1 ∧ x = .any ∧ ev s p.x1 = .d (.sl p.sz p.bts p.ys1)) ∨
  (i = p.g2 ∧ x = .row p.k ∧ ev s p.x2 = .d (.sl p.sz p.bts p.ys2)) ∨
  (i ≠ p.g1 ∧ i ≠ p.g2 ∧ nokey p.k x = true ∧ ∃ o, ops[i]? = some o ∧ o.dst ≠ some p.d ∧ ∀ b, YA E ops J (p.H b) o s x)
def Grow.R (p : Grow) (b : Nat → Bool) (s : Slots) (ι : Nat → Value) (a : Act) : Prop :=
  b p.g2 = false → (∀ i, nokey p.k (s i) = true) ∧ (b p.g1 = true → s p.d = .any ∧ a.tmps.getD p.d undef = ι p.k)
section
variable {E : Env} {ops : List Oper} {Q : Exit → St → Prop} {J : Jt} {s : Slots} {h : Heap}

variable {p : Grow} {n i : Nat} {K : Slots → Prop}
end
end Go.AL
/- AL, part 29: functions whose result holds a new row of their own; reads and writes inside rows of the frame's own. -/
namespace Go.AL
set_option linter.unusedVariables false
set_option linter.unusedSimpArgs false

/-! ### A key under another name -/
mutual
def rk (k j : Nat) : AV → AV
  | .d x => .d x
  | .any => .any
  | .agg cs => .agg (rks k j cs)
  | .tup cs => .tup (rks k j cs)
  | .fn f a b => .fn f (rks k j a) (rks k j b)
  | .ptr _ _ => .any
  | .view _ _ _ => .any
  | .row i => bif Nat.beq i k then .row j else .any
def rks (k j : Nat) : List AV → List AV
  | [] => []
  | x :: xs => rk k j x :: rks k j xs
end
mutual
theorem RA_rk {k j : Nat} {C C' : Cx} (hk : Keeps C.w C'.w C.M C'.M) (hd : C.dom k → C'.dom j ∧ C'.ι j = C.ι k) : ∀ (x : AV) (v : Value), RA C x v → RA C' (rk k j x) v
  | .d x, v => fun hx => by simp only [RA, rk] at hx ⊢; exact RD_keeps hk x v hx
  | .agg cs, v => fun hx => by
    simp only [RA, rk] at hx ⊢
    obtain ⟨vs, e, h1⟩ := hx
    exact ⟨vs, e, RAs_rk hk hd cs _ h1⟩
  | .tup cs, v => fun hx => by
    simp only [RA, rk] at hx ⊢
    obtain ⟨vs, e, h1⟩ := hx
    exact ⟨vs, e, RAs_rk hk hd cs _ h1⟩
  | .fn f first cap, v => fun hx => by
    simp only [RA, rk] at hx ⊢
    obtain ⟨vf, vc, e, h1, h2⟩ := hx
    exact ⟨vf, vc, e, RAs_rk hk hd first _ h1, RAs_rk hk hd cap _ h2⟩
  | .any, v => fun _ => by simp only [RA, rk]
  | .ptr i o, v => fun _ => by simp only [RA, rk]
  | .view i o n, v => fun _ => by simp only [RA, rk]
  | .row i, v => fun hx => by
    simp only [rk]
    cases hb : Nat.beq i k with
    | true =>
      have e := Nat.eq_of_beq_eq_true hb
      subst e
      simp only [RA, cond_true] at hx ⊢
      have := hd hx.1
      exact ⟨this.1, by rw [this.2]; exact hx.2⟩
    | false => simp [RA]
theorem RAs_rk {k j : Nat} {C C' : Cx} (hk : Keeps C.w C'.w C.M C'.M) (hd : C.dom k → C'.dom j ∧ C'.ι j = C.ι k) : ∀ (xs : List AV) (vs : List Value), RAs C xs vs → RAs C' (rks k j xs) vs
  | [], vs => fun hx => by simpa only [RAs, rks] using hx
  | x :: xs, vs => fun hx => by
    simp only [RAs, rks] at hx ⊢
    obtain ⟨v, t, e, h1, h2⟩ := hx
    exact ⟨v, t, e, RA_rk hk hd x v h1, RAs_rk hk hd xs t h2⟩
end

def RetOwn (T : Nat → Option TI) (fn : Func) (J : Jt) (e : TypeId) (sz : Nat) (ys : List (List D)) (R : AV) : Exit → St → Prop := fun x st =>
  (x = .normal ∨ x = .ret) ∧ st.J = J ∧ ∃ k Rs, aresults T st.h st.s fn.results.toList = some Rs ∧ st.h k = some (.row e sz ys) ∧ AVle (rk k 0 (packR Rs)) R

theorem Does_ofOwn {P : Program} {T : Nat → Option TI} (hT : TOk P T) (hm : P.follows .mixedOrders = true) {f : Nat} {fn : Func} {c : Code} {args : List AV} {e : TypeId} {sz : Nat} {ys : List (List D)} {R : AV} (hf : P.funcs[f]? = some fn) (hb : fn.body = some c) (hn : (fn.name == "runtime.NumGoroutine") = false)
    {N : Nat} (hN : fn.ntmps = N) (hl : Nat.ble args.length N = true)
    (h : ∀ F n Z, (⟨P, T, F, n, Z, N⟩ : Env).Good → F = Fence.wide → ∀ J, CW ⟨P, T, F, n, Z, N⟩ c (RetOwn T fn J e sz ys R) ⟨J, argSlots args 0, noHeap⟩) : Does P f args (oneRow e sz ys) R := by
  subst hN
  refine ⟨⟨fn, hf, hn, by rw [hb]; rfl⟩, fun n Z w vs hZ hv => ?_⟩
  let E : Env := ⟨P, T, Fence.wide, n, Z, fn.ntmps⟩
  have hE : E.Good := ⟨⟨hT, fun f => trivial, rfl, hm⟩, .inl rfl⟩
  refine callsIn_of_wp_marks hf hb trivial (wpIn_mono (h _ _ _ hE rfl (grewJ w) noι _ w ?_) ?_) rfl
  · exact ⟨Z, fun b => b < w.heap.size, fun _ => False, ⟨fun b hb => hb, fun _ hb => hb.elim, mono_grew w⟩, rel_begin hZ (fun b hb => hb) ⟨Grew.refl w, fun b hb => hb⟩ ((mono_grew w).closed (fun b => b < w.heap.size) (fun _ => False) Z) hv hl⟩
  · rintro x a' w' ⟨st, ι, ⟨he, hJ, k, Rs, hRs, hk, hR⟩, Z', K, Y, hZE, r⟩
    have goal : LeavesInM Fence.wide n P fn a'.tmps (fun x w' => ∃ v ι, x = .returned v ∧ Grew w w' ∧ RA (cx Z (oneRow e sz ys) ι w') R v ∧ Own Z w.heap.size (oneRow e sz ys) ι w') a'.defers .returning w' := by
      refine leaves_marks r fun w1 r1 => ?_
      have hg : Grew w w1 ∧ ∀ b, b < w.heap.size → K b := by have := r1.mem.Jw; rw [hJ] at this; exact this
      obtain ⟨v, g1, g2⟩ := results_ok hT r1 hRs
      have hkd : dom st.h k := by show (st.h k).isSome = true; rw [hk]; rfl
      obtain ⟨us, f1, f2, f3, f4⟩ := r1.mem.ent k _ hk
      have keeps : Keeps w1 w1 (cx Z' st.h ι w1).M (cx Z (oneRow e sz ys) (fun _ => ι k) w1).M := ⟨fun _ _ _ _ hh => hh, fun _ _ hh => hh, fun b _ hm hm' => by
        rcases hm' with hm' | ⟨j, hj, hjb⟩
        · exact hm (.inl (hZE.1 b hm'))
        · exact hm (.inr ⟨k, hkd, hjb⟩)⟩
      refine ⟨v, g1, v, fun _ => ι k, rfl, hg.1, hR _ _ (RA_rk (C := cx Z' st.h ι w1) (C' := cx Z (oneRow e sz ys) (fun _ => ι k) w1) keeps (fun _ => ⟨by show (oneRow e sz ys 0).isSome = true; simp [oneRow, hset], rfl⟩) _ _ g2), ⟨fun j e' hj => ?_, fun j b hj hjb => ?_, fun j j' b hj hj' _ _ => (dom_oneRow hj).trans (dom_oneRow hj').symm⟩⟩
      · have hj0 := dom_oneRow (k := j) (by show (oneRow e sz ys j).isSome = true; rw [hj]; rfl)
        subst hj0
        have : e' = .row e sz ys := by simpa [oneRow, hset] using hj.symm
        subst this
        exact ⟨us, f1, RDs_keeps keeps _ _ f2, f3, f4⟩
      · have ho := r1.mem.own k b hkd hjb
        exact ⟨fun hz => ho.1 (hZE.1 b hz), Nat.le_of_not_lt fun hlt => ho.2.1 (hg.2 b hlt), ho.2.2⟩
    rcases he with rfl | rfl
    · exact goal
    · exact goal

section
variable {E : Env} {ops : List Oper} {Q : Exit → St → Prop} {i : Nat} {J : Jt} {s : Slots} {h : Heap} {o : Oper}

/-- A call whose result holds a new row. -/
theorem OW_callOwn' (hE : E.Good) (key : Nat) {f : Nat} {L : List AV} {e : TypeId} {sz : Nat} {ys : List (List D)} {R : AV} (hc : Does E.P f L (oneRow e sz ys) R) {o : Oper} {fo : Operand} {args : Array Operand} {ts : Array TypeId} (ho : ops[i]? = some o) (hop : o.op = .call ⟨.value fo, args, ts⟩) (hw : awant ops o s = some true)
    (hL : callArgs s fo args.toList = some (f, L)) (hk : kfs L = true) (hkey : h key = none) {s' : Slots} (hs : putS E.N s o.dst (rk 0 key R) = some s') (hk' : OW E ops (i + 1) Q ⟨J, s', hset h key (some (.row e sz ys))⟩) : OW E ops i Q ⟨J, s, h⟩ := fun ι a w r => by
  have hd : ops.drop i = o :: ops.drop (i + 1) := by
    obtain ⟨hlt, rfl⟩ := List.getElem?_eq_some_iff.1 ho
    exact List.drop_eq_getElem_cons hlt
  rw [hd]
  simp only [wpListIn]
  rw [if_pos (awant_ok r hw)]
  refine ⟨fun f _ => hE.wide.fn f, ?_⟩
  rw [Oper.semAt_plain E.F _ _ (by rw [hop]; intro c hc; cases hc)]
  obtain ⟨Z, K, Y, hZE, r⟩ := r
  obtain ⟨vf, vc, he, hv⟩ := call_args hL r.slot
  obtain ⟨dst, op, ty, pos, af, gd⟩ := o
  simp only at hop hs
  subst hop
  rw [exec_call he hc.1]
  simp only [Oper.uponIn]
  refine ⟨fun hx => (by rw [hE.wide.depth] at hx; cases hx), ?_⟩
  have hZ : ∀ b, (cx Z h ι w).M b → b < w.heap.size := fun b hb => r.mem.Mlt hb
  have hv' : RAs (cx (cx Z h ι w).M noHeap noι w) L (vf ++ args.map a.eval ++ vc).toList :=
    RAs_kf (C := cx Z h ι w) (C' := cx (cx Z h ι w).M noHeap noι w) ⟨fun _ _ _ _ hh => hh, fun _ _ hh => hh, fun b _ hm hm' => by rw [M_of] at hm'; exact hm hm'⟩ _ _ hk hv
  have := hc.2 (E.n - 1) (cx Z h ι w).M w _ hZ hv'
  simp only [Array.toArray_toList] at this
  refine (hE.wide.calls this).mono fun x w' ⟨v, ι', he', hg, hRv, hown⟩ => ?_
  subst he'
  show wpListIn _ _ _ _ _ _ _ _
  have hd0 : dom (oneRow e sz ys) 0 := by show (oneRow e sz ys 0).isSome = true; simp [oneRow, hset]
  have hnew : ∀ b, blk (ι' 0) = some b → w.heap.size ≤ b ∧ b < w'.heap.size := fun b hb => by
    have := hown.own 0 b hd0 hb
    exact ⟨this.2.1, this.2.2⟩
  obtain ⟨us, f1, f2, f3, f4⟩ := hown.ent 0 (.row e sz ys) (by simp [oneRow, hset])
  have keeps : Keeps w' w' (cx (cx Z h ι w).M (oneRow e sz ys) ι' w').M (cx Z (hset h key (some (.row e sz ys))) (fun j => bif Nat.beq j key then ι' 0 else ι j) w').M := ⟨fun _ _ _ _ hh => hh, fun _ _ hh => hh, fun b _ hm hm' => by
    rcases hm' with hz | ⟨j, hj, hjb⟩
    · exact hm (.inl (.inl hz))
    · by_cases hjk : j = key
      · subst hjk
        simp at hjb
        exact hm (.inr ⟨0, hd0, hjb⟩)
      · have hbq : Nat.beq j key = false := Bool.eq_false_iff.2 fun h' => hjk (Nat.eq_of_beq_eq_true h')
        simp only [dom, hset_ne h _ hjk] at hj
        simp only [hbq, cond_false] at hjb
        exact hm (.inl (.inr ⟨j, hj, hjb⟩))⟩
  have hent : EntOk (cx Z (hset h key (some (.row e sz ys))) (fun j => bif Nat.beq j key then ι' 0 else ι j) w') (.row e sz ys) (ι' 0) := ⟨us, f1, RDs_keeps keeps _ _ f2, f3, f4⟩
  obtain ⟨m', kc⟩ := r.mem.add hg hkey hnew hent
  have hRv' : RA (cx Z (hset h key (some (.row e sz ys))) (fun j => bif Nat.beq j key then ι' 0 else ι j) w') (rk 0 key R) v :=
    RA_rk (C := cx (cx Z h ι w).M (oneRow e sz ys) ι' w') keeps (fun _ => ⟨by show (hset h key _ key).isSome = true; rw [hset_same]; rfl, by simp⟩) _ _ hRv
  have r0 : Rel Z K E.N (J K Y Z) s (hset h key (some (.row e sz ys))) (fun j => bif Nat.beq j key then ι' 0 else ι j) a w' := ⟨m', r.size, fun i => RA_keeps kc _ _ (r.slot i), r.ds.grew hg⟩
  unfold putS at hs
  cases hdst : dst with
  | none =>
    simp only [hdst] at hs
    cases hs
    exact hk' _ _ w' ⟨Z, K, Y, hZE, Rel.put_none r0 (Grew.refl _) _⟩
  | some d =>
    simp only [hdst] at hs
    cases hb : Nat.ble (d + 1) E.N with
    | false => rw [hb] at hs; cases hs
    | true =>
      rw [hb] at hs
      cases hs
      exact hk' _ _ w' ⟨Z, K, Y, hZE, Rel.put r0 (Grew.refl _) hb hRv'⟩

/-! ### Inside rows -/
theorem loc_idxRow (hE : E.Good) {key : Nat} {t : TypeId} {xo io : Operand} (hop : o.op = .indexAddr t xo io)
    {e : TypeId} {z1 z2 : Nat} {z3 : List Value} (ht : E.T t = some ⟨.slice e, z1, z2, z3⟩) {k : TK} {sz z5 : Nat} {z6 : List Value} (hte : E.T e = some ⟨k, sz, z5, z6⟩)
    {xs : List (List D)} (hx : ev s xo = .row key) (hkey : h key = some (.row e sz xs)) {ik : IntKind} {j : Nat} (hi : ev s io = .d (.lit (.int ik j))) (hj : j < xs.length) : Loc E ops J h o s (.ptr key (j * sz)) := by
  refine ⟨(by rw [hop]; intro c hc; cases hc), fun Z K Y ι a w m hl => ?_⟩
  obtain ⟨dst, op, ty, pos, af, gd⟩ := o
  simp only at hop
  subst hop
  have h1 := hl xo (by simp [Op.operands])
  have h2 := hl io (by simp [Op.operands])
  rw [hx] at h1
  rw [hi] at h2
  obtain ⟨e2, _⟩ := RA_lit.1 h2
  simp only [RA] at h1
  obtain ⟨hkd, e1⟩ := h1
  obtain ⟨vs, f1, f2, f3, f4⟩ := m.ent key _ hkey
  rcases f1 with ⟨_, _, h0, _⟩ | ⟨g, cap, cur, e0, hc0, hg, hnc, hcm, hcs, htk⟩
  · omega
  have hb : blk (ι key) = some g := by rw [e0]; simp [blk]; omega
  have hu := (hE.ok.T t _ ht).2
  simp only [TK.fits] at hu
  have hsz := run_size hE.ok.T hte w
  have e1' : a.eval xo = .slice (some ⟨g, 0, none⟩) xs.length cap := e1.trans e0
  refine ⟨.pointer (some ⟨g, j * sz, none⟩), w, ?_, Grew.refl w, ?_⟩
  · simp [execOp, Instr.indexAt, e1', e2, asIntOf, run_underlying hu, hj, hsz]
    simp [Addr.add]
    exact fun h => h.symm
  · simp only [RA]
    exact ⟨hkd, g, hb, rfl⟩

theorem ofCells_append {ag : Bool} {n : Nat} {A B : List AV} {R : AV} (h : ofCells ag n A = some R) : ofCells ag n (A ++ B) = some R := by
  cases ag with
  | true =>
    obtain ⟨hn, rfl⟩ := ofCells_agg h
    have : Nat.ble n (A ++ B).length = true := Nat.ble_eq_true_of_le (by simp; omega)
    simp only [ofCells, cond_true, this]
    rw [List.take_append_of_le_length hn]
  | false =>
    cases A with
    | nil => simp [ofCells] at h
    | cons x A => simpa [ofCells] using h
theorem flat_at {sz : Nat} {xs : List (List D)} {j : Nat} {x : List D} (h : xs[j]? = some x) (hl : ∀ y ∈ xs, y.length = sz) : xs.flatten = xs.flatten.take (j * sz) ++ x ++ xs.flatten.drop (j * sz + sz) := by
  obtain ⟨hj, rfl⟩ := List.getElem?_eq_some_iff.1 h
  have := flat_set (y := xs[j]) hj hl
  rwa [List.set_getElem_self] at this

theorem loc_loadRow (hE : E.Good) {key off : Nat} {t : TypeId} {p : Operand} (hop : o.op = .load t p) {ti : TI} (ht : E.T t = some ti) {e : TypeId} {sz : Nat} {xs : List (List D)} {j q : Nat} (hp : ev s p = .ptr key q) (hq : q = j * sz + off) (hkey : h key = some (.row e sz xs))
    {x : List D} (hx : xs[j]? = some x) (hoff : off ≤ x.length) {R : AV} (hR : ofCells ti.k.isAgg ti.size ((x.drop off).map .d) = some R) : Loc E ops J h o s R := by
  refine ⟨(by rw [hop]; intro c hc; cases hc), fun Z K Y ι a w m hl => ?_⟩
  obtain ⟨dst, op, ty, pos, af, gd⟩ := o
  simp only at hop
  subst hop
  subst hq
  have h1 := hl p (by simp [Op.operands])
  rw [hp] at h1
  simp only [RA] at h1
  obtain ⟨hkd, b, hb, e1⟩ := h1
  obtain ⟨vs, f1, f2, f3, f4⟩ := m.ent key _ hkey
  have hlt := (List.getElem?_eq_some_iff.1 hx).1
  rcases f1 with ⟨_, _, h0, _⟩ | ⟨g, cap, cur, e0, hc0, hg, hnc, hcm, hcs, htk⟩
  · omega
  have hbg : blk (ι key) = some g := by rw [e0]; simp [blk]; omega
  have : b = g := by rw [hbg] at hb; injection hb with hb; exact hb.symm
  subst this
  have hg' : w.heap[b]? = some (.cells cur e (0, 0)) := hg
  have hxl : x.length = sz := f3 x (List.mem_of_getElem? hx)
  have hfd : xs.flatten.drop (j * sz + off) = x.drop off ++ xs.flatten.drop (j * sz + sz) := by
    have hA : (xs.flatten.take (j * sz)).length = j * sz := by
      have h0 := flat_len xs f3
      have : j * sz + sz ≤ xs.length * sz := by rw [← Nat.succ_mul]; exact Nat.mul_le_mul_right _ hlt
      rw [List.length_take, Nat.min_eq_left (by omega)]
    conv => lhs; rw [flat_at hx f3]
    rw [List.append_assoc, List.drop_append, hA, List.drop_of_length_le (l := xs.flatten.take (j * sz)) (by omega), Nat.add_sub_cancel_left, List.nil_append, List.drop_append_of_le_length hoff]
  obtain ⟨v, h3, h4⟩ := run_loadVar_of (w := w) hE.ok.T ht (C := cx Z h ι w) (cs := ((xs.flatten).drop (j * sz + off)).map .d) (vs := vs.drop (j * sz + off)) (RAs_map_d.2 (RDs_drop _ f2)) b (j * sz + off) (fun q v hq => by
    rw [cell_of_row w b _ cur e (0, 0) hg']
    rw [List.getElem?_drop, ← htk, List.getElem?_take] at hq
    split at hq
    · simpa using hq
    · cases hq) (by rw [hfd, List.map_append]; exact ofCells_append hR)
  exact ⟨v, w, by simp [execOp, Instr.loadAt, Instr.sureAddr, e1, h3], Grew.refl w, h4⟩

/-- A store inside a row of the frame's own. -/
theorem OW_storeRow' (hE : E.Good) {key off : Nat} {t2 : TypeId} {po yo : Operand} (ho2 : ops[i]? = some o) (hop2 : o.op = .store t2 po yo) (hw2 : awant ops o s = some true) (hdst2 : o.dst = none) {ti : TI} (ht2 : E.T t2 = some ti)
    {e : TypeId} {sz : Nat} {xs : List (List D)} {j q : Nat} (hp : ev s po = .ptr key q) (hq : q = j * sz + off) (hkey : h key = some (.row e sz xs)) {x : List D} (hx : xs[j]? = some x) {y : List D} (hc : cellsOk (ev s yo) = true) (hy : cellsOf (ev s yo) = y.map .d) (hyl : Nat.beq y.length ti.size = true) (hoff : off + y.length ≤ sz)
    {xs' : List (List D)} (hxs : xs.set j (x.take off ++ y ++ x.drop (off + y.length)) = xs') (hk : OW E ops (i + 1) Q ⟨J, s, hset h key (some (.row e sz xs'))⟩) : OW E ops i Q ⟨J, s, h⟩ := fun ι a w r => by
  have hyl := Nat.eq_of_beq_eq_true hyl
  subst hq
  subst hxs
  have hdr2 : ops.drop i = o :: ops.drop (i + 1) := by
    obtain ⟨hlt, rfl⟩ := List.getElem?_eq_some_iff.1 ho2
    exact List.drop_eq_getElem_cons hlt
  rw [hdr2]
  simp only [wpListIn]
  rw [if_pos (awant_ok r hw2)]
  refine ⟨fun f _ => hE.wide.fn f, ?_⟩
  rw [Oper.semAt_plain E.F _ _ (by rw [hop2]; intro c hc; cases hc)]
  obtain ⟨dst2, op2, ty2, pos2, af2, gd2⟩ := o
  simp only at hop2 hdst2
  subst hop2 hdst2
  obtain ⟨Z, K, Y, hZE, r⟩ := r
  have h1 := RA_ev (C := cx Z h ι w) (s := s) (a := a) po fun t _ => r.slot t
  rw [hp] at h1
  simp only [RA] at h1
  obtain ⟨hkd, b0, hb0, e1⟩ := h1
  obtain ⟨vs, f1, f2, f3, f4⟩ := r.mem.ent key _ hkey
  have hj := (List.getElem?_eq_some_iff.1 hx).1
  have hxl : x.length = sz := f3 x (List.mem_of_getElem? hx)
  have hvl : vs.length = xs.length * sz := by rw [RDs_length f2]; exact flat_len xs f3
  rcases f1 with ⟨_, _, h0, _⟩ | ⟨g, cap, cur, e0, hc0, hg, hnc, hcm, hcs, htk⟩
  · omega
  have hg' : w.heap[g]? = some (.cells cur e (0, 0)) := hg
  have hb : blk (ι key) = some g := by rw [e0]; simp [blk]; omega
  have : b0 = g := by rw [hb] at hb0; injection hb0 with hb0; exact hb0.symm
  subst this
  have hxv := RA_cells r.mem.named hc (RA_ev (C := cx Z h ι w) (s := s) (a := a) yo fun t _ => r.slot t)
  rw [hy] at hxv
  have hlen := RAs_length hxv
  simp only [List.length_map] at hlen
  have hRD := RAs_map_d.1 hxv
  have hjs : j * sz + sz ≤ xs.length * sz := by rw [← Nat.succ_mul]; exact Nat.mul_le_mul_right _ hj
  have hns : xs.length * sz ≤ cap * sz := Nat.mul_le_mul_right _ hnc
  have hst := run_storeCells_at (P := E.P) b0 (j * sz + off) e (a.eval yo).cells.toList 0 cur w hg' (by omega) (RDs_one hRD)
  have hsize : (a.eval yo).cells.size = ti.size := by rw [← hyl]; simpa using hlen
  have hsz2 := run_size hE.ok.T ht2 w
  have hrun2 : (execOp a.eval ⟨none, .store t2 po yo, ty2, pos2, af2, gd2⟩).run E.P w = .ok .skip (w.setRow b0 (cur.toList.take (j * sz + off) ++ (a.eval yo).cells.toList ++ cur.toList.drop (j * sz + off + (a.eval yo).cells.toList.length)).toArray) := by
    simp [execOp, Instr.storeAt, Instr.sureAddr, e1, storeVar, hsz2, hsize]
    simp at hst
    rw [hsize] at hst
    rw [hst]
    rfl
  rw [hrun2]
  show wpListIn _ _ _ _ _ _ _ _
  obtain ⟨cv, hcv⟩ : ∃ cv, cv = (a.eval yo).cells.toList := ⟨_, rfl⟩
  rw [← hcv] at hlen hRD hst ⊢
  have hcl : cv.length = y.length := hlen
  obtain ⟨x1, hx1⟩ : ∃ x1, x1 = x.take off ++ y ++ x.drop (off + y.length) := ⟨_, rfl⟩
  rw [← hx1] at hk
  have hx1l : x1.length = sz := by rw [hx1]; simp; omega
  obtain ⟨cur', hcur'⟩ : ∃ cur', cur' = (cur.toList.take (j * sz + off) ++ cv ++ cur.toList.drop (j * sz + off + cv.length)).toArray := ⟨_, rfl⟩
  rw [← hcur']
  have hnew : (w.setRow b0 cur').heap[b0]? = some (.cells cur' e (0, 0)) := setRow_heap w b0 cur _ e _ hg'
  have hdom : ∀ k', dom h k' ↔ dom (hset h key (some (.row e sz (xs.set j x1)))) k' := by
    intro k'
    by_cases hjk : k' = key
    · subst hjk; simp [dom, hset_same]; rw [hkey]; rfl
    · simp only [dom, hset_ne h _ hjk]
  have kc : KeepsC (cx Z h ι w) (cx Z (hset h key (some (.row e sz (xs.set j x1)))) ι (w.setRow b0 cur')) := by
    refine ⟨⟨fun b o u hm hcc => ?_, fun b hm hi => hi.at (setRow_other w b0 b _ fun e => hm (e ▸ .inr ⟨key, hkd, hb⟩)), fun b _ hm hm' => ?_⟩, fun k' hk' => ⟨(hdom k').1 hk', rfl⟩⟩
    · have hne : b ≠ b0 := by intro e; subst e; exact hm (.inr ⟨key, hkd, hb⟩)
      show World.cell? _ _ = _
      rw [World.cell?_of_block (w := w) (a := ⟨b, o, none⟩) (setRow_other w b0 b _ hne)]; exact hcc
    · rcases hm' with hz | ⟨k', hk', hkb⟩
      · exact hm (.inl hz)
      · exact hm (.inr ⟨k', (hdom k').2 hk', hkb⟩)
  have hcs' : cur'.size = cap * sz := by rw [hcur']; simp; omega
  have hfl : (xs.set j x1).flatten = xs.flatten.take (j * sz + off) ++ y ++ xs.flatten.drop (j * sz + off + y.length) := by
    have hA : (xs.flatten.take (j * sz)).length = j * sz := by
      have h0 := flat_len xs f3
      rw [List.length_take, Nat.min_eq_left (by omega)]
    have hBl : (xs.flatten.take (j * sz) ++ x).length = j * sz + sz := by simp only [List.length_append]; omega
    rw [flat_set hj f3, hx1]
    have e1 : xs.flatten.take (j * sz + off) = xs.flatten.take (j * sz) ++ x.take off := by
      conv => lhs; rw [flat_at hx f3]
      rw [List.take_append_of_le_length (by rw [hBl]; omega), List.take_append, hA, List.take_of_length_le (l := xs.flatten.take (j * sz)) (by omega), Nat.add_sub_cancel_left]
    have e2 : xs.flatten.drop (j * sz + off + y.length) = x.drop (off + y.length) ++ xs.flatten.drop (j * sz + sz) := by
      conv => lhs; rw [flat_at hx f3]
      rw [List.append_assoc, List.drop_append, hA, List.drop_of_length_le (l := xs.flatten.take (j * sz)) (by omega), List.nil_append, show j * sz + off + y.length - j * sz = off + y.length by omega, List.drop_append_of_le_length (by omega)]
    rw [e1, e2]
    simp only [List.append_assoc]
  have hent : EntOk (cx Z (hset h key (some (.row e sz (xs.set j x1)))) ι (w.setRow b0 cur')) (.row e sz (xs.set j x1)) (ι key) := by
    refine ⟨vs.take (j * sz + off) ++ cv ++ vs.drop (j * sz + off + y.length), .inr ⟨b0, cap, cur', by rw [e0]; simp, hc0, hnew, by simpa using hnc, hcm, hcs', ?_⟩, ?_, ?_, by simpa using f4⟩
    · have hl1 : (cur.toList.take (j * sz + off)).length = j * sz + off := by simp; omega
      rw [hcur', hcl, List.length_set]
      simp only []
      rw [← htk]
      apply List.ext_getElem?
      intro q
      simp only [List.getElem?_take, List.getElem?_append, List.getElem?_drop, List.length_append, List.length_take, List.length_drop, hcl, hl1]
      have hcz : cur.toList.length = cap * sz := by simpa using hcs
      rw [hcz]
      repeat' split
      all_goals first | rfl | omega | (exfalso; omega) | skip
      all_goals first | (congr 1; omega) | (simp; omega) | skip
      all_goals first | (rw [List.getElem?_eq_none (by simp; omega)]) | skip
    · rw [hfl]
      exact RDs_keeps kc.d _ _ (RDs_append (RDs_append (RDs_take _ f2) hRD) (RDs_drop _ f2))
    · intro z hz
      rcases List.mem_or_eq_of_mem_set hz with hz | rfl
      · exact f3 z hz
      · exact hx1l
  obtain ⟨m', _⟩ := r.mem.turn hkd hb (setRow_step w b0 _) (by simp) hent
  exact hk ι _ _ ⟨Z, K, Y, hZE, Rel.put_none ⟨m', r.size, fun i => RA_keeps kc _ _ (r.slot i), r.ds.turn ⟨cur, e, _, hg'⟩ (setRow_step w b0 _)⟩ (Grew.refl _) _⟩
end
end Go.AL
