/- AL, part 23: a region that draws, in whose head a new variable is laid and written once. -/
import Derived.Test.YthffbfjnahipcaaA22
namespace Go.AL
set_option linter.unusedVariables false
set_option linter.unusedSimpArgs false

/-- What the pair is: number g1 lays key k, number g2 writes it. -/
structure Pair where
  h : Heap
  k : Nat
  g1 : Nat
  g2 : Nat
  t : TypeId
  sz : Nat
  d : Tmp
  vo : Operand
  zs : List AV
  V : List AV
def Pair.H (p : Pair) (b : Nat → Bool) : Heap := hset p.h p.k (bif b p.g2 then some (.box p.t p.V) else bif b p.g1 then some (.box p.t p.zs) else none)
def Pair.Y (p : Pair) (E : Env) (ops : List Oper) (J : Jt) (i : Nat) (s : Slots) (x : AV) : Prop :=
  (i = p.g1 ∧ x = .ptr p.k 0) ∨
  (i = p.g2 ∧ x = .tup [] ∧ s p.d = .ptr p.k 0 ∧ cellsOf (ev s p.vo) = p.V ∧ cellsOk (ev s p.vo) = true ∧ oneAll p.V = true ∧ Nat.beq p.V.length p.sz = true) ∨
  (i ≠ p.g1 ∧ i ≠ p.g2 ∧ ∃ o, ops[i]? = some o ∧ ∀ b, YA E ops J (p.H b) o s x)
def H2W (p : Pair) (E : Env) (ops : List Oper) (J : Jt) (n i : Nat) (K : Slots → Prop) (s : Slots) : Prop := QB E (p.Y E ops J) K ((ops.take n).drop i) i s

theorem hset_hset (h : Heap) (k : Nat) (a b : Option Ent) : hset (hset h k a) k b = hset h k b := by
  funext i
  by_cases hi : i = k
  · subst hi; rw [hset_same, hset_same]
  · rw [hset_ne _ _ hi, hset_ne _ _ hi, hset_ne _ _ hi]
theorem hset_none {h : Heap} {k : Nat} (hk : h k = none) : hset h k none = h := by
  funext i
  by_cases hi : i = k
  · subst hi; rw [hset_same, hk]
  · rw [hset_ne _ _ hi]
theorem ev_same {s s' : Slots} {x : Operand} (h : ∀ t, x = .tmp t → s' t = s t) : ev s' x = ev s x := by
  cases x <;> first | rfl | exact h _ rfl

section
variable {E : Env} {ops : List Oper} {Q : Exit → St → Prop} {J : Jt} {s : Slots} {h : Heap}

theorem CW_drawn2 (hE : E.Good) (n g1 g2 k : Nat) {id : Nat} (hB : Region.lexTailB .any ops.toArray n = true) {o1 o2 : Oper} {t : TypeId} {ti : TI} {zs V : List AV} {d : Tmp} {vo : Operand}
    (ho1 : ops[g1]? = some o1) (hop1 : o1.op = .alloc t) (hgd1 : o1.guard = none) (hd1 : o1.dst = some d) (hn1 : Nat.ble (d + 1) E.N = true) (ho2 : ops[g2]? = some o2) (hop2 : o2.op = .store t (.tmp d) vo) (hgd2 : o2.guard = none) (hd2 : o2.dst = none)
    (haf : (o2.after.any fun e => Region.binds .any e && Nat.beq e.on g1) = true) (hlt : (Nat.ble (g1 + 1) n && Nat.ble (g2 + 1) n && !Nat.beq g1 g2) = true) (hk : h k = none) (ht : E.T t = some ti) (hz : litCells ti.zero = some zs) (hzl : Nat.beq zs.length ti.size = true)
    (hq : H2W ⟨h, k, g1, g2, t, ti.size, d, vo, zs, V⟩ E ops J n 0 (fun s => OW E ops n Q ⟨J, s, hset h k (some (.box t V))⟩) s) : CW E (.region id ops.toArray true) Q ⟨J, s, h⟩ := fun ι a w r => by
  simp only [Bool.and_eq_true, Bool.not_eq_true'] at hlt
  obtain ⟨⟨hl1, hl2⟩, hne⟩ := hlt
  have hl1 : g1 < n := Nat.le_of_ble_eq_true hl1
  have hl2 : g2 < n := Nat.le_of_ble_eq_true hl2
  have hne : g1 ≠ g2 := fun e => by subst e; simp at hne
  obtain ⟨e, hem, he⟩ := Array.any_eq_true'.1 haf
  simp only [Bool.and_eq_true] at he
  have heon : e.on = g1 := Nat.eq_of_beq_eq_true he.2
  have hzl : zs.length = ti.size := Nat.eq_of_beq_eq_true hzl
  let p : Pair := ⟨h, k, g1, g2, t, ti.size, d, vo, zs, V⟩
  simp only [Region.lexTailB, Bool.and_eq_true, decide_eq_true_eq] at hB
  obtain ⟨⟨⟨⟨hsel, hn⟩, hs⟩, hc⟩, hlex⟩ := hB
  have hn' : n < ops.length := by simpa using hn
  have htl : (ops.take n).length = n := by simp; omega
  have hdl : (ops.drop n).length = ops.toArray.size - n := by simp
  have inv0 : HeadInv .any ops.toArray n (Array.replicate ops.toArray.size false) :=
    ⟨by simp, fun j oj _ hl => (by rw [getD_replicate_false] at hl; cases hl), fun t _ ht => getD_in (by simpa using ht) (getD_replicate_false _ _)⟩
  have hYS : YStable ops (p.Y E ops J) := by
    intro i o s s' x ho hss hy
    rcases hy with hy | ⟨h1, h2, h3, h4, h5, h6⟩ | ⟨h1, h2, o', h3, h4⟩
    · exact .inl hy
    · refine .inr (.inl ?_)
      have hoo : o = o2 := by
        have h1' : i = g2 := h1
        rw [h1', ho2] at ho; exact (Option.some.inj ho).symm
      subst hoo
      have hlook : ∀ t', (Operand.tmp t' = .tmp d ∨ Operand.tmp t' = vo) → t' ∈ o.looksAt ops.toArray := fun t' ht' => by
        simp only [Oper.looksAt, List.mem_append, List.mem_filterMap]
        refine .inl ⟨.tmp t', ?_, rfl⟩
        rw [hop2]
        rcases ht' with h | h
        · rw [h]; simp [Op.operands]
        · rw [h]; simp [Op.operands]
      have e1 : s' d = s d := hss d (hlook d (.inl rfl))
      have e2 : ev s' vo = ev s vo := ev_same fun t' e => hss t' (hlook t' (.inr e.symm))
      refine ⟨h1, h2, ?_, ?_, ?_, h6⟩
      · show s' d = _; rw [e1]; exact h3
      · show cellsOf (ev s' vo) = _; rw [e2]; exact h4
      · show cellsOk (ev s' vo) = _; rw [e2]; exact h5
    · have hoo : o' = o := by rw [ho] at h3; exact (Option.some.inj h3).symm
      subst hoo
      exact .inr (.inr ⟨h1, h2, o', h3, fun b => YA_same hss (h4 b)⟩)
  have H0 := anyB_lex (E := E) (Y := p.Y E ops J) (g := ops.toArray.size - n) hYS hs hc hn (ops.take n) 0 _ s (fun j hj => by
    have hj' : j < n := by rw [htl] at hj; exact hj
    simp [hj']) (by simpa using htl) inv0 (fun j hj => by omega) (by rw [htl]; exact hlex) (by simpa [H2W] using hq)
  have hH0 : p.H (bits (Array.replicate ops.toArray.size false)) = h := by
    have b1 : bits (Array.replicate ops.toArray.size false) g2 = false := getD_replicate_false _ _
    have b2 : bits (Array.replicate ops.toArray.size false) g1 = false := getD_replicate_false _ _
    show hset h k (bif bits _ g2 then _ else bif bits _ g1 then _ else none) = h
    rw [b1, b2]; exact hset_none hk
  have r1 : RelS E ⟨J, s, p.H (bits (Array.replicate ops.toArray.size false))⟩ ι a { w with drawn := w.drawn + 1 } := by
    rw [hH0]
    obtain ⟨Z, K, Y, hZE, r⟩ := r
    exact ⟨Z, K, Y, hZE, r.mem.grew (Grew.drew w), r.size, fun i => RA_keeps (keepsC_grew (K := K) (J := J K Y Z) (Grew.drew w)) _ _ (r.slot i), r.ds.grew (Grew.drew w)⟩
  refine wpIn_region_any hE.ok.mixed ?_
  have hh := wpAnyIn_of_headB (Y := p.Y E ops J) (J := J) (Q' := Post E Q) p.H (g := ops.toArray.size - n) (fun i o listed s x ho inv hi hin hy hdo ι a w r K' hk' => ?_) (fun listed s ι a' w' r' hL => by
    have hb : bits listed g2 = true := hL.1.2 g2 hl2
    have hH : p.H (bits listed) = hset h k (some (.box t V)) := by
      show hset h k (bif bits listed g2 then _ else _) = _
      rw [hb]; rfl
    rw [hH] at r'
    have := wpAnyIn_of_seq (Q' := Post E Q) (ops.drop n) n listed a' w' (fun j => by simp [List.getElem?_drop]) (by rw [hdl]; exact hL.1.1) (hL.2 ι a' w' r')
    rwa [hdl] at this) _ _ _ ι a _ inv0 r1 H0
  · rw [htl] at hh
    rwa [show n + (ops.toArray.size - n) = ops.toArray.size by simp; omega] at hh
  · have hun : listed.getD i true = false := (mem_ready.1 hi).1
    have hst' : ∀ j, j ≠ i → bits (listed.setIfInBounds i true) j = bits listed j := fun j hj => getD_set_ne false (Ne.symm hj)
    have hsz : i < listed.size := by
      rw [inv.size]
      have := (List.getElem?_eq_some_iff.1 ho).1
      simpa using this
    have hseti : bits (listed.setIfInBounds i true) i = true := by simp [bits, hsz]
    rcases hy with ⟨h1, rfl⟩ | ⟨h1, rfl, h3, h4, h5, h6, h7⟩ | ⟨h1, h2, o', h3, h4⟩
    · have h1 : i = g1 := h1
      subst h1
      have hoo : o = o1 := by rw [ho1] at ho; exact (Option.some.inj ho).symm
      subst hoo
      have b1 : bits listed i = false := getD_both hun
      have b2 : bits listed g2 = false := by
        cases hb : bits listed g2 with
        | false => rfl
        | true =>
          have := inv.closed g2 o2 (by simpa using ho2) hb e hem he.1
          rw [heon] at this
          rw [show listed.getD i false = bits listed i from rfl, b1] at this
          cases this
      have hHb : p.H (bits listed) = h := by
        show hset h k (bif bits listed g2 then _ else bif bits listed i then _ else none) = h
        rw [b1, b2]; exact hset_none hk
      have hHa : p.H (bits (listed.setIfInBounds i true)) = hset h k (some (.box t zs)) := by
        show hset h k (bif bits _ g2 then _ else bif bits _ i then _ else none) = _
        rw [hst' g2 (Ne.symm hne), b2, hseti]; rfl
      rw [hHb] at r
      have g := opG_of_OW (E := E) (o := o) (st := ⟨J, s, h⟩) (K := fun st' => st' = ⟨J, pu s o.dst (.ptr k 0), Go.AL.hset h k (some (.box t zs))⟩) hgd1
        (OW_alloc' hE k (o := o) rfl hop1 (by simp [awant, hgd1]) hk ht hz (s' := pu s o.dst (.ptr k 0)) (by rw [hd1]; simp [putS, hn1, pu]) (OW_end rfl ⟨rfl, rfl⟩))
      unfold wpOpIn
      simp only [List.getElem?_toArray, ho]
      rw [if_pos (by simp [Region.wanted, hgd1])]
      refine g ι a w r K' (Post E Q) fun st' ι' a' w' hst r' => ?_
      subst hst
      refine hk' ι' a' w' ?_
      rw [hHa]; exact r'
    · have h1 : i = g2 := h1
      subst h1
      have hoo : o = o2 := by rw [ho2] at ho; exact (Option.some.inj ho).symm
      subst hoo
      have b2 : bits listed i = false := getD_both hun
      have b1 : bits listed g1 = true := by
        obtain ⟨_, o', ho', hall⟩ := mem_ready.1 hi
        have : o' = o := by
          have h' : ops[i]? = some o' := by simpa using ho'
          rw [ho] at h'; exact (Option.some.inj h').symm
        subst this
        have hl := hall e hem he.1
        rw [heon] at hl
        have hlt1 : g1 < listed.size := by rw [inv.size]; have := (List.getElem?_eq_some_iff.1 ho1).1; simpa using this
        simpa [bits, hlt1] using hl
      have hHb : p.H (bits listed) = hset h k (some (.box t zs)) := by
        show Go.AL.hset h k (bif bits listed i then _ else bif bits listed g1 then _ else none) = _
        rw [b1, b2]; rfl
      have hHa : p.H (bits (listed.setIfInBounds i true)) = hset h k (some (.box t V)) := by
        show Go.AL.hset h k (bif bits _ i then _ else _) = _
        rw [hseti]; rfl
      rw [hHb] at r
      have hVl : V.length = ti.size := Nat.eq_of_beq_eq_true h7
      have how : overwrite zs 0 V = V := by
        simp [overwrite, hzl, hVl]
      have g := opG_of_OW (E := E) (o := o) (st := ⟨J, s, Go.AL.hset h k (some (.box t zs))⟩) (K := fun st' => st' = ⟨J, s, Go.AL.hset h k (some (.box t V))⟩) hgd2
        (OW_store' hE (o := o) rfl hop2 (by simp [awant, hgd2]) hd2 ht (k := k) (off := 0) h3 (bt := t) (cs := zs) (vs := V) (hset_same _ _ _) h4 h5 h6 h7 (Nat.ble_eq_true_of_le (by omega)) (OW_end rfl ⟨rfl, by rw [hset_hset, how]⟩))
      unfold wpOpIn
      simp only [List.getElem?_toArray, ho]
      rw [if_pos (by simp [Region.wanted, hgd2])]
      refine g ι a w r K' (Post E Q) fun st' ι' a' w' hst r' => ?_
      subst hst
      refine hk' ι' a' w' ?_
      rw [hHa, hd2]; exact r'
    · have hoo : o' = o := by rw [ho] at h3; exact (Option.some.inj h3).symm
      subst hoo
      have hHs : p.H (bits (listed.setIfInBounds i true)) = p.H (bits listed) := by
        show Go.AL.hset h k (bif bits _ g2 then _ else bif bits _ g1 then _ else none) = Go.AL.hset h k _
        rw [hst' g2 (Ne.symm h2), hst' g1 (Ne.symm h1)]
      refine wpOpIn_of_qA (J := J) (h := p.H (bits listed)) (K := fun s' => s' = pu s o'.dst x) hE r (fun s' a' w' r' hs' => ?_) ?_
      · subst hs'
        refine hk' ι a' w' ?_
        rw [hHs]; exact r'
      · unfold qA
        simp only [ho]
        exact ⟨x, hdo, h4 _, rfl⟩

variable {p : Pair} {n i : Nat} {K : Slots → Prop}
theorem H2_cons {o : Oper} (ho : ops[i]? = some o) (hi : Nat.ble (i + 1) n = true) {x : AV} (hd : dstOk E.N o.dst = true) (hy : p.Y E ops J i s x) (hk : H2W p E ops J n (i + 1) K (pu s o.dst x)) : H2W p E ops J n i K s := by
  unfold H2W at *
  have hi' := Nat.le_of_ble_eq_true hi
  obtain ⟨hlt, rfl⟩ := List.getElem?_eq_some_iff.1 ho
  have hlt2 : i < (ops.take n).length := by simp; omega
  rw [List.drop_eq_getElem_cons hlt2, List.getElem_take]
  exact ⟨x, hd, hy, hk⟩
theorem H2_end (hk : K s) : H2W p E ops J n n K s := by
  unfold H2W
  rw [List.drop_eq_nil_of_le (by simp; omega)]
  exact hk
theorem stepLen_more {T : Nat → Option TI} {h h' : Heap} (hm : ∀ j e, h j = some e → h' j = some e) {t : TypeId} {X R : AV} (hp : stepLen T h t X = some R) : stepLen T h' t X = some R := by
  cases X with
  | row k =>
    cases ht : T t with
    | none => simp [stepLen, ht] at hp
    | some ti =>
      obtain ⟨kk, a, b, c⟩ := ti
      cases kk with
      | slice e =>
        simp only [stepLen, ht] at hp ⊢
        cases hk : h k with
        | none => rw [hk] at hp; cases hp
        | some e => rw [hk] at hp; rw [hm k e hk]; exact hp
      | _ => simp [stepLen, ht] at hp
  | d x =>
    unfold stepLen at hp ⊢
    split at hp <;> simp_all
  | _ =>
    unfold stepLen at hp ⊢
    split at hp <;> simp_all
theorem stepPure_more {T : Nat → Option TI} {h h' : Heap} (hm : ∀ j e, h j = some e → h' j = some e) {s : Slots} {op : Op} {R : AV} (hp : stepPure T h s op = some R) : stepPure T h' s op = some R := by
  cases op with
  | load t x =>
    simp only [stepPure] at hp ⊢
    cases ht : T t with
    | none => rw [ht] at hp; cases hp
    | some ti =>
      rw [ht] at hp
      simp only at hp ⊢
      cases he : ev s x with
      | ptr k o =>
        rw [he] at hp
        simp only at hp ⊢
        cases hk : h k with
        | none => rw [hk] at hp; cases hp
        | some e => rw [hk] at hp; rw [hm k e hk]; exact hp
      | d x => rw [he] at hp; cases x <;> exact hp
      | _ => rw [he] at hp; exact hp
  | call c =>
    obtain ⟨cal, args, ts⟩ := c
    cases cal with
    | builtin bi =>
      cases bi with
      | len =>
        simp only [stepPure] at hp ⊢
        split at hp
        · rename_i h1 h2
          exact stepLen_more hm hp
        · cases hp
      | _ => exact hp
    | _ => exact hp
  | _ => exact hp
/-- m plain operations of the head. -/
theorem H2_run (hE : E.Good) (m : Nat) {s' : Slots} (hpk : p.h p.k = none) (hp : runPure E ops p.h m i s = some s') (hi : Nat.ble (i + m) n = true) (h1 : (Nat.ble (i + m) p.g1 || Nat.ble (p.g1 + 1) i) = true) (h2 : (Nat.ble (i + m) p.g2 || Nat.ble (p.g2 + 1) i) = true)
    (hk : H2W p E ops J n (i + m) K s') : H2W p E ops J n i K s := by
  have more : ∀ b j e, p.h j = some e → p.H b j = some e := fun b j e hj => by
    have hne : j ≠ p.k := by intro h; rw [h, hpk] at hj; cases hj
    show hset p.h p.k _ j = _
    rw [hset_ne _ _ hne]; exact hj
  simp only [Bool.or_eq_true] at h1 h2
  have n1 : ∀ q, i ≤ q → q < i + m → q ≠ p.g1 := fun q a b e => by
    rcases h1 with h | h <;> have := Nat.le_of_ble_eq_true h <;> omega
  have n2 : ∀ q, i ≤ q → q < i + m → q ≠ p.g2 := fun q a b e => by
    rcases h2 with h | h <;> have := Nat.le_of_ble_eq_true h <;> omega
  clear h1 h2
  induction m generalizing i s with
  | zero => simp only [runPure, Option.some.injEq] at hp; subst hp; exact hk
  | succ m ih =>
    have hi' := Nat.le_of_ble_eq_true hi
    have hi1 : Nat.ble (i + 1) n = true := Nat.ble_eq_true_of_le (by omega)
    have hi2 : Nat.ble (i + 1 + m) n = true := Nat.ble_eq_true_of_le (by omega)
    have a1 := n1 i (Nat.le_refl _) (by omega)
    have a2 := n2 i (Nat.le_refl _) (by omega)
    simp only [runPure] at hp
    split at hp
    · rename_i o ho
      split at hp
      · rename_i hw
        split at hp
        · rename_i R hR
          split at hp
          · rename_i s1 hs1
            obtain ⟨hd, rfl⟩ := pu_of_putS hs1
            refine H2_cons ho hi1 hd (.inr (.inr ⟨a1, a2, o, ho, fun b => .inl ⟨hw, LY_of_gives hE (stepPure_notDefer hR) fun Z K Y ι a w m hl => stepPure_ok (K := K) (J := J K Y Z) hE.ok.T m o (look_ev hl) (stepPure_more (more b) hR)⟩⟩)) (ih hp hi2 ?_ (fun q a b => n1 q (by omega) (by omega)) (fun q a b => n2 q (by omega) (by omega)))
            rwa [show i + 1 + m = i + (m + 1) by omega]
          · cases hp
        · cases hp
      · rename_i hw
        split at hp
        · rename_i s1 hs1
          obtain ⟨hd, rfl⟩ := pu_of_putS hs1
          refine H2_cons ho hi1 hd (.inr (.inr ⟨a1, a2, o, ho, fun b => .inr ⟨hw, rfl⟩⟩)) (ih hp hi2 ?_ (fun q a b => n1 q (by omega) (by omega)) (fun q a b => n2 q (by omega) (by omega)))
          rwa [show i + 1 + m = i + (m + 1) by omega]
        · cases hp
      · cases hp
    · cases hp
theorem H2_split (d : Nat) {b : Bool} (hs : s d = .d (.lit (.bool b))) (ht : b = true → H2W p E ops J n i K (sset s d (.d (.lit (.bool true))))) (hf : b = false → H2W p E ops J n i K (sset s d (.d (.lit (.bool false))))) : H2W p E ops J n i K s := by
  cases b
  · have := hf rfl; rwa [sset_self hs] at this
  · have := ht rfl; rwa [sset_self hs] at this
theorem H2_call (hE : E.Good) {f : Nat} {L : List AV} {R : AV} (hc : Does E.P f L noHeap R) {s' : Slots} {o : Oper} {fo : Operand} {args : Array Operand} {ts : Array TypeId} (ho : ops[i]? = some o) (hi : Nat.ble (i + 1) n = true) (hop : o.op = .call ⟨.value fo, args, ts⟩)
    (hw : awant ops o s = some true) (hL : callArgs s fo args.toList = some (f, L)) (hkf : kfs L = true) (hR : kf R = true) (hs : putS E.N s o.dst R = some s') (hn : (!Nat.beq i p.g1 && !Nat.beq i p.g2) = true) (hk : H2W p E ops J n (i + 1) K s') : H2W p E ops J n i K s := by
  obtain ⟨hd, rfl⟩ := pu_of_putS hs
  simp only [Bool.and_eq_true, Bool.not_eq_true'] at hn
  exact H2_cons ho hi hd (.inr (.inr ⟨fun e => by rw [e] at hn; simp at hn, fun e => by rw [e] at hn; simp at hn, o, ho, fun b => .inl ⟨hw, LY_call hE hc hop hL hkf hR⟩⟩)) hk
theorem H2_loc (hE : E.Good) {o : Oper} {R : AV} (hl : ∀ b, Loc E ops J (p.H b) o s R) (ho : ops[i]? = some o) (hi : Nat.ble (i + 1) n = true) (hw : awant ops o s = some true) {s' : Slots} (hs : putS E.N s o.dst R = some s') (hn : (!Nat.beq i p.g1 && !Nat.beq i p.g2) = true) (hk : H2W p E ops J n (i + 1) K s') : H2W p E ops J n i K s := by
  obtain ⟨hd, rfl⟩ := pu_of_putS hs
  simp only [Bool.and_eq_true, Bool.not_eq_true'] at hn
  exact H2_cons ho hi hd (.inr (.inr ⟨fun e => by rw [e] at hn; simp at hn, fun e => by rw [e] at hn; simp at hn, o, ho, fun b => .inl ⟨hw, LY_of_gives hE (hl b).1 fun Z K Y ι a w m hlk => (hl b).2 Z K Y ι a w m (look_ev hlk)⟩⟩)) hk
theorem H2_alloc {o : Oper} (ho : ops[p.g1]? = some o) (hi : Nat.ble (p.g1 + 1) n = true) {s' : Slots} (hs : putS E.N s o.dst (.ptr p.k 0) = some s') (hk : H2W p E ops J n (p.g1 + 1) K s') : H2W p E ops J n p.g1 K s := by
  obtain ⟨hd, rfl⟩ := pu_of_putS hs
  exact H2_cons ho hi hd (.inl ⟨rfl, rfl⟩) hk
theorem H2_store {o : Oper} (ho : ops[p.g2]? = some o) (hi : Nat.ble (p.g2 + 1) n = true) (hd : o.dst = none) (hp : s p.d = .ptr p.k 0) (hv : cellsOf (ev s p.vo) = p.V) (hc : cellsOk (ev s p.vo) = true) (h1 : oneAll p.V = true) (hl : Nat.beq p.V.length p.sz = true) (hk : H2W p E ops J n (p.g2 + 1) K s) : H2W p E ops J n p.g2 K s := by
  refine H2_cons ho hi (x := .tup []) (by rw [hd]; rfl) (.inr (.inl ⟨rfl, rfl, hp, hv, hc, h1, hl⟩)) ?_
  rw [hd]; exact hk
end
end Go.AL
