/- Parts of an abstract logic over the kit's walks, and walks in it: A60, A61, A62, A63, A64. -/
import Derived.Test.YtchpllgeahnmmaaDoorAe
import Derived.Test.YtchpllgeahnmmaaDoorAf
namespace Go.AL
set_option linter.unusedVariables false
set_option linter.unusedSimpArgs false
def HA1 (h : Heap) (q k : Nat) (e : Ent) : (Nat → Bool) → Heap := fun b => bif b q then hset h k (some e) else h
section
variable {h : Heap} {q k : Nat} {e : Ent}
theorem ha1_dep {qs : List Nat} (hq : q ∈ qs) : ∀ b b' : Nat → Bool, (∀ j ∈ qs, b j = b' j) → HA1 h q k e b = HA1 h q k e b' := fun b b' hb => by unfold HA1; rw [hb q hq]
theorem ha1_more (hk : h k = none) : ∀ (b : Nat → Bool) j x, h j = some x → HA1 h q k e b j = some x := fun b j x hj => by
  have hne : j ≠ k := fun e => by rw [e, hk] at hj; cases hj
  unfold HA1
  cases b q with
  | true => simp only [cond_true]; rw [hset_ne _ _ hne]; exact hj
  | false => exact hj
end
section
variable {E : Env} {ops : List Oper} {J : Jt} {s : Slots} {h : Heap} {n i : Nat} {t : Eff} {K : Slots → Prop}
theorem HX_callW (hE : E.Good) {Tab : World → Prop} {f : Nat} {L : List AV} {R : AV} (hc : DoesW E.P Tab f L R) (hJ : Tells Tab J) {s' : Slots} {o : Oper} {fo : Operand} {args : Array Operand} {ts : Array TypeId} (ho : ops[i]? = some o) (hi : Nat.ble (i + 1) n = true) (hop : o.op = .call ⟨.value fo, args, ts⟩)
    (hw : awant ops o s = some true) (hL : callArgs s fo args.toList = some (f, L)) (hkf : kfs L = true) (hR : kf R = true) (hs : putS E.N s o.dst R = some s') (hq : (t.qs.any fun q => Nat.beq q i) = false) (hnk : (t.nk.all fun p => Nat.beq p.1 i || nokey p.2 R) = true) (hk : HXW t E ops J n (i + 1) K s') : HXW t E ops J n i K s := by
  obtain ⟨hd, rfl⟩ := pu_of_putS hs
  exact HX_cons ho hi hd ⟨hnk, o, ho, .inr ⟨hq, fun b _ => .inl ⟨hw, LY_callW hE hc hJ hop hL hkf hR⟩⟩⟩ hk
theorem HX_own (hE : E.Good) {f : Nat} {L : List AV} {e : TypeId} {sz : Nat} {ys : List (List D)} {R : AV} (hc : Does E.P f L (oneRow e sz ys) R) {k : Nat} {o : Oper} {fo : Operand} {args : Array Operand} {ts : Array TypeId} (ho : ops[i]? = some o) (hi : Nat.ble (i + 1) n = true)
    (hop : o.op = .call ⟨.value fo, args, ts⟩) (hw : awant ops o s = some true) (hL : callArgs s fo args.toList = some (f, L)) (hkf : kfs L = true) {s' : Slots} (hs : putS E.N s o.dst (rk 0 k R) = some s') (hk0 : h k = none) (hk : HXW ⟨[i], HA1 h i k (.row e sz ys), []⟩ E ops J n (i + 1) K s') : HXW ⟨[i], HA1 h i k (.row e sz ys), []⟩ E ops J n i K s := by
  have hd := (pu_of_putS hs).1
  refine HX_effG ho hi hw (by simp) rfl hs (fun s1 hs1 b hb _ => ?_) hk
  have e0 : HA1 h i k (.row e sz ys) b = h := by unfold HA1; rw [hb.2.1]; rfl
  have e1 : HA1 h i k (.row e sz ys) (bset b i) = hset h k (some (.row e sz ys)) := by unfold HA1; rw [bset_self]; rfl
  show OW E _ 0 (fun e' st' => e' = .normal ∧ LE E st' ⟨J, pu s1 o.dst _, HA1 h i k (.row e sz ys) (bset b i)⟩) ⟨J, s1, HA1 h i k (.row e sz ys) b⟩
  rw [e0, e1]
  exact OW_callOwn' hE k hc (o := { o with guard := none }) rfl hop (by simp [awant]) ((callArgs_same hop hs1).trans hL) hkf hk0 (s' := pu s1 o.dst (rk 0 k R)) (putS_pu hd) (OW_end rfl ⟨rfl, LE.refl _ _⟩)
end
end Go.AL
namespace Go.AL
set_option linter.unusedVariables false
set_option linter.unusedSimpArgs false
section
variable {E : Env} {ops : List Oper} {J : Jt} {s : Slots} {h : Heap}
theorem loc_appendNil (hE : E.Good) {o : Oper} {t e : TypeId} {so xo : Operand} (hop : o.op = .call ⟨.builtin .append, #[so, xo], #[t, t]⟩) {z1 z2 : Nat} {z3 : List Value} (ht : E.T t = some ⟨.slice e, z1, z2, z3⟩)
    {k : TK} {sz bts : Nat} {z6 : List Value} (hte : E.T e = some ⟨k, sz, bts, z6⟩) (hpos : Nat.ble 1 sz = true) (hso : ev s so = .d (.lit (.slice none 0 0))) {ys : List (List D)} (hxo : ev s xo = .d (.sl sz bts ys))
    (hn : ys.length ≤ 140737488355328) (hb : ys.length * bts ≤ 140737488355328) (hsz : ∀ y ∈ ys, y.length = sz) : Loc E ops J h o s (.d (.sl sz bts ys)) := by
  refine ⟨(by rw [hop]; intro c hc; cases hc), fun Z K Y ι a w m hl => ?_⟩
  obtain ⟨dst, op, ty, pos, af, gd⟩ := o
  simp only at hop
  subst hop
  have h1 := hl so (by simp [Op.operands, Call.operands])
  have h2 := hl xo (by simp [Op.operands, Call.operands])
  rw [hso] at h1
  rw [hxo] at h2
  obtain ⟨e1, _⟩ := RA_lit.1 h1
  obtain ⟨news, g1, g2, g3⟩ := Src_of h2
  obtain ⟨v', w', hr, q1, q2, q3⟩ := run_append_any hE.ok.T ht (ty := ty) hte hpos (n := 0) (m := ys.length) (v := .slice none 0 0) (vs := []) (.inl ⟨none, rfl, rfl, rfl⟩) (by simp) g1 g3 (RDs_one g2) (by omega) (by simpa using hb)
  have hgr : Grew w w' := ⟨q2.os, q2.tape, q2.output, q2.size, fun b hb => q2.block b ⟨hb, by simp [blk]⟩⟩
  refine ⟨v', w', exec_append (by rw [e1]; exact hr), hgr, ?_⟩
  have kk : KeepsC (cx Z h ι w) (cx Z h ι w') := keepsC_grew (K := K) (J := J K Y Z) hgr
  have g2' := RDs_keeps kk.d _ _ g2
  simp only [RA, RD]
  rcases q1 with ⟨a0, e0, hz, hv⟩ | ⟨g, cap, cur, e0, hc0, hg, hnc, hcm, hcs, htk⟩
  · have hy : ys = [] := List.eq_nil_of_length_eq_zero (by omega)
    subst hy
    exact ⟨a0, 0, by rw [e0]; rfl, by simp, by simp, by simp, .inl rfl⟩
  · have hbk : blk v' = some g := by rw [e0]; simp [blk]; omega
    have hnew : w.heap.size ≤ g := by
      rcases (q3 g hbk).2 with h | h
      · simp [blk] at h
      · exact h
    refine ⟨some ⟨g, 0, none⟩, cap, by rw [e0, Nat.zero_add], by omega, hb, hn, .inr ⟨g, 0, rfl, fun hm => ?_, ⟨_, _, _, hg⟩, RCs_of_flat hsz (RC_of_list g2' fun j v hj => ?_)⟩⟩
    · rcases hm with hz | ⟨j, hj, hjb⟩
      · have := m.Zlt g hz; omega
      · have := (m.own j g hj hjb).2.2; omega
    · rw [cell_of_row w' g _ cur e (0, 0) hg]
      have htk' : cur.toList.take ((0 + ys.length) * sz) = news := by simpa using htk
      rw [← htk', List.getElem?_take] at hj
      split at hj
      · simpa using hj
      · cases hj
end
end Go.AL
namespace Go.AL
set_option linter.unusedVariables false
set_option linter.unusedSimpArgs false
theorem ev_look {ops : List Oper} {o : Oper} {s s1 : Slots} (hs : ∀ t ∈ o.looksAt ops.toArray, s1 t = s t) {x : Operand} (hx : x ∈ o.op.operands) : ev s1 x = ev s x :=
  ev_same fun t e => hs t (by
    simp only [Oper.looksAt, List.mem_append, List.mem_filterMap]
    exact .inl ⟨x, by simpa using hx, by rw [e]⟩)
section
variable {E : Env} {ops : List Oper} {J : Jt} {s : Slots} {h : Heap} {l : Effs} {n i : Nat} {K : Slots → Prop}
theorem HG_appendNil (hE : E.Good) {key : Nat} {o : Oper} {t e : TypeId} {so xo : Operand} {sz : Nat} {ys : List (List D)} (hm : l.find? (fun x => Nat.beq x.1 i) = some (i, key, .row e sz ys)) (ho : ops[i]? = some o) (hi : Nat.ble (i + 1) n = true) (hop : o.op = .call ⟨.builtin .append, #[so, xo], #[t, t]⟩) (hgd : o.guard = none)
    {z1 z2 : Nat} {z3 : List Value} (ht : E.T t = some ⟨.slice e, z1, z2, z3⟩) {k : TK} {bts : Nat} {z6 : List Value} (hte : E.T e = some ⟨k, sz, bts, z6⟩) (hpos : Nat.ble 1 sz = true) (hso : ev s so = .d (.lit (.slice none 0 0))) (hxo : ev s xo = .d (.sl sz bts ys))
    (hn : ys.length ≤ 140737488355328) (hb : ys.length * bts ≤ 140737488355328) {s' : Slots} (hs : putS E.N s o.dst (.row key) = some s') (hk : HGW h l E ops J n (i + 1) K s') : HGW h l E ops J n i K s := by
  obtain ⟨hd, rfl⟩ := pu_of_putS hs
  refine HG_cons ho hi hd (.inl ⟨key, _, o, mem_find hm, ho, hgd, fun s1 b hs1 hbi hbk => ?_⟩) hk
  refine opG_of_OW hgd (OW_appendNil' hE key (o := o) rfl hop (by simp [awant, hgd]) hbk ht hte hpos
    ((ev_look hs1 (by rw [hop]; simp [Op.operands, Call.operands])).trans hso) (.inl ((ev_look hs1 (by rw [hop]; simp [Op.operands, Call.operands])).trans hxo)) hn hb (s' := pu s1 o.dst (.row key)) (putS_pu hd) (OW_end rfl ⟨rfl, rfl⟩))
theorem partsA_same {s s1 : Slots} {sz : Nat} : ∀ (parts : List (Nat × Operand)) (i : Nat), (∀ x ∈ parts, ev s1 x.2 = ev s x.2) → partsA s1 sz i parts = partsA s sz i parts
  | [], i, _ => rfl
  | (j, x) :: r, i, hh => by
    simp only [partsA]
    rw [hh (j, x) (List.mem_cons_self ..), partsA_same r (i + 1) fun y hy => hh y (List.mem_cons_of_mem _ hy)]
theorem HG_litsA (hE : E.Good) {key : Nat} {o : Oper} {t e : TypeId} {len : Nat} {parts : Array (Nat × Operand)} {sz : Nat} {cs : List AV} (hm : l.find? (fun x => Nat.beq x.1 i) = some (i, key, .rowA e sz len cs)) (ho : ops[i]? = some o) (hi : Nat.ble (i + 1) n = true) (hop : o.op = .buildSlice t len parts) (hgd : o.guard = none)
    {z1 z2 : Nat} {z3 : List Value} (ht : E.T t = some ⟨.slice e, z1, z2, z3⟩) {ti : TI} (hte : E.T e = some ti) (hsz : ti.size = sz) (hpos : Nat.ble 1 ti.size = true) (hlen : parts.size = len) (hl1 : Nat.ble 1 len = true) (hsmall : Nat.ble (len * ti.size) 16777216 = true) (hl2 : Nat.ble len 16777216 = true) (hx : partsA s ti.size 0 parts.toList = some cs)
    {s' : Slots} (hs : putS E.N s o.dst (.row key) = some s') (hk : HGW h l E ops J n (i + 1) K s') : HGW h l E ops J n i K s := by
  subst hsz
  obtain ⟨hd, rfl⟩ := pu_of_putS hs
  refine HG_cons ho hi hd (.inl ⟨key, _, o, mem_find hm, ho, hgd, fun s1 b hs1 hbi hbk => ?_⟩) hk
  have hx1 : partsA s1 ti.size 0 parts.toList = some cs := by
    rw [← hx]
    refine partsA_same _ _ fun x hxm => ev_look hs1 ?_
    rw [hop]
    simp only [Op.operands]
    simp
    exact ⟨x.1, by simpa using hxm⟩
  refine opG_of_OW hgd (OW_litsOwnA' hE key (o := o) rfl hop (by simp [awant, hgd]) hbk ht hte hpos hlen hl1 hsmall hl2 hx1 (s' := pu s1 o.dst (.row key)) (putS_pu hd) (OW_end rfl ⟨rfl, rfl⟩))
end
section
variable {E : Env} {ops : List Oper} {J : Jt} {s : Slots} {p : Grow} {n i : Nat} {K : Slots → Prop}
theorem grow_more {kb : Nat} {e0 : Ent} (hk : p.h p.k = none) (hb : p.h kb = some e0) (hu : unkE p.k e0 = e0) : ∀ (b : Nat → Bool) (j : Nat) (e : Ent), hset noHeap kb (some e0) j = some e → p.H b j = some e := fun b j e hj => by
  by_cases hjk : j = kb
  · subst hjk
    rw [hset_same] at hj
    cases hj
    have hne : j ≠ p.k := fun e => by rw [e, hk] at hb; cases hb
    unfold Grow.H Grow.h2 Grow.h1
    cases b p.g2 with
    | true =>
      simp only [cond_true]
      rw [hset_ne _ _ hne]
      unfold unkH
      rw [hset_ne _ _ hne, hb]
      simp [hu]
    | false =>
      cases b p.g1 with
      | true => simp only [cond_true, cond_false]; rw [hset_ne _ _ hne]; exact hb
      | false => exact hb
  · rw [hset_ne _ _ hjk] at hj; simp [noHeap] at hj
theorem H3_oneB (hE : E.Good) {o : Oper} {R : AV} {h0 : Heap} (more : ∀ (b : Nat → Bool) (j : Nat) (e : Ent), h0 j = some e → p.H b j = some e) (ho : ops[i]? = some o) (hw : awant ops o s = some true) (hR : stepPure E.T h0 s o.op = some R) (hi : Nat.ble (i + 1) n = true) {s' : Slots} (hs : putS E.N s o.dst R = some s') (hn : (!Nat.beq i p.g1 && !Nat.beq i p.g2 && notDst p.d o.dst && nokey p.k R) = true)
    (hk : H3W p E ops J n (i + 1) K s') : H3W p E ops J n i K s := by
  obtain ⟨hd, rfl⟩ := pu_of_putS hs
  simp only [Bool.and_eq_true, Bool.not_eq_true'] at hn
  exact H3_cons ho hi hd (.inr (.inr ⟨fun e => by rw [e] at hn; simp at hn, fun e => by rw [e] at hn; simp at hn, hn.2, o, ho, notDst_ne hn.1.2, fun b => .inl ⟨hw, LY_of_gives hE (stepPure_notDefer hR) fun Z K Y ι a w m hl => stepPure_ok (K := K) (J := J K Y Z) hE.ok.T m o (look_ev hl) (stepPure_more (h := h0) (more b) hR)⟩⟩)) hk
end
end Go.AL
namespace Go.AL
set_option linter.unusedVariables false
set_option linter.unusedSimpArgs false
structure EffY where
  qs : List Nat
  H : (Nat → Bool) → Heap
  nk : List (Nat × Nat)
  stale : List (Nat × Nat)
def mkIn (mk : List (Nat × Nat)) (q j : Nat) : Bool := mk.any fun p => Nat.beq p.1 q && Nat.beq p.2 j
def dstIn (mk : List (Nat × Nat)) (q : Nat) : Option Tmp → Bool
  | some d => mkIn mk q d
  | none => false
def nkOk (t : EffY) (i : Nat) (o : Oper) (x : AV) : Bool := t.nk.all fun p => Nat.beq p.1 i || (nokey p.2 x || dstIn t.stale p.1 o.dst)
def mask (mk : List (Nat × Nat)) (b : Nat → Bool) (s : Slots) : Slots := fun j => bif mk.any (fun p => Nat.beq p.2 j && b p.1) then .any else s j
def lookB (mk : List (Nat × Nat)) (ops : List Oper) (i : Nat) (o : Oper) : Bool :=
  mk.all fun p => !((o.looksAt ops.toArray).any (Nat.beq p.2)) || (Nat.beq p.1 i || (match ops[p.1]? with | some oq => aft oq i | none => false))
def lookAll (mk : List (Nat × Nat)) (ops : List Oper) (n : Nat) : Bool := (List.range n).all fun i => match ops[i]? with | some o => lookB mk ops i o | none => true
def INy (t : EffY) (b : Nat → Bool) (s : Slots) : Prop := ∀ q k, (q, k) ∈ t.nk → b q = false → ∀ j, mkIn t.stale q j = false → nokey k (s j) = true
def YY (t : EffY) (E : Env) (ops : List Oper) (J : Jt) (i : Nat) (s : Slots) (x : AV) : Prop :=
  ∃ o, ops[i]? = some o ∧ nkOk t i o x = true ∧
  (((t.qs.any fun q => Nat.beq q i) = true ∧ awant ops o s = some true ∧ ∀ s1, (∀ t ∈ o.looksAt ops.toArray, s1 t = s t) → ∀ b, Rdy ops b i o → INy t b s1 → OpG E o ⟨J, s1, t.H b⟩ (fun st' => LE E st' ⟨J, mask t.stale (bset b i) (pu s1 o.dst x), t.H (bset b i)⟩)) ∨
   ((t.qs.any fun q => Nat.beq q i) = false ∧ ∀ b, Rdy ops b i o → YA E ops J (t.H b) o s x))
def HYW (t : EffY) (E : Env) (ops : List Oper) (J : Jt) (n i : Nat) (K : Slots → Prop) (s : Slots) : Prop := QB E (YY t E ops J) K ((ops.take n).drop i) i s
theorem bset_le {b : Nat → Bool} {i j : Nat} (h : b j = true) : bset b i j = true := by
  unfold bset; cases Nat.beq j i <;> simp [h]
theorem mask_le {mk : List (Nat × Nat)} {b b' : Nat → Bool} (hb : ∀ j, b j = true → b' j = true) {j : Nat} (h : mk.any (fun p => Nat.beq p.2 j && b' p.1) = false) : mk.any (fun p => Nat.beq p.2 j && b p.1) = false := by
  rw [List.any_eq_false] at h ⊢
  intro p hp hq
  simp only [Bool.and_eq_true] at hq
  exact h p hp (by simp only [Bool.and_eq_true]; exact ⟨hq.1, hb _ hq.2⟩)
theorem mask_pu {mk : List (Nat × Nat)} {b b' : Nat → Bool} (hb : ∀ j, b j = true → b' j = true) (s : Slots) (dst : Option Tmp) (x : AV) : mask mk b' (pu (mask mk b s) dst x) = mask mk b' (pu s dst x) := by
  funext j
  unfold mask
  cases h : mk.any (fun p => Nat.beq p.2 j && b' p.1) with
  | true => rfl
  | false =>
    have h0 := mask_le hb h
    simp only [cond_false]
    cases dst with
    | none => show (bif _ then AV.any else s j) = s j; rw [h0]; rfl
    | some d =>
      by_cases hjd : j = d
      · subst hjd; simp only [pu, sset_same]
      · simp only [pu]; rw [sset_ne _ _ hjd, sset_ne _ _ hjd]; show (bif _ then AV.any else s j) = s j; rw [h0]; rfl
theorem RelS_mask {E : Env} {J : Jt} {s : Slots} {h : Heap} {ι : Nat → Value} {a : Act} {w : World} (mk : List (Nat × Nat)) (b : Nat → Bool) (r : RelS E ⟨J, s, h⟩ ι a w) : RelS E ⟨J, mask mk b s, h⟩ ι a w := by
  obtain ⟨Z, K, Y, hZ, r⟩ := r
  refine ⟨Z, K, Y, hZ, r.mem, r.size, fun i => ?_, r.ds⟩
  show RA _ (bif _ then AV.any else s i) _
  cases mk.any (fun p => Nat.beq p.2 i && b p.1) with
  | true => trivial
  | false => exact r.slot i
section
variable {E : Env} {ops : List Oper} {Y : Nat → Slots → AV → Prop}
theorem wpAnyIn_of_headM {J : Jt} (M : (Nat → Bool) → Slots → Slots) (H : (Nat → Bool) → Heap) (I : (Nat → Bool) → Slots → Prop) {n g : Nat} {L : Array Bool → Slots → Prop} {Q' : Exit → Act → World → Prop}
    (hI : ∀ i o listed s x, ops[i]? = some o → HeadInv .any ops.toArray n listed → Y i s x → I (bits listed) s → I (bits (listed.setIfInBounds i true)) (pu s o.dst x))
    (hop : ∀ i o listed s x, ops[i]? = some o → HeadInv .any ops.toArray n listed → i ∈ Region.ready .any ops.toArray listed → i < n → I (bits listed) s → Y i s x → dstOk E.N o.dst = true → ∀ ι a w, RelS E ⟨J, M (bits listed) s, H (bits listed)⟩ ι a w → ∀ (K' : Act → World → Prop),
      (∀ ι' a' w', RelS E ⟨J, M (bits (listed.setIfInBounds i true)) (pu s o.dst x), H (bits (listed.setIfInBounds i true))⟩ ι' a' w' → K' a' w') → wpOpIn E.F E.n E.P ops.toArray Q' i K' a w)
    (hL : ∀ listed s ι a w, RelS E ⟨J, M (bits listed) s, H (bits listed)⟩ ι a w → L listed s → wpAnyIn E.F E.n E.P .any ops.toArray Q' g listed a w) :
    ∀ (f : Nat) (listed : Array Bool) (s : Slots) (ι : Nat → Value) (a : Act) (w : World), HeadInv .any ops.toArray n listed → I (bits listed) s → RelS E ⟨J, M (bits listed) s, H (bits listed)⟩ ι a w → anyB E ops Y n L f listed s → wpAnyIn E.F E.n E.P .any ops.toArray Q' (f + g) listed a w
  | 0, listed, s, ι, a, w, _, _, r, hh => by rw [Nat.zero_add]; exact hL _ _ _ _ _ r hh
  | f + 1, listed, s, ι, a, w, inv, hS, r, hh => by
    rw [show f + 1 + g = (f + g) + 1 by omega]
    refine ⟨fun h0 => absurd h0 hh.1, fun i hi => ?_⟩
    obtain ⟨hin, hq⟩ := hh.2 i hi
    obtain ⟨hun, o, ho, _⟩ := mem_ready.1 hi
    have ho' : ops[i]? = some o := by simpa using ho
    unfold qB at hq
    simp only [ho'] at hq
    obtain ⟨x, h1, h2, h3⟩ := hq
    have hS' := hI i o listed s x ho' inv h2 hS
    exact hop i o listed s x ho' inv hi hin hS h2 h1 ι a w r _ fun ι' a' w' r' => wpAnyIn_of_headM M H I hI hop hL f _ _ ι' a' w' (inv.set hi hin) hS' r' h3
end
section
variable {E : Env} {ops : List Oper} {Q : Exit → St → Prop} {J : Jt} {s : Slots} {h : Heap}
theorem CW_drawnY (hE : E.Good) (n : Nat) (t : EffY) {id : Nat} (hB : Region.lexTailB .any ops.toArray n = true) (hlk : lookAll t.stale ops n = true) (hqn : ((t.qs.all fun q => Nat.ble (q + 1) n) && (t.stale.all fun p => Nat.ble (p.1 + 1) n)) = true) (hdep : ∀ b b' : Nat → Bool, (∀ q ∈ t.qs, b q = b' q) → t.H b = t.H b') (hS : INy t (fun _ => false) s) (hle : LE E ⟨J, s, h⟩ ⟨J, s, t.H (fun _ => false)⟩)
    (hq : HYW t E ops J n 0 (fun s => OW E ops n Q ⟨J, mask t.stale (fun _ => true) s, t.H (fun _ => true)⟩) s) : CW E (.region id ops.toArray true) Q ⟨J, s, h⟩ := CW.le hle fun ι a w r => by
  simp only [Region.lexTailB, Bool.and_eq_true, decide_eq_true_eq] at hB
  obtain ⟨⟨⟨⟨hsel, hn⟩, hs⟩, hc⟩, hlex⟩ := hB
  simp only [Bool.and_eq_true] at hqn
  have hn' : n < ops.length := by simpa using hn
  have htl : (ops.take n).length = n := by simp; omega
  have hdl : (ops.drop n).length = ops.toArray.size - n := by simp
  have inv0 : HeadInv .any ops.toArray n (Array.replicate ops.toArray.size false) :=
    ⟨by simp, fun j oj _ hl => (by rw [getD_replicate_false] at hl; cases hl), fun t _ ht => getD_in (by simpa using ht) (getD_replicate_false _ _)⟩
  have hYS : YStable ops (YY t E ops J) := by
    intro i o s s' x ho hss hy
    obtain ⟨o', g1, g0, g2⟩ := hy
    have hoo : o' = o := by rw [ho] at g1; exact (Option.some.inj g1).symm
    subst hoo
    refine ⟨o', g1, g0, ?_⟩
    rcases g2 with ⟨g2, g3, g4⟩ | ⟨g2, g3⟩
    · exact .inl ⟨g2, (awant_same hss).trans g3, fun s1 hs1 => g4 s1 fun t ht => (hs1 t ht).trans (hss t ht)⟩
    · exact .inr ⟨g2, fun b hb => YA_same hss (g3 b hb)⟩
  have H0 := anyB_lex (E := E) (Y := YY t E ops J) (g := ops.toArray.size - n) hYS hs hc hn (ops.take n) 0 _ s (fun j hj => by
    have hj' : j < n := by rw [htl] at hj; exact hj
    simp [hj']) (by simpa using htl) inv0 (fun j hj => by omega) (by rw [htl]; exact hlex) (by simpa [HYW] using hq)
  have b0 : bits (Array.replicate ops.toArray.size false) = fun _ => false := by funext q; exact getD_replicate_false _ _
  have r1 : RelS E ⟨J, mask t.stale (bits (Array.replicate ops.toArray.size false)) s, t.H (bits (Array.replicate ops.toArray.size false))⟩ ι a { w with drawn := w.drawn + 1 } := by
    refine RelS_mask _ _ ?_
    rw [b0]
    obtain ⟨Z, K, Y, hZE, r⟩ := r
    exact ⟨Z, K, Y, hZE, r.mem.grew (Grew.drew w), r.size, fun i => RA_keeps (keepsC_grew (K := K) (J := J K Y Z) (Grew.drew w)) _ _ (r.slot i), r.ds.grew (Grew.drew w)⟩
  refine wpIn_region_any hE.ok.mixed ?_
  have hh := wpAnyIn_of_headM (Y := YY t E ops J) (J := J) (Q' := Post E Q) (mask t.stale) t.H (fun b s => INy t b s) (g := ops.toArray.size - n)
    (fun i o listed s x ho inv hy hSl => fun q k hm hbq j hj => by
      obtain ⟨o', g1, g0, _⟩ := hy
      have hoo : o' = o := by rw [ho] at g1; exact (Option.some.inj g1).symm
      subst hoo
      have hsz : i < listed.size := by
        rw [inv.size]
        have := (List.getElem?_eq_some_iff.1 ho).1
        simpa using this
      rw [bits_set hsz] at hbq
      have hiq : Nat.beq q i = false := by
        cases hb : Nat.beq q i with
        | false => rfl
        | true => unfold bset at hbq; rw [hb] at hbq; cases hbq
      have hbq' : bits listed q = false := by unfold bset at hbq; rw [hiq] at hbq; exact hbq
      have hx := List.all_eq_true.1 g0 _ hm
      simp only [hiq, Bool.false_or, Bool.or_eq_true] at hx
      have h0 := hSl q k hm hbq' j hj
      cases hd : o'.dst with
      | none => exact h0
      | some d =>
        by_cases hjd : j = d
        · subst hjd
          simp only [pu, sset_same]
          rcases hx with h | h
          · exact h
          · rw [hd] at h; simp only [dstIn] at h; rw [hj] at h; cases h
        · simp only [pu]; rw [sset_ne _ _ hjd]; exact h0)
    (fun i o listed s x ho inv hi hin hSl hy hdo ι a w r K' hk' => ?_) (fun listed s ι a' w' r' hL => by
    have r' : RelS E ⟨J, mask t.stale (bits listed) s, t.H (bits listed)⟩ ι a' w' := r'
    have hm : mask t.stale (bits listed) s = mask t.stale (fun _ => true) s := by
      funext j
      unfold mask
      have : (t.stale.any fun p => Nat.beq p.2 j && bits listed p.1) = t.stale.any fun p => Nat.beq p.2 j && true := by
        refine Bool.eq_iff_iff.2 ⟨fun h => ?_, fun h => ?_⟩
        · obtain ⟨p, hp, hq⟩ := List.any_eq_true.1 h
          simp only [Bool.and_eq_true] at hq
          exact List.any_eq_true.2 ⟨p, hp, by simp [hq.1]⟩
        · obtain ⟨p, hp, hq⟩ := List.any_eq_true.1 h
          simp only [Bool.and_eq_true] at hq
          refine List.any_eq_true.2 ⟨p, hp, ?_⟩
          rw [show bits listed p.1 = true from hL.1.2 p.1 (Nat.le_of_ble_eq_true (List.all_eq_true.1 hqn.2 p hp))]
          simp [hq.1]
      rw [this]
    rw [hm, hdep (bits listed) (fun _ => true) fun q hq => hL.1.2 q (Nat.le_of_ble_eq_true (List.all_eq_true.1 hqn.1 q hq))] at r'
    have := wpAnyIn_of_seq (Q' := Post E Q) (ops.drop n) n listed a' w' (fun j => by simp [List.getElem?_drop]) (by rw [hdl]; exact hL.1.1) (hL.2 ι a' w' r')
    rwa [hdl] at this) _ _ _ ι a _ inv0 (by rw [b0]; exact hS) r1 H0
  · rw [htl] at hh
    rwa [show n + (ops.toArray.size - n) = ops.toArray.size by simp; omega] at hh
  · have hun : listed.getD i true = false := (mem_ready.1 hi).1
    have hsz : i < listed.size := by
      rw [inv.size]
      have := (List.getElem?_eq_some_iff.1 ho).1
      simpa using this
    rw [bits_set hsz] at hk'
    obtain ⟨o', g1, g0, g2⟩ := hy
    have hoo : o' = o := by rw [ho] at g1; exact (Option.some.inj g1).symm
    subst hoo
    have hrdy : Rdy ops (bits listed) i o' := ⟨fun j o1 h1 hb p hp => aft_listed inv h1 hp hb, getD_both hun, fun p hp => aft_ready inv hi ho hp⟩
    have hmono : ∀ j, bits listed j = true → bset (bits listed) i j = true := fun j hj => bset_le hj
    have hlook : ∀ t' ∈ o'.looksAt ops.toArray, mask t.stale (bits listed) s t' = s t' := fun t' ht' => by
      unfold mask
      cases hc : t.stale.any (fun p => Nat.beq p.2 t' && bits listed p.1) with
      | false => rfl
      | true =>
        exfalso
        obtain ⟨p, hp, hq⟩ := List.any_eq_true.1 hc
        simp only [Bool.and_eq_true] at hq
        have h1 := List.all_eq_true.1 hlk i (List.mem_range.2 hin)
        simp only [ho] at h1
        have h2 := List.all_eq_true.1 h1 p hp
        have h3 : (o'.looksAt ops.toArray).any (Nat.beq p.2) = true := List.any_eq_true.2 ⟨t', ht', hq.1⟩
        rw [h3] at h2
        simp only [Bool.not_true, Bool.false_or, Bool.or_eq_true] at h2
        rcases h2 with h2 | h2
        · rw [Nat.eq_of_beq_eq_true h2] at hq
          rw [hrdy.2.1] at hq; exact absurd hq.2 (by simp)
        · split at h2
          · rename_i oq hoq
            have := hrdy.1 _ _ hoq hq.2 i h2
            rw [hrdy.2.1] at this; cases this
          · cases h2
    have hIN : INy t (bits listed) (mask t.stale (bits listed) s) := fun q k hm hb j hj => by
      unfold mask
      cases t.stale.any (fun p => Nat.beq p.2 j && bits listed p.1) with
      | true => rfl
      | false => exact hSl q k hm hb j hj
    rcases g2 with ⟨g2, hgd, g4⟩ | ⟨g2, g3⟩
    · have g := g4 (mask t.stale (bits listed) s) hlook (bits listed) hrdy hIN
      unfold wpOpIn
      simp only [List.getElem?_toArray, ho]
      rw [if_pos (awant_ok r ((awant_same hlook).trans hgd))]
      refine g ι a w r K' (Post E Q) fun st' ι' a' w' hst r' => ?_
      obtain ⟨ι2, r2⟩ := hst ι' a' w' r'
      rw [mask_pu hmono] at r2
      exact hk' ι2 a' w' r2
    · have hHs : t.H (bset (bits listed) i) = t.H (bits listed) := hdep _ _ fun q hq => by
        have hne : Nat.beq q i = false := by
          rw [List.any_eq_false] at g2
          exact Bool.eq_false_iff.2 (g2 q hq)
        unfold bset
        rw [hne]; rfl
      rw [hHs] at hk'
      refine wpOpIn_of_qA (J := J) (h := t.H (bits listed)) (K := fun s' => s' = pu (mask t.stale (bits listed) s) o'.dst x) hE r (fun s' a' w' r' hs' => ?_) ?_
      · subst hs'
        refine hk' ι a' w' ?_
        rw [← mask_pu hmono]
        exact RelS_mask _ _ r'
      · unfold qA
        simp only [ho]
        exact ⟨x, hdo, YA_same hlook (g3 _ hrdy), rfl⟩
variable {n i : Nat} {t : EffY} {K : Slots → Prop}
theorem HY_cons {o : Oper} (ho : ops[i]? = some o) (hi : Nat.ble (i + 1) n = true) {x : AV} (hd : dstOk E.N o.dst = true) (hy : YY t E ops J i s x) (hk : HYW t E ops J n (i + 1) K (pu s o.dst x)) : HYW t E ops J n i K s := by
  unfold HYW at *
  have hi' := Nat.le_of_ble_eq_true hi
  obtain ⟨hlt, rfl⟩ := List.getElem?_eq_some_iff.1 ho
  have hlt2 : i < (ops.take n).length := by simp; omega
  rw [List.drop_eq_getElem_cons hlt2, List.getElem_take]
  exact ⟨x, hd, hy, hk⟩
theorem HY_end (hk : K s) : HYW t E ops J n n K s := by
  unfold HYW
  rw [List.drop_eq_nil_of_le (by simp; omega)]
  exact hk
theorem HY_loc2 (hE : E.Good) {o : Oper} {R : AV} (ho : ops[i]? = some o) (hi : Nat.ble (i + 1) n = true) (hw : awant ops o s = some true) (hl : ∀ b, Rdy ops b i o → Loc E ops J (t.H b) o s R) {s' : Slots} (hs : putS E.N s o.dst R = some s') (hq : (t.qs.any fun q => Nat.beq q i) = false) (hnk : nkOk t i o R = true) (hk : HYW t E ops J n (i + 1) K s') : HYW t E ops J n i K s := by
  obtain ⟨hd, rfl⟩ := pu_of_putS hs
  exact HY_cons ho hi hd ⟨o, ho, hnk, .inr ⟨hq, fun b hb => .inl ⟨hw, LY_of_gives hE (hl b hb).1 fun Z K Y ι a w m hlk => (hl b hb).2 Z K Y ι a w m (look_ev hlk)⟩⟩⟩ hk
theorem HY_one (hE : E.Good) {o : Oper} {R : AV} {h0 : Heap} (more : ∀ b, Rdy ops b i o → ∀ j e, h0 j = some e → t.H b j = some e) (ho : ops[i]? = some o) (hi : Nat.ble (i + 1) n = true) (hw : awant ops o s = some true) (hR : stepPure E.T h0 s o.op = some R) {s' : Slots} (hs : putS E.N s o.dst R = some s') (hq : (t.qs.any fun q => Nat.beq q i) = false) (hnk : nkOk t i o R = true) (hk : HYW t E ops J n (i + 1) K s') : HYW t E ops J n i K s := by
  obtain ⟨hd, rfl⟩ := pu_of_putS hs
  exact HY_cons ho hi hd ⟨o, ho, hnk, .inr ⟨hq, fun b hb => .inl ⟨hw, LY_of_gives hE (stepPure_notDefer hR) fun Z K Y ι a w m hl => stepPure_ok (K := K) (J := J K Y Z) hE.ok.T m o (look_ev hl) (stepPure_more (more b hb) hR)⟩⟩⟩ hk
theorem HY_skip (hE : E.Good) {o : Oper} (ho : ops[i]? = some o) (hi : Nat.ble (i + 1) n = true) (hw : awant ops o s = some false) {s' : Slots} (hs : putS E.N s o.dst (.tup []) = some s') (hq : (t.qs.any fun q => Nat.beq q i) = false) (hk : HYW t E ops J n (i + 1) K s') : HYW t E ops J n i K s := by
  obtain ⟨hd, rfl⟩ := pu_of_putS hs
  exact HY_cons ho hi hd ⟨o, ho, by unfold nkOk; rw [List.all_eq_true]; intro p _; simp [nokey, nokeys], .inr ⟨hq, fun b _ => .inr ⟨hw, rfl⟩⟩⟩ hk
def runPureY (E : Env) (t : EffY) (ops : List Oper) (h : Heap) : Nat → Nat → Slots → Option Slots
  | 0, _, s => some s
  | m + 1, i, s => match ops[i]? with
    | some o => match awant ops o s with
      | some true => match stepPure E.T h s o.op with
        | some R => bif nkOk t i o R then match putS E.N s o.dst R with
          | some s' => runPureY E t ops h m (i + 1) s'
          | none => none else none
        | none => none
      | some false => match putS E.N s o.dst (.tup []) with
        | some s' => runPureY E t ops h m (i + 1) s'
        | none => none
      | none => none
    | none => none
theorem HY_run (hE : E.Good) (m : Nat) {h0 : Heap} {s' : Slots} (more : ∀ b j e, h0 j = some e → t.H b j = some e) (hp : runPureY E t ops h0 m i s = some s') (hi : Nat.ble (i + m) n = true) (hq : (t.qs.all fun q => Nat.ble (i + m) q || Nat.ble (q + 1) i) = true)
    (hk : HYW t E ops J n (i + m) K s') : HYW t E ops J n i K s := by
  induction m generalizing i s with
  | zero => simp only [runPureY, Option.some.injEq] at hp; subst hp; exact hk
  | succ m ih =>
    have hi' := Nat.le_of_ble_eq_true hi
    have hi1 : Nat.ble (i + 1) n = true := Nat.ble_eq_true_of_le (by omega)
    have hi2 : Nat.ble (i + 1 + m) n = true := Nat.ble_eq_true_of_le (by omega)
    have a1 : (t.qs.any fun q => Nat.beq q i) = false := by
      rw [List.any_eq_false]
      intro q hm hb
      have := List.all_eq_true.1 hq q hm
      have e := Nat.eq_of_beq_eq_true hb
      subst e
      simp only [Bool.or_eq_true] at this
      rcases this with h | h <;> have := Nat.le_of_ble_eq_true h <;> omega
    have a2 : (t.qs.all fun q => Nat.ble (i + 1 + m) q || Nat.ble (q + 1) (i + 1)) = true := by
      rw [List.all_eq_true] at hq ⊢
      intro q hm
      have := hq q hm
      simp only [Bool.or_eq_true] at this ⊢
      rcases this with h | h
      · have := Nat.le_of_ble_eq_true h
        exact .inl (Nat.ble_eq_true_of_le (by omega))
      · have := Nat.le_of_ble_eq_true h
        exact .inr (Nat.ble_eq_true_of_le (by omega))
    simp only [runPureY] at hp
    split at hp
    · rename_i o ho
      split at hp
      · rename_i hw
        split at hp
        · rename_i R hR
          cases hnk : nkOk t i o R with
          | false => rw [hnk] at hp; cases hp
          | true =>
            rw [hnk] at hp
            simp only [cond_true] at hp
            split at hp
            · rename_i s1 hs1
              refine HY_one hE (fun b _ => more b) ho hi1 hw hR hs1 a1 hnk (ih (i := i + 1) (s := s1) hp hi2 a2 ?_)
              rwa [show i + 1 + m = i + (m + 1) by omega]
            · cases hp
        · cases hp
      · rename_i hw
        split at hp
        · rename_i s1 hs1
          refine HY_skip hE ho hi1 hw hs1 a1 (ih (i := i + 1) (s := s1) hp hi2 a2 ?_)
          rwa [show i + 1 + m = i + (m + 1) by omega]
        · cases hp
      · cases hp
    · cases hp
theorem HY_eff {o : Oper} {x : AV} (ho : ops[i]? = some o) (hi : Nat.ble (i + 1) n = true) (hgd : o.guard = none) (hq : (t.qs.any fun q => Nat.beq q i) = true) (hnk : nkOk t i o x = true) {s' : Slots} (hs : putS E.N s o.dst x = some s')
    (hg : ∀ s1, (∀ t ∈ o.looksAt ops.toArray, s1 t = s t) → ∀ b, Rdy ops b i o → INy t b s1 → OW E [o] 0 (fun e st' => e = .normal ∧ LE E st' ⟨J, mask t.stale (bset b i) (pu s1 o.dst x), t.H (bset b i)⟩) ⟨J, s1, t.H b⟩) (hk : HYW t E ops J n (i + 1) K s') : HYW t E ops J n i K s := by
  obtain ⟨hd, rfl⟩ := pu_of_putS hs
  exact HY_cons ho hi hd ⟨o, ho, hnk, .inl ⟨hq, by simp [awant, hgd], fun s1 hs1 b hb hI => opG_of_OW hgd (hg s1 hs1 b hb hI)⟩⟩ hk
theorem LE_mask (mk : List (Nat × Nat)) (b : Nat → Bool) : LE E ⟨J, s, h⟩ ⟨J, mask mk b s, h⟩ := fun ι a w r => ⟨ι, RelS_mask mk b r⟩
theorem HY_store (hE : E.Good) {o : Oper} {ty : TypeId} {p x : Operand} (ho : ops[i]? = some o) (hi : Nat.ble (i + 1) n = true) (hop : o.op = .store ty p x) (hgd : o.guard = none) (hdst : o.dst = none) (hq : (t.qs.any fun q => Nat.beq q i) = true) {ti : TI} (hty : E.T ty = some ti) {key off : Nat} (hp : ev s p = .ptr key off)
    {bt : TypeId} {cs : (Nat → Bool) → List AV} (hkey : ∀ b, Rdy ops b i o → t.H b key = some (.box bt (cs b))) {vs : List AV} (hv : cellsOf (ev s x) = vs) (hc : cellsOk (ev s x) = true) (ho1 : oneAll vs = true) (hl : Nat.beq vs.length ti.size = true) (hfit : ∀ b, Nat.ble (off + vs.length) (cs b).length = true)
    (heq : ∀ b, Rdy ops b i o → hset (t.H b) key (some (.box bt (overwrite (cs b) off vs))) = t.H (bset b i)) (hk : HYW t E ops J n (i + 1) K s) : HYW t E ops J n i K s := by
  refine HY_eff (x := .tup []) ho hi hgd hq (by unfold nkOk; rw [List.all_eq_true]; intro p _; simp [nokey, nokeys]) (s' := s) (by rw [hdst]; rfl) (fun s1 hs1 b hb _ => ?_) hk
  have e1 : ev s1 p = ev s p := ev_look hs1 (by rw [hop]; simp [Op.operands])
  have e2 : ev s1 x = ev s x := ev_look hs1 (by rw [hop]; simp [Op.operands])
  exact OW_store' hE (o := o) rfl hop (by simp [awant, hgd]) hdst hty (k := key) (off := off) (by rw [e1]; exact hp) (hkey b hb) (by rw [e2]; exact hv) (by rw [e2]; exact hc) ho1 hl (hfit b) (OW_end rfl ⟨rfl, by rw [hdst]; show LE E ⟨J, s1, _⟩ _; rw [← heq b hb]; exact LE_mask _ _⟩)
theorem HY_appendNil (hE : E.Good) (key : Nat) {o : Oper} {ty e : TypeId} {so xo : Operand} {sz : Nat} {ys : List (List D)} (ho : ops[i]? = some o) (hi : Nat.ble (i + 1) n = true) (hop : o.op = .call ⟨.builtin .append, #[so, xo], #[ty, ty]⟩) (hgd : o.guard = none) (hq : (t.qs.any fun q => Nat.beq q i) = true) (hnk : nkOk t i o (.row key) = true)
    {z1 z2 : Nat} {z3 : List Value} (ht : E.T ty = some ⟨.slice e, z1, z2, z3⟩) {k : TK} {bts : Nat} {z6 : List Value} (hte : E.T e = some ⟨k, sz, bts, z6⟩) (hpos : Nat.ble 1 sz = true) (hso : ev s so = .d (.lit (.slice none 0 0))) (hxo : ev s xo = .d (.sl sz bts ys) ∨ (ev s xo = .d (.lit (.slice none 0 0)) ∧ ys = []))
    (hn : ys.length ≤ 140737488355328) (hb : ys.length * bts ≤ 140737488355328) {s' : Slots} (hs : putS E.N s o.dst (.row key) = some s') (hfree : ∀ b, Rdy ops b i o → t.H b key = none) (heq : ∀ b, Rdy ops b i o → hset (t.H b) key (some (.row e sz ys)) = t.H (bset b i)) (hk : HYW t E ops J n (i + 1) K s') : HYW t E ops J n i K s := by
  have hd := (pu_of_putS hs).1
  refine HY_eff ho hi hgd hq hnk hs (fun s1 hs1 b hbr _ => ?_) hk
  have e1 : ev s1 so = ev s so := ev_look hs1 (by rw [hop]; simp [Op.operands, Call.operands])
  have e2 : ev s1 xo = ev s xo := ev_look hs1 (by rw [hop]; simp [Op.operands, Call.operands])
  exact OW_appendNil' hE key (o := o) rfl hop (by simp [awant, hgd]) (hfree b hbr) ht hte hpos (e1.trans hso) (by rw [e2]; exact hxo) hn hb (putS_pu hd) (OW_end rfl ⟨rfl, by rw [← heq b hbr]; exact LE_mask _ _⟩)
theorem unk_nokey {k : Nat} {x : AV} (h : nokey k x = true) : unk k x = x := by unfold unk; rw [h]; rfl
theorem LE_any {E : Env} {J : Jt} {s s' : Slots} {h : Heap} (hs : ∀ j, s' j = s j ∨ s' j = .any) : LE E ⟨J, s, h⟩ ⟨J, s', h⟩ := fun ι a w ⟨Z, K, Y, hZ, r⟩ =>
  ⟨ι, Z, K, Y, hZ, r.mem, r.size, fun j => by rcases hs j with e | e <;> (show RA _ (s' j) _); · rw [e]; exact r.slot j
                                              · rw [e]; trivial, r.ds⟩
theorem HY_append (hE : E.Good) {key : Nat} {o : Oper} {ty e : TypeId} {so xo : Operand} {sz : Nat} {xs ys : List (List D)} (ho : ops[i]? = some o) (hi : Nat.ble (i + 1) n = true) (hop : o.op = .call ⟨.builtin .append, #[so, xo], #[ty, ty]⟩) (hgd : o.guard = none) (hq : (t.qs.any fun q => Nat.beq q i) = true) (hnk : nkOk t i o (.row key) = true) (hink : (t.nk.any fun p => Nat.beq p.1 i && Nat.beq p.2 key) = true)
    {z1 z2 : Nat} {z3 : List Value} (ht : E.T ty = some ⟨.slice e, z1, z2, z3⟩) {k : TK} {bts : Nat} {z6 : List Value} (hte : E.T e = some ⟨k, sz, bts, z6⟩) (hpos : Nat.ble 1 sz = true) (hso : ev s so = .row key) (hxo : ev s xo = .d (.sl sz bts ys) ∨ (ev s xo = .d (.lit (.slice none 0 0)) ∧ ys = []))
    (hn : xs.length + ys.length ≤ 140737488355328) (hb : (xs.length + ys.length) * bts ≤ 140737488355328) {s' : Slots} (hs : putS E.N s o.dst (.row key) = some s') (hkey : ∀ b, Rdy ops b i o → t.H b key = some (.row e sz xs)) (heq : ∀ b, Rdy ops b i o → hset (unkH key (t.H b)) key (some (.row e sz (xs ++ ys))) = t.H (bset b i)) (hk : HYW t E ops J n (i + 1) K s') : HYW t E ops J n i K s := by
  have hd := (pu_of_putS hs).1
  refine HY_eff ho hi hgd hq hnk hs (fun s1 hs1 b hbr hI => ?_) hk
  have e1 : ev s1 so = ev s so := ev_look hs1 (by rw [hop]; simp [Op.operands, Call.operands])
  have e2 : ev s1 xo = ev s xo := ev_look hs1 (by rw [hop]; simp [Op.operands, Call.operands])
  refine OW_append' hE (key := key) (o := o) rfl hop (by simp [awant, hgd]) ht hte hpos (e1.trans hso) (hkey b hbr) (by rw [e2]; exact hxo) hn hb (s' := pu (unkS key s1) o.dst (.row key)) (putS_pu hd) (OW_end rfl ⟨rfl, ?_⟩)
  rw [← heq b hbr]
  refine LE_any fun j => ?_
  obtain ⟨p, hp, hpq⟩ := List.any_eq_true.1 hink
  simp only [Bool.and_eq_true] at hpq
  have hp1 := Nat.eq_of_beq_eq_true hpq.1
  have hp2 := Nat.eq_of_beq_eq_true hpq.2
  have hm : (i, key) ∈ t.nk := by rw [← hp1, ← hp2]; exact hp
  unfold mask
  cases hc : t.stale.any (fun p => Nat.beq p.2 j && bset b i p.1) with
  | true => exact .inr rfl
  | false =>
    left
    simp only [cond_false]
    have hmj : mkIn t.stale i j = false := by
      cases hq : mkIn t.stale i j with
      | false => rfl
      | true =>
        obtain ⟨p', hp', hq'⟩ := List.any_eq_true.1 hq
        simp only [Bool.and_eq_true] at hq'
        have := List.any_eq_false.1 hc p' hp'
        rw [hq'.2, Nat.eq_of_beq_eq_true hq'.1, bset_self] at this
        exact absurd rfl this
    have hnj := hI i key hm hbr.2.1 j hmj
    cases hdd : o.dst with
    | none => exact (unk_nokey hnj).symm
    | some d =>
      by_cases hjd : j = d
      · subst hjd; simp only [pu, sset_same]
      · simp only [pu]; rw [sset_ne _ _ hjd, sset_ne _ _ hjd]; exact (unk_nokey hnj).symm
end
end Go.AL
namespace Go.AL
set_option linter.unusedVariables false
set_option linter.unusedSimpArgs false
section
variable {E : Env} {ops : List Oper} {Q : Exit → St → Prop} {i : Nat} {J : Jt} {s : Slots} {h : Heap}
theorem OW_callRA' (hE : E.Good) {f : Nat} {l : List (Nat × Ent)} {L : List AV} {R : AV} {ks : List Nat} (hc : DoesM E.P f l L R l ks) {o : Oper} {fo : Operand} {args : Array Operand} {ts : Array TypeId} (ho : ops[i]? = some o) (hop : o.op = .call ⟨.value fo, args, ts⟩) (hw : awant ops o s = some true)
    (hks : keysL l = ks) (hL : callArgs s fo args.toList = some (f, L)) (hinj : injB (tr []) (keysL l ++ keysL l) = true) (hent : allE h l) (hfr : freshL (tr []) h l l = true)
    {s' : Slots} (hs : putS E.N s o.dst R = some s') (hk' : OW E ops (i + 1) Q ⟨J, s', h⟩) : OW E ops i Q ⟨J, s, h⟩ := by
  subst hks
  refine OW_callM' hE (tr []) hc ho hop hw (by rw [tr_nil, rnAs_id]; exact hL) hinj (by rw [pairE_id]; exact hent) hfr (s' := s') (by rw [callS_read, tr_nil, rnA_id]; exact hs) ?_
  rw [callH_read hent]
  exact hk'
end
section
variable {E : Env} {ops : List Oper} {J : Jt} {s : Slots} {n i : Nat} {t : Eff} {K : Slots → Prop}
theorem HX_callRA (hE : E.Good) {f : Nat} {l : List (Nat × Ent)} {L : List AV} {R : AV} {ks : List Nat} (hc : DoesM E.P f l L R l ks) {o : Oper} {fo : Operand} {args : Array Operand} {ts : Array TypeId} (ho : ops[i]? = some o) (hi : Nat.ble (i + 1) n = true) (hop : o.op = .call ⟨.value fo, args, ts⟩) (hgd : o.guard = none) (hq : (t.qs.any fun q => Nat.beq q i) = true) (hnk : (t.nk.all fun p => Nat.beq p.1 i || nokey p.2 R) = true)
    (hks : keysL l = ks) (hL : callArgs s fo args.toList = some (f, L)) (hinj : injB (tr []) (keysL l ++ keysL l) = true) (hent : ∀ b, Rdy ops b i o → allE (t.H b) l) (hfr : ∀ b, Rdy ops b i o → freshL (tr []) (t.H b) l l = true)
    {s' : Slots} (hs : putS E.N s o.dst R = some s') (heq : ∀ b, Rdy ops b i o → t.H b = t.H (bset b i)) (hk : HXW t E ops J n (i + 1) K s') : HXW t E ops J n i K s := by
  have hd := (pu_of_putS hs).1
  refine HX_eff (x := R) ho hi hgd hq hnk hs (fun s1 hs1 b hb _ => ?_) hk
  refine OW_callRA' hE hc (o := o) rfl hop (by simp [awant, hgd]) hks (by
    rw [callArgs_same hop hs1]; exact hL) hinj (hent b hb) (hfr b hb) (putS_pu hd) (OW_end rfl ⟨rfl, by rw [← heq b hb]; exact LE.refl _ _⟩)
end
structure Gw where
  q1 : Nat
  q2 : Nat
  key : Nat
  e : TypeId
  sz : Nat
  xs : List (List D)
  ys : List (List D)
def gwE (g : Gw) (b : Nat → Bool) : Option Ent := bif b g.q2 then some (.row g.e g.sz (g.xs ++ g.ys)) else bif b g.q1 then some (.row g.e g.sz g.xs) else none
theorem gw_dep {g : Gw} {b b' : Nat → Bool} (h1 : b g.q1 = b' g.q1) (h2 : b g.q2 = b' g.q2) : gwE g b = gwE g b' := by unfold gwE; rw [h1, h2]
theorem gw_0 {g : Gw} {b : Nat → Bool} (h1 : b g.q1 = false) (h2 : b g.q2 = false) : gwE g b = none := by unfold gwE; rw [h1, h2]; rfl
theorem gw_1 {g : Gw} {b : Nat → Bool} (h1 : b g.q1 = true) (h2 : b g.q2 = false) : gwE g b = some (.row g.e g.sz g.xs) := by unfold gwE; rw [h1, h2]; rfl
theorem gw_2 {g : Gw} {b : Nat → Bool} (h2 : b g.q2 = true) : gwE g b = some (.row g.e g.sz (g.xs ++ g.ys)) := by unfold gwE; rw [h2]; rfl
theorem gw_unk (g : Gw) (b : Nat → Bool) (k : Nat) : (match gwE g b with | some e => some (unkE k e) | none => none) = gwE g b := by
  unfold gwE
  cases b g.q2 with
  | true => rfl
  | false => cases b g.q1 <;> rfl
theorem unkH_hset (k : Nat) (h : Heap) (j : Nat) (o : Option Ent) : unkH k (hset h j o) = hset (unkH k h) j (match o with | some e => some (unkE k e) | none => none) := by
  funext q
  by_cases hq : q = j
  · subst hq; unfold unkH; rw [hset_same, hset_same]; cases o <;> rfl
  · unfold unkH; rw [hset_ne _ _ hq, hset_ne _ _ hq]
def cleanE (k : Nat) : Ent → Bool
  | .box _ cs => cs.all (nokey k)
  | .row _ _ _ => true
  | .ghost cs _ => cs.all (nokey k)
  | .rowA _ _ _ cs => cs.all (nokey k)
theorem unk_all {k : Nat} : ∀ {cs : List AV}, cs.all (nokey k) = true → cs.map (unk k) = cs
  | [], _ => rfl
  | x :: cs, h => by
    simp only [List.all_cons, Bool.and_eq_true] at h
    rw [List.map_cons, unk_nokey h.1, unk_all h.2]
theorem clean_unk {k : Nat} {e : Ent} (h : cleanE k e = true) : unkE k e = e := by
  cases e with
  | box t cs => simp only [unkE]; rw [unk_all h]
  | row e sz xs => rfl
  | ghost cs vs => simp only [unkE]; rw [unk_all h]
  | rowA e sz n cs => simp only [unkE]; rw [unk_all h]
def cleanL (k : Nat) (l : List (Nat × Ent)) : Bool := l.all fun x => cleanE k x.2
theorem clean_heap {k : Nat} : ∀ {l : List (Nat × Ent)}, cleanL k l = true → unkH k (heapOf l) = heapOf l
  | [], _ => rfl
  | (j, e) :: l, h => by
    simp only [cleanL, List.all_cons, Bool.and_eq_true] at h
    show unkH k (hset (heapOf l) j (some e)) = hset (heapOf l) j (some e)
    rw [unkH_hset, clean_heap (l := l) h.2]
    show hset (heapOf l) j (some (unkE k e)) = _
    rw [clean_unk h.1]
structure Tw where
  l : List (Nat × Ent)
  g1 : Gw
  g2 : Gw
  kb : Nat
  q3 : Nat
  e0 : Ent
  e1 : Ent
def Tw.H (t : Tw) (b : Nat → Bool) : Heap := hset (hset (hset (heapOf t.l) t.g1.key (gwE t.g1 b)) t.g2.key (gwE t.g2 b)) t.kb (some (bif b t.q3 then t.e1 else t.e0))
structure Tw.Ok (t : Tw) : Prop where
  n12 : t.g1.key ≠ t.g2.key
  n1b : t.g1.key ≠ t.kb
  n2b : t.g2.key ≠ t.kb
  c1 : cleanL t.g1.key t.l = true
  c2 : cleanL t.g2.key t.l = true
  d1 : cleanE t.g1.key t.e0 = true
  d2 : cleanE t.g2.key t.e0 = true
  d3 : cleanE t.g2.key t.e1 = true
section
variable {t : Tw} {b b' : Nat → Bool}
theorem Tw.dep (h1 : b t.g1.q1 = b' t.g1.q1) (h2 : b t.g1.q2 = b' t.g1.q2) (h3 : b t.g2.q1 = b' t.g2.q1) (h4 : b t.g2.q2 = b' t.g2.q2) (h5 : b t.q3 = b' t.q3) : t.H b = t.H b' := by
  unfold Tw.H; rw [gw_dep h1 h2, gw_dep h3 h4, h5]
theorem Tw.at1 (h : t.Ok) : t.H b t.g1.key = gwE t.g1 b := by unfold Tw.H; rw [hset_ne _ _ h.n1b, hset_ne _ _ h.n12, hset_same]
theorem Tw.at2 (h : t.Ok) : t.H b t.g2.key = gwE t.g2 b := by unfold Tw.H; rw [hset_ne _ _ h.n2b, hset_same]
theorem Tw.atb : t.H b t.kb = some (bif b t.q3 then t.e1 else t.e0) := by unfold Tw.H; rw [hset_same]
theorem Tw.atb0 (h : b t.q3 = false) : t.H b t.kb = some t.e0 := by rw [Tw.atb, h]; rfl
theorem Tw.atb1 (h : b t.q3 = true) : t.H b t.kb = some t.e1 := by rw [Tw.atb, h]; rfl
theorem Tw.put1 (h : t.Ok) {x : Option Ent} (hx : x = gwE t.g1 b') (h2 : gwE t.g2 b = gwE t.g2 b') (h3 : b t.q3 = b' t.q3) : hset (t.H b) t.g1.key x = t.H b' := by
  unfold Tw.H
  rw [hset_comm _ (Ne.symm h.n1b), hset_comm _ (Ne.symm h.n12), hset_hset, hx, h2, h3]
theorem Tw.put2 (h : t.Ok) {x : Option Ent} (hx : x = gwE t.g2 b') (h1 : gwE t.g1 b = gwE t.g1 b') (h3 : b t.q3 = b' t.q3) : hset (t.H b) t.g2.key x = t.H b' := by
  unfold Tw.H
  rw [hset_comm _ (Ne.symm h.n2b), hset_hset, hx, h1, h3]
theorem Tw.put3 {x : Option Ent} (hx : x = some (bif b' t.q3 then t.e1 else t.e0)) (h1 : gwE t.g1 b = gwE t.g1 b') (h2 : gwE t.g2 b = gwE t.g2 b') : hset (t.H b) t.kb x = t.H b' := by
  unfold Tw.H
  rw [hset_hset, hx, h1, h2]
theorem Tw.unk1 (h : t.Ok) (h3 : b t.q3 = false) : unkH t.g1.key (t.H b) = t.H b := by
  unfold Tw.H
  rw [unkH_hset, unkH_hset, unkH_hset, clean_heap h.c1, gw_unk, gw_unk, h3]
  show hset _ _ (some (unkE _ t.e0)) = _
  rw [clean_unk h.d1]; rfl
theorem Tw.unk2 (h : t.Ok) : unkH t.g2.key (t.H b) = t.H b := by
  unfold Tw.H
  rw [unkH_hset, unkH_hset, unkH_hset, clean_heap h.c2, gw_unk, gw_unk]
  cases b t.q3 with
  | true => show hset _ _ (some (unkE _ t.e1)) = _; rw [clean_unk h.d3]; rfl
  | false => show hset _ _ (some (unkE _ t.e0)) = _; rw [clean_unk h.d2]; rfl
theorem Tw.more (h : ∀ x ∈ t.l, x.1 ≠ t.g1.key ∧ x.1 ≠ t.g2.key ∧ x.1 ≠ t.kb) : ∀ (b : Nat → Bool) j e, heapOf t.l j = some e → t.H b j = some e := fun b j e hj => by
  have := h _ (heapOf_mem hj)
  unfold Tw.H
  rw [hset_ne _ _ this.2.2, hset_ne _ _ this.2.1, hset_ne _ _ this.1]
  exact hj
end
theorem bset_at (b : Nat → Bool) (i j : Nat) (h : Nat.beq j i = false) : bset b i j = b j := by unfold bset; rw [h]; rfl
theorem not_yet {ops : List Oper} {b : Nat → Bool} {i j : Nat} {o oj : Oper} (hr : Rdy ops b i o) (hj : ops[j]? = some oj) (ha : aft oj i = true) : b j = false := by
  cases h : b j with
  | false => rfl
  | true => have := hr.1 j oj hj h i ha; rw [hr.2.1] at this; cases this
section
variable {t : Tw} {b : Nat → Bool} {ops : List Oper} {o o2 o3 : Oper}
def Tw.qs (t : Tw) : List Nat := [t.g1.q1, t.g1.q2, t.g2.q1, t.g2.q2, t.q3]
theorem beq_ne {i j : Nat} (h : i ≠ j) : Nat.beq i j = false := Bool.eq_false_iff.2 fun h' => h (Nat.eq_of_beq_eq_true h')
theorem Tw.new1 (h : t.Ok) (hd : t.qs.Nodup) (hr : Rdy ops b t.g1.q1 o) (ho2 : ops[t.g1.q2]? = some o2) (ha : aft o2 t.g1.q1 = true) : t.H b t.g1.key = none ∧ hset (t.H b) t.g1.key (some (.row t.g1.e t.g1.sz t.g1.xs)) = t.H (bset b t.g1.q1) := by
  simp only [Tw.qs, List.nodup_cons, List.mem_cons, List.not_mem_nil, not_or, or_false] at hd
  have n2 := not_yet hr ho2 ha
  refine ⟨(Tw.at1 h).trans (gw_0 hr.2.1 n2), Tw.put1 h (gw_1 (bset_self _ _) ((bset_at _ _ _ (beq_ne (Ne.symm hd.1.1))).trans n2)).symm (gw_dep (bset_at _ _ _ (beq_ne (Ne.symm hd.1.2.1))).symm (bset_at _ _ _ (beq_ne (Ne.symm hd.1.2.2.1))).symm) (bset_at _ _ _ (beq_ne (Ne.symm hd.1.2.2.2))).symm⟩
theorem Tw.more1 (h : t.Ok) (hd : t.qs.Nodup) (hr : Rdy ops b t.g1.q2 o) (ha : aft o t.g1.q1 = true) (ho3 : ops[t.q3]? = some o3) (h3 : aft o3 t.g1.q2 = true) : t.H b t.g1.key = some (.row t.g1.e t.g1.sz t.g1.xs) ∧ hset (unkH t.g1.key (t.H b)) t.g1.key (some (.row t.g1.e t.g1.sz (t.g1.xs ++ t.g1.ys))) = t.H (bset b t.g1.q2) := by
  simp only [Tw.qs, List.nodup_cons, List.mem_cons, List.not_mem_nil, not_or, or_false] at hd
  have n3 := not_yet hr ho3 h3
  refine ⟨(Tw.at1 h).trans (gw_1 (hr.2.2 _ ha) hr.2.1), ?_⟩
  rw [Tw.unk1 h n3]
  exact Tw.put1 h (gw_2 (bset_self _ _)).symm (gw_dep (bset_at _ _ _ (beq_ne (Ne.symm hd.2.1.1))).symm (bset_at _ _ _ (beq_ne (Ne.symm hd.2.1.2.1))).symm) (bset_at _ _ _ (beq_ne (Ne.symm hd.2.1.2.2))).symm
theorem Tw.new2 (h : t.Ok) (hd : t.qs.Nodup) (hr : Rdy ops b t.g2.q1 o) (ho2 : ops[t.g2.q2]? = some o2) (ha : aft o2 t.g2.q1 = true) : t.H b t.g2.key = none ∧ hset (t.H b) t.g2.key (some (.row t.g2.e t.g2.sz t.g2.xs)) = t.H (bset b t.g2.q1) := by
  simp only [Tw.qs, List.nodup_cons, List.mem_cons, List.not_mem_nil, not_or, or_false] at hd
  have n2 := not_yet hr ho2 ha
  refine ⟨(Tw.at2 h).trans (gw_0 hr.2.1 n2), Tw.put2 h (gw_1 (bset_self _ _) ((bset_at _ _ _ (beq_ne (Ne.symm hd.2.2.1.1))).trans n2)).symm (gw_dep (bset_at _ _ _ (beq_ne hd.1.2.1)).symm (bset_at _ _ _ (beq_ne hd.2.1.1)).symm) (bset_at _ _ _ (beq_ne (Ne.symm hd.2.2.1.2))).symm⟩
theorem Tw.more2 (h : t.Ok) (hd : t.qs.Nodup) (hr : Rdy ops b t.g2.q2 o) (ha : aft o t.g2.q1 = true) : t.H b t.g2.key = some (.row t.g2.e t.g2.sz t.g2.xs) ∧ hset (unkH t.g2.key (t.H b)) t.g2.key (some (.row t.g2.e t.g2.sz (t.g2.xs ++ t.g2.ys))) = t.H (bset b t.g2.q2) := by
  simp only [Tw.qs, List.nodup_cons, List.mem_cons, List.not_mem_nil, not_or, or_false] at hd
  refine ⟨(Tw.at2 h).trans (gw_1 (hr.2.2 _ ha) hr.2.1), ?_⟩
  rw [Tw.unk2 h]
  exact Tw.put2 h (gw_2 (bset_self _ _)).symm (gw_dep (bset_at _ _ _ (beq_ne hd.1.2.2.1)).symm (bset_at _ _ _ (beq_ne hd.2.1.2.1)).symm) (bset_at _ _ _ (beq_ne (Ne.symm hd.2.2.2.1))).symm
theorem Tw.put (hd : t.qs.Nodup) (hr : Rdy ops b t.q3 o) : t.H b t.kb = some t.e0 ∧ hset (t.H b) t.kb (some t.e1) = t.H (bset b t.q3) := by
  simp only [Tw.qs, List.nodup_cons, List.mem_cons, List.not_mem_nil, not_or, or_false] at hd
  refine ⟨by rw [Tw.atb, hr.2.1]; rfl, Tw.put3 (by rw [bset_self]; rfl) (gw_dep (bset_at _ _ _ (beq_ne hd.1.2.2.2)).symm (bset_at _ _ _ (beq_ne hd.2.1.2.2)).symm) (gw_dep (bset_at _ _ _ (beq_ne hd.2.2.1.2)).symm (bset_at _ _ _ (beq_ne hd.2.2.2.1)).symm)⟩
theorem Tw.start (h : t.Ok) (h1 : heapOf t.l t.g1.key = none) (h2 : heapOf t.l t.g2.key = none) : t.H (fun _ => false) = hset (heapOf t.l) t.kb (some t.e0) := by
  unfold Tw.H
  rw [gw_0 rfl rfl, gw_0 rfl rfl, hset_none h1, hset_none h2]; rfl
end
section
variable {E : Env} {ops : List Oper} {J : Jt} {s : Slots} {h : Heap}
theorem equalIn_nilNil {P : Program} (w : World) (d : Nat) {t e : TypeId} (hu : P.underlying t = some (.pointer e)) : (Op.equalIn (d + 1) t (.pointer none) (.pointer none)).run P w = .ok true w := by
  simp [Op.equalIn, run_underlying hu]
theorem eql_nilNil {P : Program} (w : World) {t e : TypeId} (hu : P.underlying t = some (.pointer e)) : (binOp .eql t (.pointer none) (.pointer none)).run P w = .ok (.bool true) w := by
  simp only [binOp]
  simp [Op.equal, Op.maxDepth, equalIn_nilNil w 9999 hu]
theorem loc_nilNil (hE : E.Good) {o : Oper} {t yt : TypeId} {xo : Operand} (hop : o.op = .binOp .eql t xo (.const (.pointer none)) yt) {e : TypeId} {z1 z2 : Nat} {z3 : List Value} (ht : E.T t = some ⟨.ptr e, z1, z2, z3⟩) (hx : ev s xo = .d (.lit (.pointer none))) : Loc E ops J h o s (.d (.lit (.bool true))) := by
  refine ⟨(by rw [hop]; intro c hc; cases hc), fun Z K Y ι ac w m hl => ?_⟩
  obtain ⟨dst, op, ty, pos, af, gd⟩ := o
  simp only at hop
  subst hop
  have h1 := hl xo (by simp [Op.operands])
  rw [hx] at h1
  obtain ⟨e1, _⟩ := RA_lit.1 h1
  have hu := (hE.ok.T t _ ht).2
  simp only [TK.fits] at hu
  have hg : (eqGuard .eql t xo (.const (.pointer none)) (.pointer none) (.pointer none)).run E.P w = .ok () w := by
    unfold eqGuard; split <;> simp
  refine ⟨.bool true, w, ?_, Grew.refl w, RA_lit_mk trivial⟩
  have e2 : ac.eval (.const (.pointer none)) = .pointer none := rfl
  simp only [execOp, e1, e2, Sem.run_bind, hg, Result.andThen_ok, eql_nilNil w hu]
  simp
end
end Go.AL
