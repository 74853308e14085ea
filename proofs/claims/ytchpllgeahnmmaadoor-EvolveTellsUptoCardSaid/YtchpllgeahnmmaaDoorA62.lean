/- Parts of an abstract logic over the kit's walks, and walks in it: A62. -/
import Derived.Test.YtchpllgeahnmmaaDoorAe
import Derived.Test.YtchpllgeahnmmaaDoorA61
/- AL, part 62: rows appended to nothing, literals with the frame's own in them, in a drawn head under keys of their own; heads in which a row grows beside variables that are read. -/
namespace Go.AL
set_option linter.unusedVariables false
set_option linter.unusedSimpArgs false
theorem ev_look {ops : List Oper} {o : Oper} {s s1 : Slots} (hs : ∀ t ∈ o.looksAt ops.toArray, s1 t = s t) {x : Operand} (hx : x ∈ o.op.operands) : ev s1 x = ev s x :=
  ev_same fun t e => hs t (by
    simp only [Oper.looksAt, List.mem_append, List.mem_filterMap]
    exact .inl ⟨x, by simpa using hx, by rw [e]⟩)
section
variable {E : Env} {ops : List Oper} {J : Jt} {s : Slots} {h : Heap} {l : Effs} {n i : Nat} {K : Slots → Prop}
/-- 'append' to nothing: a row of the frame's own. -/
theorem HG_appendNil (hE : E.Good) {key : Nat} {o : Oper} {t e : TypeId} {so xo : Operand} {sz : Nat} {ys : List (List D)} (hm : l.find? (fun x => Nat.beq x.1 i) = some (i, key, .row e sz ys)) (ho : ops[i]? = some o) (hi : Nat.ble (i + 1) n = true) (hop : o.op = .call ⟨.builtin .append, #[so, xo], #[t, t]⟩) (hgd : o.guard = none)
    {z1 z2 : Nat} {z3 : List Value} (ht : E.T t = some ⟨.slice e, z1, z2, z3⟩) {k : TK} {bts : Nat} {z6 : List Value} (hte : E.T e = some ⟨k, sz, bts, z6⟩) (hpos : Nat.ble 1 sz = true) (hso : ev s so = .d (.lit (.slice none 0 0))) (hxo : ev s xo = .d (.sl sz bts ys))
    (hn : ys.length ≤ 140737488355328) (hb : ys.length * bts ≤ 140737488355328) {s' : Slots} (hs : putS E.N s o.dst (.row key) = some s') (hk : HGW h l E ops J n (i + 1) K s') : HGW h l E ops J n i K s := by
  obtain ⟨hd, rfl⟩ := pu_of_putS hs
  refine HG_cons ho hi hd (.inl ⟨key, _, o, mem_find hm, ho, hgd, fun s1 b hs1 hbi hbk => ?_⟩) hk
  refine opG_of_OW hgd (OW_appendNil' hE key (o := o) rfl hop (by simp [awant, hgd]) hbk ht hte hpos
    ((ev_look hs1 (by rw [hop]; simp [Op.operands, Call.operands])).trans hso) (.inl ((ev_look hs1 (by rw [hop]; simp [Op.operands, Call.operands])).trans hxo)) hn hb (s' := pu s1 o.dst (.row key)) (putS_pu hd) (OW_end rfl ⟨rfl, rfl⟩))
theorem partsA_same {s s1 : Slots} {sz : Nat} : ∀ (parts : List (Nat × Operand)) (i : Nat), (∀ x ∈ parts, ev s1 x.2 = ev s x.2) → partsA s1 sz i parts = partsA s sz i parts
  | [], i, _ => rfl
  | (j, x) :: r, i, hh => by
    simp only [partsA]
    rw [hh (j, x) (List.mem_cons_self ..), partsA_same r (i + 1) fun y hy => hh y (List.mem_cons_of_mem _ hy)]
/-- A literal row with cells of the frame's own. -/
theorem HG_litsA (hE : E.Good) {key : Nat} {o : Oper} {t e : TypeId} {len : Nat} {parts : Array (Nat × Operand)} {sz : Nat} {cs : List AV} (hm : l.find? (fun x => Nat.beq x.1 i) = some (i, key, .rowA e sz len cs)) (ho : ops[i]? = some o) (hi : Nat.ble (i + 1) n = true) (hop : o.op = .buildSlice t len parts) (hgd : o.guard = none)
    {z1 z2 : Nat} {z3 : List Value} (ht : E.T t = some ⟨.slice e, z1, z2, z3⟩) {ti : TI} (hte : E.T e = some ti) (hsz : ti.size = sz) (hpos : Nat.ble 1 ti.size = true) (hlen : parts.size = len) (hl1 : Nat.ble 1 len = true) (hsmall : Nat.ble (len * ti.size) 16777216 = true) (hl2 : Nat.ble len 16777216 = true) (hx : partsA s ti.size 0 parts.toList = some cs)
    {s' : Slots} (hs : putS E.N s o.dst (.row key) = some s') (hk : HGW h l E ops J n (i + 1) K s') : HGW h l E ops J n i K s := by
  subst hsz
  obtain ⟨hd, rfl⟩ := pu_of_putS hs
  refine HG_cons ho hi hd (.inl ⟨key, _, o, mem_find hm, ho, hgd, fun s1 b hs1 hbi hbk => ?_⟩) hk
  have hx1 : partsA s1 ti.size 0 parts.toList = some cs := by
    rw [← hx]
    refine partsA_same _ _ fun x hxm => ev_look hs1 ?_
    rw [hop]
    simp only [Op.operands]
    simp
    exact ⟨x.1, by simpa using hxm⟩
  refine opG_of_OW hgd (OW_litsOwnA' hE key (o := o) rfl hop (by simp [awant, hgd]) hbk ht hte hpos hlen hl1 hsmall hl2 hx1 (s' := pu s1 o.dst (.row key)) (putS_pu hd) (OW_end rfl ⟨rfl, rfl⟩))
end
section
variable {E : Env} {ops : List Oper} {J : Jt} {s : Slots} {p : Grow} {n i : Nat} {K : Slots → Prop}
theorem grow_more {kb : Nat} {e0 : Ent} (hk : p.h p.k = none) (hb : p.h kb = some e0) (hu : unkE p.k e0 = e0) : ∀ (b : Nat → Bool) (j : Nat) (e : Ent), hset noHeap kb (some e0) j = some e → p.H b j = some e := fun b j e hj => by
  by_cases hjk : j = kb
  · subst hjk
    rw [hset_same] at hj
    cases hj
    have hne : j ≠ p.k := fun e => by rw [e, hk] at hb; cases hb
    unfold Grow.H Grow.h2 Grow.h1
    cases b p.g2 with
    | true =>
      simp only [cond_true]
      rw [hset_ne _ _ hne]
      unfold unkH
      rw [hset_ne _ _ hne, hb]
      simp [hu]
    | false =>
      cases b p.g1 with
      | true => simp only [cond_true, cond_false]; rw [hset_ne _ _ hne]; exact hb
      | false => exact hb
  · rw [hset_ne _ _ hjk] at hj; simp [noHeap] at hj
theorem H3_oneB (hE : E.Good) {o : Oper} {R : AV} {h0 : Heap} (more : ∀ (b : Nat → Bool) (j : Nat) (e : Ent), h0 j = some e → p.H b j = some e) (ho : ops[i]? = some o) (hw : awant ops o s = some true) (hR : stepPure E.T h0 s o.op = some R) (hi : Nat.ble (i + 1) n = true) {s' : Slots} (hs : putS E.N s o.dst R = some s') (hn : (!Nat.beq i p.g1 && !Nat.beq i p.g2 && notDst p.d o.dst && nokey p.k R) = true)
    (hk : H3W p E ops J n (i + 1) K s') : H3W p E ops J n i K s := by
  obtain ⟨hd, rfl⟩ := pu_of_putS hs
  simp only [Bool.and_eq_true, Bool.not_eq_true'] at hn
  exact H3_cons ho hi hd (.inr (.inr ⟨fun e => by rw [e] at hn; simp at hn, fun e => by rw [e] at hn; simp at hn, hn.2, o, ho, notDst_ne hn.1.2, fun b => .inl ⟨hw, LY_of_gives hE (stepPure_notDefer hR) fun Z K Y ι a w m hl => stepPure_ok (K := K) (J := J K Y Z) hE.ok.T m o (look_ev hl) (stepPure_more (h := h0) (more b) hR)⟩⟩)) hk
end
end Go.AL
