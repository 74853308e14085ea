/- AL, part 34: calls that are lent what is the frame's own; rows told with less. -/
import Derived.Test.YthffbfjnahipcaaA33
namespace Go.AL
set_option linter.unusedVariables false
set_option linter.unusedSimpArgs false
section
variable {E : Env} {ops : List Oper} {Q : Exit → St → Prop} {i : Nat} {J : Jt} {h : Heap} {s : Slots}

/-- A call of a function that writes nothing of what it is handed and gives a plain value: what is the frame's own may be lent to it as data. -/
theorem OW_callLend' (hE : E.Good) {sF : Slots} {hF : Heap} (hle : LE E ⟨J, s, h⟩ ⟨J, sF, hF⟩) {f : Nat} {L : List AV} {x : Value} (hc : Does E.P f L noHeap (.d (.lit x))) {o : Oper} {fo : Operand} {args : Array Operand} {ts : Array TypeId} (ho : ops[i]? = some o) (hop : o.op = .call ⟨.value fo, args, ts⟩) (hw : awant ops o s = some true)
    (hL : callArgs sF fo args.toList = some (f, L)) (hk : kfs L = true) {s' : Slots} (hs : putS E.N s o.dst (.d (.lit x)) = some s') (hq : OW E ops (i + 1) Q ⟨J, s', h⟩) : OW E ops i Q ⟨J, s, h⟩ := fun ι a w r => by
  have hd : ops.drop i = o :: ops.drop (i + 1) := by
    obtain ⟨hlt, rfl⟩ := List.getElem?_eq_some_iff.1 ho
    exact List.drop_eq_getElem_cons hlt
  rw [hd]
  simp only [wpListIn]
  rw [if_pos (awant_ok r hw)]
  refine ⟨fun f _ => hE.wide.fn f, ?_⟩
  rw [Oper.semAt_plain E.F _ _ (by rw [hop]; intro c hc; cases hc)]
  obtain ⟨ι2, Z2, K2, Y2, hZE2, r2⟩ := hle ι a w r
  obtain ⟨Z, K, Y, hZE, r⟩ := r
  obtain ⟨vf, vc, he, hv⟩ := call_args hL r2.slot
  obtain ⟨dst, op, ty, pos, af, gd⟩ := o
  simp only at hop
  subst hop
  rw [exec_call he hc.1]
  simp only [Oper.uponIn]
  refine ⟨fun hx => (by rw [hE.wide.depth] at hx; cases hx), ?_⟩
  have hZ : ∀ b, (cx Z2 hF ι2 w).M b → b < w.heap.size := fun b hb => r2.mem.Mlt hb
  have hv' : RAs (cx (cx Z2 hF ι2 w).M noHeap noι w) L (vf ++ args.map a.eval ++ vc).toList :=
    RAs_kf (C := cx Z2 hF ι2 w) (C' := cx (cx Z2 hF ι2 w).M noHeap noι w) ⟨fun _ _ _ _ hh => hh, fun _ _ hh => hh, fun b _ hm hm' => by rw [M_of] at hm'; exact hm hm'⟩ _ _ hk hv
  have := hc.2 (E.n - 1) (cx Z2 hF ι2 w).M w _ hZ hv'
  simp only [Array.toArray_toList] at this
  refine (hE.wide.calls this).mono fun e w' ⟨v, ι', he', hg, hRv, _⟩ => ?_
  subst he'
  show wpListIn _ _ _ _ _ _ _ _
  have hRv' : RA (cx Z h ι w') (.d (.lit x)) v := by
    obtain ⟨e, o⟩ := RA_lit.1 hRv
    rw [e]; exact RA_lit_mk o
  unfold putS at hs
  cases hdst : dst with
  | none =>
    simp only [hdst] at hs
    cases hs
    exact hq ι _ w' ⟨Z, K, Y, hZE, Rel.put_none r hg _⟩
  | some d =>
    simp only [hdst] at hs
    cases hb : Nat.ble (d + 1) E.N with
    | false => rw [hb] at hs; cases hs
    | true =>
      rw [hb] at hs
      cases hs
      exact hq ι _ w' ⟨Z, K, Y, hZE, Rel.put r hg hb hRv'⟩

/-! ### Data told with less -/
def Dle (x y : D) : Prop := ∀ w M v, RD w M x v → RD w M y v
def Dles (x y : List D) : Prop := ∀ w M vs, RDs w M x vs → RDs w M y vs
theorem Dle.refl (x : D) : Dle x x := fun _ _ _ h => h
theorem Dles.refl (x : List D) : Dles x x := fun _ _ _ h => h
theorem Dles.nil : Dles [] [] := fun _ _ _ h => h
theorem Dles.cons {x y : D} {xs ys : List D} (h : Dle x y) (hs : Dles xs ys) : Dles (x :: xs) (y :: ys) := fun w M vs hv => by
  simp only [RDs] at hv ⊢
  obtain ⟨v, t, e, h1, h2⟩ := hv
  exact ⟨v, t, e, h _ _ _ h1, hs _ _ _ h2⟩
theorem RDs_split {w : World} {M : Nat → Prop} : ∀ {xs ys : List D} {vs : List Value}, RDs w M (xs ++ ys) vs → ∃ a b, vs = a ++ b ∧ RDs w M xs a ∧ RDs w M ys b
  | [], ys, vs, h => ⟨[], vs, rfl, by simp [RDs], h⟩
  | x :: xs, ys, vs, h => by
    simp only [List.cons_append, RDs] at h
    obtain ⟨v, t, rfl, h1, h2⟩ := h
    obtain ⟨a, b, rfl, h3, h4⟩ := RDs_split h2
    exact ⟨v :: a, b, rfl, by simp only [RDs]; exact ⟨v, a, rfl, h1, h3⟩, h4⟩
theorem Dles.append {x y xs ys : List D} (h : Dles x y) (hs : Dles xs ys) : Dles (x ++ xs) (y ++ ys) := fun w M vs hv => by
  obtain ⟨a, b, rfl, h1, h2⟩ := RDs_split hv
  exact RDs_append (h _ _ _ h1) (hs _ _ _ h2)
theorem Dle.nilSl (sz bts : Nat) : Dle (.lit (.slice none 0 0)) (.sl sz bts []) := fun w M v hv => by
  simp only [RD] at hv
  obtain ⟨rfl, _⟩ := hv
  simp only [RD]
  exact ⟨none, 0, rfl, by simp, by simp, by simp, by simp⟩
theorem Dles.set {x y : List D} : ∀ {xs : List (List D)} {j : Nat}, xs[j]? = some x → Dles x y → Dles xs.flatten (xs.set j y).flatten
  | [], j, h, _ => by simp at h
  | z :: xs, 0, h, hl => by
    simp at h; subst h
    simpa using hl.append (Dles.refl _)
  | z :: xs, j + 1, h, hl => by
    have := Dles.set (xs := xs) (j := j) (by simpa using h) hl
    simpa using (Dles.refl z).append this
theorem Dles.set2 {x y : List D} (hl : Dles x y) : ∀ {xs : List (List D)} {j : Nat}, Dles (xs.set j x).flatten (xs.set j y).flatten
  | [], j => by simpa using Dles.refl _
  | z :: xs, 0 => by simpa using hl.append (Dles.refl _)
  | z :: xs, j + 1 => by simpa using (Dles.refl z).append (Dles.set2 hl (xs := xs) (j := j))
theorem LE_rowLe (k : Nat) {e : TypeId} {sz : Nat} {xs xs' : List (List D)} (hk : h k = some (.row e sz xs)) (hl : xs'.length = xs.length) (hz : (∀ x ∈ xs, x.length = sz) → ∀ x ∈ xs', x.length = sz) (hd : Dles xs.flatten xs'.flatten) : LE E ⟨J, s, h⟩ ⟨J, s, hset h k (some (.row e sz xs'))⟩ := fun ι a w ⟨Z, K, Y, hZ, r⟩ => by
  have hdom : dom (hset h k (some (.row e sz xs'))) = dom h := by
    funext j
    by_cases hj : j = k
    · subst hj; simp [dom, hset_same, hk]
    · simp [dom, hset_ne _ _ hj]
  have hcx : cx Z (hset h k (some (.row e sz xs'))) ι w = cx Z h ι w := by simp only [cx, hdom]
  refine ⟨ι, Z, K, Y, hZ, ⟨fun j e' hj => ?_, fun j b hj hb => r.mem.own j b (by rw [← hdom]; exact hj) hb, fun j j' b hj hj' => r.mem.apart j j' b (by rw [← hdom]; exact hj) (by rw [← hdom]; exact hj'), r.mem.Zlt, r.mem.Klt, r.mem.Jw, r.mem.Jc⟩, r.size, fun j => ?_, r.ds⟩
  · rw [show (⟨w, Z, dom (hset h k (some (.row e sz xs'))), ι⟩ : Cx) = cx Z h ι w from hcx]
    have hj : hset h k (some (.row e sz xs')) j = some e' := hj
    by_cases hjk : j = k
    · subst hjk
      rw [hset_same] at hj
      cases hj
      obtain ⟨vs, h1, h2, h3, h4⟩ := r.mem.ent j _ hk
      exact ⟨vs, by rw [hl]; exact h1, hd _ _ _ h2, hz h3, by rw [hl]; exact h4⟩
    · rw [hset_ne _ _ hjk] at hj
      exact r.mem.ent j _ hj
  · rw [show cx Z (hset h k (some (.row e sz xs'))) ι w = cx Z h ι w from hcx]
    exact r.slot j
end
end Go.AL
