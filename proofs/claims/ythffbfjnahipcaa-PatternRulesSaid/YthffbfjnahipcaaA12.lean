/- AL, part 12: regions that draw their order. A head of quiet operations, in whatever order; behind it a tail in the text's order. -/
import Derived.Test.YthffbfjnahipcaaA11
import Derived.OrdersIn
import Derived.StillTail
namespace Go.AL
set_option linter.unusedVariables false
set_option linter.unusedSimpArgs false

def pu (s : Slots) (dst : Option Tmp) (x : AV) : Slots :=
  match dst with
  | none => s
  | some d => sset s d x
def dstOk (N : Nat) (dst : Option Tmp) : Bool :=
  match dst with
  | none => true
  | some d => Nat.ble (d + 1) N
theorem pu_of_putS {N : Nat} {s s' : Slots} {dst : Option Tmp} {x : AV} (h : putS N s dst x = some s') : dstOk N dst = true ∧ s' = pu s dst x := by
  unfold putS at h
  cases dst with
  | none => cases h; exact ⟨rfl, rfl⟩
  | some d =>
    simp only at h
    cases hb : Nat.ble (d + 1) N with
    | false => rw [hb] at h; cases h
    | true => rw [hb] at h; cases h; exact ⟨hb, rfl⟩
theorem sset_comm (s : Slots) {d d' : Nat} (h : d ≠ d') (x y : AV) : sset (sset s d x) d' y = sset (sset s d' y) d x := by
  funext i
  by_cases h1 : i = d'
  · subst h1; rw [sset_same, sset_ne _ _ (Ne.symm h), sset_same]
  · rw [sset_ne _ _ h1]
    by_cases h2 : i = d
    · subst h2; rw [sset_same, sset_same]
    · rw [sset_ne _ _ h2, sset_ne _ _ h2, sset_ne _ _ h1]
theorem pu_comm (s : Slots) {x y : Option Tmp} (u v : AV) (h : ∀ d, x = some d → y ≠ some d) : pu (pu s x u) y v = pu (pu s y v) x u := by
  cases x with
  | none => rfl
  | some d =>
    cases y with
    | none => rfl
    | some d' => exact sset_comm s (fun e => h d rfl (by rw [e])) u v
theorem pu_look (s : Slots) {dst : Option Tmp} (u : AV) {t : Nat} (h : ∀ d, dst = some d → d ≠ t) : pu s dst u t = s t := by
  cases dst with
  | none => rfl
  | some d => exact sset_ne _ _ (Ne.symm (h d rfl))

/-- The operation, wherever what it looks at is as told: it gives R and does no more than let memory grow. -/
def LY (E : Env) (ops : Array Oper) (J : Jt) (h : Heap) (o : Oper) (s : Slots) (R : AV) : Prop :=
  ∀ Z K Y ι (a : Act) w, Mem Z K (J K Y Z) h ι w → (∀ t ∈ o.looksAt ops, RA (cx Z h ι w) (s t) (a.tmps.getD t undef)) → ∀ (K' : Act → World → Prop) (Q' : Exit → Act → World → Prop),
    (∀ v w', Grew w w' → RA (cx Z h ι w') R v → K' (a.put o.dst v) w') → o.wpIn E.F E.n E.P a w K' Q'
def YA (E : Env) (ops : List Oper) (J : Jt) (h : Heap) (o : Oper) (s : Slots) (x : AV) : Prop :=
  (awant ops o s = some true ∧ LY E ops.toArray J h o s x) ∨ (awant ops o s = some false ∧ x = .tup [])

theorem awant_same {ops : List Oper} {o : Oper} {s s' : Slots} (h : ∀ t ∈ o.looksAt ops.toArray, s' t = s t) : awant ops o s' = awant ops o s := by
  unfold awant
  cases hg : o.guard with
  | none => rfl
  | some p =>
    obtain ⟨j, b⟩ := p
    simp only
    cases hj : ops[j]? with
    | none => rfl
    | some g =>
      simp only
      cases hd : g.dst with
      | none => rfl
      | some t =>
        simp only
        have : s' t = s t := h t (by simp [Oper.looksAt, hg, hj, hd])
        rw [this]
theorem YA_same {E : Env} {ops : List Oper} {J : Jt} {h : Heap} {o : Oper} {s s' : Slots} {x : AV} (hs : ∀ t ∈ o.looksAt ops.toArray, s' t = s t) (hy : YA E ops J h o s x) : YA E ops J h o s' x := by
  rcases hy with ⟨h1, h2⟩ | ⟨h1, h2⟩
  · exact .inl ⟨by rw [awant_same hs]; exact h1, fun Z K Y ι a w m hl => h2 Z K Y ι a w m fun t ht => by rw [← hs t ht]; exact hl t ht⟩
  · exact .inr ⟨by rw [awant_same hs]; exact h1, h2⟩

section
variable (E : Env) (ops : List Oper) (J : Jt) (h : Heap)
/-- Operation number i comes up. -/
def qA (i : Nat) (K : Slots → Prop) (s : Slots) : Prop :=
  match ops[i]? with
  | none => K s
  | some o => ∃ x, dstOk E.N o.dst = true ∧ YA E ops J h o s x ∧ K (pu s o.dst x)
/-- The head, in whatever order. -/
def anyL (n : Nat) (L : Array Bool → Slots → Prop) : Nat → Array Bool → Slots → Prop
  | 0, listed, s => L listed s
  | f + 1, listed, s => Region.ready .any ops.toArray listed ≠ [] ∧ ∀ i ∈ Region.ready .any ops.toArray listed, i < n ∧ qA E ops J h i (anyL n L f (listed.setIfInBounds i true)) s
/-- The head in the text's order. -/
def QW (K : Slots → Prop) : List Oper → Slots → Prop
  | [], s => K s
  | o :: rest, s => ∃ x, dstOk E.N o.dst = true ∧ YA E ops J h o s x ∧ QW K rest (pu s o.dst x)
end

section
variable {E : Env} {ops : List Oper} {J : Jt} {h : Heap}
theorem qA_mono {i : Nat} {K K' : Slots → Prop} {s : Slots} (hk : ∀ s, K s → K' s) (hq : qA E ops J h i K s) : qA E ops J h i K' s := by
  unfold qA at *
  split
  · rename_i ho; simp only [ho] at hq; exact hk _ hq
  · rename_i o ho; simp only [ho] at hq; obtain ⟨x, h1, h2, h3⟩ := hq; exact ⟨x, h1, h2, hk _ h3⟩

theorem qA_put {j : Nat} {oi oj : Oper} {v : AV} (hj : ops[j]? = some oj) (hap : oi.apart ops.toArray oj = true) {K : Slots → Prop} {s : Slots} (hy : YA E ops J h oi s v) (hq : qA E ops J h j K (pu s oi.dst v)) :
    qA E ops J h j (fun s' => YA E ops J h oi s' v ∧ K (pu s' oi.dst v)) s := by
  obtain ⟨h1, h2, h3⟩ := Oper.apart_spec hap
  unfold qA at *
  simp only [hj] at *
  obtain ⟨u, g1, g2, g3⟩ := hq
  refine ⟨u, g1, YA_same (s' := s) (s := pu s oi.dst v) (fun t ht => (pu_look s v fun d hd e => h1 d hd (e ▸ ht)).symm) g2, YA_same (s' := pu s oj.dst u) (s := s) (fun t ht => pu_look s u fun d hd e => h3 d hd (e ▸ ht)) hy, ?_⟩
  rw [← pu_comm s v u h2]
  exact g3

theorem anyL_first {n i : Nat} {oi : Oper} {v : AV} {L : Array Bool → Slots → Prop} (hi : ops[i]? = some oi) (hs : Region.sinkB .any ops.toArray n = true) (hc : Region.chainB .any ops.toArray n = true) (hn : n < ops.toArray.size) (hin : i < n) (hdo : dstOk E.N oi.dst = true)
    (hdone : ∀ listed s, L listed s → ∀ j ∈ Region.ready .any ops.toArray listed, n ≤ j) :
    ∀ (f : Nat) (listed : Array Bool) (s : Slots), HeadInv .any ops.toArray n listed →
      (∀ j oj, ops.toArray[j]? = some oj → j ≠ i → listed.getD j true = false → (∀ e ∈ oj.after, Region.binds .any e = true → e.on ≠ i) → oi.apart ops.toArray oj = true) →
      i ∈ Region.ready .any ops.toArray listed → YA E ops J h oi s v →
      anyL E ops J h n L f (listed.setIfInBounds i true) (pu s oi.dst v) → anyL E ops J h n L (f + 1) listed s := by
  intro f
  induction f with
  | zero =>
    intro listed s inv _ hr hy H
    have hun := (mem_ready.1 hr).1
    refine ⟨fun h => (by rw [h] at hr; cases hr), fun j hj => ?_⟩
    have hjn : j < n := by
      rcases Nat.lt_or_ge j n with h | h
      · exact h
      · exact absurd hj (tail_waits hs hc hn inv _ i rfl hin hun j h)
    refine ⟨hjn, ?_⟩
    by_cases hji : j = i
    · subst hji
      unfold qA
      simp only [hi]
      exact ⟨v, hdo, hy, H⟩
    · have := hdone _ _ H j (ready_mono hj hji)
      omega
  | succ f ih =>
    intro listed s inv hfree hr hy H
    have hun := (mem_ready.1 hr).1
    refine ⟨fun h => (by rw [h] at hr; cases hr), fun j hj => ?_⟩
    have hjn : j < n := by
      rcases Nat.lt_or_ge j n with h | h
      · exact h
      · exact absurd hj (tail_waits hs hc hn inv _ i rfl hin hun j h)
    refine ⟨hjn, ?_⟩
    by_cases hji : j = i
    · subst hji
      unfold qA
      simp only [hi]
      exact ⟨v, hdo, hy, H⟩
    · have h1 := (H.2 j (ready_mono hj hji)).2
      obtain ⟨hjun, oj, hoj, hall⟩ := mem_ready.1 hj
      have hoj' : ops[j]? = some oj := by simpa using hoj
      have hnot : ∀ e ∈ oj.after, Region.binds .any e = true → e.on ≠ i := fun e he hb heq => by
        have h1 := hall e he hb
        rw [heq, getD_both hun] at h1
        cases h1
      have h2 := qA_put hoj' (hfree j oj hoj hji hjun hnot) hy h1
      have hfree' : ∀ k ok, ops.toArray[k]? = some ok → k ≠ i → (listed.setIfInBounds j true).getD k true = false →
          (∀ e ∈ ok.after, Region.binds .any e = true → e.on ≠ i) → oi.apart ops.toArray ok = true := fun k ok hk hki hun hno => by
        refine hfree k ok hk hki ?_ hno
        by_cases hjk : j = k
        · subst hjk; exact hjun
        · rw [getD_set_ne true hjk] at hun; exact hun
      refine qA_mono (fun s' h3 => ih (listed.setIfInBounds j true) s' (inv.set hj hjn) hfree' (ready_mono hr (Ne.symm hji)) h3.1 ?_) h2
      rw [Array.setIfInBounds_comm _ _ hji]
      exact h3.2

theorem anyL_lex {n g : Nat} {K : Slots → Prop} (hs : Region.sinkB .any ops.toArray n = true) (hc : Region.chainB .any ops.toArray n = true) (hn : n < ops.toArray.size) :
    ∀ (l : List Oper) (k : Nat) (listed : Array Bool) (s : Slots), (∀ j, j < l.length → l[j]? = ops[k + j]?) → k + l.length = n → HeadInv .any ops.toArray n listed →
    Region.lexHead .any ops.toArray g l.length k listed = true → QW E ops J h K l s →
    anyL E ops J h n (fun listed' s' => Region.seqB .any ops.toArray g n listed' = true ∧ K s') l.length listed s
  | [], k, listed, s, _, hk, _, hB, hq => by
    have : k = n := by simpa using hk
    subst this
    exact ⟨by simpa [Region.lexHead] using hB, hq⟩
  | o :: l, k, listed, s, hl, hk, inv, hB, hq => by
    have h0 : ops[k]? = some o := by simpa using (hl 0 (by simp)).symm
    simp only [List.length_cons, Region.lexHead, Bool.and_eq_true] at hB
    obtain ⟨⟨hr, hf⟩, hB'⟩ := hB
    have hkn : k < n := by simp only [List.length_cons] at hk; omega
    have hr' : k ∈ Region.ready .any ops.toArray listed := by simpa using hr
    obtain ⟨x, g1, g2, g3⟩ := hq
    exact anyL_first h0 hs hc hn hkn g1 (fun listed' s' hL => seqB_ready hL.1) l.length listed s inv (Region.free_spec (by simpa using h0) hf) hr' g2
      (anyL_lex hs hc hn l (k + 1) _ _ (fun j hj => by have := hl (j + 1) (by simp; omega); simpa [Nat.add_assoc, Nat.add_comm 1 j] using this) (by simp only [List.length_cons] at hk; omega) (inv.set hr' hkn) hB' g3)

/-- On the machine. -/
theorem wpOpIn_of_qA (hE : E.Good) {i : Nat} {K : Slots → Prop} {K' : Act → World → Prop} {Q' : Exit → Act → World → Prop} {s : Slots} {ι : Nat → Value} {a : Act} {w : World} (r : RelS E ⟨J, s, h⟩ ι a w)
    (hk : ∀ s' a' w', RelS E ⟨J, s', h⟩ ι a' w' → K s' → K' a' w') (hq : qA E ops J h i K s) : wpOpIn E.F E.n E.P ops.toArray Q' i K' a w := by
  unfold qA at hq
  unfold wpOpIn
  simp only [List.getElem?_toArray]
  split
  · rename_i ho; simp only [ho] at hq; exact hk _ _ _ r hq
  · rename_i o ho
    simp only [ho] at hq
    obtain ⟨x, h1, h2, h3⟩ := hq
    have hwant := fun {b} (hw : awant ops o s = some b) => awant_ok (st := ⟨J, s, h⟩) r hw
    obtain ⟨Z, K, Y, hZE, r⟩ := r
    have put : ∀ v w', Grew w w' → RA (cx Z h ι w') x v → RelS E ⟨J, pu s o.dst x, h⟩ ι (a.put o.dst v) w' := by
      intro v w' hg hv
      cases hd : o.dst with
      | none => exact ⟨Z, K, Y, hZE, Rel.put_none r hg v⟩
      | some d => exact ⟨Z, K, Y, hZE, Rel.put r hg (by rw [hd] at h1; exact h1) hv⟩
    rcases h2 with ⟨hw, hy⟩ | ⟨hw, rfl⟩
    · rw [if_pos (hwant hw)]
      exact hy Z K Y ι a w r.mem (fun t _ => r.slot t) K' Q' fun v w' hg hv => hk _ _ _ (put v w' hg hv) h3
    · rw [if_neg (by rw [hwant hw]; simp)]
      exact ⟨fun f _ => hE.wide.fn f, hk _ _ _ (put undef w (Grew.refl w) (by simp [RA, RAs, undef])) h3⟩

theorem wpAnyIn_of_head (hE : E.Good) {n g : Nat} {L : Array Bool → Slots → Prop} {Q' : Exit → Act → World → Prop} {ι : Nat → Value} (hL : ∀ listed s a w, RelS E ⟨J, s, h⟩ ι a w → L listed s → wpAnyIn E.F E.n E.P .any ops.toArray Q' g listed a w) :
    ∀ (f : Nat) (listed : Array Bool) (s : Slots) (a : Act) (w : World), RelS E ⟨J, s, h⟩ ι a w → anyL E ops J h n L f listed s → wpAnyIn E.F E.n E.P .any ops.toArray Q' (f + g) listed a w
  | 0, listed, s, a, w, r, hh => by rw [Nat.zero_add]; exact hL _ _ _ _ r hh
  | f + 1, listed, s, a, w, r, hh => by
    rw [show f + 1 + g = (f + g) + 1 by omega]
    exact ⟨fun h0 => absurd h0 hh.1, fun i hi => wpOpIn_of_qA hE r (fun s' a' w' r' hs' => wpAnyIn_of_head hE hL f _ s' a' w' r' hs') (hh.2 i hi).2⟩

theorem wpAnyIn_of_seq {F : Fence} {n : Nat} {P : Program} {ops : Array Oper} {Q' : Exit → Act → World → Prop} : ∀ (l : List Oper) (k : Nat) (listed : Array Bool) (a : Act) (w : World), (∀ j, l[j]? = ops[k + j]?) →
    Region.seqB .any ops l.length k listed = true → wpListIn F n P ops Q' l a w → wpAnyIn F n P .any ops Q' l.length listed a w
  | [], _, _, _, _, _, hB, h => ⟨by simpa [Region.seqB] using hB, h⟩
  | o :: l, k, listed, a, w, hl, hB, h => by
    have h0 : ops[k]? = some o := by simpa using (hl 0).symm
    simp only [List.length_cons, Region.seqB, Bool.and_eq_true, decide_eq_true_eq] at hB
    refine ⟨fun h1 => (by rw [hB.1] at h1; cases h1), fun i hi => ?_⟩
    rw [hB.1] at hi
    have hik : i = k := by simpa using hi
    subst hik
    have hw : wpOpIn F n P ops Q' i (wpListIn F n P ops Q' l) a w := by unfold wpOpIn; simp only [h0]; exact h
    exact wpOpIn_mono (fun a' w' h' => wpAnyIn_of_seq l (i + 1) _ a' w' (fun j => by have := hl (j + 1); simpa [Nat.add_assoc, Nat.add_comm 1 j] using this) hB.2 h') hw

/-- **A region that draws: n quiet operations, then the rest in the text's order.** -/
theorem CW_draw (hE : E.Good) (n : Nat) {id : Nat} {Q : Exit → St → Prop} {st : St} (hB : Region.lexTailB .any ops.toArray n = true)
    (hq : QW E ops st.J st.h (fun s => OW E ops n Q ⟨st.J, s, st.h⟩) (ops.take n) st.s) : CW E (.region id ops.toArray true) Q st := fun ι a w r => by
  simp only [Region.lexTailB, Bool.and_eq_true, decide_eq_true_eq] at hB
  obtain ⟨⟨⟨⟨hsel, hn⟩, hs⟩, hc⟩, hlex⟩ := hB
  have hn' : n < ops.length := by simpa using hn
  have htl : (ops.take n).length = n := by simp; omega
  have hdl : (ops.drop n).length = ops.toArray.size - n := by simp
  have inv0 : HeadInv .any ops.toArray n (Array.replicate ops.toArray.size false) :=
    ⟨by simp, fun j oj _ hl => (by rw [getD_replicate_false] at hl; cases hl), fun t _ ht => getD_in (by simpa using ht) (getD_replicate_false _ _)⟩
  have H := anyL_lex (E := E) (J := st.J) (h := st.h) (g := ops.toArray.size - n) hs hc hn (ops.take n) 0 _ st.s (fun j hj => by
    have hj' : j < n := by rw [htl] at hj; exact hj
    simp [hj']) (by simpa using htl) inv0 (by rw [htl]; exact hlex) hq
  have r1 : RelS E ⟨st.J, st.s, st.h⟩ ι a { w with drawn := w.drawn + 1 } := by
    obtain ⟨Z, K, Y, hZE, r⟩ := r
    exact ⟨Z, K, Y, hZE, r.mem.grew (Grew.drew w), r.size, fun i => RA_keeps (keepsC_grew (K := K) (J := st.J K Y Z) (Grew.drew w)) _ _ (r.slot i), r.ds.grew (Grew.drew w)⟩
  refine wpIn_region_any hE.ok.mixed ?_
  have hh := wpAnyIn_of_head (Q' := Post E Q) hE (g := ops.toArray.size - n) (ι := ι) (fun listed s a' w' r' hL => by
    have := wpAnyIn_of_seq (Q' := Post E Q) (ops.drop n) n listed a' w' (fun j => by simp [List.getElem?_drop]) (by rw [hdl]; exact hL.1) (hL.2 ι a' w' r')
    rwa [hdl] at this) _ _ _ a _ r1 H
  rw [htl] at hh
  rwa [show n + (ops.toArray.size - n) = ops.toArray.size by simp; omega] at hh

/-! ### The head's walk -/
/-- From operation number i up to (not with) number n. -/
def HW (E : Env) (ops : List Oper) (J : Jt) (h : Heap) (n i : Nat) (K : Slots → Prop) (s : Slots) : Prop := QW E ops J h K ((ops.take n).drop i) s
theorem HW_end {n : Nat} {K : Slots → Prop} {s : Slots} (hk : K s) : HW E ops J h n n K s := by
  unfold HW
  rw [List.drop_eq_nil_of_le (by simp; omega)]
  exact hk
theorem CW_drawn (hE : E.Good) (n : Nat) {id : Nat} {Q : Exit → St → Prop} {st : St} (hB : Region.lexTailB .any ops.toArray n = true)
    (hq : HW E ops st.J st.h n 0 (fun s => OW E ops n Q ⟨st.J, s, st.h⟩) st.s) : CW E (.region id ops.toArray true) Q st := CW_draw hE n hB hq

theorem HW_cons {n i : Nat} {K : Slots → Prop} {s : Slots} {o : Oper} (ho : ops[i]? = some o) (hi : Nat.ble (i + 1) n = true) {x : AV} (hd : dstOk E.N o.dst = true) (hy : YA E ops J h o s x) (hk : HW E ops J h n (i + 1) K (pu s o.dst x)) : HW E ops J h n i K s := by
  unfold HW at *
  have hi' := Nat.le_of_ble_eq_true hi
  obtain ⟨hlt, rfl⟩ := List.getElem?_eq_some_iff.1 ho
  have hlt2 : i < (ops.take n).length := by simp; omega
  rw [List.drop_eq_getElem_cons hlt2, List.getElem_take]
  exact ⟨x, hd, hy, hk⟩

theorem LY_of_gives (hE : E.Good) {o : Oper} (hdf : ∀ c, o.op ≠ .defer c) {s : Slots} {R : AV}
    (hg : ∀ Z K Y ι (a : Act) w, Mem Z K (J K Y Z) h ι w → (∀ t ∈ o.looksAt ops.toArray, RA (cx Z h ι w) (s t) (a.tmps.getD t undef)) → OGives E.P Z h ι (execOp a.eval o) w R) : LY E ops.toArray J h o s R := by
  intro Z K Y ι a w m hl K' Q' hk
  refine ⟨fun f _ => hE.wide.fn f, ?_⟩
  rw [Oper.semAt_plain E.F _ _ hdf]
  obtain ⟨v, w', hr, hgr, hv⟩ := hg Z K Y ι a w m hl
  rw [hr]
  exact hk v w' hgr hv

theorem look_ev {o : Oper} {s : Slots} {C : Cx} {a : Act} (hl : ∀ t ∈ o.looksAt ops.toArray, RA C (s t) (a.tmps.getD t undef)) : ∀ x ∈ o.op.operands.toList, RA C (ev s x) (a.eval x) := fun x hx =>
  RA_ev x fun t e => hl t (by
    subst e
    simp only [Oper.looksAt, List.mem_append, List.mem_filterMap]
    exact .inl ⟨_, hx, rfl⟩)

/-- Plain operations of the head, m of them. -/
theorem HW_run (hE : E.Good) (m : Nat) {n i : Nat} {K : Slots → Prop} {s s' : Slots} (hp : runPure E ops h m i s = some s') (hi : Nat.ble (i + m) n = true) (hk : HW E ops J h n (i + m) K s') : HW E ops J h n i K s := by
  induction m generalizing i s with
  | zero => simp only [runPure, Option.some.injEq] at hp; subst hp; exact hk
  | succ m ih =>
    have hi' := Nat.le_of_ble_eq_true hi
    have hi1 : Nat.ble (i + 1) n = true := Nat.ble_eq_true_of_le (by omega)
    have hi2 : Nat.ble (i + 1 + m) n = true := Nat.ble_eq_true_of_le (by omega)
    simp only [runPure] at hp
    split at hp
    · rename_i o ho
      split at hp
      · rename_i hw
        split at hp
        · rename_i R hR
          split at hp
          · rename_i s1 hs1
            obtain ⟨hd, rfl⟩ := pu_of_putS hs1
            refine HW_cons ho hi1 hd (.inl ⟨hw, LY_of_gives hE (stepPure_notDefer hR) fun Z K Y ι a w m hl => stepPure_ok (K := K) (J := J K Y Z) hE.ok.T m o (look_ev hl) hR⟩) (ih hp hi2 ?_)
            rwa [show i + 1 + m = i + (m + 1) by omega]
          · cases hp
        · cases hp
      · rename_i hw
        split at hp
        · rename_i s1 hs1
          obtain ⟨hd, rfl⟩ := pu_of_putS hs1
          refine HW_cons ho hi1 hd (.inr ⟨hw, rfl⟩) (ih hp hi2 ?_)
          rwa [show i + 1 + m = i + (m + 1) by omega]
        · cases hp
      · cases hp
    · cases hp

/-- A call, wherever what it looks at is as told. -/
theorem LY_call (hE : E.Good) {f : Nat} {L : List AV} {R : AV} (hc : Does E.P f L noHeap R) {s : Slots} {o : Oper} {fo : Operand} {args : Array Operand} {ts : Array TypeId} (hop : o.op = .call ⟨.value fo, args, ts⟩)
    (hL : callArgs s fo args.toList = some (f, L)) (hkf : kfs L = true) (hR : kf R = true) : LY E ops.toArray J h o s R := by
  intro Z K Y ι a w m hl K' Q' hk'
  refine ⟨fun f _ => hE.wide.fn f, ?_⟩
  rw [Oper.semAt_plain E.F _ _ (by rw [hop]; intro c hc; cases hc)]
  have hevs := look_ev (ops := ops) (o := o) (s := s) (C := cx Z h ι w) (a := a) hl
  have hfo : RA (cx Z h ι w) (ev s fo) (a.eval fo) := hevs fo (by rw [hop]; simp [Op.operands, Call.operands])
  have hargs : RAs (cx Z h ι w) (args.toList.map (ev s)) (args.toList.map a.eval) := RAs_evs fun x hx => hevs x (by rw [hop]; simp [Op.operands, Call.operands]; exact .inr (by simpa using hx))
  obtain ⟨vf, vc, he, hv⟩ : ∃ vf vc, a.eval fo = .func (.func f) vf vc ∧ RAs (cx Z h ι w) L (vf ++ args.map a.eval ++ vc).toList := by
    unfold callArgs at hL
    split at hL
    · rename_i f' first cap hee
      cases hL
      rw [hee] at hfo
      simp only [RA, RD] at hfo
      obtain ⟨vf, vc, e, h1, h2⟩ := hfo
      exact ⟨vf, vc, e, by simpa using RAs_append (RAs_map_d.2 h1) (RAs_append hargs (RAs_map_d.2 h2))⟩
    · rename_i f' first cap hee
      cases hL
      rw [hee] at hfo
      simp only [RA] at hfo
      obtain ⟨vf, vc, e, h1, h2⟩ := hfo
      exact ⟨vf, vc, e, by simpa using RAs_append h1 (RAs_append hargs h2)⟩
    · cases hL
  obtain ⟨dst, op, ty, pos, af, gd⟩ := o
  simp only at hop
  subst hop
  rw [exec_call he hc.1]
  simp only [Oper.uponIn]
  refine ⟨fun hx => (by rw [hE.wide.depth] at hx; cases hx), ?_⟩
  have hZ : ∀ b, (cx Z h ι w).M b → b < w.heap.size := fun b hb => m.Mlt hb
  have hv' : RAs (cx (cx Z h ι w).M noHeap noι w) L (vf ++ args.map a.eval ++ vc).toList :=
    RAs_kf (C := cx Z h ι w) (C' := cx (cx Z h ι w).M noHeap noι w) ⟨fun _ _ _ _ hh => hh, fun _ _ hh => hh, fun b _ hm hm' => by rw [M_of] at hm'; exact hm hm'⟩ _ _ hkf hv
  have := hc.2 (E.n - 1) (cx Z h ι w).M w _ hZ hv'
  simp only [Array.toArray_toList] at this
  refine (hE.wide.calls this).mono fun e w' ⟨v, ι', he', hg, hRv, _⟩ => ?_
  subst he'
  exact hk' v w' hg (RA_kf (C := cx (cx Z h ι w).M noHeap ι' w') (C' := cx Z h ι w') ⟨fun _ _ _ _ hh => hh, fun _ _ hh => hh, fun b _ hm hm' => hm (.inl hm')⟩ _ _ hR hRv)
/-- A call in the head. -/
theorem HW_call (hE : E.Good) {f : Nat} {L : List AV} {R : AV} (hc : Does E.P f L noHeap R) {n i : Nat} {K : Slots → Prop} {s s' : Slots} {o : Oper} {fo : Operand} {args : Array Operand} {ts : Array TypeId} (ho : ops[i]? = some o) (hi : Nat.ble (i + 1) n = true) (hop : o.op = .call ⟨.value fo, args, ts⟩)
    (hw : awant ops o s = some true) (hL : callArgs s fo args.toList = some (f, L)) (hkf : kfs L = true) (hR : kf R = true) (hs : putS E.N s o.dst R = some s') (hk : HW E ops J h n (i + 1) K s') : HW E ops J h n i K s := by
  obtain ⟨hd, rfl⟩ := pu_of_putS hs
  exact HW_cons ho hi hd (.inl ⟨hw, LY_call hE hc hop hL hkf hR⟩) hk
end
end Go.AL
