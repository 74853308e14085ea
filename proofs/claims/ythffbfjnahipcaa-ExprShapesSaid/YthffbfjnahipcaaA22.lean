/- AL, part 22: regions that draw, with a new variable laid and written among the quiet operations. -/
import Derived.Test.YthffbfjnahipcaaA21
namespace Go.AL
set_option linter.unusedVariables false
set_option linter.unusedSimpArgs false

theorem Oper.wpIn_mono2 {F : Fence} {n : Nat} {P : Program} {Q Q' : Exit → Act → World → Prop} {o : Oper} {a : Act} {w : World} {K K' : Act → World → Prop} (h : ∀ a w, K a w → K' a w) (hq : ∀ e a w, e ≠ .normal → Q e a w → Q' e a w)
    (hh : o.wpIn F n P a w K Q) : o.wpIn F n P a w K' Q' := by
  unfold Oper.wpIn at *
  refine ⟨hh.1, ?_⟩
  have hh := hh.2
  generalize (o.semAt F.round a.eval).run P w = r at *
  have lo : LetsOut Q → LetsOut Q' := fun ⟨a, w, h⟩ => ⟨a, w, hq _ _ _ (by simp) h⟩
  cases r with
  | ok x w' =>
    cases x <;> simp only [Oper.uponIn] at hh ⊢ <;>
      first
        | exact h _ _ hh
        | exact ⟨hh.1, CallsIn.mono hh.2 (fun e w'' he => by cases e <;> first | exact h _ _ he | exact hq _ _ _ (by simp) he | exact lo he)⟩
        | exact ⟨hh.1, RowsIn.mono hh.2 (fun _ _ he => h _ _ he)⟩
        | exact ⟨hh.1, RoundIn.mono hh.2 (fun e w'' he => by cases e <;> first | exact h _ _ he | exact hq _ _ _ (by simp) he | exact lo he)⟩
  | halt x w' => cases x <;> simp only [Oper.uponIn] at hh ⊢ <;> first | exact hh | exact hq _ _ _ (by simp) hh

/-- One operation by itself. -/
def OpG (E : Env) (o : Oper) (st : St) (K : St → Prop) : Prop := ∀ ι a w, RelS E st ι a w → ∀ (K' : Act → World → Prop) (Q' : Exit → Act → World → Prop),
  (∀ st' ι' a' w', K st' → RelS E st' ι' a' w' → K' a' w') → o.wpIn E.F E.n E.P a w K' Q'
theorem opG_of_OW {E : Env} {o : Oper} {st : St} {K : St → Prop} (hg : o.guard = none) (h : OW E [o] 0 (fun e st' => e = .normal ∧ K st') st) : OpG E o st K := fun ι a w r K' Q' hk => by
  have := h ι a w r
  simp only [List.drop_zero, wpListIn] at this
  rw [if_pos (by simp [Region.wanted, hg])] at this
  exact Oper.wpIn_mono2 (fun a' w' ⟨st', ι', ⟨_, q⟩, r'⟩ => hk st' ι' a' w' q r') (fun e a' w' hne ⟨st', ι', ⟨he, q⟩, r'⟩ => (hne he).elim) this

/-! ### The tree of orders, over heaps that hang on what has come up -/
section
variable (E : Env) (ops : List Oper) (Y : Nat → Slots → AV → Prop)
def qB (i : Nat) (K : Slots → Prop) (s : Slots) : Prop :=
  match ops[i]? with
  | none => K s
  | some o => ∃ x, dstOk E.N o.dst = true ∧ Y i s x ∧ K (pu s o.dst x)
def anyB (n : Nat) (L : Array Bool → Slots → Prop) : Nat → Array Bool → Slots → Prop
  | 0, listed, s => L listed s
  | f + 1, listed, s => Region.ready .any ops.toArray listed ≠ [] ∧ ∀ i ∈ Region.ready .any ops.toArray listed, i < n ∧ qB E ops Y i (anyB n L f (listed.setIfInBounds i true)) s
def QB (K : Slots → Prop) : List Oper → Nat → Slots → Prop
  | [], _, s => K s
  | o :: rest, k, s => ∃ x, dstOk E.N o.dst = true ∧ Y k s x ∧ QB K rest (k + 1) (pu s o.dst x)
def YStable : Prop := ∀ i o s s' x, ops[i]? = some o → (∀ t ∈ o.looksAt ops.toArray, s' t = s t) → Y i s x → Y i s' x
end

section
variable {E : Env} {ops : List Oper} {Y : Nat → Slots → AV → Prop}
theorem qB_mono {i : Nat} {K K' : Slots → Prop} {s : Slots} (hk : ∀ s, K s → K' s) (hq : qB E ops Y i K s) : qB E ops Y i K' s := by
  unfold qB at *
  split
  · rename_i ho; simp only [ho] at hq; exact hk _ hq
  · rename_i o ho; simp only [ho] at hq; obtain ⟨x, h1, h2, h3⟩ := hq; exact ⟨x, h1, h2, hk _ h3⟩
theorem qB_put (hY : YStable ops Y) {i j : Nat} {oi oj : Oper} {v : AV} (hi : ops[i]? = some oi) (hj : ops[j]? = some oj) (hap : oi.apart ops.toArray oj = true) {K : Slots → Prop} {s : Slots} (hy : Y i s v) (hq : qB E ops Y j K (pu s oi.dst v)) :
    qB E ops Y j (fun s' => Y i s' v ∧ K (pu s' oi.dst v)) s := by
  obtain ⟨h1, h2, h3⟩ := Oper.apart_spec hap
  unfold qB at *
  simp only [hj] at hq ⊢
  obtain ⟨u, g1, g2, g3⟩ := hq
  refine ⟨u, g1, hY j oj (pu s oi.dst v) s u hj (fun t ht => (pu_look s v fun d hd e => h1 d hd (e ▸ ht)).symm) g2, hY i oi s (pu s oj.dst u) v hi (fun t ht => pu_look s u fun d hd e => h3 d hd (e ▸ ht)) hy, ?_⟩
  rw [← pu_comm s v u h2]
  exact g3

theorem anyB_first (hY : YStable ops Y) {n i : Nat} {oi : Oper} {v : AV} {L : Array Bool → Slots → Prop} (hi : ops[i]? = some oi) (hs : Region.sinkB .any ops.toArray n = true) (hc : Region.chainB .any ops.toArray n = true) (hn : n < ops.toArray.size) (hin : i < n) (hdo : dstOk E.N oi.dst = true)
    (hdone : ∀ listed s, L listed s → ∀ j ∈ Region.ready .any ops.toArray listed, n ≤ j) :
    ∀ (f : Nat) (listed : Array Bool) (s : Slots), HeadInv .any ops.toArray n listed →
      (∀ j oj, ops.toArray[j]? = some oj → j ≠ i → listed.getD j true = false → (∀ e ∈ oj.after, Region.binds .any e = true → e.on ≠ i) → oi.apart ops.toArray oj = true) →
      i ∈ Region.ready .any ops.toArray listed → Y i s v →
      anyB E ops Y n L f (listed.setIfInBounds i true) (pu s oi.dst v) → anyB E ops Y n L (f + 1) listed s := by
  intro f
  induction f with
  | zero =>
    intro listed s inv _ hr hy H
    have hun := (mem_ready.1 hr).1
    refine ⟨fun h => (by rw [h] at hr; cases hr), fun j hj => ?_⟩
    have hjn : j < n := by
      rcases Nat.lt_or_ge j n with h | h
      · exact h
      · exact absurd hj (tail_waits hs hc hn inv _ i rfl hin hun j h)
    refine ⟨hjn, ?_⟩
    by_cases hji : j = i
    · subst hji
      unfold qB
      simp only [hi]
      exact ⟨v, hdo, hy, H⟩
    · have := hdone _ _ H j (ready_mono hj hji)
      omega
  | succ f ih =>
    intro listed s inv hfree hr hy H
    have hun := (mem_ready.1 hr).1
    refine ⟨fun h => (by rw [h] at hr; cases hr), fun j hj => ?_⟩
    have hjn : j < n := by
      rcases Nat.lt_or_ge j n with h | h
      · exact h
      · exact absurd hj (tail_waits hs hc hn inv _ i rfl hin hun j h)
    refine ⟨hjn, ?_⟩
    by_cases hji : j = i
    · subst hji
      unfold qB
      simp only [hi]
      exact ⟨v, hdo, hy, H⟩
    · have h1 := (H.2 j (ready_mono hj hji)).2
      obtain ⟨hjun, oj, hoj, hall⟩ := mem_ready.1 hj
      have hoj' : ops[j]? = some oj := by simpa using hoj
      have hnot : ∀ e ∈ oj.after, Region.binds .any e = true → e.on ≠ i := fun e he hb heq => by
        have h1 := hall e he hb
        rw [heq, getD_both hun] at h1
        cases h1
      have h2 := qB_put hY hi hoj' (hfree j oj hoj hji hjun hnot) hy h1
      have hfree' : ∀ k ok, ops.toArray[k]? = some ok → k ≠ i → (listed.setIfInBounds j true).getD k true = false →
          (∀ e ∈ ok.after, Region.binds .any e = true → e.on ≠ i) → oi.apart ops.toArray ok = true := fun k ok hk hki hun hno => by
        refine hfree k ok hk hki ?_ hno
        by_cases hjk : j = k
        · subst hjk; exact hjun
        · rw [getD_set_ne true hjk] at hun; exact hun
      refine qB_mono (fun s' h3 => ih (listed.setIfInBounds j true) s' (inv.set hj hjn) hfree' (ready_mono hr (Ne.symm hji)) h3.1 ?_) h2
      rw [Array.setIfInBounds_comm _ _ hji]
      exact h3.2

theorem anyB_lex (hY : YStable ops Y) {n g : Nat} {K : Slots → Prop} (hs : Region.sinkB .any ops.toArray n = true) (hc : Region.chainB .any ops.toArray n = true) (hn : n < ops.toArray.size) :
    ∀ (l : List Oper) (k : Nat) (listed : Array Bool) (s : Slots), (∀ j, j < l.length → l[j]? = ops[k + j]?) → k + l.length = n → HeadInv .any ops.toArray n listed → (∀ j, j < k → listed.getD j false = true) →
    Region.lexHead .any ops.toArray g l.length k listed = true → QB E Y K l k s →
    anyB E ops Y n (fun listed' s' => (Region.seqB .any ops.toArray g n listed' = true ∧ ∀ j, j < n → listed'.getD j false = true) ∧ K s') l.length listed s
  | [], k, listed, s, _, hk, _, hall, hB, hq => by
    have : k = n := by simpa using hk
    subst this
    exact ⟨⟨by simpa [Region.lexHead] using hB, hall⟩, hq⟩
  | o :: l, k, listed, s, hl, hk, inv, hall, hB, hq => by
    have h0 : ops[k]? = some o := by simpa using (hl 0 (by simp)).symm
    simp only [List.length_cons, Region.lexHead, Bool.and_eq_true] at hB
    obtain ⟨⟨hr, hf⟩, hB'⟩ := hB
    have hkn : k < n := by simp only [List.length_cons] at hk; omega
    have hr' : k ∈ Region.ready .any ops.toArray listed := by simpa using hr
    obtain ⟨x, g1, g2, g3⟩ := hq
    have hall' : ∀ j, j < k + 1 → (listed.setIfInBounds k true).getD j false = true := fun j hj => by
      by_cases hjk : k = j
      · subst hjk
        have : k < listed.size := by rw [inv.size]; omega
        simp [this]
      · rw [getD_set_ne false hjk]; exact hall j (by omega)
    exact anyB_first hY h0 hs hc hn hkn g1 (fun listed' s' hL => seqB_ready hL.1.1) l.length listed s inv (Region.free_spec (by simpa using h0) hf) hr' g2
      (anyB_lex hY hs hc hn l (k + 1) _ _ (fun j hj => by have := hl (j + 1) (by simp; omega); simpa [Nat.add_assoc, Nat.add_comm 1 j] using this) (by simp only [List.length_cons] at hk; omega) (inv.set hr' hkn) hall' hB' g3)

def bits (listed : Array Bool) (j : Nat) : Bool := listed.getD j false

theorem wpAnyIn_of_headB {J : Jt} (H : (Nat → Bool) → Heap) {n g : Nat} {L : Array Bool → Slots → Prop} {Q' : Exit → Act → World → Prop}
    (hop : ∀ i o listed s x, ops[i]? = some o → HeadInv .any ops.toArray n listed → i ∈ Region.ready .any ops.toArray listed → i < n → Y i s x → dstOk E.N o.dst = true → ∀ ι a w, RelS E ⟨J, s, H (bits listed)⟩ ι a w → ∀ (K' : Act → World → Prop),
      (∀ ι' a' w', RelS E ⟨J, pu s o.dst x, H (bits (listed.setIfInBounds i true))⟩ ι' a' w' → K' a' w') → wpOpIn E.F E.n E.P ops.toArray Q' i K' a w)
    (hL : ∀ listed s ι a w, RelS E ⟨J, s, H (bits listed)⟩ ι a w → L listed s → wpAnyIn E.F E.n E.P .any ops.toArray Q' g listed a w) :
    ∀ (f : Nat) (listed : Array Bool) (s : Slots) (ι : Nat → Value) (a : Act) (w : World), HeadInv .any ops.toArray n listed → RelS E ⟨J, s, H (bits listed)⟩ ι a w → anyB E ops Y n L f listed s → wpAnyIn E.F E.n E.P .any ops.toArray Q' (f + g) listed a w
  | 0, listed, s, ι, a, w, _, r, hh => by rw [Nat.zero_add]; exact hL _ _ _ _ _ r hh
  | f + 1, listed, s, ι, a, w, inv, r, hh => by
    rw [show f + 1 + g = (f + g) + 1 by omega]
    refine ⟨fun h0 => absurd h0 hh.1, fun i hi => ?_⟩
    obtain ⟨hin, hq⟩ := hh.2 i hi
    obtain ⟨_, o, ho, _⟩ := mem_ready.1 hi
    have ho' : ops[i]? = some o := by simpa using ho
    unfold qB at hq
    simp only [ho'] at hq
    obtain ⟨x, h1, h2, h3⟩ := hq
    exact hop i o listed s x ho' inv hi hin h2 h1 ι a w r _ fun ι' a' w' r' => wpAnyIn_of_headB H hop hL f _ _ ι' a' w' (inv.set hi hin) r' h3
end
end Go.AL
