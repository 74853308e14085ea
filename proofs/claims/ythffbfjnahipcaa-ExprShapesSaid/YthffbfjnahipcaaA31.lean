/- AL, part 31: regions that draw whose last operations come in several orders; 'max'. -/
import Derived.Test.YthffbfjnahipcaaA30
namespace Go.AL
set_option linter.unusedVariables false
set_option linter.unusedSimpArgs false

def lexH (ops : Array Oper) : Nat → Nat → Array Bool → Bool
  | 0, _, _ => true
  | f + 1, k, listed => (Region.ready .any ops listed).contains k && Region.free .any ops listed k && lexH ops f (k + 1) (listed.setIfInBounds k true)
/-- Whatever is not of the head waits for all of the head. -/
def allSink (ops : Array Oper) (n : Nat) : Bool := (List.range ops.size).all fun t => Nat.ble (t + 1) n || (List.range n).all fun i => match ops[t]? with
  | some o => o.after.any fun e => Region.binds .any e && Nat.beq e.on i
  | none => true
def headB (ops : Array Oper) (n : Nat) : Bool := Nat.ble n ops.size && allSink ops n && lexH ops n 0 (Array.replicate ops.size false)

theorem waits_of {ops : Array Oper} {n : Nat} (h : allSink ops n = true) {listed : Array Bool} {i : Nat} (hi : i < n) (hun : listed.getD i true = false) : ∀ t, n ≤ t → t ∉ Region.ready .any ops listed := by
  intro t ht hr
  obtain ⟨_, ot, hot, hall⟩ := mem_ready.1 hr
  have htl : t < ops.size := (Array.getElem?_eq_some_iff.1 hot).1
  have h1 := List.all_eq_true.1 h t (List.mem_range.2 htl)
  simp only [Bool.or_eq_true] at h1
  rcases h1 with h1 | h1
  · have := Nat.le_of_ble_eq_true h1; omega
  · have h2 := List.all_eq_true.1 h1 i (List.mem_range.2 hi)
    rw [hot] at h2
    obtain ⟨e, he, hb⟩ := Array.any_eq_true'.1 h2
    simp only [Bool.and_eq_true] at hb
    have hon := Nat.eq_of_beq_eq_true hb.2
    have := hall e he hb.1
    rw [hon] at this
    rcases Nat.lt_or_ge i listed.size with h' | h'
    · simp [h'] at hun this
      rw [hun] at this; cases this
    · simp [Array.getElem?_eq_none h'] at hun

section
variable {E : Env} {ops : List Oper} {Y : Nat → Slots → AV → Prop}
theorem anyB_firstW (hY : YStable ops Y) {n i : Nat} {oi : Oper} {v : AV} {L : Array Bool → Slots → Prop} (hi : ops[i]? = some oi) (hw : allSink ops.toArray n = true) (hin : i < n) (hdo : dstOk E.N oi.dst = true)
    (hdone : ∀ listed s, L listed s → ∀ j ∈ Region.ready .any ops.toArray listed, n ≤ j) :
    ∀ (f : Nat) (listed : Array Bool) (s : Slots), HeadInv .any ops.toArray n listed →
      (∀ j oj, ops.toArray[j]? = some oj → j ≠ i → listed.getD j true = false → (∀ e ∈ oj.after, Region.binds .any e = true → e.on ≠ i) → oi.apart ops.toArray oj = true) →
      i ∈ Region.ready .any ops.toArray listed → Y i s v →
      anyB E ops Y n L f (listed.setIfInBounds i true) (pu s oi.dst v) → anyB E ops Y n L (f + 1) listed s := by
  intro f
  induction f with
  | zero =>
    intro listed s inv _ hr hy H
    have hun := (mem_ready.1 hr).1
    refine ⟨fun h => (by rw [h] at hr; cases hr), fun j hj => ?_⟩
    have hjn : j < n := by
      rcases Nat.lt_or_ge j n with h | h
      · exact h
      · exact absurd hj (waits_of hw hin hun j h)
    refine ⟨hjn, ?_⟩
    by_cases hji : j = i
    · subst hji
      unfold qB
      simp only [hi]
      exact ⟨v, hdo, hy, H⟩
    · have := hdone _ _ H j (ready_mono hj hji)
      omega
  | succ f ih =>
    intro listed s inv hfree hr hy H
    have hun := (mem_ready.1 hr).1
    refine ⟨fun h => (by rw [h] at hr; cases hr), fun j hj => ?_⟩
    have hjn : j < n := by
      rcases Nat.lt_or_ge j n with h | h
      · exact h
      · exact absurd hj (waits_of hw hin hun j h)
    refine ⟨hjn, ?_⟩
    by_cases hji : j = i
    · subst hji
      unfold qB
      simp only [hi]
      exact ⟨v, hdo, hy, H⟩
    · have h1 := (H.2 j (ready_mono hj hji)).2
      obtain ⟨hjun, oj, hoj, hall⟩ := mem_ready.1 hj
      have hoj' : ops[j]? = some oj := by simpa using hoj
      have hnot : ∀ e ∈ oj.after, Region.binds .any e = true → e.on ≠ i := fun e he hb heq => by
        have h1 := hall e he hb
        rw [heq, getD_both hun] at h1
        cases h1
      have h2 := qB_put hY hi hoj' (hfree j oj hoj hji hjun hnot) hy h1
      have hfree' : ∀ k ok, ops.toArray[k]? = some ok → k ≠ i → (listed.setIfInBounds j true).getD k true = false →
          (∀ e ∈ ok.after, Region.binds .any e = true → e.on ≠ i) → oi.apart ops.toArray ok = true := fun k ok hk hki hun hno => by
        refine hfree k ok hk hki ?_ hno
        by_cases hjk : j = k
        · subst hjk; exact hjun
        · rw [getD_set_ne true hjk] at hun; exact hun
      refine qB_mono (fun s' h3 => ih (listed.setIfInBounds j true) s' (inv.set hj hjn) hfree' (ready_mono hr (Ne.symm hji)) h3.1 ?_) h2
      rw [Array.setIfInBounds_comm _ _ hji]
      exact h3.2

theorem anyB_lexW (hY : YStable ops Y) {n : Nat} {K : Slots → Prop} (hw : allSink ops.toArray n = true) (hn : n ≤ ops.toArray.size) :
    ∀ (l : List Oper) (k : Nat) (listed : Array Bool) (s : Slots), (∀ j, j < l.length → l[j]? = ops[k + j]?) → k + l.length = n → HeadInv .any ops.toArray n listed → (∀ j, j < k → listed.getD j false = true) →
    lexH ops.toArray l.length k listed = true → QB E Y K l k s →
    anyB E ops Y n (fun listed' s' => (HeadInv .any ops.toArray n listed' ∧ ∀ j, j < n → listed'.getD j false = true) ∧ K s') l.length listed s
  | [], k, listed, s, _, hk, inv, hall, hB, hq => by
    have : k = n := by simpa using hk
    subst this
    exact ⟨⟨inv, hall⟩, hq⟩
  | o :: l, k, listed, s, hl, hk, inv, hall, hB, hq => by
    have h0 : ops[k]? = some o := by simpa using (hl 0 (by simp)).symm
    simp only [List.length_cons, lexH, Bool.and_eq_true] at hB
    obtain ⟨⟨hr, hf⟩, hB'⟩ := hB
    have hkn : k < n := by simp only [List.length_cons] at hk; omega
    have hr' : k ∈ Region.ready .any ops.toArray listed := by simpa using hr
    obtain ⟨x, g1, g2, g3⟩ := hq
    have hall' : ∀ j, j < k + 1 → (listed.setIfInBounds k true).getD j false = true := fun j hj => by
      by_cases hjk : k = j
      · subst hjk
        have : k < listed.size := by rw [inv.size]; omega
        simp [this]
      · rw [getD_set_ne false hjk]; exact hall j (by omega)
    exact anyB_firstW hY h0 hw hkn g1 (fun listed' s' hL j hj => by
      rcases Nat.lt_or_ge j n with h | h
      · have h1 := hL.1.2 j h
        have h2 := (mem_ready.1 hj).1
        rw [getD_both h2] at h1; cases h1
      · exact h) l.length listed s inv (Region.free_spec (by simpa using h0) hf) hr' g2
      (anyB_lexW hY hw hn l (k + 1) _ _ (fun j hj => by have := hl (j + 1) (by simp; omega); simpa [Nat.add_assoc, Nat.add_comm 1 j] using this) (by simp only [List.length_cons] at hk; omega) (inv.set hr' hkn) hall' hB' g3)
end

/-! ### Behind the head: whichever is ready -/
def AW (E : Env) (ops : List Oper) (g : Nat) (listed : Array Bool) (Q : Exit → St → Prop) (st : St) : Prop :=
  ∀ ι a w, RelS E st ι a w → wpAnyIn E.F E.n E.P .any ops.toArray (Post E Q) g listed a w
section
variable {E : Env} {ops : List Oper} {Q : Exit → St → Prop} {st : St} {listed : Array Bool} {g : Nat}
theorem AW_end (hr : Region.ready .any ops.toArray listed = []) (h : Q .normal st) : AW E ops 0 listed Q st := fun ι a w r => ⟨hr, st, ι, h, r⟩
theorem AW_le {st' : St} (hle : LE E st st') (h : AW E ops g listed Q st') : AW E ops g listed Q st := fun ι a w r => let ⟨ι', r'⟩ := hle ι a w r; h ι' a w r'
theorem opIn_of {i : Nat} {o : Oper} (ho : ops[i]? = some o) (hg : o.guard = none) {K : St → Prop} (h : OW E [o] 0 (fun e st' => e = .normal ∧ K st') st) {K' : Act → World → Prop} {Q' : Exit → Act → World → Prop} (hk : ∀ st' ι' a' w', K st' → RelS E st' ι' a' w' → K' a' w')
    {ι : Nat → Value} {a : Act} {w : World} (r : RelS E st ι a w) : wpOpIn E.F E.n E.P ops.toArray Q' i K' a w := by
  unfold wpOpIn
  simp only [List.getElem?_toArray, ho]
  rw [if_pos (by simp [Region.wanted, hg])]
  exact opG_of_OW hg h ι a w r K' Q' hk
theorem AW_one {i : Nat} {o : Oper} (hr : Region.ready .any ops.toArray listed = [i]) (ho : ops[i]? = some o) (hg : o.guard = none) (h : OW E [o] 0 (fun e st' => e = .normal ∧ AW E ops g (listed.setIfInBounds i true) Q st') st) : AW E ops (g + 1) listed Q st := fun ι a w r => by
  refine ⟨fun h0 => (by rw [hr] at h0; cases h0), fun j hj => ?_⟩
  rw [hr] at hj
  have : j = i := by simpa using hj
  subst this
  exact opIn_of ho hg h (fun st' ι' a' w' k r' => k ι' a' w' r') r
theorem AW_two {i j : Nat} {o o' : Oper} (hr : Region.ready .any ops.toArray listed = [i, j]) (ho : ops[i]? = some o) (hg : o.guard = none) (ho' : ops[j]? = some o') (hg' : o'.guard = none)
    (h : OW E [o] 0 (fun e st' => e = .normal ∧ AW E ops g (listed.setIfInBounds i true) Q st') st) (h' : OW E [o'] 0 (fun e st' => e = .normal ∧ AW E ops g (listed.setIfInBounds j true) Q st') st) : AW E ops (g + 1) listed Q st := fun ι a w r => by
  refine ⟨fun h0 => (by rw [hr] at h0; cases h0), fun q hq => ?_⟩
  rw [hr] at hq
  have : q = i ∨ q = j := by simpa using hq
  rcases this with rfl | rfl
  · exact opIn_of ho hg h (fun st' ι' a' w' k r' => k ι' a' w' r') r
  · exact opIn_of ho' hg' h' (fun st' ι' a' w' k r' => k ι' a' w' r') r
end

def headListed (n m : Nat) : Array Bool := ((List.replicate n true) ++ List.replicate (m - n) false).toArray

theorem CW_fork {E : Env} {ops : List Oper} {Q : Exit → St → Prop} {J : Jt} {s : Slots} {h : Heap} (hE : E.Good) (n : Nat) {id : Nat} (hB : headB ops.toArray n = true)
    (hq : HW E ops J h n 0 (fun s => AW E ops (ops.length - n) (headListed n ops.length) Q ⟨J, s, h⟩) s) : CW E (.region id ops.toArray true) Q ⟨J, s, h⟩ := fun ι a w r => by
  simp only [headB, Bool.and_eq_true] at hB
  obtain ⟨⟨hn, hs⟩, hlex⟩ := hB
  have hn := Nat.le_of_ble_eq_true hn
  have hn' : n ≤ ops.length := by simpa using hn
  have htl : (ops.take n).length = n := by simp; omega
  let Y : Nat → Slots → AV → Prop := fun i s x => ∃ o, ops[i]? = some o ∧ YA E ops J h o s x
  have hYS : YStable ops Y := by
    rintro i o s s' x ho hss ⟨o', ho', hy⟩
    have : o' = o := by rw [ho] at ho'; exact (Option.some.inj ho').symm
    subst this
    exact ⟨o', ho', YA_same hss hy⟩
  have inv0 : HeadInv .any ops.toArray n (Array.replicate ops.toArray.size false) :=
    ⟨by simp, fun j oj _ hl => (by rw [getD_replicate_false] at hl; cases hl), fun t _ ht => getD_in (by simpa using ht) (getD_replicate_false _ _)⟩
  have hQB : ∀ (l : List Oper) (k : Nat) (K : Slots → Prop) (s : Slots), (∀ j, j < l.length → l[j]? = ops[k + j]?) → QW E ops J h K l s → QB E Y K l k s := by
    intro l
    induction l with
    | nil => intro k K s _ hq; exact hq
    | cons o l ih =>
      intro k K s hl hq
      obtain ⟨x, h1, h2, h3⟩ := hq
      exact ⟨x, h1, ⟨o, by simpa using (hl 0 (by simp)).symm, h2⟩, ih (k + 1) K _ (fun j hj => by have := hl (j + 1) (by simp; omega); simpa [Nat.add_assoc, Nat.add_comm 1 j] using this) h3⟩
  have H0 := anyB_lexW (E := E) (Y := Y) hYS hs hn (ops.take n) 0 _ s (fun j hj => by
    have hj' : j < n := by rw [htl] at hj; exact hj
    simp [hj']) (by simpa using htl) inv0 (fun j hj => by omega) (by rw [htl]; exact hlex) (hQB _ 0 _ s (fun j hj => by
    have hj' : j < n := by rw [htl] at hj; exact hj
    simp [hj']) (by simpa [HW] using hq))
  have r1 : RelS E ⟨J, s, h⟩ ι a { w with drawn := w.drawn + 1 } := by
    obtain ⟨Z, K, Y, hZE, r⟩ := r
    exact ⟨Z, K, Y, hZE, r.mem.grew (Grew.drew w), r.size, fun i => RA_keeps (keepsC_grew (K := K) (J := J K Y Z) (Grew.drew w)) _ _ (r.slot i), r.ds.grew (Grew.drew w)⟩
  refine wpIn_region_any hE.ok.mixed ?_
  have hh := wpAnyIn_of_headB (Y := Y) (J := J) (Q' := Post E Q) (fun _ => h) (g := ops.length - n) (fun i o listed s x ho inv hi hin hy hdo ι a w r K' hk' => ?_) (fun listed s ι a' w' r' hL => by
    have hlist : listed = headListed n ops.length := by
      have hsz := hL.1.1.size
      apply Array.ext
      · rw [hsz]; simp [headListed]; omega
      · intro q hq1 hq2
        rcases Nat.lt_or_ge q n with hqn | hqn
        · have := hL.1.2 q hqn
          have e1 : listed[q] = true := by simpa [hq1] using this
          rw [e1]
          simp [headListed, List.getElem_append, hqn]
        · have := hL.1.1.tail q hqn (by rw [← hsz]; exact hq1)
          have e1 : listed[q] = false := by simpa [hq1] using this
          rw [e1]
          simp [headListed, List.getElem_append, Nat.not_lt.2 hqn]
    subst hlist
    exact hL.2 ι a' w' r') _ _ _ ι a _ inv0 r1 H0
  · rw [htl] at hh
    rwa [show n + (ops.length - n) = ops.toArray.size by simp; omega] at hh
  · obtain ⟨o', ho', hya⟩ := hy
    have : o' = o := by rw [ho] at ho'; exact (Option.some.inj ho').symm
    subst this
    refine wpOpIn_of_qA (J := J) (h := h) (K := fun s' => s' = pu s o'.dst x) hE r (fun s' a' w' r' hs' => ?_) ?_
    · subst hs'
      exact hk' ι a' w' r'
    · unfold qA
      simp only [ho]
      exact ⟨x, hdo, hya, rfl⟩

/-- 'max' of two ints. -/
theorem loc_max {E : Env} {ops : List Oper} {J : Jt} {s : Slots} {h : Heap} (hE : E.Good) {o : Oper} {xo yo : Operand} {t : TypeId} (hop : o.op = .call ⟨.builtin .max, #[xo, yo], #[t, t]⟩) {x1 x2 : Nat} {x3 : List Value} (ht : E.T t = some ⟨.int .i64, x1, x2, x3⟩) {a b : Int} (hx : ev s xo = .d (.lit (.int .i64 a))) (hy : ev s yo = .d (.lit (.int .i64 b))) :
    Loc E ops J h o s (.d (.lit (.int .i64 (max a b)))) := by
  refine ⟨(by rw [hop]; intro c hc; cases hc), fun Z K Y ι ac w m hl => ?_⟩
  obtain ⟨dst, op, ty, pos, af, gd⟩ := o
  simp only at hop
  subst hop
  have h1 := hl xo (by simp [Op.operands, Call.operands])
  have h2 := hl yo (by simp [Op.operands, Call.operands])
  rw [hx] at h1
  rw [hy] at h2
  obtain ⟨e1, o1⟩ := RA_lit.1 h1
  obtain ⟨e2, o2⟩ := RA_lit.1 h2
  have hu := (hE.ok.T t _ ht).2
  simp only [TK.fits] at hu
  refine ⟨.int .i64 (max a b), w, ?_, Grew.refl w, RA_lit_mk ?_⟩
  · have hm : (if b > a then b else a) = max a b := by simp only [Int.max_def]; split <;> split <;> omega
    simp [execOp, resolve, invoke, builtin, Builtin.max_, Builtin.max2, e1, e2, hm]
  · simp only [okLit] at o1 o2 ⊢
    omega

/-- '[]T{zero}', the element a constant of several cells. -/
theorem loc_litAgg {E : Env} {ops : List Oper} {J : Jt} {s : Slots} {h : Heap} (hE : E.Good) {o : Oper} {t e : TypeId} {vs : Array Value} (hop : o.op = .buildSlice t 1 #[(0, .const (.agg vs))]) {z1 z2 : Nat} {z3 : List Value} (ht : E.T t = some ⟨.slice e, z1, z2, z3⟩)
    {k : TK} {sz bts : Nat} {z6 : List Value} (hte : E.T e = some ⟨k, sz, bts, z6⟩) (hpos : Nat.ble 1 sz = true) (hsz : vs.size = sz) (hok : vs.toList.all okLitB = true) (hsmall : Nat.ble (1 * sz) 16777216 = true) (hbts : Nat.ble bts 16777216 = true) : Loc E ops J h o s (.d (.sl sz bts [vs.toList.map .lit])) := by
  refine ⟨(by rw [hop]; intro c hc; cases hc), fun Z K Y ι a w m hlk => ?_⟩
  obtain ⟨dst, op, ty, pos, af, gd⟩ := o
  simp only at hop
  subst hop
  have hu := (hE.ok.T t _ ht).2
  simp only [TK.fits] at hu
  obtain ⟨⟨ie, hie, hisz, hby, z, hz, hzc⟩, _⟩ := hE.ok.T e _ hte
  simp only at hisz hby hzc
  have hpos' : 1 ≤ sz := Nat.le_of_ble_eq_true hpos
  have hsm' := Nat.le_of_ble_eq_true hsmall
  have hb := Nat.le_of_ble_eq_true hbts
  have hr : (Instr.buildSlice t 1 (#[(0, Operand.const (.agg vs))].map fun p => (p.1, a.eval p.2))).run E.P w = .ok (.slice (some ⟨w.heap.size, 0, none⟩) 1 1) (w.alloc (.cells vs e)) := by
    refine run_buildSlice (P := E.P) w t e 1 _ _ ie z hu hie hz (by rw [hisz]; omega) (by rw [hisz]; omega) ?_
    rw [hisz]
    have hfw := Great.fill_whole (s := sz) hpos' [Value.agg vs] ((Array.range (1 * sz)).map (z.cells[· % z.cells.size]!)) (by intro v hv; simp at hv; subst hv; simpa [Value.cells] using hsz) (by simp)
    simpa [Act.eval, Value.cells] using hfw
  refine ⟨.slice (some ⟨w.heap.size, 0, none⟩) 1 1, w.alloc (.cells vs e), by simp only [execOp, Sem.run_bind]; rw [hr]; simp, Grew.alloc w _, ?_⟩
  have hRD : ∀ l : List Value, l.all okLitB = true → RDs w (cx Z h ι w).M (l.map .lit) l := by
    intro l
    induction l with
    | nil => simp [RDs]
    | cons v l ih =>
      intro hl
      simp only [List.all_cons, Bool.and_eq_true] at hl
      simp only [List.map_cons, RDs]
      exact ⟨v, l, rfl, by simp only [RD]; exact ⟨trivial, okLit_of_B hl.1⟩, ih hl.2⟩
  simp only [RA, RD]
  have hn := RC_new m e (hRD vs.toList hok)
  refine ⟨_, 1, rfl, by simp, by simp; omega, by simp, .inr ⟨w.heap.size, 0, rfl, hn.1, ⟨_, _, _, heap_alloc_new w _⟩, RCs_of_flat (by intro x hx; simp at hx; subst hx; simpa using hsz) (by simpa using hn.2)⟩⟩
end Go.AL
