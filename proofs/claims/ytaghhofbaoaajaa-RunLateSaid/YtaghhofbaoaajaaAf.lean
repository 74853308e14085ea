/- Parts of an abstract logic over the kit's walks, and walks in it: A50, A51, A52, A53, A54, A56, A57, A58, A59. -/
import Derived.Test.YtaghhofbaoaajaaAe
import Derived.Test.YtaghhofbaoaajaaAd
/- AL, part 50: quotients; text out of bytes that are data. -/
namespace Go.AL
set_option linter.unusedVariables false
set_option linter.unusedSimpArgs false
section
variable {E : Env} {ops : List Oper} {J : Jt} {h : Heap} {s : Slots}
end
end Go.AL
/- AL, part 51: A42's heads with one store more, into a variable that the head itself has made. -/
namespace Go.AL
set_option linter.unusedVariables false
set_option linter.unusedSimpArgs false
/-- Operation g2 fills what operation g1 has laid under k. -/
structure Upd where
  g1 : Nat
  g2 : Nat
  k : Nat
  e1 : Ent
  e2 : Ent
section
variable {E : Env} {ops : List Oper} {Q : Exit → St → Prop} {J : Jt} {s : Slots} {h : Heap}
theorem inv_ready {n i : Nat} {o : Oper} {listed : Array Bool} (inv : HeadInv .any ops.toArray n listed) (hi : i ∈ Region.ready .any ops.toArray listed) (ho : ops[i]? = some o) {e : Edge} (he : e ∈ o.after) (hb : Region.binds .any e = true) : bits listed e.on = true := by
  obtain ⟨_, o', ho', hall⟩ := mem_ready.1 hi
  have hoo : o' = o := by
    rw [List.getElem?_toArray, ho] at ho'
    exact (Option.some.inj ho').symm
  subst hoo
  exact hall e he hb
variable {l : Effs} {u : Upd} {n i : Nat} {K : Slots → Prop}
end
end Go.AL
/- AL, part 52: a range over a function that reads the frame's own row while the rounds write it: the row's handle and its cells are called by their values. -/
namespace Go.AL
set_option linter.unusedVariables false
set_option linter.unusedSimpArgs false

def litA (v : Value) : AV := .d (.lit v)
/-- Cells that are literal have their values. -/
def LitAt (cs : List AV) (vs : List Value) : Prop := ∀ (j : Nat) (u : Value), cs[j]? = some (AV.d (D.lit u)) → vs[j]? = some u
theorem LitAt.of {C : Cx} {cs : List AV} {vs : List Value} (h : RAs C cs vs) : LitAt cs vs := fun j u hj => by
  obtain ⟨v, h1, h2⟩ := RAs_get h hj
  obtain ⟨rfl, _⟩ := RA_lit.1 h2
  exact h1
/-- A row's handle. -/
def Handle (v : Value) (n : Nat) : Prop := n ≤ 140737488355328 ∧ ∃ a cap, v = .slice a n cap ∧ (0 < n → ∃ g, a = some ⟨g, 0, none⟩)
theorem Handle.ok {v : Value} {n : Nat} (h : Handle v n) : okLit v := by
  obtain ⟨h1, a, cap, rfl, _⟩ := h
  exact h1

section
variable {E : Env} {ops : List Oper} {Q : Exit → St → Prop} {i : Nat} {J : Jt} {h : Heap} {s : Slots} {o : Oper}
end

end Go.AL
/- AL, part 53: '==' of structs whose last field is a struct of plain cells. -/
namespace Go.AL
set_option linter.unusedVariables false
set_option linter.unusedSimpArgs false
section
variable {P : Program} {T : Nat → Option TI} (hT : TOk P T)
include hT
end
end Go.AL
/- AL, part 54: a drawn head in which one operation turns what is the frame's own, in whatever order; rows called by their handles. -/
namespace Go.AL
set_option linter.unusedVariables false
set_option linter.unusedSimpArgs false

section
variable {E : Env} {ops : List Oper} {Y : Nat → Slots → AV → Prop}
end

section
variable {E : Env} {ops : List Oper} {Q : Exit → St → Prop} {J : Jt} {s : Slots} {h : Heap}
variable {n i q k : Nat} {h1 : Heap} {K : Slots → Prop}
variable {st : St}
end

theorem noHeap_no {h : Heap} : ∀ (j : Nat) (e : Ent), noHeap j = some e → h j = some e := fun j e hj => by
  have hj : (none : Option Ent) = some e := hj
  cases hj
theorem nokeyS_no (k : Nat) : ∀ t, nokey k (noSlots t) = true := fun _ => rfl
theorem nokeyS_set {k : Nat} {s : Slots} {d : Nat} {v : AV} (h : ∀ t, nokey k (s t) = true) (hv : nokey k v = true) : ∀ t, nokey k (sset s d v t) = true := fun t => by
  by_cases ht : t = d
  · subst ht; rw [sset_same]; exact hv
  · rw [sset_ne _ _ ht]; exact h t
section
variable {E : Env} {ops : List Oper} {Q : Exit → St → Prop} {J : Jt} {s : Slots} {h : Heap} {n i q k : Nat} {h1 : Heap} {K : Slots → Prop}
end

end Go.AL
/- AL, part 56: a drawn head in which two rows grow, in whatever order, and the first of them is put back into its variable. -/
namespace Go.AL
set_option linter.unusedVariables false
set_option linter.unusedSimpArgs false

section
variable {E : Env} {ops : List Oper} {Y : Nat → Slots → AV → Prop}
theorem wpAnyIn_of_headI {J : Jt} (H : (Nat → Bool) → Heap) (I : (Nat → Bool) → Slots → Prop) {n g : Nat} {L : Array Bool → Slots → Prop} {Q' : Exit → Act → World → Prop}
    (hI : ∀ i o listed s x, ops[i]? = some o → HeadInv .any ops.toArray n listed → Y i s x → I (bits listed) s → I (bits (listed.setIfInBounds i true)) (pu s o.dst x))
    (hop : ∀ i o listed s x, ops[i]? = some o → HeadInv .any ops.toArray n listed → i ∈ Region.ready .any ops.toArray listed → i < n → I (bits listed) s → Y i s x → dstOk E.N o.dst = true → ∀ ι a w, RelS E ⟨J, s, H (bits listed)⟩ ι a w → ∀ (K' : Act → World → Prop),
      (∀ ι' a' w', RelS E ⟨J, pu s o.dst x, H (bits (listed.setIfInBounds i true))⟩ ι' a' w' → K' a' w') → wpOpIn E.F E.n E.P ops.toArray Q' i K' a w)
    (hL : ∀ listed s ι a w, RelS E ⟨J, s, H (bits listed)⟩ ι a w → L listed s → wpAnyIn E.F E.n E.P .any ops.toArray Q' g listed a w) :
    ∀ (f : Nat) (listed : Array Bool) (s : Slots) (ι : Nat → Value) (a : Act) (w : World), HeadInv .any ops.toArray n listed → I (bits listed) s → RelS E ⟨J, s, H (bits listed)⟩ ι a w → anyB E ops Y n L f listed s → wpAnyIn E.F E.n E.P .any ops.toArray Q' (f + g) listed a w
  | 0, listed, s, ι, a, w, _, _, r, hh => by rw [Nat.zero_add]; exact hL _ _ _ _ _ r hh
  | f + 1, listed, s, ι, a, w, inv, hS, r, hh => by
    rw [show f + 1 + g = (f + g) + 1 by omega]
    refine ⟨fun h0 => absurd h0 hh.1, fun i hi => ?_⟩
    obtain ⟨hin, hq⟩ := hh.2 i hi
    obtain ⟨hun, o, ho, _⟩ := mem_ready.1 hi
    have ho' : ops[i]? = some o := by simpa using ho
    unfold qB at hq
    simp only [ho'] at hq
    obtain ⟨x, h1, h2, h3⟩ := hq
    have hS' := hI i o listed s x ho' inv h2 hS
    exact hop i o listed s x ho' inv hi hin hS h2 h1 ι a w r _ fun ι' a' w' r' => wpAnyIn_of_headI H I hI hop hL f _ _ ι' a' w' (inv.set hi hin) hS' r' h3
theorem nokeyI {n q k i : Nat} {o : Oper} {listed : Array Bool} {s : Slots} {x : AV} (ho : ops[i]? = some o) (inv : HeadInv .any ops.toArray n listed) (hx : i = q ∨ nokey k x = true) (hs : bits listed q = false → ∀ t, nokey k (s t) = true) :
    bits (listed.setIfInBounds i true) q = false → ∀ t, nokey k (pu s o.dst x t) = true := fun hb t => by
  have hiq : i ≠ q := by
    intro e; subst e
    have hsz : i < listed.size := by
      rw [inv.size]
      have := (List.getElem?_eq_some_iff.1 ho).1
      simpa using this
    simp [bits, hsz] at hb
  have hb' : bits listed q = false := by rw [← hb]; exact (getD_set_ne false hiq).symm
  have hx := hx.resolve_left hiq
  have hs := hs hb'
  unfold pu
  cases o.dst with
  | none => exact hs t
  | some d =>
    show nokey k (sset s d x t) = true
    by_cases htd : t = d
    · subst htd; rw [sset_same]; exact hx
    · rw [sset_ne _ _ htd]; exact hs t
end

def aft (o : Oper) (i : Nat) : Bool := o.after.any fun e => Region.binds .any e && Nat.beq e.on i
theorem aft_listed {ops : List Oper} {n i j : Nat} {o : Oper} {listed : Array Bool} (inv : HeadInv .any ops.toArray n listed) (ho : ops[i]? = some o) (h : aft o j = true) (hb : bits listed i = true) : bits listed j = true := by
  obtain ⟨e, hm, he⟩ := Array.any_eq_true'.1 h
  simp only [Bool.and_eq_true] at he
  have := inv.closed i o (by simpa using ho) hb e (by simpa using hm) he.1
  rwa [Nat.eq_of_beq_eq_true he.2] at this
theorem aft_ready {ops : List Oper} {n i j : Nat} {o : Oper} {listed : Array Bool} (inv : HeadInv .any ops.toArray n listed) (hi : i ∈ Region.ready .any ops.toArray listed) (ho : ops[i]? = some o) (h : aft o j = true) : bits listed j = true := by
  obtain ⟨e, hm, he⟩ := Array.any_eq_true'.1 h
  simp only [Bool.and_eq_true] at he
  have := inv_ready inv hi ho (by simpa using hm) he.1
  rwa [Nat.eq_of_beq_eq_true he.2] at this

/-- Where the two rows grow, at q1 and q2, and the first is put back, at q3. -/
structure Two where
  H : Bool → Bool → Bool → Heap
  q1 : Nat
  k1 : Nat
  q2 : Nat
  k2 : Nat
  q3 : Nat
section
variable {E : Env} {ops : List Oper} {Q : Exit → St → Prop} {J : Jt} {s : Slots} {h : Heap}
variable {n i : Nat} {t : Two} {K : Slots → Prop}
end
end Go.AL
/- AL, part 57: calls that only read what is the frame's own; a drawn head with whatever effects. -/
namespace Go.AL
set_option linter.unusedVariables false
set_option linter.unusedSimpArgs false

/-! ### Reading calls -/
section
variable {E : Env} {ops : List Oper} {Q : Exit → St → Prop} {i : Nat} {J : Jt} {s : Slots} {h : Heap}
end

/-! ### A drawn head with whatever effects -/
def ClosedB (ops : List Oper) (b : Nat → Bool) : Prop := ∀ j o, ops[j]? = some o → b j = true → ∀ p, aft o p = true → b p = true
def bset (b : Nat → Bool) (i : Nat) : Nat → Bool := fun j => bif Nat.beq j i then true else b j
def Rdy (ops : List Oper) (b : Nat → Bool) (i : Nat) (o : Oper) : Prop := ClosedB ops b ∧ b i = false ∧ ∀ p, aft o p = true → b p = true
structure Eff where
  qs : List Nat
  H : (Nat → Bool) → Heap
  nk : List (Nat × Nat)
def INk (l : List (Nat × Nat)) (b : Nat → Bool) (s : Slots) : Prop := ∀ q k, (q, k) ∈ l → b q = false → ∀ t, nokey k (s t) = true
def YX (t : Eff) (E : Env) (ops : List Oper) (J : Jt) (i : Nat) (s : Slots) (x : AV) : Prop :=
  (t.nk.all fun p => Nat.beq p.1 i || nokey p.2 x) = true ∧ ∃ o, ops[i]? = some o ∧
  (((t.qs.any fun q => Nat.beq q i) = true ∧ awant ops o s = some true ∧ ∀ s1, (∀ t ∈ o.looksAt ops.toArray, s1 t = s t) → ∀ b, Rdy ops b i o → INk t.nk b s1 → OpG E o ⟨J, s1, t.H b⟩ (fun st' => LE E st' ⟨J, pu s1 o.dst x, t.H (bset b i)⟩)) ∨
   ((t.qs.any fun q => Nat.beq q i) = false ∧ ∀ b, Rdy ops b i o → YA E ops J (t.H b) o s x))
def HXW (t : Eff) (E : Env) (ops : List Oper) (J : Jt) (n i : Nat) (K : Slots → Prop) (s : Slots) : Prop := QB E (YX t E ops J) K ((ops.take n).drop i) i s
theorem bits_set {listed : Array Bool} {i : Nat} (h : i < listed.size) : bits (listed.setIfInBounds i true) = bset (bits listed) i := by
  funext j
  unfold bset
  cases hb : Nat.beq j i with
  | true =>
    have := Nat.eq_of_beq_eq_true hb
    subst this
    simp [bits, h]
  | false =>
    have hji : i ≠ j := fun e => by rw [e] at hb; simp at hb
    exact getD_set_ne false hji

section
variable {E : Env} {ops : List Oper} {Q : Exit → St → Prop} {J : Jt} {s : Slots} {h : Heap}
theorem CW_drawnX (hE : E.Good) (n : Nat) (t : Eff) {id : Nat} (hB : Region.lexTailB .any ops.toArray n = true) (hqn : (t.qs.all fun q => Nat.ble (q + 1) n) = true) (hdep : ∀ b b' : Nat → Bool, (∀ q ∈ t.qs, b q = b' q) → t.H b = t.H b') (hS : INk t.nk (fun _ => false) s) (hle : LE E ⟨J, s, h⟩ ⟨J, s, t.H (fun _ => false)⟩)
    (hq : HXW t E ops J n 0 (fun s => OW E ops n Q ⟨J, s, t.H (fun _ => true)⟩) s) : CW E (.region id ops.toArray true) Q ⟨J, s, h⟩ := CW.le hle fun ι a w r => by
  simp only [Region.lexTailB, Bool.and_eq_true, decide_eq_true_eq] at hB
  obtain ⟨⟨⟨⟨hsel, hn⟩, hs⟩, hc⟩, hlex⟩ := hB
  have hn' : n < ops.length := by simpa using hn
  have htl : (ops.take n).length = n := by simp; omega
  have hdl : (ops.drop n).length = ops.toArray.size - n := by simp
  have inv0 : HeadInv .any ops.toArray n (Array.replicate ops.toArray.size false) :=
    ⟨by simp, fun j oj _ hl => (by rw [getD_replicate_false] at hl; cases hl), fun t _ ht => getD_in (by simpa using ht) (getD_replicate_false _ _)⟩
  have hYS : YStable ops (YX t E ops J) := by
    intro i o s s' x ho hss hy
    obtain ⟨g0, o', g1, g2⟩ := hy
    have hoo : o' = o := by rw [ho] at g1; exact (Option.some.inj g1).symm
    subst hoo
    refine ⟨g0, o', g1, ?_⟩
    rcases g2 with ⟨g2, g3, g4⟩ | ⟨g2, g3⟩
    · exact .inl ⟨g2, (awant_same hss).trans g3, fun s1 hs1 => g4 s1 fun t ht => (hs1 t ht).trans (hss t ht)⟩
    · exact .inr ⟨g2, fun b hb => YA_same hss (g3 b hb)⟩
  have H0 := anyB_lex (E := E) (Y := YX t E ops J) (g := ops.toArray.size - n) hYS hs hc hn (ops.take n) 0 _ s (fun j hj => by
    have hj' : j < n := by rw [htl] at hj; exact hj
    simp [hj']) (by simpa using htl) inv0 (fun j hj => by omega) (by rw [htl]; exact hlex) (by simpa [HXW] using hq)
  have b0 : bits (Array.replicate ops.toArray.size false) = fun _ => false := by funext q; exact getD_replicate_false _ _
  have r1 : RelS E ⟨J, s, t.H (bits (Array.replicate ops.toArray.size false))⟩ ι a { w with drawn := w.drawn + 1 } := by
    rw [b0]
    obtain ⟨Z, K, Y, hZE, r⟩ := r
    exact ⟨Z, K, Y, hZE, r.mem.grew (Grew.drew w), r.size, fun i => RA_keeps (keepsC_grew (K := K) (J := J K Y Z) (Grew.drew w)) _ _ (r.slot i), r.ds.grew (Grew.drew w)⟩
  refine wpIn_region_any hE.ok.mixed ?_
  have hh := wpAnyIn_of_headI (Y := YX t E ops J) (J := J) (Q' := Post E Q) t.H (fun b s => INk t.nk b s) (g := ops.toArray.size - n)
    (fun i o listed s x ho inv hy hSl => fun q k hm => by
      have hx := List.all_eq_true.1 hy.1 _ hm
      simp only [Bool.or_eq_true] at hx
      exact nokeyI ho inv (hx.imp (fun h => (Nat.eq_of_beq_eq_true h).symm) (fun h => h)) (hSl q k hm))
    (fun i o listed s x ho inv hi hin hSl hy hdo ι a w r K' hk' => ?_) (fun listed s ι a' w' r' hL => by
    have r' : RelS E ⟨J, s, t.H (bits listed)⟩ ι a' w' := r'
    rw [hdep (bits listed) (fun _ => true) fun q hq => hL.1.2 q (Nat.le_of_ble_eq_true (List.all_eq_true.1 hqn q hq))] at r'
    have := wpAnyIn_of_seq (Q' := Post E Q) (ops.drop n) n listed a' w' (fun j => by simp [List.getElem?_drop]) (by rw [hdl]; exact hL.1.1) (hL.2 ι a' w' r')
    rwa [hdl] at this) _ _ _ ι a _ inv0 (by rw [b0]; exact hS) r1 H0
  · rw [htl] at hh
    rwa [show n + (ops.toArray.size - n) = ops.toArray.size by simp; omega] at hh
  · have hun : listed.getD i true = false := (mem_ready.1 hi).1
    have hsz : i < listed.size := by
      rw [inv.size]
      have := (List.getElem?_eq_some_iff.1 ho).1
      simpa using this
    rw [bits_set hsz] at hk'
    obtain ⟨_, o', g1, g2⟩ := hy
    have hoo : o' = o := by rw [ho] at g1; exact (Option.some.inj g1).symm
    subst hoo
    have hrdy : Rdy ops (bits listed) i o' := ⟨fun j o1 h1 hb p hp => aft_listed inv h1 hp hb, getD_both hun, fun p hp => aft_ready inv hi ho hp⟩
    rcases g2 with ⟨g2, hgd, g4⟩ | ⟨g2, g3⟩
    · have g := g4 s (fun _ _ => rfl) (bits listed) hrdy hSl
      unfold wpOpIn
      simp only [List.getElem?_toArray, ho]
      rw [if_pos (awant_ok r hgd)]
      refine g ι a w r K' (Post E Q) fun st' ι' a' w' hst r' => ?_
      obtain ⟨ι2, r2⟩ := hst ι' a' w' r'
      exact hk' ι2 a' w' r2
    · have hHs : t.H (bset (bits listed) i) = t.H (bits listed) := hdep _ _ fun q hq => by
        have hne : Nat.beq q i = false := by
          rw [List.any_eq_false] at g2
          exact Bool.eq_false_iff.2 (g2 q hq)
        unfold bset
        rw [hne]; rfl
      rw [hHs] at hk'
      refine wpOpIn_of_qA (J := J) (h := t.H (bits listed)) (K := fun s' => s' = pu s o'.dst x) hE r (fun s' a' w' r' hs' => ?_) ?_
      · subst hs'
        exact hk' ι a' w' r'
      · unfold qA
        simp only [ho]
        exact ⟨x, hdo, g3 _ hrdy, rfl⟩

variable {n i : Nat} {t : Eff} {K : Slots → Prop}
theorem HX_cons {o : Oper} (ho : ops[i]? = some o) (hi : Nat.ble (i + 1) n = true) {x : AV} (hd : dstOk E.N o.dst = true) (hy : YX t E ops J i s x) (hk : HXW t E ops J n (i + 1) K (pu s o.dst x)) : HXW t E ops J n i K s := by
  unfold HXW at *
  have hi' := Nat.le_of_ble_eq_true hi
  obtain ⟨hlt, rfl⟩ := List.getElem?_eq_some_iff.1 ho
  have hlt2 : i < (ops.take n).length := by simp; omega
  rw [List.drop_eq_getElem_cons hlt2, List.getElem_take]
  exact ⟨x, hd, hy, hk⟩
theorem HX_end (hk : K s) : HXW t E ops J n n K s := by
  unfold HXW
  rw [List.drop_eq_nil_of_le (by simp; omega)]
  exact hk
theorem HX_loc (hE : E.Good) {o : Oper} {R : AV} (hl : ∀ b, Rdy ops b i o → Loc E ops J (t.H b) o s R) (ho : ops[i]? = some o) (hi : Nat.ble (i + 1) n = true) (hw : awant ops o s = some true) {s' : Slots} (hs : putS E.N s o.dst R = some s') (hq : (t.qs.any fun q => Nat.beq q i) = false) (hnk : (t.nk.all fun p => Nat.beq p.1 i || nokey p.2 R) = true) (hk : HXW t E ops J n (i + 1) K s') : HXW t E ops J n i K s := by
  obtain ⟨hd, rfl⟩ := pu_of_putS hs
  exact HX_cons ho hi hd ⟨hnk, o, ho, .inr ⟨hq, fun b hb => .inl ⟨hw, LY_of_gives hE (hl b hb).1 fun Z K Y ι a w m hlk => (hl b hb).2 Z K Y ι a w m (look_ev hlk)⟩⟩⟩ hk
/-- Plain operations that hang on h0 alone, which stands all the while. -/
def runPureX (E : Env) (nk : List (Nat × Nat)) (ops : List Oper) (h : Heap) : Nat → Nat → Slots → Option Slots
  | 0, _, s => some s
  | m + 1, i, s => match ops[i]? with
    | some o => match awant ops o s with
      | some true => match stepPure E.T h s o.op with
        | some R => bif nk.all fun p => Nat.beq p.1 i || nokey p.2 R then match putS E.N s o.dst R with
          | some s' => runPureX E nk ops h m (i + 1) s'
          | none => none else none
        | none => none
      | some false => match putS E.N s o.dst (.tup []) with
        | some s' => runPureX E nk ops h m (i + 1) s'
        | none => none
      | none => none
    | none => none
theorem HX_run (hE : E.Good) (m : Nat) {h0 : Heap} {s' : Slots} (more : ∀ b j e, h0 j = some e → t.H b j = some e) (hp : runPureX E t.nk ops h0 m i s = some s') (hi : Nat.ble (i + m) n = true) (hq : (t.qs.all fun q => Nat.ble (i + m) q || Nat.ble (q + 1) i) = true)
    (hk : HXW t E ops J n (i + m) K s') : HXW t E ops J n i K s := by
  induction m generalizing i s with
  | zero => simp only [runPureX, Option.some.injEq] at hp; subst hp; exact hk
  | succ m ih =>
    have hi' := Nat.le_of_ble_eq_true hi
    have hi1 : Nat.ble (i + 1) n = true := Nat.ble_eq_true_of_le (by omega)
    have hi2 : Nat.ble (i + 1 + m) n = true := Nat.ble_eq_true_of_le (by omega)
    have a1 : (t.qs.any fun q => Nat.beq q i) = false := by
      rw [List.any_eq_false]
      intro q hm hb
      have := List.all_eq_true.1 hq q hm
      have e := Nat.eq_of_beq_eq_true hb
      subst e
      simp only [Bool.or_eq_true] at this
      rcases this with h | h <;> have := Nat.le_of_ble_eq_true h <;> omega
    have a2 : (t.qs.all fun q => Nat.ble (i + 1 + m) q || Nat.ble (q + 1) (i + 1)) = true := by
      rw [List.all_eq_true] at hq ⊢
      intro q hm
      have := hq q hm
      simp only [Bool.or_eq_true] at this ⊢
      rcases this with h | h
      · have := Nat.le_of_ble_eq_true h
        exact .inl (Nat.ble_eq_true_of_le (by omega))
      · have := Nat.le_of_ble_eq_true h
        exact .inr (Nat.ble_eq_true_of_le (by omega))
    simp only [runPureX] at hp
    split at hp
    · rename_i o ho
      split at hp
      · rename_i hw
        split at hp
        · rename_i R hR
          cases hnk : (t.nk.all fun p => Nat.beq p.1 i || nokey p.2 R) with
          | false => rw [hnk] at hp; cases hp
          | true =>
            rw [hnk] at hp
            simp only [cond_true] at hp
            split at hp
            · rename_i s1 hs1
              obtain ⟨hd, rfl⟩ := pu_of_putS hs1
              refine HX_cons ho hi1 hd ⟨hnk, o, ho, .inr ⟨a1, fun b _ => .inl ⟨hw, LY_of_gives hE (stepPure_notDefer hR) fun Z K Y ι a w m hl => stepPure_ok (K := K) (J := J K Y Z) hE.ok.T m o (look_ev hl) (stepPure_more (more b) hR)⟩⟩⟩ (ih (i := i + 1) (s := pu s o.dst R) hp hi2 a2 ?_)
              rwa [show i + 1 + m = i + (m + 1) by omega]
            · cases hp
        · cases hp
      · rename_i hw
        split at hp
        · rename_i s1 hs1
          obtain ⟨hd, rfl⟩ := pu_of_putS hs1
          refine HX_cons ho hi1 hd ⟨by rw [List.all_eq_true]; intro p _; simp [nokey, nokeys], o, ho, .inr ⟨a1, fun b _ => .inr ⟨hw, rfl⟩⟩⟩ (ih (i := i + 1) (s := pu s o.dst (.tup [])) hp hi2 a2 ?_)
          rwa [show i + 1 + m = i + (m + 1) by omega]
        · cases hp
      · cases hp
    · cases hp
/-- An effect; its guard has been looked at. -/
theorem HX_effG {o : Oper} {x : AV} (ho : ops[i]? = some o) (hi : Nat.ble (i + 1) n = true) (hw : awant ops o s = some true) (hq : (t.qs.any fun q => Nat.beq q i) = true) (hnk : (t.nk.all fun p => Nat.beq p.1 i || nokey p.2 x) = true) {s' : Slots} (hs : putS E.N s o.dst x = some s')
    (hg : ∀ s1, (∀ t ∈ o.looksAt ops.toArray, s1 t = s t) → ∀ b, Rdy ops b i o → INk t.nk b s1 → OW E [{ o with guard := none }] 0 (fun e st' => e = .normal ∧ LE E st' ⟨J, pu s1 o.dst x, t.H (bset b i)⟩) ⟨J, s1, t.H b⟩) (hk : HXW t E ops J n (i + 1) K s') : HXW t E ops J n i K s := by
  obtain ⟨hd, rfl⟩ := pu_of_putS hs
  exact HX_cons ho hi hd ⟨hnk, o, ho, .inl ⟨hq, hw, fun s1 hs1 b hb hI => (opG_of_OW (o := { o with guard := none }) rfl (hg s1 hs1 b hb hI) : OpG E { o with guard := none } _ _)⟩⟩ hk
theorem putS_pu {N : Nat} {s : Slots} {dst : Option Nat} {x : AV} (hd : dstOk N dst = true) : putS N s dst x = some (pu s dst x) := by
  cases dst with
  | none => rfl
  | some d => simp only [dstOk] at hd; simp [putS, hd, pu]
end
end Go.AL
/- AL, part 58: more of the drawn heads; a variable's nil slice as an own row. -/
namespace Go.AL
set_option linter.unusedVariables false
set_option linter.unusedSimpArgs false

section
variable {E : Env} {ops : List Oper} {Q : Exit → St → Prop} {J : Jt} {s : Slots} {h : Heap} {n i : Nat} {t : Eff} {K : Slots → Prop}
theorem HX_call (hE : E.Good) {f : Nat} {L : List AV} {R : AV} (hc : Does E.P f L noHeap R) {s' : Slots} {o : Oper} {fo : Operand} {args : Array Operand} {ts : Array TypeId} (ho : ops[i]? = some o) (hi : Nat.ble (i + 1) n = true) (hop : o.op = .call ⟨.value fo, args, ts⟩)
    (hw : awant ops o s = some true) (hL : callArgs s fo args.toList = some (f, L)) (hkf : kfs L = true) (hR : kf R = true) (hs : putS E.N s o.dst R = some s') (hq : (t.qs.any fun q => Nat.beq q i) = false) (hnk : (t.nk.all fun p => Nat.beq p.1 i || nokey p.2 R) = true) (hk : HXW t E ops J n (i + 1) K s') : HXW t E ops J n i K s := by
  obtain ⟨hd, rfl⟩ := pu_of_putS hs
  exact HX_cons ho hi hd ⟨hnk, o, ho, .inr ⟨hq, fun b _ => .inl ⟨hw, LY_call hE hc hop hL hkf hR⟩⟩⟩ hk
theorem HX_loc2 (hE : E.Good) {o : Oper} {R : AV} (ho : ops[i]? = some o) (hi : Nat.ble (i + 1) n = true) (hw : awant ops o s = some true) (hl : ∀ b, Rdy ops b i o → Loc E ops J (t.H b) o s R) {s' : Slots} (hs : putS E.N s o.dst R = some s') (hq : (t.qs.any fun q => Nat.beq q i) = false) (hnk : (t.nk.all fun p => Nat.beq p.1 i || nokey p.2 R) = true) (hk : HXW t E ops J n (i + 1) K s') : HXW t E ops J n i K s := HX_loc hE hl ho hi hw hs hq hnk hk
theorem HX_as (d : Nat) (v : AV) (hs : s d = v) (hk : HXW t E ops J n i K (sset s d v)) : HXW t E ops J n i K s := by rwa [sset_self hs] at hk
end

/-! ### One variable made at a, filled at f -/
section
variable {h : Heap} {a f k : Nat} {e0 e1 : Ent}
theorem bset_self (b : Nat → Bool) (i : Nat) : bset b i i = true := by simp [bset]
end
/-! ### Heaps as lists -/
theorem LE_eq {E : Env} {J : Jt} {s : Slots} {h h' : Heap} (e : h = h') : LE E ⟨J, s, h⟩ ⟨J, s, h'⟩ := by subst e; exact LE.refl _ _

theorem DoesM.args {P : Program} {f : Nat} {l0 l1 : List (Nat × Ent)} {L L' : List AV} {R : AV} {kept : List Nat} (h : DoesM P f l0 L R l1 kept) (hin : inHs (heapOf l0) L' = true) (hle : AVles L' L) : DoesM P f l0 L' R l1 kept := by
  obtain ⟨⟨h1, h2, h3, h4, h5, h6⟩, h7⟩ := h
  exact ⟨⟨h1, h2, h3, hin, h5, h6⟩, fun n Z w ι vs hZ ho hv => h7 n Z w ι vs hZ ho (hle _ _ hv)⟩

/-! ### A variable's nil slice -/
end Go.AL
/- AL, part 59: an own variable's address is not nil; the lesser of two numbers. -/
namespace Go.AL
set_option linter.unusedVariables false
set_option linter.unusedSimpArgs false
section
variable {E : Env} {ops : List Oper} {J : Jt} {s : Slots} {h : Heap}
end
end Go.AL
