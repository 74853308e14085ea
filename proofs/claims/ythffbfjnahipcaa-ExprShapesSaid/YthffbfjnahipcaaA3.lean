/- AL, part 3: operations that only compute, read, or lay new memory that nobody writes. -/
import Derived.Test.YthffbfjnahipcaaA2
namespace Go.AL
set_option linter.unusedVariables false
set_option linter.unusedSimpArgs false

def okLitB : Value → Bool
  | .int k n => decide (k.min ≤ n) && decide (n ≤ k.max)
  | .string s => Nat.ble s.size 140737488355328
  | .bool _ | .nilIface | .nilFunc => true
  | .pointer a => a.isNone
  | .slice a n c => a.isNone && Nat.beq n 0 && Nat.beq c 0
  | _ => false
theorem okLit_of_B : ∀ {v : Value}, okLitB v = true → okLit v
  | .int k n, h => by simpa [okLitB, okLit] using h
  | .string s, h => by simp [okLitB] at h; simpa [okLit] using h
  | .bool _, _ => trivial
  | .nilIface, _ => trivial
  | .nilFunc, _ => trivial
  | .pointer a, h => by simpa [okLitB, okLit] using h
  | .slice a n c, h => by simp [okLitB] at h; simpa [okLit, and_assoc] using h

def ev (s : Slots) : Operand → AV
  | .tmp t => s t
  | .const v => bif okLitB v then .d (.lit v) else .any
  | .func f => .d (.fn (.func f) [] [])
  | .global _ => .any

theorem RA_ev {C : Cx} {s : Slots} {a : Act} (x : Operand) (h : ∀ t, x = .tmp t → RA C (s t) (a.tmps.getD t undef)) : RA C (ev s x) (a.eval x) := by
  cases x with
  | tmp t => exact h t rfl
  | const v =>
    simp only [ev, Act.eval]
    cases hv : okLitB v with
    | true => simpa [RA, RD] using okLit_of_B hv
    | false => simp [RA]
  | func f => simp [ev, Act.eval, RA, RD, RDs]
  | global g => simp [ev, RA]

theorem RA_lit {C : Cx} {u v : Value} : RA C (.d (.lit u)) v ↔ v = u ∧ okLit u := by simp [RA, RD]
theorem RA_lit_mk {C : Cx} {u : Value} (h : okLit u) : RA C (.d (.lit u)) u := by simpa [RA, RD] using h

/-- What the operation gives: a value, in a world that has only grown. -/
def Gives (P : Program) (Z : Nat → Prop) (h : Heap) (ι : Nat → Value) (r : Sem Value) (w : World) (x : AV) : Prop :=
  ∃ v w', r.run P w = .ok v w' ∧ Grew w w' ∧ RA (cx Z h ι w') x v

theorem Gives.pure {P : Program} {Z : Nat → Prop} {h : Heap} {ι : Nat → Value} {w : World} {x : AV} {v : Value} (hx : RA (cx Z h ι w) x v) : Gives P Z h ι (Pure.pure v) w x :=
  ⟨v, w, by simp, Grew.refl w, hx⟩
theorem Gives.of_run {P : Program} {Z : Nat → Prop} {h : Heap} {ι : Nat → Value} {w : World} {x : AV} {v : Value} {r : Sem Value} (hr : r.run P w = .ok v w) (hx : RA (cx Z h ι w) x v) : Gives P Z h ι r w x :=
  ⟨v, w, hr, Grew.refl w, hx⟩

/-! ### Cells as abstract values -/
def cellsOf : AV → List AV
  | .agg cs => cs
  | v => [v]
def allD : List AV → Option (List D)
  | [] => some []
  | .d x :: r => (allD r).map (x :: ·)
  | _ => none
theorem allD_eq : ∀ {cs : List AV} {ds : List D}, allD cs = some ds → cs = ds.map .d
  | [], ds, h => by simp [allD] at h; subst h; rfl
  | .d x :: r, ds, h => by
    simp [allD] at h
    obtain ⟨t, ht, rfl⟩ := h
    simp [allD_eq ht]
  | .agg _ :: _, _, h => by simp [allD] at h
  | .tup _ :: _, _, h => by simp [allD] at h
  | .ptr _ _ :: _, _, h => by simp [allD] at h
  | .row _ :: _, _, h => by simp [allD] at h
  | .fn _ _ _ :: _, _, h => by simp [allD] at h
  | .any :: _, _, h => by simp [allD] at h
/-- One cell's value, not an aggregate. -/
def AV.one : AV → Bool
  | .d _ | .ptr _ _ | .row _ | .fn _ _ _ => true
  | _ => false
theorem RD_one {w : World} {M : Nat → Prop} {x : D} {v : Value} (h : RD w M x v) : v.oneCell' = true ∧ v.cells = #[v] := by
  cases x with
  | lit u =>
    simp only [RD] at h
    obtain ⟨rfl, h⟩ := h
    cases v <;> simp [okLit] at h <;> simp [Value.oneCell', Value.cells]
  | sl => simp only [RD] at h; obtain ⟨a, cap, rfl, _⟩ := h; simp [Value.oneCell', Value.cells]
  | iptr => simp only [RD] at h; obtain ⟨b, o, rfl, _⟩ := h; simp [Value.oneCell', Value.cells]
  | fn => simp only [RD] at h; obtain ⟨b, o, rfl, _⟩ := h; simp [Value.oneCell', Value.cells]
  | iface => simp only [RD] at h; obtain ⟨b, rfl, _⟩ := h; simp [Value.oneCell', Value.cells]
/-- What a live key is called. -/
def Named (C : Cx) : Prop := ∀ k, C.dom k → (∃ b, C.ι k = .pointer (some ⟨b, 0, none⟩)) ∨ ∃ a n c, C.ι k = .slice a n c
theorem Mem.named {Z K : Nat → Prop} {J : World → Prop} {h : Heap} {ι : Nat → Value} {w : World} (m : Mem Z K J h ι w) : Named (cx Z h ι w) := by
  intro k hk
  have hk' : (h k).isSome = true := hk
  obtain ⟨e, he⟩ := Option.isSome_iff_exists.1 hk'
  have := m.ent k e he
  cases e with
  | box t cs => obtain ⟨b, vs, h1, _⟩ := this; exact .inl ⟨b, h1⟩
  | row e sz xs =>
    obtain ⟨vs, h1, _⟩ := this
    rcases h1 with ⟨a, h1, _⟩ | ⟨g, cap, cur, h1, _⟩
    · exact .inr ⟨_, _, _, h1⟩
    · exact .inr ⟨_, _, _, h1⟩
  | ghost cs vs => exact .inr ⟨_, _, _, this.1⟩
theorem RA_one {C : Cx} (hn : Named C) {x : AV} {v : Value} (hx : x.one = true) (h : RA C x v) : v.oneCell' = true ∧ v.cells = #[v] := by
  cases x with
  | d x => simp only [RA] at h; exact RD_one h
  | ptr k o => simp only [RA] at h; obtain ⟨_, b, _, rfl⟩ := h; simp [Value.oneCell', Value.cells]
  | row k =>
    simp only [RA] at h
    obtain ⟨hk, rfl⟩ := h
    rcases hn k hk with ⟨b, e⟩ | ⟨a, n, c, e⟩ <;> rw [e] <;> simp [Value.oneCell', Value.cells]
  | fn => simp only [RA] at h; obtain ⟨b, o, rfl, _⟩ := h; simp [Value.oneCell', Value.cells]
  | agg => simp [AV.one] at hx
  | tup => simp [AV.one] at hx
  | any => simp [AV.one] at hx
def cellsOk : AV → Bool
  | .agg _ => true
  | x => x.one
theorem RA_cells {C : Cx} (hn : Named C) {x : AV} {v : Value} (hx : cellsOk x = true) (h : RA C x v) : RAs C (cellsOf x) v.cells.toList := by
  cases x with
  | agg cs => simp only [RA] at h; obtain ⟨vs, rfl, h⟩ := h; simpa [cellsOf, Value.cells] using h
  | d y => rw [(RA_one hn (x := .d y) rfl h).2]; simp only [cellsOf, RAs]; exact ⟨v, [], rfl, h, rfl⟩
  | ptr k o => rw [(RA_one hn (x := .ptr k o) rfl h).2]; simp only [cellsOf, RAs]; exact ⟨v, [], rfl, h, rfl⟩
  | row k => rw [(RA_one hn (x := .row k) rfl h).2]; simp only [cellsOf, RAs]; exact ⟨v, [], rfl, h, rfl⟩
  | fn a b c => rw [(RA_one hn (x := .fn a b c) rfl h).2]; simp only [cellsOf, RAs]; exact ⟨v, [], rfl, h, rfl⟩
  | tup => simp [cellsOk, AV.one] at hx
  | any => simp [cellsOk, AV.one] at hx

/-- A value of so many cells out of a list of cells. -/
def ofCells (agg : Bool) (n : Nat) (cs : List AV) : Option AV :=
  bif agg then (bif Nat.ble n cs.length then some (.agg (cs.take n)) else none) else match cs with | x :: _ => some x | [] => none

theorem ofCells_agg {n : Nat} {cs : List AV} {x : AV} (h : ofCells true n cs = some x) : n ≤ cs.length ∧ x = .agg (cs.take n) := by
  simp only [ofCells, cond_true] at h
  cases hb : Nat.ble n cs.length with
  | false => rw [hb] at h; cases h
  | true => rw [hb] at h; cases h; exact ⟨Nat.le_of_ble_eq_true hb, rfl⟩

section
variable {P : Program} {T : Nat → Option TI} (hT : TOk P T) {Z : Nat → Prop} {h : Heap} {ι : Nat → Value} {w : World}

include hT in
theorem run_part_of {t : TypeId} {ti : TI} (ht : T t = some ti) {C : Cx} {cs : List AV} {vs : Array Value} (hv : RAs C cs vs.toList) (off : Nat) {x : AV} (hx : ofCells ti.k.isAgg ti.size (cs.drop off) = some x) (w : World) :
    ∃ v, (part t vs off).run P w = .ok v w ∧ RA C x v := by
  unfold part
  have ha := run_agg hT ht w
  have hs := run_size hT ht w
  cases hk : ti.k.isAgg with
  | true =>
    rw [hk] at ha
    rw [hk] at hx
    obtain ⟨_, rfl⟩ := ofCells_agg hx
    refine ⟨.agg (vs.extract off (off + ti.size)), by simp [ha, hs], ?_⟩
    simp only [RA]
    refine ⟨_, rfl, ?_⟩
    have := RAs_take ti.size (RAs_drop off hv)
    simpa [List.extract_eq_take_drop] using this
  | false =>
    rw [hk] at ha
    simp only [ofCells, hk, cond_false] at hx
    split at hx
    · rename_i y r hd
      cases hx
      have hg : (cs.drop off)[0]? = some x := by rw [hd]; rfl
      rw [List.getElem?_drop, Nat.add_zero] at hg
      obtain ⟨v, h1, h2⟩ := RAs_get hv hg
      refine ⟨v, ?_, h2⟩
      have h1' : vs[off]? = some v := by simpa using h1
      simp [ha, h1']
    · cases hx

/-- A read at a place whose cells are known. -/
theorem run_loadVar_of (hT : TOk P T) {t : TypeId} {ti : TI} (ht : T t = some ti) {C : Cx} {cs : List AV} {vs : List Value} (hv : RAs C cs vs) (b off : Nat) (hc : ∀ j v, vs[j]? = some v → w.cell? ⟨b, off + j, none⟩ = some v)
    {x : AV} (hx : ofCells ti.k.isAgg ti.size cs = some x) : ∃ v, (loadVar t ⟨b, off, none⟩).run P w = .ok v w ∧ RA C x v := by
  unfold loadVar
  have ha := run_agg hT ht w
  have hs := run_size hT ht w
  have hl := RAs_length hv
  have hadd : ∀ j, (⟨b, off, none⟩ : Addr).add j = ⟨b, off + j, none⟩ := by
    intro j; unfold Addr.add; split
    · subst_vars; simp
    · rfl
  cases hk : ti.k.isAgg with
  | true =>
    rw [hk] at ha
    rw [hk] at hx
    obtain ⟨hle, rfl⟩ := ofCells_agg hx
    have hlc := run_loadCells_list (P := P) (w := w) ⟨b, off, none⟩ (vs.take ti.size) (by
      intro j v hj
      rw [hadd]
      rw [List.getElem?_take] at hj
      split at hj
      · exact hc j v hj
      · cases hj)
    rw [show (vs.take ti.size).length = ti.size by simp [hl]; omega] at hlc
    refine ⟨.agg (vs.take ti.size).toArray, by simp [ha, hs, hlc], ?_⟩
    simp only [RA]
    exact ⟨_, rfl, by simpa using RAs_take ti.size hv⟩
  | false =>
    rw [hk] at ha
    simp only [ofCells, hk, cond_false] at hx
    split at hx
    · rename_i y r
      cases hx
      obtain ⟨v, h1, h2⟩ := RAs_get hv (i := 0) (x := x) rfl
      have := hc 0 v h1
      refine ⟨v, by simp [ha, load, Sem.run]; simp at this; simp [this], h2⟩
    · cases hx
end
end Go.AL
