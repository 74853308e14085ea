/- AL, part 2: a heap of the frame's own, how a frame stands to its abstract state; types told by a table. -/
import Derived.Test.YthffbfjnahipcaaA1
namespace Go.AL
set_option linter.unusedVariables false
set_option linter.unusedSimpArgs false

inductive Ent where
  | box (t : TypeId) (cs : List AV)
  | row (e : TypeId) (sz : Nat) (xs : List (List D))
  | ghost (cs : List AV) (vs : List Value)

abbrev Slots := Nat → AV
abbrev Heap := Nat → Option Ent
def sset (s : Slots) (d : Nat) (v : AV) : Slots := fun i => bif Nat.beq i d then v else s i
def hset (h : Heap) (k : Nat) (e : Option Ent) : Heap := fun i => bif Nat.beq i k then e else h i
def noSlots : Slots := fun _ => .any
def noHeap : Heap := fun _ => none
def dom (h : Heap) (k : Nat) : Prop := (h k).isSome = true

theorem sset_same (s : Slots) (d : Nat) (v : AV) : sset s d v d = v := by simp [sset]
theorem sset_ne (s : Slots) {d i : Nat} (v : AV) (h : i ≠ d) : sset s d v i = s i := by
  have : Nat.beq i d = false := Bool.eq_false_iff.2 fun h' => h (Nat.eq_of_beq_eq_true h')
  simp [sset, this]
theorem hset_same (h : Heap) (k : Nat) (e : Option Ent) : hset h k e k = e := by simp [hset]
theorem hset_ne (h : Heap) {k i : Nat} (e : Option Ent) (hn : i ≠ k) : hset h k e i = h i := by
  have : Nat.beq i k = false := Bool.eq_false_iff.2 fun h' => hn (Nat.eq_of_beq_eq_true h')
  simp [hset, this]

/-- A row of the frame's own: nothing in it and no room, or a block that it begins. -/
def RowOk (w : World) (v : Value) (e : TypeId) (sz n : Nat) (vs : List Value) : Prop :=
  (∃ a, v = .slice a 0 0 ∧ n = 0 ∧ vs = []) ∨
  ∃ g cap cur, v = .slice (some ⟨g, 0, none⟩) n cap ∧ 0 < cap ∧ w.heap[g]? = some (.cells cur e (0, 0)) ∧ n ≤ cap ∧ cap ≤ maxLen ∧ cur.size = cap * sz ∧ cur.toList.take (n * sz) = vs

def EntOk (C : Cx) : Ent → Value → Prop
  | .box t cs, v => ∃ b vs, v = .pointer (some ⟨b, 0, none⟩) ∧ C.w.heap[b]? = some (.cells vs t (0, 0)) ∧ RAs C cs vs.toList
  | .row e sz xs, v => ∃ vs, RowOk C.w v e sz xs.length vs ∧ RDs C.w C.M xs.flatten vs ∧ (∀ x ∈ xs, x.length = sz) ∧ xs.length ≤ 140737488355328
  | .ghost cs vs, v => v = .slice none 0 0 ∧ RAs C cs vs

/-- What a step may do to the world: all but the blocks of K. -/
structure Step (K : Nat → Prop) (w w' : World) : Prop where
  os : w'.os = w.os
  tape : w'.tape = w.tape
  output : w'.output = w.output
  size : w.heap.size ≤ w'.heap.size
  block : ∀ b, K b → w'.heap[b]? = w.heap[b]?
theorem Step.refl (K : Nat → Prop) (w : World) : Step K w w := ⟨rfl, rfl, rfl, Nat.le_refl _, fun _ _ => rfl⟩
theorem Step.trans {K : Nat → Prop} {a b c : World} (h : Step K a b) (k : Step K b c) : Step K a c :=
  ⟨k.os.trans h.os, k.tape.trans h.tape, k.output.trans h.output, Nat.le_trans h.size k.size, fun i hi => (k.block i hi).trans (h.block i hi)⟩
/-- Nothing that was there has turned. -/
abbrev Grew (w w' : World) : Prop := Step (fun b => b < w.heap.size) w w'
theorem Grew.refl (w : World) : Grew w w := Step.refl _ w
theorem Grew.trans {a b c : World} (h : Grew a b) (k : Grew b c) : Grew a c :=
  ⟨k.os.trans h.os, k.tape.trans h.tape, k.output.trans h.output, Nat.le_trans h.size k.size, fun i hi => (k.block i (Nat.lt_of_lt_of_le hi h.size)).trans (h.block i hi)⟩
theorem Grew.step {K : Nat → Prop} {w w' : World} (h : Grew w w') (hK : ∀ b, K b → b < w.heap.size) : Step K w w' :=
  ⟨h.os, h.tape, h.output, h.size, fun b hb => h.block b (hK b hb)⟩
theorem Grew.alloc (w : World) (o : Obj) : Grew w (w.alloc o) := ⟨rfl, rfl, rfl, by simp, fun b hb => RowKit.Below.heap_alloc w o b hb⟩
theorem Grew.drew (w : World) : Grew w { w with drawn := w.drawn + 1 } := ⟨rfl, rfl, rfl, Nat.le_refl _, fun _ _ => rfl⟩
theorem Grew.below {w w' : World} (h : Grew w w') : RowKit.Below w.heap.size w w' := ⟨h.os, h.tape, h.output, h.size, h.block⟩
theorem Grew.of_below {w w' : World} (h : RowKit.Below w.heap.size w w') : Grew w w' := ⟨h.os, h.tape, h.output, h.size, h.block⟩

def Closed (K : Nat → Prop) (J : World → Prop) : Prop := ∀ w w', J w → Step K w w' → J w'

/-- The heap's side: keys to blocks of the frame's own. Z: blocks that may turn behind the frame's back; K: blocks that it must not write. -/
structure Mem (Z K : Nat → Prop) (J : World → Prop) (h : Heap) (ι : Nat → Value) (w : World) : Prop where
  ent : ∀ k e, h k = some e → EntOk ⟨w, Z, dom h, ι⟩ e (ι k)
  own : ∀ k b, dom h k → blk (ι k) = some b → ¬ Z b ∧ ¬ K b ∧ b < w.heap.size
  apart : ∀ k k' b, dom h k → dom h k' → blk (ι k) = some b → blk (ι k') = some b → k = k'
  Zlt : ∀ b, Z b → b < w.heap.size
  Klt : ∀ b, K b → b < w.heap.size
  Jw : J w
  Jc : Closed K J

abbrev cx (Z : Nat → Prop) (h : Heap) (ι : Nat → Value) (w : World) : Cx := ⟨w, Z, dom h, ι⟩

/-- Marks of ranges over functions among the deferred calls. -/
def markOf (r : Nat) : Deferred := { target := .collected r, args := #[] }
def Marks (Z K : Nat → Prop) (w : World) (l : List Deferred) : Prop :=
  ∃ rs : List Nat, l = rs.map markOf ∧ rs.Nodup ∧ ∀ r ∈ rs, w.heap[r]? = some (.deferred (some [])) ∧ ¬ K r ∧ ¬ Z r
theorem Marks.nil (Z K : Nat → Prop) (w : World) : Marks Z K w [] := ⟨[], rfl, by simp, by simp⟩
theorem Marks.grew {Z K : Nat → Prop} {w w' : World} {l : List Deferred} (m : Marks Z K w l) (hg : Grew w w') : Marks Z K w' l := by
  obtain ⟨rs, h1, h2, h3⟩ := m
  refine ⟨rs, h1, h2, fun r hr => ?_⟩
  obtain ⟨h4, h5⟩ := h3 r hr
  exact ⟨by rw [hg.block r (Array.getElem?_eq_some_iff.1 h4).1]; exact h4, h5⟩

structure Rel (Z K : Nat → Prop) (N : Nat) (J : World → Prop) (s : Slots) (h : Heap) (ι : Nat → Value) (a : Act) (w : World) : Prop where
  mem : Mem Z K J h ι w
  size : a.tmps.size = N
  slot : ∀ i, RA (cx Z h ι w) (s i) (a.tmps.getD i undef)
  ds : Marks Z K w a.defers

theorem cell_grew {w w' : World} (hg : Grew w w') {b o : Nat} {v : Value} (h : w.cell? ⟨b, o, none⟩ = some v) : w'.cell? ⟨b, o, none⟩ = some v := by
  have hb : b < w.heap.size := World.block_lt_of_cell? w ⟨b, o, none⟩ h
  rw [World.cell?_of_block (w := w) (a := ⟨b, o, none⟩) (hg.block b hb)]; exact h

theorem isCells.grew {w w' : World} {b : Nat} (hg : Grew w w') (h : isCells w b) : isCells w' b := h.at (hg.block b h.lt)

theorem Mem.Mlt {Z K : Nat → Prop} {J : World → Prop} {h : Heap} {ι : Nat → Value} {w : World} (m : Mem Z K J h ι w) {b : Nat} (hb : (cx Z h ι w).M b) : b < w.heap.size := by
  rcases hb with hb | ⟨k, hk, hb⟩
  · exact m.Zlt b hb
  · exact (m.own k b hk hb).2.2

theorem keepsC_grew {Z K : Nat → Prop} {J : World → Prop} {h : Heap} {ι : Nat → Value} {w w' : World} (hg : Grew w w') : KeepsC (cx Z h ι w) (cx Z h ι w') :=
  ⟨⟨fun b o v _ hc => cell_grew hg hc, fun b _ hi => hi.grew hg, fun b _ hm => hm⟩, fun k hk => ⟨hk, rfl⟩⟩

theorem RowOk.grew {w w' : World} {v : Value} {e : TypeId} {sz n : Nat} {vs : List Value} (hg : Grew w w') (h : RowOk w v e sz n vs) : RowOk w' v e sz n vs := by
  rcases h with h | ⟨g, cap, cur, h1, h0, h2, h3⟩
  · exact .inl h
  · exact .inr ⟨g, cap, cur, h1, h0, by rw [hg.block g (Array.getElem?_eq_some_iff.1 h2).1]; exact h2, h3⟩

theorem EntOk.grew {Z K : Nat → Prop} {J : World → Prop} {h : Heap} {ι : Nat → Value} {w w' : World} (hg : Grew w w') {e : Ent} {v : Value} (he : EntOk (cx Z h ι w) e v) : EntOk (cx Z h ι w') e v := by
  cases e with
  | box t cs =>
    obtain ⟨b, vs, h1, h2, h3⟩ := he
    exact ⟨b, vs, h1, by rw [← h2]; exact hg.block b (Array.getElem?_eq_some_iff.1 h2).1, RAs_keeps (keepsC_grew (K := K) (J := J) hg) _ _ h3⟩
  | row e sz xs =>
    obtain ⟨vs, h1, h2, h3⟩ := he
    exact ⟨vs, RowOk.grew (w := w) hg h1, RDs_keeps (keepsC_grew (K := K) (J := J) hg).d _ _ h2, h3⟩
  | ghost cs vs => exact ⟨he.1, RAs_keeps (keepsC_grew (K := K) (J := J) hg) _ _ he.2⟩

theorem Mem.grew {Z K : Nat → Prop} {J : World → Prop} {h : Heap} {ι : Nat → Value} {w w' : World} (m : Mem Z K J h ι w) (hg : Grew w w') : Mem Z K J h ι w' :=
  ⟨fun k e hk => EntOk.grew (K := K) (J := J) hg (m.ent k e hk), fun k b hk hb => ⟨(m.own k b hk hb).1, (m.own k b hk hb).2.1, Nat.lt_of_lt_of_le (m.own k b hk hb).2.2 hg.size⟩, m.apart,
   fun b hb => Nat.lt_of_lt_of_le (m.Zlt b hb) hg.size, fun b hb => Nat.lt_of_lt_of_le (m.Klt b hb) hg.size, m.Jc w w' m.Jw (hg.step m.Klt), m.Jc⟩

/-- A value is put into a temporary, the world having grown. -/
theorem Rel.put {Z K : Nat → Prop} {N : Nat} {J : World → Prop} {s : Slots} {h : Heap} {ι : Nat → Value} {a : Act} {w w' : World} (r : Rel Z K N J s h ι a w) (hg : Grew w w')
    {d : Nat} (hd : Nat.ble (d + 1) N = true) {x : AV} {v : Value} (hx : RA (cx Z h ι w') x v) : Rel Z K N J (sset s d x) h ι (a.put (some d) v) w' := by
  refine ⟨r.mem.grew hg, by simp [Act.put, r.size], fun i => ?_, r.ds.grew hg⟩
  by_cases hi : i = d
  · subst hi
    rw [sset_same]
    have hd' : i < a.tmps.size := by rw [r.size]; exact Nat.le_of_ble_eq_true hd
    simpa [Act.put, Array.getD_eq_getD_getElem?, hd'] using hx
  · rw [sset_ne _ _ hi]
    have : (a.put (some d) v).tmps.getD i undef = a.tmps.getD i undef := by
      simp [Act.put, Array.getD_eq_getD_getElem?, Array.getElem?_setIfInBounds, Ne.symm hi]
    rw [this]
    exact RA_keeps (keepsC_grew (K := K) (J := J) hg) _ _ (r.slot i)

theorem Rel.put_none {Z K : Nat → Prop} {N : Nat} {J : World → Prop} {s : Slots} {h : Heap} {ι : Nat → Value} {a : Act} {w w' : World} (r : Rel Z K N J s h ι a w) (hg : Grew w w')
    (v : Value) : Rel Z K N J s h ι (a.put none v) w' :=
  ⟨r.mem.grew hg, by simp [Act.put, r.size], fun i => RA_keeps (keepsC_grew (K := K) (J := J) hg) _ _ (r.slot i), r.ds.grew hg⟩

/-! ### Types -/
inductive TK where
  | bool | int (k : IntKind) | str | slice (e : TypeId) | struct (fs : List (TypeId × Nat)) | ptr (e : TypeId) | iface | other
structure TI where
  k : TK
  size : Nat
  bytes : Nat
  zero : List Value
def TK.fits (P : Program) (t : TypeId) : TK → Prop
  | .bool => P.underlying t = some .bool
  | .int k => P.underlying t = some (.int k)
  | .str => P.underlying t = some .string
  | .slice e => P.underlying t = some (.slice e)
  | .struct fs => ∃ fields, P.underlying t = some (.struct fields) ∧ fields.toList.map (fun f => (f.type, f.offset)) = fs
  | .ptr e => P.underlying t = some (.pointer e)
  | .iface => ∃ ms, P.underlying t = some (.interface ms)
  | .other => ∃ d, P.underlying t = some d ∧ (match d with | .struct _ | .array _ _ | .interface _ => false | _ => true) = true
def TI.fits (P : Program) (t : TypeId) (x : TI) : Prop :=
  (∃ i, P.info? t = some i ∧ i.size = x.size ∧ i.bytes = x.bytes ∧ ∃ z, i.zero = some z ∧ z.cells.toList = x.zero ∧ x.zero.length = x.size) ∧ x.k.fits P t
def TOk (P : Program) (T : Nat → Option TI) : Prop := ∀ t x, T t = some x → x.fits P t
def TK.isAgg : TK → Bool
  | .struct _ => true
  | _ => false

section
variable {P : Program} {T : Nat → Option TI} (hT : TOk P T)
include hT
theorem run_size {t : TypeId} {x : TI} (h : T t = some x) (w : World) : (sizeOf t).run P w = .ok x.size w := by
  obtain ⟨⟨i, hi, hs, _⟩, _⟩ := hT t x h
  simp [sizeOf, typeInfo, hi, hs]
theorem run_agg {t : TypeId} {x : TI} (h : T t = some x) (w : World) : (isAgg t).run P w = .ok x.k.isAgg w := by
  obtain ⟨_, hk⟩ := hT t x h
  unfold isAgg
  cases hx : x.k with
  | struct fs =>
    rw [hx] at hk
    obtain ⟨fields, hu, _⟩ := hk
    simp [run_underlying hu, TK.isAgg]
  | iface =>
    rw [hx] at hk
    obtain ⟨ms, hu⟩ := hk
    simp [run_underlying hu, TK.isAgg]
  | other =>
    rw [hx] at hk
    obtain ⟨d, hu, hd⟩ := hk
    cases d <;> simp at hd <;> simp [run_underlying hu, TK.isAgg]
  | _ =>
    rw [hx] at hk
    simp [TK.fits] at hk
    simp [run_underlying hk, TK.isAgg]
theorem run_zero {t : TypeId} {x : TI} (h : T t = some x) (w : World) : ∃ z, (zeroValue t).run P w = .ok z w ∧ z.cells.toList = x.zero := by
  obtain ⟨⟨i, hi, _, _, z, hz, hc, _⟩, _⟩ := hT t x h
  exact ⟨z, by simp [zeroValue, typeInfo, hi, hz], hc⟩
end
end Go.AL
