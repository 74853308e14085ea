/- Parts of an abstract logic over the kit's walks, and walks in it: A1, A2, A3, A4, A5, A6, A7. -/
import Derived.OwnWalkIn
import Derived.RangeFuncLeaves
import Derived.RangeFuncCalls
import Derived.Laws.AppendOwn
import Derived.Below
/- AL, part 1: abstract values over memory, and how they live on while memory grows. Nothing here speaks of a given program. -/
namespace Go.AL
set_option linter.unusedVariables false
set_option linter.unusedSimpArgs false

/-- Data that nobody writes any more. -/
inductive D where
  | lit (v : Value)
  | sl (sz bts : Nat) (xs : List (List D))
  | iptr (cs : List D)
  | fn (f : Fn) (first cap : List D)
  | iface (t : TypeId) (x : D)

def okLit : Value → Prop
  | .int k n => k.min ≤ n ∧ n ≤ k.max
  | .string s => s.size ≤ 140737488355328
  | .bool _ | .nilIface | .nilFunc => True
  | .pointer _ => True
  | .slice _ n _ => n ≤ 140737488355328
  | _ => False

def isCells (w : World) (b : Nat) : Prop := ∃ cs t f, w.heap[b]? = some (.cells cs t f)
theorem isCells.lt {w : World} {b : Nat} (h : isCells w b) : b < w.heap.size := let ⟨_, _, _, h⟩ := h; (Array.getElem?_eq_some_iff.1 h).1
theorem isCells.of_cell {w : World} {b o : Nat} {v : Value} (h : w.cell? ⟨b, o, none⟩ = some v) : isCells w b := by
  simp only [World.cell?] at h
  split at h
  · rename_i cs t f hb; exact ⟨cs, t, f, hb⟩
  · cases h
theorem isCells.at {w w' : World} {b : Nat} (e : w'.heap[b]? = w.heap[b]?) (h : isCells w b) : isCells w' b := let ⟨c, t, f, h⟩ := h; ⟨c, t, f, e.trans h⟩

mutual
def RD (w : World) (M : Nat → Prop) : D → Value → Prop
  | .lit u, v => v = u ∧ okLit u
  | .sl sz bts xs, v => ∃ a cap, v = .slice a xs.length cap ∧ xs.length ≤ cap ∧ xs.length * bts ≤ 140737488355328 ∧ xs.length ≤ 140737488355328 ∧
      (xs = [] ∨ ∃ b off, a = some ⟨b, off, none⟩ ∧ ¬ M b ∧ isCells w b ∧ RCs w M b sz xs off)
  | .iptr cs, v => ∃ b off, v = .pointer (some ⟨b, off, none⟩) ∧ ¬ M b ∧ isCells w b ∧ RC w M b cs off
  | .fn f first cap, v => ∃ vf vc, v = .func f vf vc ∧ RDs w M first vf.toList ∧ RDs w M cap vc.toList
  | .iface t x, v => ∃ u, v = .iface t u ∧ RD w M x u
def RDs (w : World) (M : Nat → Prop) : List D → List Value → Prop
  | [], vs => vs = []
  | x :: xs, vs => ∃ v t, vs = v :: t ∧ RD w M x v ∧ RDs w M xs t
def RC (w : World) (M : Nat → Prop) (b : Nat) : List D → Nat → Prop
  | [], _ => True
  | x :: xs, off => (∃ v, w.cell? ⟨b, off, none⟩ = some v ∧ RD w M x v) ∧ RC w M b xs (off + 1)
def RCs (w : World) (M : Nat → Prop) (b sz : Nat) : List (List D) → Nat → Prop
  | [], _ => True
  | x :: xs, off => x.length = sz ∧ RC w M b x off ∧ RCs w M b sz xs (off + sz)
end

inductive AV where
  | d (x : D)
  | agg (cs : List AV)
  | tup (cs : List AV)
  | ptr (k o : Nat)
  | view (k o n : Nat)
  | row (k : Nat)
  | fn (f : Fn) (first cap : List AV)
  | any

def blk : Value → Option Nat
  | .pointer (some a) => some a.block
  | .slice (some a) _ cap => if cap = 0 then none else some a.block
  | _ => none

def capOf : Value → Nat
  | .slice _ _ c => c
  | _ => 0

structure Cx where
  w : World
  Z : Nat → Prop
  dom : Nat → Prop
  ι : Nat → Value

def Cx.M (C : Cx) (b : Nat) : Prop := C.Z b ∨ ∃ k, C.dom k ∧ blk (C.ι k) = some b

mutual
def RA (C : Cx) : AV → Value → Prop
  | .d x, v => RD C.w C.M x v
  | .agg cs, v => ∃ vs, v = .agg vs ∧ RAs C cs vs.toList
  | .tup cs, v => ∃ vs, v = .tuple vs ∧ RAs C cs vs.toList
  | .ptr k o, v => C.dom k ∧ ∃ b, blk (C.ι k) = some b ∧ v = .pointer (some ⟨b, o, none⟩)
  | .view k o n, v => C.dom k ∧ ∃ b cap, blk (C.ι k) = some b ∧ v = .slice (some ⟨b, o, none⟩) n cap ∧ (o = 0 → cap = capOf (C.ι k))
  | .row k, v => C.dom k ∧ v = C.ι k
  | .fn f first cap, v => ∃ vf vc, v = .func f vf vc ∧ RAs C first vf.toList ∧ RAs C cap vc.toList
  | .any, _ => True
def RAs (C : Cx) : List AV → List Value → Prop
  | [], vs => vs = []
  | x :: xs, vs => ∃ v t, vs = v :: t ∧ RA C x v ∧ RAs C xs t
end

/-! ### Growing -/
/-- What RD leans on lives on. -/
structure Keeps (w w' : World) (M M' : Nat → Prop) : Prop where
  cell : ∀ b o v, ¬ M b → w.cell? ⟨b, o, none⟩ = some v → w'.cell? ⟨b, o, none⟩ = some v
  iso : ∀ b, ¬ M b → isCells w b → isCells w' b
  off : ∀ b, isCells w b → ¬ M b → ¬ M' b

mutual
theorem RD_keeps {w w' : World} {M M' : Nat → Prop} (h : Keeps w w' M M') : ∀ (x : D) (v : Value), RD w M x v → RD w' M' x v
  | .lit u, v => fun hx => by simpa only [RD] using hx
  | .sl sz bts xs, v => fun hx => by
    simp only [RD] at hx ⊢
    obtain ⟨a, cap, e, h1, h2, h3, h4⟩ := hx
    refine ⟨a, cap, e, h1, h2, h3, ?_⟩
    rcases h4 with h4 | ⟨b, off, ea, hm, hb, hc⟩
    · exact .inl h4
    · exact .inr ⟨b, off, ea, h.off b hb hm, h.iso b hm hb, RCs_keeps h b sz hm xs off hc⟩
  | .iptr cs, v => fun hx => by
    simp only [RD] at hx ⊢
    obtain ⟨b, off, e, hm, hb, hc⟩ := hx
    exact ⟨b, off, e, h.off b hb hm, h.iso b hm hb, RC_keeps h b hm cs off hc⟩
  | .fn f first cap, v => fun hx => by
    simp only [RD] at hx ⊢
    obtain ⟨vf, vc, e, h1, h2⟩ := hx
    exact ⟨vf, vc, e, RDs_keeps h first _ h1, RDs_keeps h cap _ h2⟩
  | .iface t x, v => fun hx => by
    simp only [RD] at hx ⊢
    obtain ⟨u, e, h1⟩ := hx
    exact ⟨u, e, RD_keeps h x u h1⟩
theorem RDs_keeps {w w' : World} {M M' : Nat → Prop} (h : Keeps w w' M M') : ∀ (xs : List D) (vs : List Value), RDs w M xs vs → RDs w' M' xs vs
  | [], vs => fun hx => by simpa only [RDs] using hx
  | x :: xs, vs => fun hx => by
    simp only [RDs] at hx ⊢
    obtain ⟨v, t, e, h1, h2⟩ := hx
    exact ⟨v, t, e, RD_keeps h x v h1, RDs_keeps h xs t h2⟩
theorem RC_keeps {w w' : World} {M M' : Nat → Prop} (h : Keeps w w' M M') (b : Nat) (hb : ¬ M b) : ∀ (xs : List D) (off : Nat), RC w M b xs off → RC w' M' b xs off
  | [], off => fun hx => by simp only [RC]
  | x :: xs, off => fun hx => by
    simp only [RC] at hx ⊢
    obtain ⟨⟨v, hc, hv⟩, hr⟩ := hx
    exact ⟨⟨v, h.cell b off v hb hc, RD_keeps h x v hv⟩, RC_keeps h b hb xs (off + 1) hr⟩
theorem RCs_keeps {w w' : World} {M M' : Nat → Prop} (h : Keeps w w' M M') (b sz : Nat) (hb : ¬ M b) : ∀ (xs : List (List D)) (off : Nat), RCs w M b sz xs off → RCs w' M' b sz xs off
  | [], off => fun hx => by simp only [RCs]
  | x :: xs, off => fun hx => by
    simp only [RCs] at hx ⊢
    obtain ⟨hl, h1, h2⟩ := hx
    exact ⟨hl, RC_keeps h b hb x off h1, RCs_keeps h b sz hb xs (off + sz) h2⟩
end

/-- Contexts: the keys that live keep their values, and what is read lives on. -/
structure KeepsC (C C' : Cx) : Prop where
  d : Keeps C.w C'.w C.M C'.M
  dom : ∀ k, C.dom k → C'.dom k ∧ C'.ι k = C.ι k

mutual
theorem RA_keeps {C C' : Cx} (h : KeepsC C C') : ∀ (x : AV) (v : Value), RA C x v → RA C' x v
  | .d x, v => fun hx => by simp only [RA] at hx ⊢; exact RD_keeps h.d x v hx
  | .agg cs, v => fun hx => by
    simp only [RA] at hx ⊢
    obtain ⟨vs, e, h1⟩ := hx
    exact ⟨vs, e, RAs_keeps h cs _ h1⟩
  | .tup cs, v => fun hx => by
    simp only [RA] at hx ⊢
    obtain ⟨vs, e, h1⟩ := hx
    exact ⟨vs, e, RAs_keeps h cs _ h1⟩
  | .ptr k o, v => fun hx => by
    simp only [RA] at hx ⊢
    obtain ⟨hk, b, hb, e⟩ := hx
    exact ⟨(h.dom k hk).1, b, by rw [(h.dom k hk).2]; exact hb, e⟩
  | .view k o n, v => fun hx => by
    simp only [RA] at hx ⊢
    obtain ⟨hk, b, cap, hb, e⟩ := hx
    exact ⟨(h.dom k hk).1, b, cap, by rw [(h.dom k hk).2]; exact hb, by rw [(h.dom k hk).2]; exact e⟩
  | .row k, v => fun hx => by
    simp only [RA] at hx ⊢
    exact ⟨(h.dom k hx.1).1, by rw [(h.dom k hx.1).2]; exact hx.2⟩
  | .fn f first cap, v => fun hx => by
    simp only [RA] at hx ⊢
    obtain ⟨vf, vc, e, h1, h2⟩ := hx
    exact ⟨vf, vc, e, RAs_keeps h first _ h1, RAs_keeps h cap _ h2⟩
  | .any, v => fun hx => by simp only [RA]
theorem RAs_keeps {C C' : Cx} (h : KeepsC C C') : ∀ (xs : List AV) (vs : List Value), RAs C xs vs → RAs C' xs vs
  | [], vs => fun hx => by simpa only [RAs] using hx
  | x :: xs, vs => fun hx => by
    simp only [RAs] at hx ⊢
    obtain ⟨v, t, e, h1, h2⟩ := hx
    exact ⟨v, t, e, RA_keeps h x v h1, RAs_keeps h xs t h2⟩
end

/-! ### Lists of values -/
theorem RDs_length {w : World} {M : Nat → Prop} : ∀ {xs : List D} {vs : List Value}, RDs w M xs vs → vs.length = xs.length
  | [], vs, h => by simp only [RDs] at h; subst h; rfl
  | x :: xs, vs, h => by
    simp only [RDs] at h
    obtain ⟨v, t, rfl, _, h2⟩ := h
    simp [RDs_length h2]
theorem RAs_length {C : Cx} : ∀ {xs : List AV} {vs : List Value}, RAs C xs vs → vs.length = xs.length
  | [], vs, h => by simp only [RAs] at h; subst h; rfl
  | x :: xs, vs, h => by
    simp only [RAs] at h
    obtain ⟨v, t, rfl, _, h2⟩ := h
    simp [RAs_length h2]
theorem RAs_get {C : Cx} : ∀ {xs : List AV} {vs : List Value} {i : Nat} {x : AV}, RAs C xs vs → xs[i]? = some x → ∃ v, vs[i]? = some v ∧ RA C x v
  | [], vs, i, x, h, hi => by simp at hi
  | y :: xs, vs, i, x, h, hi => by
    simp only [RAs] at h
    obtain ⟨v, t, rfl, h1, h2⟩ := h
    cases i with
    | zero => simp at hi; subst hi; exact ⟨v, rfl, h1⟩
    | succ i => simp at hi; simpa using RAs_get h2 hi
theorem RAs_of_get {C : Cx} : ∀ {xs : List AV} {vs : List Value}, vs.length = xs.length → (∀ (i : Nat) (x : AV) (v : Value), xs[i]? = some x → vs[i]? = some v → RA C x v) → RAs C xs vs
  | [], vs, hl, _ => by simp only [RAs]; exact List.eq_nil_of_length_eq_zero hl
  | x :: xs, [], hl, _ => by simp at hl
  | x :: xs, v :: t, hl, h => by
    simp only [RAs]
    refine ⟨v, t, rfl, h 0 x v rfl rfl, RAs_of_get (by simpa using hl) fun i y u hy hu => h (i + 1) y u (by simpa using hy) (by simpa using hu)⟩
theorem RDs_append {w : World} {M : Nat → Prop} : ∀ {xs ys : List D} {vs us : List Value}, RDs w M xs vs → RDs w M ys us → RDs w M (xs ++ ys) (vs ++ us)
  | [], ys, vs, us, h, h' => by simp only [RDs] at h; subst h; simpa using h'
  | x :: xs, ys, vs, us, h, h' => by
    simp only [RDs] at h
    obtain ⟨v, t, rfl, h1, h2⟩ := h
    simp only [List.cons_append, RDs]
    exact ⟨v, t ++ us, rfl, h1, RDs_append h2 h'⟩
theorem RAs_append {C : Cx} : ∀ {xs ys : List AV} {vs us : List Value}, RAs C xs vs → RAs C ys us → RAs C (xs ++ ys) (vs ++ us)
  | [], ys, vs, us, h, h' => by simp only [RAs] at h; subst h; simpa using h'
  | x :: xs, ys, vs, us, h, h' => by
    simp only [RAs] at h
    obtain ⟨v, t, rfl, h1, h2⟩ := h
    simp only [List.cons_append, RAs]
    exact ⟨v, t ++ us, rfl, h1, RAs_append h2 h'⟩
theorem RAs_drop {C : Cx} : ∀ {xs : List AV} {vs : List Value} (n : Nat), RAs C xs vs → RAs C (xs.drop n) (vs.drop n)
  | xs, vs, 0, h => by simpa using h
  | [], vs, n + 1, h => by simp only [RAs] at h; subst h; simp [RAs]
  | x :: xs, vs, n + 1, h => by
    simp only [RAs] at h
    obtain ⟨v, t, rfl, h1, h2⟩ := h
    simpa using RAs_drop n h2
theorem RAs_take {C : Cx} : ∀ {xs : List AV} {vs : List Value} (n : Nat), RAs C xs vs → RAs C (xs.take n) (vs.take n)
  | xs, vs, 0, h => by simp [RAs]
  | [], vs, n + 1, h => by simp only [RAs] at h; subst h; simp [RAs]
  | x :: xs, vs, n + 1, h => by
    simp only [RAs] at h
    obtain ⟨v, t, rfl, h1, h2⟩ := h
    simp only [List.take_succ_cons, RAs]
    exact ⟨v, t.take n, rfl, h1, RAs_take n h2⟩
theorem RAs_map_d {C : Cx} : ∀ {xs : List D} {vs : List Value}, RAs C (xs.map .d) vs ↔ RDs C.w C.M xs vs
  | [], vs => by simp only [List.map_nil, RAs, RDs]
  | x :: xs, vs => by
    simp only [List.map_cons, RAs, RDs, RA, RAs_map_d]
/-! ### Cells -/
theorem RC_drop {w : World} {M : Nat → Prop} {b : Nat} : ∀ {cs : List D} {off : Nat} (n : Nat), RC w M b cs off → RC w M b (cs.drop n) (off + n)
  | cs, off, 0, h => by simpa using h
  | [], off, n + 1, h => by simp [RC]
  | y :: cs, off, n + 1, h => by
    simp only [RC] at h
    have := RC_drop n h.2
    simp only [List.drop_succ_cons]
    rwa [show off + (n + 1) = off + 1 + n by omega]
theorem RC_list {w : World} {M : Nat → Prop} {b : Nat} : ∀ {cs : List D} {off : Nat}, RC w M b cs off → ∃ vs : List Value, RDs w M cs vs ∧ ∀ j v, vs[j]? = some v → w.cell? ⟨b, off + j, none⟩ = some v
  | [], off, h => ⟨[], by simp [RDs], by simp⟩
  | x :: cs, off, h => by
    simp only [RC] at h
    obtain ⟨⟨v, hc, hv⟩, hr⟩ := h
    obtain ⟨vs, h1, h2⟩ := RC_list hr
    refine ⟨v :: vs, by simp only [RDs]; exact ⟨v, vs, rfl, hv, h1⟩, fun j u hu => ?_⟩
    cases j with
    | zero => simp at hu; subst hu; simpa using hc
    | succ j => rw [show off + (j + 1) = off + 1 + j by omega]; exact h2 j u (by simpa using hu)
theorem RC_of_list {w : World} {M : Nat → Prop} {b : Nat} : ∀ {cs : List D} {vs : List Value} {off : Nat}, RDs w M cs vs → (∀ j v, vs[j]? = some v → w.cell? ⟨b, off + j, none⟩ = some v) → RC w M b cs off
  | [], vs, off, h, hc => by simp [RC]
  | x :: cs, vs, off, h, hc => by
    simp only [RDs] at h
    obtain ⟨v, t, rfl, h1, h2⟩ := h
    simp only [RC]
    refine ⟨⟨v, by simpa using hc 0 v rfl, h1⟩, RC_of_list h2 fun j u hu => ?_⟩
    have := hc (j + 1) u (by simpa using hu)
    rwa [show off + (j + 1) = off + 1 + j by omega] at this
theorem RCs_get {w : World} {M : Nat → Prop} {b sz : Nat} : ∀ {xs : List (List D)} {off i : Nat} {x : List D}, RCs w M b sz xs off → xs[i]? = some x → x.length = sz ∧ RC w M b x (off + i * sz)
  | [], off, i, x, h, hi => by simp at hi
  | y :: xs, off, i, x, h, hi => by
    simp only [RCs] at h
    cases i with
    | zero => simp at hi; subst hi; simpa using ⟨h.1, h.2.1⟩
    | succ i =>
      obtain ⟨h1, h2⟩ := RCs_get h.2.2 (by simpa using hi)
      refine ⟨h1, ?_⟩
      rwa [show off + (i + 1) * sz = off + sz + i * sz by rw [Nat.add_mul]; omega]
theorem RCs_flat {w : World} {M : Nat → Prop} {b sz : Nat} : ∀ {xs : List (List D)} {off : Nat}, RCs w M b sz xs off → RC w M b xs.flatten off ∧ xs.flatten.length = xs.length * sz
  | [], off, h => by simp [RC]
  | y :: xs, off, h => by
    simp only [RCs] at h
    obtain ⟨h1, h2, h3⟩ := h
    obtain ⟨h4, h5⟩ := RCs_flat h3
    refine ⟨?_, by simp [h5, h1, Nat.add_mul]; omega⟩
    simp only [List.flatten_cons]
    obtain ⟨vs, g1, g2⟩ := RC_list h2
    obtain ⟨us, g3, g4⟩ := RC_list h4
    have hl := RDs_length g1
    have hd : RDs w M (y ++ xs.flatten) (vs ++ us) := RDs_append g1 g3
    refine RC_of_list hd fun j v hj => ?_
    rw [List.getElem?_append] at hj
    split at hj
    · exact g2 j v hj
    · have := g4 (j - vs.length) v hj
      rwa [show off + sz + (j - vs.length) = off + j by omega] at this
end Go.AL
/- AL, part 2: a heap of the frame's own, how a frame stands to its abstract state; types told by a table. -/
namespace Go.AL
set_option linter.unusedVariables false
set_option linter.unusedSimpArgs false

inductive Ent where
  | box (t : TypeId) (cs : List AV)
  | row (e : TypeId) (sz : Nat) (xs : List (List D))
  | ghost (cs : List AV) (vs : List Value)
  | rowA (e : TypeId) (sz n : Nat) (cs : List AV)

abbrev Slots := Nat → AV
abbrev Heap := Nat → Option Ent
def sset (s : Slots) (d : Nat) (v : AV) : Slots := fun i => bif Nat.beq i d then v else s i
def hset (h : Heap) (k : Nat) (e : Option Ent) : Heap := fun i => bif Nat.beq i k then e else h i
def noSlots : Slots := fun _ => .any
def noHeap : Heap := fun _ => none
def dom (h : Heap) (k : Nat) : Prop := (h k).isSome = true

theorem sset_same (s : Slots) (d : Nat) (v : AV) : sset s d v d = v := by simp [sset]
theorem sset_ne (s : Slots) {d i : Nat} (v : AV) (h : i ≠ d) : sset s d v i = s i := by
  have : Nat.beq i d = false := Bool.eq_false_iff.2 fun h' => h (Nat.eq_of_beq_eq_true h')
  simp [sset, this]
theorem hset_same (h : Heap) (k : Nat) (e : Option Ent) : hset h k e k = e := by simp [hset]
theorem hset_ne (h : Heap) {k i : Nat} (e : Option Ent) (hn : i ≠ k) : hset h k e i = h i := by
  have : Nat.beq i k = false := Bool.eq_false_iff.2 fun h' => hn (Nat.eq_of_beq_eq_true h')
  simp [hset, this]

/-- A row of the frame's own: nothing in it and no room, or a block that it begins. -/
def RowOk (w : World) (v : Value) (e : TypeId) (sz n : Nat) (vs : List Value) : Prop :=
  (∃ a, v = .slice a 0 0 ∧ n = 0 ∧ vs = []) ∨
  ∃ g cap cur, v = .slice (some ⟨g, 0, none⟩) n cap ∧ 0 < cap ∧ w.heap[g]? = some (.cells cur e (0, 0)) ∧ n ≤ cap ∧ cap ≤ maxLen ∧ cur.size = cap * sz ∧ cur.toList.take (n * sz) = vs

def EntOk (C : Cx) : Ent → Value → Prop
  | .box t cs, v => ∃ b vs, v = .pointer (some ⟨b, 0, none⟩) ∧ C.w.heap[b]? = some (.cells vs t (0, 0)) ∧ RAs C cs vs.toList
  | .row e sz xs, v => ∃ vs, RowOk C.w v e sz xs.length vs ∧ RDs C.w C.M xs.flatten vs ∧ (∀ x ∈ xs, x.length = sz) ∧ xs.length ≤ 140737488355328
  | .ghost cs vs, v => v = .slice none 0 0 ∧ RAs C cs vs
  | .rowA e sz n cs, v => ∃ vs, RowOk C.w v e sz n vs ∧ RAs C cs vs ∧ n ≤ 140737488355328

/-- What a step may do to the world: all but the blocks of K. -/
structure Step (K : Nat → Prop) (w w' : World) : Prop where
  os : w'.os = w.os
  tape : w'.tape = w.tape
  output : w'.output = w.output
  size : w.heap.size ≤ w'.heap.size
  drawn : w.drawn ≤ w'.drawn
  block : ∀ b, K b → w'.heap[b]? = w.heap[b]?
theorem Step.refl (K : Nat → Prop) (w : World) : Step K w w := ⟨rfl, rfl, rfl, Nat.le_refl _, Nat.le_refl _, fun _ _ => rfl⟩
theorem Step.trans {K : Nat → Prop} {a b c : World} (h : Step K a b) (k : Step K b c) : Step K a c :=
  ⟨k.os.trans h.os, k.tape.trans h.tape, k.output.trans h.output, Nat.le_trans h.size k.size, Nat.le_trans h.drawn k.drawn, fun i hi => (k.block i hi).trans (h.block i hi)⟩
/-- Nothing that was there has turned. -/
abbrev Grew (w w' : World) : Prop := Step (fun b => b < w.heap.size) w w'
theorem Grew.refl (w : World) : Grew w w := Step.refl _ w
theorem Grew.trans {a b c : World} (h : Grew a b) (k : Grew b c) : Grew a c :=
  ⟨k.os.trans h.os, k.tape.trans h.tape, k.output.trans h.output, Nat.le_trans h.size k.size, Nat.le_trans h.drawn k.drawn, fun i hi => (k.block i (Nat.lt_of_lt_of_le hi h.size)).trans (h.block i hi)⟩
theorem Grew.step {K : Nat → Prop} {w w' : World} (h : Grew w w') (hK : ∀ b, K b → b < w.heap.size) : Step K w w' :=
  ⟨h.os, h.tape, h.output, h.size, h.drawn, fun b hb => h.block b (hK b hb)⟩
theorem Grew.alloc (w : World) (o : Obj) : Grew w (w.alloc o) := ⟨rfl, rfl, rfl, by simp, Nat.le_refl _, fun b hb => RowKit.Below.heap_alloc w o b hb⟩
theorem Grew.drew (w : World) : Grew w { w with drawn := w.drawn + 1 } := ⟨rfl, rfl, rfl, Nat.le_refl _, Nat.le_succ _, fun _ _ => rfl⟩
theorem Grew.below {w w' : World} (h : Grew w w') : RowKit.Below w.heap.size w w' := ⟨h.os, h.tape, h.output, h.size, h.block⟩

def Closed (K : Nat → Prop) (J : World → Prop) : Prop := ∀ w w', J w → Step K w w' → J w'

/-- The heap's side: keys to blocks of the frame's own. Z: blocks that may turn behind the frame's back; K: blocks that it must not write. -/
structure Mem (Z K : Nat → Prop) (J : World → Prop) (h : Heap) (ι : Nat → Value) (w : World) : Prop where
  ent : ∀ k e, h k = some e → EntOk ⟨w, Z, dom h, ι⟩ e (ι k)
  own : ∀ k b, dom h k → blk (ι k) = some b → ¬ Z b ∧ ¬ K b ∧ b < w.heap.size
  apart : ∀ k k' b, dom h k → dom h k' → blk (ι k) = some b → blk (ι k') = some b → k = k'
  Zlt : ∀ b, Z b → b < w.heap.size
  Klt : ∀ b, K b → b < w.heap.size
  Jw : J w
  Jc : Closed K J

abbrev cx (Z : Nat → Prop) (h : Heap) (ι : Nat → Value) (w : World) : Cx := ⟨w, Z, dom h, ι⟩

/-- Marks of ranges over functions among the deferred calls. -/
def markOf (r : Nat) : Deferred := { target := .collected r, args := #[] }
def Marks (Z K : Nat → Prop) (w : World) (l : List Deferred) : Prop :=
  ∃ rs : List Nat, l = rs.map markOf ∧ rs.Nodup ∧ ∀ r ∈ rs, w.heap[r]? = some (.deferred (some [])) ∧ ¬ K r ∧ ¬ Z r
theorem Marks.nil (Z K : Nat → Prop) (w : World) : Marks Z K w [] := ⟨[], rfl, by simp, by simp⟩
theorem Marks.grew {Z K : Nat → Prop} {w w' : World} {l : List Deferred} (m : Marks Z K w l) (hg : Grew w w') : Marks Z K w' l := by
  obtain ⟨rs, h1, h2, h3⟩ := m
  refine ⟨rs, h1, h2, fun r hr => ?_⟩
  obtain ⟨h4, h5⟩ := h3 r hr
  exact ⟨by rw [hg.block r (Array.getElem?_eq_some_iff.1 h4).1]; exact h4, h5⟩

structure Rel (Z K : Nat → Prop) (N : Nat) (J : World → Prop) (s : Slots) (h : Heap) (ι : Nat → Value) (a : Act) (w : World) : Prop where
  mem : Mem Z K J h ι w
  size : a.tmps.size = N
  slot : ∀ i, RA (cx Z h ι w) (s i) (a.tmps.getD i undef)
  ds : Marks Z K w a.defers

theorem cell_grew {w w' : World} (hg : Grew w w') {b o : Nat} {v : Value} (h : w.cell? ⟨b, o, none⟩ = some v) : w'.cell? ⟨b, o, none⟩ = some v := by
  have hb : b < w.heap.size := World.block_lt_of_cell? w ⟨b, o, none⟩ h
  rw [World.cell?_of_block (w := w) (a := ⟨b, o, none⟩) (hg.block b hb)]; exact h

theorem isCells.grew {w w' : World} {b : Nat} (hg : Grew w w') (h : isCells w b) : isCells w' b := h.at (hg.block b h.lt)

theorem Mem.Mlt {Z K : Nat → Prop} {J : World → Prop} {h : Heap} {ι : Nat → Value} {w : World} (m : Mem Z K J h ι w) {b : Nat} (hb : (cx Z h ι w).M b) : b < w.heap.size := by
  rcases hb with hb | ⟨k, hk, hb⟩
  · exact m.Zlt b hb
  · exact (m.own k b hk hb).2.2

theorem keepsC_grew {Z K : Nat → Prop} {J : World → Prop} {h : Heap} {ι : Nat → Value} {w w' : World} (hg : Grew w w') : KeepsC (cx Z h ι w) (cx Z h ι w') :=
  ⟨⟨fun b o v _ hc => cell_grew hg hc, fun b _ hi => hi.grew hg, fun b _ hm => hm⟩, fun k hk => ⟨hk, rfl⟩⟩

theorem RowOk.grew {w w' : World} {v : Value} {e : TypeId} {sz n : Nat} {vs : List Value} (hg : Grew w w') (h : RowOk w v e sz n vs) : RowOk w' v e sz n vs := by
  rcases h with h | ⟨g, cap, cur, h1, h0, h2, h3⟩
  · exact .inl h
  · exact .inr ⟨g, cap, cur, h1, h0, by rw [hg.block g (Array.getElem?_eq_some_iff.1 h2).1]; exact h2, h3⟩

theorem EntOk.grew {Z K : Nat → Prop} {J : World → Prop} {h : Heap} {ι : Nat → Value} {w w' : World} (hg : Grew w w') {e : Ent} {v : Value} (he : EntOk (cx Z h ι w) e v) : EntOk (cx Z h ι w') e v := by
  cases e with
  | box t cs =>
    obtain ⟨b, vs, h1, h2, h3⟩ := he
    exact ⟨b, vs, h1, by rw [← h2]; exact hg.block b (Array.getElem?_eq_some_iff.1 h2).1, RAs_keeps (keepsC_grew (K := K) (J := J) hg) _ _ h3⟩
  | row e sz xs =>
    obtain ⟨vs, h1, h2, h3⟩ := he
    exact ⟨vs, RowOk.grew (w := w) hg h1, RDs_keeps (keepsC_grew (K := K) (J := J) hg).d _ _ h2, h3⟩
  | ghost cs vs => exact ⟨he.1, RAs_keeps (keepsC_grew (K := K) (J := J) hg) _ _ he.2⟩
  | rowA e sz n cs =>
    obtain ⟨vs, h1, h2, h3⟩ := he
    exact ⟨vs, RowOk.grew (w := w) hg h1, RAs_keeps (keepsC_grew (K := K) (J := J) hg) _ _ h2, h3⟩

theorem Mem.grew {Z K : Nat → Prop} {J : World → Prop} {h : Heap} {ι : Nat → Value} {w w' : World} (m : Mem Z K J h ι w) (hg : Grew w w') : Mem Z K J h ι w' :=
  ⟨fun k e hk => EntOk.grew (K := K) (J := J) hg (m.ent k e hk), fun k b hk hb => ⟨(m.own k b hk hb).1, (m.own k b hk hb).2.1, Nat.lt_of_lt_of_le (m.own k b hk hb).2.2 hg.size⟩, m.apart,
   fun b hb => Nat.lt_of_lt_of_le (m.Zlt b hb) hg.size, fun b hb => Nat.lt_of_lt_of_le (m.Klt b hb) hg.size, m.Jc w w' m.Jw (hg.step m.Klt), m.Jc⟩

/-- A value is put into a temporary, the world having grown. -/
theorem Rel.put {Z K : Nat → Prop} {N : Nat} {J : World → Prop} {s : Slots} {h : Heap} {ι : Nat → Value} {a : Act} {w w' : World} (r : Rel Z K N J s h ι a w) (hg : Grew w w')
    {d : Nat} (hd : Nat.ble (d + 1) N = true) {x : AV} {v : Value} (hx : RA (cx Z h ι w') x v) : Rel Z K N J (sset s d x) h ι (a.put (some d) v) w' := by
  refine ⟨r.mem.grew hg, by simp [Act.put, r.size], fun i => ?_, r.ds.grew hg⟩
  by_cases hi : i = d
  · subst hi
    rw [sset_same]
    have hd' : i < a.tmps.size := by rw [r.size]; exact Nat.le_of_ble_eq_true hd
    simpa [Act.put, Array.getD_eq_getD_getElem?, hd'] using hx
  · rw [sset_ne _ _ hi]
    have : (a.put (some d) v).tmps.getD i undef = a.tmps.getD i undef := by
      simp [Act.put, Array.getD_eq_getD_getElem?, Array.getElem?_setIfInBounds, Ne.symm hi]
    rw [this]
    exact RA_keeps (keepsC_grew (K := K) (J := J) hg) _ _ (r.slot i)

theorem Rel.put_none {Z K : Nat → Prop} {N : Nat} {J : World → Prop} {s : Slots} {h : Heap} {ι : Nat → Value} {a : Act} {w w' : World} (r : Rel Z K N J s h ι a w) (hg : Grew w w')
    (v : Value) : Rel Z K N J s h ι (a.put none v) w' :=
  ⟨r.mem.grew hg, by simp [Act.put, r.size], fun i => RA_keeps (keepsC_grew (K := K) (J := J) hg) _ _ (r.slot i), r.ds.grew hg⟩

/-! ### Types -/
inductive TK where
  | bool | int (k : IntKind) | str | slice (e : TypeId) | struct (fs : List (TypeId × Nat)) | ptr (e : TypeId) | iface | other | array (n : Nat) (e : TypeId)
structure TI where
  k : TK
  size : Nat
  bytes : Nat
  zero : List Value
def TK.fits (P : Program) (t : TypeId) : TK → Prop
  | .bool => P.underlying t = some .bool
  | .int k => P.underlying t = some (.int k)
  | .str => P.underlying t = some .string
  | .slice e => P.underlying t = some (.slice e)
  | .struct fs => ∃ fields, P.underlying t = some (.struct fields) ∧ fields.toList.map (fun f => (f.type, f.offset)) = fs
  | .ptr e => P.underlying t = some (.pointer e)
  | .iface => ∃ ms, P.underlying t = some (.interface ms)
  | .array n e => P.underlying t = some (.array n e)
  | .other => ∃ d, P.underlying t = some d ∧ (match d with | .struct _ | .array _ _ | .interface _ => false | _ => true) = true
def TI.fits (P : Program) (t : TypeId) (x : TI) : Prop :=
  (∃ i, P.info? t = some i ∧ i.size = x.size ∧ i.bytes = x.bytes ∧ ∃ z, i.zero = some z ∧ z.cells.toList = x.zero ∧ x.zero.length = x.size) ∧ x.k.fits P t
def TOk (P : Program) (T : Nat → Option TI) : Prop := ∀ t x, T t = some x → x.fits P t
def TK.isAgg : TK → Bool
  | .struct _ | .array _ _ => true
  | _ => false

section
variable {P : Program} {T : Nat → Option TI} (hT : TOk P T)
include hT
theorem run_size {t : TypeId} {x : TI} (h : T t = some x) (w : World) : (sizeOf t).run P w = .ok x.size w := by
  obtain ⟨⟨i, hi, hs, _⟩, _⟩ := hT t x h
  simp [sizeOf, typeInfo, hi, hs]
theorem run_agg {t : TypeId} {x : TI} (h : T t = some x) (w : World) : (isAgg t).run P w = .ok x.k.isAgg w := by
  obtain ⟨_, hk⟩ := hT t x h
  unfold isAgg
  cases hx : x.k with
  | struct fs =>
    rw [hx] at hk
    obtain ⟨fields, hu, _⟩ := hk
    simp [run_underlying hu, TK.isAgg]
  | iface =>
    rw [hx] at hk
    obtain ⟨ms, hu⟩ := hk
    simp [run_underlying hu, TK.isAgg]
  | other =>
    rw [hx] at hk
    obtain ⟨d, hu, hd⟩ := hk
    cases d <;> simp at hd <;> simp [run_underlying hu, TK.isAgg]
  | _ =>
    rw [hx] at hk
    simp [TK.fits] at hk
    simp [run_underlying hk, TK.isAgg]
theorem run_zero {t : TypeId} {x : TI} (h : T t = some x) (w : World) : ∃ z, (zeroValue t).run P w = .ok z w ∧ z.cells.toList = x.zero := by
  obtain ⟨⟨i, hi, _, _, z, hz, hc, _⟩, _⟩ := hT t x h
  exact ⟨z, by simp [zeroValue, typeInfo, hi, hz], hc⟩
end
end Go.AL
/- AL, part 3: operations that only compute, read, or lay new memory that nobody writes. -/
namespace Go.AL
set_option linter.unusedVariables false
set_option linter.unusedSimpArgs false

def okLitB : Value → Bool
  | .int k n => decide (k.min ≤ n) && decide (n ≤ k.max)
  | .string s => Nat.ble s.size 140737488355328
  | .bool _ | .nilIface | .nilFunc => true
  | .pointer a => a.isNone
  | .slice a n c => a.isNone && Nat.beq n 0 && Nat.beq c 0
  | _ => false
theorem okLit_of_B : ∀ {v : Value}, okLitB v = true → okLit v
  | .int k n, h => by simpa [okLitB, okLit] using h
  | .string s, h => by simp [okLitB] at h; simpa [okLit] using h
  | .bool _, _ => trivial
  | .nilIface, _ => trivial
  | .nilFunc, _ => trivial
  | .pointer a, h => trivial
  | .slice a n c, h => by simp [okLitB] at h; simp [okLit, h.1.2]

def ev (s : Slots) : Operand → AV
  | .tmp t => s t
  | .const v => bif okLitB v then .d (.lit v) else .any
  | .func f => .d (.fn (.func f) [] [])
  | .global _ => .any

theorem RA_ev {C : Cx} {s : Slots} {a : Act} (x : Operand) (h : ∀ t, x = .tmp t → RA C (s t) (a.tmps.getD t undef)) : RA C (ev s x) (a.eval x) := by
  cases x with
  | tmp t => exact h t rfl
  | const v =>
    simp only [ev, Act.eval]
    cases hv : okLitB v with
    | true => simpa [RA, RD] using okLit_of_B hv
    | false => simp [RA]
  | func f => simp [ev, Act.eval, RA, RD, RDs]
  | global g => simp [ev, RA]

theorem RA_lit {C : Cx} {u v : Value} : RA C (.d (.lit u)) v ↔ v = u ∧ okLit u := by simp [RA, RD]
theorem RA_lit_mk {C : Cx} {u : Value} (h : okLit u) : RA C (.d (.lit u)) u := by simpa [RA, RD] using h

/-- What the operation gives: a value, in a world that has only grown. -/
def Gives (P : Program) (Z : Nat → Prop) (h : Heap) (ι : Nat → Value) (r : Sem Value) (w : World) (x : AV) : Prop :=
  ∃ v w', r.run P w = .ok v w' ∧ Grew w w' ∧ RA (cx Z h ι w') x v

theorem Gives.pure {P : Program} {Z : Nat → Prop} {h : Heap} {ι : Nat → Value} {w : World} {x : AV} {v : Value} (hx : RA (cx Z h ι w) x v) : Gives P Z h ι (Pure.pure v) w x :=
  ⟨v, w, by simp, Grew.refl w, hx⟩
theorem Gives.of_run {P : Program} {Z : Nat → Prop} {h : Heap} {ι : Nat → Value} {w : World} {x : AV} {v : Value} {r : Sem Value} (hr : r.run P w = .ok v w) (hx : RA (cx Z h ι w) x v) : Gives P Z h ι r w x :=
  ⟨v, w, hr, Grew.refl w, hx⟩

/-! ### Cells as abstract values -/
def cellsOf : AV → List AV
  | .agg cs => cs
  | v => [v]
def allD : List AV → Option (List D)
  | [] => some []
  | .d x :: r => (allD r).map (x :: ·)
  | _ => none
theorem allD_eq : ∀ {cs : List AV} {ds : List D}, allD cs = some ds → cs = ds.map .d
  | [], ds, h => by simp [allD] at h; subst h; rfl
  | .d x :: r, ds, h => by
    simp [allD] at h
    obtain ⟨t, ht, rfl⟩ := h
    simp [allD_eq ht]
  | .agg _ :: _, _, h => by simp [allD] at h
  | .tup _ :: _, _, h => by simp [allD] at h
  | .ptr _ _ :: _, _, h => by simp [allD] at h
  | .row _ :: _, _, h => by simp [allD] at h
  | .view _ _ _ :: _, _, h => by simp [allD] at h
  | .fn _ _ _ :: _, _, h => by simp [allD] at h
  | .any :: _, _, h => by simp [allD] at h
/-- One cell's value, not an aggregate. -/
def AV.one : AV → Bool
  | .d _ | .ptr _ _ | .row _ | .fn _ _ _ | .view _ _ _ => true
  | _ => false
theorem RD_one {w : World} {M : Nat → Prop} {x : D} {v : Value} (h : RD w M x v) : v.oneCell' = true ∧ v.cells = #[v] := by
  cases x with
  | lit u =>
    simp only [RD] at h
    obtain ⟨rfl, h⟩ := h
    cases v <;> simp [okLit] at h <;> simp [Value.oneCell', Value.cells]
  | sl => simp only [RD] at h; obtain ⟨a, cap, rfl, _⟩ := h; simp [Value.oneCell', Value.cells]
  | iptr => simp only [RD] at h; obtain ⟨b, o, rfl, _⟩ := h; simp [Value.oneCell', Value.cells]
  | fn => simp only [RD] at h; obtain ⟨b, o, rfl, _⟩ := h; simp [Value.oneCell', Value.cells]
  | iface => simp only [RD] at h; obtain ⟨b, rfl, _⟩ := h; simp [Value.oneCell', Value.cells]
/-- What a live key is called. -/
def Named (C : Cx) : Prop := ∀ k, C.dom k → (∃ b, C.ι k = .pointer (some ⟨b, 0, none⟩)) ∨ ∃ a n c, C.ι k = .slice a n c
theorem Mem.named {Z K : Nat → Prop} {J : World → Prop} {h : Heap} {ι : Nat → Value} {w : World} (m : Mem Z K J h ι w) : Named (cx Z h ι w) := by
  intro k hk
  have hk' : (h k).isSome = true := hk
  obtain ⟨e, he⟩ := Option.isSome_iff_exists.1 hk'
  have := m.ent k e he
  cases e with
  | box t cs => obtain ⟨b, vs, h1, _⟩ := this; exact .inl ⟨b, h1⟩
  | row e sz xs =>
    obtain ⟨vs, h1, _⟩ := this
    rcases h1 with ⟨a, h1, _⟩ | ⟨g, cap, cur, h1, _⟩
    · exact .inr ⟨_, _, _, h1⟩
    · exact .inr ⟨_, _, _, h1⟩
  | ghost cs vs => exact .inr ⟨_, _, _, this.1⟩
  | rowA e sz n cs =>
    obtain ⟨vs, h1, _⟩ := this
    rcases h1 with ⟨a, h1, _⟩ | ⟨g, cap, cur, h1, _⟩
    · exact .inr ⟨_, _, _, h1⟩
    · exact .inr ⟨_, _, _, h1⟩
theorem RA_one {C : Cx} (hn : Named C) {x : AV} {v : Value} (hx : x.one = true) (h : RA C x v) : v.oneCell' = true ∧ v.cells = #[v] := by
  cases x with
  | d x => simp only [RA] at h; exact RD_one h
  | ptr k o => simp only [RA] at h; obtain ⟨_, b, _, rfl⟩ := h; simp [Value.oneCell', Value.cells]
  | view k o n => simp only [RA] at h; obtain ⟨_, b, cap, _, rfl, _⟩ := h; simp [Value.oneCell', Value.cells]
  | row k =>
    simp only [RA] at h
    obtain ⟨hk, rfl⟩ := h
    rcases hn k hk with ⟨b, e⟩ | ⟨a, n, c, e⟩ <;> rw [e] <;> simp [Value.oneCell', Value.cells]
  | fn => simp only [RA] at h; obtain ⟨b, o, rfl, _⟩ := h; simp [Value.oneCell', Value.cells]
  | agg => simp [AV.one] at hx
  | tup => simp [AV.one] at hx
  | any => simp [AV.one] at hx
def cellsOk : AV → Bool
  | .agg _ => true
  | x => x.one
theorem RA_cells {C : Cx} (hn : Named C) {x : AV} {v : Value} (hx : cellsOk x = true) (h : RA C x v) : RAs C (cellsOf x) v.cells.toList := by
  cases x with
  | agg cs => simp only [RA] at h; obtain ⟨vs, rfl, h⟩ := h; simpa [cellsOf, Value.cells] using h
  | d y => rw [(RA_one hn (x := .d y) rfl h).2]; simp only [cellsOf, RAs]; exact ⟨v, [], rfl, h, rfl⟩
  | ptr k o => rw [(RA_one hn (x := .ptr k o) rfl h).2]; simp only [cellsOf, RAs]; exact ⟨v, [], rfl, h, rfl⟩
  | view k o n => rw [(RA_one hn (x := .view k o n) rfl h).2]; simp only [cellsOf, RAs]; exact ⟨v, [], rfl, h, rfl⟩
  | row k => rw [(RA_one hn (x := .row k) rfl h).2]; simp only [cellsOf, RAs]; exact ⟨v, [], rfl, h, rfl⟩
  | fn a b c => rw [(RA_one hn (x := .fn a b c) rfl h).2]; simp only [cellsOf, RAs]; exact ⟨v, [], rfl, h, rfl⟩
  | tup => simp [cellsOk, AV.one] at hx
  | any => simp [cellsOk, AV.one] at hx

/-- A value of so many cells out of a list of cells. -/
def ofCells (agg : Bool) (n : Nat) (cs : List AV) : Option AV :=
  bif agg then (bif Nat.ble n cs.length then some (.agg (cs.take n)) else none) else match cs with | x :: _ => some x | [] => none

theorem ofCells_agg {n : Nat} {cs : List AV} {x : AV} (h : ofCells true n cs = some x) : n ≤ cs.length ∧ x = .agg (cs.take n) := by
  simp only [ofCells, cond_true] at h
  cases hb : Nat.ble n cs.length with
  | false => rw [hb] at h; cases h
  | true => rw [hb] at h; cases h; exact ⟨Nat.le_of_ble_eq_true hb, rfl⟩

section
variable {P : Program} {T : Nat → Option TI} (hT : TOk P T) {Z : Nat → Prop} {h : Heap} {ι : Nat → Value} {w : World}

include hT in
theorem run_part_of {t : TypeId} {ti : TI} (ht : T t = some ti) {C : Cx} {cs : List AV} {vs : Array Value} (hv : RAs C cs vs.toList) (off : Nat) {x : AV} (hx : ofCells ti.k.isAgg ti.size (cs.drop off) = some x) (w : World) :
    ∃ v, (part t vs off).run P w = .ok v w ∧ RA C x v := by
  unfold part
  have ha := run_agg hT ht w
  have hs := run_size hT ht w
  cases hk : ti.k.isAgg with
  | true =>
    rw [hk] at ha
    rw [hk] at hx
    obtain ⟨_, rfl⟩ := ofCells_agg hx
    refine ⟨.agg (vs.extract off (off + ti.size)), by simp [ha, hs], ?_⟩
    simp only [RA]
    refine ⟨_, rfl, ?_⟩
    have := RAs_take ti.size (RAs_drop off hv)
    simpa [List.extract_eq_take_drop] using this
  | false =>
    rw [hk] at ha
    simp only [ofCells, hk, cond_false] at hx
    split at hx
    · rename_i y r hd
      cases hx
      have hg : (cs.drop off)[0]? = some x := by rw [hd]; rfl
      rw [List.getElem?_drop, Nat.add_zero] at hg
      obtain ⟨v, h1, h2⟩ := RAs_get hv hg
      refine ⟨v, ?_, h2⟩
      have h1' : vs[off]? = some v := by simpa using h1
      simp [ha, h1']
    · cases hx

/-- A read at a place whose cells are known. -/
theorem run_loadVar_of (hT : TOk P T) {t : TypeId} {ti : TI} (ht : T t = some ti) {C : Cx} {cs : List AV} {vs : List Value} (hv : RAs C cs vs) (b off : Nat) (hc : ∀ j v, vs[j]? = some v → w.cell? ⟨b, off + j, none⟩ = some v)
    {x : AV} (hx : ofCells ti.k.isAgg ti.size cs = some x) : ∃ v, (loadVar t ⟨b, off, none⟩).run P w = .ok v w ∧ RA C x v := by
  unfold loadVar
  have ha := run_agg hT ht w
  have hs := run_size hT ht w
  have hl := RAs_length hv
  have hadd : ∀ j, (⟨b, off, none⟩ : Addr).add j = ⟨b, off + j, none⟩ := by
    intro j; unfold Addr.add; split
    · subst_vars; simp
    · rfl
  cases hk : ti.k.isAgg with
  | true =>
    rw [hk] at ha
    rw [hk] at hx
    obtain ⟨hle, rfl⟩ := ofCells_agg hx
    have hlc := run_loadCells_list (P := P) (w := w) ⟨b, off, none⟩ (vs.take ti.size) (by
      intro j v hj
      rw [hadd]
      rw [List.getElem?_take] at hj
      split at hj
      · exact hc j v hj
      · cases hj)
    rw [show (vs.take ti.size).length = ti.size by simp [hl]; omega] at hlc
    refine ⟨.agg (vs.take ti.size).toArray, by simp [ha, hs, hlc], ?_⟩
    simp only [RA]
    exact ⟨_, rfl, by simpa using RAs_take ti.size hv⟩
  | false =>
    rw [hk] at ha
    simp only [ofCells, hk, cond_false] at hx
    split at hx
    · rename_i y r
      cases hx
      obtain ⟨v, h1, h2⟩ := RAs_get hv (i := 0) (x := x) rfl
      have := hc 0 v h1
      refine ⟨v, by simp [ha, load, Sem.run]; simp at this; simp [this], h2⟩
    · cases hx
end
end Go.AL
/- AL, part 4: one function tells what a plain operation gives. -/
namespace Go.AL
set_option linter.unusedVariables false
set_option linter.unusedSimpArgs false

def intBin (op : BinOp) (k : IntKind) (a b : Int) : Option D :=
  match op with
  | .add => some (.lit (.int k (k.wrap (a + b))))
  | .sub => some (.lit (.int k (k.wrap (a - b))))
  | .mul => some (.lit (.int k (k.wrap (a * b))))
  | .quo => bif b == 0 then none else some (.lit (.int k (k.wrap (a.tdiv b))))
  | .rem => bif b == 0 then none else some (.lit (.int k (a.tmod b)))
  | .eql => some (.lit (.bool (a == b)))
  | .neq => some (.lit (.bool (a != b)))
  | .lss => some (.lit (.bool (decide (a < b))))
  | .leq => some (.lit (.bool (decide (a ≤ b))))
  | .gtr => some (.lit (.bool (decide (a > b))))
  | .geq => some (.lit (.bool (decide (a ≥ b))))
  | _ => none
def strBin (op : BinOp) (a b : ByteArray) : Option D :=
  match op with
  | .eql => some (.lit (.bool (a.toList == b.toList)))
  | .neq => some (.lit (.bool (!(a.toList == b.toList))))
  | .lss => some (.lit (.bool (Op.bytesLess a.toList b.toList)))
  | .leq => some (.lit (.bool (Op.bytesLess a.toList b.toList || a.toList == b.toList)))
  | .gtr => some (.lit (.bool (!(Op.bytesLess a.toList b.toList || a.toList == b.toList))))
  | .geq => some (.lit (.bool (!Op.bytesLess a.toList b.toList)))
  | _ => none
def boolBin (op : BinOp) (a b : Bool) : Option D :=
  match op with
  | .eql => some (.lit (.bool (a == b)))
  | .neq => some (.lit (.bool (!(a == b))))
  | _ => none

theorem wrap_ok (k : IntKind) (n : Int) : k.min ≤ k.wrap n ∧ k.wrap n ≤ k.max := by
  cases k <;> simp [IntKind.min, IntKind.max, IntKind.wrap, IntKind.signed, IntKind.bits] <;> (try split) <;> omega
theorem wrap_id (k : IntKind) (n : Int) (h0 : k.min ≤ n) (h1 : n ≤ k.max) : k.wrap n = n := by
  cases k <;> simp [IntKind.min, IntKind.max, IntKind.signed, IntKind.bits] at h0 h1 <;> simp [IntKind.wrap, IntKind.signed, IntKind.bits] <;> (try split) <;> omega
theorem tmod_le_self (m : Nat) (b : Int) : 0 ≤ (m : Int).tmod b ∧ (m : Int).tmod b ≤ m := by
  cases b with
  | ofNat n => exact ⟨Int.natCast_nonneg _, Int.ofNat_le.2 (Nat.mod_le m n)⟩
  | negSucc n => exact ⟨Int.natCast_nonneg _, Int.ofNat_le.2 (Nat.mod_le m (n + 1))⟩
theorem tmod_ok (k : IntKind) (a b : Int) (h0 : k.min ≤ a) (h1 : a ≤ k.max) : k.min ≤ a.tmod b ∧ a.tmod b ≤ k.max := by
  have h4 : k.min ≤ 0 := by cases k <;> simp [IntKind.min, IntKind.signed, IntKind.bits]
  have h5 : 0 ≤ k.max := by cases k <;> simp [IntKind.max, IntKind.signed, IntKind.bits]
  rcases Int.le_total 0 a with h | h
  · obtain ⟨m, rfl⟩ := Int.eq_ofNat_of_zero_le h
    have := tmod_le_self m b
    omega
  · obtain ⟨m, hm⟩ := Int.eq_ofNat_of_zero_le (show 0 ≤ -a by omega)
    have e : a.tmod b = -((m : Int).tmod b) := by rw [← hm, Int.neg_tmod]; omega
    have := tmod_le_self m b
    omega

def isConstB : Operand → Bool
  | .const _ => true
  | _ => false
def nilBin (op : BinOp) (r : Bool) : Option D :=
  match op with
  | .eql => some (.lit (.bool r))
  | .neq => some (.lit (.bool (!r)))
  | _ => none
def TK.isBool : TK → Bool
  | .bool => true
  | _ => false
def TK.isIface : TK → Bool
  | .iface => true
  | _ => false
theorem TK.of_isBool {x : TK} (h : x.isBool = true) : x = .bool := by cases x <;> simp [TK.isBool] at h; rfl
theorem TK.of_isIface {x : TK} (h : x.isIface = true) : x = .iface := by cases x <;> simp [TK.isIface] at h; rfl
def stepBin (T : Nat → Option TI) (op : BinOp) (t : TypeId) (c : Bool) (X Y : AV) : Option AV :=
  match X, Y with
  | .d (.lit (.int k a)), .d (.lit (.int k' b)) => if k = k' then (intBin op k a b).map .d else none
  | .d (.lit (.string a)), .d (.lit (.string b)) => (strBin op a b).map .d
  | .d (.lit (.bool a)), .d (.lit (.bool b)) => match T t with
    | some ti => bif ti.k.isBool then (boolBin op a b).map .d else none
    | none => none
  | .d (.iface _ _), .d (.lit .nilIface) => match T t with
    | some ti => bif ti.k.isIface then (nilBin op false).map .d else none
    | none => none
  | .d (.lit .nilIface), .d (.lit .nilIface) => match T t with
    | some ti => bif ti.k.isIface && c then (nilBin op true).map .d else none
    | none => none
  | _, _ => none
def stepLen (T : Nat → Option TI) (h : Heap) (t : TypeId) (X : AV) : Option AV :=
  match T t, X with
  | some ⟨.slice _, _, _, _⟩, .d (.sl _ _ xs) => some (.d (.lit (.int .i64 xs.length)))
  | some ⟨.slice _, _, _, _⟩, .d (.lit (.slice _ n _)) => some (.d (.lit (.int .i64 n)))
  | some ⟨.slice _, _, _, _⟩, .row k => match h k with
    | some (.row _ _ xs) => some (.d (.lit (.int .i64 xs.length)))
    | _ => none
  | some ⟨.str, _, _, _⟩, .d (.lit (.string b)) => some (.d (.lit (.int .i64 b.size)))
  | _, _ => none
def stepConv (T : Nat → Option TI) (src dst : TypeId) (X : AV) : Option AV :=
  match T src, T dst, X with
  | some _, some ⟨.int k, _, _, _⟩, .d (.lit (.int _ n)) => some (.d (.lit (.int k (k.wrap n))))
  | some _, some ⟨.str, _, _, _⟩, .d (.lit (.string b)) => some (.d (.lit (.string b)))
  | _, _, _ => none

def structOf (T : Nat → Option TI) (t f : Nat) : Option (TI × Nat) :=
  match T t with
  | some ⟨.struct fs, _, _, _⟩ => match fs[f]? with
    | some (ft, off) => match T ft with
      | some fti => some (fti, off)
      | none => none
    | none => none
  | _ => none

def litCells : List Value → Option (List AV)
  | [] => some []
  | v :: r => bif okLitB v then (litCells r).map (.d (.lit v) :: ·) else none
theorem litCells_ok {C : Cx} : ∀ {vs : List Value} {cs : List AV}, litCells vs = some cs → RAs C cs vs
  | [], cs, h => by simp [litCells] at h; subst h; simp [RAs]
  | v :: r, cs, h => by
    simp only [litCells] at h
    cases hv : okLitB v with
    | false => rw [hv] at h; simp at h
    | true =>
      rw [hv] at h
      simp at h
      obtain ⟨t, ht, rfl⟩ := h
      simp only [RAs]
      exact ⟨v, r, rfl, RA_lit_mk (okLit_of_B hv), litCells_ok ht⟩

def stepPure (T : Nat → Option TI) (h : Heap) (s : Slots) : Op → Option AV
  | .move x | .assign x => some (ev s x)
  | .pick c a b => match ev s c with
    | .d (.lit (.bool true)) => some (ev s a)
    | .d (.lit (.bool false)) => some (ev s b)
    | _ => none
  | .box t x => bif cellsOk (ev s x) then (allD (cellsOf (ev s x))).map fun ds => .d (.iptr ds) else none
  | .load t x => match T t with
    | some ti => match ev s x with
      | .d (.iptr cs) => ofCells ti.k.isAgg ti.size (cs.map .d)
      | .ptr k o => match h k with
        | some (.box _ cs) => ofCells ti.k.isAgg ti.size (cs.drop o)
        | _ => none
      | _ => none
    | none => none
  | .fieldAddr t x f => match structOf T t f with
    | some (fti, off) => bif Nat.beq fti.size 0 then none else match ev s x with
      | .d (.iptr cs) => some (.d (.iptr (cs.drop off)))
      | .ptr k o => some (.ptr k (o + off))
      | _ => none
    | none => none
  | .field t x f => match structOf T t f with
    | some (fti, off) => match ev s x with
      | .agg cs => ofCells fti.k.isAgg fti.size (cs.drop off)
      | _ => none
    | none => none
  | .binOp op t x y _ => stepBin T op t (isConstB y) (ev s x) (ev s y)
  | .unOp op _ x => match op, ev s x with
    | .not, .d (.lit (.bool b)) => some (.d (.lit (.bool (!b))))
    | .neg, .d (.lit (.int k n)) => some (.d (.lit (.int k (k.wrap (0 - n)))))
    | _, _ => none
  | .convert src dst x => stepConv T src dst (ev s x)
  | .makeInterface t x => match T t, ev s x with
    | some ⟨.iface, _, _, _⟩, _ => none
    | some _, .d y => some (.d (.iface t y))
    | _, _ => none
  | .makeFunc f first cap => match allD (first.toList.map (ev s)), allD (cap.toList.map (ev s)) with
    | some a, some b => some (.d (.fn f a b))
    | _, _ => some (.fn f (first.toList.map (ev s)) (cap.toList.map (ev s)))
  | .extract x i => match ev s x with
    | .tup vs => vs[i]?
    | _ => none
  | .nilCheck x => match ev s x with
    | .d (.iptr cs) => some (.d (.iptr cs))
    | .ptr k o => some (.ptr k o)
    | _ => none
  | .call ⟨.builtin .len, args, ts⟩ => match args[0]?, ts[0]? with
    | some x, some t => stepLen T h t (ev s x)
    | _, _ => none
  | _ => none

def OGives (P : Program) (Z : Nat → Prop) (h : Heap) (ι : Nat → Value) (r : Sem Next) (w : World) (x : AV) : Prop :=
  ∃ v w', r.run P w = .ok (.value v) w' ∧ Grew w w' ∧ RA (cx Z h ι w') x v

section
variable {P : Program} {T : Nat → Option TI} {Z : Nat → Prop} {h : Heap} {ι : Nat → Value} {w : World}
theorem OGives.of {r : Sem Value} {x : AV} (g : Gives P Z h ι r w x) : OGives P Z h ι (do pure (.value (← r))) w x := by
  obtain ⟨v, w', h1, h2, h3⟩ := g
  exact ⟨v, w', by simp [h1], h2, h3⟩

theorem eq_bool_ (d : Nat) {t : TypeId} (hu : P.underlying t = some .bool) (a b : Bool) (w : World) : (Op.equalIn (d + 1) t (.bool a) (.bool b)).run P w = .ok (a == b) w := by
  simp [Op.equalIn, run_underlying hu]
theorem eq_bool {t : TypeId} (hu : P.underlying t = some .bool) (a b : Bool) (w : World) : (Op.equal t (.bool a) (.bool b)).run P w = .ok (a == b) w := eq_bool_ 9999 hu a b w
theorem eq_held_ (d : Nat) {t : TypeId} {ms : Array (String × TypeId)} (hu : P.underlying t = some (.interface ms)) (u : TypeId) (v : Value) (w : World) : (Op.equalIn (d + 1) t (.iface u v) .nilIface).run P w = .ok false w := by
  simp [Op.equalIn, run_underlying hu]
theorem eq_held {t : TypeId} {ms : Array (String × TypeId)} (hu : P.underlying t = some (.interface ms)) (u : TypeId) (v : Value) (w : World) : (Op.equal t (.iface u v) .nilIface).run P w = .ok false w := eq_held_ 9999 hu u v w
theorem eq_nils_ (d : Nat) {t : TypeId} {ms : Array (String × TypeId)} (hu : P.underlying t = some (.interface ms)) (w : World) : (Op.equalIn (d + 1) t .nilIface .nilIface).run P w = .ok true w := by
  simp [Op.equalIn, run_underlying hu]
theorem eq_nils {t : TypeId} {ms : Array (String × TypeId)} (hu : P.underlying t = some (.interface ms)) (w : World) : (Op.equal t .nilIface .nilIface).run P w = .ok true w := eq_nils_ 9999 hu w
theorem g_binop (hT : TOk P T) {op : BinOp} {t : TypeId} {xo yo : Operand} {x y : Value} {X Y : AV} {R : AV} (hx : RA (cx Z h ι w) X x) (hy : RA (cx Z h ι w) Y y)
    (hr : stepBin T op t (isConstB yo) X Y = some R) : Gives P Z h ι (do eqGuard op t xo yo x y; binOp op t x y) w R := by
  unfold stepBin at hr
  split at hr
  · rename_i k a k' b
    obtain ⟨rfl, ox⟩ := RA_lit.1 hx
    obtain ⟨rfl, oy⟩ := RA_lit.1 hy
    split at hr
    · rename_i hk
      subst hk
      have hg : (eqGuard op t xo yo (.int k a) (.int k b)).run P w = .ok () w := by
        unfold eqGuard; split <;> simp
      cases op <;> simp only [intBin] at hr <;> (try (cases hb : b == 0 <;> simp only [hb, cond_true, cond_false] at hr)) <;> simp at hr <;> subst hr <;>
        refine Gives.of_run (v := _) (by simp only [Sem.run_bind, hg, Result.andThen_ok]; simp [binOp, Op.intArith, Op.intDiv, Op.intCmp]; try (first | rfl | (rw [if_neg (by simpa using hb)]))) ?_ <;>
        refine RA_lit_mk ?_ <;> first | trivial | exact wrap_ok _ _ | exact tmod_ok _ _ _ ox.1 ox.2
    · cases hr
  · rename_i a b
    obtain ⟨rfl, hx⟩ := RA_lit.1 hx
    obtain ⟨rfl, hy⟩ := RA_lit.1 hy
    have hg : (eqGuard op t xo yo (.string a) (.string b)).run P w = .ok () w := by
      unfold eqGuard; split <;> simp
    cases op <;> simp only [strBin] at hr <;> simp at hr <;> subst hr <;>
      refine Gives.of_run (v := _) (by simp only [Sem.run_bind, hg, Result.andThen_ok]; simp [binOp, Op.stringOp]) (RA_lit_mk trivial)
  · rename_i a b
    obtain ⟨rfl, hx⟩ := RA_lit.1 hx
    obtain ⟨rfl, hy⟩ := RA_lit.1 hy
    have hg : (eqGuard op t xo yo (.bool a) (.bool b)).run P w = .ok () w := by
      unfold eqGuard; split <;> simp
    split at hr
    · rename_i ti ht
      cases hi : ti.k.isBool with
      | false => rw [hi] at hr; cases hr
      | true =>
        rw [hi] at hr
        have hu := (hT t _ ht).2
        rw [TK.of_isBool hi] at hu
        simp only [TK.fits] at hu
        cases op <;> simp only [boolBin] at hr <;> simp at hr <;> subst hr <;>
          refine Gives.of_run (v := _) (by simp only [Sem.run_bind, hg, Result.andThen_ok]; simp [binOp, eq_bool hu]) (RA_lit_mk trivial)
    · cases hr
  · rename_i ti d
    simp only [RA, RD] at hx
    obtain ⟨u, rfl, hx⟩ := hx
    obtain ⟨rfl, hy⟩ := RA_lit.1 hy
    have hg : (eqGuard op t xo yo (.iface ti u) .nilIface).run P w = .ok () w := by
      unfold eqGuard; split <;> simp
    split at hr
    · rename_i tj ht
      cases hi : tj.k.isIface with
      | false => rw [hi] at hr; cases hr
      | true =>
        rw [hi] at hr
        have hu := (hT t _ ht).2
        rw [TK.of_isIface hi] at hu
        obtain ⟨ms, hu⟩ := hu
        cases op <;> simp only [nilBin] at hr <;> simp at hr <;> subst hr <;>
          refine Gives.of_run (v := _) (by simp only [Sem.run_bind, hg, Result.andThen_ok]; simp [binOp, eq_held hu]) (RA_lit_mk trivial)
    · cases hr
  · obtain ⟨rfl, hx⟩ := RA_lit.1 hx
    obtain ⟨rfl, hy⟩ := RA_lit.1 hy
    split at hr
    · rename_i tj ht
      cases hi : tj.k.isIface with
      | false => rw [hi] at hr; cases hr
      | true =>
        cases hc : isConstB yo with
        | false => rw [hi, hc] at hr; cases hr
        | true =>
          rw [hi, hc] at hr
          have hu := (hT t _ ht).2
          rw [TK.of_isIface hi] at hu
          obtain ⟨ms, hu⟩ := hu
          cases yo <;> simp [isConstB] at hc
          rename_i c
          have hg : (eqGuard op t xo (.const c) .nilIface .nilIface).run P w = .ok () w := by
            unfold eqGuard; split <;> simp
          cases op <;> simp only [nilBin] at hr <;> simp at hr <;> subst hr <;>
            refine Gives.of_run (v := _) (by simp only [Sem.run_bind, hg, Result.andThen_ok]; simp [binOp, eq_nils hu]) (RA_lit_mk trivial)
    · cases hr
  · cases hr
end
end Go.AL
/- AL, part 5: what 'stepPure' tells is what the machine does. -/
namespace Go.AL
set_option linter.unusedVariables false
set_option linter.unusedSimpArgs false

section
variable {P : Program} {T : Nat → Option TI} {Z : Nat → Prop} {h : Heap} {ι : Nat → Value} {w : World} {K : Nat → Prop} {J : World → Prop} {s : Slots} {a : Act}

theorem structOf_ok (hT : TOk P T) {t f : Nat} {fti : TI} {off : Nat} (hs : structOf T t f = some (fti, off)) :
    ∃ fields fd, P.underlying t = some (.struct fields) ∧ fields[f]? = some fd ∧ T fd.type = some fti ∧ fd.offset = off := by
  unfold structOf at hs
  split at hs
  · rename_i fs sz by_ z ht
    obtain ⟨fields, hu, hf⟩ := (hT t _ ht).2
    split at hs
    · rename_i ft o hfo
      split at hs
      · rename_i ti hti
        cases hs
        rw [← hf] at hfo
        simp at hfo
        obtain ⟨fd, h1, h2, h3⟩ := hfo
        exact ⟨fields, fd, hu, by simpa using h1, by rw [h2]; exact hti, h3⟩
      · cases hs
    · cases hs
  · cases hs

theorem blk_ptr {v : Value} {b : Nat} (h1 : v = .pointer (some ⟨b, 0, none⟩)) : blk v = some b := by rw [h1]; rfl

theorem RAs_evs {C : Cx} : ∀ {l : List Operand}, (∀ x ∈ l, RA C (ev s x) (a.eval x)) → RAs C (l.map (ev s)) (l.map a.eval)
  | [], _ => by simp [RAs]
  | x :: l, hl => by
    simp only [List.map_cons, RAs]
    exact ⟨_, _, rfl, hl x (by simp), RAs_evs fun y hy => hl y (by simp [hy])⟩

theorem RC_new {Z : Nat → Prop} {h : Heap} {ι : Nat → Value} {w : World} {ds : List D} {vs : List Value} (m : Mem Z K J h ι w) (e : TypeId) (hv : RDs w (cx Z h ι w).M ds vs) :
    ¬ (cx Z h ι (w.alloc (.cells vs.toArray e))).M w.heap.size ∧ RC (w.alloc (.cells vs.toArray e)) (cx Z h ι (w.alloc (.cells vs.toArray e))).M w.heap.size ds 0 := by
  have hM : (cx Z h ι (w.alloc (.cells vs.toArray e))).M = (cx Z h ι w).M := rfl
  refine ⟨fun hm => ?_, ?_⟩
  · rw [hM] at hm
    have := m.Mlt hm
    omega
  · refine RC_of_list (RDs_keeps (keepsC_grew (K := K) (J := J) (Z := Z) (h := h) (ι := ι) (Grew.alloc w _)).d _ _ hv) fun j v hj => ?_
    have : (w.alloc (.cells vs.toArray e)).heap[w.heap.size]? = some (.cells vs.toArray e (0, 0)) := heap_alloc_new w _
    simp only [World.cell?, this]
    simpa using hj

theorem stepPure_ok (hT : TOk P T) (m : Mem Z K J h ι w) (o : Oper) (hl : ∀ x ∈ o.op.operands.toList, RA (cx Z h ι w) (ev s x) (a.eval x)) {R : AV} (hr : stepPure T h s o.op = some R) :
    OGives P Z h ι (execOp a.eval o) w R := by
  obtain ⟨dst, op, ty, pos, af, gd⟩ := o
  simp only at hl hr
  cases op with
  | move x =>
    simp only [stepPure, Option.some.injEq] at hr
    subst hr
    exact ⟨a.eval x, w, by simp [execOp], Grew.refl w, hl x (by simp [Op.operands])⟩
  | assign x =>
    simp only [stepPure, Option.some.injEq] at hr
    subst hr
    exact ⟨a.eval x, w, by simp [execOp], Grew.refl w, hl x (by simp [Op.operands])⟩
  | pick c x y =>
    simp only [stepPure] at hr
    have hc := hl c (by simp [Op.operands])
    split at hr
    · rename_i he
      cases hr
      rw [he] at hc
      obtain ⟨e, _⟩ := RA_lit.1 hc
      exact ⟨a.eval x, w, by simp [execOp, e, asBool], Grew.refl w, hl x (by simp [Op.operands])⟩
    · rename_i he
      cases hr
      rw [he] at hc
      obtain ⟨e, _⟩ := RA_lit.1 hc
      exact ⟨a.eval y, w, by simp [execOp, e, asBool], Grew.refl w, hl y (by simp [Op.operands])⟩
    · cases hr
  | box t x =>
    simp only [stepPure] at hr
    cases hc : cellsOk (ev s x) with
    | false => rw [hc] at hr; cases hr
    | true =>
      rw [hc] at hr
      simp only [cond_true, Option.map_eq_some_iff] at hr
      obtain ⟨ds, hds, rfl⟩ := hr
      have hx := RA_cells m.named hc (hl x (by simp [Op.operands]))
      rw [allD_eq hds] at hx
      have hn := RC_new m t (RAs_map_d.1 hx)
      refine ⟨.pointer (some ⟨w.heap.size, 0, none⟩), w.alloc (.cells (a.eval x).cells t), by simp [execOp, Instr.box, newVar, newRow], Grew.alloc w _, ?_⟩
      simp only [RA, RD]
      exact ⟨_, _, rfl, by simpa using hn.1, ⟨_, _, _, heap_alloc_new w _⟩, by simpa using hn.2⟩
  | load t x =>
    simp only [stepPure] at hr
    have hx := hl x (by simp [Op.operands])
    split at hr
    · rename_i ti ht
      split at hr
      · rename_i cs he
        rw [he] at hx
        simp only [RA, RD] at hx
        obtain ⟨b, off, e, hm, hb, hc⟩ := hx
        obtain ⟨vs, h1, h2⟩ := RC_list hc
        obtain ⟨v, h3, h4⟩ := run_loadVar_of hT ht (C := cx Z h ι w) (RAs_map_d.2 h1) b off h2 hr
        exact ⟨v, w, by simp [execOp, Instr.loadAt, Instr.sureAddr, e, h3], Grew.refl w, h4⟩
      · rename_i k off he
        rw [he] at hx
        simp only [RA] at hx
        obtain ⟨hk, b, hb, e⟩ := hx
        split at hr
        · rename_i t' cs hkk
          obtain ⟨b', vs, e1, e2, e3⟩ := m.ent k _ hkk
          have : b' = b := by rw [blk_ptr e1] at hb; injection hb
          subst this
          have e2' : w.heap[b']? = some (.cells vs t' (0, 0)) := e2
          obtain ⟨v, h3, h4⟩ := run_loadVar_of (w := w) hT ht (C := cx Z h ι w) (RAs_drop off e3) b' off (fun j v hj => by
            simp only [World.cell?, e2']
            simpa [List.getElem?_drop] using hj) hr
          exact ⟨v, w, by simp [execOp, Instr.loadAt, Instr.sureAddr, e, h3], Grew.refl w, h4⟩
        · cases hr
      · cases hr
    · cases hr
  | fieldAddr t x f =>
    simp only [stepPure] at hr
    have hx := hl x (by simp [Op.operands])
    split at hr
    · rename_i fti off hs
      obtain ⟨fields, fd, hu, hf, hft, hoff⟩ := structOf_ok hT hs
      cases hz : Nat.beq fti.size 0 with
      | true => rw [hz] at hr; cases hr
      | false =>
        rw [hz] at hr
        simp only [cond_false] at hr
        have hz' : fti.size ≠ 0 := by intro e; rw [e] at hz; cases hz
        have hsz := run_size hT hft w
        have hpl : ∀ (b o : Nat), (fieldPlace ⟨b, o, none⟩ fd).run P w = .ok ⟨b, o + off, none⟩ w := by
          intro b o
          unfold fieldPlace
          simp [hsz, hz', hoff, Addr.add]
        split at hr
        · rename_i cs he
          cases hr
          rw [he] at hx
          simp only [RA, RD] at hx
          obtain ⟨b, o, e, hm, hb, hc⟩ := hx
          refine ⟨.pointer (some ⟨b, o + off, none⟩), w, by simp [execOp, Instr.fieldAt, run_underlying hu, hf, e, Instr.sureAddr, hpl], Grew.refl w, ?_⟩
          simp only [RA, RD]
          exact ⟨b, o + off, rfl, hm, hb, RC_drop off hc⟩
        · rename_i k o he
          cases hr
          rw [he] at hx
          simp only [RA] at hx
          obtain ⟨hk, b, hb, e⟩ := hx
          refine ⟨.pointer (some ⟨b, o + off, none⟩), w, by simp [execOp, Instr.fieldAt, run_underlying hu, hf, e, Instr.sureAddr, hpl], Grew.refl w, ?_⟩
          simp only [RA]
          exact ⟨hk, b, hb, rfl⟩
        · cases hr
    · cases hr
  | field t x f =>
    simp only [stepPure] at hr
    have hx := hl x (by simp [Op.operands])
    split at hr
    · rename_i fti off hs
      obtain ⟨fields, fd, hu, hf, hft, hoff⟩ := structOf_ok hT hs
      split at hr
      · rename_i cs he
        rw [he] at hx
        simp only [RA] at hx
        obtain ⟨vs, e, hv⟩ := hx
        obtain ⟨v, h1, h2⟩ := run_part_of hT hft hv off hr w
        exact ⟨v, w, by simp [execOp, Instr.field, run_underlying hu, hf, e, asAgg, hoff, h1], Grew.refl w, h2⟩
      · cases hr
    · cases hr
  | binOp op t x y yt =>
    simp only [stepPure] at hr
    exact OGives.of (g_binop hT (hl x (by simp [Op.operands])) (hl y (by simp [Op.operands])) hr)
  | unOp op t x =>
    simp only [stepPure] at hr
    have hx := hl x (by simp [Op.operands])
    split at hr
    · rename_i he
      cases hr
      rw [he] at hx
      obtain ⟨e, _⟩ := RA_lit.1 hx
      exact ⟨_, w, by simp [execOp, Op.unary, e], Grew.refl w, RA_lit_mk trivial⟩
    · rename_i k n he
      cases hr
      rw [he] at hx
      obtain ⟨e, _⟩ := RA_lit.1 hx
      exact ⟨.int k (k.wrap (0 - n)), w, by simp [execOp, Op.unary, e, Op.intArith], Grew.refl w, RA_lit_mk (wrap_ok _ _)⟩
    · cases hr
  | convert src dst x =>
    simp only [stepPure, stepConv] at hr
    have hx := hl x (by simp [Op.operands])
    split at hr
    · rename_i ti k sz bt z k' n ht ht' he
      cases hr
      rw [he] at hx
      obtain ⟨e, _⟩ := RA_lit.1 hx
      have hu := (hT _ _ ht').2
      simp only [TK.fits] at hu
      obtain ⟨d, hd⟩ : ∃ d, P.underlying src = some d := by
        have := (hT _ _ ht).2
        cases hk : ti.k <;> rw [hk] at this
        case struct fs => obtain ⟨f, hf, _⟩ := this; exact ⟨_, hf⟩
        case iface => obtain ⟨f, hf⟩ := this; exact ⟨_, hf⟩
        case other => obtain ⟨f, hf, _⟩ := this; exact ⟨_, hf⟩
        all_goals exact ⟨_, this⟩
      exact ⟨.int k (k.wrap n), w, by simp [execOp, convert, run_underlying hu, run_underlying hd, e, Conv.intToInt], Grew.refl w, RA_lit_mk (wrap_ok _ _)⟩
    · rename_i ti sz bt z b ht ht' he
      cases hr
      rw [he] at hx
      obtain ⟨e, hb⟩ := RA_lit.1 hx
      have hu := (hT _ _ ht').2
      simp only [TK.fits] at hu
      obtain ⟨d, hd⟩ : ∃ d, P.underlying src = some d := by
        have := (hT _ _ ht).2
        cases hk : ti.k <;> rw [hk] at this
        case struct fs => obtain ⟨f, hf, _⟩ := this; exact ⟨_, hf⟩
        case iface => obtain ⟨f, hf⟩ := this; exact ⟨_, hf⟩
        case other => obtain ⟨f, hf, _⟩ := this; exact ⟨_, hf⟩
        all_goals exact ⟨_, this⟩
      exact ⟨.string b, w, by simp [execOp, convert, run_underlying hu, run_underlying hd, e], Grew.refl w, RA_lit_mk hb⟩
    · cases hr
  | makeInterface t x =>
    simp only [stepPure] at hr
    have hx := hl x (by simp [Op.operands])
    split at hr
    · cases hr
    · rename_i ti d hne ht he
      cases hr
      rw [he] at hx
      simp only [RA] at hx
      have hrun : (Instr.makeInterface t (a.eval x)).run P w = .ok (.iface t (a.eval x)) w := by
        have := (hT _ _ ht).2
        unfold Instr.makeInterface
        cases hk : ti.k <;> rw [hk] at this
        case struct fs => obtain ⟨f, hf, _⟩ := this; simp [run_underlying hf]
        case iface => obtain ⟨k, sz, bt, z⟩ := ti; simp only at hk; subst hk; exact (hne _ _ _ rfl).elim
        case other => obtain ⟨f, hf, hg⟩ := this; cases f <;> simp at hg <;> simp [run_underlying hf]
        all_goals (simp only [TK.fits] at this; simp [run_underlying this])
      exact ⟨.iface t (a.eval x), w, by simp [execOp, hrun], Grew.refl w, by simp only [RA, RD]; exact ⟨_, rfl, hx⟩⟩
    · cases hr
  | makeFunc f first cap =>
    simp only [stepPure] at hr
    have h1 := RAs_evs (C := cx Z h ι w) (s := s) (a := a) (l := first.toList) fun x hx => hl x (by simp [Op.operands]; exact .inl (by simpa using hx))
    have h2 := RAs_evs (C := cx Z h ι w) (s := s) (a := a) (l := cap.toList) fun x hx => hl x (by simp [Op.operands]; exact .inr (by simpa using hx))
    refine ⟨.func f (first.map a.eval) (cap.map a.eval), w, by simp [execOp, Instr.makeFunc], Grew.refl w, ?_⟩
    split at hr
    · rename_i d1 d2 e1 e2
      cases hr
      rw [allD_eq e1] at h1
      rw [allD_eq e2] at h2
      simp only [RA, RD]
      exact ⟨_, _, rfl, by simpa using RAs_map_d.1 h1, by simpa using RAs_map_d.1 h2⟩
    · cases hr
      simp only [RA]
      exact ⟨_, _, rfl, by simpa using h1, by simpa using h2⟩
  | extract x i =>
    simp only [stepPure] at hr
    have hx := hl x (by simp [Op.operands])
    split at hr
    · rename_i vs he
      rw [he] at hx
      simp only [RA] at hx
      obtain ⟨us, e, hv⟩ := hx
      obtain ⟨v, h1, h2⟩ := RAs_get hv hr
      exact ⟨v, w, by simp at h1; simp [execOp, Instr.extract, e, h1], Grew.refl w, h2⟩
    · cases hr
  | nilCheck x =>
    simp only [stepPure] at hr
    have hx := hl x (by simp [Op.operands])
    split at hr
    · rename_i cs he
      cases hr
      rw [he] at hx
      have hx' := hx
      simp only [RA, RD] at hx'
      obtain ⟨b, o, e, _⟩ := hx'
      exact ⟨a.eval x, w, by simp [execOp, e], Grew.refl w, hx⟩
    · rename_i k o he
      cases hr
      rw [he] at hx
      have hx' := hx
      simp only [RA] at hx'
      obtain ⟨_, b, _, e⟩ := hx'
      exact ⟨a.eval x, w, by simp [execOp, e], Grew.refl w, hx⟩
    · cases hr
  | call c =>
    obtain ⟨callee, args, ts⟩ := c
    cases callee with
    | builtin b =>
      cases b with
      | len =>
        simp only [stepPure] at hr
        split at hr
        · rename_i x t hx0 ht0
          have hmem : x ∈ args := by
            have := Array.getElem?_eq_some_iff.1 hx0
            obtain ⟨h1, h2⟩ := this
            rw [← h2]; exact Array.getElem_mem h1
          have hx := hl x (by simp [Op.operands, Call.operands]; exact hmem)
          have hax : (args.map a.eval)[0]? = some (a.eval x) := by simp [hx0]
          have done : ∀ v : Value, (Builtin.len_ ts ty (args.map a.eval)).run P w = .ok v w → ∀ R', RA (cx Z h ι w) R' v → OGives P Z h ι (execOp a.eval ⟨dst, .call ⟨.builtin .len, args, ts⟩, ty, pos, af, gd⟩) w R' := by
            intro v hv R' hR
            exact ⟨v, w, by simp [execOp, resolve, invoke, builtin, hv], Grew.refl w, hR⟩
          unfold stepLen at hr
          split at hr
          · rename_i e sz bt z s1 s2 xs htt he
            cases hr
            rw [he] at hx
            have hu := (hT _ _ htt).2
            simp only [TK.fits] at hu
            simp only [RA, RD] at hx
            obtain ⟨ad, cap, ex, h1, h2, h3, _⟩ := hx
            refine done (.int .i64 xs.length) (by simp [Builtin.len_, ht0, hax, run_underlying hu, ex, goInt]) _ (RA_lit_mk ?_)
            simp only [okLit]
            constructor <;> simp [IntKind.min, IntKind.max, IntKind.signed, IntKind.bits] <;> omega
          · rename_i e sz bt z aa n cc htt he
            cases hr
            rw [he] at hx
            have hu := (hT _ _ htt).2
            simp only [TK.fits] at hu
            obtain ⟨ex, ho⟩ := RA_lit.1 hx
            simp only [okLit] at ho
            refine done (.int .i64 n) (by simp [Builtin.len_, ht0, hax, run_underlying hu, ex, goInt]) _ (RA_lit_mk ?_)
            simp only [okLit]
            constructor <;> simp [IntKind.min, IntKind.max, IntKind.signed, IntKind.bits] <;> omega
          · rename_i e sz bt z k htt he
            split at hr
            · rename_i e' sz' xs hk
              cases hr
              rw [he] at hx
              have hu := (hT _ _ htt).2
              simp only [TK.fits] at hu
              simp only [RA] at hx
              obtain ⟨hd, ex⟩ := hx
              obtain ⟨vs, h1, h2, h3, h4⟩ := m.ent k _ hk
              have hsl : ∃ ad cap, ι k = .slice ad xs.length cap := by
                rcases h1 with ⟨ad, e1, e2, _⟩ | ⟨g, cap, cur, e1, _⟩
                · exact ⟨ad, 0, by rw [e1, e2]⟩
                · exact ⟨_, _, e1⟩
              obtain ⟨ad, cap, e1⟩ := hsl
              have ex' : a.eval x = .slice ad xs.length cap := ex.trans e1
              refine done (.int .i64 xs.length) (by simp [Builtin.len_, ht0, hax, run_underlying hu, ex', goInt]) _ (RA_lit_mk ?_)
              simp only [okLit]
              constructor <;> simp [IntKind.min, IntKind.max, IntKind.signed, IntKind.bits] <;> omega
            · cases hr
          · rename_i sz bt z b htt he
            cases hr
            rw [he] at hx
            have hu := (hT _ _ htt).2
            simp only [TK.fits] at hu
            obtain ⟨ex, ho⟩ := RA_lit.1 hx
            simp only [okLit] at ho
            refine done (.int .i64 b.size) (by simp [Builtin.len_, ht0, hax, run_underlying hu, ex, goInt]) _ (RA_lit_mk ?_)
            simp only [okLit]
            constructor <;> simp [IntKind.min, IntKind.max, IntKind.signed, IntKind.bits] <;> omega
          · cases hr
        · cases hr
      | _ => simp [stepPure] at hr
    | _ => simp [stepPure] at hr
  | _ => simp [stepPure] at hr
end
end Go.AL
/- AL, part 6: code over abstract states. -/
namespace Go.AL
set_option linter.unusedVariables false
set_option linter.unusedSimpArgs false

/-- What is to be kept, in terms of what must be left alone (K), what may turn behind the frame's back (Y), and what data keeps clear of (Z). -/
abbrev Jt := (Nat → Prop) → (Nat → Prop) → (Nat → Prop) → World → Prop
structure Mono (J : Jt) : Prop where
  closed : ∀ K Y Z, Closed K (J K Y Z)
  mono : ∀ K K2 Y Z Z2 w, J K Y Z w → (∀ b, K b → K2 b) → (∀ b, K2 b → K b ∨ isCells w b) → (∀ b, K b → Z b → Z2 b) → (∀ b, Z2 b → Z b ∨ w.heap.size ≤ b) → J K2 Y Z2 w
structure St where
  J : Jt
  s : Slots
  h : Heap

/-- What stands still in a walk: the program, the fence, the blocks to be left alone, the number of temporaries. -/
structure Env where
  P : Program
  T : Nat → Option TI
  F : Fence
  n : Nat
  Z : Nat → Prop
  N : Nat
structure Env.Ok (E : Env) : Prop where
  T : TOk E.P E.T
  fn : ∀ f, E.F.fn f
  depth : E.F.depth = none
  mixed : E.P.follows .mixedOrders = true

/-- All three may grow while others are at work. -/
def RelS (E : Env) (st : St) (ι : Nat → Value) (a : Act) (w : World) : Prop :=
  ∃ Z K Y, ((∀ b, E.Z b → Z b) ∧ (∀ b, Y b → Z b) ∧ Mono st.J) ∧ Rel Z K E.N (st.J K Y Z) st.s st.h ι a w
def LE (E : Env) (st st' : St) : Prop := ∀ ι a w, RelS E st ι a w → ∃ ι', RelS E st' ι' a w
theorem LE.refl (E : Env) (st : St) : LE E st st := fun ι a w h => ⟨ι, h⟩
theorem LE.trans {E : Env} {a b c : St} (h : LE E a b) (k : LE E b c) : LE E a c := fun ι x w r => let ⟨ι', r'⟩ := h ι x w r; k ι' x w r'

def Post (E : Env) (Q : Exit → St → Prop) : Exit → Act → World → Prop := fun e a w => ∃ st ι, Q e st ∧ RelS E st ι a w
def CW (E : Env) (c : Code) (Q : Exit → St → Prop) (st : St) : Prop := ∀ ι a w, RelS E st ι a w → c.wpIn E.F E.n E.P (Post E Q) a w

section
variable {E : Env} {Q : Exit → St → Prop} {st : St} {c x y : Code}

theorem CW.le {st' : St} (hle : LE E st st') (h : CW E c Q st') : CW E c Q st := fun ι a w r => let ⟨ι', r'⟩ := hle ι a w r; h ι' a w r'
theorem CW.mono {Q' : Exit → St → Prop} (h : CW E c Q st) (hq : ∀ e st, Q e st → Q' e st) : CW E c Q' st :=
  fun ι a w r => wpIn_mono (h ι a w r) fun e a w ⟨st, ι, q, r⟩ => ⟨st, ι, hq _ _ q, r⟩
theorem CW_skip (h : Q .normal st) : CW E .skip Q st := fun ι a w r => wpIn_skip ⟨st, ι, h, r⟩
theorem CW_ret (h : Q .ret st) : CW E .ret Q st := fun ι a w r => wpIn_ret ⟨st, ι, h, r⟩
theorem CW_exit {id : Nat} (h : Q (.exit id) st) : CW E (.exit id) Q st := fun ι a w r => wpIn_exit ⟨st, ι, h, r⟩

@[reducible] def thenQ (K : St → Prop) (Q : Exit → St → Prop) : Exit → St → Prop
  | .normal, st => K st
  | e, st => Q e st
theorem CW_seq (h : CW E x (thenQ (CW E y Q) Q) st) : CW E (.seq x y) Q st := fun ι a w r => by
  refine wpIn_seq (wpIn_mono (h ι a w r) fun e a w ⟨st, ι, q, r⟩ => ?_)
  cases e <;> first | exact q ι a w r | exact ⟨st, ι, q, r⟩
@[reducible] def blockQ (id : Nat) (Q : Exit → St → Prop) : Exit → St → Prop
  | .exit id', st => if id' = id then Q .normal st else Q (.exit id') st
  | e, st => Q e st
theorem CW_block {id : Nat} (h : CW E x (blockQ id Q) st) : CW E (.block id x) Q st := fun ι a w r => by
  refine wpIn_block (wpIn_mono (h ι a w r) fun e a w ⟨st, ι, q, r⟩ => ?_)
  cases e with
  | exit id' =>
    by_cases hid : id' = id
    · simp only [blockQ, hid, if_true] at q; simp only [Exit.inBlock, hid, if_true]; exact ⟨st, ι, q, r⟩
    · simp only [blockQ, hid, if_false] at q; simp only [Exit.inBlock, hid, if_false]; exact ⟨st, ι, q, r⟩
  | _ => exact ⟨st, ι, q, r⟩
theorem cond_eval {o : Operand} {b : Bool} {ι : Nat → Value} {a : Act} {w : World} (ho : ev st.s o = .d (.lit (.bool b))) (r : RelS E st ι a w) : a.eval o = .bool b := by
  obtain ⟨Z, K, Y, hZ, r⟩ := r
  have := RA_ev (C := cx Z st.h ι w) (s := st.s) (a := a) o fun t _ => r.slot t
  rw [ho] at this
  exact (RA_lit.1 this).1
theorem CW_true {o : Operand} (ho : ev st.s o = .d (.lit (.bool true))) (h : CW E x Q st) : CW E (.cond o x y) Q st := fun ι a w r => wpIn_cond_true (cond_eval ho r) (h ι a w r)
theorem CW_false {o : Operand} (ho : ev st.s o = .d (.lit (.bool false))) (h : CW E y Q st) : CW E (.cond o x y) Q st := fun ι a w r => wpIn_cond_false (cond_eval ho r) (h ι a w r)
theorem CW_cond {o : Operand} (b : Bool) (ho : ev st.s o = .d (.lit (.bool b))) (ht : b = true → CW E x Q st) (hf : b = false → CW E y Q st) : CW E (.cond o x y) Q st := by
  cases b
  · exact CW_false ho (hf rfl)
  · exact CW_true ho (ht rfl)

theorem least_of {p : Nat → Prop} : ∀ m, p m → ∃ k, p k ∧ ∀ j, p j → k ≤ j := by
  intro m
  induction m using Nat.strongRecOn with
  | _ m ih =>
    intro hm
    by_cases hx : ∃ j, j < m ∧ p j
    · obtain ⟨j, hj, hp⟩ := hx; exact ih j hj hp
    · exact ⟨m, hm, fun j hj => Nat.le_of_not_lt fun hlt => hx ⟨j, hlt, hj⟩⟩

open Classical in
/-- A loop: states told by σ, each round coming to a smaller one. -/
theorem CW_loop {σ : Type} (I : σ → St) (μ : σ → Nat) (x0 : σ) (h0 : LE E st (I x0))
    (round : ∀ x, CW E c (thenQ (fun st' => ∃ y, LE E st' (I y) ∧ μ y < μ x) Q) (I x)) : CW E (.loop c) Q st := by
  refine CW.le h0 fun ι a w r => ?_
  let In : Act → World → Nat → Prop := fun a w m => ∃ x ι, RelS E (I x) ι a w ∧ μ x = m
  let me : Act → World → Nat := fun a w => if hx : ∃ k, In a w k ∧ ∀ j, In a w j → k ≤ j then Classical.choose hx else 0
  refine wpIn_loop (fun a w => ∃ m, In a w m) me ⟨μ x0, x0, ι, r, rfl⟩ fun a w hI => ?_
  obtain ⟨m0, hm0⟩ := hI
  have hI1 := least_of m0 hm0
  obtain ⟨x, ι, r, hm⟩ := (Classical.choose_spec hI1).1
  have hme : me a w = μ x := by show dite _ _ _ = _; rw [dif_pos hI1]; exact hm.symm
  refine wpIn_mono (round x ι a w r) fun e a' w' ⟨st', ι', q, r'⟩ => ?_
  cases e with
  | normal =>
    obtain ⟨y, hle, hlt⟩ := q
    obtain ⟨ι'', r''⟩ := hle _ _ _ r'
    have hI' : ∃ m, In a' w' m := ⟨μ y, y, ι'', r'', rfl⟩
    refine ⟨hI', ?_⟩
    rw [hme]
    have : me a' w' ≤ μ y := by
      obtain ⟨m1, hm1⟩ := hI'
      have hI2 := least_of m1 hm1
      show dite _ _ _ ≤ _
      rw [dif_pos hI2]
      exact (Classical.choose_spec hI2).2 _ ⟨y, ι'', r'', rfl⟩
    omega
  | _ => exact ⟨st', ι', q, r'⟩
end

/-! ### Operations one behind the other -/
def awant (ops : List Oper) (o : Oper) (s : Slots) : Option Bool :=
  match o.guard with
  | none => some true
  | some (j, b) => match ops[j]? with
    | some g => match g.dst with
      | some t => match s t with
        | .d (.lit (.bool c)) => match c, b with
          | true, true => some true
          | false, false => some true
          | true, false => some false
          | false, true => some false
        | .tup [] => some false
        | _ => none
      | none => some false
    | none => some false
def putS (N : Nat) (s : Slots) (dst : Option Tmp) (x : AV) : Option Slots :=
  match dst with
  | none => some s
  | some d => bif Nat.ble (d + 1) N then some (sset s d x) else none

/-- Wanted, as the machine asks. -/
theorem awant_ok {E : Env} {st : St} {ι : Nat → Value} {a : Act} {w : World} (r : RelS E st ι a w) {ops : List Oper} {o : Oper} {b : Bool} (h : awant ops o st.s = some b) :
    Region.wanted o (yielded ops.toArray a.tmps) = b := by
  obtain ⟨Z, K, Y, hZ, r⟩ := r
  unfold awant at h
  unfold Region.wanted
  cases hg : o.guard with
  | none => rw [hg] at h; simpa using h
  | some p =>
    obtain ⟨j, want⟩ := p
    rw [hg] at h
    simp only at h ⊢
    unfold yielded
    simp only [List.getElem?_toArray]
    cases hj : ops[j]? with
    | none => rw [hj] at h; simp at h; subst h; simp
    | some g =>
      rw [hj] at h
      simp only [Option.bind_some] at h ⊢
      cases hd : g.dst with
      | none => rw [hd] at h; simp at h; subst h; simp
      | some t =>
        rw [hd] at h
        simp only [Option.bind_some] at h ⊢
        have hs := r.slot t
        rw [Array.getD_eq_getD_getElem?] at hs
        split at h
        · rename_i c hc
          rw [hc] at hs
          obtain ⟨e, _⟩ := RA_lit.1 hs
          have e' : a.tmps[t]? = some (.bool c) := by
            cases ht : a.tmps[t]? with
            | none => rw [ht] at e; simp [undef] at e
            | some v => rw [ht] at e; simp at e; rw [e]
          simp only [e']
          cases c <;> cases want <;> simp at h <;> subst h <;> rfl
        · rename_i hc
          rw [hc] at hs
          simp only [RA, RAs] at hs
          obtain ⟨vs, e, h0⟩ := hs
          simp at h
          subst h
          cases ht : a.tmps[t]? with
          | none => simp
          | some v => rw [ht] at e; simp at e; rw [e]; simp
        · cases h

/-- From operation number i on. -/
def OW (E : Env) (ops : List Oper) (i : Nat) (Q : Exit → St → Prop) (st : St) : Prop :=
  ∀ ι a w, RelS E st ι a w → wpListIn E.F E.n E.P ops.toArray (Post E Q) (ops.drop i) a w

section
variable {E : Env} {ops : List Oper} {K : Exit → St → Prop} {st : St} {i : Nat}

theorem OW.le {st' : St} (hle : LE E st st') (h : OW E ops i K st') : OW E ops i K st := fun ι a w r => let ⟨ι', r'⟩ := hle ι a w r; h ι' a w r'
theorem OW_end (hi : Nat.ble ops.length i = true) (h : K .normal st) : OW E ops i K st := fun ι a w r => by
  rw [List.drop_eq_nil_of_le (Nat.le_of_ble_eq_true hi)]
  exact ⟨st, ι, h, r⟩
theorem CW_region {id : Nat} {Q : Exit → St → Prop} (h : OW E ops 0 Q st) : CW E (.region id ops.toArray false) Q st := fun ι a w r => by
  refine wpIn_region_lit ?_
  have := h ι a w r
  rwa [List.drop_zero] at this

/-- An operation that is not wanted. -/
theorem OW_skip {o : Oper} (ho : ops[i]? = some o) (hE : E.Ok) (hw : awant ops o st.s = some false) {s' : Slots} (hs : putS E.N st.s o.dst (.tup []) = some s') (h : OW E ops (i + 1) K { st with s := s' }) : OW E ops i K st := fun ι a w r => by
  have hd : ops.drop i = o :: ops.drop (i + 1) := by
    obtain ⟨hlt, rfl⟩ := List.getElem?_eq_some_iff.1 ho
    exact List.drop_eq_getElem_cons hlt
  rw [hd]
  simp only [wpListIn]
  rw [if_neg (by rw [awant_ok r hw]; simp)]
  refine ⟨fun f _ => hE.fn f, ?_⟩
  unfold putS at hs
  cases hdst : o.dst with
  | none =>
    rw [hdst] at hs
    cases hs
    exact h ι _ w (let ⟨Z, K, Y, hZ, r⟩ := r; ⟨Z, K, Y, hZ, Rel.put_none r (Grew.refl w) _⟩)
  | some d =>
    rw [hdst] at hs
    simp only at hs
    cases hb : Nat.ble (d + 1) E.N with
    | false => rw [hb] at hs; cases hs
    | true =>
      rw [hb] at hs
      cases hs
      exact h ι _ w (let ⟨Z, K, Y, hZ, r⟩ := r; ⟨Z, K, Y, hZ, Rel.put r (Grew.refl w) hb (by simp [RA, RAs, undef])⟩)

/-- An operation that gives a value and does no more than let memory grow. -/
theorem OW_gives {o : Oper} (ho : ops[i]? = some o) (hE : E.Ok) (hw : awant ops o st.s = some true) (hdf : ∀ c, o.op ≠ .defer c) {R : AV} (hg : ∀ Z K Y ι a w, Rel Z K E.N (st.J K Y Z) st.s st.h ι a w → OGives E.P Z st.h ι (execOp a.eval o) w R)
    {s' : Slots} (hs : putS E.N st.s o.dst R = some s') (h : OW E ops (i + 1) K { st with s := s' }) : OW E ops i K st := fun ι a w r => by
  have hd : ops.drop i = o :: ops.drop (i + 1) := by
    obtain ⟨hlt, rfl⟩ := List.getElem?_eq_some_iff.1 ho
    exact List.drop_eq_getElem_cons hlt
  rw [hd]
  simp only [wpListIn]
  rw [if_pos (awant_ok r hw)]
  refine ⟨fun f _ => hE.fn f, ?_⟩
  rw [Oper.semAt_plain E.F _ _ hdf]
  obtain ⟨Z, K, Y, hZ, r⟩ := r
  obtain ⟨v, w', hr, hgr, hv⟩ := hg Z K Y ι a w r
  rw [hr]
  show wpListIn _ _ _ _ _ _ _ _
  unfold putS at hs
  cases hdst : o.dst with
  | none =>
    rw [hdst] at hs
    cases hs
    exact h ι _ w' ⟨Z, K, Y, hZ, Rel.put_none r hgr _⟩
  | some d =>
    rw [hdst] at hs
    simp only at hs
    cases hb : Nat.ble (d + 1) E.N with
    | false => rw [hb] at hs; cases hs
    | true =>
      rw [hb] at hs
      cases hs
      exact h ι _ w' ⟨Z, K, Y, hZ, Rel.put r hgr hb hv⟩

theorem stepPure_notDefer {T : Nat → Option TI} {h : Heap} {s : Slots} {op : Op} {R : AV} (hp : stepPure T h s op = some R) : ∀ c, op ≠ .defer c := by
  intro c e; subst e; simp [stepPure] at hp

/-- Plain operations, m of them, at one stroke. -/
def runPure (E : Env) (ops : List Oper) (h : Heap) : Nat → Nat → Slots → Option Slots
  | 0, _, s => some s
  | m + 1, i, s => match ops[i]? with
    | some o => match awant ops o s with
      | some true => match stepPure E.T h s o.op with
        | some R => match putS E.N s o.dst R with
          | some s' => runPure E ops h m (i + 1) s'
          | none => none
        | none => none
      | some false => match putS E.N s o.dst (.tup []) with
        | some s' => runPure E ops h m (i + 1) s'
        | none => none
      | none => none
    | none => none
theorem OW_run (hE : E.Ok) (m : Nat) {s' : Slots} (hp : runPure E ops st.h m i st.s = some s') (h : OW E ops (i + m) K { st with s := s' }) : OW E ops i K st := by
  induction m generalizing i st with
  | zero => simp only [runPure, Option.some.injEq] at hp; subst hp; exact h
  | succ m ih =>
    simp only [runPure] at hp
    split at hp
    · rename_i o ho
      split at hp
      · rename_i hw
        split at hp
        · rename_i R hR
          split at hp
          · rename_i s1 hs1
            refine OW_gives ho hE hw (stepPure_notDefer hR) (fun Z K Y ι a w r => stepPure_ok (J := st.J K Y Z) (K := K) hE.T r.mem o (fun x _ => RA_ev x fun t _ => r.slot t) hR) hs1 (ih (st := { st with s := s1 }) hp ?_)
            rwa [show i + 1 + m = i + (m + 1) by omega]
          · cases hp
        · cases hp
      · rename_i hw
        split at hp
        · rename_i s1 hs1
          refine OW_skip ho hE hw hs1 (ih (st := { st with s := s1 }) hp ?_)
          rwa [show i + 1 + m = i + (m + 1) by omega]
        · cases hp
      · cases hp
    · cases hp
end
end Go.AL
/- AL, part 7: contracts of functions, and calls. -/
namespace Go.AL
set_option linter.unusedVariables false
set_option linter.unusedSimpArgs false

/-! No key in it. -/
mutual
def kf : AV → Bool
  | .d _ => true
  | .any => true
  | .agg cs => kfs cs
  | .tup cs => kfs cs
  | .fn _ a b => kfs a && kfs b
  | .ptr _ _ => false
  | .row _ => false
  | .view _ _ _ => false
def kfs : List AV → Bool
  | [] => true
  | x :: xs => kf x && kfs xs
end
mutual
theorem RA_kf {C C' : Cx} (h : Keeps C.w C'.w C.M C'.M) : ∀ (x : AV) (v : Value), kf x = true → RA C x v → RA C' x v
  | .d x, v => fun _ hx => by simp only [RA] at hx ⊢; exact RD_keeps h x v hx
  | .agg cs, v => fun hk hx => by
    simp only [RA] at hx ⊢
    obtain ⟨vs, e, h1⟩ := hx
    exact ⟨vs, e, RAs_kf h cs _ (by simpa [kf] using hk) h1⟩
  | .tup cs, v => fun hk hx => by
    simp only [RA] at hx ⊢
    obtain ⟨vs, e, h1⟩ := hx
    exact ⟨vs, e, RAs_kf h cs _ (by simpa [kf] using hk) h1⟩
  | .fn f first cap, v => fun hk hx => by
    simp only [RA] at hx ⊢
    obtain ⟨vf, vc, e, h1, h2⟩ := hx
    simp [kf] at hk
    exact ⟨vf, vc, e, RAs_kf h first _ hk.1 h1, RAs_kf h cap _ hk.2 h2⟩
  | .any, v => fun _ hx => by simp only [RA]
  | .ptr k o, v => fun hk _ => by simp [kf] at hk
  | .row k, v => fun hk _ => by simp [kf] at hk
  | .view k o n, v => fun hk _ => by simp [kf] at hk
theorem RAs_kf {C C' : Cx} (h : Keeps C.w C'.w C.M C'.M) : ∀ (xs : List AV) (vs : List Value), kfs xs = true → RAs C xs vs → RAs C' xs vs
  | [], vs => fun _ hx => by simpa only [RAs] using hx
  | x :: xs, vs => fun hk hx => by
    simp only [RAs] at hx ⊢
    obtain ⟨v, t, e, h1, h2⟩ := hx
    simp [kfs] at hk
    exact ⟨v, t, e, RA_kf h x v hk.1 h1, RAs_kf h xs t hk.2 h2⟩
end

def noι : Nat → Value := fun _ => .nilFunc
def Callable (P : Program) (f : Nat) : Prop := ∃ fn, P.funcs[f]? = some fn ∧ (fn.name == "runtime.NumGoroutine") = false ∧ fn.body.isNone = false

/-- What a callee hands over of its own: blocks from 'base' on. -/
structure Own (Z : Nat → Prop) (base : Nat) (h : Heap) (ι : Nat → Value) (w : World) : Prop where
  ent : ∀ k e, h k = some e → EntOk (cx Z h ι w) e (ι k)
  own : ∀ k b, dom h k → blk (ι k) = some b → ¬ Z b ∧ base ≤ b ∧ b < w.heap.size
  apart : ∀ k k' b, dom h k → dom h k' → blk (ι k) = some b → blk (ι k') = some b → k = k'

def Does (P : Program) (f : Nat) (args : List AV) (h' : Heap) (R : AV) : Prop :=
  Callable P f ∧ ∀ n Z w vs, (∀ b, Z b → b < w.heap.size) → RAs (cx Z noHeap noι w) args vs →
    CallsIn Fence.wide n P f vs.toArray w fun e w' => ∃ v ι, e = .returned v ∧ Grew w w' ∧ RA (cx Z h' ι w') R v ∧ Own Z w.heap.size h' ι w'

def isWide (F : Fence) : Prop := F = Fence.wide ∨ ∃ l, F = Fence.wide.inRound l
theorem isWide.fn {F : Fence} (h : isWide F) (f : Nat) : F.fn f := by
  rcases h with rfl | ⟨l, rfl⟩ <;> trivial
theorem isWide.depth {F : Fence} (h : isWide F) : F.depth = none := by
  rcases h with rfl | ⟨l, rfl⟩ <;> rfl
theorem isWide.calls {F : Fence} (h : isWide F) {n : Nat} {P : Program} {f : Nat} {args : Array Value} {w : World} {R : Ending → World → Prop} (hc : CallsIn Fence.wide n P f args w R) : CallsIn F n P f args w R := by
  rcases h with rfl | ⟨l, rfl⟩
  · exact hc
  · exact CallsIn.inRound l hc

/-- The function that a call comes to, and what it is handed. -/
def callArgs (s : Slots) (fo : Operand) (args : List Operand) : Option (Nat × List AV) :=
  match ev s fo with
  | .d (.fn (.func f) first cap) => some (f, first.map .d ++ args.map (ev s) ++ cap.map .d)
  | .fn (.func f) first cap => some (f, first ++ args.map (ev s) ++ cap)
  | _ => none

theorem exec_call {P : Program} {dst : Option Tmp} {fo : Operand} {args : Array Operand} {ts : Array TypeId} {ty : TypeId} {pos : String} {af : Array Edge} {gd : Option (Nat × Bool)} {a : Act} {w : World} {f : Nat} {vf vc : Array Value}
    (he : a.eval fo = .func (.func f) vf vc) (hc : Callable P f) :
    (execOp a.eval ⟨dst, .call ⟨.value fo, args, ts⟩, ty, pos, af, gd⟩).run P w = .ok (.enter f (vf ++ args.map a.eval ++ vc)) w := by
  obtain ⟨fn, h1, h2, h3⟩ := hc
  have hcf : ∀ as : Array Value, (callFunc f as).run P w = .ok (.enter f as) w := by
    intro as
    unfold callFunc
    rw [Sem.run_bind]
    simp only [program, Sem.run, Result.andThen_ok, h1, h2, h3, Bool.false_eq_true, if_false]
    rfl
  simp [execOp, resolve, Deferred.ofValue, he, invoke, hcf]

theorem call_args {s : Slots} {fo : Operand} {args : Array Operand} {f : Nat} {L : List AV} {C : Cx} {a : Act} (hL : callArgs s fo args.toList = some (f, L)) (hs : ∀ t, RA C (s t) (a.tmps.getD t undef)) :
    ∃ vf vc, a.eval fo = .func (.func f) vf vc ∧ RAs C L (vf ++ args.map a.eval ++ vc).toList := by
  have hfo := RA_ev (C := C) (s := s) (a := a) fo fun t _ => hs t
  have hargs : RAs C (args.toList.map (ev s)) (args.toList.map a.eval) := RAs_evs fun x _ => RA_ev x fun t _ => hs t
  unfold callArgs at hL
  split at hL
  · rename_i f' first cap he
    cases hL
    rw [he] at hfo
    simp only [RA, RD] at hfo
    obtain ⟨vf, vc, e, h1, h2⟩ := hfo
    refine ⟨vf, vc, e, ?_⟩
    simpa using RAs_append (RAs_map_d.2 h1) (RAs_append hargs (RAs_map_d.2 h2))
  · rename_i f' first cap he
    cases hL
    rw [he] at hfo
    simp only [RA] at hfo
    obtain ⟨vf, vc, e, h1, h2⟩ := hfo
    refine ⟨vf, vc, e, ?_⟩
    simpa using RAs_append h1 (RAs_append hargs h2)
  · cases hL

structure Env.Good (E : Env) : Prop where
  ok : E.Ok
  wide : isWide E.F

theorem M_of (Z : Nat → Prop) (h : Heap) (ι : Nat → Value) (w : World) : (cx (cx Z h ι w).M noHeap noι w).M = (cx Z h ι w).M := by
  funext b
  refine propext ⟨fun hb => ?_, fun hb => .inl hb⟩
  rcases hb with hb | ⟨k, hk, _⟩
  · exact hb
  · simp [dom, noHeap] at hk

section
variable {E : Env} {ops : List Oper} {Q : Exit → St → Prop} {st : St} {i : Nat}

/-- A call whose result needs no memory of its own to be told. -/
theorem OW_call (hE : E.Good) {f : Nat} {L : List AV} {R : AV} (hc : Does E.P f L noHeap R) {o : Oper} {fo : Operand} {args : Array Operand} {ts : Array TypeId} (ho : ops[i]? = some o) (hop : o.op = .call ⟨.value fo, args, ts⟩) (hw : awant ops o st.s = some true)
    (hL : callArgs st.s fo args.toList = some (f, L)) (hk : kfs L = true) (hR : kf R = true) {s' : Slots} (hs : putS E.N st.s o.dst R = some s') (h : OW E ops (i + 1) Q { st with s := s' }) : OW E ops i Q st := fun ι a w r => by
  have hd : ops.drop i = o :: ops.drop (i + 1) := by
    obtain ⟨hlt, rfl⟩ := List.getElem?_eq_some_iff.1 ho
    exact List.drop_eq_getElem_cons hlt
  rw [hd]
  simp only [wpListIn]
  rw [if_pos (awant_ok r hw)]
  refine ⟨fun f _ => hE.wide.fn f, ?_⟩
  rw [Oper.semAt_plain E.F _ _ (by rw [hop]; intro c hc; cases hc)]
  obtain ⟨Z, K, Y, hZE, r⟩ := r
  obtain ⟨vf, vc, he, hv⟩ := call_args hL r.slot
  obtain ⟨dst, op, ty, pos, af, gd⟩ := o
  simp only at hop
  subst hop
  rw [exec_call he hc.1]
  simp only [Oper.uponIn]
  refine ⟨fun hx => (by rw [hE.wide.depth] at hx; cases hx), ?_⟩
  have hZ : ∀ b, (cx Z st.h ι w).M b → b < w.heap.size := fun b hb => r.mem.Mlt hb
  have hv' : RAs (cx (cx Z st.h ι w).M noHeap noι w) L (vf ++ args.map a.eval ++ vc).toList :=
    RAs_kf (C := cx Z st.h ι w) (C' := cx (cx Z st.h ι w).M noHeap noι w) ⟨fun _ _ _ _ hh => hh, fun _ _ hh => hh, fun b _ hm hm' => by rw [M_of] at hm'; exact hm hm'⟩ _ _ hk hv
  have := hc.2 (E.n - 1) (cx Z st.h ι w).M w _ hZ hv'
  simp only [Array.toArray_toList] at this
  refine (hE.wide.calls this).mono fun e w' ⟨v, ι', he', hg, hRv, _⟩ => ?_
  subst he'
  show wpListIn _ _ _ _ _ _ _ _
  have hRv' : RA (cx Z st.h ι w') R v := RA_kf (C := cx (cx Z st.h ι w).M noHeap ι' w') (C' := cx Z st.h ι w') ⟨fun _ _ _ _ hh => hh, fun _ _ hh => hh, fun b _ hm hm' => hm (.inl hm')⟩ _ _ hR hRv
  unfold putS at hs
  cases hdst : dst with
  | none =>
    simp only [hdst] at hs
    cases hs
    exact h ι _ w' ⟨Z, K, Y, hZE, Rel.put_none r hg _⟩
  | some d =>
    simp only [hdst] at hs
    cases hb : Nat.ble (d + 1) E.N with
    | false => rw [hb] at hs; cases hs
    | true =>
      rw [hb] at hs
      cases hs
      exact h ι _ w' ⟨Z, K, Y, hZE, Rel.put r hg hb hRv'⟩
end

/-! ### A function out of its body -/
def aresult (T : Nat → Option TI) (h : Heap) (s : Slots) : ResultVar → Option AV
  | .tmp t => some (s t)
  | .cell t ty => match T ty with
    | some ti => match s t with
      | .d (.iptr cs) => ofCells ti.k.isAgg ti.size (cs.map .d)
      | .ptr k o => match h k with
        | some (.box _ cs) => ofCells ti.k.isAgg ti.size (cs.drop o)
        | _ => none
      | _ => none
    | none => none
def aresults (T : Nat → Option TI) (h : Heap) (s : Slots) : List ResultVar → Option (List AV)
  | [] => some []
  | x :: r => match aresult T h s x, aresults T h s r with
    | some v, some vs => some (v :: vs)
    | _, _ => none
def packR : List AV → AV
  | [x] => x
  | xs => .tup xs

def rdResult (tmps : Array Value) : ResultVar → Sem Value
  | .tmp t => pure (tmps.getD t undef)
  | .cell a t => do loadVar t (← asAddr (tmps.getD a undef))
theorem results_eq (fn : Func) (tmps : Array Value) : results fn tmps = (do let vs ← fn.results.mapM (rdResult tmps); pure (if h : vs.size = 1 then vs[0] else .tuple vs)) := by
  unfold results
  congr 1
theorem aresult_ok {P : Program} {T : Nat → Option TI} (hT : TOk P T) {Z K : Nat → Prop} {J : World → Prop} {N : Nat} {s : Slots} {h : Heap} {ι : Nat → Value} {a : Act} {w : World} (r : Rel Z K N J s h ι a w) {x : ResultVar} {R : AV} (hx : aresult T h s x = some R) :
    ∃ v, (rdResult a.tmps x).run P w = .ok v w ∧ RA (cx Z h ι w) R v := by
  cases x with
  | tmp t =>
    simp only [aresult, Option.some.injEq] at hx
    subst hx
    exact ⟨a.tmps.getD t undef, by simp [rdResult], r.slot t⟩
  | cell t ty =>
    simp only [aresult] at hx
    have hs := r.slot t
    split at hx
    · rename_i ti ht
      split at hx
      · rename_i cs he
        rw [he] at hs
        simp only [RA, RD] at hs
        obtain ⟨b, off, e, hm, hb, hc⟩ := hs
        obtain ⟨vs, h1, h2⟩ := RC_list hc
        obtain ⟨v, h3, h4⟩ := run_loadVar_of hT ht (C := cx Z h ι w) (RAs_map_d.2 h1) b off h2 hx
        exact ⟨v, by simp only [rdResult, e, asAddr]; simpa using h3, h4⟩
      · rename_i k off he
        rw [he] at hs
        simp only [RA] at hs
        obtain ⟨hk, b, hb, e⟩ := hs
        split at hx
        · rename_i t' cs hkk
          obtain ⟨b', vs, e1, e2, e3⟩ := r.mem.ent k _ hkk
          have : b' = b := by rw [blk_ptr e1] at hb; injection hb
          subst this
          have e2' : w.heap[b']? = some (.cells vs t' (0, 0)) := e2
          obtain ⟨v, h3, h4⟩ := run_loadVar_of (w := w) hT ht (C := cx Z h ι w) (RAs_drop off e3) b' off (fun j v hj => by
            simp only [World.cell?, e2']
            simpa [List.getElem?_drop] using hj) hx
          exact ⟨v, by simp only [rdResult, e, asAddr]; simpa using h3, h4⟩
        · cases hx
      · cases hx
    · cases hx

theorem aresults_ok {P : Program} {T : Nat → Option TI} (hT : TOk P T) {Z K : Nat → Prop} {J : World → Prop} {N : Nat} {s : Slots} {h : Heap} {ι : Nat → Value} {a : Act} {w : World} (r : Rel Z K N J s h ι a w) :
    ∀ (l : List ResultVar) (Rs : List AV), aresults T h s l = some Rs → ∃ vs : List Value, RAs (cx Z h ι w) Rs vs ∧
      (l.mapM (rdResult a.tmps)).run P w = .ok vs w
  | [], Rs, hx => by simp [aresults] at hx; subst hx; exact ⟨[], by simp [RAs], by simp⟩
  | x :: l, Rs, hx => by
    simp only [aresults] at hx
    split at hx
    · rename_i R Rs' h1 h2
      cases hx
      obtain ⟨v, g1, g2⟩ := aresult_ok hT r h1
      obtain ⟨vs, g3, g4⟩ := aresults_ok hT r l Rs' h2
      refine ⟨v :: vs, by simp only [RAs]; exact ⟨v, vs, rfl, g2, g3⟩, ?_⟩
      rw [List.mapM_cons, Sem.run_bind, g1]
      simp only [Result.andThen_ok, Sem.run_bind]
      rw [g4]
      simp
    · cases hx

theorem results_ok {P : Program} {T : Nat → Option TI} (hT : TOk P T) {Z K : Nat → Prop} {J : World → Prop} {N : Nat} {s : Slots} {h : Heap} {ι : Nat → Value} {a : Act} {w : World} (r : Rel Z K N J s h ι a w) {fn : Func} {Rs : List AV}
    (hx : aresults T h s fn.results.toList = some Rs) : ∃ v, (results fn a.tmps).run P w = .ok v w ∧ RA (cx Z h ι w) (packR Rs) v := by
  obtain ⟨vs, h1, h2⟩ := aresults_ok hT r _ _ hx
  have hm : (fn.results.mapM (rdResult a.tmps)).run P w = .ok vs.toArray w := by
    rw [Array.mapM_eq_mapM_toList, map_eq_pure_bind, Sem.run_bind, h2]
    simp
  refine ⟨if h : vs.toArray.size = 1 then vs.toArray[0] else .tuple vs.toArray, ?_, ?_⟩
  · rw [results_eq, Sem.run_bind, hm]
    simp
  · have hl := RAs_length h1
    match Rs, vs, h1, hl with
    | [], [], h1, _ => simp [packR, RA, RAs]
    | [x], [v], h1, _ =>
      simp only [RAs] at h1
      obtain ⟨v', t, e, h2, _⟩ := h1
      cases e
      simpa [packR] using h2
    | x :: y :: Rs, v :: u :: vs, h1, _ =>
      simp only [packR, RA]
      exact ⟨_, by simp, h1⟩

def argSlots : List AV → Nat → Slots
  | [], _ => fun _ => .any
  | x :: xs, i => sset (argSlots xs (i + 1)) i x

/-- What is told by x is told by y. -/
def AVle (x y : AV) : Prop := ∀ C v, RA C x v → RA C y v
def AVles (x y : List AV) : Prop := ∀ C v, RAs C x v → RAs C y v
theorem AVle.refl (x : AV) : AVle x x := fun _ _ h => h
theorem AVle.of {x y : AV} (h : x = y) : AVle x y := h ▸ AVle.refl x
theorem AVles.nil : AVles [] [] := fun _ _ h => h
theorem AVles.cons {x y : AV} {xs ys : List AV} (h : AVle x y) (hs : AVles xs ys) : AVles (x :: xs) (y :: ys) := fun C v hv => by
  simp only [RAs] at hv ⊢
  obtain ⟨a, t, e, h1, h2⟩ := hv
  exact ⟨a, t, e, h _ _ h1, hs _ _ h2⟩
theorem AVle.agg {x y : List AV} (h : AVles x y) : AVle (.agg x) (.agg y) := fun C v hv => by
  simp only [RA] at hv ⊢
  obtain ⟨vs, e, h1⟩ := hv
  exact ⟨vs, e, h _ _ h1⟩
theorem AVle.tup {x y : List AV} (h : AVles x y) : AVle (.tup x) (.tup y) := fun C v hv => by
  simp only [RA] at hv ⊢
  obtain ⟨vs, e, h1⟩ := hv
  exact ⟨vs, e, h _ _ h1⟩
theorem AVle.nilSl (sz bts : Nat) : AVle (.d (.lit (.slice none 0 0))) (.d (.sl sz bts [])) := fun C v hv => by
  obtain ⟨rfl, _⟩ := RA_lit.1 hv
  simp only [RA, RD]
  exact ⟨none, 0, rfl, by simp, by simp, by simp, by simp⟩

/-- What is owed where a function ends. -/
def Ret (T : Nat → Option TI) (fn : Func) (J : Jt) (h' : Heap) (R : AV) : Exit → St → Prop := fun e st =>
  (e = .normal ∨ e = .ret) ∧ st.J = J ∧ (∃ Rs, aresults T st.h st.s fn.results.toList = some Rs ∧ kf (packR Rs) = true ∧ AVle (packR Rs) R) ∧ h' = noHeap

theorem argSlots_ok {C : Cx} : ∀ (args : List AV) (vs : List Value) (k : Nat) (pre : List Value) (suf : List Value), RAs C args vs → pre.length = k → ∀ j, RA C (argSlots args k j) ((pre ++ vs ++ suf).toArray.getD j undef)
  | [], vs, k, pre, suf, _, _, j => by simp [argSlots, RA]
  | x :: args, vs, k, pre, suf, hv, hp, j => by
    simp only [RAs] at hv
    obtain ⟨v, t, rfl, h1, h2⟩ := hv
    simp only [argSlots]
    by_cases hj : j = k
    · subst hj
      rw [sset_same]
      simpa [← hp] using h1
    · rw [sset_ne _ _ hj]
      have := argSlots_ok args t (k + 1) (pre ++ [v]) suf h2 (by simp [hp]) j
      simpa using this

def notCells : Obj → Bool
  | .cells .. => false
  | _ => true
def setO (w : World) (x : Nat) (o : Obj) : World := { w with heap := w.heap.setIfInBounds x o }
theorem setO_ne (w : World) (x : Nat) (o : Obj) {b : Nat} (h : b ≠ x) : (setO w x o).heap[b]? = w.heap[b]? := by
  simp [setO, Array.getElem?_setIfInBounds, Ne.symm h]
theorem setO_size (w : World) (x : Nat) (o : Obj) : (setO w x o).heap.size = w.heap.size := by simp [setO]
theorem setO_step {K : Nat → Prop} (w : World) (x : Nat) (o : Obj) (h : ¬ K x) : Step K w (setO w x o) :=
  ⟨rfl, rfl, rfl, by simp [setO_size], (by first | exact Nat.le_refl _ | exact Nat.le_succ _ | simp), fun b hb => setO_ne w x o (fun e => h (e ▸ hb))⟩
theorem keepsC_obj {Z : Nat → Prop} {h : Heap} {ι : Nat → Value} {w : World} {x : Nat} {o o' : Obj} (hx : w.heap[x]? = some o) (ho : notCells o = true) : KeepsC (cx Z h ι w) (cx Z h ι (setO w x o')) := by
  refine ⟨⟨fun b off v _ hc => ?_, fun b _ hi => ?_, fun b _ hm => hm⟩, fun k hk => ⟨hk, rfl⟩⟩
  · have hne : b ≠ x := by
      intro e; subst e
      simp only [World.cell?, hx] at hc
      cases o <;> simp [notCells] at ho <;> simp at hc
    simp only [World.cell?, setO_ne w x o' hne]
    exact hc
  · refine hi.at (setO_ne w x o' fun e => ?_)
    subst e
    obtain ⟨c, t, f, hi⟩ := hi
    rw [hx] at hi
    cases hi
    simp [notCells] at ho
theorem EntOk.keeps {C C' : Cx} (hk : KeepsC C C') {e : Ent} {v : Value} (hb : ∀ b cs t f, blk v = some b → C.w.heap[b]? = some (.cells cs t f) → C'.w.heap[b]? = some (.cells cs t f)) (he : EntOk C e v) : EntOk C' e v := by
  cases e with
  | box t cs =>
    obtain ⟨b, vs, h1, h2, h3⟩ := he
    exact ⟨b, vs, h1, hb b _ _ _ (blk_ptr h1) h2, RAs_keeps hk _ _ h3⟩
  | row e sz xs =>
    obtain ⟨vs, h1, h2, h3⟩ := he
    refine ⟨vs, ?_, RDs_keeps hk.d _ _ h2, h3⟩
    rcases h1 with h1 | ⟨g, cap, cur, g1, g0, g2, g3⟩
    · exact .inl h1
    · exact .inr ⟨g, cap, cur, g1, g0, hb g _ _ _ (by rw [g1]; simp [blk]; omega) g2, g3⟩
  | ghost cs vs => exact ⟨he.1, RAs_keeps hk _ _ he.2⟩
  | rowA e sz n cs =>
    obtain ⟨vs, h1, h2, h3⟩ := he
    refine ⟨vs, ?_, RAs_keeps hk _ _ h2, h3⟩
    rcases h1 with h1 | ⟨g, cap, cur, g1, g0, g2, g3⟩
    · exact .inl h1
    · exact .inr ⟨g, cap, cur, g1, g0, hb g _ _ _ (by rw [g1]; simp [blk]; omega) g2, g3⟩
theorem Mem.setO {Z K : Nat → Prop} {J : World → Prop} {h : Heap} {ι : Nat → Value} {w : World} (m : Mem Z K J h ι w) {x : Nat} {o o' : Obj} (hx : w.heap[x]? = some o) (ho : notCells o = true) (hK : ¬ K x) : Mem Z K J h ι (setO w x o') := by
  refine ⟨fun k e hk => EntOk.keeps (keepsC_obj hx ho) (fun b cs t f _ hb => ?_) (m.ent k e hk), fun k b hk hb => by rw [setO_size]; exact m.own k b hk hb, m.apart, fun b hb => by rw [setO_size]; exact m.Zlt b hb, fun b hb => by rw [setO_size]; exact m.Klt b hb,
    m.Jc w _ m.Jw (setO_step w x o' hK), m.Jc⟩
  have hne : b ≠ x := by
    intro e; subst e
    have hb' : w.heap[b]? = some (.cells cs t f) := hb
    rw [hx] at hb'
    cases hb'
    simp [notCells] at ho
  show (Go.AL.setO w x o').heap[b]? = _
  rw [setO_ne w x o' hne]
  exact hb
theorem rel_setObj {Z K : Nat → Prop} {N : Nat} {J : World → Prop} {s : Slots} {h : Heap} {ι : Nat → Value} {tmps : Array Value} {w : World} (r : Rel Z K N J s h ι { tmps := tmps, defers := [] } w) {x : Nat} {o o' : Obj} (hx : w.heap[x]? = some o) (ho : notCells o = true) (hK : ¬ K x) :
    Rel Z K N J s h ι { tmps := tmps, defers := [] } (setO w x o') :=
  ⟨r.mem.setO hx ho hK, r.size, fun i => RA_keeps (keepsC_obj hx ho) _ _ (r.slot i), Marks.nil _ _ _⟩

theorem leaves_marks {P : Program} {n : Nat} {fn : Func} {R : Ending → World → Prop} {Z K : Nat → Prop} {N : Nat} {J : World → Prop} {s : Slots} {h : Heap} {ι : Nat → Value} {a : Act} {w : World} (r : Rel Z K N J s h ι a w)
    (hq : ∀ w1, Rel Z K N J s h ι { tmps := a.tmps, defers := [] } w1 → ∃ v, (results fn a.tmps).run P w1 = .ok v w1 ∧ R (.returned v) w1) : LeavesInM Fence.wide n P fn a.tmps R a.defers .returning w := by
  obtain ⟨rs, h1, h2, h3⟩ := r.ds
  rw [h1]
  have key : ∀ (rs : List Nat) (w1 : World), rs.Nodup → (∀ r ∈ rs, w1.heap[r]? = some (.deferred (some [])) ∧ ¬ K r ∧ ¬ Z r) → Rel Z K N J s h ι { tmps := a.tmps, defers := [] } w1 →
      LeavesInM Fence.wide n P fn a.tmps R (rs.map markOf) .returning w1 := by
    intro rs
    induction rs with
    | nil => intro w1 _ _ r1; exact hq w1 r1
    | cons x rs ih =>
      intro w1 hnd hall r1
      obtain ⟨hx1, hx2, hx3⟩ := hall x (by simp)
      have hlt := (Array.getElem?_eq_some_iff.1 hx1).1
      have htake : (Instr.takeDeferred x).run P w1 = .ok [] (setO w1 x (.deferred none)) := by
        simp [Instr.takeDeferred, getObj, setObj, Sem.run, hx1, setO]
      simp only [List.map_cons]
      refine ⟨by simp, .inl ⟨x, _, rfl, htake, ih _ (List.nodup_cons.1 hnd).2 ?_ (rel_setObj r1 hx1 rfl hx2)⟩⟩
      intro y hy
      obtain ⟨hy1, hy2⟩ := hall y (by simp [hy])
      have hne : y ≠ x := fun e => (List.nodup_cons.1 hnd).1 (by rw [← e]; exact hy)
      exact ⟨by rw [setO_ne _ _ _ hne]; exact hy1, hy2⟩
  exact key rs w h2 (fun x hx => h3 x hx) ⟨r.mem, r.size, r.slot, Marks.nil _ _ _⟩

/-- How a frame begins. -/
theorem rel_begin {Z K : Nat → Prop} {J : World → Prop} {N : Nat} {args : List AV} {w : World} {vs : List Value} (hZ : ∀ b, Z b → b < w.heap.size) (hK : ∀ b, K b → b < w.heap.size) (hJ : J w) (hJc : Closed K J) (hv : RAs (cx Z noHeap noι w) args vs) (hl : Nat.ble args.length N = true) :
    Rel Z K N J (argSlots args 0) noHeap noι { tmps := vs.toArray ++ Array.replicate (N - vs.toArray.size) undef, defers := [] } w := by
  have hlen := RAs_length hv
  refine ⟨⟨fun k e hk => by simp [noHeap] at hk, fun k b hk => by simp [dom, noHeap] at hk, fun k k' b hk => by simp [dom, noHeap] at hk, hZ, hK, hJ, hJc⟩, ?_, fun i => ?_, Marks.nil _ _ _⟩
  · have hle := Nat.le_of_ble_eq_true hl
    simp [hlen]
    omega
  · have := argSlots_ok args vs 0 [] (List.replicate (N - vs.length) undef) hv rfl i
    rw [List.nil_append] at this
    show RA (cx Z noHeap noι w) (argSlots args 0 i) ((vs.toArray ++ Array.replicate (N - vs.toArray.size) undef).getD i undef)
    rw [List.append_toArray, ← List.toArray_replicate]
    simpa using this

def grewJ (w : World) : Jt := fun K _ _ w' => Grew w w' ∧ ∀ b, b < w.heap.size → K b
theorem mono_grew (w : World) : Mono (grewJ w) :=
  ⟨fun K Y Z w1 w2 h1 h2 => ⟨⟨h2.os.trans h1.1.os, h2.tape.trans h1.1.tape, h2.output.trans h1.1.output, Nat.le_trans h1.1.size h2.size, Nat.le_trans h1.1.drawn h2.drawn, fun b hb => (h2.block b (h1.2 b hb)).trans (h1.1.block b hb)⟩, h1.2⟩,
   fun K K2 Y Z Z2 w1 h1 h2 _ _ _ => ⟨h1.1, fun b hb => h2 b (h1.2 b hb)⟩⟩

/-- **A function's contract out of its body.** -/
theorem Does_of {P : Program} {T : Nat → Option TI} (hT : TOk P T) (hm : P.follows .mixedOrders = true) {f : Nat} {fn : Func} {c : Code} {args : List AV} {R : AV} (hf : P.funcs[f]? = some fn) (hb : fn.body = some c) (hn : (fn.name == "runtime.NumGoroutine") = false)
    {N : Nat} (hN : fn.ntmps = N) (hl : Nat.ble args.length N = true)
    (h : ∀ F n Z, (⟨P, T, F, n, Z, N⟩ : Env).Good → F = Fence.wide → ∀ J, CW ⟨P, T, F, n, Z, N⟩ c (Ret T fn J noHeap R) ⟨J, argSlots args 0, noHeap⟩) : Does P f args noHeap R := by
  subst hN
  refine ⟨⟨fn, hf, hn, by rw [hb]; rfl⟩, fun n Z w vs hZ hv => ?_⟩
  let E : Env := ⟨P, T, Fence.wide, n, Z, fn.ntmps⟩
  have hE : E.Good := ⟨⟨hT, fun f => trivial, rfl, hm⟩, .inl rfl⟩
  refine callsIn_of_wp_marks hf hb trivial (wpIn_mono (h _ _ _ hE rfl (grewJ w) noι _ w ?_) ?_) rfl
  · exact ⟨Z, fun b => b < w.heap.size, fun _ => False, ⟨fun b hb => hb, fun _ hb => hb.elim, mono_grew w⟩, rel_begin hZ (fun b hb => hb) ⟨Grew.refl w, fun b hb => hb⟩ ((mono_grew w).closed (fun b => b < w.heap.size) (fun _ => False) Z) hv hl⟩
  · rintro e a' w' ⟨st, ι, ⟨he, hJ, ⟨Rs, hRs, hk, hRe⟩, _⟩, Z', K, Y, hZE, r⟩
    have goal : LeavesInM Fence.wide n P fn a'.tmps (fun e w' => ∃ v ι, e = .returned v ∧ Grew w w' ∧ RA (cx Z noHeap ι w') R v ∧ Own Z w.heap.size noHeap ι w') a'.defers .returning w' := by
      refine leaves_marks r fun w1 r1 => ?_
      have hg : Grew w w1 := by have := r1.mem.Jw; rw [hJ] at this; exact this.1
      obtain ⟨v, g1, g2⟩ := results_ok hT r1 hRs
      refine ⟨v, g1, v, noι, rfl, hg, hRe _ _ (RA_kf (C := cx Z' st.h ι w1) (C' := cx Z noHeap noι w1) ⟨fun _ _ _ _ hh => hh, fun _ _ hh => hh, fun b _ hm hm' => ?_⟩ _ _ hk g2), ⟨fun k e hk => by simp [noHeap] at hk, fun k b hk => by simp [dom, noHeap] at hk, fun k k' b hk => by simp [dom, noHeap] at hk⟩⟩
      rcases hm' with hm' | ⟨k, hk, _⟩
      · exact hm (.inl (hZE.1 b hm'))
      · simp [dom, noHeap] at hk
    rcases he with rfl | rfl
    · exact goal
    · exact goal
end Go.AL
