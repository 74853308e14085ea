/- AL, part 1: abstract values over memory, and how they live on while memory grows. Nothing here speaks of a given program. -/
import Derived.OwnWalkIn
import Derived.RangeFuncLeaves
import Derived.RangeFuncCalls
import Derived.Laws.AppendOwn
import Derived.Below
namespace Go.AL
set_option linter.unusedVariables false
set_option linter.unusedSimpArgs false

/-- Data that nobody writes any more. -/
inductive D where
  | lit (v : Value)
  | sl (sz bts : Nat) (xs : List (List D))
  | iptr (cs : List D)
  | fn (f : Fn) (first cap : List D)
  | iface (t : TypeId) (x : D)

def okLit : Value → Prop
  | .int k n => k.min ≤ n ∧ n ≤ k.max
  | .string s => s.size ≤ 140737488355328
  | .bool _ | .nilIface | .nilFunc => True
  | .pointer a => a = none
  | .slice a n c => a = none ∧ n = 0 ∧ c = 0
  | _ => False

def isCells (w : World) (b : Nat) : Prop := ∃ cs t f, w.heap[b]? = some (.cells cs t f)
theorem isCells.lt {w : World} {b : Nat} (h : isCells w b) : b < w.heap.size := let ⟨_, _, _, h⟩ := h; (Array.getElem?_eq_some_iff.1 h).1
theorem isCells.of_cell {w : World} {b o : Nat} {v : Value} (h : w.cell? ⟨b, o, none⟩ = some v) : isCells w b := by
  simp only [World.cell?] at h
  split at h
  · rename_i cs t f hb; exact ⟨cs, t, f, hb⟩
  · cases h
theorem isCells.at {w w' : World} {b : Nat} (e : w'.heap[b]? = w.heap[b]?) (h : isCells w b) : isCells w' b := let ⟨c, t, f, h⟩ := h; ⟨c, t, f, e.trans h⟩

mutual
def RD (w : World) (M : Nat → Prop) : D → Value → Prop
  | .lit u, v => v = u ∧ okLit u
  | .sl sz bts xs, v => ∃ a cap, v = .slice a xs.length cap ∧ xs.length ≤ cap ∧ xs.length * bts ≤ 140737488355328 ∧ xs.length ≤ 140737488355328 ∧
      (xs = [] ∨ ∃ b off, a = some ⟨b, off, none⟩ ∧ ¬ M b ∧ isCells w b ∧ RCs w M b sz xs off)
  | .iptr cs, v => ∃ b off, v = .pointer (some ⟨b, off, none⟩) ∧ ¬ M b ∧ isCells w b ∧ RC w M b cs off
  | .fn f first cap, v => ∃ vf vc, v = .func f vf vc ∧ RDs w M first vf.toList ∧ RDs w M cap vc.toList
  | .iface t x, v => ∃ u, v = .iface t u ∧ RD w M x u
def RDs (w : World) (M : Nat → Prop) : List D → List Value → Prop
  | [], vs => vs = []
  | x :: xs, vs => ∃ v t, vs = v :: t ∧ RD w M x v ∧ RDs w M xs t
def RC (w : World) (M : Nat → Prop) (b : Nat) : List D → Nat → Prop
  | [], _ => True
  | x :: xs, off => (∃ v, w.cell? ⟨b, off, none⟩ = some v ∧ RD w M x v) ∧ RC w M b xs (off + 1)
def RCs (w : World) (M : Nat → Prop) (b sz : Nat) : List (List D) → Nat → Prop
  | [], _ => True
  | x :: xs, off => x.length = sz ∧ RC w M b x off ∧ RCs w M b sz xs (off + sz)
end

inductive AV where
  | d (x : D)
  | agg (cs : List AV)
  | tup (cs : List AV)
  | ptr (k o : Nat)
  | row (k : Nat)
  | fn (f : Fn) (first cap : List AV)
  | any

def blk : Value → Option Nat
  | .pointer (some a) => some a.block
  | .slice (some a) _ cap => if cap = 0 then none else some a.block
  | _ => none

structure Cx where
  w : World
  Z : Nat → Prop
  dom : Nat → Prop
  ι : Nat → Value

def Cx.M (C : Cx) (b : Nat) : Prop := C.Z b ∨ ∃ k, C.dom k ∧ blk (C.ι k) = some b

mutual
def RA (C : Cx) : AV → Value → Prop
  | .d x, v => RD C.w C.M x v
  | .agg cs, v => ∃ vs, v = .agg vs ∧ RAs C cs vs.toList
  | .tup cs, v => ∃ vs, v = .tuple vs ∧ RAs C cs vs.toList
  | .ptr k o, v => C.dom k ∧ ∃ b, blk (C.ι k) = some b ∧ v = .pointer (some ⟨b, o, none⟩)
  | .row k, v => C.dom k ∧ v = C.ι k
  | .fn f first cap, v => ∃ vf vc, v = .func f vf vc ∧ RAs C first vf.toList ∧ RAs C cap vc.toList
  | .any, _ => True
def RAs (C : Cx) : List AV → List Value → Prop
  | [], vs => vs = []
  | x :: xs, vs => ∃ v t, vs = v :: t ∧ RA C x v ∧ RAs C xs t
end

/-! ### Growing -/
/-- What RD leans on lives on. -/
structure Keeps (w w' : World) (M M' : Nat → Prop) : Prop where
  cell : ∀ b o v, ¬ M b → w.cell? ⟨b, o, none⟩ = some v → w'.cell? ⟨b, o, none⟩ = some v
  iso : ∀ b, ¬ M b → isCells w b → isCells w' b
  off : ∀ b, isCells w b → ¬ M b → ¬ M' b

mutual
theorem RD_keeps {w w' : World} {M M' : Nat → Prop} (h : Keeps w w' M M') : ∀ (x : D) (v : Value), RD w M x v → RD w' M' x v
  | .lit u, v => fun hx => by simpa only [RD] using hx
  | .sl sz bts xs, v => fun hx => by
    simp only [RD] at hx ⊢
    obtain ⟨a, cap, e, h1, h2, h3, h4⟩ := hx
    refine ⟨a, cap, e, h1, h2, h3, ?_⟩
    rcases h4 with h4 | ⟨b, off, ea, hm, hb, hc⟩
    · exact .inl h4
    · exact .inr ⟨b, off, ea, h.off b hb hm, h.iso b hm hb, RCs_keeps h b sz hm xs off hc⟩
  | .iptr cs, v => fun hx => by
    simp only [RD] at hx ⊢
    obtain ⟨b, off, e, hm, hb, hc⟩ := hx
    exact ⟨b, off, e, h.off b hb hm, h.iso b hm hb, RC_keeps h b hm cs off hc⟩
  | .fn f first cap, v => fun hx => by
    simp only [RD] at hx ⊢
    obtain ⟨vf, vc, e, h1, h2⟩ := hx
    exact ⟨vf, vc, e, RDs_keeps h first _ h1, RDs_keeps h cap _ h2⟩
  | .iface t x, v => fun hx => by
    simp only [RD] at hx ⊢
    obtain ⟨u, e, h1⟩ := hx
    exact ⟨u, e, RD_keeps h x u h1⟩
theorem RDs_keeps {w w' : World} {M M' : Nat → Prop} (h : Keeps w w' M M') : ∀ (xs : List D) (vs : List Value), RDs w M xs vs → RDs w' M' xs vs
  | [], vs => fun hx => by simpa only [RDs] using hx
  | x :: xs, vs => fun hx => by
    simp only [RDs] at hx ⊢
    obtain ⟨v, t, e, h1, h2⟩ := hx
    exact ⟨v, t, e, RD_keeps h x v h1, RDs_keeps h xs t h2⟩
theorem RC_keeps {w w' : World} {M M' : Nat → Prop} (h : Keeps w w' M M') (b : Nat) (hb : ¬ M b) : ∀ (xs : List D) (off : Nat), RC w M b xs off → RC w' M' b xs off
  | [], off => fun hx => by simp only [RC]
  | x :: xs, off => fun hx => by
    simp only [RC] at hx ⊢
    obtain ⟨⟨v, hc, hv⟩, hr⟩ := hx
    exact ⟨⟨v, h.cell b off v hb hc, RD_keeps h x v hv⟩, RC_keeps h b hb xs (off + 1) hr⟩
theorem RCs_keeps {w w' : World} {M M' : Nat → Prop} (h : Keeps w w' M M') (b sz : Nat) (hb : ¬ M b) : ∀ (xs : List (List D)) (off : Nat), RCs w M b sz xs off → RCs w' M' b sz xs off
  | [], off => fun hx => by simp only [RCs]
  | x :: xs, off => fun hx => by
    simp only [RCs] at hx ⊢
    obtain ⟨hl, h1, h2⟩ := hx
    exact ⟨hl, RC_keeps h b hb x off h1, RCs_keeps h b sz hb xs (off + sz) h2⟩
end

/-- Contexts: the keys that live keep their values, and what is read lives on. -/
structure KeepsC (C C' : Cx) : Prop where
  d : Keeps C.w C'.w C.M C'.M
  dom : ∀ k, C.dom k → C'.dom k ∧ C'.ι k = C.ι k

mutual
theorem RA_keeps {C C' : Cx} (h : KeepsC C C') : ∀ (x : AV) (v : Value), RA C x v → RA C' x v
  | .d x, v => fun hx => by simp only [RA] at hx ⊢; exact RD_keeps h.d x v hx
  | .agg cs, v => fun hx => by
    simp only [RA] at hx ⊢
    obtain ⟨vs, e, h1⟩ := hx
    exact ⟨vs, e, RAs_keeps h cs _ h1⟩
  | .tup cs, v => fun hx => by
    simp only [RA] at hx ⊢
    obtain ⟨vs, e, h1⟩ := hx
    exact ⟨vs, e, RAs_keeps h cs _ h1⟩
  | .ptr k o, v => fun hx => by
    simp only [RA] at hx ⊢
    obtain ⟨hk, b, hb, e⟩ := hx
    exact ⟨(h.dom k hk).1, b, by rw [(h.dom k hk).2]; exact hb, e⟩
  | .row k, v => fun hx => by
    simp only [RA] at hx ⊢
    exact ⟨(h.dom k hx.1).1, by rw [(h.dom k hx.1).2]; exact hx.2⟩
  | .fn f first cap, v => fun hx => by
    simp only [RA] at hx ⊢
    obtain ⟨vf, vc, e, h1, h2⟩ := hx
    exact ⟨vf, vc, e, RAs_keeps h first _ h1, RAs_keeps h cap _ h2⟩
  | .any, v => fun hx => by simp only [RA]
theorem RAs_keeps {C C' : Cx} (h : KeepsC C C') : ∀ (xs : List AV) (vs : List Value), RAs C xs vs → RAs C' xs vs
  | [], vs => fun hx => by simpa only [RAs] using hx
  | x :: xs, vs => fun hx => by
    simp only [RAs] at hx ⊢
    obtain ⟨v, t, e, h1, h2⟩ := hx
    exact ⟨v, t, e, RA_keeps h x v h1, RAs_keeps h xs t h2⟩
end

/-! ### Lists of values -/
theorem RDs_length {w : World} {M : Nat → Prop} : ∀ {xs : List D} {vs : List Value}, RDs w M xs vs → vs.length = xs.length
  | [], vs, h => by simp only [RDs] at h; subst h; rfl
  | x :: xs, vs, h => by
    simp only [RDs] at h
    obtain ⟨v, t, rfl, _, h2⟩ := h
    simp [RDs_length h2]
theorem RAs_length {C : Cx} : ∀ {xs : List AV} {vs : List Value}, RAs C xs vs → vs.length = xs.length
  | [], vs, h => by simp only [RAs] at h; subst h; rfl
  | x :: xs, vs, h => by
    simp only [RAs] at h
    obtain ⟨v, t, rfl, _, h2⟩ := h
    simp [RAs_length h2]
theorem RAs_get {C : Cx} : ∀ {xs : List AV} {vs : List Value} {i : Nat} {x : AV}, RAs C xs vs → xs[i]? = some x → ∃ v, vs[i]? = some v ∧ RA C x v
  | [], vs, i, x, h, hi => by simp at hi
  | y :: xs, vs, i, x, h, hi => by
    simp only [RAs] at h
    obtain ⟨v, t, rfl, h1, h2⟩ := h
    cases i with
    | zero => simp at hi; subst hi; exact ⟨v, rfl, h1⟩
    | succ i => simp at hi; simpa using RAs_get h2 hi
theorem RAs_of_get {C : Cx} : ∀ {xs : List AV} {vs : List Value}, vs.length = xs.length → (∀ (i : Nat) (x : AV) (v : Value), xs[i]? = some x → vs[i]? = some v → RA C x v) → RAs C xs vs
  | [], vs, hl, _ => by simp only [RAs]; exact List.eq_nil_of_length_eq_zero hl
  | x :: xs, [], hl, _ => by simp at hl
  | x :: xs, v :: t, hl, h => by
    simp only [RAs]
    refine ⟨v, t, rfl, h 0 x v rfl rfl, RAs_of_get (by simpa using hl) fun i y u hy hu => h (i + 1) y u (by simpa using hy) (by simpa using hu)⟩
theorem RDs_append {w : World} {M : Nat → Prop} : ∀ {xs ys : List D} {vs us : List Value}, RDs w M xs vs → RDs w M ys us → RDs w M (xs ++ ys) (vs ++ us)
  | [], ys, vs, us, h, h' => by simp only [RDs] at h; subst h; simpa using h'
  | x :: xs, ys, vs, us, h, h' => by
    simp only [RDs] at h
    obtain ⟨v, t, rfl, h1, h2⟩ := h
    simp only [List.cons_append, RDs]
    exact ⟨v, t ++ us, rfl, h1, RDs_append h2 h'⟩
theorem RAs_append {C : Cx} : ∀ {xs ys : List AV} {vs us : List Value}, RAs C xs vs → RAs C ys us → RAs C (xs ++ ys) (vs ++ us)
  | [], ys, vs, us, h, h' => by simp only [RAs] at h; subst h; simpa using h'
  | x :: xs, ys, vs, us, h, h' => by
    simp only [RAs] at h
    obtain ⟨v, t, rfl, h1, h2⟩ := h
    simp only [List.cons_append, RAs]
    exact ⟨v, t ++ us, rfl, h1, RAs_append h2 h'⟩
theorem RAs_drop {C : Cx} : ∀ {xs : List AV} {vs : List Value} (n : Nat), RAs C xs vs → RAs C (xs.drop n) (vs.drop n)
  | xs, vs, 0, h => by simpa using h
  | [], vs, n + 1, h => by simp only [RAs] at h; subst h; simp [RAs]
  | x :: xs, vs, n + 1, h => by
    simp only [RAs] at h
    obtain ⟨v, t, rfl, h1, h2⟩ := h
    simpa using RAs_drop n h2
theorem RAs_take {C : Cx} : ∀ {xs : List AV} {vs : List Value} (n : Nat), RAs C xs vs → RAs C (xs.take n) (vs.take n)
  | xs, vs, 0, h => by simp [RAs]
  | [], vs, n + 1, h => by simp only [RAs] at h; subst h; simp [RAs]
  | x :: xs, vs, n + 1, h => by
    simp only [RAs] at h
    obtain ⟨v, t, rfl, h1, h2⟩ := h
    simp only [List.take_succ_cons, RAs]
    exact ⟨v, t.take n, rfl, h1, RAs_take n h2⟩
theorem RAs_map_d {C : Cx} : ∀ {xs : List D} {vs : List Value}, RAs C (xs.map .d) vs ↔ RDs C.w C.M xs vs
  | [], vs => by simp only [List.map_nil, RAs, RDs]
  | x :: xs, vs => by
    simp only [List.map_cons, RAs, RDs, RA, RAs_map_d]
theorem RAs_set {C : Cx} : ∀ {xs : List AV} {vs : List Value} (i : Nat) {x : AV} {v : Value}, RAs C xs vs → RA C x v → RAs C (xs.set i x) (vs.set i v)
  | [], vs, i, x, v, h, hx => by simp only [RAs] at h; subst h; simp [RAs]
  | y :: xs, vs, i, x, v, h, hx => by
    simp only [RAs] at h
    obtain ⟨u, t, rfl, h1, h2⟩ := h
    cases i with
    | zero => simp only [List.set_cons_zero, RAs]; exact ⟨v, t, rfl, hx, h2⟩
    | succ i => simp only [List.set_cons_succ, RAs]; exact ⟨u, t.set i v, rfl, h1, RAs_set i h2 hx⟩

/-! ### Cells -/
theorem RC_get {w : World} {M : Nat → Prop} {b : Nat} : ∀ {cs : List D} {off i : Nat} {x : D}, RC w M b cs off → cs[i]? = some x → ∃ v, w.cell? ⟨b, off + i, none⟩ = some v ∧ RD w M x v
  | [], off, i, x, h, hi => by simp at hi
  | y :: cs, off, i, x, h, hi => by
    simp only [RC] at h
    cases i with
    | zero => simp at hi; subst hi; simpa using h.1
    | succ i =>
      obtain ⟨v, h1, h2⟩ := RC_get h.2 (by simpa using hi)
      exact ⟨v, by rw [← h1]; congr 2; omega, h2⟩
theorem RC_drop {w : World} {M : Nat → Prop} {b : Nat} : ∀ {cs : List D} {off : Nat} (n : Nat), RC w M b cs off → RC w M b (cs.drop n) (off + n)
  | cs, off, 0, h => by simpa using h
  | [], off, n + 1, h => by simp [RC]
  | y :: cs, off, n + 1, h => by
    simp only [RC] at h
    have := RC_drop n h.2
    simp only [List.drop_succ_cons]
    rwa [show off + (n + 1) = off + 1 + n by omega]
theorem RC_list {w : World} {M : Nat → Prop} {b : Nat} : ∀ {cs : List D} {off : Nat}, RC w M b cs off → ∃ vs : List Value, RDs w M cs vs ∧ ∀ j v, vs[j]? = some v → w.cell? ⟨b, off + j, none⟩ = some v
  | [], off, h => ⟨[], by simp [RDs], by simp⟩
  | x :: cs, off, h => by
    simp only [RC] at h
    obtain ⟨⟨v, hc, hv⟩, hr⟩ := h
    obtain ⟨vs, h1, h2⟩ := RC_list hr
    refine ⟨v :: vs, by simp only [RDs]; exact ⟨v, vs, rfl, hv, h1⟩, fun j u hu => ?_⟩
    cases j with
    | zero => simp at hu; subst hu; simpa using hc
    | succ j => rw [show off + (j + 1) = off + 1 + j by omega]; exact h2 j u (by simpa using hu)
theorem RC_of_list {w : World} {M : Nat → Prop} {b : Nat} : ∀ {cs : List D} {vs : List Value} {off : Nat}, RDs w M cs vs → (∀ j v, vs[j]? = some v → w.cell? ⟨b, off + j, none⟩ = some v) → RC w M b cs off
  | [], vs, off, h, hc => by simp [RC]
  | x :: cs, vs, off, h, hc => by
    simp only [RDs] at h
    obtain ⟨v, t, rfl, h1, h2⟩ := h
    simp only [RC]
    refine ⟨⟨v, by simpa using hc 0 v rfl, h1⟩, RC_of_list h2 fun j u hu => ?_⟩
    have := hc (j + 1) u (by simpa using hu)
    rwa [show off + (j + 1) = off + 1 + j by omega] at this
theorem RCs_get {w : World} {M : Nat → Prop} {b sz : Nat} : ∀ {xs : List (List D)} {off i : Nat} {x : List D}, RCs w M b sz xs off → xs[i]? = some x → x.length = sz ∧ RC w M b x (off + i * sz)
  | [], off, i, x, h, hi => by simp at hi
  | y :: xs, off, i, x, h, hi => by
    simp only [RCs] at h
    cases i with
    | zero => simp at hi; subst hi; simpa using ⟨h.1, h.2.1⟩
    | succ i =>
      obtain ⟨h1, h2⟩ := RCs_get h.2.2 (by simpa using hi)
      refine ⟨h1, ?_⟩
      rwa [show off + (i + 1) * sz = off + sz + i * sz by rw [Nat.add_mul]; omega]
theorem RCs_flat {w : World} {M : Nat → Prop} {b sz : Nat} : ∀ {xs : List (List D)} {off : Nat}, RCs w M b sz xs off → RC w M b xs.flatten off ∧ xs.flatten.length = xs.length * sz
  | [], off, h => by simp [RC]
  | y :: xs, off, h => by
    simp only [RCs] at h
    obtain ⟨h1, h2, h3⟩ := h
    obtain ⟨h4, h5⟩ := RCs_flat h3
    refine ⟨?_, by simp [h5, h1, Nat.add_mul]; omega⟩
    simp only [List.flatten_cons]
    obtain ⟨vs, g1, g2⟩ := RC_list h2
    obtain ⟨us, g3, g4⟩ := RC_list h4
    have hl := RDs_length g1
    have hd : RDs w M (y ++ xs.flatten) (vs ++ us) := RDs_append g1 g3
    refine RC_of_list hd fun j v hj => ?_
    rw [List.getElem?_append] at hj
    split at hj
    · exact g2 j v hj
    · have := g4 (j - vs.length) v hj
      rwa [show off + sz + (j - vs.length) = off + j by omega] at this
end Go.AL
