/- Parts of an abstract logic over the kit's walks, and walks in it: A30, A31, A32, A43, A44, A45, A46, A33, A34, A35, A36, A37, A47, A48, A49, A41, A38, A39, A40, A42. -/
import Derived.Test.YtchpllgeahnmmaaDoorAd
import Derived.Test.YtchpllgeahnmmaaDoorAc
/- AL, part 30: struct values in a head; a nil slice inside a variable as a row; a row made shorter; a cut where several ways meet. -/
namespace Go.AL
set_option linter.unusedVariables false
set_option linter.unusedSimpArgs false

section
variable {E : Env} {ops : List Oper} {Q : Exit → St → Prop} {i : Nat} {J : Jt} {s : Slots} {h : Heap} {o : Oper}

/-- Several ways meet: what is told of all of them goes on. -/
theorem CW_cutE {x y : Code} {st : St} {α : Type} (S : α → St) (φ : α → Prop) (h : CW E x (thenQ (fun st => ∃ p, φ p ∧ LE E st (S p)) Q) st) (h2 : ∀ p, φ p → CW E y Q (S p)) : CW E (.seq x y) Q st :=
  CW_seq (CW.mono h fun e st' q => by
    cases e with
    | normal => obtain ⟨p, hp, hle⟩ := q; exact CW.le hle (h2 p hp)
    | _ => exact q)
end
end Go.AL
/- AL, part 31: regions that draw whose last operations come in several orders; 'max'. -/
namespace Go.AL
set_option linter.unusedVariables false
set_option linter.unusedSimpArgs false

section
variable {E : Env} {ops : List Oper} {Y : Nat → Slots → AV → Prop}
end

/-! ### Behind the head: whichever is ready -/
section
variable {E : Env} {ops : List Oper} {Q : Exit → St → Prop} {st : St} {listed : Array Bool} {g : Nat}
end

end Go.AL
/- AL, part 32: a variable of the frame's own handed on as data: nobody writes it from now on. -/
namespace Go.AL
set_option linter.unusedVariables false
set_option linter.unusedSimpArgs false

end Go.AL
/- AL, part 43: a variable that holds a function which captures that variable: frozen, to any depth. -/
namespace Go.AL
set_option linter.unusedVariables false
set_option linter.unusedSimpArgs false

end Go.AL
/- AL, part 44: rows whose elements hold what is the frame's own. -/
namespace Go.AL
set_option linter.unusedVariables false
set_option linter.unusedSimpArgs false

section
variable {E : Env} {ops : List Oper} {Q : Exit → St → Prop} {i : Nat} {J : Jt} {h : Heap} {s : Slots} {o : Oper}
end

/-! ### Literals and append -/
section
variable {E : Env} {ops : List Oper} {Q : Exit → St → Prop} {i : Nat} {J : Jt} {h : Heap} {s : Slots} {o : Oper}
end
end Go.AL
/- AL, part 45: functions that are lent what is the frame's own, write it, and give it back. -/
namespace Go.AL
set_option linter.unusedVariables false
set_option linter.unusedSimpArgs false

/-! ### Other keys -/
/-! ### Without some keys -/
/-! ### Heaps as lists -/
def heapOf : List (Nat × Ent) → Heap
  | [] => noHeap
  | (k, e) :: l => hset (heapOf l) k (some e)
def closedL (l : List (Nat × Ent)) : Bool := l.all fun x => inE (heapOf l) x.2
def keyOf (l : List (Nat × Ent)) (k : Nat) : Bool := l.any fun x => Nat.beq x.1 k
/-! ### The contract -/
structure OwnIn (Z : Nat → Prop) (h : Heap) (ι : Nat → Value) (w : World) : Prop where
  ent : ∀ k e, h k = some e → EntOk (cx Z h ι w) e (ι k)
  own : ∀ k b, dom h k → blk (ι k) = some b → ¬ Z b ∧ b < w.heap.size
  apart : ∀ k k' b, dom h k → dom h k' → blk (ι k) = some b → blk (ι k') = some b → k = k'
def Lent (h : Heap) (ι : Nat → Value) (b : Nat) : Prop := ∃ k, dom h k ∧ blk (ι k) = some b
structure Gave (Z : Nat → Prop) (h0 : Heap) (ι : Nat → Value) (w : World) (h1 : Heap) (kept : List Nat) (ι' : Nat → Value) (w' : World) : Prop where
  ent : ∀ k e, h1 k = some e → EntOk (cx Z h1 ι' w') e (ι' k)
  own : ∀ k b, dom h1 k → blk (ι' k) = some b → ¬ Z b ∧ b < w'.heap.size ∧ (Lent h0 ι b ∨ w.heap.size ≤ b)
  apart : ∀ k k' b, dom h1 k → dom h1 k' → blk (ι' k) = some b → blk (ι' k') = some b → k = k'
  kept : ∀ k ∈ kept, ι' k = ι k
  step : Step (fun b => b < w.heap.size ∧ ¬ Lent h0 ι b) w w'
/-- A function that is lent the entries l0 and gives back l1; kept: the keys whose handles stay. -/
def DoesM (P : Program) (f : Nat) (l0 : List (Nat × Ent)) (args : List AV) (R : AV) (l1 : List (Nat × Ent)) (kept : List Nat) : Prop :=
  (Callable P f ∧ closedL l0 = true ∧ closedL l1 = true ∧ inHs (heapOf l0) args = true ∧ inH (heapOf l1) R = true ∧ (kept.all fun k => keyOf l0 k && keyOf l1 k) = true) ∧
  ∀ n Z w ι vs, (∀ b, Z b → b < w.heap.size) → OwnIn Z (heapOf l0) ι w → RAs (cx Z (heapOf l0) ι w) args vs →
    CallsIn Fence.wide n P f vs.toArray w fun x w' => ∃ v ι', x = .returned v ∧ RA (cx Z (heapOf l1) ι' w') R v ∧ Gave Z (heapOf l0) ι w (heapOf l1) kept ι' w'
end Go.AL
/- AL, part 46: calls of functions that are lent what is the frame's own. -/
namespace Go.AL
set_option linter.unusedVariables false
set_option linter.unusedSimpArgs false

/-- Keys to keys, by a list. -/
def tr : List (Nat × Nat) → Nat → Nat
  | [], k => k
  | (a, b) :: l, k => bif Nat.beq k a then b else tr l k
section
variable {E : Env} {ops : List Oper} {Q : Exit → St → Prop} {i : Nat} {J : Jt} {s : Slots} {h : Heap} {o : Oper}
end
end Go.AL
/- AL, part 33: shifts to the left. -/
namespace Go.AL
set_option linter.unusedVariables false
set_option linter.unusedSimpArgs false
section
variable {E : Env} {ops : List Oper} {J : Jt} {h : Heap} {s : Slots}
end
end Go.AL
/- AL, part 34: calls that are lent what is the frame's own; rows told with less. -/
namespace Go.AL
set_option linter.unusedVariables false
set_option linter.unusedSimpArgs false
section
variable {E : Env} {ops : List Oper} {Q : Exit → St → Prop} {i : Nat} {J : Jt} {h : Heap} {s : Slots}

/-! ### Data told with less -/
def Dle (x y : D) : Prop := ∀ w M v, RD w M x v → RD w M y v
def Dles (x y : List D) : Prop := ∀ w M vs, RDs w M x vs → RDs w M y vs
theorem Dle.refl (x : D) : Dle x x := fun _ _ _ h => h
theorem Dles.refl (x : List D) : Dles x x := fun _ _ _ h => h
theorem Dles.nil : Dles [] [] := fun _ _ _ h => h
theorem Dles.cons {x y : D} {xs ys : List D} (h : Dle x y) (hs : Dles xs ys) : Dles (x :: xs) (y :: ys) := fun w M vs hv => by
  simp only [RDs] at hv ⊢
  obtain ⟨v, t, e, h1, h2⟩ := hv
  exact ⟨v, t, e, h _ _ _ h1, hs _ _ _ h2⟩
theorem RDs_split {w : World} {M : Nat → Prop} : ∀ {xs ys : List D} {vs : List Value}, RDs w M (xs ++ ys) vs → ∃ a b, vs = a ++ b ∧ RDs w M xs a ∧ RDs w M ys b
  | [], ys, vs, h => ⟨[], vs, rfl, by simp [RDs], h⟩
  | x :: xs, ys, vs, h => by
    simp only [List.cons_append, RDs] at h
    obtain ⟨v, t, rfl, h1, h2⟩ := h
    obtain ⟨a, b, rfl, h3, h4⟩ := RDs_split h2
    exact ⟨v :: a, b, rfl, by simp only [RDs]; exact ⟨v, a, rfl, h1, h3⟩, h4⟩
theorem Dles.append {x y xs ys : List D} (h : Dles x y) (hs : Dles xs ys) : Dles (x ++ xs) (y ++ ys) := fun w M vs hv => by
  obtain ⟨a, b, rfl, h1, h2⟩ := RDs_split hv
  exact RDs_append (h _ _ _ h1) (hs _ _ _ h2)
theorem Dle.nilSl (sz bts : Nat) : Dle (.lit (.slice none 0 0)) (.sl sz bts []) := fun w M v hv => by
  simp only [RD] at hv
  obtain ⟨rfl, _⟩ := hv
  simp only [RD]
  exact ⟨none, 0, rfl, by simp, by simp, by simp, by simp⟩
theorem Dles.set {x y : List D} : ∀ {xs : List (List D)} {j : Nat}, xs[j]? = some x → Dles x y → Dles xs.flatten (xs.set j y).flatten
  | [], j, h, _ => by simp at h
  | z :: xs, 0, h, hl => by
    simp at h; subst h
    simpa using hl.append (Dles.refl _)
  | z :: xs, j + 1, h, hl => by
    have := Dles.set (xs := xs) (j := j) (by simpa using h) hl
    simpa using (Dles.refl z).append this
end
end Go.AL
/- AL, part 35: shifts to the right, the low bits of a number. -/
namespace Go.AL
set_option linter.unusedVariables false
set_option linter.unusedSimpArgs false
section
variable {E : Env} {ops : List Oper} {J : Jt} {h : Heap} {s : Slots}
end
end Go.AL
/- AL, part 36: arrays: written out, their elements read. -/
namespace Go.AL
set_option linter.unusedVariables false
set_option linter.unusedSimpArgs false
section
variable {E : Env} {ops : List Oper} {J : Jt} {h : Heap} {s : Slots}
end
end Go.AL
/- AL, part 37: views into rows; functions that write the row that they are handed. -/
namespace Go.AL
set_option linter.unusedVariables false
set_option linter.unusedSimpArgs false
section
variable {E : Env} {ops : List Oper} {Q : Exit → St → Prop} {i : Nat} {J : Jt} {s : Slots} {h : Heap} {o : Oper}

end

/-! ### Functions that write the row of numbers that they are handed, and give it back -/
section
variable {E : Env} {ops : List Oper} {Q : Exit → St → Prop} {i : Nat} {J : Jt} {s : Slots} {h : Heap}
end
end Go.AL
/- AL, part 47: parts of rows of the frame's own: taken, laid over, cleared, made rows again. -/
namespace Go.AL
set_option linter.unusedVariables false
set_option linter.unusedSimpArgs false

section
variable {E : Env} {ops : List Oper} {Q : Exit → St → Prop} {i : Nat} {J : Jt} {s : Slots} {h : Heap} {o : Oper}

end
end Go.AL
/- AL, part 48: parts of rows cleared; a part that becomes the row. -/
namespace Go.AL
set_option linter.unusedVariables false
set_option linter.unusedSimpArgs false

section
variable {E : Env} {ops : List Oper} {Q : Exit → St → Prop} {i : Nat} {J : Jt} {s : Slots} {h : Heap} {o : Oper}
end

end Go.AL
/- AL, part 49: what a function does in worlds of which something is known (a table that stands). -/
namespace Go.AL
set_option linter.unusedVariables false
set_option linter.unusedSimpArgs false
def Tells (Tab : World → Prop) (J : Jt) : Prop := ∀ K Y Z w, J K Y Z w → Tab w
def DoesW (P : Program) (Tab : World → Prop) (f : Nat) (args : List AV) (R : AV) : Prop :=
  Callable P f ∧ ∀ n Z w vs, (∀ b, Z b → b < w.heap.size) → Tab w → RAs (cx Z noHeap noι w) args vs →
    CallsIn Fence.wide n P f vs.toArray w fun e w' => ∃ v ι, e = .returned v ∧ Grew w w' ∧ RA (cx Z noHeap ι w') R v ∧ Own Z w.heap.size noHeap ι w'
theorem DoesW.of {P : Program} {Tab : World → Prop} {f : Nat} {args : List AV} {R : AV} (h : Does P f args noHeap R) : DoesW P Tab f args R := ⟨h.1, fun n Z w vs hZ _ hv => h.2 n Z w vs hZ hv⟩
section
variable {E : Env} {ops : List Oper} {Q : Exit → St → Prop} {st : St} {i : Nat}
end
section
variable {E : Env} {ops : List Oper} {Q : Exit → St → Prop} {J : Jt} {s : Slots} {h : Heap} {i : Nat}
end
section
variable {E : Env} {ops : List Oper} {J : Jt} {h : Heap}
theorem LY_callW (hE : E.Good) {Tab : World → Prop} {f : Nat} {L : List AV} {R : AV} (hc : DoesW E.P Tab f L R) (hJ : Tells Tab J) {s : Slots} {o : Oper} {fo : Operand} {args : Array Operand} {ts : Array TypeId} (hop : o.op = .call ⟨.value fo, args, ts⟩)
    (hL : callArgs s fo args.toList = some (f, L)) (hkf : kfs L = true) (hR : kf R = true) : LY E ops.toArray J h o s R := by
  intro Z K Y ι a w m hl K' Q' hk'
  refine ⟨fun f _ => hE.wide.fn f, ?_⟩
  rw [Oper.semAt_plain E.F _ _ (by rw [hop]; intro c hc; cases hc)]
  have hevs := look_ev (ops := ops) (o := o) (s := s) (C := cx Z h ι w) (a := a) hl
  have hfo : RA (cx Z h ι w) (ev s fo) (a.eval fo) := hevs fo (by rw [hop]; simp [Op.operands, Call.operands])
  have hargs : RAs (cx Z h ι w) (args.toList.map (ev s)) (args.toList.map a.eval) := RAs_evs fun x hx => hevs x (by rw [hop]; simp [Op.operands, Call.operands]; exact .inr (by simpa using hx))
  obtain ⟨vf, vc, he, hv⟩ : ∃ vf vc, a.eval fo = .func (.func f) vf vc ∧ RAs (cx Z h ι w) L (vf ++ args.map a.eval ++ vc).toList := by
    unfold callArgs at hL
    split at hL
    · rename_i f' first cap hee
      cases hL
      rw [hee] at hfo
      simp only [RA, RD] at hfo
      obtain ⟨vf, vc, e, h1, h2⟩ := hfo
      exact ⟨vf, vc, e, by simpa using RAs_append (RAs_map_d.2 h1) (RAs_append hargs (RAs_map_d.2 h2))⟩
    · rename_i f' first cap hee
      cases hL
      rw [hee] at hfo
      simp only [RA] at hfo
      obtain ⟨vf, vc, e, h1, h2⟩ := hfo
      exact ⟨vf, vc, e, by simpa using RAs_append h1 (RAs_append hargs h2)⟩
    · cases hL
  obtain ⟨dst, op, ty, pos, af, gd⟩ := o
  simp only at hop
  subst hop
  rw [exec_call he hc.1]
  simp only [Oper.uponIn]
  refine ⟨fun hx => (by rw [hE.wide.depth] at hx; cases hx), ?_⟩
  have hZ : ∀ b, (cx Z h ι w).M b → b < w.heap.size := fun b hb => m.Mlt hb
  have hv' : RAs (cx (cx Z h ι w).M noHeap noι w) L (vf ++ args.map a.eval ++ vc).toList :=
    RAs_kf (C := cx Z h ι w) (C' := cx (cx Z h ι w).M noHeap noι w) ⟨fun _ _ _ _ hh => hh, fun _ _ hh => hh, fun b _ hm hm' => by rw [M_of] at hm'; exact hm hm'⟩ _ _ hkf hv
  have := hc.2 (E.n - 1) (cx Z h ι w).M w _ hZ (hJ _ _ _ _ m.Jw) hv'
  simp only [Array.toArray_toList] at this
  refine (hE.wide.calls this).mono fun e w' ⟨v, ι', he', hg, hRv, _⟩ => ?_
  subst he'
  exact hk' v w' hg (RA_kf (C := cx (cx Z h ι w).M noHeap ι' w') (C' := cx Z h ι w') ⟨fun _ _ _ _ hh => hh, fun _ _ hh => hh, fun b _ hm hm' => hm (.inl hm')⟩ _ _ hR hRv)
end
theorem DoesW_of {P : Program} {Tab : World → Prop} (hst : ∀ w w', Tab w → Grew w w' → Tab w') {T : Nat → Option TI} (hT : TOk P T) (hm : P.follows .mixedOrders = true) {f : Nat} {fn : Func} {c : Code} {args : List AV} {R : AV} (hf : P.funcs[f]? = some fn) (hb : fn.body = some c) (hn : (fn.name == "runtime.NumGoroutine") = false)
    {N : Nat} (hN : fn.ntmps = N) (hl : Nat.ble args.length N = true)
    (h : ∀ F n Z, (⟨P, T, F, n, Z, N⟩ : Env).Good → F = Fence.wide → ∀ J, Tells Tab J → CW ⟨P, T, F, n, Z, N⟩ c (Ret T fn J noHeap R) ⟨J, argSlots args 0, noHeap⟩) : DoesW P Tab f args R := by
  subst hN
  refine ⟨⟨fn, hf, hn, by rw [hb]; rfl⟩, fun n Z w vs hZ hTab hv => ?_⟩
  let E : Env := ⟨P, T, Fence.wide, n, Z, fn.ntmps⟩
  have hE : E.Good := ⟨⟨hT, fun f => trivial, rfl, hm⟩, .inl rfl⟩
  refine callsIn_of_wp_marks hf hb trivial (wpIn_mono (h _ _ _ hE rfl (grewJ w) (fun K Y Z w' hw => hst w w' hTab hw.1) noι _ w ?_) ?_) rfl
  · exact ⟨Z, fun b => b < w.heap.size, fun _ => False, ⟨fun b hb => hb, fun _ hb => hb.elim, mono_grew w⟩, rel_begin hZ (fun b hb => hb) ⟨Grew.refl w, fun b hb => hb⟩ ((mono_grew w).closed (fun b => b < w.heap.size) (fun _ => False) Z) hv hl⟩
  · rintro e a' w' ⟨st, ι, ⟨he, hJ, ⟨Rs, hRs, hk, hRe⟩, _⟩, Z', K, Y, hZE, r⟩
    have goal : LeavesInM Fence.wide n P fn a'.tmps (fun e w' => ∃ v ι, e = .returned v ∧ Grew w w' ∧ RA (cx Z noHeap ι w') R v ∧ Own Z w.heap.size noHeap ι w') a'.defers .returning w' := by
      refine leaves_marks r fun w1 r1 => ?_
      have hg : Grew w w1 := by have := r1.mem.Jw; rw [hJ] at this; exact this.1
      obtain ⟨v, g1, g2⟩ := results_ok hT r1 hRs
      refine ⟨v, g1, v, noι, rfl, hg, hRe _ _ (RA_kf (C := cx Z' st.h ι w1) (C' := cx Z noHeap noι w1) ⟨fun _ _ _ _ hh => hh, fun _ _ hh => hh, fun b _ hm hm' => ?_⟩ _ _ hk g2), ⟨fun k e hk => by simp [noHeap] at hk, fun k b hk => by simp [dom, noHeap] at hk, fun k k' b hk => by simp [dom, noHeap] at hk⟩⟩
      rcases hm' with hm' | ⟨k, hk, _⟩
      · exact hm (.inl (hZE.1 b hm'))
      · simp [dom, noHeap] at hk
    rcases he with rfl | rfl
    · exact goal
    · exact goal
theorem law_endsW {P : Program} {Tab : World → Prop} {f : Nat} {args : List AV} (hD : DoesW P Tab f args (.d (.lit (.bool true)))) {w : World} (hT : Tab w) {vs : List Value} (hv : RAs (cx noM noHeap noι w) args vs) :
    Calls P f vs.toArray w fun e w' => e = .returned (.bool true) ∧ RowKit.Below w.heap.size w w' := by
  refine (callsIn_wide (n := 0)).1 ((hD.2 0 noM w vs (fun _ h => h.elim) hT hv).mono fun e w' ⟨v, ι, he, hg, hr, _⟩ => ?_)
  obtain ⟨rfl, _⟩ := RA_lit.1 hr
  exact ⟨he, hg.below⟩
end Go.AL
/- AL, part 41: a law's arguments as they come in, with their bulk: how many values and letters the data hold. -/
namespace Go.AL
set_option linter.unusedVariables false
set_option linter.unusedSimpArgs false

mutual
def bulkD : D → Nat
  | .lit (.string s) => s.size + 1
  | .lit _ => 1
  | .sl _ _ xs => bulkCs xs + 1
  | .iptr _ => 1
  | .fn _ _ _ => 1
  | .iface _ _ => 1
def bulkDs : List D → Nat
  | [] => 0
  | x :: xs => bulkD x + bulkDs xs
def bulkCs : List (List D) → Nat
  | [] => 0
  | x :: xs => bulkDs x + bulkCs xs
end
theorem bulkDs_append : ∀ (l r : List D), bulkDs (l ++ r) = bulkDs l + bulkDs r
  | [], r => by simp [bulkDs]
  | x :: l, r => by simp only [List.cons_append, bulkDs, bulkDs_append l r]; omega

/-- A way to count readings. -/
structure Bulk {H : Type} (B : DataW H → Nat) (BA : List (DataW H) → Nat) : Prop where
  nil : BA [] = 0
  cons : ∀ d l, BA (d :: l) = B d + BA l
  one : ∀ d, 1 ≤ B d
  str : ∀ b, B (.lit (.string b)) = b.length + 1
  sl : ∀ l r, BA l + 1 ≤ B (.slice l r)
  agg : ∀ l, BA l ≤ B (.agg l)

theorem bulkCs_le {H : Type} {B : DataW H → Nat} {BA : List (DataW H) → Nat} (hB : Bulk B BA) : ∀ (xs : List (List D)) (es : List (DataW H)), (∀ (i : Nat) x, xs[i]? = some x → ∃ d, es[i]? = some d ∧ bulkDs x ≤ B d) → bulkCs xs ≤ BA es
  | [], es, _ => by simp [bulkCs]
  | x :: xs, [], h => by
    obtain ⟨d, hd, _⟩ := h 0 x rfl
    simp at hd
  | x :: xs, d :: es, h => by
    obtain ⟨d', hd, h1⟩ := h 0 x rfl
    simp at hd
    subst hd
    have := bulkCs_le hB xs es fun i y hy => by simpa using h (i + 1) y (by simpa using hy)
    simp only [bulkCs, hB.cons]
    omega

section
variable {P : Program} {T : Nat → Option TI} (hT : TOk P T) {S : List TypeId} (hS : closedT T S = true)
theorem partsB_of {H : Type} {B : DataW H → Nat} {BA : List (DataW H) → Nat} (hB : Bulk B BA) {R : TypeId → List D → Prop} {w : World} {cs : List Value} : ∀ (fs : List (TypeId × Nat)) (xs : List (DataW H)) (off : Nat), tiles T fs off cs.length = true →
    (∀ (i : Nat) f, fs[i]? = some f → ∀ ti, T f.1 = some ti → ∃ d, xs[i]? = some d ∧ ∃ ds, RDs w noM ds ((cs.drop f.2).take ti.size) ∧ R f.1 ds ∧ ds.length = ti.size ∧ bulkDs ds ≤ B d) →
    ∃ ds, RDs w noM ds (cs.drop off) ∧ partsT R (fs.map (·.1)) ds ∧ ds.length = cs.length - off ∧ bulkDs ds ≤ BA xs
  | [], xs, off, h, _ => by
    have : off = cs.length := Nat.eq_of_beq_eq_true h
    exact ⟨[], by simp [this, RDs], by simp [partsT], by simp [this], by simp [bulkDs]⟩
  | (t, o) :: fs, xs, off, h, hf => by
    simp only [tiles] at h
    cases ht : T t with
    | none => rw [ht] at h; cases h
    | some ti =>
      rw [ht] at h
      simp only [Bool.and_eq_true] at h
      have ho : o = off := Nat.eq_of_beq_eq_true h.1
      subst ho
      obtain ⟨d, hd, d1, a1, a2, a3, a4⟩ := hf 0 (t, o) (by simp) ti ht
      cases xs with
      | nil => simp at hd
      | cons x xs =>
        simp at hd
        subst hd
        obtain ⟨d2, b1, b2, b3, b4⟩ := partsB_of hB fs xs (o + ti.size) h.2 fun i f hm tj htj => by simpa using hf (i + 1) f (by simpa using hm) tj htj
        have hl1 := RDs_length a1
        refine ⟨d1 ++ d2, ?_, by simp only [List.map_cons, partsT]; exact ⟨d1, d2, rfl, a2, b2⟩, ?_, ?_⟩
        · have := RDs_append a1 b1
          rwa [← List.drop_drop, List.take_append_drop] at this
        · simp at hl1
          simp [a3, b3]
          omega
        · rw [bulkDs_append, hB.cons]; omega
include hT hS
theorem trod_RDB {H : Type} {B : DataW H → Nat} {BA : List (DataW H) → Nat} (hB : Bulk B BA) {enc : TypeId × Value → H} {w : World} {base : Nat} {spare : Nat → Bool} {held : Bool} : ∀ (n : Nat) (t : TypeId) (cs : List Value) (x : DataW H × List MemPlace), DataW.trod enc P w base spare held n t cs = some x → S.contains t = true →
    (∀ m ∈ x.1.weights P t, m ≤ reachBytes) → ∃ ds, RDs w noM ds cs ∧ DTc T n t ds ∧ (∀ ti, T t = some ti → ds.length = ti.size) ∧ bulkDs ds ≤ B x.1
  | 0, t, cs, x, h, _, _ => by simp [DataW.trod] at h
  | n + 1, t, cs, x, h, ht, hw => by
    have hc := List.all_eq_true.1 hS t (by simpa using ht)
    cases hti : T t with
    | none => rw [hti] at hc; cases hc
    | some ti =>
      rw [hti] at hc
      obtain ⟨k, s, b, z⟩ := ti
      have hfit := (hT t _ hti).2
      cases k with
      | bool =>
        simp only [TK.fits] at hfit
        obtain ⟨c, rfl, rfl⟩ := DataW.trod_bool hfit h
        have hs1 : s = 1 := Nat.eq_of_beq_eq_true hc
        exact ⟨[.lit (.bool c)], by simp [RDs, RD, okLit], by simp only [DTc, hti]; exact ⟨c, rfl⟩, fun ti hh => by cases hh; simp [hs1], hB.one _⟩
      | int k =>
        simp only [TK.fits] at hfit
        obtain ⟨m, rfl, rfl, hwf⟩ := DataW.trod_int hfit h
        have hs1 : s = 1 := Nat.eq_of_beq_eq_true hc
        simp only [Lit.wf, Bool.and_eq_true, decide_eq_true_eq] at hwf
        exact ⟨[.lit (.int k m)], by simp [RDs, RD, okLit, hwf.1, hwf.2], by simp only [DTc, hti]; exact ⟨m, rfl, hwf⟩, fun ti hh => by cases hh; simp [hs1], hB.one _⟩
      | str =>
        simp only [TK.fits] at hfit
        obtain ⟨u, rfl, rfl, hwf⟩ := DataW.trod_string hfit h
        have hs1 : s = 1 := Nat.eq_of_beq_eq_true hc
        have h1 : u.data.toList.length = u.size := Array.length_toList
        have hle : u.size ≤ 140737488351232 := by
          have := hw u.data.toList.length (by simp [DataW.weights])
          have h2 : reachBytes = 140737488351232 := rfl
          omega
        exact ⟨[.lit (.string u)], by simp only [RDs, RD]; exact ⟨_, [], rfl, ⟨rfl, show u.size ≤ 140737488355328 by omega⟩, rfl⟩, by simp only [DTc, hti]; exact ⟨u, rfl, hle⟩, fun ti hh => by cases hh; simp [hs1],
          by simp only [hB.str, bulkDs, bulkD]; omega⟩
      | slice e =>
        simp only [TK.fits] at hfit
        simp only [Bool.and_eq_true] at hc
        obtain ⟨⟨hs1, hSe⟩, hte⟩ := hc
        have hs1 : s = 1 := Nat.eq_of_beq_eq_true hs1
        cases htE : T e with
        | none => rw [htE] at hte; cases hte
        | some te =>
          rw [htE] at hte
          simp only [Bool.and_eq_true] at hte
          have hsz : 1 ≤ te.size := Nat.le_of_ble_eq_true hte.1
          have hbt : 1 ≤ te.bytes := Nat.le_of_ble_eq_true hte.2
          obtain ⟨hce, hbe⟩ := cellsOf_of hT htE
          rcases DataW.trod_slice hfit h with ⟨rfl, rfl⟩ | ⟨a, len, cap, elems, rest, m, hm, rfl, rfl, hb, hl, hcm, hel, hat, _, _⟩
          · refine ⟨[.sl te.size te.bytes []], ?_, ?_, fun ti hh => by cases hh; simp [hs1], hB.one _⟩
            · simp only [RDs, RD]
              exact ⟨_, [], rfl, ⟨none, 0, rfl, by simp, by simp, by simp, by simp⟩, rfl⟩
            · simp only [DTc, hti, htE]
              exact ⟨[], rfl, by simp, by simp⟩
          · cases hm
            have hwt : (elems.length + rest.length) * te.bytes ≤ 140737488351232 := by
              have := hw ((elems.length + rest.length) * P.bytesOf e) (by simp [DataW.weights, hfit])
              rw [hbe] at this
              exact this
            have hlen : len * te.bytes ≤ 140737488351232 := Nat.le_trans (Nat.mul_le_mul_right _ (by omega)) hwt
            have each : ∀ i, i < len → ∃ ds : List D, (∃ cs', w.cells? base (a.add (i * te.size)) te.size = some cs' ∧ RDs w noM ds cs') ∧ DTc T n e ds ∧ ds.length = te.size ∧ ∃ d, (elems.map (fun x => x.fst))[i]? = some d ∧ bulkDs ds ≤ B d := by
              intro i hi
              have hi' := hat i hi
              rw [hce] at hi'
              have hil : i < elems.length := by omega
              rw [List.getElem?_eq_getElem hil] at hi'
              simp only [Option.bind_eq_some_iff] at hi'
              obtain ⟨cs', hcs, htr⟩ := hi'
              obtain ⟨ds, g1, g2, g3, g4⟩ := trod_RDB hB n e cs' _ htr hSe fun q hq => hw q (by
                simp only [DataW.weights, hfit, List.mem_cons, List.mem_append]
                exact .inr (.inl (weightsAll_mem (List.mem_map.2 ⟨_, List.getElem_mem _, rfl⟩) q hq)))
              exact ⟨ds, ⟨cs', hcs, g1⟩, g2, g3 te htE, _, by rw [List.getElem?_map, List.getElem?_eq_getElem hil]; rfl, g4⟩
            obtain ⟨xs, hxl, hx⟩ := list_of_each len each
            have hxlen : xs.length ≤ 140737488355328 := by
              have : xs.length * 1 ≤ xs.length * te.bytes := Nat.mul_le_mul_left _ hbt
              rw [hxl] at this ⊢
              omega
            refine ⟨[.sl te.size te.bytes xs], ?_, ?_, fun ti hh => by cases hh; simp [hs1], ?_⟩
            · simp only [RDs, RD]
              refine ⟨_, [], rfl, ⟨some a, cap, by rw [hxl], by omega, by rw [hxl]; omega, hxlen, ?_⟩, rfl⟩
              by_cases h0 : xs = []
              · exact .inl h0
              · right
                have hpos : 0 < xs.length := List.length_pos_iff.2 h0
                obtain ⟨⟨cs0, hc0, _⟩, _, _⟩ := hx 0 xs[0] (List.getElem?_eq_getElem hpos)
                obtain ⟨_, hl0, hat0⟩ := World.cells?_some hc0
                have hcell := hat0 0 (by omega)
                rw [List.getElem?_eq_getElem (by omega : 0 < cs0.length)] at hcell
                have hspot : a.spot = none := by
                  simp [Addr.add, World.cell?] at hcell
                  split at hcell
                  · split at hcell
                    · cases hcell
                    · rename_i hh; simpa using hh
                  · cases hcell
                obtain ⟨ab, ao, asp⟩ := a
                simp only at hspot
                subst hspot
                have hadd : ∀ o k, (⟨ab, o, none⟩ : Addr).add k = ⟨ab, o + k, none⟩ := by
                  intro o k
                  unfold Addr.add
                  split
                  · subst_vars; simp
                  · rfl
                refine ⟨ab, ao, rfl, fun h => h, ?_, RCs_of_get _ _ fun i x hi => ?_⟩
                · rw [hadd, hadd] at hcell
                  exact isCells.of_cell hcell
                · obtain ⟨⟨cs', hc', hr⟩, _, hxl', _⟩ := hx i x hi
                  obtain ⟨_, hl', hat'⟩ := World.cells?_some hc'
                  refine ⟨hxl', RC_of_list hr fun j v hj => ?_⟩
                  have hj' : j < te.size := by
                    have := (List.getElem?_eq_some_iff.1 hj).1
                    omega
                  have := hat' j hj'
                  rw [hadd, hadd] at this
                  rw [this, hj]
            · simp only [DTc, hti, htE]
              refine ⟨xs, rfl, fun x hm => ?_, by rw [hxl]; exact hlen⟩
              obtain ⟨i, hi⟩ := List.getElem?_of_mem hm
              exact (hx i x hi).2.1
            · have h1 := bulkCs_le hB xs _ fun i x hi => (hx i x hi).2.2.2
              simp only [bulkDs, bulkD]
              refine Nat.le_trans ?_ (hB.sl _ _)
              omega
      | struct fs =>
        simp only [TK.fits] at hfit
        obtain ⟨fields, hu, hfs⟩ := hfit
        simp only [Bool.and_eq_true] at hc
        obtain ⟨htile, hSf⟩ := hc
        obtain ⟨xs, m, hm, rfl, hcl, hxl, hf⟩ := DataW.trod_struct hu h
        cases hm
        obtain ⟨hct, _⟩ := cellsOf_of hT hti
        have hcl' : cs.length = s := hcl.trans hct
        obtain ⟨ds, g1, g2, g3, g4⟩ := partsB_of (T := T) hB (R := DTc T n) (w := w) (cs := cs) fs (xs.map (·.1)) 0 (by rw [hcl']; exact htile) fun i f hm ti hft => by
          rw [← hfs, List.getElem?_map] at hm
          simp only [Option.map_eq_some_iff] at hm
          obtain ⟨fd, hfd, rfl⟩ := hm
          have hi' : fields[i]? = some fd := by simpa using hfd
          have hil : i < xs.length := by rw [hxl]; exact (Array.getElem?_eq_some_iff.1 hi').1
          have htr := hf i fd hi'
          rw [List.getElem?_eq_getElem hil] at htr
          obtain ⟨hcf, _⟩ := cellsOf_of hT hft
          rw [hcf] at htr
          have hSt : S.contains fd.type = true := by
            have := List.all_eq_true.1 hSf (fd.type, fd.offset) (by rw [← hfs]; exact List.mem_map.2 ⟨fd, List.mem_of_getElem? hfd, rfl⟩)
            exact this
          obtain ⟨ds, e1, e2, e3, e4⟩ := trod_RDB hB n fd.type _ _ htr hSt fun q hq => hw q (by
            simp only [DataW.weights, hu]
            exact DataW.weights_mem_each (j := i) (by simp [hi']) (by simp [List.getElem?_eq_getElem hil]) q hq)
          exact ⟨_, by rw [List.getElem?_map, List.getElem?_eq_getElem hil]; rfl, ds, e1, e2, e3 ti hft, e4⟩
        exact ⟨ds, by simpa using g1, by simp only [DTc, hti]; exact g2, fun ti hh => by cases hh; simp [g3, hcl'], Nat.le_trans g4 (hB.agg _)⟩
      | _ => cases hc
end

theorem arg_okB {P : Program} {T : Nat → Option TI} (hT : TOk P T) {S : List TypeId} (hS : closedT T S = true) {H : Type} {B : DataW H → Nat} {BA : List (DataW H) → Nat} (hB : Bulk B BA) {enc : TypeId × Value → H} {w : World} {base b0 : Nat} {spare : Nat → Bool} {held : Bool} {r : Reach} {t : TypeId} {v : Value} {d : DataW H} {ps : List MemPlace} (hval : Value.okWide P w r b0 t v)
    (h : DataW.Trod enc P w base spare held t v d ps) (ht : S.contains t = true) (hw : ∀ m ∈ d.weights P t, m ≤ reachBytes) : ∃ n ds, DTc T n t ds ∧ RA (cx noM noHeap noι w) (argOf T t ds) v ∧ bulkDs ds ≤ B d := by
  obtain ⟨n, hn⟩ := h
  obtain ⟨ds, h1, h2, h3, h4⟩ := trod_RDB hT hS hB n t _ _ hn ht hw
  refine ⟨n, ds, h2, ?_, h4⟩
  have hM : (cx noM noHeap noι w).M = noM := by
    funext b
    refine propext ⟨fun hb => ?_, fun hb => .inl hb⟩
    rcases hb with hb | ⟨k, hk, _⟩
    · exact hb
    · simp [dom, noHeap] at hk
  have h1' : RAs (cx noM noHeap noι w) (ds.map .d) v.cells.toList := RAs_map_d.2 (by rw [hM]; exact h1)
  have hc := List.all_eq_true.1 hS t (by simpa using ht)
  unfold argOf
  cases hti : T t with
  | none => rw [hti] at hc; cases hc
  | some ti =>
    rw [hti] at hc
    obtain ⟨k, s, b, z⟩ := ti
    have hfit := (hT t _ hti).2
    have one : v.cells = #[v] → RA (cx noM noHeap noι w) (packR (ds.map .d)) v := fun e => by
      rw [e] at h1'
      cases ds with
      | nil => simp [RAs] at h1'
      | cons x xs =>
        cases xs with
        | nil =>
          simp only [List.map_cons, List.map_nil, RAs] at h1'
          obtain ⟨v', t, e, h2, _⟩ := h1'
          cases e
          exact h2
        | cons y ys =>
          simp only [List.map_cons, RAs] at h1'
          obtain ⟨_, t1, e, _, _, t2, e2, _⟩ := h1'
          cases e
          cases e2
    cases k with
    | bool => simp only [TK.fits] at hfit; obtain ⟨c, rfl⟩ := Go.WideShapes.okWide_bool hfit hval; exact one rfl
    | int k => simp only [TK.fits] at hfit; obtain ⟨c, rfl⟩ := Go.WideShapes.okWide_int hfit hval; exact one rfl
    | str => simp only [TK.fits] at hfit; obtain ⟨c, rfl⟩ := Go.WideShapes.okWide_string hfit hval; exact one rfl
    | slice e => simp only [TK.fits] at hfit; obtain ⟨a, l, c, rfl⟩ := Go.WideShapes.okWide_slice hfit hval; exact one rfl
    | struct fs =>
      simp only [TK.fits] at hfit
      obtain ⟨fields, hu, _⟩ := hfit
      obtain ⟨cs, rfl, _⟩ := Go.WideShapes.okWide_struct hu hval
      simp only [RA]
      exact ⟨cs, rfl, h1'⟩
    | _ => cases hc
end Go.AL
/- AL, part 38: rows begun by a call in a drawn head; calls that are lent own rows and give errors. -/
namespace Go.AL
set_option linter.unusedVariables false
set_option linter.unusedSimpArgs false
section
variable {E : Env} {ops : List Oper} {Q : Exit → St → Prop} {J : Jt} {s : Slots} {h : Heap}
variable {p : Grow} {n i : Nat} {K : Slots → Prop}
end
section
variable {E : Env} {ops : List Oper} {Q : Exit → St → Prop} {i : Nat} {J : Jt} {h : Heap} {s : Slots}
end
end Go.AL
/- AL, part 39: a row that is begun by a call, lengthened, and lent in a drawn head. -/
namespace Go.AL
set_option linter.unusedVariables false
set_option linter.unusedSimpArgs false
section
variable {E : Env} {ops : List Oper} {Q : Exit → St → Prop} {i : Nat} {J : Jt} {h : Heap} {s : Slots}
variable {p : Grow} {n g3 : Nat} {R3 : AV} {P3 : Slots → Prop} {K : Slots → Prop}
end
end Go.AL
/- AL, part 40: a drawn head in which a new variable is laid, that is written behind it. -/
namespace Go.AL
set_option linter.unusedVariables false
set_option linter.unusedSimpArgs false
section
variable {E : Env} {ops : List Oper} {Q : Exit → St → Prop} {J : Jt} {s : Slots} {h : Heap}
end
end Go.AL
/- AL, part 42: a drawn head in which some operations each lay something new under a key of its own (variables, rows that calls give, rows appended to nothing), in whatever order. -/
namespace Go.AL
set_option linter.unusedVariables false
set_option linter.unusedSimpArgs false

/-- (operation, key, what it lays) -/
abbrev Effs := List (Nat × Nat × Ent)
section
variable {E : Env} {ops : List Oper} {Q : Exit → St → Prop} {J : Jt} {s : Slots} {h : Heap}
variable {l : Effs} {n i : Nat} {K : Slots → Prop}
theorem callArgs_same {ops : List Oper} {o : Oper} {fo : Operand} {args : Array Operand} {ts : Array TypeId} (hop : o.op = .call ⟨.value fo, args, ts⟩) {s s1 : Slots} (hs : ∀ t ∈ o.looksAt ops.toArray, s1 t = s t) : callArgs s1 fo args.toList = callArgs s fo args.toList := by
  have look : ∀ t, (Operand.tmp t = fo ∨ Operand.tmp t ∈ args) → t ∈ o.looksAt ops.toArray := fun t ht => by
    simp only [Oper.looksAt, List.mem_append, List.mem_filterMap]
    refine .inl ⟨.tmp t, ?_, rfl⟩
    rw [hop]
    rcases ht with h | h
    · simp [Op.operands, Call.operands, h]
    · simp [Op.operands, Call.operands]; exact .inr h
  have e1 : ev s1 fo = ev s fo := ev_same fun t e => hs t (look t (.inl e.symm))
  have e2 : args.toList.map (ev s1) = args.toList.map (ev s) := List.map_congr_left fun x hx => ev_same fun t e => hs t (look t (.inr (by rw [← e]; simpa using hx)))
  unfold callArgs
  rw [e1, e2]
end
end Go.AL
