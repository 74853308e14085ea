/- Parts of an abstract logic over the kit's walks, and walks in it: A50, A51, A52, A53, A54, A56, A57, A58, A59. -/
import Derived.Test.YtojnicnbmgiplaaAe
import Derived.Test.YtojnicnbmgiplaaAd
/- AL, part 50: quotients; text out of bytes that are data. -/
namespace Go.AL
set_option linter.unusedVariables false
set_option linter.unusedSimpArgs false
section
variable {E : Env} {ops : List Oper} {J : Jt} {h : Heap} {s : Slots}
end
end Go.AL
/- AL, part 51: A42's heads with one store more, into a variable that the head itself has made. -/
namespace Go.AL
set_option linter.unusedVariables false
set_option linter.unusedSimpArgs false
/-- Operation g2 fills what operation g1 has laid under k. -/
structure Upd where
  g1 : Nat
  g2 : Nat
  k : Nat
  e1 : Ent
  e2 : Ent
section
variable {E : Env} {ops : List Oper} {Q : Exit → St → Prop} {J : Jt} {s : Slots} {h : Heap}
theorem inv_ready {n i : Nat} {o : Oper} {listed : Array Bool} (inv : HeadInv .any ops.toArray n listed) (hi : i ∈ Region.ready .any ops.toArray listed) (ho : ops[i]? = some o) {e : Edge} (he : e ∈ o.after) (hb : Region.binds .any e = true) : bits listed e.on = true := by
  obtain ⟨_, o', ho', hall⟩ := mem_ready.1 hi
  have hoo : o' = o := by
    rw [List.getElem?_toArray, ho] at ho'
    exact (Option.some.inj ho').symm
  subst hoo
  exact hall e he hb
variable {l : Effs} {u : Upd} {n i : Nat} {K : Slots → Prop}
end
end Go.AL
/- AL, part 52: a range over a function that reads the frame's own row while the rounds write it: the row's handle and its cells are called by their values. -/
namespace Go.AL
set_option linter.unusedVariables false
set_option linter.unusedSimpArgs false

/-- Cells that are literal have their values. -/
def LitAt (cs : List AV) (vs : List Value) : Prop := ∀ (j : Nat) (u : Value), cs[j]? = some (AV.d (D.lit u)) → vs[j]? = some u
theorem LitAt.of {C : Cx} {cs : List AV} {vs : List Value} (h : RAs C cs vs) : LitAt cs vs := fun j u hj => by
  obtain ⟨v, h1, h2⟩ := RAs_get h hj
  obtain ⟨rfl, _⟩ := RA_lit.1 h2
  exact h1
/-- A row's handle. -/
def Handle (v : Value) (n : Nat) : Prop := n ≤ 140737488355328 ∧ ∃ a cap, v = .slice a n cap ∧ (0 < n → ∃ g, a = some ⟨g, 0, none⟩)
theorem Handle.ok {v : Value} {n : Nat} (h : Handle v n) : okLit v := by
  obtain ⟨h1, a, cap, rfl, _⟩ := h
  exact h1

section
variable {E : Env} {ops : List Oper} {Q : Exit → St → Prop} {i : Nat} {J : Jt} {h : Heap} {s : Slots} {o : Oper}
end

end Go.AL
/- AL, part 53: '==' of structs whose last field is a struct of plain cells. -/
namespace Go.AL
set_option linter.unusedVariables false
set_option linter.unusedSimpArgs false
section
variable {P : Program} {T : Nat → Option TI} (hT : TOk P T)
include hT
end
end Go.AL
/- AL, part 54: a drawn head in which one operation turns what is the frame's own, in whatever order; rows called by their handles. -/
namespace Go.AL
set_option linter.unusedVariables false
set_option linter.unusedSimpArgs false

section
variable {E : Env} {ops : List Oper} {Y : Nat → Slots → AV → Prop}
end

section
variable {E : Env} {ops : List Oper} {Q : Exit → St → Prop} {J : Jt} {s : Slots} {h : Heap}
variable {n i q k : Nat} {h1 : Heap} {K : Slots → Prop}
variable {st : St}
end

theorem noHeap_no {h : Heap} : ∀ (j : Nat) (e : Ent), noHeap j = some e → h j = some e := fun j e hj => by
  have hj : (none : Option Ent) = some e := hj
  cases hj
theorem nokeyS_no (k : Nat) : ∀ t, nokey k (noSlots t) = true := fun _ => rfl
theorem nokeyS_set {k : Nat} {s : Slots} {d : Nat} {v : AV} (h : ∀ t, nokey k (s t) = true) (hv : nokey k v = true) : ∀ t, nokey k (sset s d v t) = true := fun t => by
  by_cases ht : t = d
  · subst ht; rw [sset_same]; exact hv
  · rw [sset_ne _ _ ht]; exact h t
section
variable {E : Env} {ops : List Oper} {Q : Exit → St → Prop} {J : Jt} {s : Slots} {h : Heap} {n i q k : Nat} {h1 : Heap} {K : Slots → Prop}
end

end Go.AL
/- AL, part 56: a drawn head in which two rows grow, in whatever order, and the first of them is put back into its variable. -/
namespace Go.AL
set_option linter.unusedVariables false
set_option linter.unusedSimpArgs false

section
variable {E : Env} {ops : List Oper} {Y : Nat → Slots → AV → Prop}
end

def aft (o : Oper) (i : Nat) : Bool := o.after.any fun e => Region.binds .any e && Nat.beq e.on i
theorem aft_listed {ops : List Oper} {n i j : Nat} {o : Oper} {listed : Array Bool} (inv : HeadInv .any ops.toArray n listed) (ho : ops[i]? = some o) (h : aft o j = true) (hb : bits listed i = true) : bits listed j = true := by
  obtain ⟨e, hm, he⟩ := Array.any_eq_true'.1 h
  simp only [Bool.and_eq_true] at he
  have := inv.closed i o (by simpa using ho) hb e (by simpa using hm) he.1
  rwa [Nat.eq_of_beq_eq_true he.2] at this
theorem aft_ready {ops : List Oper} {n i j : Nat} {o : Oper} {listed : Array Bool} (inv : HeadInv .any ops.toArray n listed) (hi : i ∈ Region.ready .any ops.toArray listed) (ho : ops[i]? = some o) (h : aft o j = true) : bits listed j = true := by
  obtain ⟨e, hm, he⟩ := Array.any_eq_true'.1 h
  simp only [Bool.and_eq_true] at he
  have := inv_ready inv hi ho (by simpa using hm) he.1
  rwa [Nat.eq_of_beq_eq_true he.2] at this

/-- Where the two rows grow, at q1 and q2, and the first is put back, at q3. -/
structure Two where
  H : Bool → Bool → Bool → Heap
  q1 : Nat
  k1 : Nat
  q2 : Nat
  k2 : Nat
  q3 : Nat
section
variable {E : Env} {ops : List Oper} {Q : Exit → St → Prop} {J : Jt} {s : Slots} {h : Heap}
variable {n i : Nat} {t : Two} {K : Slots → Prop}
end
end Go.AL
/- AL, part 57: calls that only read what is the frame's own; a drawn head with whatever effects. -/
namespace Go.AL
set_option linter.unusedVariables false
set_option linter.unusedSimpArgs false

/-! ### Reading calls -/
section
variable {E : Env} {ops : List Oper} {Q : Exit → St → Prop} {i : Nat} {J : Jt} {s : Slots} {h : Heap}
end

/-! ### A drawn head with whatever effects -/
def ClosedB (ops : List Oper) (b : Nat → Bool) : Prop := ∀ j o, ops[j]? = some o → b j = true → ∀ p, aft o p = true → b p = true
def bset (b : Nat → Bool) (i : Nat) : Nat → Bool := fun j => bif Nat.beq j i then true else b j
def Rdy (ops : List Oper) (b : Nat → Bool) (i : Nat) (o : Oper) : Prop := ClosedB ops b ∧ b i = false ∧ ∀ p, aft o p = true → b p = true
structure Eff where
  qs : List Nat
  H : (Nat → Bool) → Heap
  nk : List (Nat × Nat)
theorem bits_set {listed : Array Bool} {i : Nat} (h : i < listed.size) : bits (listed.setIfInBounds i true) = bset (bits listed) i := by
  funext j
  unfold bset
  cases hb : Nat.beq j i with
  | true =>
    have := Nat.eq_of_beq_eq_true hb
    subst this
    simp [bits, h]
  | false =>
    have hji : i ≠ j := fun e => by rw [e] at hb; simp at hb
    exact getD_set_ne false hji

section
variable {E : Env} {ops : List Oper} {Q : Exit → St → Prop} {J : Jt} {s : Slots} {h : Heap}
variable {n i : Nat} {t : Eff} {K : Slots → Prop}
theorem putS_pu {N : Nat} {s : Slots} {dst : Option Nat} {x : AV} (hd : dstOk N dst = true) : putS N s dst x = some (pu s dst x) := by
  cases dst with
  | none => rfl
  | some d => simp only [dstOk] at hd; simp [putS, hd, pu]
end
end Go.AL
/- AL, part 58: more of the drawn heads; a variable's nil slice as an own row. -/
namespace Go.AL
set_option linter.unusedVariables false
set_option linter.unusedSimpArgs false

section
variable {E : Env} {ops : List Oper} {Q : Exit → St → Prop} {J : Jt} {s : Slots} {h : Heap} {n i : Nat} {t : Eff} {K : Slots → Prop}
end

/-! ### One variable made at a, filled at f -/
section
variable {h : Heap} {a f k : Nat} {e0 e1 : Ent}
theorem bset_self (b : Nat → Bool) (i : Nat) : bset b i i = true := by simp [bset]
end
/-! ### Heaps as lists -/
theorem LE_eq {E : Env} {J : Jt} {s : Slots} {h h' : Heap} (e : h = h') : LE E ⟨J, s, h⟩ ⟨J, s, h'⟩ := by subst e; exact LE.refl _ _

theorem DoesM.args {P : Program} {f : Nat} {l0 l1 : List (Nat × Ent)} {L L' : List AV} {R : AV} {kept : List Nat} (h : DoesM P f l0 L R l1 kept) (hin : inHs (heapOf l0) L' = true) (hle : AVles L' L) : DoesM P f l0 L' R l1 kept := by
  obtain ⟨⟨h1, h2, h3, h4, h5, h6⟩, h7⟩ := h
  exact ⟨⟨h1, h2, h3, hin, h5, h6⟩, fun n Z w ι vs hZ ho hv => h7 n Z w ι vs hZ ho (hle _ _ hv)⟩

/-! ### A variable's nil slice -/
end Go.AL
/- AL, part 59: an own variable's address is not nil; the lesser of two numbers. -/
namespace Go.AL
set_option linter.unusedVariables false
set_option linter.unusedSimpArgs false
section
variable {E : Env} {ops : List Oper} {J : Jt} {s : Slots} {h : Heap}
end
end Go.AL
