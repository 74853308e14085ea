/- AL, part 19: parting on a truth; states made smaller; a nil slice as a row of the frame's own. -/
import Derived.Test.YthffbfjnahipcaaA18
namespace Go.AL
set_option linter.unusedVariables false
set_option linter.unusedSimpArgs false

theorem sset_self {s : Slots} {d : Nat} {v : AV} (h : s d = v) : sset s d v = s := by
  funext i
  by_cases hi : i = d
  · subst hi; rw [sset_same, h]
  · rw [sset_ne _ _ hi]

section
variable {E : Env} {ops : List Oper} {Q : Exit → St → Prop} {st : St} {c : Code} {i : Nat}
theorem OW_split (d : Nat) {b : Bool} (hs : st.s d = .d (.lit (.bool b))) (ht : b = true → OW E ops i Q { st with s := sset st.s d (.d (.lit (.bool true))) }) (hf : b = false → OW E ops i Q { st with s := sset st.s d (.d (.lit (.bool false))) }) : OW E ops i Q st := by
  cases b
  · have := hf rfl; rwa [sset_self hs] at this
  · have := ht rfl; rwa [sset_self hs] at this
theorem CW_split (d : Nat) {b : Bool} (hs : st.s d = .d (.lit (.bool b))) (ht : b = true → CW E c Q { st with s := sset st.s d (.d (.lit (.bool true))) }) (hf : b = false → CW E c Q { st with s := sset st.s d (.d (.lit (.bool false))) }) : CW E c Q st := by
  cases b
  · have := hf rfl; rwa [sset_self hs] at this
  · have := ht rfl; rwa [sset_self hs] at this
theorem HW_split (d : Nat) {J : Jt} {h : Heap} {n : Nat} {K : Slots → Prop} {s : Slots} {b : Bool} (hs : s d = .d (.lit (.bool b))) (ht : b = true → HW E ops J h n i K (sset s d (.d (.lit (.bool true))))) (hf : b = false → HW E ops J h n i K (sset s d (.d (.lit (.bool false))))) : HW E ops J h n i K s := by
  cases b
  · have := hf rfl; rwa [sset_self hs] at this
  · have := ht rfl; rwa [sset_self hs] at this
/-- A slot told by an equal value. -/
theorem OW_as (d : Nat) (v : AV) (hs : st.s d = v) (hk : OW E ops i Q { st with s := sset st.s d v }) : OW E ops i Q st := by rwa [sset_self hs] at hk
theorem CW_as (d : Nat) (v : AV) (hs : st.s d = v) (hk : CW E c Q { st with s := sset st.s d v }) : CW E c Q st := by rwa [sset_self hs] at hk
theorem HW_as (d : Nat) (v : AV) {J : Jt} {h : Heap} {n : Nat} {K : Slots → Prop} {s : Slots} (hs : s d = v) (hk : HW E ops J h n i K (sset s d v)) : HW E ops J h n i K s := by rwa [sset_self hs] at hk
/-- Where ways meet. -/
theorem CW_cut {x y : Code} (S : St) (h : CW E x (thenQ (fun st => LE E st S) Q) st) (h2 : CW E y Q S) : CW E (.seq x y) Q st :=
  CW_seq (CW.mono h fun e st q => by
    cases e with
    | normal => exact CW.le q h2
    | _ => exact q)
end

/-! ### Keys that are still there -/
mutual
def inH (h : Heap) : AV → Bool
  | .d _ => true
  | .any => true
  | .agg cs => inHs h cs
  | .tup cs => inHs h cs
  | .fn _ a b => inHs h a && inHs h b
  | .ptr k _ => (h k).isSome
  | .row k => (h k).isSome
def inHs (h : Heap) : List AV → Bool
  | [] => true
  | x :: xs => inH h x && inHs h xs
end
def inE (h : Heap) : Ent → Bool
  | .box _ cs => inHs h cs
  | .row _ _ _ => true
  | .ghost cs _ => inHs h cs

mutual
theorem RA_in {h : Heap} {C C' : Cx} (hk : Keeps C.w C'.w C.M C'.M) (hd : ∀ k, (h k).isSome = true → C'.dom k ∧ C'.ι k = C.ι k) : ∀ (x : AV) (v : Value), inH h x = true → RA C x v → RA C' x v
  | .d x, v => fun _ hx => by simp only [RA] at hx ⊢; exact RD_keeps hk x v hx
  | .agg cs, v => fun hi hx => by
    simp only [RA] at hx ⊢
    obtain ⟨vs, e, h1⟩ := hx
    exact ⟨vs, e, RAs_in hk hd cs _ (by simpa [inH] using hi) h1⟩
  | .tup cs, v => fun hi hx => by
    simp only [RA] at hx ⊢
    obtain ⟨vs, e, h1⟩ := hx
    exact ⟨vs, e, RAs_in hk hd cs _ (by simpa [inH] using hi) h1⟩
  | .fn f first cap, v => fun hi hx => by
    simp only [RA] at hx ⊢
    obtain ⟨vf, vc, e, h1, h2⟩ := hx
    simp [inH] at hi
    exact ⟨vf, vc, e, RAs_in hk hd first _ hi.1 h1, RAs_in hk hd cap _ hi.2 h2⟩
  | .any, v => fun _ hx => by simp only [RA]
  | .ptr k o, v => fun hi hx => by
    simp only [RA] at hx ⊢
    obtain ⟨_, b, h2, e⟩ := hx
    obtain ⟨g1, g2⟩ := hd k (by simpa [inH] using hi)
    exact ⟨g1, b, by rw [g2]; exact h2, e⟩
  | .row k, v => fun hi hx => by
    simp only [RA] at hx ⊢
    obtain ⟨g1, g2⟩ := hd k (by simpa [inH] using hi)
    exact ⟨g1, by rw [g2]; exact hx.2⟩
theorem RAs_in {h : Heap} {C C' : Cx} (hk : Keeps C.w C'.w C.M C'.M) (hd : ∀ k, (h k).isSome = true → C'.dom k ∧ C'.ι k = C.ι k) : ∀ (xs : List AV) (vs : List Value), inHs h xs = true → RAs C xs vs → RAs C' xs vs
  | [], vs => fun _ hx => by simpa only [RAs] using hx
  | x :: xs, vs => fun hi hx => by
    simp only [RAs] at hx ⊢
    obtain ⟨v, t, e, h1, h2⟩ := hx
    simp [inHs] at hi
    exact ⟨v, t, e, RA_in hk hd x v hi.1 h1, RAs_in hk hd xs t hi.2 h2⟩
end

def slh (H : Heap) (s s' : Slots) : Prop := ∀ i, s' i = .any ∨ (s' i = s i ∧ inH H (s' i) = true)
theorem slh_no (H : Heap) (s : Slots) : slh H s noSlots := fun _ => .inl rfl
theorem slh_set {H : Heap} {s s' : Slots} (h : slh H s s') {d : Nat} {v : AV} (hv : s d = v) (hin : inH H v = true) : slh H s (sset s' d v) := fun i => by
  by_cases hi : i = d
  · subst hi; rw [sset_same]; exact .inr ⟨hv.symm, hin⟩
  · rw [sset_ne _ _ hi]; exact h i
theorem slh_list {H : Heap} {s : Slots} : ∀ {L : List AV}, (∀ (i : Nat) (x : AV), L[i]? = some x → x = .any ∨ (x = s i ∧ inH H x = true)) → slh H s (listS L) := fun {L} h i => by
  unfold listS
  cases hi : L[i]? with
  | none => exact .inl (by simp [hi])
  | some x =>
    have := h i x hi
    simpa [hi] using this
def hlh (H h h' : Heap) : Prop := ∀ k, h' k = none ∨ (h' k = h k ∧ ∀ e, h' k = some e → inE H e = true)
theorem hlh_no (H h : Heap) : hlh H h noHeap := fun _ => .inl rfl
theorem hlh_set {H h h' : Heap} (hh : hlh H h h') {k : Nat} {e : Ent} (hv : h k = some e) (hin : inE H e = true) : hlh H h (hset h' k (some e)) := fun i => by
  by_cases hi : i = k
  · subst hi
    rw [hset_same]
    exact .inr ⟨hv.symm, fun e' he' => by cases he'; exact hin⟩
  · rw [hset_ne _ _ hi]; exact hh i

theorem LE_sh {E : Env} {J : Jt} {s s' : Slots} {h h' : Heap} (hs : slh h' s s') (hh : hlh h' h h') : LE E ⟨J, s, h⟩ ⟨J, s', h'⟩ := fun ι a w ⟨Z, K, Y, hZ, r⟩ => by
  have hdom : ∀ k, dom h' k → dom h k ∧ h' k = h k := fun k hk => by
    rcases hh k with e | ⟨e, _⟩
    · simp [dom, e] at hk
    · exact ⟨by unfold dom at hk ⊢; rw [← e]; exact hk, e⟩
  have keeps : Keeps w w (cx Z h ι w).M (cx Z h' ι w).M := by
    refine ⟨fun _ _ _ _ hh => hh, fun _ _ hh => hh, fun b _ hm hm' => ?_⟩
    rcases hm' with hz | ⟨j, hj, hjb⟩
    · exact hm (.inl hz)
    · exact hm (.inr ⟨j, (hdom j hj).1, hjb⟩)
  have hd : ∀ k, (h' k).isSome = true → (cx Z h' ι w).dom k ∧ (cx Z h' ι w).ι k = (cx Z h ι w).ι k := fun k hk => ⟨hk, rfl⟩
  refine ⟨ι, Z, K, Y, hZ, ⟨fun j e hj => ?_, fun j b hj hjb => r.mem.own j b (hdom j hj).1 hjb, fun j j' b hj hj' => r.mem.apart j j' b (hdom j hj).1 (hdom j' hj').1, r.mem.Zlt, r.mem.Klt, r.mem.Jw, r.mem.Jc⟩, r.size, fun i => ?_, r.ds⟩
  · rcases hh j with e' | ⟨e', hin⟩
    · rw [show h' j = some e from hj] at e'; cases e'
    · have hj' : h j = some e := by rw [← e']; exact hj
      have hin := hin e hj
      have ho := r.mem.ent j e hj'
      cases e with
      | box t cs =>
        obtain ⟨b, vs, h1, h2, h3⟩ := ho
        exact ⟨b, vs, h1, h2, RAs_in (C := cx Z h ι w) (C' := cx Z h' ι w) keeps hd _ _ hin h3⟩
      | row e sz xs =>
        obtain ⟨vs, h1, h2, h3⟩ := ho
        exact ⟨vs, h1, RDs_keeps keeps _ _ h2, h3⟩
      | ghost cs vs => exact ⟨ho.1, RAs_in (C := cx Z h ι w) (C' := cx Z h' ι w) keeps hd _ _ hin ho.2⟩
  · show RA _ (s' i) _
    rcases hs i with e | ⟨e, hin⟩
    · rw [e]; simp [RA]
    · have : RA (cx Z h ι w) (s i) (a.tmps.getD i undef) := r.slot i
      rw [← e] at this
      exact RA_in (C := cx Z h ι w) (C' := cx Z h' ι w) keeps hd _ _ hin this

/-- A box that holds a nil slice: a row of the frame's own, as yet empty. -/
theorem LE_nilRow {E : Env} {J : Jt} {s : Slots} {h : Heap} (k key : Nat) (e : TypeId) (sz : Nat) {t : TypeId} (hk : h k = some (.box t [.d (.lit (.slice none 0 0))])) (hkey : h key = none) :
    LE E ⟨J, s, h⟩ ⟨J, s, hset (hset h key (some (.row e sz []))) k (some (.box t [.row key]))⟩ := fun ι a w ⟨Z, K, Y, hZ, r⟩ => by
  have hne : k ≠ key := by intro e; subst e; rw [hk] at hkey; cases hkey
  obtain ⟨m1, kc⟩ := r.mem.add (Grew.refl w) hkey (e := .row e sz []) (v := .slice none 0 0) (fun b hb => by simp [blk] at hb) ⟨[], .inl ⟨none, rfl, rfl, rfl⟩, by simp [RDs], by simp, by simp⟩
  have hdom : ∀ j, dom (hset (hset h key (some (.row e sz []))) k (some (.box t [.row key]))) j ↔ dom (hset h key (some (.row e sz []))) j := by
    intro j
    by_cases hj : j = k
    · subst hj; simp only [dom, hset_same, hset_ne h _ hne, hk]; simp
    · simp only [dom, hset_ne _ _ hj]
  have hM : (cx Z (hset (hset h key (some (.row e sz []))) k (some (.box t [.row key]))) (fun j => bif Nat.beq j key then .slice none 0 0 else ι j) w).M = (cx Z (hset h key (some (.row e sz []))) (fun j => bif Nat.beq j key then .slice none 0 0 else ι j) w).M := by
    funext b
    refine propext (or_congr Iff.rfl ⟨fun ⟨j, hj, hb⟩ => ⟨j, (hdom j).1 hj, hb⟩, fun ⟨j, hj, hb⟩ => ⟨j, (hdom j).2 hj, hb⟩⟩)
  have kc2 : KeepsC (cx Z (hset h key (some (.row e sz []))) (fun j => bif Nat.beq j key then .slice none 0 0 else ι j) w) (cx Z (hset (hset h key (some (.row e sz []))) k (some (.box t [.row key]))) (fun j => bif Nat.beq j key then .slice none 0 0 else ι j) w) :=
    ⟨⟨fun _ _ _ _ hh => hh, fun _ _ hh => hh, fun b _ hm => by rw [hM]; exact hm⟩, fun j hj => ⟨(hdom j).2 hj, rfl⟩⟩
  refine ⟨_, Z, K, Y, hZ, ⟨fun j en hj => ?_, fun j b hj hjb => m1.own j b ((hdom j).1 hj) hjb, fun j j' b hj hj' => m1.apart j j' b ((hdom j).1 hj) ((hdom j').1 hj'), m1.Zlt, m1.Klt, m1.Jw, m1.Jc⟩, r.size, fun i => RA_keeps kc2 _ _ (RA_keeps kc _ _ (r.slot i)), r.ds⟩
  by_cases hjk : j = k
  · subst hjk
    have hj' : some (Ent.box t [.row key]) = some en := (hset_same _ _ _).symm.trans hj
    cases hj'
    have hb : Nat.beq j key = false := Bool.eq_false_iff.2 fun h' => hne (Nat.eq_of_beq_eq_true h')
    obtain ⟨b, vs, h1, h2, h3⟩ := r.mem.ent j _ hk
    simp only [RAs] at h3
    obtain ⟨v, tl, e1, e2, e3⟩ := h3
    obtain ⟨rfl, _⟩ := RA_lit.1 e2
    refine ⟨b, vs, by simp only [hb, cond_false]; exact h1, h2, ?_⟩
    rw [e1, e3]
    simp only [RAs]
    refine ⟨_, [], rfl, ?_, rfl⟩
    simp only [RA]
    refine ⟨(hdom key).2 ?_, by simp⟩
    simp [dom, hset_same]
  · have hj' : hset h key (some (.row e sz [])) j = some en := (hset_ne _ _ hjk).symm.trans hj
    exact EntOk.keeps kc2 (fun b cs t f _ hb => hb) (m1.ent j en hj')
end Go.AL
