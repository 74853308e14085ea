/- AL, part 11: append; a row handed on as data. -/
import Derived.Test.YthffbfjnahipcaaA10
namespace Go.AL
set_option linter.unusedVariables false
set_option linter.unusedSimpArgs false

/-! No mention of the key k. -/
mutual
def nokey (k : Nat) : AV → Bool
  | .d _ => true
  | .any => true
  | .agg cs => nokeys k cs
  | .tup cs => nokeys k cs
  | .fn _ a b => nokeys k a && nokeys k b
  | .ptr j _ => !Nat.beq j k
  | .row j => !Nat.beq j k
def nokeys (k : Nat) : List AV → Bool
  | [] => true
  | x :: xs => nokey k x && nokeys k xs
end
/-- As KeepsC, but for one key. -/
structure KeepsK (k : Nat) (C C' : Cx) : Prop where
  d : Keeps C.w C'.w C.M C'.M
  dom : ∀ j, j ≠ k → C.dom j → C'.dom j ∧ C'.ι j = C.ι j
mutual
theorem RA_keepsK {k : Nat} {C C' : Cx} (h : KeepsK k C C') : ∀ (x : AV) (v : Value), nokey k x = true → RA C x v → RA C' x v
  | .d x, v => fun _ hx => by simp only [RA] at hx ⊢; exact RD_keeps h.d x v hx
  | .agg cs, v => fun hk hx => by
    simp only [RA] at hx ⊢
    obtain ⟨vs, e, h1⟩ := hx
    exact ⟨vs, e, RAs_keepsK h cs _ (by simpa [nokey] using hk) h1⟩
  | .tup cs, v => fun hk hx => by
    simp only [RA] at hx ⊢
    obtain ⟨vs, e, h1⟩ := hx
    exact ⟨vs, e, RAs_keepsK h cs _ (by simpa [nokey] using hk) h1⟩
  | .fn f first cap, v => fun hk hx => by
    simp only [RA] at hx ⊢
    obtain ⟨vf, vc, e, h1, h2⟩ := hx
    simp [nokey] at hk
    exact ⟨vf, vc, e, RAs_keepsK h first _ hk.1 h1, RAs_keepsK h cap _ hk.2 h2⟩
  | .any, v => fun _ hx => by simp only [RA]
  | .ptr j o, v => fun hk hx => by
    have hk : j ≠ k := by intro e; subst e; simp [nokey] at hk
    simp only [RA] at hx ⊢
    obtain ⟨hj, b, hb, e⟩ := hx
    have := h.dom j hk hj
    exact ⟨this.1, b, by rw [this.2]; exact hb, e⟩
  | .row j, v => fun hk hx => by
    have hk : j ≠ k := by intro e; subst e; simp [nokey] at hk
    simp only [RA] at hx ⊢
    have := h.dom j hk hx.1
    exact ⟨this.1, by rw [this.2]; exact hx.2⟩
theorem RAs_keepsK {k : Nat} {C C' : Cx} (h : KeepsK k C C') : ∀ (xs : List AV) (vs : List Value), nokeys k xs = true → RAs C xs vs → RAs C' xs vs
  | [], vs => fun _ hx => by simpa only [RAs] using hx
  | x :: xs, vs => fun hk hx => by
    simp only [RAs] at hx ⊢
    obtain ⟨v, t, e, h1, h2⟩ := hx
    simp [nokeys] at hk
    exact ⟨v, t, e, RA_keepsK h x v hk.1 h1, RAs_keepsK h xs t hk.2 h2⟩
end

/-- Whatever names the key is forgotten. -/
def unk (k : Nat) (x : AV) : AV := bif nokey k x then x else .any
def unkS (k : Nat) (s : Slots) : Slots := fun i => unk k (s i)
def unkE (k : Nat) : Ent → Ent
  | .box t cs => .box t (cs.map (unk k))
  | .row e sz xs => .row e sz xs
  | .ghost cs vs => .ghost (cs.map (unk k)) vs
def unkH (k : Nat) (h : Heap) : Heap := fun j => match h j with
  | some e => some (unkE k e)
  | none => none
theorem nokey_unk (k : Nat) (x : AV) : nokey k (unk k x) = true := by
  unfold unk
  cases h : nokey k x with
  | true => simpa using h
  | false => simp [nokey]
theorem RA_unk {k : Nat} {C : Cx} {x : AV} {v : Value} (h : RA C x v) : RA C (unk k x) v := by
  unfold unk
  cases nokey k x with
  | true => exact h
  | false => simp [RA]
theorem RAs_unk {k : Nat} {C : Cx} : ∀ {xs : List AV} {vs : List Value}, RAs C xs vs → RAs C (xs.map (unk k)) vs
  | [], vs, h => by simpa only [List.map_nil, RAs] using h
  | x :: xs, vs, h => by
    simp only [RAs, List.map_cons] at h ⊢
    obtain ⟨v, t, e, h1, h2⟩ := h
    exact ⟨v, t, e, RA_unk h1, RAs_unk h2⟩
theorem nokeys_unk (k : Nat) : ∀ (xs : List AV), nokeys k (xs.map (unk k)) = true
  | [] => by simp [nokeys]
  | x :: xs => by simp [nokeys, nokey_unk, nokeys_unk k xs]
theorem dom_unkH {k : Nat} {h : Heap} {j : Nat} : dom (unkH k h) j ↔ dom h j := by
  unfold dom unkH
  cases h j <;> simp

/-- The block of a key has turned, or the key has a new one. -/
theorem Mem.redo {Z K : Nat → Prop} {J : World → Prop} {h : Heap} {ι : Nat → Value} {w w' : World} (m : Mem Z K J h ι w) {k : Nat} (hkd : dom h k) {v' : Value} (hs : Step (fun b => b < w.heap.size ∧ some b ≠ blk (ι k)) w w')
    (hb' : ∀ b, blk v' = some b → b < w'.heap.size ∧ (blk (ι k) = some b ∨ w.heap.size ≤ b)) {e' : Ent}
    (he : EntOk (cx Z (hset (unkH k h) k (some e')) (fun j => bif Nat.beq j k then v' else ι j) w') e' v') :
    Mem Z K J (hset (unkH k h) k (some e')) (fun j => bif Nat.beq j k then v' else ι j) w' ∧ KeepsK k (cx Z h ι w) (cx Z (hset (unkH k h) k (some e')) (fun j => bif Nat.beq j k then v' else ι j) w') := by
  have hι : ∀ j, j ≠ k → (bif Nat.beq j k then v' else ι j) = ι j := by
    intro j hj
    have : Nat.beq j k = false := Bool.eq_false_iff.2 fun h' => hj (Nat.eq_of_beq_eq_true h')
    rw [this]; rfl
  have hιk : (bif Nat.beq k k then v' else ι k) = v' := by simp
  have hdom : ∀ j, dom (hset (unkH k h) k (some e')) j ↔ dom h j := by
    intro j
    by_cases hjk : j = k
    · subst hjk; simp only [dom, hset_same]; exact ⟨fun _ => hkd, fun _ => rfl⟩
    · simp only [dom, hset_ne (unkH k h) _ hjk]; exact dom_unkH
  have kk : KeepsK k (cx Z h ι w) (cx Z (hset (unkH k h) k (some e')) (fun j => bif Nat.beq j k then v' else ι j) w') := by
    refine ⟨⟨fun b o u hm hc => ?_, fun b hm hi => hi.at (hs.block b ⟨hi.lt, fun e => hm (.inr ⟨k, hkd, e.symm⟩)⟩), fun b hlt hm hm' => ?_⟩, fun j hj hd => ⟨(hdom j).2 hd, hι j hj⟩⟩
    · have hne : some b ≠ blk (ι k) := fun e => hm (.inr ⟨k, hkd, e.symm⟩)
      show w'.cell? _ = _
      rw [World.cell?_of_block (w := w) (a := ⟨b, o, none⟩) (hs.block b ⟨World.block_lt_of_cell? w ⟨b, o, none⟩ hc, hne⟩)]; exact hc
    · rcases hm' with hz | ⟨j, hj, hjb⟩
      · exact hm (.inl hz)
      · by_cases hjk : j = k
        · subst hjk
          simp only [hιk] at hjb
          have hlt' : b < w.heap.size := hlt.lt
          rcases (hb' b hjb).2 with h1 | h1
          · exact hm (.inr ⟨j, hkd, h1⟩)
          · omega
        · simp only [hι j hjk] at hjb
          exact hm (.inr ⟨j, (hdom j).1 hj, hjb⟩)
  have hstep : ∀ (b : Nat), K b → w'.heap[b]? = w.heap[b]? := fun b hz => hs.block b ⟨m.Klt b hz, fun e => (m.own k b hkd e.symm).2.1 hz⟩
  refine ⟨⟨fun j e hj => ?_, fun j b hj hjb => ?_, fun j j' b hj hj' hb1 hb2 => ?_, fun b hz => Nat.lt_of_lt_of_le (m.Zlt b hz) hs.size, fun b hz => Nat.lt_of_lt_of_le (m.Klt b hz) hs.size,
    m.Jc w w' m.Jw ⟨hs.os, hs.tape, hs.output, hs.size, hstep⟩, m.Jc⟩, kk⟩
  · by_cases hjk : j = k
    · subst hjk; rw [hset_same] at hj; cases hj; simp only [hιk]; exact he
    · rw [hset_ne (unkH k h) _ hjk] at hj
      simp only [hι j hjk]
      unfold unkH at hj
      split at hj
      · rename_i e0 he0
        cases hj
        have ho := m.ent j e0 he0
        have hdj : dom h j := by simp [dom, he0]
        have hkeep : ∀ b cs t f, blk (ι j) = some b → w.heap[b]? = some (.cells cs t f) → w'.heap[b]? = some (.cells cs t f) := by
          intro b cs t f hbj hbk
          rw [hs.block b ⟨(Array.getElem?_eq_some_iff.1 hbk).1, fun e => hjk (m.apart j k b hdj hkd hbj e.symm)⟩]; exact hbk
        cases e0 with
        | box t cs =>
          obtain ⟨b, vs, h1, h2, h3⟩ := ho
          exact ⟨b, vs, h1, hkeep b _ _ _ (blk_ptr h1) h2, RAs_keepsK kk _ _ (nokeys_unk k cs) (RAs_unk h3)⟩
        | row e sz xs =>
          obtain ⟨vs, h1, h2, h3⟩ := ho
          refine ⟨vs, ?_, RDs_keeps kk.d _ _ h2, h3⟩
          rcases h1 with h1 | ⟨g, cap, cur, g1, g0, g2, g3⟩
          · exact .inl h1
          · exact .inr ⟨g, cap, cur, g1, g0, hkeep g _ _ _ (by rw [g1]; simp [blk]; omega) g2, g3⟩
        | ghost cs vs => exact ⟨ho.1, RAs_keepsK kk _ _ (nokeys_unk k cs) (RAs_unk ho.2)⟩
      · cases hj
  · by_cases hjk : j = k
    · subst hjk
      simp only [hιk] at hjb
      rcases hb' b hjb with ⟨h1, h2 | h2⟩
      · have := m.own j b hkd h2
        exact ⟨this.1, this.2.1, h1⟩
      · exact ⟨fun hz => by have := m.Zlt b hz; omega, fun hz => by have := m.Klt b hz; omega, h1⟩
    · simp only [hι j hjk] at hjb
      have := m.own j b ((hdom j).1 hj) hjb
      exact ⟨this.1, this.2.1, Nat.lt_of_lt_of_le this.2.2 hs.size⟩
  · have hj0 := (hdom j).1 hj
    have hj0' := (hdom j').1 hj'
    by_cases h1 : j = k <;> by_cases h2 : j' = k
    · rw [h1, h2]
    · subst h1
      simp only [hιk] at hb1
      simp only [hι j' h2] at hb2
      rcases (hb' b hb1).2 with h3 | h3
      · exact m.apart _ _ b hkd hj0' h3 hb2
      · have := (m.own j' b hj0' hb2).2.2; omega
    · subst h2
      simp only [hιk] at hb2
      simp only [hι j h1] at hb1
      rcases (hb' b hb2).2 with h3 | h3
      · exact m.apart _ _ b hj0 hkd hb1 h3
      · have := (m.own j b hj0 hb1).2.2; omega
    · simp only [hι j h1] at hb1
      simp only [hι j' h2] at hb2
      exact m.apart _ _ b hj0 hj0' hb1 hb2

/-! ### append -/
/-- What is appended: values that lie side by side. -/
def Src (w : World) (u : Value) (m : Nat) (news : List Value) : Prop :=
  (∃ a c, u = .slice (some a) m c ∧ ∀ j x, news[j]? = some x → w.cell? (a.add j) = some x) ∨ (m = 0 ∧ ∃ c, u = .slice none 0 c)
theorem Src_of {C : Cx} {sz bts : Nat} {ys : List (List D)} {u : Value} (h : RA C (.d (.sl sz bts ys)) u) : ∃ news, Src C.w u ys.length news ∧ RDs C.w C.M ys.flatten news ∧ news.length = ys.length * sz := by
  simp only [RA, RD] at h
  obtain ⟨a, cap, rfl, h1, h2, h3, h4⟩ := h
  rcases h4 with rfl | ⟨b, off, rfl, hm, hb, hc⟩
  · refine ⟨[], ?_, by simp [RDs], by simp⟩
    cases a with
    | none => exact .inr ⟨rfl, cap, rfl⟩
    | some a => exact .inl ⟨a, cap, rfl, by simp⟩
  · obtain ⟨hf, hl⟩ := RCs_flat hc
    obtain ⟨vs, g1, g2⟩ := RC_list hf
    refine ⟨vs, .inl ⟨⟨b, off, none⟩, cap, rfl, fun j x hj => ?_⟩, g1, by rw [RDs_length g1, hl]⟩
    have : (⟨b, off, none⟩ : Addr).add j = ⟨b, off + j, none⟩ := by
      unfold Addr.add; split
      · subst_vars; simp
      · rfl
    rw [this]; exact g2 j x hj
theorem Src_nil {C : Cx} {u : Value} (h : RA C (.d (.lit (.slice none 0 0))) u) : Src C.w u 0 [] := by
  obtain ⟨rfl, _⟩ := RA_lit.1 h
  exact .inr ⟨rfl, 0, rfl⟩
theorem RDs_one {w : World} {M : Nat → Prop} : ∀ {xs : List D} {vs : List Value}, RDs w M xs vs → ∀ v ∈ vs, v.oneCell' = true
  | [], vs, h => by simp only [RDs] at h; subst h; simp
  | x :: xs, vs, h => by
    simp only [RDs] at h
    obtain ⟨v, t, rfl, h1, h2⟩ := h
    intro u hu
    rcases List.mem_cons.1 hu with rfl | hu
    · exact (RD_one h1).1
    · exact RDs_one h2 u hu

theorem run_append_any {P : Program} {T : Nat → Option TI} (hT : TOk P T) {t ty e : TypeId} {z1 z2 : Nat} {z3 : List Value} (ht : T t = some ⟨.slice e, z1, z2, z3⟩) {k : TK} {sz bts : Nat} {z6 : List Value} (hte : T e = some ⟨k, sz, bts, z6⟩) (hpos : Nat.ble 1 sz = true)
    {w : World} {v u : Value} {n m : Nat} {vs news : List Value} (hv : RowOk w v e sz n vs) (hvl : vs.length = n * sz) (hs : Src w u m news) (hnl : news.length = m * sz) (h1 : ∀ x ∈ news, x.oneCell' = true) (hn : n + m ≤ 140737488355328) (hb : (n + m) * bts ≤ 140737488355328) :
    ∃ v' w', (Builtin.append_ #[t, t] ty #[v, u]).run P w = .ok v' w' ∧ RowOk w' v' e sz (n + m) (vs ++ news) ∧ Step (fun b => b < w.heap.size ∧ some b ≠ blk v) w w' ∧ (∀ b, blk v' = some b → b < w'.heap.size ∧ (blk v = some b ∨ w.heap.size ≤ b)) := by
  have hu := (hT t _ ht).2
  simp only [TK.fits] at hu
  obtain ⟨⟨ie, hie, hsz, hby, z, hz, hzc, hzl⟩, _⟩ := hT e _ hte
  simp only at hsz hby hzc hzl
  have hpos' : 1 ≤ sz := Nat.le_of_ble_eq_true hpos
  have hmax : n + m ≤ maxLen := by simp [maxLen]; omega
  rcases Nat.eq_zero_or_pos m with hm | hm
  · -- nothing is appended
    subst hm
    have hn0 : news = [] := List.eq_nil_of_length_eq_zero (by simpa using hnl)
    subst hn0
    have hsame : ∀ a0 cap, v = .slice a0 n cap → n ≤ cap → (Builtin.append_ #[t, t] ty #[v, u]).run P w = .ok v w := by
      intro a0 cap e1 hcap
      subst e1
      rcases hs with ⟨a, c, rfl, _⟩ | ⟨_, c, rfl⟩ <;> cases a0 <;>
        simp [Builtin.append_, run_underlying hu, sizeOf, typeInfo, hie, Builtin.lenOf, hcap, Builtin.firstCells, loadCells, loadCellsFrom, storeCells]
    rcases hv with ⟨a0, e1, rfl, rfl⟩ | ⟨g, cap, cur, e1, hc0, hg, hnc, hcm, hcs, htk⟩
    · refine ⟨v, w, hsame a0 0 e1 (Nat.le_refl _), .inl ⟨a0, e1, rfl, rfl⟩, Step.refl _ w, fun b hb => ?_⟩
      rw [e1] at hb; cases a0 <;> simp [blk] at hb
    · refine ⟨v, w, hsame _ cap e1 hnc, .inr ⟨g, cap, cur, e1, hc0, hg, hnc, hcm, hcs, by simpa using htk⟩, Step.refl _ w, fun b hb => ⟨?_, .inl hb⟩⟩
      rw [e1] at hb
      simp [blk] at hb
      obtain ⟨_, rfl⟩ := hb
      exact (Array.getElem?_eq_some_iff.1 hg).1
  · obtain ⟨a, c, rfl, hnews⟩ : ∃ a c, u = .slice (some a) m c ∧ ∀ j x, news[j]? = some x → w.cell? (a.add j) = some x := by
      rcases hs with h | ⟨h, _⟩
      · exact h
      · omega
    have hzs : z.cells.size = sz := by
      have : z.cells.toList.length = sz := by rw [hzc]; exact hzl
      simpa using this
    have hfit : ∀ old, old < n + m → Builtin.nextslicecap (n + m) old * ie.bytes ≤ 281474976710656 := fun old ho => growslice_fits ho (by rw [hby]; exact hb)
    -- the new block where it grows
    have grown : ∀ (old : Nat), RowOk (w.drew.alloc (.cells (vs.toArray ++ news.toArray ++ Builtin.zeroCells z.cells (grownCap w (n + m) old e - (n + m))) e)) (.slice (some ⟨w.heap.size, 0, none⟩) (n + m) (grownCap w (n + m) old e)) e sz (n + m) (vs ++ news) ∧
        Step (fun b => b < w.heap.size ∧ some b ≠ blk v) w (w.drew.alloc (.cells (vs.toArray ++ news.toArray ++ Builtin.zeroCells z.cells (grownCap w (n + m) old e - (n + m))) e)) ∧
        (∀ b, blk (.slice (some ⟨w.heap.size, 0, none⟩) (n + m) (grownCap w (n + m) old e)) = some b → b < (w.drew.alloc (.cells (vs.toArray ++ news.toArray ++ Builtin.zeroCells z.cells (grownCap w (n + m) old e - (n + m))) e)).heap.size ∧ (blk v = some b ∨ w.heap.size ≤ b)) := by
      intro old
      have hge := grownCap_ge w (n + m) old e
      have hcm := grownCap_le_maxLen w (n + m) old e hmax
      have hlen : (vs ++ news).length = (n + m) * sz := by rw [List.length_append, hvl, hnl, Nat.add_mul]
      refine ⟨.inr ⟨w.heap.size, _, _, rfl, by omega, heap_alloc_new w.drew _, hge, hcm, ?_, ?_⟩, ⟨rfl, rfl, rfl, by simp, fun b hbs => RowKit.Below.heap_alloc w.drew _ b hbs.1⟩, fun b hbb => ?_⟩
      · simp only [Array.size_append, List.size_toArray, size_zeroCells, hzs, hvl, hnl, ← Nat.add_mul]
        congr 1
        omega
      · simp only [Array.toList_append, List.append_assoc]
        rw [← List.append_assoc, ← hlen]
        exact List.take_left
      · simp only [blk] at hbb
        split at hbb
        · cases hbb
        · cases hbb; exact ⟨by simp, .inr (Nat.le_refl _)⟩
    rcases hv with ⟨a0, e1, rfl, rfl⟩ | ⟨g, cap, cur, e1, hc0, hg, hnc, hcm, hcs, htk⟩
    · have gr := grown 0
      simp only [Nat.zero_add, List.nil_append, Array.empty_append] at gr hfit hb hn ⊢
      subst e1
      cases a0 with
      | none =>
        have hr := run_append_nil (P := P) w t ty e ie z hu hie hz a m c news (by rw [hsz]; exact hnl) hnews hm (by omega) (by rw [hby]; omega)
        exact ⟨_, _, hr, gr⟩
      | some b0 =>
        have hr := run_append_grow (P := P) w t ty e ie z hu hie hz b0 0 0 [] (by simp) (by simp) a m c news (by rw [hsz]; exact hnl) hnews (by omega) (by omega) (by simpa using hfit 0 hm)
        simp only [Nat.zero_add, Array.empty_append] at hr
        exact ⟨_, _, hr, gr⟩
    · subst e1
      have hbk : blk (.slice (some ⟨g, 0, none⟩) n cap) = some g := by simp [blk]; omega
      by_cases hroom : n + m ≤ cap
      · have hfit2 : n * ie.size + news.length ≤ cur.size := by rw [hnl, hcs, hsz, ← Nat.add_mul]; exact Nat.mul_le_mul_right _ hroom
        have hr := run_append_room (P := P) w t ty e ie hu hie g n cap cur hg a m c news (by rw [hsz]; exact hnl) hnews h1 hroom hfit2
        refine ⟨_, _, hr, .inr ⟨g, cap, _, rfl, hc0, setRow_heap w g cur _ e _ hg, hroom, hcm, ?_, ?_⟩, ⟨rfl, rfl, rfl, by simp, fun b hb => setRow_other w g b _ (fun e => hb.2 (by rw [hbk, e]))⟩, fun b hb => ?_⟩
        · simp only [List.size_toArray, List.length_append, List.length_take, List.length_drop, Array.length_toList]
          rw [hsz] at hfit2 ⊢
          omega
        · rw [hsz, htk]
          have : (vs ++ news).length = (n + m) * sz := by rw [List.length_append, hvl, hnl, Nat.add_mul]
          rw [← this]
          exact List.take_left
        · have hgl := (Array.getElem?_eq_some_iff.1 hg).1
          simp only [blk] at hb
          split at hb
          · cases hb
          · cases hb; exact ⟨by simpa using hgl, .inl hbk⟩
      · have holds : ∀ j x, vs[j]? = some x → w.cell? ((⟨g, 0, none⟩ : Addr).add j) = some x := by
          intro j x hj
          have hadd : (⟨g, 0, none⟩ : Addr).add j = ⟨g, j, none⟩ := by unfold Addr.add; split <;> simp_all
          rw [hadd, cell_of_row w g j cur e (0, 0) hg]
          rw [← htk, List.getElem?_take] at hj
          split at hj
          · simpa using hj
          · cases hj
        have hr := run_append_grow (P := P) w t ty e ie z hu hie hz ⟨g, 0, none⟩ n cap vs (by rw [hsz]; exact hvl) holds a m c news (by rw [hsz]; exact hnl) hnews (by omega) (by omega) (hfit cap (by omega))
        exact ⟨_, _, hr, grown cap⟩

section
variable {E : Env} {ops : List Oper} {Q : Exit → St → Prop} {st : St} {i : Nat}

theorem srcOf {Z : Nat → Prop} {h : Heap} {ι : Nat → Value} {w : World} {X : AV} {u : Value} (hx : RA (cx Z h ι w) X u) {sz bts : Nat} {ys : List (List D)} (hX : X = .d (.sl sz bts ys) ∨ (X = .d (.lit (.slice none 0 0)) ∧ ys = [])) :
    ∃ news, Src w u ys.length news ∧ RDs w (cx Z h ι w).M ys.flatten news ∧ news.length = ys.length * sz ∧ (∀ y ∈ ys, y.length = sz) := by
  rcases hX with rfl | ⟨rfl, rfl⟩
  · obtain ⟨news, h1, h2, h3⟩ := Src_of hx
    refine ⟨news, h1, h2, h3, ?_⟩
    simp only [RA, RD] at hx
    obtain ⟨a, cap, _, _, _, _, h4⟩ := hx
    rcases h4 with rfl | ⟨b, off, _, _, _, hc⟩
    · simp
    · intro y hy
      obtain ⟨j, hj⟩ := List.mem_iff_getElem?.1 hy
      exact (RCs_get hc hj).1
  · exact ⟨[], Src_nil hx, by simp [RDs], by simp, by simp⟩

theorem exec_append {P : Program} {dst : Option Tmp} {so xo : Operand} {t : TypeId} {ty : TypeId} {pos : String} {af : Array Edge} {gd : Option (Nat × Bool)} {a : Act} {w w' : World} {v' : Value}
    (hr : (Builtin.append_ #[t, t] ty #[a.eval so, a.eval xo]).run P w = .ok v' w') : (execOp a.eval ⟨dst, .call ⟨.builtin .append, #[so, xo], #[t, t]⟩, ty, pos, af, gd⟩).run P w = .ok (.value v') w' := by
  simp [execOp, resolve, invoke, builtin, hr]

/-- 'append' to nil: a new row. -/
theorem OW_appendNil (hE : E.Good) (key : Nat) {o : Oper} {t e : TypeId} {so xo : Operand} (ho : ops[i]? = some o) (hop : o.op = .call ⟨.builtin .append, #[so, xo], #[t, t]⟩) (hw : awant ops o st.s = some true) (hkey : st.h key = none) {z1 z2 : Nat} {z3 : List Value} (ht : E.T t = some ⟨.slice e, z1, z2, z3⟩)
    {k : TK} {sz bts : Nat} {z6 : List Value} (hte : E.T e = some ⟨k, sz, bts, z6⟩) (hpos : Nat.ble 1 sz = true) (hso : ev st.s so = .d (.lit (.slice none 0 0))) {ys : List (List D)} (hxo : ev st.s xo = .d (.sl sz bts ys) ∨ (ev st.s xo = .d (.lit (.slice none 0 0)) ∧ ys = []))
    (hn : ys.length ≤ 140737488355328) (hb : ys.length * bts ≤ 140737488355328)
    {s' : Slots} (hs : putS E.N st.s o.dst (.row key) = some s') (h : OW E ops (i + 1) Q ⟨st.J, s', hset st.h key (some (.row e sz ys))⟩) : OW E ops i Q st := by
  refine OW_lays hE ho hw (by rw [hop]; intro c hc; cases hc) key hkey (.row e sz ys) (.row key) (fun Z K Y ι a w r => ?_) hs h
  obtain ⟨dst, op, ty, pos, af, gd⟩ := o
  simp only at hop
  subst hop
  have h1 := RA_ev (C := cx Z st.h ι w) (s := st.s) (a := a) so fun t _ => r.slot t
  rw [hso] at h1
  obtain ⟨e1, _⟩ := RA_lit.1 h1
  obtain ⟨news, g1, g2, g3, g4⟩ := srcOf (RA_ev (C := cx Z st.h ι w) (s := st.s) (a := a) xo fun t _ => r.slot t) hxo
  obtain ⟨v', w', hr, q1, q2, q3⟩ := run_append_any hE.ok.T ht (ty := ty) hte hpos (n := 0) (m := ys.length) (vs := []) (v := .slice none 0 0) (.inl ⟨none, rfl, rfl, rfl⟩) (by simp) g1 g3 (RDs_one g2) (by omega) (by simpa using hb)
  have hg : Grew w w' := ⟨q2.os, q2.tape, q2.output, q2.size, fun b hbb => q2.block b ⟨hbb, by simp [blk]⟩⟩
  have hnew : ∀ b, blk v' = some b → w.heap.size ≤ b ∧ b < w'.heap.size := fun b hbb => by
    refine ⟨?_, (q3 b hbb).1⟩
    rcases (q3 b hbb).2 with h | h
    · simp [blk] at h
    · exact h
  refine ⟨v', v', w', exec_append (by rw [e1]; exact hr), hg, hnew, ?_, key_row⟩
  simp only [Nat.zero_add, List.nil_append] at q1
  exact row_new r.mem hg hkey e sz ys news v' g2 (fun b hbb => (hnew b hbb).1) q1 g4 hn

/-- 'append' to a row of the frame's own: under the same key; what named it before is forgotten. -/
theorem OW_append (hE : E.Good) {key : Nat} {o : Oper} {t e : TypeId} {so xo : Operand} (ho : ops[i]? = some o) (hop : o.op = .call ⟨.builtin .append, #[so, xo], #[t, t]⟩) (hw : awant ops o st.s = some true) {z1 z2 : Nat} {z3 : List Value} (ht : E.T t = some ⟨.slice e, z1, z2, z3⟩)
    {k : TK} {sz bts : Nat} {z6 : List Value} (hte : E.T e = some ⟨k, sz, bts, z6⟩) (hpos : Nat.ble 1 sz = true) (hso : ev st.s so = .row key) {xs : List (List D)} (hkey : st.h key = some (.row e sz xs)) {ys : List (List D)} (hxo : ev st.s xo = .d (.sl sz bts ys) ∨ (ev st.s xo = .d (.lit (.slice none 0 0)) ∧ ys = []))
    (hn : xs.length + ys.length ≤ 140737488355328) (hb : (xs.length + ys.length) * bts ≤ 140737488355328)
    {s' : Slots} (hs : putS E.N (unkS key st.s) o.dst (.row key) = some s') (h : OW E ops (i + 1) Q ⟨st.J, s', hset (unkH key st.h) key (some (.row e sz (xs ++ ys)))⟩) : OW E ops i Q st := fun ι a w r => by
  have hd : ops.drop i = o :: ops.drop (i + 1) := by
    obtain ⟨hlt, rfl⟩ := List.getElem?_eq_some_iff.1 ho
    exact List.drop_eq_getElem_cons hlt
  rw [hd]
  simp only [wpListIn]
  rw [if_pos (awant_ok r hw)]
  refine ⟨fun f _ => hE.wide.fn f, ?_⟩
  rw [Oper.semAt_plain E.F _ _ (by rw [hop]; intro c hc; cases hc)]
  obtain ⟨dst, op, ty, pos, af, gd⟩ := o
  simp only at hop hs
  subst hop
  obtain ⟨Z, K, Y, hZE, r⟩ := r
  have h1 := RA_ev (C := cx Z st.h ι w) (s := st.s) (a := a) so fun t _ => r.slot t
  rw [hso] at h1
  simp only [RA] at h1
  obtain ⟨hkd, e1⟩ := h1
  obtain ⟨news, g1, g2, g3, g4⟩ := srcOf (RA_ev (C := cx Z st.h ι w) (s := st.s) (a := a) xo fun t _ => r.slot t) hxo
  obtain ⟨vs, f1, f2, f3, f4⟩ := r.mem.ent key _ hkey
  have hfl : ∀ (l : List (List D)), (∀ y ∈ l, y.length = sz) → l.flatten.length = l.length * sz := by
    intro l
    induction l with
    | nil => simp
    | cons y ys ih => intro hy; simp [ih (fun q hq => hy q (by simp [hq])), hy y (by simp), Nat.add_mul]; omega
  have hvl : vs.length = xs.length * sz := by rw [RDs_length f2]; exact hfl xs f3
  obtain ⟨v', w', hr, q1, q2, q3⟩ := run_append_any hE.ok.T ht (ty := ty) hte hpos (n := xs.length) (m := ys.length) f1 hvl g1 g3 (RDs_one g2) hn hb
  rw [exec_append (v' := v') (w' := w') (by rw [e1]; exact hr)]
  show wpListIn _ _ _ _ _ _ _ _
  have hent : EntOk (cx Z (hset (unkH key st.h) key (some (.row e sz (xs ++ ys)))) (fun j => bif Nat.beq j key then v' else ι j) w') (.row e sz (xs ++ ys)) v' := by
    refine ⟨vs ++ news, by simpa using q1, ?_, ?_, by simpa using hn⟩
    · have := RDs_append f2 g2
      rw [← List.flatten_append] at this
      refine RDs_keeps (w := w) (M := (cx Z st.h ι w).M) ⟨fun b o u hm hc => ?_, fun b hm hi => hi.at (q2.block b ⟨hi.lt, fun e => hm (.inr ⟨key, hkd, e.symm⟩)⟩), fun b hlt hm hm' => ?_⟩ _ _ this
      · rw [World.cell?_of_block (w := w) (a := ⟨b, o, none⟩) (q2.block b ⟨World.block_lt_of_cell? w ⟨b, o, none⟩ hc, fun e => hm (.inr ⟨key, hkd, e.symm⟩)⟩)]; exact hc
      · rcases hm' with hz | ⟨j, hj, hjb⟩
        · exact hm (.inl hz)
        · by_cases hjk : j = key
          · subst hjk
            simp at hjb
            rcases (q3 b hjb).2 with h | h
            · exact hm (.inr ⟨_, hkd, h⟩)
            · have hlt' : b < w.heap.size := hlt.lt
              have h' : w.heap.size ≤ b := h
              omega
          · have hbq : Nat.beq j key = false := Bool.eq_false_iff.2 fun h' => hjk (Nat.eq_of_beq_eq_true h')
            simp only [dom, hset_ne (unkH key st.h) _ hjk] at hj
            simp only [hbq, cond_false] at hjb
            exact hm (.inr ⟨j, dom_unkH.1 hj, hjb⟩)
    · intro y hy
      rcases List.mem_append.1 hy with hy | hy
      · exact f3 y hy
      · exact g4 y hy
  obtain ⟨m', kk⟩ := r.mem.redo hkd q2 q3 hent
  have hmarks : Marks Z K w' a.defers := by
    obtain ⟨rs, p1, p2, p3⟩ := r.ds
    refine ⟨rs, p1, p2, fun x hx => ?_⟩
    obtain ⟨p4, p5⟩ := p3 x hx
    refine ⟨?_, p5⟩
    rw [q2.block x ⟨(Array.getElem?_eq_some_iff.1 p4).1, fun e => ?_⟩]
    · exact p4
    · rcases f1 with ⟨a0, e0, _⟩ | ⟨g, cap, cur, e0, hc0, hg, _⟩
      · rw [e0] at e; cases a0 <;> simp [blk] at e
      · rw [e0] at e
        have hg' : w.heap[g]? = some (.cells cur _ (0, 0)) := hg
        have : blk (.slice (some ⟨g, 0, none⟩) xs.length cap) = some g := by simp [blk]; omega
        rw [this] at e
        cases e
        rw [hg'] at p4
        cases p4
  have r0 : Rel Z K E.N (st.J K Y Z) (unkS key st.s) (hset (unkH key st.h) key (some (.row e sz (xs ++ ys)))) (fun j => bif Nat.beq j key then v' else ι j) a w' :=
    ⟨m', r.size, fun j => RA_keepsK kk _ _ (nokey_unk key _) (RA_unk (r.slot j)), hmarks⟩
  unfold putS at hs
  cases hdst : dst with
  | none =>
    simp only [hdst] at hs
    cases hs
    exact h _ _ w' ⟨Z, K, Y, hZE, Rel.put_none r0 (Grew.refl _) _⟩
  | some d =>
    simp only [hdst] at hs
    cases hbd : Nat.ble (d + 1) E.N with
    | false => rw [hbd] at hs; cases hs
    | true =>
      rw [hbd] at hs
      cases hs
      exact h _ _ w' ⟨Z, K, Y, hZE, Rel.put r0 (Grew.refl _) hbd key_row⟩
end

/-! ### A row handed on as data: nobody writes it from now on -/
mutual
def fz (k : Nat) (X : D) : AV → AV
  | .d x => .d x
  | .any => .any
  | .agg cs => .agg (fzs k X cs)
  | .tup cs => .tup (fzs k X cs)
  | .fn f a b => .fn f (fzs k X a) (fzs k X b)
  | .ptr j o => bif Nat.beq j k then .any else .ptr j o
  | .row j => bif Nat.beq j k then .d X else .row j
def fzs (k : Nat) (X : D) : List AV → List AV
  | [] => []
  | x :: xs => fz k X x :: fzs k X xs
end
def fzS (k : Nat) (X : D) (s : Slots) : Slots := fun i => fz k X (s i)
def fzE (k : Nat) (X : D) : Ent → Ent
  | .box t cs => .box t (fzs k X cs)
  | .row e sz xs => .row e sz xs
  | .ghost cs vs => .ghost (fzs k X cs) vs
def fzH (k : Nat) (X : D) (h : Heap) : Heap := fun j => bif Nat.beq j k then none else match h j with
  | some e => some (fzE k X e)
  | none => none
mutual
theorem RA_fz {k : Nat} {X : D} {C C' : Cx} (hk : Keeps C.w C'.w C.M C'.M) (hd : ∀ j, j ≠ k → C.dom j → C'.dom j ∧ C'.ι j = C.ι j) (hX : RD C'.w C'.M X (C.ι k)) : ∀ (x : AV) (v : Value), RA C x v → RA C' (fz k X x) v
  | .d x, v => fun hx => by simp only [RA, fz] at hx ⊢; exact RD_keeps hk x v hx
  | .agg cs, v => fun hx => by
    simp only [RA, fz] at hx ⊢
    obtain ⟨vs, e, h1⟩ := hx
    exact ⟨vs, e, RAs_fz hk hd hX cs _ h1⟩
  | .tup cs, v => fun hx => by
    simp only [RA, fz] at hx ⊢
    obtain ⟨vs, e, h1⟩ := hx
    exact ⟨vs, e, RAs_fz hk hd hX cs _ h1⟩
  | .fn f first cap, v => fun hx => by
    simp only [RA, fz] at hx ⊢
    obtain ⟨vf, vc, e, h1, h2⟩ := hx
    exact ⟨vf, vc, e, RAs_fz hk hd hX first _ h1, RAs_fz hk hd hX cap _ h2⟩
  | .any, v => fun _ => by simp only [RA, fz]
  | .ptr j o, v => fun hx => by
    simp only [fz]
    cases hb : Nat.beq j k with
    | true => simp [RA]
    | false =>
      have hne : j ≠ k := by intro e; subst e; simp at hb
      simp only [RA, cond_false] at hx ⊢
      obtain ⟨hj, b, hbk, e⟩ := hx
      have := hd j hne hj
      exact ⟨this.1, b, by rw [this.2]; exact hbk, e⟩
  | .row j, v => fun hx => by
    simp only [fz]
    cases hb : Nat.beq j k with
    | true =>
      have e := Nat.eq_of_beq_eq_true hb
      subst e
      simp only [RA, cond_true] at hx ⊢
      rw [hx.2]; exact hX
    | false =>
      have hne : j ≠ k := by intro e; subst e; simp at hb
      simp only [RA, cond_false] at hx ⊢
      have := hd j hne hx.1
      exact ⟨this.1, by rw [this.2]; exact hx.2⟩
theorem RAs_fz {k : Nat} {X : D} {C C' : Cx} (hk : Keeps C.w C'.w C.M C'.M) (hd : ∀ j, j ≠ k → C.dom j → C'.dom j ∧ C'.ι j = C.ι j) (hX : RD C'.w C'.M X (C.ι k)) : ∀ (xs : List AV) (vs : List Value), RAs C xs vs → RAs C' (fzs k X xs) vs
  | [], vs => fun hx => by simpa only [RAs, fzs] using hx
  | x :: xs, vs => fun hx => by
    simp only [RAs, fzs] at hx ⊢
    obtain ⟨v, t, e, h1, h2⟩ := hx
    exact ⟨v, t, e, RA_fz hk hd hX x v h1, RAs_fz hk hd hX xs t h2⟩
end

theorem LE_freeze {E : Env} {J : Jt} {s : Slots} {h : Heap} (k : Nat) {e : TypeId} {sz : Nat} {xs : List (List D)} (bts : Nat) (hk : h k = some (.row e sz xs)) (hb : xs.length * bts ≤ 140737488355328) :
    LE E ⟨J, s, h⟩ ⟨J, fzS k (.sl sz bts xs) s, fzH k (.sl sz bts xs) h⟩ := fun ι a w ⟨Z, K, Y, hZE, r⟩ => by
  have hdom : ∀ j, dom (fzH k (.sl sz bts xs) h) j ↔ j ≠ k ∧ dom h j := by
    intro j
    unfold dom fzH
    cases hbq : Nat.beq j k with
    | true =>
      have e := Nat.eq_of_beq_eq_true hbq
      simp [e]
    | false =>
      have hne : j ≠ k := by intro e; subst e; simp at hbq
      simp only [cond_false]
      cases hj : h j <;> simp [hne]
  have hkd : dom h k := by simp [dom, hk]
  have keeps : Keeps w w (cx Z h ι w).M (cx Z (fzH k (.sl sz bts xs) h) ι w).M := by
    refine ⟨fun _ _ _ _ hh => hh, fun _ _ hh => hh, fun b _ hm hm' => ?_⟩
    rcases hm' with hz | ⟨j, hj, hjb⟩
    · exact hm (.inl hz)
    · exact hm (.inr ⟨j, ((hdom j).1 hj).2, hjb⟩)
  have hd : ∀ j, j ≠ k → (cx Z h ι w).dom j → (cx Z (fzH k (.sl sz bts xs) h) ι w).dom j ∧ ι j = ι j := fun j hne hj => ⟨(hdom j).2 ⟨hne, hj⟩, rfl⟩
  have hX : RD w (cx Z (fzH k (.sl sz bts xs) h) ι w).M (.sl sz bts xs) (ι k) := by
    obtain ⟨vs, h1, h2, h3, h4⟩ := r.mem.ent k _ hk
    simp only [RD]
    rcases h1 with ⟨a0, e0, hn, _⟩ | ⟨g, cap, cur, e0, hc0, hg, hnc, hcm, hcs, htk⟩
    · have hx : xs = [] := List.eq_nil_of_length_eq_zero hn
      subst hx
      exact ⟨a0, 0, by rw [e0]; rfl, by simp, by simp, by simp, .inl rfl⟩
    · have hbk : blk (ι k) = some g := by rw [e0]; simp [blk]; omega
      have hg' : w.heap[g]? = some (.cells cur e (0, 0)) := hg
      refine ⟨some ⟨g, 0, none⟩, cap, e0, hnc, hb, h4, .inr ⟨g, 0, rfl, fun hm => ?_, ⟨_, _, _, hg'⟩, RCs_of_flat h3 (RC_of_list (RDs_keeps keeps _ _ h2) fun j v hj => ?_)⟩⟩
      · rcases hm with hz | ⟨j, hj, hjb⟩
        · exact (r.mem.own k g hkd hbk).1 hz
        · have hj' := (hdom j).1 hj
          exact hj'.1 (r.mem.apart j k g hj'.2 hkd hjb hbk)
      · rw [cell_of_row w g _ cur e (0, 0) hg']
        rw [← htk, List.getElem?_take] at hj
        split at hj
        · simpa using hj
        · cases hj
  refine ⟨ι, Z, K, Y, hZE, ⟨fun j e' hj => ?_, fun j b hj hjb => r.mem.own j b ((hdom j).1 hj).2 hjb, fun j j' b hj hj' => r.mem.apart j j' b ((hdom j).1 hj).2 ((hdom j').1 hj').2, r.mem.Zlt, r.mem.Klt, r.mem.Jw, r.mem.Jc⟩, r.size,
    fun j => RA_fz (C := cx Z h ι w) (C' := cx Z (fzH k (.sl sz bts xs) h) ι w) keeps hd hX _ _ (r.slot j), r.ds⟩
  have hj0 : j ≠ k := ((hdom j).1 (show (fzH k (.sl sz bts xs) h j).isSome = true by rw [show fzH k (.sl sz bts xs) h j = some e' from hj]; rfl)).1
  have hbq : Nat.beq j k = false := Bool.eq_false_iff.2 fun h' => hj0 (Nat.eq_of_beq_eq_true h')
  have hj' : (match h j with | some e => some (fzE k (.sl sz bts xs) e) | none => none) = some e' := by
    have : fzH k (.sl sz bts xs) h j = some e' := hj
    unfold fzH at this
    rw [hbq] at this
    exact this
  split at hj'
  · rename_i e0 he0
    cases hj'
    have ho := r.mem.ent j e0 he0
    cases e0 with
    | box t cs =>
      obtain ⟨b, vs, h1, h2, h3⟩ := ho
      exact ⟨b, vs, h1, h2, RAs_fz (C := cx Z h ι w) (C' := cx Z (fzH k (.sl sz bts xs) h) ι w) keeps hd hX _ _ h3⟩
    | row e2 sz2 xs2 =>
      obtain ⟨vs, h1, h2, h3⟩ := ho
      exact ⟨vs, h1, RDs_keeps keeps _ _ h2, h3⟩
    | ghost cs vs => exact ⟨ho.1, RAs_fz (C := cx Z h ι w) (C' := cx Z (fzH k (.sl sz bts xs) h) ι w) keeps hd hX _ _ ho.2⟩
  · cases hj'
end Go.AL
