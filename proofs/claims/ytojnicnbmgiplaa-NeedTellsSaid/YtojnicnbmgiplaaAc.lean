/- Parts of an abstract logic over the kit's walks, and walks in it: A15, A16, A17, A18, A19, A20, A21, A22. -/
import Derived.Test.YtojnicnbmgiplaaAb
import Derived.ChangeArms
import Derived.SizedLaws
import Derived.DataReads
import Derived.ChangeShapes
import Derived.WideShapes
import Derived.Laws.StructEq
/- AL, part 15: the consumer of an iterator: its state while the iterator is at work, and within a round. -/
namespace Go.AL
set_option linter.unusedVariables false
set_option linter.unusedSimpArgs false

/-! ### The consumer, seen from the iterator -/
structure ConsX (EZ : Nat → Prop) (tm : List Value) (rs : List Nat) (G l : Nat) (rec : Loop) (K Y Z : Nat → Prop) (w : World) (J : Jt) (h : Heap) (L : List AV) (ι : Nat → Value) (Za Ya Ka : Nat → Prop) : Prop where
  g : h G = some (.ghost L tm)
  mj : Mono J
  ez : ∀ b, EZ b → Za b
  ezk : ∀ b, EZ b → K b
  yaz : ∀ b, Ya b → Za b
  yak : ∀ b, Ya b → K b
  yay : ∀ b, Ya b → Y b
  mem : Mem Za Ka (J Ka Ya Za) h ι w
  zk : ∀ b, b < w.heap.size → ¬ K b → Za b
  kak : ∀ b, Ka b → K b
  klt : ∀ b, K b → b < w.heap.size
  own : ∀ k b, dom h k → blk (ι k) = some b → K b ∧ Y b
  mz : ∀ b, Za b → Z b ∨ ¬ K b
  rc : w.heap[l]? = some (.loop rec)
  lk : K l
  ly : Y l
  lka : ¬ Ka l
  lya : ¬ Ya l
  rnd : rs.Nodup
  rs : ∀ r ∈ rs, w.heap[r]? = some (.deferred (some [])) ∧ K r ∧ ¬ Y r ∧ ¬ Ka r ∧ ¬ Za r

def Cons (EZ : Nat → Prop) (tm : List Value) (rs : List Nat) (G l : Nat) (rec : Loop) (S : Jt → Heap → List AV → Prop) : Jt := fun K Y Z w =>
  ∃ J h L ι Za Ya Ka, S J h L ∧ ConsX EZ tm rs G l rec K Y Z w J h L ι Za Ya Ka

theorem mono_cons {EZ : Nat → Prop} {tm : List Value} {rs : List Nat} {G l : Nat} {rec : Loop} {S : Jt → Heap → List AV → Prop} : Mono (Cons EZ tm rs G l rec S) := by
  refine ⟨fun K Y Z w w' ⟨J, h, L, ι, Za, Ya, Ka, hS, x⟩ hs => ?_, fun K K2 Y Z Z2 w ⟨J, h, L, ι, Za, Ya, Ka, hS, x⟩ hK hKi hZ hZ2 => ?_⟩
  · have hJ : J Ka Ya (plus Za (fresh w w')) w' := by
      refine x.mj.closed Ka Ya _ w w' (x.mj.mono Ka Ka Ya Za _ w x.mem.Jw (fun _ h => h) (fun _ h => .inl h) (fun _ _ h => .inl h) (fun b h => h.imp (fun h => h) (fun h => h.1))) (hs.weaken x.kak)
    obtain ⟨m', _⟩ := x.mem.side (Z' := plus Za (fresh w w')) (K' := Ka) (w' := w') (fun b hb hz => hs.block b (Classical.byContradiction fun hk => hz (x.zk b hb hk))) hs.size (fun b h => h.imp (fun h => h) (fun h => h.1))
      (fun b h => h.elim (fun h => Nat.lt_of_lt_of_le (x.mem.Zlt b h) hs.size) (fun h => h.2)) (fun k b hk hb => (x.mem.own k b hk hb).2.1) (fun b h => Nat.lt_of_lt_of_le (x.mem.Klt b h) hs.size) hJ (x.mj.closed _ _ _)
    refine ⟨J, h, L, ι, plus Za (fresh w w'), Ya, Ka, hS, x.g, x.mj, fun b hb => .inl (x.ez b hb), x.ezk, fun b hb => .inl (x.yaz b hb), x.yak, x.yay, m', fun b hb hk => ?_, x.kak, fun b hb => Nat.lt_of_lt_of_le (x.klt b hb) hs.size, x.own, fun b hb => ?_,
      by rw [hs.block l x.lk]; exact x.rc, x.lk, x.ly, x.lka, x.lya, x.rnd, fun r hr => ?_⟩
    · by_cases hlt : b < w.heap.size
      · exact .inl (x.zk b hlt hk)
      · exact .inr ⟨by omega, hb⟩
    · rcases hb with hb | hb
      · exact x.mz b hb
      · exact .inr fun hk => by have := x.klt b hk; have := hb.1; omega
    · obtain ⟨g1, g2, g3, g4, g5⟩ := x.rs r hr
      refine ⟨by rw [hs.block r g2]; exact g1, g2, g3, g4, fun hz => ?_⟩
      rcases hz with hz | hz
      · exact g5 hz
      · have := x.klt r g2; have := hz.1; omega
  · let Za2 : Nat → Prop := fun b => Za b ∧ (K b ∨ ¬ K2 b)
    have hJ : J Ka Ya Za2 w := x.mj.mono Ka Ka Ya Za Za2 w x.mem.Jw (fun _ h => h) (fun _ h => .inl h) (fun b hb hz => ⟨hz, .inl (x.kak b hb)⟩) (fun b h => .inl h.1)
    obtain ⟨m', _⟩ := x.mem.side (Z' := Za2) (K' := Ka) (w' := w) (fun _ _ _ => rfl) (Nat.le_refl _) (fun b h => .inl h.1) (fun b h => x.mem.Zlt b h.1) (fun k b hk hb => (x.mem.own k b hk hb).2.1) x.mem.Klt hJ (x.mj.closed _ _ _)
    refine ⟨J, h, L, ι, Za2, Ya, Ka, hS, x.g, x.mj, fun b hb => ⟨x.ez b hb, .inl (x.ezk b hb)⟩, fun b hb => hK b (x.ezk b hb), fun b hb => ⟨x.yaz b hb, .inl (x.yak b hb)⟩, fun b hb => hK b (x.yak b hb), x.yay, m', fun b hb hk => ⟨x.zk b hb fun h => hk (hK b h), .inr hk⟩,
      fun b hb => hK b (x.kak b hb), fun b hb => (hKi b hb).elim (x.klt b) (fun h => h.lt), fun k b hk hb => ⟨hK b (x.own k b hk hb).1, (x.own k b hk hb).2⟩, fun b hb => ?_, x.rc, hK l x.lk, x.ly, x.lka, x.lya, x.rnd, fun r hr => ?_⟩
    · rcases hb.2 with h1 | h1
      · rcases x.mz b hb.1 with h2 | h2
        · exact .inl (hZ b h1 h2)
        · exact (h2 h1).elim
      · exact .inr h1
    · obtain ⟨g1, g2, g3, g4, g5⟩ := x.rs r hr
      exact ⟨g1, hK r g2, g3, g4, fun hz => g5 hz.1⟩

theorem mono_ex {α : Type} {J : α → Jt} (h : ∀ a, Mono (J a)) : Mono (fun K Y Z w => ∃ a, J a K Y Z w) :=
  ⟨fun K Y Z w w' ⟨a, ha⟩ hs => ⟨a, (h a).closed K Y Z w w' ha hs⟩, fun K K2 Y Z Z2 w ⟨a, ha⟩ h1 h2 h3 h4 => ⟨a, (h a).mono K K2 Y Z Z2 w ha h1 h2 h3 h4⟩⟩

/-! ### The consumer within a round -/
structure Ex (K0 Y0 Ya0 Za0 : Nat → Prop) (w1 : World) (rs : List Nat) (l : Nat) (rec : Loop) (Kj K Y Z : Nat → Prop) (w : World) : Prop where
  rc : w.heap[l]? = some (.loop rec)
  lk : K l
  lkj : ¬ Kj l
  ly : ¬ Y l
  st : Step (fun b => b < w1.heap.size ∧ ¬ Y0 b) w1 w
  sk : ∀ b, b < w1.heap.size → ¬ Y0 b → K b
  kj : ∀ b, Kj b → b < w1.heap.size → K0 b
  y : ∀ b, Y b → b < w1.heap.size → Ya0 b
  z : ∀ b, Z b → b < w1.heap.size → Za0 b
  rs : ∀ r ∈ rs, ¬ Kj r ∧ ¬ Z r ∧ ¬ Y0 r ∧ w1.heap[r]? = some (.deferred (some []))

def rnd (K0 Y0 Ya0 Za0 : Nat → Prop) (w1 : World) (rs : List Nat) (l : Nat) (rec : Loop) (J : Jt) : Jt := fun K Y Z w =>
  ∃ Kj : Nat → Prop, (∀ b, Kj b → K b) ∧ J Kj Y Z w ∧ Ex K0 Y0 Ya0 Za0 w1 rs l rec Kj K Y Z w

section
variable {K0 Y0 Ya0 Za0 : Nat → Prop} {w1 : World} {rs : List Nat} {l : Nat} {rec : Loop}
theorem mono_rnd {J : Jt} (hJ : Mono J) : Mono (rnd K0 Y0 Ya0 Za0 w1 rs l rec J) := by
  refine ⟨fun K Y Z w w' ⟨Kj, h1, h2, x⟩ hs => ⟨Kj, h1, hJ.closed Kj Y Z w w' h2 (hs.weaken h1), ?_⟩, fun K K2 Y Z Z2 w ⟨Kj, h1, h2, x⟩ hK hKi hZ hZ2 => ⟨Kj, fun b hb => hK b (h1 b hb), ?_, ?_⟩⟩
  · exact ⟨by rw [hs.block l x.lk]; exact x.rc, x.lk, x.lkj, x.ly, x.st.trans (hs.weaken fun b hb => x.sk b hb.1 hb.2), x.sk, x.kj, x.y, x.z, x.rs⟩
  · exact hJ.mono Kj Kj Y Z Z2 w h2 (fun _ h => h) (fun _ h => .inl h) (fun b hb hz => hZ b (h1 b hb) hz) hZ2
  · have hsz := x.st.size
    refine ⟨x.rc, hK l x.lk, x.lkj, x.ly, x.st, fun b hb hy => hK b (x.sk b hb hy), x.kj, x.y, fun b hb hlt => ?_, fun r hr => ?_⟩
    · rcases hZ2 b hb with h | h
      · exact x.z b h hlt
      · omega
    · obtain ⟨g1, g2, g3, g4⟩ := x.rs r hr
      refine ⟨g1, fun hz => ?_, g3, g4⟩
      rcases hZ2 r hz with h | h
      · exact g2 h
      · have := (Array.getElem?_eq_some_iff.1 g4).1
        omega

theorem wrap_rnd {Z0 : Nat → Prop} (h0 : ∀ b, Z0 b → Za0 b) (hzk : ∀ b, b < w1.heap.size → ¬ K0 b → Za0 b) (hyy : ∀ b, Ya0 b → Y0 b) {W : Jt → Jt} (hW : Wrap Z0 W) : Wrap Za0 (fun J => rnd K0 Y0 Ya0 Za0 w1 rs l rec (W J)) := by
  refine ⟨fun J hJ => mono_rnd (hW.mono J hJ), fun J K Y Z w ⟨Km, h1, h2, x⟩ hz => ?_⟩
  obtain ⟨Kj, g1, g2, g3⟩ := hW.yields J Km Y Z w h2 fun b hb => hz b (h0 b hb)
  refine ⟨Kj, fun b hb => h1 b (g1 b hb), g2, fun J' Kj' w' k1 k2 k3 k4 => ⟨plus Km Kj', ?_, g3 J' Kj' w' k1 k2 k3 k4, ?_⟩⟩
  · intro b hb
    rcases hb with hb | hb
    · exact .inl (h1 b hb)
    · exact .inr hb
  · have hl := (Array.getElem?_eq_some_iff.1 x.rc).1
    have hsz := x.st.size
    have hkm : ∀ b, plus Km Kj' b → Km b ∨ (¬ Z b ∧ isCells w b) ∨ fresh w w' b := fun b hb => by
      rcases hb with hb | hb
      · exact .inl hb
      · rcases k2 b hb with h | h
        · exact .inl (g1 b h)
        · exact .inr h
    have hr : ∀ r ∈ rs, w.heap[r]? = some (.deferred (some [])) := fun r hr => by
      obtain ⟨_, _, g3, g4⟩ := x.rs r hr
      rw [x.st.block r ⟨(Array.getElem?_eq_some_iff.1 g4).1, g3⟩]; exact g4
    refine ⟨by rw [k3.block l ⟨hl, x.ly⟩]; exact x.rc, .inl x.lk, fun hb => ?_, fun hb => ?_, x.st.trans (k3.weaken fun b hb => ⟨Nat.lt_of_lt_of_le hb.1 hsz, fun hy => hb.2 (hyy b (x.y b hy hb.1))⟩), fun b hb hy => .inl (x.sk b hb hy), fun b hb hlt => ?_, fun b hb hlt => ?_, fun b hb hlt => ?_, fun r hr' => ?_⟩
    · rcases hkm l hb with h | ⟨_, c, t, f, hc⟩ | h
      · exact x.lkj h
      · rw [x.rc] at hc; cases hc
      · have := h.1; omega
    · rcases hb with h | h
      · exact x.ly h
      · have := h.1; omega
    · rcases hkm b hb with h | ⟨h, _⟩ | h
      · exact x.kj b h hlt
      · exact Classical.byContradiction fun hk => h (hz b (hzk b hlt hk))
      · have := h.1; omega
    · rcases hb with h | h
      · exact x.y b h hlt
      · have := h.1; omega
    · rcases hb with h | h
      · exact x.z b h hlt
      · have := h.1; omega
    · obtain ⟨g1', g2', g3', g4'⟩ := x.rs r hr'
      have hlt := (Array.getElem?_eq_some_iff.1 g4').1
      refine ⟨fun hb => ?_, fun hb => ?_, g3', g4'⟩
      · rcases hkm r hb with h | ⟨_, c, t, f, hc⟩ | h
        · exact g1' h
        · rw [hr r hr'] at hc; cases hc
        · have := h.1; omega
      · rcases hb with h | h
        · exact g2' h
        · have := h.1; omega
end
end Go.AL
/- AL, part 16: the rule for a range over a function. -/
namespace Go.AL
set_option linter.unusedVariables false
set_option linter.unusedSimpArgs false

def listS (L : List AV) : Slots := fun i => L.getD i .any
def slotsL (N : Nat) (s : Slots) : List AV := (List.range N).map s
def psets : List Tmp → List AV → Slots → Slots
  | p :: ps, x :: xs, s => psets ps xs (sset s p x)
  | _, _, s => s

theorem RAs_listS {C : Cx} {L : List AV} {vs : List Value} (h : RAs C L vs) (i : Nat) : RA C (listS L i) (vs.toArray.getD i undef) := by
  unfold listS
  cases hi : L[i]? with
  | none => simp [hi, RA]
  | some x =>
    obtain ⟨v, hv, hx⟩ := RAs_get h hi
    simp [hi, hv, hx]
theorem RAs_slotsL {C : Cx} {s : Slots} {tm : Array Value} (h : ∀ i, RA C (s i) (tm.getD i undef)) : RAs C (slotsL tm.size s) tm.toList := by
  refine RAs_of_get (by simp [slotsL]) fun i x v hx hv => ?_
  have hi : i < tm.size := by simpa using (List.getElem?_eq_some_iff.1 hv).1
  have : x = s i := by
    simp [slotsL, hi] at hx
    exact hx.symm
  subst this
  have := h i
  rw [Array.getD_eq_getD_getElem?] at this
  simp at hv
  simpa [hv] using this
theorem psets_ok {C : Cx} {N : Nat} : ∀ (ps : List Tmp) (xs : List AV) (us : List Value) (s : Slots) (tm : Array Value), ps.all (fun p => Nat.ble (p + 1) N) = true → tm.size = N → RAs C xs us → (∀ i, RA C (s i) (tm.getD i undef)) →
    ((ps.zip us).foldl (fun t (x : Tmp × Value) => t.setIfInBounds x.1 x.2) tm).size = N ∧ ∀ i, RA C (psets ps xs s i) (((ps.zip us).foldl (fun t (x : Tmp × Value) => t.setIfInBounds x.1 x.2) tm).getD i undef)
  | [], xs, us, s, tm, hp, hN, hx, hs => ⟨hN, hs⟩
  | p :: ps, [], us, s, tm, hp, hN, hx, hs => by
    simp only [RAs] at hx
    subst hx
    exact ⟨hN, hs⟩
  | p :: ps, x :: xs, us, s, tm, hp, hN, hx, hs => by
    simp only [RAs] at hx
    obtain ⟨v, t, rfl, h1, h2⟩ := hx
    simp only [List.all_cons, Bool.and_eq_true] at hp
    simp only [psets, List.zip_cons_cons, List.foldl_cons]
    refine psets_ok ps xs t (sset s p x) (tm.setIfInBounds p v) hp.2 (by simpa using hN) h2 fun i => ?_
    have hlt : p < tm.size := by rw [hN]; exact Nat.le_of_ble_eq_true hp.1
    by_cases hi : i = p
    · subst hi
      rw [sset_same]
      simpa [Array.getD_eq_getD_getElem?, hlt] using h1
    · rw [sset_ne _ _ hi]
      have : (tm.setIfInBounds p v).getD i undef = tm.getD i undef := by
        simp [Array.getD_eq_getD_getElem?, Array.getElem?_setIfInBounds, Ne.symm hi]
      rw [this]; exact hs i

/-- A ghost is laid beside. -/
theorem Mem.ghost {Z K : Nat → Prop} {J : World → Prop} {h : Heap} {ι : Nat → Value} {w : World} (m : Mem Z K J h ι w) {G : Nat} (hG : h G = none) {L : List AV} {vs : List Value} (hv : RAs (cx Z h ι w) L vs) :
    Mem Z K J (hset h G (some (.ghost L vs))) (fun j => bif Nat.beq j G then .slice none 0 0 else ι j) w := by
  refine (m.add (Grew.refl w) hG (e := .ghost L vs) (v := .slice none 0 0) (fun b hb => by simp [blk] at hb) ⟨rfl, ?_⟩).1
  refine RAs_keeps (C := cx Z h ι w) (C' := cx Z (hset h G (some (.ghost L vs))) (fun j => bif Nat.beq j G then .slice none 0 0 else ι j) w) ⟨⟨fun _ _ _ _ hh => hh, fun _ _ hh => hh, fun b _ hm hm' => ?_⟩, fun j hj => ?_⟩ _ _ hv
  · rcases hm' with hz | ⟨j, hj, hjb⟩
    · exact hm (.inl hz)
    · by_cases hjk : j = G
      · subst hjk; simp [blk] at hjb
      · have hb : Nat.beq j G = false := Bool.eq_false_iff.2 fun h' => hjk (Nat.eq_of_beq_eq_true h')
        simp only [dom, hset_ne h _ hjk] at hj
        simp only [hb, cond_false] at hjb
        exact hm (.inr ⟨j, hj, hjb⟩)
  · have hne : j ≠ G := by intro e; subst e; simp [dom, hG] at hj
    have hb : Nat.beq j G = false := Bool.eq_false_iff.2 fun h' => hne (Nat.eq_of_beq_eq_true h')
    exact ⟨by show (hset h G _ j).isSome = true; rw [hset_ne h _ hne]; exact hj, by simp [hb]⟩

def Jumps (Q : Exit → St → Prop) (c : Code) (st : St) : Prop := (c = .ret ∧ Q .ret st) ∨ ∃ id, c = .exit id ∧ Q (.exit id) st

/-- What is owed where a round's assignments, its body end. -/
def asgQ (E : Env) (Br Bb : Jt → Jt) (J : Jt) (body : Code) (Qb : Exit → St → Prop) : Exit → St → Prop := fun e st => e = .normal ∧ st.J = Br J ∧ CW E body Qb ⟨Bb J, st.s, st.h⟩
def bodyQ (E : Env) (Bb : Jt → Jt) (J0 : Jt) (G : Nat) (tm : List Value) (Nx : Jt → Heap → Prop) (Q : Exit → St → Prop) : Exit → St → Prop
  | .normal, st => ∃ st', LE E st st' ∧ ∃ J, st'.J = Bb J ∧ Nx J st'.h
  | .ret, st => ∃ st', LE E st st' ∧ ∃ J L, (Mono J0 → Mono J) ∧ st'.J = Bb J ∧ st'.h G = some (.ghost L tm) ∧ Q .ret ⟨J, listS L, st'.h⟩
  | .exit id, st => ∃ st', LE E st st' ∧ ∃ J L, (Mono J0 → Mono J) ∧ st'.J = Bb J ∧ st'.h G = some (.ghost L tm) ∧ Q (.exit id) ⟨J, listS L, st'.h⟩
  | _, _ => False

section
variable {EZ : Nat → Prop} {tm : List Value} {rs : List Nat} {G l : Nat} {rec : Loop}

/-- From the record's being ready to its being busy. -/
theorem round_begin {E : Env} {K0 Y0 Ya0 Za0 : Nat → Prop} {w1 : World} {J : Jt} (hJ : Mono J) (hly : Y0 l) (rec' : Loop) {s : Slots} {h : Heap} {ι : Nat → Value} {a : Act} {w : World} (r : RelS E ⟨rnd K0 Y0 Ya0 Za0 w1 rs l rec J, s, h⟩ ι a w) :
    w.heap[l]? = some (.loop rec) ∧ RelS E ⟨rnd K0 Y0 Ya0 Za0 w1 rs l rec' J, s, h⟩ ι a (setO w l (.loop rec')) := by
  obtain ⟨Z, K, Y, hZE, r⟩ := r
  obtain ⟨Kj, h1, h2, x⟩ := r.mem.Jw
  refine ⟨x.rc, Z, K, Y, ⟨hZE.1, hZE.2.1, mono_rnd hJ⟩, ?_⟩
  have hlt := (Array.getElem?_eq_some_iff.1 x.rc).1
  have hJ' : rnd K0 Y0 Ya0 Za0 w1 rs l rec' J K Y Z (setO w l (.loop rec')) := by
    refine ⟨Kj, h1, hJ.closed Kj Y Z w _ h2 (setO_step w l _ x.lkj), ?_⟩
    exact ⟨by simp [setO, hlt], x.lk, x.lkj, x.ly, x.st.trans (setO_step w l _ fun hb => hb.2 hly), x.sk, x.kj, x.y, x.z, x.rs⟩
  have m1 := (r.mem.side (J' := fun _ => True) (K' := fun _ => False) (fun _ _ _ => rfl) (Nat.le_refl _) (fun _ h => .inl h) r.mem.Zlt (fun _ _ _ _ h => h) (fun _ h => h.elim) trivial (fun _ _ _ _ => trivial)).1
  have m2 := m1.setO (o' := .loop rec') x.rc rfl (fun h => h)
  have m3 := (m2.side (J' := rnd K0 Y0 Ya0 Za0 w1 rs l rec' J K Y Z) (K' := K) (fun _ _ _ => rfl) (Nat.le_refl _) (fun _ h => .inl h) m2.Zlt (fun k b hk hb => (r.mem.own k b hk hb).2.1) (fun b hb => by rw [setO_size]; exact r.mem.Klt b hb) hJ' ((mono_rnd hJ).closed _ _ _)).1
  refine ⟨m3, r.size, fun i => RA_keeps (keepsC_obj x.rc rfl) _ _ (r.slot i), ?_⟩
  obtain ⟨rs', e1, e2, e3⟩ := r.ds
  refine ⟨rs', e1, e2, fun q hq => ⟨?_, (e3 q hq).2⟩⟩
  have hne : q ≠ l := by intro e; have := (e3 q hq).1; rw [e, x.rc] at this; cases this
  rw [setO_ne _ _ _ hne]; exact (e3 q hq).1

/-- A round has ended. -/
theorem round_end {E : Env} {K Y Z Za Ya Ka : Nat → Prop} {w : World} {J1 : Jt} {h1 : Heap} {L1 : List AV} {ι1 : Nat → Value} {rec0 : Loop} (x0 : ConsX EZ tm rs G l rec0 K Y Z w J1 h1 L1 ι1 Za Ya Ka) (hEZ : ∀ b, Za b → E.Z b) (hYZ : ∀ b, Y b → Z b)
    {J : Jt} (hJ : Mono J) {rec' : Loop} (rec2 : Loop) {s : Slots} {h : Heap} {ι : Nat → Value} {a : Act} {w3 : World} (r : RelS E ⟨rnd K Y Ya Za w rs l rec' J, s, h⟩ ι a w3) {L : List AV} (hG : h G = some (.ghost L tm)) :
    w3.heap[l]? = some (.loop rec') ∧ Turned Y w (setO w3 l (.loop rec2)) ∧ ∃ Za' Ya' Ka', ConsX EZ tm rs G l rec2 (plus K (fresh w (setO w3 l (.loop rec2)))) (plus Y (fresh w (setO w3 l (.loop rec2)))) (plus Z (fresh w (setO w3 l (.loop rec2)))) (setO w3 l (.loop rec2)) J h L ι Za' Ya' Ka' := by
  obtain ⟨Z3, K3, Y3, hZE, r⟩ := r
  obtain ⟨Kj, g1, g2, x⟩ := r.mem.Jw
  have hlt := (Array.getElem?_eq_some_iff.1 x.rc).1
  have hsz := x.st.size
  have htu : Turned Y w (setO w3 l (.loop rec2)) := x.st.trans (setO_step w3 l _ fun hb => hb.2 x0.ly)
  have hs4 : (setO w3 l (.loop rec2)).heap.size = w3.heap.size := setO_size _ _ _
  have hlw : l < w.heap.size := (Array.getElem?_eq_some_iff.1 x0.rc).1
  refine ⟨x.rc, htu, Z3, Y3, Kj, ?_⟩
  have m1 := (r.mem.side (J' := fun _ => True) (K' := fun _ => False) (fun _ _ _ => rfl) (Nat.le_refl _) (fun _ h => .inl h) r.mem.Zlt (fun _ _ _ _ h => h) (fun _ h => h.elim) trivial (fun _ _ _ _ => trivial)).1
  have m2 := m1.setO (o' := .loop rec2) x.rc rfl (fun h => h)
  have hJ4 : J Kj Y3 Z3 (setO w3 l (.loop rec2)) := hJ.closed Kj Y3 Z3 w3 _ g2 (setO_step w3 l _ x.lkj)
  have hKj : ∀ b, Kj b → b < w3.heap.size := fun b hb => r.mem.Klt b (g1 b hb)
  have m3 := (m2.side (J' := J Kj Y3 Z3) (K' := Kj) (fun _ _ _ => rfl) (Nat.le_refl _) (fun _ h => .inl h) m2.Zlt (fun k b hk hb hK => (r.mem.own k b hk hb).2.1 (g1 b hK)) (fun b hb => by rw [setO_size]; exact hKj b hb) hJ4 (hJ.closed _ _ _)).1
  have hfr : ∀ b, w.heap.size ≤ b → b < w3.heap.size → fresh w (setO w3 l (.loop rec2)) b := fun b h1 h2 => ⟨h1, by rw [hs4]; exact h2⟩
  have hza : ∀ b, Za b → Z3 b := fun b hb => hZE.1 b (hEZ b hb)
  refine ⟨hG, hJ, fun b hb => hza b (x0.ez b hb), fun b hb => .inl (x0.ezk b hb), hZE.2.1, fun b hb => ?_, fun b hb => ?_, m3, fun b hb hk => ?_, fun b hb => ?_, fun b hb => ?_, fun k b hk hb => ?_, fun b hb => ?_, by simp [setO, hlt], .inl x0.lk, .inl x0.ly, x.lkj, x.ly, x0.rnd, fun q hq => ?_⟩
  · by_cases hbl : b < w.heap.size
    · exact .inl (x0.yak b (x.y b hb hbl))
    · exact .inr (hfr b (by omega) (r.mem.Zlt b (hZE.2.1 b hb)))
  · by_cases hbl : b < w.heap.size
    · exact .inl (x0.yay b (x.y b hb hbl))
    · exact .inr (hfr b (by omega) (r.mem.Zlt b (hZE.2.1 b hb)))
  · rw [hs4] at hb
    by_cases hbl : b < w.heap.size
    · exact hza b (x0.zk b hbl fun h => hk (.inl h))
    · exact (hk (.inr (hfr b (by omega) hb))).elim
  · by_cases hbl : b < w.heap.size
    · exact .inl (x.kj b hb hbl)
    · exact .inr (hfr b (by omega) (hKj b hb))
  · rcases hb with hb | hb
    · have := x0.klt b hb; rw [hs4]; omega
    · exact hb.2
  · have ho := r.mem.own k b hk hb
    by_cases hbl : b < w.heap.size
    · refine ⟨.inl (Classical.byContradiction fun hn => ho.1 (hza b (x0.zk b hbl hn))), .inl (Classical.byContradiction fun hn => ho.2.1 (x.sk b hbl hn))⟩
    · exact ⟨.inr (hfr b (by omega) ho.2.2), .inr (hfr b (by omega) ho.2.2)⟩
  · by_cases hbl : b < w.heap.size
    · rcases x0.mz b (x.z b hb hbl) with h | h
      · exact .inl (.inl h)
      · refine .inr fun hk => ?_
        rcases hk with hk | hk
        · exact h hk
        · have := hk.1; omega
    · exact .inl (.inr (hfr b (by omega) (r.mem.Zlt b hb)))
  · obtain ⟨f1, f2, f3, f4, f5⟩ := x0.rs q hq
    obtain ⟨e1, e2, e3, e4⟩ := x.rs q hq
    have hql := (Array.getElem?_eq_some_iff.1 f1).1
    refine ⟨by rw [htu.block q ⟨hql, f3⟩]; exact f1, .inl f2, fun hy => ?_, e1, e2⟩
    rcases hy with hy | hy
    · exact f3 hy
    · have := hy.1; omega

/-- A round begins. -/
theorem round_enter {P : Program} {T : Nat → Option TI} {F : Fence} {n N : Nat} {K Y Z Za Ya Ka : Nat → Prop} {w : World} {J : Jt} {h : Heap} {L : List AV} {ι : Nat → Value} (x : ConsX EZ tm rs G l rec K Y Z w J h L ι Za Ya Ka) (hYZ : ∀ b, Y b → Z b)
    {ps : List Tmp} (hps : ps.all (fun p => Nat.ble (p + 1) N) = true) (hN : tm.length = N) {args : List AV} {us : List Value} (hkf : kfs args = true) (hv : RAs (cx (fun b => Z b ∨ (b < w.heap.size ∧ ¬ K b)) noHeap noι w) args us) :
    RelS ⟨P, T, F, n, Za, N⟩ ⟨rnd K Y Ya Za w rs l rec J, psets ps args (listS L), h⟩ ι { tmps := (ps.zip us).foldl (fun t (x : Tmp × Value) => t.setIfInBounds x.1 x.2) tm.toArray, defers := [] } w := by
  let Kr : Nat → Prop := fun b => Ka b ∨ (b < w.heap.size ∧ ¬ Y b) ∨ b = l
  have hl := (Array.getElem?_eq_some_iff.1 x.rc).1
  have hnl : ∀ k b, dom h k → blk (ι k) = some b → b ≠ l := fun k b hk hb e => by
    obtain ⟨c, t, f, hc⟩ := x.mem.cells hk hb
    rw [e, x.rc] at hc; cases hc
  have hJ : rnd K Y Ya Za w rs l rec J Kr Ya Za w := ⟨Ka, fun b hb => .inl hb, x.mem.Jw, x.rc, .inr (.inr rfl), x.lka, x.lya, Step.refl _ _, fun b hb hy => .inr (.inl ⟨hb, hy⟩), fun b hb _ => x.kak b hb, fun b hb _ => hb, fun b hb _ => hb,
    fun r hr => let ⟨g1, g2, g3, g4, g5⟩ := x.rs r hr; ⟨g4, g5, g3, g1⟩⟩
  have m := (x.mem.side (J' := rnd K Y Ya Za w rs l rec J Kr Ya Za) (K' := Kr) (fun _ _ _ => rfl) (Nat.le_refl _) (fun _ h => .inl h) x.mem.Zlt (fun k b hk hb hK => by
    rcases hK with hK | hK | hK
    · exact (x.mem.own k b hk hb).2.1 hK
    · exact hK.2 (x.own k b hk hb).2
    · exact hnl k b hk hb hK) (fun b hb => by
    rcases hb with hb | hb | hb
    · exact x.mem.Klt b hb
    · exact hb.1
    · rw [hb]; exact hl) hJ ((mono_rnd x.mj).closed _ _ _)).1
  have hgh : RAs (cx Za h ι w) L tm := (x.mem.ent G _ x.g).2
  have hv' : RAs (cx Za h ι w) args us := by
    refine RAs_kf (C := cx (fun b => Z b ∨ (b < w.heap.size ∧ ¬ K b)) noHeap noι w) (C' := cx Za h ι w) ⟨fun _ _ _ _ hh => hh, fun _ _ hh => hh, fun b hi hm hm' => ?_⟩ _ _ hkf hv
    rcases hm' with hz | ⟨k, hk, hb⟩
    · rcases x.mz b hz with h | h
      · exact hm (.inl (.inl h))
      · exact hm (.inl (.inr ⟨hi.lt, h⟩))
    · exact hm (.inl (.inl (hYZ b (x.own k b hk hb).2)))
  obtain ⟨p1, p2⟩ := psets_ok (C := cx Za h ι w) ps args us (listS L) tm.toArray hps (by simpa using hN) hv' fun i => RAs_listS hgh i
  exact ⟨Za, Kr, Ya, ⟨fun _ h => h, x.yaz, mono_rnd x.mj⟩, m, p1, p2, Marks.nil _ _ _⟩
end
end Go.AL
/- AL, part 17: the rule for a range over a function. -/
namespace Go.AL
set_option linter.unusedVariables false
set_option linter.unusedSimpArgs false

def fnOf : AV → Option (Nat × List AV × List AV)
  | .d (.fn (.func f) first cap) => some (f, first.map .d, cap.map .d)
  | .fn (.func f) first cap => some (f, first, cap)
  | _ => none
theorem fnOf_ok {C : Cx} {x : AV} {v : Value} {f : Nat} {first cap : List AV} (hx : fnOf x = some (f, first, cap)) (h : RA C x v) : ∃ vf vc, v = .func (.func f) vf vc ∧ RAs C first vf.toList ∧ RAs C cap vc.toList := by
  unfold fnOf at hx
  split at hx
  · cases hx
    simp only [RA, RD] at h
    obtain ⟨vf, vc, e, h1, h2⟩ := h
    exact ⟨vf, vc, e, RAs_map_d.2 h1, RAs_map_d.2 h2⟩
  · cases hx
    simp only [RA] at h
    exact h
  · cases hx

theorem cons_leave {E : Env} {tm : List Value} {rs : List Nat} {G l : Nat} {rec : Loop} {K Y Z Za Ya Ka : Nat → Prop} {w : World} {J : Jt} {h : Heap} {L : List AV} {ι : Nat → Value} (x : ConsX E.Z tm rs G l rec K Y Z w J h L ι Za Ya Ka) (rec2 : Loop) {a : Act}
    (ht : a.tmps.toList = tm) (hN : tm.length = E.N) (hd : a.defers = rs.map markOf) : RelS E ⟨J, listS L, h⟩ ι a (setO w l (.loop rec2)) := by
  have hgh : RAs (cx Za h ι w) L tm := (x.mem.ent G _ x.g).2
  refine ⟨Za, Ka, Ya, ⟨x.ez, x.yaz, x.mj⟩, x.mem.setO x.rc rfl x.lka, by rw [← hN, ← ht]; simp, fun i => RA_keeps (keepsC_obj x.rc rfl) _ _ ?_, rs, hd, x.rnd, fun q hq => ?_⟩
  · have := RAs_listS hgh i
    rw [← ht] at this
    simpa using this
  · obtain ⟨g1, g2, g3, g4, g5⟩ := x.rs q hq
    have hne : q ≠ l := by intro e; rw [e, x.rc] at g1; cases g1
    exact ⟨by rw [setO_ne _ _ _ hne]; exact g1, g4, g5⟩

theorem foldl_zip (ps : Array Tmp) (vs : List Value) (tm : Array Value) : (ps.zip vs.toArray).foldl (fun tmps (x : Tmp × Value) => tmps.setIfInBounds x.1 x.2) tm = (ps.toList.zip vs).foldl (fun t (x : Tmp × Value) => t.setIfInBounds x.1 x.2) tm := by
  rw [← Array.foldl_toList, Array.toList_zip]

theorem CW_rangeFunc {E : Env} {Q : Exit → St → Prop} {st : St} (hE : E.Good) (hF : E.F = Fence.wide) {g : Operand} {ps : Array Tmp} {assign body : Code} {f : Nat} {first cap : List AV} {ys : List (List AV)} (hI : Iter E.P f first cap ys)
    (hg : fnOf (ev st.s g) = some (f, first, cap)) (hkf : kfs first = true) (hkc : kfs cap = true) (hks : ∀ y ∈ ys, kfs y = true ∧ y.length = ps.size) (hps : ps.toList.all (fun p => Nat.ble (p + 1) E.N) = true) (G : Nat) (hG : st.h G = none)
    (Inv : List Value → Nat → Jt → Heap → Prop) (hOk : ∀ vs i J h, Inv vs i J h → (Mono st.J → Mono J) ∧ h G = some (.ghost (slotsL E.N st.s) vs)) (h0 : ∀ vs, Inv vs 0 st.J (hset st.h G (some (.ghost (slotsL E.N st.s) vs))))
    (hbody : ∀ F n Z Br Bb, (⟨E.P, E.T, F, n, Z, E.N⟩ : Env).Good → (∀ W, Wrap E.Z W → Wrap Z (fun J => Bb (W J))) → ∀ vs i J h args, ys[i]? = some args → Inv vs i J h →
      CW ⟨E.P, E.T, F, n, Z, E.N⟩ assign (asgQ ⟨E.P, E.T, F, n, Z, E.N⟩ Br Bb J body (bodyQ ⟨E.P, E.T, F, n, Z, E.N⟩ Bb st.J G vs (Inv vs (i + 1)) Q)) ⟨Br J, psets ps.toList args (listS (slotsL E.N st.s)), h⟩)
    (hdone : ∀ vs J h, Inv vs ys.length J h → Q .normal ⟨J, listS (slotsL E.N st.s), h⟩) : CW E (.rangeFunc g ps assign body) Q st := fun ι a w r => by
  obtain ⟨Z, K, Y, hZE, r⟩ := r
  refine wpIn_rangeFunc fun fn hfn => ?_
  have hround : E.F.round = none := by rw [hF]; rfl
  rw [hround]
  obtain ⟨vf, vc, hev, hvf, hvc⟩ := fnOf_ok hg (RA_ev (C := cx Z st.h ι w) (s := st.s) (a := a) g fun t _ => r.slot t)
  obtain ⟨mk, hrec⟩ : ∃ mk : LoopState → Option Code → Loop, mk = fun s p => { state := s, pending := p, fn, tmps := a.tmps, params := ps, assign, body, defers := w.heap.size } := ⟨_, rfl⟩
  obtain ⟨w1, hw1⟩ : ∃ w1, w1 = (w.alloc (.deferred (some []))).alloc (.loop (mk .ready none)) := ⟨_, rfl⟩
  have hg1 : Grew w w1 := by rw [hw1]; exact (Grew.alloc w _).trans (Grew.alloc _ _)
  have hs1 : w1.heap.size = w.heap.size + 2 := by rw [hw1]; simp
  have hL1 : w1.heap[w.heap.size + 1]? = some (.loop (mk .ready none)) := by
    rw [hw1]; have := World.alloc_heap_new (w.alloc (.deferred (some []))) (.loop (mk .ready none)); rwa [World.size_alloc] at this
  have hD1 : w1.heap[w.heap.size]? = some (.deferred (some [])) := by
    rw [hw1]; exact (RowKit.Below.heap_alloc _ _ _ (by simp)).trans (World.alloc_heap_new w _)
  obtain ⟨L0, hL0⟩ : ∃ L0, L0 = slotsL E.N st.s := ⟨_, rfl⟩
  rw [← hL0] at hOk h0 hbody hdone
  obtain ⟨rs, hd1, hd2, hd3⟩ := r.ds
  have hgh : RAs (cx Z st.h ι w) L0 a.tmps.toList := by
    rw [hL0, ← r.size]; exact RAs_slotsL r.slot
  have m1 := (r.mem.ghost hG hgh).grew hg1
  obtain ⟨ι0, hι0⟩ : ∃ ι0 : Nat → Value, ι0 = fun j => bif Nat.beq j G then .slice none 0 0 else ι j := ⟨_, rfl⟩
  obtain ⟨hp, hhp⟩ : ∃ hp, hp = hset st.h G (some (.ghost L0 a.tmps.toList)) := ⟨_, rfl⟩
  rw [← hι0, ← hhp] at m1
  have hpG : hp G = some (.ghost L0 a.tmps.toList) := by rw [hhp, hset_same]
  let own : Nat → Prop := fun b => ∃ k, dom hp k ∧ blk (ι0 k) = some b
  have hown : ∀ b, own b → b < w.heap.size ∧ isCells w b := fun b ⟨k, hk, hb⟩ => by
    have hne : k ≠ G := by intro e; rw [hι0, e] at hb; simp [blk] at hb
    have hk' : dom st.h k := by simp only [dom, hhp, hset_ne st.h _ hne] at hk; exact hk
    have hb' : blk (ι k) = some b := by
      rw [hι0] at hb
      have : Nat.beq k G = false := Bool.eq_false_iff.2 fun h' => hne (Nat.eq_of_beq_eq_true h')
      simp only [this, cond_false] at hb; exact hb
    exact ⟨(r.mem.own k b hk' hb').2.2, r.mem.cells hk' hb'⟩
  let K1 : Nat → Prop := fun b => b < w1.heap.size
  let Y1 : Nat → Prop := fun b => Y b ∨ own b ∨ b = w.heap.size + 1
  let Z1 : Nat → Prop := fun b => Z b ∨ own b ∨ b = w.heap.size + 1
  have hZlt : ∀ b, Z b → b < w.heap.size := r.mem.Zlt
  have hrs : (w.heap.size :: rs).Nodup := List.nodup_cons.2 ⟨fun hm => by have := (Array.getElem?_eq_some_iff.1 (hd3 _ hm).1).1; omega, hd2⟩
  have x1 : ConsX E.Z a.tmps.toList (w.heap.size :: rs) G (w.heap.size + 1) (mk .ready none) K1 Y1 Z1 w1 st.J hp L0 ι0 Z Y K := by
    refine ⟨hpG, hZE.2.2, hZE.1, fun b hb => ?_, hZE.2.1, fun b hb => ?_, fun b hb => .inl hb, m1, fun b hb hk => (hk hb).elim, fun b hb => m1.Klt b hb, fun b hb => hb, fun k b hk hb => ⟨(m1.own k b hk hb).2.2, .inr (.inl ⟨k, hk, hb⟩)⟩, fun b hb => .inl (.inl hb), hL1, by show _ < _; omega, .inr (.inr rfl),
      fun hb => ?_, fun hb => ?_, hrs, fun q hq => ?_⟩
    · show b < _; have := hZlt b (hZE.1 b hb); omega
    · show b < _; have := hZlt b (hZE.2.1 b hb); omega
    · have := r.mem.Klt _ hb; omega
    · have := hZlt _ (hZE.2.1 _ hb); omega
    · rcases List.mem_cons.1 hq with rfl | hq
      · refine ⟨hD1, by show _ < _; omega, fun hy => ?_, fun hb => ?_, fun hb => ?_⟩
        · rcases hy with hy | hy | hy
          · have := hZlt _ (hZE.2.1 _ hy); omega
          · have := (hown _ hy).1; omega
          · omega
        · have := r.mem.Klt _ hb; omega
        · have := hZlt _ hb; omega
      · obtain ⟨e1, e2, e3⟩ := hd3 q hq
        have hlt := (Array.getElem?_eq_some_iff.1 e1).1
        refine ⟨by rw [hg1.block q hlt]; exact e1, by show _ < _; omega, fun hy => ?_, e2, e3⟩
        rcases hy with hy | hy | hy
        · exact e3 (hZE.2.1 _ hy)
        · obtain ⟨c, t, f, hc⟩ := (hown _ hy).2
          rw [e1] at hc; cases hc
        · omega
  let C : Nat → Jt := fun i => Cons E.Z a.tmps.toList (w.heap.size :: rs) G (w.heap.size + 1) (mk .ready none) fun J h L => Inv a.tmps.toList i J h ∧ L = L0
  let X : Jt := fun K Y Z w' => ∃ c : Code, Cons E.Z a.tmps.toList (w.heap.size :: rs) G (w.heap.size + 1) (mk .done (some c)) (fun J h L => Jumps Q c ⟨J, listS L, h⟩) K Y Z w'
  have htN : a.tmps.toList.length = E.N := by simpa using r.size
  have hspec : YieldSpec E.P (w.heap.size + 1) ys C X := by
    rintro n i args hy K Y Z W vs ⟨J, h, L, ι', Za, Ya, Ka, ⟨hInv, rfl⟩, x⟩ hYZ _ _ hv
    have hyk := hks args (List.mem_of_getElem? hy)
    have hvl := RAs_length hv
    have hrun := run_yield (P := E.P) (args := vs.toArray) x.rc (by rw [hrec]; simp [hvl, hyk.2])
    refine ⟨_, _, _, _, hrun, roundIn_of_wpIn trivial ?_⟩
    rw [hrec]
    rw [foldl_zip]
    have hgood : (⟨E.P, E.T, Fence.wide.inRound (w.heap.size + 1), n, Za, E.N⟩ : Env).Good := ⟨⟨hE.ok.T, fun f => trivial, rfl, hE.ok.mixed⟩, .inr ⟨_, rfl⟩⟩
    have hlY : Y (w.heap.size + 1) := x.ly
    have hre := round_enter (P := E.P) (T := E.T) (F := Fence.wide.inRound (w.heap.size + 1)) (n := n) x hYZ hps htN hyk.1 hv
    refine wpIn_mono (hbody _ n Za (rnd K Y Ya Za W (w.heap.size :: rs) (w.heap.size + 1) (mk .ready none)) (rnd K Y Ya Za W (w.heap.size :: rs) (w.heap.size + 1) (mk .busy none)) hgood
      (fun V hV => wrap_rnd x.ez x.zk x.yay hV) _ i J h args hy hInv ι' _ W hre) ?_
    rintro e a2 w2 ⟨st2, ι2, ⟨rfl, hJ2, hcw⟩, r2⟩
    obtain ⟨J2, s2, h2⟩ := st2
    simp only at hJ2
    subst hJ2
    obtain ⟨hrc2, r2'⟩ := round_begin x.mj hlY (mk .busy none) r2
    refine ⟨_, run_beginRound hrc2 (by rw [hrec]), ?_⟩
    have hput : w2.putObj (w.heap.size + 1) (.loop { mk .ready none with state := .busy }) = setO w2 (w.heap.size + 1) (.loop (mk .busy none)) := by rw [hrec]; rfl
    rw [hput]
    refine wpIn_mono (hcw ι2 a2 _ r2') ?_
    rintro e a3 w3 ⟨st3, ι3, hq, r3⟩
    cases e with
    | normal =>
      obtain ⟨st3, hle, J', hJ3, hI3⟩ := hq
      obtain ⟨ι3, r3⟩ := hle _ _ _ r3
      obtain ⟨J3, s3, h3⟩ := st3
      simp only at hJ3
      subst hJ3
      have ho := hOk _ _ _ _ hI3
      obtain ⟨hrc3, htu, Za', Ya', Ka', x'⟩ := round_end x (fun b hb => hb) hYZ (ho.1 hZE.2.2) (mk .ready none) r3 ho.2
      refine ⟨_, _, run_endRound none hrc3, ?_⟩
      have hput3 : w3.putObj (w.heap.size + 1) (.loop { mk .busy none with state := if (none : Option Code).isNone then .ready else .done, pending := none }) = setO w3 (w.heap.size + 1) (.loop (mk .ready none)) := by rw [hrec]; rfl
      rw [hput3]
      exact ⟨htu, .inl ⟨rfl, J', h3, _, ι3, Za', Ya', Ka', ⟨hI3, rfl⟩, x'⟩⟩
    | ret =>
      obtain ⟨st3, hle, J', L', hm, hJ3, hG3, hq3⟩ := hq
      obtain ⟨ι3, r3⟩ := hle _ _ _ r3
      obtain ⟨J3, s3, h3⟩ := st3
      simp only at hJ3
      subst hJ3
      obtain ⟨hrc3, htu, Za', Ya', Ka', x'⟩ := round_end x (fun b hb => hb) hYZ (hm hZE.2.2) (mk .done (some .ret)) r3 hG3
      refine ⟨_, _, run_endRound (some .ret) hrc3, ?_⟩
      have hput3 : w3.putObj (w.heap.size + 1) (.loop { mk .busy none with state := if (some Code.ret).isNone then .ready else .done, pending := some Code.ret }) = setO w3 (w.heap.size + 1) (.loop (mk .done (some .ret))) := by rw [hrec]; rfl
      rw [hput3]
      exact ⟨htu, .inr ⟨rfl, .ret, J', h3, L', ι3, Za', Ya', Ka', .inl ⟨rfl, hq3⟩, x'⟩⟩
    | exit id =>
      obtain ⟨st3, hle, J', L', hm, hJ3, hG3, hq3⟩ := hq
      obtain ⟨ι3, r3⟩ := hle _ _ _ r3
      obtain ⟨J3, s3, h3⟩ := st3
      simp only at hJ3
      subst hJ3
      obtain ⟨hrc3, htu, Za', Ya', Ka', x'⟩ := round_end x (fun b hb => hb) hYZ (hm hZE.2.2) (mk .done (some (.exit id))) r3 hG3
      refine ⟨_, _, run_endRound (some (.exit id)) hrc3, ?_⟩
      have hput3 : w3.putObj (w.heap.size + 1) (.loop { mk .busy none with state := if (some (Code.exit id)).isNone then .ready else .done, pending := some (Code.exit id) }) = setO w3 (w.heap.size + 1) (.loop (mk .done (some (.exit id)))) := by rw [hrec]; rfl
      rw [hput3]
      exact ⟨htu, .inr ⟨rfl, .exit id, J', h3, L', ι3, Za', Ya', Ka', .inr ⟨id, rfl, hq3⟩, x'⟩⟩
    | goto t => exact hq.elim
    | panic c => exact hq.elim
    | outgrown => exact hq.elim
  have hcf : ∀ as : Array Value, (callFunc f as).run E.P w1 = .ok (.enter f as) w1 := by
    intro as
    obtain ⟨fn, k1, k2, k3⟩ := hI.1
    unfold callFunc
    rw [Sem.run_bind]
    simp only [program, Sem.run, Result.andThen_ok, k1, k2, k3, Bool.false_eq_true, if_false]
    rfl
  refine ⟨w.heap.size + 1, [markOf w.heap.size], w1, { target := .fn (.func f) vc, args := vf ++ #[.func (.yield (w.heap.size + 1)) #[] #[]] }, w1, f, vf ++ #[.func (.yield (w.heap.size + 1)) #[] #[]] ++ vc, w1, ?_, ?_, fun f' _ => hE.wide.fn f', ?_, fun hx => (by rw [hE.wide.depth] at hx; cases hx), ?_⟩
  · rw [hw1, hrec]; exact run_enterLoop_outer _ _ _ _ _
  · simp only [resolve, hev]; simp [Deferred.ofValue, Act.eval]
  · simp [invoke, hcf]
  · have hargs : RAs (cx Z1 noHeap noι w1) (first ++ .d (.fn (.yield (w.heap.size + 1)) [] []) :: cap) (vf ++ #[Value.func (Fn.yield (w.heap.size + 1)) #[] #[]] ++ vc).toList := by
      have hk : Keeps w w1 (cx Z st.h ι w).M (cx Z1 noHeap noι w1).M := by
        refine ⟨fun b o u _ hc => cell_grew hg1 hc, fun b _ hi => hi.grew hg1, fun b hi hm hm' => ?_⟩
        rcases hm' with (hz | ⟨k, hk, hb⟩ | hz) | ⟨k, hk, _⟩
        · exact hm (.inl hz)
        · have hne : k ≠ G := by intro e; rw [hι0, e] at hb; simp [blk] at hb
          have hk' : dom st.h k := by simp only [dom, hhp, hset_ne st.h _ hne] at hk; exact hk
          have hb' : blk (ι k) = some b := by
            rw [hι0] at hb
            have : Nat.beq k G = false := Bool.eq_false_iff.2 fun h' => hne (Nat.eq_of_beq_eq_true h')
            simp only [this, cond_false] at hb; exact hb
          exact hm (.inr ⟨k, hk', hb'⟩)
        · have := hi.lt; omega
        · simp [dom, noHeap] at hk
      have e1 := RAs_kf (C := cx Z st.h ι w) (C' := cx Z1 noHeap noι w1) hk _ _ hkf hvf
      have e2 := RAs_kf (C := cx Z st.h ι w) (C' := cx Z1 noHeap noι w1) hk _ _ hkc hvc
      have e3 : RA (cx Z1 noHeap noι w1) (.d (.fn (.yield (w.heap.size + 1)) [] [])) (.func (.yield (w.heap.size + 1)) #[] #[]) := by
        simp [RA, RD, RDs]
      have e4 := RAs_append e1 (show RAs (cx Z1 noHeap noι w1) (.d (.fn (.yield (w.heap.size + 1)) [] []) :: cap) (.func (.yield (w.heap.size + 1)) #[] #[] :: vc.toList) by simp only [RAs]; exact ⟨_, _, rfl, e3, e2⟩)
      simpa using e4
    have hcall := hI.2 (E.n - 1) (w.heap.size + 1) C X (fun i => mono_cons) (mono_ex fun c => mono_cons) hspec K1 Y1 Z1 w1 _ ⟨st.J, hp, L0, ι0, Z, Y, K, ⟨by rw [hhp]; exact h0 _, rfl⟩, x1⟩ (fun b hb => hb.imp (hZE.2.1 b) (fun h => h)) (fun b hb => hb)
      (fun b hb => by
        show b < _
        rcases hb with hb | hb | hb
        · have := hZlt b hb; omega
        · have := (hown b hb).1; omega
        · omega) hargs
    rw [Array.toArray_toList] at hcall
    refine (hE.wide.calls hcall).mono ?_
    rintro e w2 ⟨v, K', Y', Z', rfl, hC | hX⟩
    · obtain ⟨J, h, L, ι', Za, Ya, Ka, ⟨hInv, hLL⟩, x⟩ := hC
      subst hLL
      exact ⟨none, _, by have := run_endLoop (P := E.P) x.rc (by rw [hrec]; simp); rw [hrec] at this; exact this, ⟨J, listS _, h⟩, ι', hdone _ _ _ hInv, cons_leave x _ rfl htN (by simp [hd1])⟩
    · obtain ⟨c, J, h, L, ι', Za, Ya, Ka, hj, x⟩ := hX
      refine ⟨some c, _, by have := run_endLoop (P := E.P) x.rc (by rw [hrec]; simp); rw [hrec] at this; exact this, ?_⟩
      rcases hj with ⟨rfl, hq⟩ | ⟨id, rfl, hq⟩
      · exact wpIn_ret ⟨_, ι', hq, cons_leave x _ rfl htN (by simp [hd1])⟩
      · exact wpIn_exit ⟨_, ι', hq, cons_leave x _ rfl htN (by simp [hd1])⟩
end Go.AL
/- AL, part 18: a law's arguments as they come in; the law's row. -/
namespace Go.AL
set_option linter.unusedVariables false
set_option linter.unusedSimpArgs false

/-- Data laid out by a type, through n floors. -/
def partsT (R : TypeId → List D → Prop) : List TypeId → List D → Prop
  | [], ds => ds = []
  | t :: ts, ds => ∃ p q, ds = p ++ q ∧ R t p ∧ partsT R ts q
def DTc (T : Nat → Option TI) : Nat → TypeId → List D → Prop
  | 0, _, _ => False
  | n + 1, t, ds => match T t with
    | some ⟨.bool, _, _, _⟩ => ∃ b, ds = [.lit (.bool b)]
    | some ⟨.int k, _, _, _⟩ => ∃ m, ds = [.lit (.int k m)] ∧ k.min ≤ m ∧ m ≤ k.max
    | some ⟨.str, _, _, _⟩ => ∃ s, ds = [.lit (.string s)] ∧ s.size ≤ 140737488351232
    | some ⟨.slice e, _, _, _⟩ => match T e with
      | some te => ∃ xs : List (List D), ds = [.sl te.size te.bytes xs] ∧ (∀ x ∈ xs, DTc T n e x) ∧ xs.length * te.bytes ≤ 140737488351232
      | none => False
    | some ⟨.struct fs, _, _, _⟩ => partsT (DTc T n) (fs.map (·.1)) ds
    | _ => False

/-- Each field stands where the one ahead of it ends. -/
def tiles (T : Nat → Option TI) : List (TypeId × Nat) → Nat → Nat → Bool
  | [], off, size => Nat.beq off size
  | (t, o) :: fs, off, size => match T t with
    | some ti => Nat.beq o off && tiles T fs (off + ti.size) size
    | none => false
def closedT (T : Nat → Option TI) (S : List TypeId) : Bool := S.all fun t => match T t with
  | some ⟨.bool, s, _, _⟩ => Nat.beq s 1
  | some ⟨.int _, s, _, _⟩ => Nat.beq s 1
  | some ⟨.str, s, _, _⟩ => Nat.beq s 1
  | some ⟨.slice e, s, _, _⟩ => Nat.beq s 1 && S.contains e && (match T e with | some te => Nat.ble 1 te.size && Nat.ble 1 te.bytes | none => false)
  | some ⟨.struct fs, s, _, _⟩ => tiles T fs 0 s && fs.all (fun f => S.contains f.1)
  | _ => false

def noM : Nat → Prop := fun _ => False

theorem list_of_each {α : Type} {p : Nat → α → Prop} : ∀ (n : Nat), (∀ i, i < n → ∃ x, p i x) → ∃ xs : List α, xs.length = n ∧ ∀ i x, xs[i]? = some x → p i x
  | 0, _ => ⟨[], rfl, by simp⟩
  | n + 1, h => by
    obtain ⟨xs, h1, h2⟩ := list_of_each n fun i hi => h i (by omega)
    obtain ⟨x, hx⟩ := h n (by omega)
    refine ⟨xs ++ [x], by simp [h1], fun i y hy => ?_⟩
    rw [List.getElem?_append] at hy
    split at hy
    · exact h2 i y hy
    · rename_i hge
      have : i = n := by
        have := (List.getElem?_eq_some_iff.1 hy).1
        simp at this
        omega
      subst this
      simp [h1] at hy
      subst hy
      exact hx

theorem RCs_of_get {w : World} {M : Nat → Prop} {b sz : Nat} : ∀ (xs : List (List D)) (off : Nat), (∀ (i : Nat) (x : List D), xs[i]? = some x → x.length = sz ∧ RC w M b x (off + i * sz)) → RCs w M b sz xs off
  | [], off, _ => by simp only [RCs]
  | x :: xs, off, h => by
    simp only [RCs]
    have h0 := h 0 x rfl
    refine ⟨h0.1, by simpa using h0.2, RCs_of_get xs (off + sz) fun i y hy => ?_⟩
    have := h (i + 1) y (by simpa using hy)
    rwa [show off + (i + 1) * sz = off + sz + i * sz by rw [Nat.add_mul]; omega] at this

theorem weightsAll_mem {H : Type} {P : Program} {e : TypeId} : ∀ {l : List (DataW H)} {d : DataW H}, d ∈ l → ∀ n ∈ d.weights P e, n ∈ DataW.weightsAll P e l
  | x :: l, d, hd, n, hn => by
    simp only [DataW.weightsAll, List.mem_append]
    rcases List.mem_cons.1 hd with rfl | hd
    · exact .inl hn
    · exact .inr (weightsAll_mem hd n hn)
  | [], d, hd, _, _ => by simp at hd

section
variable {P : Program} {T : Nat → Option TI} (hT : TOk P T) {S : List TypeId} (hS : closedT T S = true)
include hT
theorem cellsOf_of {t : TypeId} {ti : TI} (h : T t = some ti) : P.cellsOf t = ti.size ∧ P.bytesOf t = ti.bytes := by
  obtain ⟨⟨i, hi, hs, hb, _⟩, _⟩ := hT t ti h
  simp [Program.cellsOf, Program.bytesOf, hi, hs, hb]

omit hT in
theorem parts_of {R : TypeId → List D → Prop} {w : World} {cs : List Value} : ∀ (fs : List (TypeId × Nat)) (off : Nat), tiles T fs off cs.length = true →
    (∀ f ∈ fs, ∀ ti, T f.1 = some ti → ∃ ds, RDs w noM ds ((cs.drop f.2).take ti.size) ∧ R f.1 ds ∧ ds.length = ti.size) → ∃ ds, RDs w noM ds (cs.drop off) ∧ partsT R (fs.map (·.1)) ds ∧ ds.length = cs.length - off
  | [], off, h, _ => by
    have : off = cs.length := Nat.eq_of_beq_eq_true h
    exact ⟨[], by simp [this, RDs], by simp [partsT], by simp [this]⟩
  | (t, o) :: fs, off, h, hf => by
    simp only [tiles] at h
    cases ht : T t with
    | none => rw [ht] at h; cases h
    | some ti =>
      rw [ht] at h
      simp only [Bool.and_eq_true] at h
      have ho : o = off := Nat.eq_of_beq_eq_true h.1
      subst ho
      obtain ⟨d1, a1, a2, a3⟩ := hf (t, o) (by simp) ti ht
      obtain ⟨d2, b1, b2, b3⟩ := parts_of fs (o + ti.size) h.2 fun f hm => hf f (by simp [hm])
      have hl1 := RDs_length a1
      refine ⟨d1 ++ d2, ?_, by simp only [List.map_cons, partsT]; exact ⟨d1, d2, rfl, a2, b2⟩, ?_⟩
      · have := RDs_append a1 b1
        rwa [← List.drop_drop, List.take_append_drop] at this
      · simp at hl1
        simp [a3, b3]
        omega
include hS
theorem trod_RD {H : Type} {enc : TypeId × Value → H} {w : World} {base : Nat} {spare : Nat → Bool} {held : Bool} : ∀ (n : Nat) (t : TypeId) (cs : List Value) (x : DataW H × List MemPlace), DataW.trod enc P w base spare held n t cs = some x → S.contains t = true →
    (∀ m ∈ x.1.weights P t, m ≤ reachBytes) → ∃ ds, RDs w noM ds cs ∧ DTc T n t ds ∧ ∀ ti, T t = some ti → ds.length = ti.size
  | 0, t, cs, x, h, _, _ => by simp [DataW.trod] at h
  | n + 1, t, cs, x, h, ht, hw => by
    have hc := List.all_eq_true.1 hS t (by simpa using ht)
    cases hti : T t with
    | none => rw [hti] at hc; cases hc
    | some ti =>
      rw [hti] at hc
      obtain ⟨k, s, b, z⟩ := ti
      have hfit := (hT t _ hti).2
      cases k with
      | bool =>
        simp only [TK.fits] at hfit
        obtain ⟨c, rfl, rfl⟩ := DataW.trod_bool hfit h
        have hs1 : s = 1 := Nat.eq_of_beq_eq_true hc
        exact ⟨[.lit (.bool c)], by simp [RDs, RD, okLit], by simp only [DTc, hti]; exact ⟨c, rfl⟩, fun ti hh => by cases hh; simp [hs1]⟩
      | int k =>
        simp only [TK.fits] at hfit
        obtain ⟨m, rfl, rfl, hwf⟩ := DataW.trod_int hfit h
        have hs1 : s = 1 := Nat.eq_of_beq_eq_true hc
        simp only [Lit.wf, Bool.and_eq_true, decide_eq_true_eq] at hwf
        exact ⟨[.lit (.int k m)], by simp [RDs, RD, okLit, hwf.1, hwf.2], by simp only [DTc, hti]; exact ⟨m, rfl, hwf⟩, fun ti hh => by cases hh; simp [hs1]⟩
      | str =>
        simp only [TK.fits] at hfit
        obtain ⟨u, rfl, rfl, hwf⟩ := DataW.trod_string hfit h
        have hs1 : s = 1 := Nat.eq_of_beq_eq_true hc
        have hle : u.size ≤ 140737488351232 := by
          have := hw u.data.toList.length (by simp [DataW.weights])
          have h1 : u.data.toList.length = u.size := Array.length_toList
          have h2 : reachBytes = 140737488351232 := rfl
          omega
        exact ⟨[.lit (.string u)], by simp only [RDs, RD]; exact ⟨_, [], rfl, ⟨rfl, show u.size ≤ 140737488355328 by omega⟩, rfl⟩, by simp only [DTc, hti]; exact ⟨u, rfl, hle⟩, fun ti hh => by cases hh; simp [hs1]⟩
      | slice e =>
        simp only [TK.fits] at hfit
        simp only [Bool.and_eq_true] at hc
        obtain ⟨⟨hs1, hSe⟩, hte⟩ := hc
        have hs1 : s = 1 := Nat.eq_of_beq_eq_true hs1
        cases htE : T e with
        | none => rw [htE] at hte; cases hte
        | some te =>
          rw [htE] at hte
          simp only [Bool.and_eq_true] at hte
          have hsz : 1 ≤ te.size := Nat.le_of_ble_eq_true hte.1
          have hbt : 1 ≤ te.bytes := Nat.le_of_ble_eq_true hte.2
          obtain ⟨hce, hbe⟩ := cellsOf_of hT htE
          rcases DataW.trod_slice hfit h with ⟨rfl, rfl⟩ | ⟨a, len, cap, elems, rest, m, hm, rfl, rfl, hb, hl, hcm, hel, hat, _, _⟩
          · refine ⟨[.sl te.size te.bytes []], ?_, ?_, fun ti hh => by cases hh; simp [hs1]⟩
            · simp only [RDs, RD]
              exact ⟨_, [], rfl, ⟨none, 0, rfl, by simp, by simp, by simp, by simp⟩, rfl⟩
            · simp only [DTc, hti, htE]
              exact ⟨[], rfl, by simp, by simp⟩
          · cases hm
            have hwt : (elems.length + rest.length) * te.bytes ≤ 140737488351232 := by
              have := hw ((elems.length + rest.length) * P.bytesOf e) (by simp [DataW.weights, hfit])
              rw [hbe] at this
              exact this
            have hlen : len * te.bytes ≤ 140737488351232 := Nat.le_trans (Nat.mul_le_mul_right _ (by omega)) hwt
            have each : ∀ i, i < len → ∃ ds : List D, (∃ cs', w.cells? base (a.add (i * te.size)) te.size = some cs' ∧ RDs w noM ds cs') ∧ DTc T n e ds ∧ ds.length = te.size := by
              intro i hi
              have hi' := hat i hi
              rw [hce] at hi'
              rw [List.getElem?_eq_getElem (by omega : i < elems.length)] at hi'
              simp only [Option.bind_eq_some_iff] at hi'
              obtain ⟨cs', hcs, htr⟩ := hi'
              obtain ⟨ds, g1, g2, g3⟩ := trod_RD n e cs' _ htr hSe fun q hq => hw q (by
                simp only [DataW.weights, hfit, List.mem_cons, List.mem_append]
                exact .inr (.inl (weightsAll_mem (List.mem_map.2 ⟨_, List.getElem_mem _, rfl⟩) q hq)))
              exact ⟨ds, ⟨cs', hcs, g1⟩, g2, g3 te htE⟩
            obtain ⟨xs, hxl, hx⟩ := list_of_each len each
            have hxlen : xs.length ≤ 140737488355328 := by
              have : xs.length * 1 ≤ xs.length * te.bytes := Nat.mul_le_mul_left _ hbt
              rw [hxl] at this ⊢
              omega
            refine ⟨[.sl te.size te.bytes xs], ?_, ?_, fun ti hh => by cases hh; simp [hs1]⟩
            · simp only [RDs, RD]
              refine ⟨_, [], rfl, ⟨some a, cap, by rw [hxl], by omega, by rw [hxl]; omega, hxlen, ?_⟩, rfl⟩
              by_cases h0 : xs = []
              · exact .inl h0
              · right
                have hpos : 0 < xs.length := List.length_pos_iff.2 h0
                obtain ⟨⟨cs0, hc0, _⟩, _, _⟩ := hx 0 xs[0] (List.getElem?_eq_getElem hpos)
                obtain ⟨_, hl0, hat0⟩ := World.cells?_some hc0
                have hcell := hat0 0 (by omega)
                rw [List.getElem?_eq_getElem (by omega : 0 < cs0.length)] at hcell
                have hspot : a.spot = none := by
                  simp [Addr.add, World.cell?] at hcell
                  split at hcell
                  · split at hcell
                    · cases hcell
                    · rename_i hh; simpa using hh
                  · cases hcell
                obtain ⟨ab, ao, asp⟩ := a
                simp only at hspot
                subst hspot
                have hadd : ∀ o k, (⟨ab, o, none⟩ : Addr).add k = ⟨ab, o + k, none⟩ := by
                  intro o k
                  unfold Addr.add
                  split
                  · subst_vars; simp
                  · rfl
                refine ⟨ab, ao, rfl, fun h => h, ?_, RCs_of_get _ _ fun i x hi => ?_⟩
                · rw [hadd, hadd] at hcell
                  exact isCells.of_cell hcell
                · obtain ⟨⟨cs', hc', hr⟩, _, hxl'⟩ := hx i x hi
                  obtain ⟨_, hl', hat'⟩ := World.cells?_some hc'
                  refine ⟨hxl', RC_of_list hr fun j v hj => ?_⟩
                  have hj' : j < te.size := by
                    have := (List.getElem?_eq_some_iff.1 hj).1
                    omega
                  have := hat' j hj'
                  rw [hadd, hadd] at this
                  rw [this, hj]
            · simp only [DTc, hti, htE]
              refine ⟨xs, rfl, fun x hm => ?_, by rw [hxl]; exact hlen⟩
              obtain ⟨i, hi⟩ := List.getElem?_of_mem hm
              exact (hx i x hi).2.1
      | struct fs =>
        simp only [TK.fits] at hfit
        obtain ⟨fields, hu, hfs⟩ := hfit
        simp only [Bool.and_eq_true] at hc
        obtain ⟨htile, hSf⟩ := hc
        obtain ⟨xs, m, hm, rfl, hcl, hxl, hf⟩ := DataW.trod_struct hu h
        cases hm
        obtain ⟨hct, _⟩ := cellsOf_of hT hti
        have hcl' : cs.length = s := hcl.trans hct
        obtain ⟨ds, g1, g2, g3⟩ := parts_of (T := T) (R := DTc T n) (w := w) (cs := cs) fs 0 (by rw [hcl']; exact htile) fun f hm ti hft => by
          have hm' : f ∈ fields.toList.map (fun f => (f.type, f.offset)) := by rw [hfs]; exact hm
          obtain ⟨fd, hfd, rfl⟩ := List.mem_map.1 hm'
          obtain ⟨i, hi⟩ := List.getElem?_of_mem hfd
          have hi' : fields[i]? = some fd := by simpa using hi
          have hil : i < xs.length := by rw [hxl]; exact (Array.getElem?_eq_some_iff.1 hi').1
          have htr := hf i fd hi'
          rw [List.getElem?_eq_getElem hil] at htr
          obtain ⟨hcf, _⟩ := cellsOf_of hT hft
          rw [hcf] at htr
          have hSt : S.contains fd.type = true := List.all_eq_true.1 hSf _ hm
          obtain ⟨ds, e1, e2, e3⟩ := trod_RD n fd.type _ _ htr hSt fun q hq => hw q (by
            simp only [DataW.weights, hu]
            exact DataW.weights_mem_each (j := i) (by simp [hi']) (by simp [List.getElem?_eq_getElem hil]) q hq)
          exact ⟨ds, e1, e2, e3 ti hft⟩
        exact ⟨ds, by simpa using g1, by simp only [DTc, hti]; exact g2, fun ti hh => by cases hh; simp [g3, hcl']⟩
      | _ => cases hc
end

/-- The argument as it stands in a frame. -/
def argOf (T : Nat → Option TI) (t : TypeId) (ds : List D) : AV := match T t with
  | some ⟨.struct _, _, _, _⟩ => .agg (ds.map .d)
  | _ => packR (ds.map .d)

theorem arg_ok {P : Program} {T : Nat → Option TI} (hT : TOk P T) {S : List TypeId} (hS : closedT T S = true) {H : Type} {enc : TypeId × Value → H} {w : World} {base b0 : Nat} {spare : Nat → Bool} {held : Bool} {r : Reach} {t : TypeId} {v : Value} {d : DataW H} {ps : List MemPlace} (hval : Value.okWide P w r b0 t v)
    (h : DataW.Trod enc P w base spare held t v d ps) (ht : S.contains t = true) (hw : ∀ m ∈ d.weights P t, m ≤ reachBytes) : ∃ n ds, DTc T n t ds ∧ RA (cx noM noHeap noι w) (argOf T t ds) v := by
  obtain ⟨n, hn⟩ := h
  obtain ⟨ds, h1, h2, h3⟩ := trod_RD hT hS n t _ _ hn ht hw
  refine ⟨n, ds, h2, ?_⟩
  have hM : (cx noM noHeap noι w).M = noM := by
    funext b
    refine propext ⟨fun hb => ?_, fun hb => .inl hb⟩
    rcases hb with hb | ⟨k, hk, _⟩
    · exact hb
    · simp [dom, noHeap] at hk
  have h1' : RAs (cx noM noHeap noι w) (ds.map .d) v.cells.toList := RAs_map_d.2 (by rw [hM]; exact h1)
  have hc := List.all_eq_true.1 hS t (by simpa using ht)
  unfold argOf
  cases hti : T t with
  | none => rw [hti] at hc; cases hc
  | some ti =>
    rw [hti] at hc
    obtain ⟨k, s, b, z⟩ := ti
    have hfit := (hT t _ hti).2
    have one : v.cells = #[v] → RA (cx noM noHeap noι w) (packR (ds.map .d)) v := fun e => by
      rw [e] at h1'
      cases ds with
      | nil => simp [RAs] at h1'
      | cons x xs =>
        cases xs with
        | nil =>
          simp only [List.map_cons, List.map_nil, RAs] at h1'
          obtain ⟨v', t, e, h2, _⟩ := h1'
          cases e
          exact h2
        | cons y ys =>
          simp only [List.map_cons, RAs] at h1'
          obtain ⟨_, t1, e, _, _, t2, e2, _⟩ := h1'
          cases e
          cases e2
    cases k with
    | bool => simp only [TK.fits] at hfit; obtain ⟨c, rfl⟩ := Go.WideShapes.okWide_bool hfit hval; exact one rfl
    | int k => simp only [TK.fits] at hfit; obtain ⟨c, rfl⟩ := Go.WideShapes.okWide_int hfit hval; exact one rfl
    | str => simp only [TK.fits] at hfit; obtain ⟨c, rfl⟩ := Go.WideShapes.okWide_string hfit hval; exact one rfl
    | slice e => simp only [TK.fits] at hfit; obtain ⟨a, l, c, rfl⟩ := Go.WideShapes.okWide_slice hfit hval; exact one rfl
    | struct fs =>
      simp only [TK.fits] at hfit
      obtain ⟨fields, hu, _⟩ := hfit
      obtain ⟨cs, rfl, _⟩ := Go.WideShapes.okWide_struct hu hval
      simp only [RA]
      exact ⟨cs, rfl, h1'⟩
    | _ => cases hc

/-- A law's contract at its end. -/
theorem law_ends {P : Program} {f : Nat} {args : List AV} (hD : Does P f args noHeap (.d (.lit (.bool true)))) {w : World} {vs : List Value} (hv : RAs (cx noM noHeap noι w) args vs) :
    Calls P f vs.toArray w fun e w' => e = .returned (.bool true) ∧ RowKit.Below w.heap.size w w' := by
  refine (callsIn_wide (n := 0)).1 ((hD.2 0 noM w vs (fun _ h => h.elim) hv).mono fun e w' ⟨v, ι, he, hg, hr, _⟩ => ?_)
  obtain ⟨rfl, _⟩ := RA_lit.1 hr
  exact ⟨he, hg.below⟩
end Go.AL
/- AL, part 19: parting on a truth; states made smaller; a nil slice as a row of the frame's own. -/
namespace Go.AL
set_option linter.unusedVariables false
set_option linter.unusedSimpArgs false

theorem sset_self {s : Slots} {d : Nat} {v : AV} (h : s d = v) : sset s d v = s := by
  funext i
  by_cases hi : i = d
  · subst hi; rw [sset_same, h]
  · rw [sset_ne _ _ hi]

section
variable {E : Env} {ops : List Oper} {Q : Exit → St → Prop} {st : St} {c : Code} {i : Nat}
theorem OW_split (d : Nat) {b : Bool} (hs : st.s d = .d (.lit (.bool b))) (ht : b = true → OW E ops i Q { st with s := sset st.s d (.d (.lit (.bool true))) }) (hf : b = false → OW E ops i Q { st with s := sset st.s d (.d (.lit (.bool false))) }) : OW E ops i Q st := by
  cases b
  · have := hf rfl; rwa [sset_self hs] at this
  · have := ht rfl; rwa [sset_self hs] at this
theorem HW_split (d : Nat) {J : Jt} {h : Heap} {n : Nat} {K : Slots → Prop} {s : Slots} {b : Bool} (hs : s d = .d (.lit (.bool b))) (ht : b = true → HW E ops J h n i K (sset s d (.d (.lit (.bool true))))) (hf : b = false → HW E ops J h n i K (sset s d (.d (.lit (.bool false))))) : HW E ops J h n i K s := by
  cases b
  · have := hf rfl; rwa [sset_self hs] at this
  · have := ht rfl; rwa [sset_self hs] at this
/-- A slot told by an equal value. -/
theorem OW_as (d : Nat) (v : AV) (hs : st.s d = v) (hk : OW E ops i Q { st with s := sset st.s d v }) : OW E ops i Q st := by rwa [sset_self hs] at hk
theorem CW_as (d : Nat) (v : AV) (hs : st.s d = v) (hk : CW E c Q { st with s := sset st.s d v }) : CW E c Q st := by rwa [sset_self hs] at hk
theorem HW_as (d : Nat) (v : AV) {J : Jt} {h : Heap} {n : Nat} {K : Slots → Prop} {s : Slots} (hs : s d = v) (hk : HW E ops J h n i K (sset s d v)) : HW E ops J h n i K s := by rwa [sset_self hs] at hk
end

/-! ### Keys that are still there -/
mutual
def inH (h : Heap) : AV → Bool
  | .d _ => true
  | .any => true
  | .agg cs => inHs h cs
  | .tup cs => inHs h cs
  | .fn _ a b => inHs h a && inHs h b
  | .ptr k _ => (h k).isSome
  | .row k => (h k).isSome
  | .view k _ _ => (h k).isSome
def inHs (h : Heap) : List AV → Bool
  | [] => true
  | x :: xs => inH h x && inHs h xs
end
def inE (h : Heap) : Ent → Bool
  | .box _ cs => inHs h cs
  | .row _ _ _ => true
  | .ghost cs _ => inHs h cs
  | .rowA _ _ _ cs => inHs h cs

mutual
theorem RA_in {h : Heap} {C C' : Cx} (hk : Keeps C.w C'.w C.M C'.M) (hd : ∀ k, (h k).isSome = true → C'.dom k ∧ C'.ι k = C.ι k) : ∀ (x : AV) (v : Value), inH h x = true → RA C x v → RA C' x v
  | .d x, v => fun _ hx => by simp only [RA] at hx ⊢; exact RD_keeps hk x v hx
  | .agg cs, v => fun hi hx => by
    simp only [RA] at hx ⊢
    obtain ⟨vs, e, h1⟩ := hx
    exact ⟨vs, e, RAs_in hk hd cs _ (by simpa [inH] using hi) h1⟩
  | .tup cs, v => fun hi hx => by
    simp only [RA] at hx ⊢
    obtain ⟨vs, e, h1⟩ := hx
    exact ⟨vs, e, RAs_in hk hd cs _ (by simpa [inH] using hi) h1⟩
  | .fn f first cap, v => fun hi hx => by
    simp only [RA] at hx ⊢
    obtain ⟨vf, vc, e, h1, h2⟩ := hx
    simp [inH] at hi
    exact ⟨vf, vc, e, RAs_in hk hd first _ hi.1 h1, RAs_in hk hd cap _ hi.2 h2⟩
  | .any, v => fun _ hx => by simp only [RA]
  | .ptr k o, v => fun hi hx => by
    simp only [RA] at hx ⊢
    obtain ⟨_, b, h2, e⟩ := hx
    obtain ⟨g1, g2⟩ := hd k (by simpa [inH] using hi)
    exact ⟨g1, b, by rw [g2]; exact h2, e⟩
  | .view k o n, v => fun hi hx => by
    simp only [RA] at hx ⊢
    obtain ⟨_, b, cap, h2, e⟩ := hx
    obtain ⟨g1, g2⟩ := hd k (by simpa [inH] using hi)
    exact ⟨g1, b, cap, by rw [g2]; exact h2, by rw [g2]; exact e⟩
  | .row k, v => fun hi hx => by
    simp only [RA] at hx ⊢
    obtain ⟨g1, g2⟩ := hd k (by simpa [inH] using hi)
    exact ⟨g1, by rw [g2]; exact hx.2⟩
theorem RAs_in {h : Heap} {C C' : Cx} (hk : Keeps C.w C'.w C.M C'.M) (hd : ∀ k, (h k).isSome = true → C'.dom k ∧ C'.ι k = C.ι k) : ∀ (xs : List AV) (vs : List Value), inHs h xs = true → RAs C xs vs → RAs C' xs vs
  | [], vs => fun _ hx => by simpa only [RAs] using hx
  | x :: xs, vs => fun hi hx => by
    simp only [RAs] at hx ⊢
    obtain ⟨v, t, e, h1, h2⟩ := hx
    simp [inHs] at hi
    exact ⟨v, t, e, RA_in hk hd x v hi.1 h1, RAs_in hk hd xs t hi.2 h2⟩
end

def slh (H : Heap) (s s' : Slots) : Prop := ∀ i, s' i = .any ∨ (s' i = s i ∧ inH H (s' i) = true)
theorem slh_no (H : Heap) (s : Slots) : slh H s noSlots := fun _ => .inl rfl
theorem slh_set {H : Heap} {s s' : Slots} (h : slh H s s') {d : Nat} {v : AV} (hv : s d = v) (hin : inH H v = true) : slh H s (sset s' d v) := fun i => by
  by_cases hi : i = d
  · subst hi; rw [sset_same]; exact .inr ⟨hv.symm, hin⟩
  · rw [sset_ne _ _ hi]; exact h i
def hlh (H h h' : Heap) : Prop := ∀ k, h' k = none ∨ (h' k = h k ∧ ∀ e, h' k = some e → inE H e = true)
theorem hlh_no (H h : Heap) : hlh H h noHeap := fun _ => .inl rfl
theorem hlh_set {H h h' : Heap} (hh : hlh H h h') {k : Nat} {e : Ent} (hv : h k = some e) (hin : inE H e = true) : hlh H h (hset h' k (some e)) := fun i => by
  by_cases hi : i = k
  · subst hi
    rw [hset_same]
    exact .inr ⟨hv.symm, fun e' he' => by cases he'; exact hin⟩
  · rw [hset_ne _ _ hi]; exact hh i

theorem LE_sh {E : Env} {J : Jt} {s s' : Slots} {h h' : Heap} (hs : slh h' s s') (hh : hlh h' h h') : LE E ⟨J, s, h⟩ ⟨J, s', h'⟩ := fun ι a w ⟨Z, K, Y, hZ, r⟩ => by
  have hdom : ∀ k, dom h' k → dom h k ∧ h' k = h k := fun k hk => by
    rcases hh k with e | ⟨e, _⟩
    · simp [dom, e] at hk
    · exact ⟨by unfold dom at hk ⊢; rw [← e]; exact hk, e⟩
  have keeps : Keeps w w (cx Z h ι w).M (cx Z h' ι w).M := by
    refine ⟨fun _ _ _ _ hh => hh, fun _ _ hh => hh, fun b _ hm hm' => ?_⟩
    rcases hm' with hz | ⟨j, hj, hjb⟩
    · exact hm (.inl hz)
    · exact hm (.inr ⟨j, (hdom j hj).1, hjb⟩)
  have hd : ∀ k, (h' k).isSome = true → (cx Z h' ι w).dom k ∧ (cx Z h' ι w).ι k = (cx Z h ι w).ι k := fun k hk => ⟨hk, rfl⟩
  refine ⟨ι, Z, K, Y, hZ, ⟨fun j e hj => ?_, fun j b hj hjb => r.mem.own j b (hdom j hj).1 hjb, fun j j' b hj hj' => r.mem.apart j j' b (hdom j hj).1 (hdom j' hj').1, r.mem.Zlt, r.mem.Klt, r.mem.Jw, r.mem.Jc⟩, r.size, fun i => ?_, r.ds⟩
  · rcases hh j with e' | ⟨e', hin⟩
    · rw [show h' j = some e from hj] at e'; cases e'
    · have hj' : h j = some e := by rw [← e']; exact hj
      have hin := hin e hj
      have ho := r.mem.ent j e hj'
      cases e with
      | box t cs =>
        obtain ⟨b, vs, h1, h2, h3⟩ := ho
        exact ⟨b, vs, h1, h2, RAs_in (C := cx Z h ι w) (C' := cx Z h' ι w) keeps hd _ _ hin h3⟩
      | row e sz xs =>
        obtain ⟨vs, h1, h2, h3⟩ := ho
        exact ⟨vs, h1, RDs_keeps keeps _ _ h2, h3⟩
      | ghost cs vs => exact ⟨ho.1, RAs_in (C := cx Z h ι w) (C' := cx Z h' ι w) keeps hd _ _ hin ho.2⟩
      | rowA e sz n cs =>
        obtain ⟨vs, h1, h2, h3⟩ := ho
        exact ⟨vs, h1, RAs_in (C := cx Z h ι w) (C' := cx Z h' ι w) keeps hd _ _ hin h2, h3⟩
  · show RA _ (s' i) _
    rcases hs i with e | ⟨e, hin⟩
    · rw [e]; simp [RA]
    · have : RA (cx Z h ι w) (s i) (a.tmps.getD i undef) := r.slot i
      rw [← e] at this
      exact RA_in (C := cx Z h ι w) (C' := cx Z h' ι w) keeps hd _ _ hin this

/-- A box that holds a nil slice: a row of the frame's own, as yet empty. -/
theorem LE_nilRow {E : Env} {J : Jt} {s : Slots} {h : Heap} (k key : Nat) (e : TypeId) (sz : Nat) {t : TypeId} (hk : h k = some (.box t [.d (.lit (.slice none 0 0))])) (hkey : h key = none) :
    LE E ⟨J, s, h⟩ ⟨J, s, hset (hset h key (some (.row e sz []))) k (some (.box t [.row key]))⟩ := fun ι a w ⟨Z, K, Y, hZ, r⟩ => by
  have hne : k ≠ key := by intro e; subst e; rw [hk] at hkey; cases hkey
  obtain ⟨m1, kc⟩ := r.mem.add (Grew.refl w) hkey (e := .row e sz []) (v := .slice none 0 0) (fun b hb => by simp [blk] at hb) ⟨[], .inl ⟨none, rfl, rfl, rfl⟩, by simp [RDs], by simp, by simp⟩
  have hdom : ∀ j, dom (hset (hset h key (some (.row e sz []))) k (some (.box t [.row key]))) j ↔ dom (hset h key (some (.row e sz []))) j := by
    intro j
    by_cases hj : j = k
    · subst hj; simp only [dom, hset_same, hset_ne h _ hne, hk]; simp
    · simp only [dom, hset_ne _ _ hj]
  have hM : (cx Z (hset (hset h key (some (.row e sz []))) k (some (.box t [.row key]))) (fun j => bif Nat.beq j key then .slice none 0 0 else ι j) w).M = (cx Z (hset h key (some (.row e sz []))) (fun j => bif Nat.beq j key then .slice none 0 0 else ι j) w).M := by
    funext b
    refine propext (or_congr Iff.rfl ⟨fun ⟨j, hj, hb⟩ => ⟨j, (hdom j).1 hj, hb⟩, fun ⟨j, hj, hb⟩ => ⟨j, (hdom j).2 hj, hb⟩⟩)
  have kc2 : KeepsC (cx Z (hset h key (some (.row e sz []))) (fun j => bif Nat.beq j key then .slice none 0 0 else ι j) w) (cx Z (hset (hset h key (some (.row e sz []))) k (some (.box t [.row key]))) (fun j => bif Nat.beq j key then .slice none 0 0 else ι j) w) :=
    ⟨⟨fun _ _ _ _ hh => hh, fun _ _ hh => hh, fun b _ hm => by rw [hM]; exact hm⟩, fun j hj => ⟨(hdom j).2 hj, rfl⟩⟩
  refine ⟨_, Z, K, Y, hZ, ⟨fun j en hj => ?_, fun j b hj hjb => m1.own j b ((hdom j).1 hj) hjb, fun j j' b hj hj' => m1.apart j j' b ((hdom j).1 hj) ((hdom j').1 hj'), m1.Zlt, m1.Klt, m1.Jw, m1.Jc⟩, r.size, fun i => RA_keeps kc2 _ _ (RA_keeps kc _ _ (r.slot i)), r.ds⟩
  by_cases hjk : j = k
  · subst hjk
    have hj' : some (Ent.box t [.row key]) = some en := (hset_same _ _ _).symm.trans hj
    cases hj'
    have hb : Nat.beq j key = false := Bool.eq_false_iff.2 fun h' => hne (Nat.eq_of_beq_eq_true h')
    obtain ⟨b, vs, h1, h2, h3⟩ := r.mem.ent j _ hk
    simp only [RAs] at h3
    obtain ⟨v, tl, e1, e2, e3⟩ := h3
    obtain ⟨rfl, _⟩ := RA_lit.1 e2
    refine ⟨b, vs, by simp only [hb, cond_false]; exact h1, h2, ?_⟩
    rw [e1, e3]
    simp only [RAs]
    refine ⟨_, [], rfl, ?_, rfl⟩
    simp only [RA]
    refine ⟨(hdom key).2 ?_, by simp⟩
    simp [dom, hset_same]
  · have hj' : hset h key (some (.row e sz [])) j = some en := (hset_ne _ _ hjk).symm.trans hj
    exact EntOk.keeps kc2 (fun b cs t f _ hb => hb) (m1.ent j en hj')
end Go.AL
/- AL, part 20: the rules at states told apart. -/
namespace Go.AL
set_option linter.unusedVariables false
section
variable {E : Env} {ops : List Oper} {Q : Exit → St → Prop} {c : Code} {i : Nat} {J : Jt} {s : Slots} {h : Heap}
theorem OW_run' (hE : E.Ok) (m : Nat) {s' : Slots} (hp : runPure E ops h m i s = some s') (hk' : OW E ops (i + m) Q ⟨J, s', h⟩) : OW E ops i Q ⟨J, s, h⟩ :=
  OW_run (st := ⟨J, s, h⟩) hE m hp hk'
theorem OW_call' (hE : E.Good) {f : Nat} {L : List AV} {R : AV} (hc : Does E.P f L noHeap R) {o : Oper} {fo : Operand} {args : Array Operand} {ts : Array TypeId} (ho : ops[i]? = some o) (hop : o.op = .call ⟨.value fo, args, ts⟩) (hw : awant ops o s = some true)
    (hL : callArgs s fo args.toList = some (f, L)) (hk : kfs L = true) (hR : kf R = true) {s' : Slots} (hs : putS E.N s o.dst R = some s') (hk' : OW E ops (i + 1) Q ⟨J, s', h⟩) : OW E ops i Q ⟨J, s, h⟩ :=
  OW_call (st := ⟨J, s, h⟩) hE hc ho hop hw hL hk hR hs hk'
theorem OW_alloc' (hE : E.Good) (k : Nat) {o : Oper} {t : TypeId} (ho : ops[i]? = some o) (hop : o.op = .alloc t) (hw : awant ops o s = some true) (hk : h k = none) {ti : TI} (ht : E.T t = some ti) {cs : List AV} (hz : litCells ti.zero = some cs)
    {s' : Slots} (hs : putS E.N s o.dst (.ptr k 0) = some s') (hk' : OW E ops (i + 1) Q ⟨J, s', hset h k (some (.box t cs))⟩) : OW E ops i Q ⟨J, s, h⟩ :=
  OW_alloc (st := ⟨J, s, h⟩) hE k ho hop hw hk ht hz hs hk'
theorem OW_box' (hE : E.Good) (k : Nat) {o : Oper} {t : TypeId} {x : Operand} (ho : ops[i]? = some o) (hop : o.op = .box t x) (hw : awant ops o s = some true) (hk : h k = none) (hc : cellsOk (ev s x) = true)
    {s' : Slots} (hs : putS E.N s o.dst (.ptr k 0) = some s') (hk' : OW E ops (i + 1) Q ⟨J, s', hset h k (some (.box t (cellsOf (ev s x))))⟩) : OW E ops i Q ⟨J, s, h⟩ :=
  OW_box (st := ⟨J, s, h⟩) hE k ho hop hw hk hc hs hk'
theorem OW_store' (hE : E.Good) {o : Oper} {t : TypeId} {p x : Operand} (ho : ops[i]? = some o) (hop : o.op = .store t p x) (hw : awant ops o s = some true) (hdst : o.dst = none) {ti : TI} (ht : E.T t = some ti) {k off : Nat} (hp : ev s p = .ptr k off)
    {bt : TypeId} {cs : List AV} (hk : h k = some (.box bt cs)) {vs : List AV} (hv : cellsOf (ev s x) = vs) (hc : cellsOk (ev s x) = true) (h1 : oneAll vs = true) (hl : Nat.beq vs.length ti.size = true) (hfit : Nat.ble (off + vs.length) cs.length = true)
    (hk' : OW E ops (i + 1) Q ⟨J, s, hset h k (some (.box bt (overwrite cs off vs)))⟩) : OW E ops i Q ⟨J, s, h⟩ :=
  OW_store (st := ⟨J, s, h⟩) hE ho hop hw hdst ht hp hk hv hc h1 hl hfit hk'
theorem OW_build' (hE : E.Good) {o : Oper} {t : TypeId} {parts : Array (Nat × Operand)} (ho : ops[i]? = some o) (hop : o.op = .build t parts) (hw : awant ops o s = some true) {R : AV} (hR : stepBuild E.T s t parts.toList = some R)
    {s' : Slots} (hs : putS E.N s o.dst R = some s') (hk' : OW E ops (i + 1) Q ⟨J, s', h⟩) : OW E ops i Q ⟨J, s, h⟩ :=
  OW_build (st := ⟨J, s, h⟩) hE ho hop hw hR hs hk'
theorem OW_lits' (hE : E.Good) {o : Oper} {t e : TypeId} {len : Nat} {parts : Array (Nat × Operand)} (ho : ops[i]? = some o) (hop : o.op = .buildSlice t len parts) (hw : awant ops o s = some true) {z1 z2 : Nat} {z3 : List Value} (ht : E.T t = some ⟨.slice e, z1, z2, z3⟩)
    {k : TK} {sz bts : Nat} {z6 : List Value} (hte : E.T e = some ⟨k, sz, bts, z6⟩) (hpos : Nat.ble 1 sz = true) (hlen : parts.size = len) (hsmall : Nat.ble (len * sz) 16777216 = true) (hbts : Nat.ble (len * bts) 16777216 = true) (hl2 : Nat.ble len 16777216 = true) {xs : List (List D)} (hx : partsD s sz 0 parts.toList = some xs)
    {s' : Slots} (hs : putS E.N s o.dst (.d (.sl sz bts xs)) = some s') (hk' : OW E ops (i + 1) Q ⟨J, s', h⟩) : OW E ops i Q ⟨J, s, h⟩ :=
  OW_lits (st := ⟨J, s, h⟩) hE ho hop hw ht hte hpos hlen hsmall hbts hl2 hx hs hk'
theorem OW_litsOwn' (hE : E.Good) (key : Nat) {o : Oper} {t e : TypeId} {len : Nat} {parts : Array (Nat × Operand)} (ho : ops[i]? = some o) (hop : o.op = .buildSlice t len parts) (hw : awant ops o s = some true) (hkey : h key = none) {z1 z2 : Nat} {z3 : List Value} (ht : E.T t = some ⟨.slice e, z1, z2, z3⟩)
    {ti : TI} (hte : E.T e = some ti) (hpos : Nat.ble 1 ti.size = true) (hlen : parts.size = len) (hsmall : Nat.ble (len * ti.size) 16777216 = true) (hl2 : Nat.ble len 16777216 = true) {xs : List (List D)} (hx : partsD s ti.size 0 parts.toList = some xs)
    {s' : Slots} (hs : putS E.N s o.dst (.row key) = some s') (hk' : OW E ops (i + 1) Q ⟨J, s', hset h key (some (.row e ti.size xs))⟩) : OW E ops i Q ⟨J, s, h⟩ :=
  OW_litsOwn (st := ⟨J, s, h⟩) hE key ho hop hw hkey ht hte hpos hlen hsmall hl2 hx hs hk'
theorem OW_loc' {o : Oper} (hE : E.Good) {R : AV} (hl : Loc E ops J h o s R) (ho : ops[i]? = some o) (hw : awant ops o s = some true) {s' : Slots} (hs : putS E.N s o.dst R = some s') (hk : OW E ops (i + 1) Q ⟨J, s', h⟩) : OW E ops i Q ⟨J, s, h⟩ :=
  OW_loc (st := ⟨J, s, h⟩) hE hl ho hw hs hk
theorem OW_yield' (hE : E.Good) {l : Nat} {ys : List (List AV)} {C : Nat → Jt} {X : Jt} (hy : YieldSpec E.P l ys C X) (hC : ∀ i, Mono (C i)) (hX : Mono X) {W : Jt → Jt} (hW : Wrap E.Z W) (k : Nat)
    {o : Oper} {fo : Operand} {args : Array Operand} {ts : Array TypeId} (ho : ops[i]? = some o) (hop : o.op = .call ⟨.value fo, args, ts⟩) (hw : awant ops o s = some true) (hJ : J = W (C k)) (hf : ev s fo = .d (.fn (.yield l) [] []))
    {L : List AV} (hL : args.toList.map (ev s) = L) (hk : ys[k]? = some L) (hkf : kfs L = true) {s1 s2 : Slots} (hs1 : putS E.N s o.dst (.d (.lit (.bool true))) = some s1) (hs2 : putS E.N s o.dst (.d (.lit (.bool false))) = some s2)
    (h1 : OW E ops (i + 1) Q ⟨W (C (k + 1)), s1, h⟩) (h2 : OW E ops (i + 1) Q ⟨W X, s2, h⟩) : OW E ops i Q ⟨J, s, h⟩ :=
  OW_yield (st := ⟨J, s, h⟩) hE hy hC hX hW k ho hop hw hJ hf hL hk hkf hs1 hs2 h1 h2
theorem OW_split' (d : Nat) {b : Bool} (hs : s d = .d (.lit (.bool b))) (ht : b = true → OW E ops i Q ⟨J, sset s d (.d (.lit (.bool true))), h⟩) (hf : b = false → OW E ops i Q ⟨J, sset s d (.d (.lit (.bool false))), h⟩) : OW E ops i Q ⟨J, s, h⟩ :=
  OW_split (st := ⟨J, s, h⟩) d hs ht hf
theorem OW_as' (d : Nat) (v : AV) (hs : s d = v) (hk : OW E ops i Q ⟨J, sset s d v, h⟩) : OW E ops i Q ⟨J, s, h⟩ :=
  OW_as (st := ⟨J, s, h⟩) d v hs hk
theorem CW_as' (d : Nat) (v : AV) (hs : s d = v) (hk : CW E c Q ⟨J, sset s d v, h⟩) : CW E c Q ⟨J, s, h⟩ :=
  CW_as (st := ⟨J, s, h⟩) d v hs hk
theorem OW_append' (hE : E.Good) {key : Nat} {o : Oper} {t e : TypeId} {so xo : Operand} (ho : ops[i]? = some o) (hop : o.op = .call ⟨.builtin .append, #[so, xo], #[t, t]⟩) (hw : awant ops o s = some true) {z1 z2 : Nat} {z3 : List Value} (ht : E.T t = some ⟨.slice e, z1, z2, z3⟩)
    {k : TK} {sz bts : Nat} {z6 : List Value} (hte : E.T e = some ⟨k, sz, bts, z6⟩) (hpos : Nat.ble 1 sz = true) (hso : ev s so = .row key) {xs : List (List D)} (hkey : h key = some (.row e sz xs)) {ys : List (List D)} (hxo : ev s xo = .d (.sl sz bts ys) ∨ (ev s xo = .d (.lit (.slice none 0 0)) ∧ ys = []))
    (hn : xs.length + ys.length ≤ 140737488355328) (hb : (xs.length + ys.length) * bts ≤ 140737488355328)
    {s' : Slots} (hs : putS E.N (unkS key s) o.dst (.row key) = some s') (hk' : OW E ops (i + 1) Q ⟨J, s', hset (unkH key h) key (some (.row e sz (xs ++ ys)))⟩) : OW E ops i Q ⟨J, s, h⟩ :=
  OW_append (st := ⟨J, s, h⟩) hE ho hop hw ht hte hpos hso hkey hxo hn hb hs hk'
theorem OW_appendNil' (hE : E.Good) (key : Nat) {o : Oper} {t e : TypeId} {so xo : Operand} (ho : ops[i]? = some o) (hop : o.op = .call ⟨.builtin .append, #[so, xo], #[t, t]⟩) (hw : awant ops o s = some true) (hkey : h key = none) {z1 z2 : Nat} {z3 : List Value} (ht : E.T t = some ⟨.slice e, z1, z2, z3⟩)
    {k : TK} {sz bts : Nat} {z6 : List Value} (hte : E.T e = some ⟨k, sz, bts, z6⟩) (hpos : Nat.ble 1 sz = true) (hso : ev s so = .d (.lit (.slice none 0 0))) {ys : List (List D)} (hxo : ev s xo = .d (.sl sz bts ys) ∨ (ev s xo = .d (.lit (.slice none 0 0)) ∧ ys = []))
    (hn : ys.length ≤ 140737488355328) (hb : ys.length * bts ≤ 140737488355328)
    {s' : Slots} (hs : putS E.N s o.dst (.row key) = some s') (hk' : OW E ops (i + 1) Q ⟨J, s', hset h key (some (.row e sz ys))⟩) : OW E ops i Q ⟨J, s, h⟩ :=
  OW_appendNil (st := ⟨J, s, h⟩) hE key ho hop hw hkey ht hte hpos hso hxo hn hb hs hk'
theorem CW_drawn' (hE : E.Good) (n : Nat) {id : Nat} (hB : Region.lexTailB .any ops.toArray n = true) (hq : HW E ops J h n 0 (fun s => OW E ops n Q ⟨J, s, h⟩) s) : CW E (.region id ops.toArray true) Q ⟨J, s, h⟩ :=
  CW_drawn (st := ⟨J, s, h⟩) hE n hB hq
end
end Go.AL
/- AL, part 21: '==' of structs of plain cells. -/
namespace Go.AL
set_option linter.unusedVariables false
set_option linter.unusedSimpArgs false

def eqD : D → D → Option Bool
  | .lit (.int k a), .lit (.int k' b) => if k = k' then some (a == b) else none
  | .lit (.string a), .lit (.string b) => some (a.toList == b.toList)
  | .lit (.bool a), .lit (.bool b) => some (a == b)
  | _, _ => none
def eqDs : List D → List D → Option Bool
  | [], [] => some true
  | [x], [y] => eqD x y
  | x :: xs, y :: ys => match eqD x y, eqDs xs ys with
    | some a, some b => some (a && b)
    | _, _ => none
  | _, _ => none
def TK.basic : TK → Bool
  | .bool | .int _ | .str => true
  | _ => false
def flatK (T : Nat → Option TI) : List (TypeId × Nat) → Nat → Bool
  | [], _ => true
  | (t, o) :: fs, i => Nat.beq o i && (match T t with | some ti => ti.k.basic && Nat.beq ti.size 1 | none => false) && flatK T fs (i + 1)
def eqOkB (P : Program) (t : TypeId) : Bool := (match P.underlying t with
  | some (.struct fields) => fields.toList.all (fun f => !(f.name == "_"))
  | _ => false) && !P.stoodInHeld t && !P.eqGuardType P.depth t

section
variable {P : Program} {T : Nat → Option TI} (hT : TOk P T)
include hT
theorem run_eqD {d : Nat} {t : TypeId} {ti : TI} (ht : T t = some ti) (hb : ti.k.basic = true) {w' : World} {M : Nat → Prop} {x y : D} {a b : Value} (hx : RD w' M x a) (hy : RD w' M y b) {r : Bool} (he : eqD x y = some r)
    (hfx : ∃ u, x = .lit u) {w : World} (hk : ∀ k n, x = .lit (.int k n) → ti.k = .int k) (hs : ∀ n, x = .lit (.string n) → ti.k = .str) (hbb : ∀ n, x = .lit (.bool n) → ti.k = .bool) : (Op.equalIn (d + 1) t a b).run P w = .ok r w := by
  have hfit := (hT t _ ht).2
  unfold eqD at he
  split at he
  · rename_i k m k' n
    split at he
    · rename_i e
      subst e
      cases he
      obtain ⟨rfl, _⟩ := hx
      obtain ⟨rfl, _⟩ := hy
      rw [hk _ _ rfl] at hfit
      simp only [TK.fits] at hfit
      simp [Op.equalIn, run_underlying hfit]
    · cases he
  · cases he
    obtain ⟨rfl, _⟩ := hx
    obtain ⟨rfl, _⟩ := hy
    rw [hs _ rfl] at hfit
    simp only [TK.fits] at hfit
    exact run_equalIn_string w d t _ _ hfit
  · cases he
    obtain ⟨rfl, _⟩ := hx
    obtain ⟨rfl, _⟩ := hy
    rw [hbb _ rfl] at hfit
    simp only [TK.fits] at hfit
    simp [Op.equalIn, run_underlying hfit]
  · cases he
end

/-- The data are of the fields' kinds. -/
def kindD : TK → D → Bool
  | .bool, .lit (.bool _) => true
  | .int k, .lit (.int k' _) => decide (k = k')
  | .str, .lit (.string _) => true
  | _, _ => false
def kindsD (T : Nat → Option TI) : List (TypeId × Nat) → List D → Bool
  | [], [] => true
  | (t, _) :: fs, x :: xs => (match T t with | some ti => kindD ti.k x | none => false) && kindsD T fs xs
  | _, _ => false

section
variable {P : Program} {T : Nat → Option TI} (hT : TOk P T)
include hT
theorem run_eqFields {d : Nat} {w w' : World} {M : Nat → Prop} {xs ys : Array Value} : ∀ (fields : List Field) (i : Nat) (X Y : List D) (r : Bool), flatK T (fields.map fun f => (f.type, f.offset)) i = true → (fields.all fun f => !(f.name == "_")) = true →
    kindsD T (fields.map fun f => (f.type, f.offset)) X = true → (∀ j x v, X[j]? = some x → xs[i + j]? = some v → RD w' M x v) → (∀ j y v, Y[j]? = some y → ys[i + j]? = some v → RD w' M y v) → i + X.length = xs.size → i + Y.length = ys.size → X.length = Y.length →
    eqDs X Y = some r → (Op.eqFields (d + 1) xs ys fields).run P w = .ok r w
  | [], i, X, Y, r, _, _, hk, _, _, _, _, hl, he => by
    cases X with
    | nil =>
      cases Y with
      | nil => simp [eqDs] at he; subst he; simp [Op.eqFields]
      | cons y ys => simp at hl
    | cons x xs => simp [kindsD] at hk
  | f :: fields, i, [], Y, r, _, _, hk, _, _, _, _, hl, he => by simp [kindsD] at hk
  | f :: fields, i, x :: X, [], r, _, _, hk, _, _, _, _, hl, he => by simp at hl
  | f :: fields, i, x :: X, y :: Y, r, hf, hn, hk, hx, hy, hxs, hys, hl, he => by
    simp only [List.map_cons, flatK, Bool.and_eq_true] at hf
    obtain ⟨⟨ho, hti⟩, hf⟩ := hf
    have ho : f.offset = i := Nat.eq_of_beq_eq_true ho
    cases ht : T f.type with
    | none => rw [ht] at hti; cases hti
    | some ti =>
      rw [ht] at hti
      simp only [Bool.and_eq_true] at hti
      have hsz : ti.size = 1 := Nat.eq_of_beq_eq_true hti.2
      simp only [List.all_cons, Bool.and_eq_true, Bool.not_eq_true', beq_eq_false_iff_ne, ne_eq] at hn
      simp only [List.map_cons, kindsD, ht, Bool.and_eq_true] at hk
      have hagg : ti.k.isAgg = false := by
        have := hti.1
        cases h : ti.k <;> simp [TK.basic, h] at this <;> rfl
      simp only [List.length_cons] at hxs hys hl
      have hxi : i < xs.size := by omega
      have hyi : i < ys.size := by omega
      have px : (part f.type xs f.offset).run P w = .ok xs[i] w := by
        have ha := run_agg hT ht w
        rw [hagg] at ha
        simp [part, ha, ho, hxi]
      have py : (part f.type ys f.offset).run P w = .ok ys[i] w := by
        have ha := run_agg hT ht w
        rw [hagg] at ha
        simp [part, ha, ho, hyi]
      have hrx := hx 0 x xs[i] rfl (by simp [hxi])
      have hry := hy 0 y ys[i] rfl (by simp [hyi])
      have one : ∀ q, eqD x y = some q → (Op.equalIn (d + 1) f.type xs[i] ys[i]).run P w = .ok q w := fun q hq => by
        have hkd := hk.1
        refine run_eqD hT ht hti.1 hrx hry hq ?_ ?_ ?_ ?_
        · unfold eqD at hq
          split at hq <;> first | exact ⟨_, rfl⟩ | cases hq
        · rintro k n rfl; cases h : ti.k <;> simp [kindD, h] at hkd; simp [hkd]
        · rintro n rfl; cases h : ti.k <;> simp [kindD, h] at hkd; rfl
        · rintro n rfl; cases h : ti.k <;> simp [kindD, h] at hkd; rfl
      have ih := run_eqFields (d := d) (w := w) (w' := w') (M := M) (xs := xs) (ys := ys) fields (i + 1) X Y
      have step : ∀ q s, eqD x y = some q → (Op.eqFields (d + 1) xs ys fields).run P w = .ok s w → (Op.eqFields (d + 1) xs ys (f :: fields)).run P w = .ok (q && s) w := fun q s hq hs => by
        simp only [Op.eqFields, if_pos hn.1, Sem.run_bind, px, py, one q hq, Result.andThen_ok]
        cases q
        · simp
        · simpa using hs
      have hx' : ∀ j x v, X[j]? = some x → xs[i + 1 + j]? = some v → RD w' M x v := fun j x v h1 h2 => hx (j + 1) x v (by simpa using h1) (by rw [← h2]; congr 1; omega)
      have hy' : ∀ j y v, Y[j]? = some y → ys[i + 1 + j]? = some v → RD w' M y v := fun j y v h1 h2 => hy (j + 1) y v (by simpa using h1) (by rw [← h2]; congr 1; omega)
      have ihr : ∀ s, eqDs X Y = some s → (Op.eqFields (d + 1) xs ys fields).run P w = .ok s w := fun s hs => ih s hf (by simpa using hn.2) hk.2 hx' hy' (by omega) (by omega) (by omega) hs
      cases X with
      | nil =>
        cases Y with
        | nil =>
          simp only [eqDs] at he
          have := step r true he (ihr true rfl)
          rwa [Bool.and_true] at this
        | cons y2 Y => simp at hl
      | cons x2 X =>
        simp only [eqDs] at he
        split at he
        · rename_i q s hq hs
          cases he
          exact step q s hq (ihr s hs)
        · cases he

/-- '==' of structs whose fields are plain. -/
theorem eqLaw_flat {t : TypeId} {fs : List (TypeId × Nat)} {z1 z2 : Nat} {z3 : List Value} (ht : T t = some ⟨.struct fs, z1, z2, z3⟩) (hok : eqOkB P t = true) (hfl : flatK T fs 0 = true) {X Y : List D} (hk : kindsD T fs X = true) (hl : X.length = Y.length) {r : Bool} (he : eqDs X Y = some r) :
    EqLaw P t (X.map .d) (Y.map .d) r := by
  intro C xs ys w xo yo hx hy
  obtain ⟨fields, hu, hfs⟩ := (hT t _ ht).2
  unfold eqOkB at hok
  rw [hu] at hok
  simp only [Bool.and_eq_true, Bool.not_eq_true'] at hok
  obtain ⟨⟨hn, hsh⟩, hg⟩ := hok
  have hx' := RAs_map_d.1 hx
  have hy' := RAs_map_d.1 hy
  have get : ∀ {Z : List D} {zs : Array Value}, RDs C.w C.M Z zs.toList → ∀ j x v, Z[j]? = some x → zs[0 + j]? = some v → RD C.w C.M x v := fun {Z zs} hz j x v h1 h2 => by
    obtain ⟨v', e, h3⟩ := RAs_get (C := C) (RAs_map_d.2 hz) (i := j) (x := .d x) (by simp [h1])
    rw [Nat.zero_add] at h2
    have : v' = v := by
      have e' : zs[j]? = some v' := by simpa using e
      rw [h2] at e'; exact (Option.some.inj e').symm
    subst this
    exact h3
  have hlx := RDs_length hx'
  have hly := RDs_length hy'
  have hfd : P.fieldsOf t = fields := by simp [Program.fieldsOf, hu]
  have run : (Op.equalIn 10000 t (.agg xs) (.agg ys)).run P w = .ok r w := by
    rw [run_equalIn_struct (P := P) w 9999 t xs ys (by rw [hfd]; exact hu) hsh, hfd]
    exact run_eqFields hT (w' := C.w) (M := C.M) fields.toList 0 X Y r (by rw [hfs]; exact hfl) hn (by rw [hfs]; exact hk) (get hx') (get hy') (by simpa using hlx.symm) (by simpa using hly.symm) hl he
  have run' : (Op.equal t (.agg xs) (.agg ys)).run P w = .ok r w := run
  constructor
  · simp only [Sem.run_bind, run_eqGuard_agg w .eql t xo yo xs ys hg, Result.andThen_ok]
    simp [binOp, run']
  · simp only [Sem.run_bind, run_eqGuard_agg w .neq t xo yo xs ys hg, Result.andThen_ok]
    simp [binOp, run']
end
end Go.AL
/- AL, part 22: regions that draw, with a new variable laid and written among the quiet operations. -/
namespace Go.AL
set_option linter.unusedVariables false
set_option linter.unusedSimpArgs false

theorem Oper.wpIn_mono2 {F : Fence} {n : Nat} {P : Program} {Q Q' : Exit → Act → World → Prop} {o : Oper} {a : Act} {w : World} {K K' : Act → World → Prop} (h : ∀ a w, K a w → K' a w) (hq : ∀ e a w, e ≠ .normal → Q e a w → Q' e a w)
    (hh : o.wpIn F n P a w K Q) : o.wpIn F n P a w K' Q' := by
  unfold Oper.wpIn at *
  refine ⟨hh.1, ?_⟩
  have hh := hh.2
  generalize (o.semAt F.round a.eval).run P w = r at *
  have lo : LetsOut Q → LetsOut Q' := fun ⟨a, w, h⟩ => ⟨a, w, hq _ _ _ (by simp) h⟩
  cases r with
  | ok x w' =>
    cases x <;> simp only [Oper.uponIn] at hh ⊢ <;>
      first
        | exact h _ _ hh
        | exact ⟨hh.1, CallsIn.mono hh.2 (fun e w'' he => by cases e <;> first | exact h _ _ he | exact hq _ _ _ (by simp) he | exact lo he)⟩
        | exact ⟨hh.1, RowsIn.mono hh.2 (fun _ _ he => h _ _ he)⟩
        | exact ⟨hh.1, RoundIn.mono hh.2 (fun e w'' he => by cases e <;> first | exact h _ _ he | exact hq _ _ _ (by simp) he | exact lo he)⟩
  | halt x w' => cases x <;> simp only [Oper.uponIn] at hh ⊢ <;> first | exact hh | exact hq _ _ _ (by simp) hh

/-- One operation by itself. -/
def OpG (E : Env) (o : Oper) (st : St) (K : St → Prop) : Prop := ∀ ι a w, RelS E st ι a w → ∀ (K' : Act → World → Prop) (Q' : Exit → Act → World → Prop),
  (∀ st' ι' a' w', K st' → RelS E st' ι' a' w' → K' a' w') → o.wpIn E.F E.n E.P a w K' Q'
theorem opG_of_OW {E : Env} {o : Oper} {st : St} {K : St → Prop} (hg : o.guard = none) (h : OW E [o] 0 (fun e st' => e = .normal ∧ K st') st) : OpG E o st K := fun ι a w r K' Q' hk => by
  have := h ι a w r
  simp only [List.drop_zero, wpListIn] at this
  rw [if_pos (by simp [Region.wanted, hg])] at this
  exact Oper.wpIn_mono2 (fun a' w' ⟨st', ι', ⟨_, q⟩, r'⟩ => hk st' ι' a' w' q r') (fun e a' w' hne ⟨st', ι', ⟨he, q⟩, r'⟩ => (hne he).elim) this

/-! ### The tree of orders, over heaps that hang on what has come up -/
section
variable (E : Env) (ops : List Oper) (Y : Nat → Slots → AV → Prop)
def qB (i : Nat) (K : Slots → Prop) (s : Slots) : Prop :=
  match ops[i]? with
  | none => K s
  | some o => ∃ x, dstOk E.N o.dst = true ∧ Y i s x ∧ K (pu s o.dst x)
def anyB (n : Nat) (L : Array Bool → Slots → Prop) : Nat → Array Bool → Slots → Prop
  | 0, listed, s => L listed s
  | f + 1, listed, s => Region.ready .any ops.toArray listed ≠ [] ∧ ∀ i ∈ Region.ready .any ops.toArray listed, i < n ∧ qB E ops Y i (anyB n L f (listed.setIfInBounds i true)) s
def QB (K : Slots → Prop) : List Oper → Nat → Slots → Prop
  | [], _, s => K s
  | o :: rest, k, s => ∃ x, dstOk E.N o.dst = true ∧ Y k s x ∧ QB K rest (k + 1) (pu s o.dst x)
def YStable : Prop := ∀ i o s s' x, ops[i]? = some o → (∀ t ∈ o.looksAt ops.toArray, s' t = s t) → Y i s x → Y i s' x
end

section
variable {E : Env} {ops : List Oper} {Y : Nat → Slots → AV → Prop}
theorem qB_mono {i : Nat} {K K' : Slots → Prop} {s : Slots} (hk : ∀ s, K s → K' s) (hq : qB E ops Y i K s) : qB E ops Y i K' s := by
  unfold qB at *
  split
  · rename_i ho; simp only [ho] at hq; exact hk _ hq
  · rename_i o ho; simp only [ho] at hq; obtain ⟨x, h1, h2, h3⟩ := hq; exact ⟨x, h1, h2, hk _ h3⟩
theorem qB_put (hY : YStable ops Y) {i j : Nat} {oi oj : Oper} {v : AV} (hi : ops[i]? = some oi) (hj : ops[j]? = some oj) (hap : oi.apart ops.toArray oj = true) {K : Slots → Prop} {s : Slots} (hy : Y i s v) (hq : qB E ops Y j K (pu s oi.dst v)) :
    qB E ops Y j (fun s' => Y i s' v ∧ K (pu s' oi.dst v)) s := by
  obtain ⟨h1, h2, h3⟩ := Oper.apart_spec hap
  unfold qB at *
  simp only [hj] at hq ⊢
  obtain ⟨u, g1, g2, g3⟩ := hq
  refine ⟨u, g1, hY j oj (pu s oi.dst v) s u hj (fun t ht => (pu_look s v fun d hd e => h1 d hd (e ▸ ht)).symm) g2, hY i oi s (pu s oj.dst u) v hi (fun t ht => pu_look s u fun d hd e => h3 d hd (e ▸ ht)) hy, ?_⟩
  rw [← pu_comm s v u h2]
  exact g3

theorem anyB_first (hY : YStable ops Y) {n i : Nat} {oi : Oper} {v : AV} {L : Array Bool → Slots → Prop} (hi : ops[i]? = some oi) (hs : Region.sinkB .any ops.toArray n = true) (hc : Region.chainB .any ops.toArray n = true) (hn : n < ops.toArray.size) (hin : i < n) (hdo : dstOk E.N oi.dst = true)
    (hdone : ∀ listed s, L listed s → ∀ j ∈ Region.ready .any ops.toArray listed, n ≤ j) :
    ∀ (f : Nat) (listed : Array Bool) (s : Slots), HeadInv .any ops.toArray n listed →
      (∀ j oj, ops.toArray[j]? = some oj → j ≠ i → listed.getD j true = false → (∀ e ∈ oj.after, Region.binds .any e = true → e.on ≠ i) → oi.apart ops.toArray oj = true) →
      i ∈ Region.ready .any ops.toArray listed → Y i s v →
      anyB E ops Y n L f (listed.setIfInBounds i true) (pu s oi.dst v) → anyB E ops Y n L (f + 1) listed s := by
  intro f
  induction f with
  | zero =>
    intro listed s inv _ hr hy H
    have hun := (mem_ready.1 hr).1
    refine ⟨fun h => (by rw [h] at hr; cases hr), fun j hj => ?_⟩
    have hjn : j < n := by
      rcases Nat.lt_or_ge j n with h | h
      · exact h
      · exact absurd hj (tail_waits hs hc hn inv _ i rfl hin hun j h)
    refine ⟨hjn, ?_⟩
    by_cases hji : j = i
    · subst hji
      unfold qB
      simp only [hi]
      exact ⟨v, hdo, hy, H⟩
    · have := hdone _ _ H j (ready_mono hj hji)
      omega
  | succ f ih =>
    intro listed s inv hfree hr hy H
    have hun := (mem_ready.1 hr).1
    refine ⟨fun h => (by rw [h] at hr; cases hr), fun j hj => ?_⟩
    have hjn : j < n := by
      rcases Nat.lt_or_ge j n with h | h
      · exact h
      · exact absurd hj (tail_waits hs hc hn inv _ i rfl hin hun j h)
    refine ⟨hjn, ?_⟩
    by_cases hji : j = i
    · subst hji
      unfold qB
      simp only [hi]
      exact ⟨v, hdo, hy, H⟩
    · have h1 := (H.2 j (ready_mono hj hji)).2
      obtain ⟨hjun, oj, hoj, hall⟩ := mem_ready.1 hj
      have hoj' : ops[j]? = some oj := by simpa using hoj
      have hnot : ∀ e ∈ oj.after, Region.binds .any e = true → e.on ≠ i := fun e he hb heq => by
        have h1 := hall e he hb
        rw [heq, getD_both hun] at h1
        cases h1
      have h2 := qB_put hY hi hoj' (hfree j oj hoj hji hjun hnot) hy h1
      have hfree' : ∀ k ok, ops.toArray[k]? = some ok → k ≠ i → (listed.setIfInBounds j true).getD k true = false →
          (∀ e ∈ ok.after, Region.binds .any e = true → e.on ≠ i) → oi.apart ops.toArray ok = true := fun k ok hk hki hun hno => by
        refine hfree k ok hk hki ?_ hno
        by_cases hjk : j = k
        · subst hjk; exact hjun
        · rw [getD_set_ne true hjk] at hun; exact hun
      refine qB_mono (fun s' h3 => ih (listed.setIfInBounds j true) s' (inv.set hj hjn) hfree' (ready_mono hr (Ne.symm hji)) h3.1 ?_) h2
      rw [Array.setIfInBounds_comm _ _ hji]
      exact h3.2

theorem anyB_lex (hY : YStable ops Y) {n g : Nat} {K : Slots → Prop} (hs : Region.sinkB .any ops.toArray n = true) (hc : Region.chainB .any ops.toArray n = true) (hn : n < ops.toArray.size) :
    ∀ (l : List Oper) (k : Nat) (listed : Array Bool) (s : Slots), (∀ j, j < l.length → l[j]? = ops[k + j]?) → k + l.length = n → HeadInv .any ops.toArray n listed → (∀ j, j < k → listed.getD j false = true) →
    Region.lexHead .any ops.toArray g l.length k listed = true → QB E Y K l k s →
    anyB E ops Y n (fun listed' s' => (Region.seqB .any ops.toArray g n listed' = true ∧ ∀ j, j < n → listed'.getD j false = true) ∧ K s') l.length listed s
  | [], k, listed, s, _, hk, _, hall, hB, hq => by
    have : k = n := by simpa using hk
    subst this
    exact ⟨⟨by simpa [Region.lexHead] using hB, hall⟩, hq⟩
  | o :: l, k, listed, s, hl, hk, inv, hall, hB, hq => by
    have h0 : ops[k]? = some o := by simpa using (hl 0 (by simp)).symm
    simp only [List.length_cons, Region.lexHead, Bool.and_eq_true] at hB
    obtain ⟨⟨hr, hf⟩, hB'⟩ := hB
    have hkn : k < n := by simp only [List.length_cons] at hk; omega
    have hr' : k ∈ Region.ready .any ops.toArray listed := by simpa using hr
    obtain ⟨x, g1, g2, g3⟩ := hq
    have hall' : ∀ j, j < k + 1 → (listed.setIfInBounds k true).getD j false = true := fun j hj => by
      by_cases hjk : k = j
      · subst hjk
        have : k < listed.size := by rw [inv.size]; omega
        simp [this]
      · rw [getD_set_ne false hjk]; exact hall j (by omega)
    exact anyB_first hY h0 hs hc hn hkn g1 (fun listed' s' hL => seqB_ready hL.1.1) l.length listed s inv (Region.free_spec (by simpa using h0) hf) hr' g2
      (anyB_lex hY hs hc hn l (k + 1) _ _ (fun j hj => by have := hl (j + 1) (by simp; omega); simpa [Nat.add_assoc, Nat.add_comm 1 j] using this) (by simp only [List.length_cons] at hk; omega) (inv.set hr' hkn) hall' hB' g3)

def bits (listed : Array Bool) (j : Nat) : Bool := listed.getD j false

theorem wpAnyIn_of_headB {J : Jt} (H : (Nat → Bool) → Heap) {n g : Nat} {L : Array Bool → Slots → Prop} {Q' : Exit → Act → World → Prop}
    (hop : ∀ i o listed s x, ops[i]? = some o → HeadInv .any ops.toArray n listed → i ∈ Region.ready .any ops.toArray listed → i < n → Y i s x → dstOk E.N o.dst = true → ∀ ι a w, RelS E ⟨J, s, H (bits listed)⟩ ι a w → ∀ (K' : Act → World → Prop),
      (∀ ι' a' w', RelS E ⟨J, pu s o.dst x, H (bits (listed.setIfInBounds i true))⟩ ι' a' w' → K' a' w') → wpOpIn E.F E.n E.P ops.toArray Q' i K' a w)
    (hL : ∀ listed s ι a w, RelS E ⟨J, s, H (bits listed)⟩ ι a w → L listed s → wpAnyIn E.F E.n E.P .any ops.toArray Q' g listed a w) :
    ∀ (f : Nat) (listed : Array Bool) (s : Slots) (ι : Nat → Value) (a : Act) (w : World), HeadInv .any ops.toArray n listed → RelS E ⟨J, s, H (bits listed)⟩ ι a w → anyB E ops Y n L f listed s → wpAnyIn E.F E.n E.P .any ops.toArray Q' (f + g) listed a w
  | 0, listed, s, ι, a, w, _, r, hh => by rw [Nat.zero_add]; exact hL _ _ _ _ _ r hh
  | f + 1, listed, s, ι, a, w, inv, r, hh => by
    rw [show f + 1 + g = (f + g) + 1 by omega]
    refine ⟨fun h0 => absurd h0 hh.1, fun i hi => ?_⟩
    obtain ⟨hin, hq⟩ := hh.2 i hi
    obtain ⟨_, o, ho, _⟩ := mem_ready.1 hi
    have ho' : ops[i]? = some o := by simpa using ho
    unfold qB at hq
    simp only [ho'] at hq
    obtain ⟨x, h1, h2, h3⟩ := hq
    exact hop i o listed s x ho' inv hi hin h2 h1 ι a w r _ fun ι' a' w' r' => wpAnyIn_of_headB H hop hL f _ _ ι' a' w' (inv.set hi hin) r' h3
end
end Go.AL
