/- AL, part 15: the consumer of an iterator: its state while the iterator is at work, and within a round. -/
import Derived.Test.YthffbfjnahipcaaA14
namespace Go.AL
set_option linter.unusedVariables false
set_option linter.unusedSimpArgs false

/-! ### The consumer, seen from the iterator -/
structure ConsX (EZ : Nat → Prop) (tm : List Value) (rs : List Nat) (G l : Nat) (rec : Loop) (K Y Z : Nat → Prop) (w : World) (J : Jt) (h : Heap) (L : List AV) (ι : Nat → Value) (Za Ya Ka : Nat → Prop) : Prop where
  g : h G = some (.ghost L tm)
  mj : Mono J
  ez : ∀ b, EZ b → Za b
  ezk : ∀ b, EZ b → K b
  yaz : ∀ b, Ya b → Za b
  yak : ∀ b, Ya b → K b
  yay : ∀ b, Ya b → Y b
  mem : Mem Za Ka (J Ka Ya Za) h ι w
  zk : ∀ b, b < w.heap.size → ¬ K b → Za b
  kak : ∀ b, Ka b → K b
  klt : ∀ b, K b → b < w.heap.size
  own : ∀ k b, dom h k → blk (ι k) = some b → K b ∧ Y b
  mz : ∀ b, Za b → Z b ∨ ¬ K b
  rc : w.heap[l]? = some (.loop rec)
  lk : K l
  ly : Y l
  lka : ¬ Ka l
  lya : ¬ Ya l
  rnd : rs.Nodup
  rs : ∀ r ∈ rs, w.heap[r]? = some (.deferred (some [])) ∧ K r ∧ ¬ Y r ∧ ¬ Ka r ∧ ¬ Za r

def Cons (EZ : Nat → Prop) (tm : List Value) (rs : List Nat) (G l : Nat) (rec : Loop) (S : Jt → Heap → List AV → Prop) : Jt := fun K Y Z w =>
  ∃ J h L ι Za Ya Ka, S J h L ∧ ConsX EZ tm rs G l rec K Y Z w J h L ι Za Ya Ka

theorem mono_cons {EZ : Nat → Prop} {tm : List Value} {rs : List Nat} {G l : Nat} {rec : Loop} {S : Jt → Heap → List AV → Prop} : Mono (Cons EZ tm rs G l rec S) := by
  refine ⟨fun K Y Z w w' ⟨J, h, L, ι, Za, Ya, Ka, hS, x⟩ hs => ?_, fun K K2 Y Z Z2 w ⟨J, h, L, ι, Za, Ya, Ka, hS, x⟩ hK hKi hZ hZ2 => ?_⟩
  · have hJ : J Ka Ya (plus Za (fresh w w')) w' := by
      refine x.mj.closed Ka Ya _ w w' (x.mj.mono Ka Ka Ya Za _ w x.mem.Jw (fun _ h => h) (fun _ h => .inl h) (fun _ _ h => .inl h) (fun b h => h.imp (fun h => h) (fun h => h.1))) (hs.weaken x.kak)
    obtain ⟨m', _⟩ := x.mem.side (Z' := plus Za (fresh w w')) (K' := Ka) (w' := w') (fun b hb hz => hs.block b (Classical.byContradiction fun hk => hz (x.zk b hb hk))) hs.size (fun b h => h.imp (fun h => h) (fun h => h.1))
      (fun b h => h.elim (fun h => Nat.lt_of_lt_of_le (x.mem.Zlt b h) hs.size) (fun h => h.2)) (fun k b hk hb => (x.mem.own k b hk hb).2.1) (fun b h => Nat.lt_of_lt_of_le (x.mem.Klt b h) hs.size) hJ (x.mj.closed _ _ _)
    refine ⟨J, h, L, ι, plus Za (fresh w w'), Ya, Ka, hS, x.g, x.mj, fun b hb => .inl (x.ez b hb), x.ezk, fun b hb => .inl (x.yaz b hb), x.yak, x.yay, m', fun b hb hk => ?_, x.kak, fun b hb => Nat.lt_of_lt_of_le (x.klt b hb) hs.size, x.own, fun b hb => ?_,
      by rw [hs.block l x.lk]; exact x.rc, x.lk, x.ly, x.lka, x.lya, x.rnd, fun r hr => ?_⟩
    · by_cases hlt : b < w.heap.size
      · exact .inl (x.zk b hlt hk)
      · exact .inr ⟨by omega, hb⟩
    · rcases hb with hb | hb
      · exact x.mz b hb
      · exact .inr fun hk => by have := x.klt b hk; have := hb.1; omega
    · obtain ⟨g1, g2, g3, g4, g5⟩ := x.rs r hr
      refine ⟨by rw [hs.block r g2]; exact g1, g2, g3, g4, fun hz => ?_⟩
      rcases hz with hz | hz
      · exact g5 hz
      · have := x.klt r g2; have := hz.1; omega
  · let Za2 : Nat → Prop := fun b => Za b ∧ (K b ∨ ¬ K2 b)
    have hJ : J Ka Ya Za2 w := x.mj.mono Ka Ka Ya Za Za2 w x.mem.Jw (fun _ h => h) (fun _ h => .inl h) (fun b hb hz => ⟨hz, .inl (x.kak b hb)⟩) (fun b h => .inl h.1)
    obtain ⟨m', _⟩ := x.mem.side (Z' := Za2) (K' := Ka) (w' := w) (fun _ _ _ => rfl) (Nat.le_refl _) (fun b h => .inl h.1) (fun b h => x.mem.Zlt b h.1) (fun k b hk hb => (x.mem.own k b hk hb).2.1) x.mem.Klt hJ (x.mj.closed _ _ _)
    refine ⟨J, h, L, ι, Za2, Ya, Ka, hS, x.g, x.mj, fun b hb => ⟨x.ez b hb, .inl (x.ezk b hb)⟩, fun b hb => hK b (x.ezk b hb), fun b hb => ⟨x.yaz b hb, .inl (x.yak b hb)⟩, fun b hb => hK b (x.yak b hb), x.yay, m', fun b hb hk => ⟨x.zk b hb fun h => hk (hK b h), .inr hk⟩,
      fun b hb => hK b (x.kak b hb), fun b hb => (hKi b hb).elim (x.klt b) (fun h => h.lt), fun k b hk hb => ⟨hK b (x.own k b hk hb).1, (x.own k b hk hb).2⟩, fun b hb => ?_, x.rc, hK l x.lk, x.ly, x.lka, x.lya, x.rnd, fun r hr => ?_⟩
    · rcases hb.2 with h1 | h1
      · rcases x.mz b hb.1 with h2 | h2
        · exact .inl (hZ b h1 h2)
        · exact (h2 h1).elim
      · exact .inr h1
    · obtain ⟨g1, g2, g3, g4, g5⟩ := x.rs r hr
      exact ⟨g1, hK r g2, g3, g4, fun hz => g5 hz.1⟩

theorem mono_ex {α : Type} {J : α → Jt} (h : ∀ a, Mono (J a)) : Mono (fun K Y Z w => ∃ a, J a K Y Z w) :=
  ⟨fun K Y Z w w' ⟨a, ha⟩ hs => ⟨a, (h a).closed K Y Z w w' ha hs⟩, fun K K2 Y Z Z2 w ⟨a, ha⟩ h1 h2 h3 h4 => ⟨a, (h a).mono K K2 Y Z Z2 w ha h1 h2 h3 h4⟩⟩

/-! ### The consumer within a round -/
structure Ex (K0 Y0 Ya0 Za0 : Nat → Prop) (w1 : World) (rs : List Nat) (l : Nat) (rec : Loop) (Kj K Y Z : Nat → Prop) (w : World) : Prop where
  rc : w.heap[l]? = some (.loop rec)
  lk : K l
  lkj : ¬ Kj l
  ly : ¬ Y l
  st : Step (fun b => b < w1.heap.size ∧ ¬ Y0 b) w1 w
  sk : ∀ b, b < w1.heap.size → ¬ Y0 b → K b
  kj : ∀ b, Kj b → b < w1.heap.size → K0 b
  y : ∀ b, Y b → b < w1.heap.size → Ya0 b
  z : ∀ b, Z b → b < w1.heap.size → Za0 b
  rs : ∀ r ∈ rs, ¬ Kj r ∧ ¬ Z r ∧ ¬ Y0 r ∧ w1.heap[r]? = some (.deferred (some []))

def rnd (K0 Y0 Ya0 Za0 : Nat → Prop) (w1 : World) (rs : List Nat) (l : Nat) (rec : Loop) (J : Jt) : Jt := fun K Y Z w =>
  ∃ Kj : Nat → Prop, (∀ b, Kj b → K b) ∧ J Kj Y Z w ∧ Ex K0 Y0 Ya0 Za0 w1 rs l rec Kj K Y Z w

section
variable {K0 Y0 Ya0 Za0 : Nat → Prop} {w1 : World} {rs : List Nat} {l : Nat} {rec : Loop}
theorem mono_rnd {J : Jt} (hJ : Mono J) : Mono (rnd K0 Y0 Ya0 Za0 w1 rs l rec J) := by
  refine ⟨fun K Y Z w w' ⟨Kj, h1, h2, x⟩ hs => ⟨Kj, h1, hJ.closed Kj Y Z w w' h2 (hs.weaken h1), ?_⟩, fun K K2 Y Z Z2 w ⟨Kj, h1, h2, x⟩ hK hKi hZ hZ2 => ⟨Kj, fun b hb => hK b (h1 b hb), ?_, ?_⟩⟩
  · exact ⟨by rw [hs.block l x.lk]; exact x.rc, x.lk, x.lkj, x.ly, x.st.trans (hs.weaken fun b hb => x.sk b hb.1 hb.2), x.sk, x.kj, x.y, x.z, x.rs⟩
  · exact hJ.mono Kj Kj Y Z Z2 w h2 (fun _ h => h) (fun _ h => .inl h) (fun b hb hz => hZ b (h1 b hb) hz) hZ2
  · have hsz := x.st.size
    refine ⟨x.rc, hK l x.lk, x.lkj, x.ly, x.st, fun b hb hy => hK b (x.sk b hb hy), x.kj, x.y, fun b hb hlt => ?_, fun r hr => ?_⟩
    · rcases hZ2 b hb with h | h
      · exact x.z b h hlt
      · omega
    · obtain ⟨g1, g2, g3, g4⟩ := x.rs r hr
      refine ⟨g1, fun hz => ?_, g3, g4⟩
      rcases hZ2 r hz with h | h
      · exact g2 h
      · have := (Array.getElem?_eq_some_iff.1 g4).1
        omega

theorem wrap_rnd {Z0 : Nat → Prop} (h0 : ∀ b, Z0 b → Za0 b) (hzk : ∀ b, b < w1.heap.size → ¬ K0 b → Za0 b) (hyy : ∀ b, Ya0 b → Y0 b) {W : Jt → Jt} (hW : Wrap Z0 W) : Wrap Za0 (fun J => rnd K0 Y0 Ya0 Za0 w1 rs l rec (W J)) := by
  refine ⟨fun J hJ => mono_rnd (hW.mono J hJ), fun J K Y Z w ⟨Km, h1, h2, x⟩ hz => ?_⟩
  obtain ⟨Kj, g1, g2, g3⟩ := hW.yields J Km Y Z w h2 fun b hb => hz b (h0 b hb)
  refine ⟨Kj, fun b hb => h1 b (g1 b hb), g2, fun J' Kj' w' k1 k2 k3 k4 => ⟨plus Km Kj', ?_, g3 J' Kj' w' k1 k2 k3 k4, ?_⟩⟩
  · intro b hb
    rcases hb with hb | hb
    · exact .inl (h1 b hb)
    · exact .inr hb
  · have hl := (Array.getElem?_eq_some_iff.1 x.rc).1
    have hsz := x.st.size
    have hkm : ∀ b, plus Km Kj' b → Km b ∨ (¬ Z b ∧ isCells w b) ∨ fresh w w' b := fun b hb => by
      rcases hb with hb | hb
      · exact .inl hb
      · rcases k2 b hb with h | h
        · exact .inl (g1 b h)
        · exact .inr h
    have hr : ∀ r ∈ rs, w.heap[r]? = some (.deferred (some [])) := fun r hr => by
      obtain ⟨_, _, g3, g4⟩ := x.rs r hr
      rw [x.st.block r ⟨(Array.getElem?_eq_some_iff.1 g4).1, g3⟩]; exact g4
    refine ⟨by rw [k3.block l ⟨hl, x.ly⟩]; exact x.rc, .inl x.lk, fun hb => ?_, fun hb => ?_, x.st.trans (k3.weaken fun b hb => ⟨Nat.lt_of_lt_of_le hb.1 hsz, fun hy => hb.2 (hyy b (x.y b hy hb.1))⟩), fun b hb hy => .inl (x.sk b hb hy), fun b hb hlt => ?_, fun b hb hlt => ?_, fun b hb hlt => ?_, fun r hr' => ?_⟩
    · rcases hkm l hb with h | ⟨_, c, t, f, hc⟩ | h
      · exact x.lkj h
      · rw [x.rc] at hc; cases hc
      · have := h.1; omega
    · rcases hb with h | h
      · exact x.ly h
      · have := h.1; omega
    · rcases hkm b hb with h | ⟨h, _⟩ | h
      · exact x.kj b h hlt
      · exact Classical.byContradiction fun hk => h (hz b (hzk b hlt hk))
      · have := h.1; omega
    · rcases hb with h | h
      · exact x.y b h hlt
      · have := h.1; omega
    · rcases hb with h | h
      · exact x.z b h hlt
      · have := h.1; omega
    · obtain ⟨g1', g2', g3', g4'⟩ := x.rs r hr'
      have hlt := (Array.getElem?_eq_some_iff.1 g4').1
      refine ⟨fun hb => ?_, fun hb => ?_, g3', g4'⟩
      · rcases hkm r hb with h | ⟨_, c, t, f, hc⟩ | h
        · exact g1' h
        · rw [hr r hr'] at hc; cases hc
        · have := h.1; omega
      · rcases hb with h | h
        · exact g2' h
        · have := h.1; omega
end
end Go.AL
