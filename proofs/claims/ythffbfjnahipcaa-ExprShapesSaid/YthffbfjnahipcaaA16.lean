/- AL, part 16: the rule for a range over a function. -/
import Derived.Test.YthffbfjnahipcaaA15
namespace Go.AL
set_option linter.unusedVariables false
set_option linter.unusedSimpArgs false

def listS (L : List AV) : Slots := fun i => L.getD i .any
def slotsL (N : Nat) (s : Slots) : List AV := (List.range N).map s
def psets : List Tmp → List AV → Slots → Slots
  | p :: ps, x :: xs, s => psets ps xs (sset s p x)
  | _, _, s => s

theorem RAs_listS {C : Cx} {L : List AV} {vs : List Value} (h : RAs C L vs) (i : Nat) : RA C (listS L i) (vs.toArray.getD i undef) := by
  unfold listS
  cases hi : L[i]? with
  | none => simp [hi, RA]
  | some x =>
    obtain ⟨v, hv, hx⟩ := RAs_get h hi
    simp [hi, hv, hx]
theorem RAs_slotsL {C : Cx} {s : Slots} {tm : Array Value} (h : ∀ i, RA C (s i) (tm.getD i undef)) : RAs C (slotsL tm.size s) tm.toList := by
  refine RAs_of_get (by simp [slotsL]) fun i x v hx hv => ?_
  have hi : i < tm.size := by simpa using (List.getElem?_eq_some_iff.1 hv).1
  have : x = s i := by
    simp [slotsL, hi] at hx
    exact hx.symm
  subst this
  have := h i
  rw [Array.getD_eq_getD_getElem?] at this
  simp at hv
  simpa [hv] using this
theorem psets_ok {C : Cx} {N : Nat} : ∀ (ps : List Tmp) (xs : List AV) (us : List Value) (s : Slots) (tm : Array Value), ps.all (fun p => Nat.ble (p + 1) N) = true → tm.size = N → RAs C xs us → (∀ i, RA C (s i) (tm.getD i undef)) →
    ((ps.zip us).foldl (fun t (x : Tmp × Value) => t.setIfInBounds x.1 x.2) tm).size = N ∧ ∀ i, RA C (psets ps xs s i) (((ps.zip us).foldl (fun t (x : Tmp × Value) => t.setIfInBounds x.1 x.2) tm).getD i undef)
  | [], xs, us, s, tm, hp, hN, hx, hs => ⟨hN, hs⟩
  | p :: ps, [], us, s, tm, hp, hN, hx, hs => by
    simp only [RAs] at hx
    subst hx
    exact ⟨hN, hs⟩
  | p :: ps, x :: xs, us, s, tm, hp, hN, hx, hs => by
    simp only [RAs] at hx
    obtain ⟨v, t, rfl, h1, h2⟩ := hx
    simp only [List.all_cons, Bool.and_eq_true] at hp
    simp only [psets, List.zip_cons_cons, List.foldl_cons]
    refine psets_ok ps xs t (sset s p x) (tm.setIfInBounds p v) hp.2 (by simpa using hN) h2 fun i => ?_
    have hlt : p < tm.size := by rw [hN]; exact Nat.le_of_ble_eq_true hp.1
    by_cases hi : i = p
    · subst hi
      rw [sset_same]
      simpa [Array.getD_eq_getD_getElem?, hlt] using h1
    · rw [sset_ne _ _ hi]
      have : (tm.setIfInBounds p v).getD i undef = tm.getD i undef := by
        simp [Array.getD_eq_getD_getElem?, Array.getElem?_setIfInBounds, Ne.symm hi]
      rw [this]; exact hs i

/-- A ghost is laid beside. -/
theorem Mem.ghost {Z K : Nat → Prop} {J : World → Prop} {h : Heap} {ι : Nat → Value} {w : World} (m : Mem Z K J h ι w) {G : Nat} (hG : h G = none) {L : List AV} {vs : List Value} (hv : RAs (cx Z h ι w) L vs) :
    Mem Z K J (hset h G (some (.ghost L vs))) (fun j => bif Nat.beq j G then .slice none 0 0 else ι j) w := by
  refine (m.add (Grew.refl w) hG (e := .ghost L vs) (v := .slice none 0 0) (fun b hb => by simp [blk] at hb) ⟨rfl, ?_⟩).1
  refine RAs_keeps (C := cx Z h ι w) (C' := cx Z (hset h G (some (.ghost L vs))) (fun j => bif Nat.beq j G then .slice none 0 0 else ι j) w) ⟨⟨fun _ _ _ _ hh => hh, fun _ _ hh => hh, fun b _ hm hm' => ?_⟩, fun j hj => ?_⟩ _ _ hv
  · rcases hm' with hz | ⟨j, hj, hjb⟩
    · exact hm (.inl hz)
    · by_cases hjk : j = G
      · subst hjk; simp [blk] at hjb
      · have hb : Nat.beq j G = false := Bool.eq_false_iff.2 fun h' => hjk (Nat.eq_of_beq_eq_true h')
        simp only [dom, hset_ne h _ hjk] at hj
        simp only [hb, cond_false] at hjb
        exact hm (.inr ⟨j, hj, hjb⟩)
  · have hne : j ≠ G := by intro e; subst e; simp [dom, hG] at hj
    have hb : Nat.beq j G = false := Bool.eq_false_iff.2 fun h' => hne (Nat.eq_of_beq_eq_true h')
    exact ⟨by show (hset h G _ j).isSome = true; rw [hset_ne h _ hne]; exact hj, by simp [hb]⟩

def Jumps (Q : Exit → St → Prop) (c : Code) (st : St) : Prop := (c = .ret ∧ Q .ret st) ∨ ∃ id, c = .exit id ∧ Q (.exit id) st

/-- What is owed where a round's assignments, its body end. -/
def asgQ (E : Env) (Br Bb : Jt → Jt) (J : Jt) (body : Code) (Qb : Exit → St → Prop) : Exit → St → Prop := fun e st => e = .normal ∧ st.J = Br J ∧ CW E body Qb ⟨Bb J, st.s, st.h⟩
def bodyQ (E : Env) (Bb : Jt → Jt) (J0 : Jt) (G : Nat) (tm : List Value) (Nx : Jt → Heap → Prop) (Q : Exit → St → Prop) : Exit → St → Prop
  | .normal, st => ∃ st', LE E st st' ∧ ∃ J, st'.J = Bb J ∧ Nx J st'.h
  | .ret, st => ∃ st', LE E st st' ∧ ∃ J L, (Mono J0 → Mono J) ∧ st'.J = Bb J ∧ st'.h G = some (.ghost L tm) ∧ Q .ret ⟨J, listS L, st'.h⟩
  | .exit id, st => ∃ st', LE E st st' ∧ ∃ J L, (Mono J0 → Mono J) ∧ st'.J = Bb J ∧ st'.h G = some (.ghost L tm) ∧ Q (.exit id) ⟨J, listS L, st'.h⟩
  | _, _ => False

section
variable {EZ : Nat → Prop} {tm : List Value} {rs : List Nat} {G l : Nat} {rec : Loop}

/-- From the record's being ready to its being busy. -/
theorem round_begin {E : Env} {K0 Y0 Ya0 Za0 : Nat → Prop} {w1 : World} {J : Jt} (hJ : Mono J) (hly : Y0 l) (rec' : Loop) {s : Slots} {h : Heap} {ι : Nat → Value} {a : Act} {w : World} (r : RelS E ⟨rnd K0 Y0 Ya0 Za0 w1 rs l rec J, s, h⟩ ι a w) :
    w.heap[l]? = some (.loop rec) ∧ RelS E ⟨rnd K0 Y0 Ya0 Za0 w1 rs l rec' J, s, h⟩ ι a (setO w l (.loop rec')) := by
  obtain ⟨Z, K, Y, hZE, r⟩ := r
  obtain ⟨Kj, h1, h2, x⟩ := r.mem.Jw
  refine ⟨x.rc, Z, K, Y, ⟨hZE.1, hZE.2.1, mono_rnd hJ⟩, ?_⟩
  have hlt := (Array.getElem?_eq_some_iff.1 x.rc).1
  have hJ' : rnd K0 Y0 Ya0 Za0 w1 rs l rec' J K Y Z (setO w l (.loop rec')) := by
    refine ⟨Kj, h1, hJ.closed Kj Y Z w _ h2 (setO_step w l _ x.lkj), ?_⟩
    exact ⟨by simp [setO, hlt], x.lk, x.lkj, x.ly, x.st.trans (setO_step w l _ fun hb => hb.2 hly), x.sk, x.kj, x.y, x.z, x.rs⟩
  have m1 := (r.mem.side (J' := fun _ => True) (K' := fun _ => False) (fun _ _ _ => rfl) (Nat.le_refl _) (fun _ h => .inl h) r.mem.Zlt (fun _ _ _ _ h => h) (fun _ h => h.elim) trivial (fun _ _ _ _ => trivial)).1
  have m2 := m1.setO (o' := .loop rec') x.rc rfl (fun h => h)
  have m3 := (m2.side (J' := rnd K0 Y0 Ya0 Za0 w1 rs l rec' J K Y Z) (K' := K) (fun _ _ _ => rfl) (Nat.le_refl _) (fun _ h => .inl h) m2.Zlt (fun k b hk hb => (r.mem.own k b hk hb).2.1) (fun b hb => by rw [setO_size]; exact r.mem.Klt b hb) hJ' ((mono_rnd hJ).closed _ _ _)).1
  refine ⟨m3, r.size, fun i => RA_keeps (keepsC_obj x.rc rfl) _ _ (r.slot i), ?_⟩
  obtain ⟨rs', e1, e2, e3⟩ := r.ds
  refine ⟨rs', e1, e2, fun q hq => ⟨?_, (e3 q hq).2⟩⟩
  have hne : q ≠ l := by intro e; have := (e3 q hq).1; rw [e, x.rc] at this; cases this
  rw [setO_ne _ _ _ hne]; exact (e3 q hq).1

/-- A round has ended. -/
theorem round_end {E : Env} {K Y Z Za Ya Ka : Nat → Prop} {w : World} {J1 : Jt} {h1 : Heap} {L1 : List AV} {ι1 : Nat → Value} {rec0 : Loop} (x0 : ConsX EZ tm rs G l rec0 K Y Z w J1 h1 L1 ι1 Za Ya Ka) (hEZ : ∀ b, Za b → E.Z b) (hYZ : ∀ b, Y b → Z b)
    {J : Jt} (hJ : Mono J) {rec' : Loop} (rec2 : Loop) {s : Slots} {h : Heap} {ι : Nat → Value} {a : Act} {w3 : World} (r : RelS E ⟨rnd K Y Ya Za w rs l rec' J, s, h⟩ ι a w3) {L : List AV} (hG : h G = some (.ghost L tm)) :
    w3.heap[l]? = some (.loop rec') ∧ Turned Y w (setO w3 l (.loop rec2)) ∧ ∃ Za' Ya' Ka', ConsX EZ tm rs G l rec2 (plus K (fresh w (setO w3 l (.loop rec2)))) (plus Y (fresh w (setO w3 l (.loop rec2)))) (plus Z (fresh w (setO w3 l (.loop rec2)))) (setO w3 l (.loop rec2)) J h L ι Za' Ya' Ka' := by
  obtain ⟨Z3, K3, Y3, hZE, r⟩ := r
  obtain ⟨Kj, g1, g2, x⟩ := r.mem.Jw
  have hlt := (Array.getElem?_eq_some_iff.1 x.rc).1
  have hsz := x.st.size
  have htu : Turned Y w (setO w3 l (.loop rec2)) := x.st.trans (setO_step w3 l _ fun hb => hb.2 x0.ly)
  have hs4 : (setO w3 l (.loop rec2)).heap.size = w3.heap.size := setO_size _ _ _
  have hlw : l < w.heap.size := (Array.getElem?_eq_some_iff.1 x0.rc).1
  refine ⟨x.rc, htu, Z3, Y3, Kj, ?_⟩
  have m1 := (r.mem.side (J' := fun _ => True) (K' := fun _ => False) (fun _ _ _ => rfl) (Nat.le_refl _) (fun _ h => .inl h) r.mem.Zlt (fun _ _ _ _ h => h) (fun _ h => h.elim) trivial (fun _ _ _ _ => trivial)).1
  have m2 := m1.setO (o' := .loop rec2) x.rc rfl (fun h => h)
  have hJ4 : J Kj Y3 Z3 (setO w3 l (.loop rec2)) := hJ.closed Kj Y3 Z3 w3 _ g2 (setO_step w3 l _ x.lkj)
  have hKj : ∀ b, Kj b → b < w3.heap.size := fun b hb => r.mem.Klt b (g1 b hb)
  have m3 := (m2.side (J' := J Kj Y3 Z3) (K' := Kj) (fun _ _ _ => rfl) (Nat.le_refl _) (fun _ h => .inl h) m2.Zlt (fun k b hk hb hK => (r.mem.own k b hk hb).2.1 (g1 b hK)) (fun b hb => by rw [setO_size]; exact hKj b hb) hJ4 (hJ.closed _ _ _)).1
  have hfr : ∀ b, w.heap.size ≤ b → b < w3.heap.size → fresh w (setO w3 l (.loop rec2)) b := fun b h1 h2 => ⟨h1, by rw [hs4]; exact h2⟩
  have hza : ∀ b, Za b → Z3 b := fun b hb => hZE.1 b (hEZ b hb)
  refine ⟨hG, hJ, fun b hb => hza b (x0.ez b hb), fun b hb => .inl (x0.ezk b hb), hZE.2.1, fun b hb => ?_, fun b hb => ?_, m3, fun b hb hk => ?_, fun b hb => ?_, fun b hb => ?_, fun k b hk hb => ?_, fun b hb => ?_, by simp [setO, hlt], .inl x0.lk, .inl x0.ly, x.lkj, x.ly, x0.rnd, fun q hq => ?_⟩
  · by_cases hbl : b < w.heap.size
    · exact .inl (x0.yak b (x.y b hb hbl))
    · exact .inr (hfr b (by omega) (r.mem.Zlt b (hZE.2.1 b hb)))
  · by_cases hbl : b < w.heap.size
    · exact .inl (x0.yay b (x.y b hb hbl))
    · exact .inr (hfr b (by omega) (r.mem.Zlt b (hZE.2.1 b hb)))
  · rw [hs4] at hb
    by_cases hbl : b < w.heap.size
    · exact hza b (x0.zk b hbl fun h => hk (.inl h))
    · exact (hk (.inr (hfr b (by omega) hb))).elim
  · by_cases hbl : b < w.heap.size
    · exact .inl (x.kj b hb hbl)
    · exact .inr (hfr b (by omega) (hKj b hb))
  · rcases hb with hb | hb
    · have := x0.klt b hb; rw [hs4]; omega
    · exact hb.2
  · have ho := r.mem.own k b hk hb
    by_cases hbl : b < w.heap.size
    · refine ⟨.inl (Classical.byContradiction fun hn => ho.1 (hza b (x0.zk b hbl hn))), .inl (Classical.byContradiction fun hn => ho.2.1 (x.sk b hbl hn))⟩
    · exact ⟨.inr (hfr b (by omega) ho.2.2), .inr (hfr b (by omega) ho.2.2)⟩
  · by_cases hbl : b < w.heap.size
    · rcases x0.mz b (x.z b hb hbl) with h | h
      · exact .inl (.inl h)
      · refine .inr fun hk => ?_
        rcases hk with hk | hk
        · exact h hk
        · have := hk.1; omega
    · exact .inl (.inr (hfr b (by omega) (r.mem.Zlt b hb)))
  · obtain ⟨f1, f2, f3, f4, f5⟩ := x0.rs q hq
    obtain ⟨e1, e2, e3, e4⟩ := x.rs q hq
    have hql := (Array.getElem?_eq_some_iff.1 f1).1
    refine ⟨by rw [htu.block q ⟨hql, f3⟩]; exact f1, .inl f2, fun hy => ?_, e1, e2⟩
    rcases hy with hy | hy
    · exact f3 hy
    · have := hy.1; omega

/-- A round begins. -/
theorem round_enter {P : Program} {T : Nat → Option TI} {F : Fence} {n N : Nat} {K Y Z Za Ya Ka : Nat → Prop} {w : World} {J : Jt} {h : Heap} {L : List AV} {ι : Nat → Value} (x : ConsX EZ tm rs G l rec K Y Z w J h L ι Za Ya Ka) (hYZ : ∀ b, Y b → Z b)
    {ps : List Tmp} (hps : ps.all (fun p => Nat.ble (p + 1) N) = true) (hN : tm.length = N) {args : List AV} {us : List Value} (hkf : kfs args = true) (hv : RAs (cx (fun b => Z b ∨ (b < w.heap.size ∧ ¬ K b)) noHeap noι w) args us) :
    RelS ⟨P, T, F, n, Za, N⟩ ⟨rnd K Y Ya Za w rs l rec J, psets ps args (listS L), h⟩ ι { tmps := (ps.zip us).foldl (fun t (x : Tmp × Value) => t.setIfInBounds x.1 x.2) tm.toArray, defers := [] } w := by
  let Kr : Nat → Prop := fun b => Ka b ∨ (b < w.heap.size ∧ ¬ Y b) ∨ b = l
  have hl := (Array.getElem?_eq_some_iff.1 x.rc).1
  have hnl : ∀ k b, dom h k → blk (ι k) = some b → b ≠ l := fun k b hk hb e => by
    obtain ⟨c, t, f, hc⟩ := x.mem.cells hk hb
    rw [e, x.rc] at hc; cases hc
  have hJ : rnd K Y Ya Za w rs l rec J Kr Ya Za w := ⟨Ka, fun b hb => .inl hb, x.mem.Jw, x.rc, .inr (.inr rfl), x.lka, x.lya, Step.refl _ _, fun b hb hy => .inr (.inl ⟨hb, hy⟩), fun b hb _ => x.kak b hb, fun b hb _ => hb, fun b hb _ => hb,
    fun r hr => let ⟨g1, g2, g3, g4, g5⟩ := x.rs r hr; ⟨g4, g5, g3, g1⟩⟩
  have m := (x.mem.side (J' := rnd K Y Ya Za w rs l rec J Kr Ya Za) (K' := Kr) (fun _ _ _ => rfl) (Nat.le_refl _) (fun _ h => .inl h) x.mem.Zlt (fun k b hk hb hK => by
    rcases hK with hK | hK | hK
    · exact (x.mem.own k b hk hb).2.1 hK
    · exact hK.2 (x.own k b hk hb).2
    · exact hnl k b hk hb hK) (fun b hb => by
    rcases hb with hb | hb | hb
    · exact x.mem.Klt b hb
    · exact hb.1
    · rw [hb]; exact hl) hJ ((mono_rnd x.mj).closed _ _ _)).1
  have hgh : RAs (cx Za h ι w) L tm := (x.mem.ent G _ x.g).2
  have hv' : RAs (cx Za h ι w) args us := by
    refine RAs_kf (C := cx (fun b => Z b ∨ (b < w.heap.size ∧ ¬ K b)) noHeap noι w) (C' := cx Za h ι w) ⟨fun _ _ _ _ hh => hh, fun _ _ hh => hh, fun b hi hm hm' => ?_⟩ _ _ hkf hv
    rcases hm' with hz | ⟨k, hk, hb⟩
    · rcases x.mz b hz with h | h
      · exact hm (.inl (.inl h))
      · exact hm (.inl (.inr ⟨hi.lt, h⟩))
    · exact hm (.inl (.inl (hYZ b (x.own k b hk hb).2)))
  obtain ⟨p1, p2⟩ := psets_ok (C := cx Za h ι w) ps args us (listS L) tm.toArray hps (by simpa using hN) hv' fun i => RAs_listS hgh i
  exact ⟨Za, Kr, Ya, ⟨fun _ h => h, x.yaz, mono_rnd x.mj⟩, m, p1, p2, Marks.nil _ _ _⟩
end
end Go.AL
