/- Parts of an abstract logic over the kit's walks, and walks in it: Cop, Cop2, Cop3, Cop4. -/
import Derived.Test.YtchpllgeahnmmaaDoorAf
import Derived.Test.YtchpllgeahnmmaaDoorEz
import Derived.Test.YtchpllgeahnmmaaDoorBa
namespace Go.AL
set_option linter.unusedVariables false
set_option linter.unusedSimpArgs false
def ilv : List Ty → List Value → List Value
  | t :: s, f :: fl => .string t.name :: f :: ilv s fl
  | _, _ => []
def fldD (t : Ty) : AV := .d (.sl 2 24 (t.fields.map encF))
def ccC (q i : Nat) : Nat → List Ty → List Value → List AV
  | j, t :: s, f :: fl => .d (str t.name) :: (if j < i then (if j = q then .row 70 else fldD t) else litA f) :: ccC q i (j + 1) s fl
  | _, _, _ => []
def finC (q : Nat) : Nat → List Ty → List AV
  | _, [] => []
  | j, t :: s => .d (str t.name) :: (if j = q then .row 70 else fldD t) :: finC q (j + 1) s
theorem ilv_of : ∀ {s : List Ty} {vs : List Value}, LitAt ((s.map encT).flatten.map .d) vs → vs.length = s.length * 2 → ∃ fl, fl.length = s.length ∧ vs = ilv s fl
  | [], vs, _, hl => ⟨[], rfl, by simp at hl; subst hl; rfl⟩
  | t :: s, vs, h, hl => by
    match vs, hl with
    | a :: b :: r, hl =>
      have h0 := h 0 (.string t.name) (by simp [encT, str])
      simp at h0
      subst h0
      obtain ⟨fl, e1, e2⟩ := ilv_of (s := s) (vs := r) (fun j u hj => by
        have := h (j + 2) u (by simp [encT]; simpa using hj)
        simpa using this) (by simp at hl; omega)
      exact ⟨b :: fl, by simp [e1], by simp [ilv, e2]⟩
    | [a], hl => simp at hl; omega
    | [], hl => simp at hl
theorem ccC_len {q i : Nat} : ∀ {j : Nat} {s : List Ty} {fl : List Value}, fl.length = s.length → (ccC q i j s fl).length = s.length * 2
  | j, [], fl, h => by simp at h; subst h; rfl
  | j, t :: s, [], h => by simp at h
  | j, t :: s, f :: fl, h => by
    have := ccC_len (q := q) (i := i) (j := j + 1) (s := s) (fl := fl) (by simpa using h)
    simp only [ccC, List.length_cons, this]; omega
theorem ccC_zero {q : Nat} : ∀ {j : Nat} {s : List Ty} {fl : List Value}, fl.length = s.length → (ilv s fl).map litA = ccC q 0 j s fl
  | j, [], fl, h => by simp at h; subst h; rfl
  | j, t :: s, [], h => by simp at h
  | j, t :: s, f :: fl, h => by
    have := ccC_zero (q := q) (j := j + 1) (s := s) (fl := fl) (by simpa using h)
    simp only [ilv, List.map_cons, ccC, this]
    simp [litA, str]
theorem ccC_end {q i : Nat} : ∀ {j : Nat} {s : List Ty} {fl : List Value}, fl.length = s.length → j + s.length ≤ i → ccC q i j s fl = finC q j s
  | j, [], fl, h, _ => by simp at h; subst h; rfl
  | j, t :: s, [], h, _ => by simp at h
  | j, t :: s, f :: fl, h, hi => by
    simp only [List.length_cons] at hi
    have := ccC_end (q := q) (i := i) (j := j + 1) (s := s) (fl := fl) (by simpa using h) (by omega)
    simp only [ccC, finC, this]
    rw [if_pos (by omega)]
theorem ccC_see {q i : Nat} : ∀ {j : Nat} {s : List Ty} {fl : List Value} (p : Nat) (u : Value), fl.length = s.length → (i - j) * 2 ≤ p → (ilv s fl)[p]? = some u → (ccC q i j s fl)[p]? = some (litA u)
  | j, [], fl, p, u, h, _, hu => by simp at h; subst h; simp [ilv] at hu
  | j, t :: s, [], p, u, h, _, hu => by simp at h
  | j, t :: s, f :: fl, p, u, h, hp, hu => by
    simp only [ilv] at hu
    simp only [ccC]
    match p, hp, hu with
    | 0, hp, hu => simp at hu; subst hu; simp [litA, str]
    | 1, hp, hu =>
      simp at hu; subst hu
      rw [if_neg (by omega)]
      rfl
    | p + 2, hp, hu =>
      have := ccC_see (q := q) (i := i) (j := j + 1) (s := s) (fl := fl) p u (by simpa using h) (by omega) (by simpa using hu)
      simpa using this
theorem ccC_past {q i : Nat} : ∀ {j : Nat} {s : List Ty} {fl : List Value}, i < j → ccC q (i + 1) j s fl = ccC q i j s fl
  | j, [], fl, _ => by simp [ccC]
  | j, t :: s, [], _ => by simp [ccC]
  | j, t :: s, f :: fl, h => by
    simp only [ccC]
    rw [ccC_past (by omega), if_neg (by omega), if_neg (by omega)]
theorem ccC_put {q : Nat} : ∀ {j d : Nat} {s : List Ty} {fl : List Value} {t : Ty}, fl.length = s.length → s[d]? = some t →
    overwrite (ccC q (j + d) j s fl) (d * 2 + 1) [if j + d = q then .row 70 else fldD t] = ccC q (j + d + 1) j s fl
  | j, d, [], fl, t, h, ht => by simp at ht
  | j, d, t0 :: s, [], t, h, ht => by simp at h
  | j, 0, t0 :: s, f :: fl, t, h, ht => by
    simp at ht; subst ht
    simp only [Nat.add_zero, ccC]
    rw [if_neg (show ¬ j < j by omega), if_pos (show j < j + 1 by omega), ccC_past (by omega)]
    simp [overwrite]
  | j, d + 1, t0 :: s, f :: fl, t, h, ht => by
    have := ccC_put (q := q) (j := j + 1) (d := d) (s := s) (fl := fl) (t := t) (by simpa using h) (by simpa using ht)
    rw [show j + 1 + d = j + (d + 1) by omega] at this
    simp only [ccC]
    rw [← this, if_pos (show j < j + (d + 1) by omega), if_pos (show j < j + (d + 1) + 1 by omega)]
    simp only [overwrite, show (d + 1) * 2 + 1 = d * 2 + 1 + 2 by omega, List.take_succ_cons, List.length_singleton, show d * 2 + 1 + 2 + 1 = d * 2 + 1 + 1 + 2 by omega, List.drop_succ_cons, List.cons_append]
theorem ccC_put0 {q i : Nat} {s : List Ty} {fl : List Value} {t : Ty} {x : AV} (h : fl.length = s.length) (ht : s[i]? = some t) (hx : x = if i = q then .row 70 else fldD t) : overwrite (ccC q i 0 s fl) (i * 2 + 1) [x] = ccC q (i + 1) 0 s fl := by
  have := ccC_put (q := q) (j := 0) (d := i) h ht
  rw [Nat.zero_add] at this
  rw [hx]; exact this
theorem finC_out {q : Nat} : ∀ {j : Nat} {s : List Ty}, (q < j ∨ j + s.length ≤ q) → finC q j s = (s.map encT).flatten.map .d
  | j, [], _ => rfl
  | j, t :: s, h => by
    simp only [List.length_cons] at h
    simp only [finC, List.map_cons, List.flatten_cons, List.map_append]
    rw [if_neg (by omega), finC_out (by omega)]
    rfl
theorem finC_len {q : Nat} : ∀ {j : Nat} {s : List Ty}, (finC q j s).length = s.length * 2
  | j, [] => rfl
  | j, t :: s => by simp only [finC, List.length_cons, finC_len]; omega
theorem ccC_in {H : Heap} {q i : Nat} : ∀ {j : Nat} {s : List Ty} {fl : List Value}, (i ≤ q ∨ (H 70).isSome = true ∨ j + s.length ≤ q) → inHs H (ccC q i j s fl) = true
  | j, [], fl, _ => by simp [ccC, inHs]
  | j, t :: s, [], _ => by simp [ccC, inHs]
  | j, t :: s, f :: fl, h => by
    simp only [List.length_cons] at h
    simp only [ccC, inHs, Bool.and_eq_true]
    refine ⟨rfl, ?_, ccC_in (by rcases h with h | h | h; exact .inl h; exact .inr (.inl h); exact .inr (.inr (by omega)))⟩
    split
    · split
      · simp only [inH]
        rcases h with h | h | h
        · omega
        · exact h
        · omega
      · rfl
    · rfl
theorem finC_in {H : Heap} {q : Nat} : ∀ {j : Nat} {s : List Ty}, ((H 70).isSome = true ∨ j + s.length ≤ q ∨ q < j) → inHs H (finC q j s) = true
  | j, [], _ => by simp [finC, inHs]
  | j, t :: s, h => by
    simp only [List.length_cons] at h
    simp only [finC, inHs, Bool.and_eq_true]
    refine ⟨rfl, ?_, finC_in (by rcases h with h | h | h; exact .inl h; exact .inr (.inl (by omega)); exact .inr (.inr (by omega)))⟩
    split
    · simp only [inH]
      rcases h with h | h | h
      · exact h
      · omega
      · omega
    · rfl
def copL (tT tF : TypeId) (s : List Ty) (q : Nat) : List (Nat × Ent) := match s[q]? with
  | some t => [(50, .rowA tT 2 s.length (finC q 0 s)), (70, .row tF 2 (t.fields.map encF))]
  | none => [(50, .rowA tT 2 s.length (finC q 0 s))]
theorem copL_closed (tT tF : TypeId) (s : List Ty) (q : Nat) : closedL (copL tT tF s q) = true := by
  unfold copL
  split
  · simp only [closedL, List.all_cons, List.all_nil, Bool.and_true, Bool.and_eq_true]
    exact ⟨finC_in (.inl rfl), rfl⟩
  · rename_i h
    simp only [closedL, List.all_cons, List.all_nil, Bool.and_true]
    exact finC_in (.inr (.inl (by have := List.getElem?_eq_none_iff.1 h; omega)))
theorem copL_in (tT tF : TypeId) (s : List Ty) (q : Nat) : inH (heapOf (copL tT tF s q)) (.agg [.row 50]) = true := by
  unfold copL
  split <;> rfl
def o70 (tF : TypeId) (s : List Ty) (q i : Nat) : Option Ent := if q < i then (s[q]?).map fun t => .row tF 2 (t.fields.map encF) else none
theorem o70_no {tF : TypeId} {s : List Ty} {q i : Nat} (h : i ≤ q) : o70 tF s q i = none := by unfold o70; rw [if_neg (by omega)]
theorem o70_at {tF : TypeId} {s : List Ty} {i : Nat} {t : Ty} (h : s[i]? = some t) : o70 tF s i (i + 1) = some (.row tF 2 (t.fields.map encF)) := by unfold o70; rw [if_pos (by omega), h]; rfl
theorem o70_ne {tF : TypeId} {s : List Ty} {q i : Nat} (h : i ≠ q) : o70 tF s q (i + 1) = o70 tF s q i := by
  unfold o70
  by_cases h1 : q < i
  · rw [if_pos (by omega), if_pos h1]
  · rw [if_neg (by omega), if_neg h1]
theorem o70_some {tF : TypeId} {s : List Ty} {q i : Nat} (h : q < i) (hi : i ≤ s.length) : (o70 tF s q i).isSome = true := by
  unfold o70
  rw [if_pos h, List.getElem?_eq_getElem (by omega)]; rfl
theorem CW_rangeHS {E : Env} {Q : Exit → St → Prop} {J : Jt} {s : Slots} {h : Heap} (hE : E.Good) (hF : E.F = Fence.wide) {g : Operand} {ps : Array Tmp} {assign body : Code} {f : Nat} {first cap : List AV} {ys : List (List AV)} {See : Nat → World → Prop} {cs0 : List AV} {vs0 : List Value} (hI : IterS E.P f first cap ys See cs0 vs0)
    (hg : fnOf (ev s g) = some (f, first, cap)) (hkf : kfs first = true) (hkc : kfs cap = true) (hks : ∀ y ∈ ys, kfs y = true ∧ y.length = ps.size) (hps : ps.toList.all (fun p => Nat.ble (p + 1) E.N) = true) (G : Nat) {G2 : Nat} {x0 : AV} {v0 : Value} (hG2 : h G2 = some (.ghost (x0 :: cs0) (v0 :: vs0))) (hk0 : kfs cs0 = true)
    (hp : Nat → Heap) (P : Nat → Prop) (h0 : h = hp 0) (hG : ∀ i, hp i G = none) (P0 : P 0)
    (hbody : ∀ F n Z Br Bb, (⟨E.P, E.T, F, n, Z, E.N⟩ : Env).Good → (∀ W, Wrap E.Z W → Wrap Z (fun J => Bb (W J))) → ∀ vs i args, ys[i]? = some args → P i →
      CW ⟨E.P, E.T, F, n, Z, E.N⟩ assign (asgQ ⟨E.P, E.T, F, n, Z, E.N⟩ Br Bb J body (bodyQ ⟨E.P, E.T, F, n, Z, E.N⟩ Bb J G vs (fun J' h' => J' = J ∧ h' = hset (hp (i + 1)) G (some (.ghost (slotsL E.N s) vs)) ∧ P (i + 1)) Q))
        ⟨Br J, psets ps.toList args (listS (slotsL E.N s)), hset (hp i) G (some (.ghost (slotsL E.N s) vs))⟩)
    (hsee : ∀ vs i, P i → ∀ Z K J' ι w, Mem Z K J' (hset (hp i) G (some (.ghost (slotsL E.N s) vs))) ι w → See i w)
    (hdone : P ys.length → ∀ vs, Q .normal ⟨J, listS (slotsL E.N s), hset (hp ys.length) G (some (.ghost (slotsL E.N s) vs))⟩) : CW E (.rangeFunc g ps assign body) Q ⟨J, s, h⟩ := by
  refine CW_rangeFuncS (st := ⟨J, s, h⟩) hE hF hI hg hkf hkc hks hps G (by rw [h0]; exact hG 0) hG2 hk0 (fun vs i J' h' => J' = J ∧ h' = hset (hp i) G (some (.ghost (slotsL E.N s) vs)) ∧ P i) ?_ ?_ ?_ ?_ ?_
  · rintro vs i J' h' ⟨rfl, rfl, _⟩
    exact ⟨fun hm => hm, hset_same _ _ _⟩
  · exact fun vs => ⟨rfl, by rw [h0], P0⟩
  · rintro F n Z Br Bb hE' hW vs i J' h' args ha ⟨rfl, rfl, hP⟩
    exact hbody F n Z Br Bb hE' hW vs i args ha hP
  · rintro vs i J' h' ⟨_, rfl, hP⟩ Z K J2 ι w m
    exact hsee vs i hP Z K J2 ι w m
  · rintro vs J' h' ⟨rfl, rfl, hP⟩
    exact hdone hP vs
theorem enc_cells {s : List Ty} {i : Nat} {t : Ty} (h : s[i]? = some t) : (((s.map encT).flatten.map AV.d).drop (i * 2)).take 2 = (encT t).map .d := by
  induction s generalizing i with
  | nil => simp at h
  | cons a s ih =>
    cases i with
    | zero => simp at h; subst h; rfl
    | succ i =>
      have := ih (i := i) (by simpa using h)
      rw [show (i + 1) * 2 = i * 2 + 2 by omega]
      simpa [encT] using this
theorem enc_len : ∀ (s : List Ty), ((s.map encT).flatten.map AV.d).length = s.length * 2
  | [] => rfl
  | t :: s => by
    simp only [List.map_cons, List.flatten_cons, List.map_append, List.length_append, enc_len s, List.length_cons]
    simp [encT]; omega
theorem ofCells_enc {s : List Ty} {i : Nat} {t : Ty} (h : s[i]? = some t) : ofCells true 2 (((s.map encT).flatten.map AV.d).drop (i * 2)) = some (argT t) := by
  have hlt := (List.getElem?_eq_some_iff.1 h).1
  unfold ofCells
  rw [show Nat.ble 2 (((s.map encT).flatten.map AV.d).drop (i * 2)).length = true from by rw [Nat.ble_eq]; rw [List.length_drop, enc_len]; omega]
  simp only [cond_true]
  rw [enc_cells h]
  rfl
theorem names_ok : ∀ (s : List Ty), (((s.map encT).flatten.map AV.d).all namable) = true
  | [] => rfl
  | t :: s => by
    simp only [List.map_cons, List.flatten_cons, List.map_append, List.all_append, names_ok s, Bool.and_true]
    rfl
theorem kfs_dd : ∀ (l : List D), kfs (l.map .d) = true
  | [] => rfl
  | x :: l => by simp [kfs, kf, kfs_dd l]
theorem hlh_opt {H h h' : Heap} (hh : hlh H h h') {k : Nat} {o : Option Ent} (hv : h k = o) (hin : ∀ e, o = some e → inE H e = true) : hlh H h (hset h' k o) := fun i => by
  by_cases hi : i = k
  · subst hi
    right
    rw [hset_same]
    exact ⟨hv.symm, hin⟩
  · rw [hset_ne _ _ hi]
    exact hh i
def hC (tS tT tF : TypeId) (s : List Ty) (fl : List Value) (v : Value) (V : List Value) (q i : Nat) : Heap :=
  hset (hset (hset (hset (hset (hset noHeap 1 (some (.box tS [.d (.lit (.slice none 0 0))]))) 2 (some (.box tS [.row 50]))) 50 (some (.rowA tT 2 s.length (ccC q i 0 s fl)))) 60 (some (.ghost (.row 50 :: (s.map encT).flatten.map .d) (v :: ilv s fl)))) 70 (o70 tF s q i)) 99 (some (.ghost [] V))
theorem inHs_dd (H : Heap) : ∀ (l : List D), inHs H (l.map .d) = true
  | [] => rfl
  | x :: l => by simp [inHs, inH, inHs_dd H l]
theorem hC_hlh {tS tT tF : TypeId} {s : List Ty} {fl : List Value} {v : Value} {V : List Value} {q i : Nat} {H h : Heap} (h1 : h 1 = some (.box tS [.d (.lit (.slice none 0 0))])) (h2 : h 2 = some (.box tS [.row 50])) (h50 : h 50 = some (.rowA tT 2 s.length (ccC q i 0 s fl)))
    (h60 : h 60 = some (.ghost (.row 50 :: (s.map encT).flatten.map .d) (v :: ilv s fl))) (h70 : h 70 = o70 tF s q i) (h99 : h 99 = some (.ghost [] V)) (hi : i ≤ s.length) (hH50 : (H 50).isSome = true) (hH70 : i ≤ q ∨ (H 70).isSome = true) : hlh H h (hC tS tT tF s fl v V q i) := by
  refine hlh_set (hlh_opt (hlh_set (hlh_set (hlh_set (hlh_set (hlh_no _ _) h1 rfl) h2 (by simp [inE, inHs, inH, hH50])) h50 (ccC_in (hH70.imp id .inl))) h60 (by simp only [inE, inHs, inH, hH50, inHs_dd]; rfl)) h70 (fun e he => ?_)) h99 rfl
  unfold o70 at he
  split at he
  · obtain ⟨t, _, rfl⟩ := Option.map_eq_some_iff.1 he
    rfl
  · cases he
theorem hC_70 {tS tT tF : TypeId} {s : List Ty} {fl : List Value} {v : Value} {V : List Value} {q i : Nat} (hi : i ≤ s.length) : i ≤ q ∨ (hC tS tT tF s fl v V q i 70).isSome = true := by
  by_cases h : i ≤ q
  · exact .inl h
  · exact .inr (o70_some (by omega) hi)
theorem hC9_70 {tS tT tF : TypeId} {s : List Ty} {fl : List Value} {v : Value} {V : List Value} {q i : Nat} {x : Option Ent} (hi : i ≤ s.length) : i ≤ q ∨ (hset (hC tS tT tF s fl v V q i) 9 x 70).isSome = true := by
  rw [hset_ne _ _ (by decide)]
  exact hC_70 hi
theorem copL_all {tT tF : TypeId} {s : List Ty} {fl : List Value} {q i : Nat} {h : Heap} (hi : i = s.length) (hfl : fl.length = s.length) (h50 : h 50 = some (.rowA tT 2 s.length (ccC q i 0 s fl))) (h70 : h 70 = o70 tF s q i) : allE h (copL tT tF s q) := by
  subst hi
  rw [ccC_end hfl (by omega)] at h50
  unfold copL
  split
  · rename_i t ht
    have hlt := (List.getElem?_eq_some_iff.1 ht).1
    refine ⟨h50, ?_, trivial⟩
    rw [h70]
    unfold o70
    rw [if_pos hlt, ht]; rfl
  · exact ⟨h50, trivial⟩
def hCn (tS tT : TypeId) (s : List Ty) (fl : List Value) (v : Value) (V : List Value) (q i : Nat) : Heap :=
  hset (hset (hset (hset (hset noHeap 1 (some (.box tS [.d (.lit (.slice none 0 0))]))) 2 (some (.box tS [.row 50]))) 50 (some (.rowA tT 2 s.length (ccC q i 0 s fl)))) 60 (some (.ghost (.row 50 :: (s.map encT).flatten.map .d) (v :: ilv s fl)))) 99 (some (.ghost [] V))
theorem hCn_hlh {tS tT : TypeId} {s : List Ty} {fl : List Value} {v : Value} {V : List Value} {q i : Nat} {H h : Heap} (h1 : h 1 = some (.box tS [.d (.lit (.slice none 0 0))])) (h2 : h 2 = some (.box tS [.row 50])) (h50 : h 50 = some (.rowA tT 2 s.length (ccC q i 0 s fl)))
    (h60 : h 60 = some (.ghost (.row 50 :: (s.map encT).flatten.map .d) (v :: ilv s fl))) (h99 : h 99 = some (.ghost [] V)) (hH50 : (H 50).isSome = true) (hiq : i ≤ q) : hlh H h (hCn tS tT s fl v V q i) :=
  hlh_set (hlh_set (hlh_set (hlh_set (hlh_set (hlh_no _ _) h1 rfl) h2 (by simp [inE, inHs, inH, hH50])) h50 (ccC_in (.inl hiq))) h60 (by simp only [inE, inHs, inH, hH50, inHs_dd]; rfl)) h99 rfl
end Go.AL
namespace Go.AL
set_option linter.unusedVariables false
set_option linter.unusedSimpArgs false
theorem own_1 {c : Chg} (h : (c.kind == 1) = true) : [int c.kind, str c.ty, str c.fld, str nul, int c.dv.k, int c.dv.n, str c.dv.s] = encC (ownC c) := by unfold ownC; rw [h]; rfl
theorem own_2 {c : Chg} (h1 : (c.kind == 1) = false) (h : (c.kind == 2) = true) : [int c.kind, str c.ty, str c.fld, str nul, int 0, int 0, str nul] = encC (ownC c) := by unfold ownC; rw [h1, h]; rfl
theorem own_4 {c : Chg} (h1 : (c.kind == 1) = false) (h2 : (c.kind == 2) = false) (h : (c.kind == 4) = true) : [int c.kind, str c.ty, str c.fld, str nul, int 0, int 0, str nul] = encC (ownC c) := by unfold ownC; rw [h1, h2, h]; rfl
theorem own_3 {c : Chg} (h1 : (c.kind == 1) = false) (h2 : (c.kind == 2) = false) (h4 : (c.kind == 4) = false) (h : (c.kind == 3) = true) : [int c.kind, str c.ty, str c.fld, str c.to, int 0, int 0, str nul] = encC (ownC c) := by unfold ownC; rw [h1, h2, h4, h]; rfl
theorem own_0 {c : Chg} (h1 : (c.kind == 1) = false) (h2 : (c.kind == 2) = false) (h4 : (c.kind == 4) = false) (h : (c.kind == 3) = false) : [int c.kind, str c.ty, str nul, str nul, int 0, int 0, str nul] = encC (ownC c) := by unfold ownC; rw [h1, h2, h4, h]; rfl
def cX (a b : List D) (nm : ByteArray) (x : AV) : List AV := a.map .d ++ .d (str nm) :: x :: b.map .d
theorem cX_litK (a b : List D) (nm : ByteArray) (k : Nat) (v : Value) : (cX a b nm (.row k)).map (litK k v) = cX a b nm (.d (.lit v)) := by
  simp [cX, litK, Function.comp_def]
theorem unk_d' (k : Nat) : (unk k ∘ AV.d) = AV.d := by funext x; simp [unk, nokey]
theorem cX_unk (a b : List D) (nm : ByteArray) (k : Nat) (x : AV) : (cX a b nm x).map (unk k) = cX a b nm (unk k x) := by
  simp [cX, unk_d', unk_d]
theorem unP_d (p : Nat → Bool) (x : D) : unP p (.d x) = .d x := by simp [unP, noP]
theorem cX_unP (a b : List D) (nm : ByteArray) (p : Nat → Bool) (x : AV) : unPs p (cX a b nm x) = cX a b nm (unP p x) := by
  have h : (unP p ∘ AV.d) = AV.d := by funext x; exact unP_d p x
  simp [cX, unPs, h, unP_d]
theorem rnAs_eq (ρ : Nat → Nat) : ∀ l : List AV, rnAs ρ l = l.map (rnA ρ)
  | [] => rfl
  | x :: l => by simp [rnAs, rnAs_eq ρ l]
theorem cX_rn (a b : List D) (nm : ByteArray) (ρ : Nat → Nat) (x : AV) : rnAs ρ (cX a b nm x) = cX a b nm (rnA ρ x) := by
  have h : (rnA ρ ∘ AV.d) = AV.d := by funext x; rfl
  simp [rnAs_eq, cX, h, rnA]
theorem fzs_eq (k : Nat) (X : D) : ∀ l : List AV, fzs k X l = l.map (fz k X)
  | [] => rfl
  | x :: l => by simp [fzs, fzs_eq k X l]
theorem cX_fz (a b : List D) (nm : ByteArray) (k : Nat) (X : D) (x : AV) : fzs k X (cX a b nm x) = cX a b nm (fz k X x) := by
  have h : (fz k X ∘ AV.d) = AV.d := by funext x; rfl
  simp [fzs_eq, cX, h, fz]
theorem cX_over {a b : List D} {nm : ByteArray} {x y : AV} {i : Nat} (ha : a.length = i * 2) : overwrite (cX a b nm x) (i * 2 + 1) [y] = cX a b nm y := by
  unfold overwrite cX
  have hl : (a.map AV.d).length = i * 2 := by simpa using ha
  rw [List.take_append, List.drop_append, hl]
  simp only [List.length_singleton]
  rw [show i * 2 + 1 - i * 2 = 1 by omega, show i * 2 + 1 + 1 - i * 2 = 2 by omega, List.take_of_length_le (by omega), List.drop_of_length_le (l := a.map AV.d) (by omega)]
  simp
theorem cX_drop {a b : List D} {nm : ByteArray} {x : AV} {i : Nat} (ha : a.length = i * 2) : (cX a b nm x).drop (i * 2) = .d (str nm) :: x :: b.map .d := by
  unfold cX
  have hl : (a.map AV.d).length = i * 2 := by simpa using ha
  rw [List.drop_append, hl, Nat.sub_self, List.drop_of_length_le (l := a.map AV.d) (by omega)]
  rfl
theorem cX_drop1 {a b : List D} {nm : ByteArray} {x : AV} {i : Nat} (ha : a.length = i * 2) : (cX a b nm x).drop (i * 2 + 1) = x :: b.map .d := by
  rw [← List.drop_drop, cX_drop ha]; rfl
theorem cX_ty {a b : List D} {nm : ByteArray} {x : AV} {i : Nat} (ha : a.length = i * 2) : ofCells true 2 ((cX a b nm x).drop (i * 2)) = some (.agg [.d (str nm), x]) := by
  rw [cX_drop ha]; rfl
theorem cX_fl {a b : List D} {nm : ByteArray} {x : AV} {i : Nat} {n : Nat} (ha : a.length = i * 2) : ofCells false n ((cX a b nm x).drop (i * 2 + 1)) = some x := by
  rw [cX_drop1 ha]; rfl
theorem cX_len (a b : List D) (nm : ByteArray) (x : AV) : (cX a b nm x).length = a.length + 2 + b.length := by simp [cX]; omega
theorem inHs_d (H : Heap) : ∀ (l : List D), inHs H (l.map .d) = true
  | [] => rfl
  | x :: l => by simp [inHs, inH, inHs_d H l]
theorem inHs_append (H : Heap) : ∀ (l r : List AV), inHs H l = true → inHs H r = true → inHs H (l ++ r) = true
  | [], r, _, h => h
  | x :: l, r, h, h' => by
    simp only [List.cons_append, inHs, Bool.and_eq_true] at h ⊢
    exact ⟨h.1, inHs_append H l r h.2 h'⟩
theorem cX_in {H : Heap} {a b : List D} {nm : ByteArray} {x : AV} (hx : inH H x = true) : inHs H (cX a b nm x) = true :=
  inHs_append H _ _ (inHs_d H a) (by simp only [inHs, hx, inHs_d H b]; rfl)
theorem closed_2 (tT tF : TypeId) (n : Nat) (a b : List D) (nm : ByteArray) (xs : List (List D)) : closedL [(50, .rowA tT 2 n (cX a b nm (.row 70))), (70, .row tF 2 xs)] = true := by
  simp only [closedL, List.all_cons, List.all_nil, Bool.and_true, Bool.and_eq_true]
  exact ⟨cX_in rfl, rfl⟩
def preD (s : List Ty) (i : Nat) : List D := ((s.take i).map encT).flatten
def postD (s : List Ty) (i : Nat) : List D := ((s.drop (i + 1)).map encT).flatten
theorem enc_flat_len : ∀ (s : List Ty), (s.map encT).flatten.length = s.length * 2
  | [] => rfl
  | t :: s => by
    simp only [List.map_cons, List.flatten_cons, List.length_append, enc_flat_len s, List.length_cons]
    simp [encT]; omega
theorem preD_len {s : List Ty} {i : Nat} {t : Ty} (h : s[i]? = some t) : (preD s i).length = i * 2 := by
  have := (List.getElem?_eq_some_iff.1 h).1
  unfold preD
  rw [enc_flat_len, List.length_take, Nat.min_eq_left (by omega)]
theorem finC_at {q : Nat} : ∀ {j d : Nat} {s : List Ty} {t : Ty}, s[d]? = some t → j + d = q → finC q j s = cX (preD s d) (postD s d) t.name (.row 70)
  | j, d, [], t, h, _ => by simp at h
  | j, 0, t0 :: s, t, h, hq => by
    simp at h; subst h
    simp only [finC]
    rw [if_pos (by omega), finC_out (by omega)]
    simp [cX, preD, postD]
  | j, d + 1, t0 :: s, t, h, hq => by
    have := finC_at (q := q) (j := j + 1) (d := d) (s := s) (t := t) (by simpa using h) (by omega)
    simp only [finC]
    rw [if_neg (by omega), this]
    simp [cX, preD, postD, encT, fldD]
theorem cX_set {s : List Ty} {i : Nat} {t t' : Ty} (h : s[i]? = some t) (hn : t'.name = t.name) : cX (preD s i) (postD s i) t.name (.d (.sl 2 24 (t'.fields.map encF))) = ((s.set i t').map encT).flatten.map .d := by
  have hlt := (List.getElem?_eq_some_iff.1 h).1
  rw [List.set_eq_take_append_cons_drop, if_pos hlt]
  simp [cX, preD, postD, encT, hn]
theorem copL_at {tT tF : TypeId} {s : List Ty} {i : Nat} {t : Ty} (h : s[i]? = some t) : copL tT tF s i = [(50, .rowA tT 2 s.length (cX (preD s i) (postD s i) t.name (.row 70))), (70, .row tF 2 (t.fields.map encF))] := by
  unfold copL
  rw [h, finC_at (d := i) h (by omega)]
theorem copL_none (tT tF : TypeId) (s : List Ty) : copL tT tF s s.length = [(50, .rowA tT 2 s.length ((s.map encT).flatten.map .d))] := by
  unfold copL
  rw [List.getElem?_eq_none (Nat.le_refl _), finC_out (by omega)]
end Go.AL
namespace Go.AL
set_option linter.unusedVariables false
set_option linter.unusedSimpArgs false
variable {t : Ty} {c : Chg} {f : Fld} {k : Nat}
theorem ch_a1 (a1 : (c.kind == 1) = true) (a : (!isName c.fld) = true ∨ (!isVal c.dv) = true) : changeT t c = (t, 10) := by
  unfold changeT
  rw [a1, show (!isName c.fld || !isVal c.dv) = true by rcases a with a | a <;> rw [a] <;> simp]
  rfl
theorem ch_a2 (a1 : (c.kind == 1) = true) (a2 : (!isName c.fld) = false) (a3 : (!isVal c.dv) = false) (a : decide (fieldAt t c.fld ≥ 0) = true) : changeT t c = (t, 13) := by
  unfold changeT
  rw [a1, a2, a3, a]
  rfl
theorem ch_a3 (a1 : (c.kind == 1) = true) (a2 : (!isName c.fld) = false) (a3 : (!isVal c.dv) = false) (a4 : decide (fieldAt t c.fld ≥ 0) = false) (a : decide ((t.fields.length : Int) ≥ 5) = true) : changeT t c = (t, 12) := by
  unfold changeT
  rw [a1, a2, a3, a4, a]
  rfl
theorem ch_a4 (a1 : (c.kind == 1) = true) (a2 : (!isName c.fld) = false) (a3 : (!isVal c.dv) = false) (a4 : decide (fieldAt t c.fld ≥ 0) = false) (a : decide ((t.fields.length : Int) ≥ 5) = false) : changeT t c = (⟨t.name, t.fields ++ [⟨c.fld, c.dv.k⟩]⟩, 0) := by
  unfold changeT
  rw [a1, a2, a3, a4, a]
  rfl
theorem ch_b1 (a1 : (c.kind == 1) = false) (b : decide (fieldAt t c.fld < 0) = true) : changeT t c = (t, 13) := by
  unfold changeT
  rw [a1, b]
  rfl
theorem ch_drop (a1 : (c.kind == 1) = false) (b : decide (fieldAt t c.fld < 0) = false) (hk : fieldAt t c.fld = (k : Int)) (a : (c.kind == 2) = true) : changeT t c = (⟨t.name, t.fields.eraseIdx k⟩, 0) := by
  unfold changeT
  rw [a1, b, a, hk]
  rfl
theorem ch_r1 (a1 : (c.kind == 1) = false) (b : decide (fieldAt t c.fld < 0) = false) (a2 : (c.kind == 2) = false) (a3 : (c.kind == 3) = true) (a : (!isName c.to) = true) : changeT t c = (t, 10) := by
  unfold changeT
  rw [a1, b, a2, a3, a]
  rfl
theorem ch_r2 (a1 : (c.kind == 1) = false) (b : decide (fieldAt t c.fld < 0) = false) (a2 : (c.kind == 2) = false) (a3 : (c.kind == 3) = true) (a4 : (!isName c.to) = false) (a : decide (fieldAt t c.to ≥ 0) = true) : changeT t c = (t, 13) := by
  unfold changeT
  rw [a1, b, a2, a3, a4, a]
  rfl
theorem ch_r3 (a1 : (c.kind == 1) = false) (b : decide (fieldAt t c.fld < 0) = false) (a2 : (c.kind == 2) = false) (a3 : (c.kind == 3) = true) (a4 : (!isName c.to) = false) (a : decide (fieldAt t c.to ≥ 0) = false) (hk : fieldAt t c.fld = (k : Int)) (hf : t.fields[k]? = some f) :
    changeT t c = (⟨t.name, t.fields.set k ⟨c.to, f.kind⟩⟩, 0) := by
  unfold changeT
  rw [a1, b, a2, a3, a4, a, hk]
  have : nameSet t.fields k c.to = t.fields.set k ⟨c.to, f.kind⟩ := by unfold nameSet; rw [hf]
  simp only [cond_true, cond_false, Int.toNat_natCast, this]
theorem ch_w1 (a1 : (c.kind == 1) = false) (b : decide (fieldAt t c.fld < 0) = false) (a2 : (c.kind == 2) = false) (a3 : (c.kind == 3) = false) (a4 : (c.kind == 4) = true) (hk : fieldAt t c.fld = (k : Int)) (hf : t.fields[k]? = some f) (a : (f.kind != 3) = true) : changeT t c = (t, 14) := by
  unfold changeT
  rw [a1, b, a2, a3, a4, hk]
  have : kindAt t.fields k = f.kind := by unfold kindAt; rw [hf]
  simp only [cond_true, cond_false, Int.toNat_natCast, this, a]
theorem ch_w2 (a1 : (c.kind == 1) = false) (b : decide (fieldAt t c.fld < 0) = false) (a2 : (c.kind == 2) = false) (a3 : (c.kind == 3) = false) (a4 : (c.kind == 4) = true) (hk : fieldAt t c.fld = (k : Int)) (hf : t.fields[k]? = some f) (a : (f.kind != 3) = false) : changeT t c = (⟨t.name, t.fields.set k ⟨f.name, 1⟩⟩, 0) := by
  unfold changeT
  rw [a1, b, a2, a3, a4, hk]
  have : kindAt t.fields k = f.kind := by unfold kindAt; rw [hf]
  have h2 : kindSet t.fields k 1 = t.fields.set k ⟨f.name, 1⟩ := by unfold kindSet; rw [hf]
  simp only [cond_true, cond_false, Int.toNat_natCast, this, a, h2]
theorem ch_0 (a1 : (c.kind == 1) = false) (b : decide (fieldAt t c.fld < 0) = false) (a2 : (c.kind == 2) = false) (a3 : (c.kind == 3) = false) (a4 : (c.kind == 4) = false) : changeT t c = (t, 0) := by
  unfold changeT
  rw [a1, b, a2, a3, a4]
  rfl
variable {s : List Ty}
theorem ap_bad (h : badC c = true) : applyX s c = (s, 10) := by unfold applyX; rw [h]; rfl
theorem ap_5 (h : badC c = false) (h5 : (c.kind == 5) = true) : applyX s c = addX s c.ty := by unfold applyX; rw [h, h5]; rfl
theorem ap_no (h : badC c = false) (h5 : (c.kind == 5) = false) (hi : decide (typeIdx s c.ty < 0) = true) : applyX s c = (s, 13) := by unfold applyX; rw [h, h5, hi]; rfl
theorem ap_err {i : Nat} (h : badC c = false) (h5 : (c.kind == 5) = false) (hi : typeIdx s c.ty = (i : Int)) (ht : s[i]? = some t) (he : ((changeT t c).2 != 0) = true) : applyX s c = (s, (changeT t c).2) := by
  unfold applyX
  rw [h, h5, hi, show decide ((i : Int) < 0) = false by simp]
  simp only [cond_false, Int.toNat_natCast, ht, he, cond_true]
theorem ap_ok {i : Nat} (h : badC c = false) (h5 : (c.kind == 5) = false) (hi : typeIdx s c.ty = (i : Int)) (ht : s[i]? = some t) (he : ((changeT t c).2 != 0) = false) : applyX s c = (s.set i (changeT t c).1, 0) := by
  unfold applyX
  rw [h, h5, hi, show decide ((i : Int) < 0) = false by simp]
  simp only [cond_false, Int.toNat_natCast, ht, he]
theorem change_name (t : Ty) (c : Chg) : (changeT t c).1.name = t.name := by
  have h : ∀ (b : Bool) (x y : Ty × Int), x.1.name = t.name → y.1.name = t.name → (bif b then x else y).1.name = t.name := fun b x y h1 h2 => by cases b <;> assumption
  unfold changeT
  repeat' (first | rfl | refine h _ _ _ ?_ ?_)
end Go.AL
namespace Go.AL
set_option linter.unusedVariables false
set_option linter.unusedSimpArgs false
theorem loc_pure {E : Env} {ops : List Oper} {J : Jt} {h : Heap} {o : Oper} {s : Slots} (hE : E.Good) {R : AV} (hp : stepPure E.T h s o.op = some R) : Loc E ops J h o s R :=
  ⟨stepPure_notDefer hp, fun Z K Y ι a w m hl => stepPure_ok (J := J K Y Z) (K := K) hE.ok.T m o hl hp⟩
theorem loc_errNe {E : Env} {ops : List Oper} {J : Jt} {h : Heap} {o : Oper} {s : Slots} (hE : E.Good) {t yt : TypeId} {x : Operand} (hop : o.op = .binOp .neq t x (.const .nilIface) yt) {z1 z2 : Nat} {z3 : List Value} (ht : E.T t = some ⟨.iface, z1, z2, z3⟩) {EN : TypeId} {z : Int} (hx : ev s x = .d (errC EN z)) :
    Loc E ops J h o s (.d (boo (z != 0))) := by
  refine loc_pure hE ?_
  rw [hop]
  simp only [stepPure, hx, stepBin]
  cases hz : (z == 0) with
  | true =>
    have hz' : z = 0 := by simpa using hz
    subst hz'
    simp only [errC, ev, ht]
    rfl
  | false =>
    have : (z != 0) = true := by simp [bne, hz]
    rw [this]
    simp only [errC, hz, ev, ht, cond_false]
    rfl
theorem loc_errEq {E : Env} {ops : List Oper} {J : Jt} {h : Heap} {o : Oper} {s : Slots} (hE : E.Good) {t yt : TypeId} {x : Operand} (hop : o.op = .binOp .eql t x (.const .nilIface) yt) {z1 z2 : Nat} {z3 : List Value} (ht : E.T t = some ⟨.iface, z1, z2, z3⟩) {EN : TypeId} {z : Int} (hx : ev s x = .d (errC EN z)) :
    Loc E ops J h o s (.d (boo (z == 0))) := by
  refine loc_pure hE ?_
  rw [hop]
  simp only [stepPure, hx, stepBin]
  cases hz : (z == 0) with
  | true =>
    have hz' : z = 0 := by simpa using hz
    subst hz'
    simp only [errC, ev, ht]
    rfl
  | false =>
    simp only [errC, hz, ev, ht, cond_false]
    rfl
theorem evErr_errC (T : TypeId) (s : List Ty) (e : Ev) : evErr T s e = errC T (evtR s e) := by
  cases h0 : (findT s e.ty).2 with
  | false => rw [evErr_none h0, evt_none h0]; rfl
  | true =>
    by_cases h1 : e.ts < 0
    · have hf : evForm (findT s e.ty).1 e = false := by simp [evForm, h1]
      rw [evErr_form h0 hf, evt_form h0 (by simp [h1])]; rfl
    by_cases h2 : e.ts > 1073741824
    · have hf : evForm (findT s e.ty).1 e = false := by simp [evForm, h2]
      rw [evErr_form h0 hf, evt_form h0 (by simp [h2])]; rfl
    by_cases h3 : e.vals.length = (findT s e.ty).1.fields.length
    · have hg : (decide (e.ts < 0) || (decide (e.ts > 1073741824) || ((e.vals.length : Int) != ((findT s e.ty).1.fields.length : Int)))) = false := by simp [h1, h2, h3]
      cases h4 : e.vals.all isVal with
      | false =>
        have hf : evForm (findT s e.ty).1 e = false := by simp [evForm, h4]
        rw [evErr_form h0 hf]
        rw [List.all_eq_false] at h4
        obtain ⟨v, hm, hv⟩ := h4
        obtain ⟨i, hi⟩ := List.getElem?_of_mem hm
        rw [evt_val h0 hg hi (by simpa using hv)]; rfl
      | true =>
        have hf : evForm (findT s e.ty).1 e = true := by simp [evForm, h1, h2, h3, h4]
        cases h5 : kk e.vals (findT s e.ty).1.fields with
        | false =>
          rw [evErr_kind h0 hf h5]
          cases h6 : kindsAs e.vals (findT s e.ty).1.fields with
          | false => rw [evt_kind h0 hg h4 h6]; rfl
          | true =>
            exfalso
            rw [kk_all (fun j v f hj hv hfj => by simp [kindsAs_at h6 hv hfj])] at h5
            cases h5
        | true =>
          rw [evErr_ok h0 hf h5]
          cases h6 : kindsAs e.vals (findT s e.ty).1.fields with
          | true => rw [evt_yes h0 hg h4 h6]; rfl
          | false =>
            exfalso
            rw [kindsAs_yes h3 (fun j v f hv hf => by
              cases hq : (v.k != f.kind) with
              | false => rfl
              | true =>
                rw [kk_bad hv hf (by simpa [bne] using hq)] at h5
                cases h5)] at h6
            cases h6
    · have hf : evForm (findT s e.ty).1 e = false := by simp [evForm, h3]
      rw [evErr_form h0 hf, evt_form h0 (by have : (e.vals.length : Int) ≠ ((findT s e.ty).1.fields.length : Int) := by omega
                                            simp [this])]; rfl
theorem posX_at {nm : ByteArray} : ∀ {s : List Ty} {i : Nat}, i ≤ s.length → (∀ (j : Nat) (a : Ty), j < i → s[j]? = some a → less a.name nm = true) → (i = s.length ∨ ∃ a, s[i]? = some a ∧ less a.name nm = false) → posX s nm = i
  | [], i, hi, _, _ => by simp at hi; subst hi; rfl
  | t :: s, 0, _, _, he => by
    rcases he with he | ⟨a, ha, hl⟩
    · simp at he
    · simp at ha; subst ha
      unfold posX
      rw [List.takeWhile_cons, hl]
      rfl
  | t :: s, i + 1, hi, hp, he => by
    have h0 := hp 0 t (by omega) rfl
    have := posX_at (nm := nm) (s := s) (i := i) (by simpa using hi) (fun j a hj ha => hp (j + 1) a (by omega) (by simpa using ha)) (he.imp (fun h => by simpa using h) (fun ⟨a, ha, hl⟩ => ⟨a, by simpa using ha, hl⟩))
    unfold posX at this ⊢
    rw [List.takeWhile_cons, h0]
    simp [this]
theorem posX_le (s : List Ty) (nm : ByteArray) : posX s nm ≤ s.length := by
  unfold posX
  exact (List.takeWhile_sublist _).length_le
theorem insX_len (s : List Ty) (nm : ByteArray) : (insX s nm).length = s.length + 1 := by
  have := posX_le s nm
  unfold insX
  simp
  omega
theorem ins_dles (s : List Ty) (nm : ByteArray) : Dles ((s.map encT).take (posX s nm) ++ [[str nm, .lit (.slice none 0 0)]] ++ (s.map encT).drop (posX s nm)).flatten ((insX s nm).map encT).flatten := by
  have e : (insX s nm).map encT = (s.map encT).take (posX s nm) ++ [[str nm, .sl 2 24 []]] ++ (s.map encT).drop (posX s nm) := by
    unfold insX
    simp [encT, List.map_take, List.map_drop]
  rw [e]
  simp only [List.flatten_append]
  refine Dles.append (Dles.append (Dles.refl _) ?_) (Dles.refl _)
  simp only [List.flatten_cons, List.flatten_nil, List.append_nil]
  exact Dles.cons (Dle.refl _) (Dles.cons (Dle.nilSl 2 24) Dles.nil)
theorem ins_two (s : List Ty) (nm : ByteArray) : ∀ x ∈ (insX s nm).map encT, x.length = 2 := fun x hx => by
  obtain ⟨t, _, rfl⟩ := List.mem_map.1 hx
  rfl
theorem enc_two (s : List Ty) : ∀ x ∈ s.map encT, x.length = 2 := fun x hx => by
  obtain ⟨t, _, rfl⟩ := List.mem_map.1 hx
  rfl
theorem ad_1 {s : List Ty} {nm : ByteArray} (h : (findT s nm).2 = true) : addX s nm = (s, 13) := by unfold addX; rw [h]; rfl
theorem ad_2 {s : List Ty} {nm : ByteArray} (h : (findT s nm).2 = false) (h2 : decide ((s.length : Int) ≥ 5) = true) : addX s nm = (s, 12) := by unfold addX; rw [h, h2]; rfl
theorem ad_3 {s : List Ty} {nm : ByteArray} (h : (findT s nm).2 = false) (h2 : decide ((s.length : Int) ≥ 5) = false) : addX s nm = (insX s nm, 0) := by unfold addX; rw [h, h2]; rfl
theorem bc_1 {c : Chg} (h : decide (c.kind < 1) = true) : badC c = true := by unfold badC; rw [h]; rfl
theorem bc_2 {c : Chg} (h : decide (c.kind > 5) = true) : badC c = true := by unfold badC; rw [h]; simp
theorem bc_3 {c : Chg} (h : (!isName c.ty) = true) : badC c = true := by unfold badC; rw [h]; simp
theorem bc_4 {c : Chg} (h : (!sameC c (ownC c)) = true) : badC c = true := by unfold badC; rw [h]; simp
theorem bc_0 {c : Chg} (h1 : decide (c.kind < 1) = false) (h2 : decide (c.kind > 5) = false) (h3 : (!isName c.ty) = false) (h4 : (!sameC c (ownC c)) = false) : badC c = false := by unfold badC; rw [h1, h2, h3, h4]; rfl
theorem typeX_at {s : List Ty} {nm : ByteArray} (h : ¬ typeIdx s nm < 0) : ∃ (i : Nat) (t : Ty), typeIdx s nm = (i : Int) ∧ s[i]? = some t := by
  rcases idx_cases (fun t : Ty => same t.name nm) s with ⟨i, t, h1, h2, _⟩ | ⟨h1, _⟩
  · exact ⟨i, t, h1, h2⟩
  · unfold typeIdx at h; rw [h1] at h; omega
theorem right_fields {s : List Ty} (hs : isSchema s = true) {i : Nat} {t : Ty} (h : s[i]? = some t) : t.fields.length ≤ 5 := by
  unfold isSchema at hs
  simp only [Bool.and_eq_true] at hs
  exact (TypeOk.of (List.all_eq_true.1 hs.1.1 t (List.mem_of_getElem? h))).few
theorem sameC_eq (a b : Chg) : sameC a b = (((a.kind == b.kind) && (same a.ty b.ty && (same a.fld b.fld && same a.to b.to))) && ((a.dv.k == b.dv.k) && ((a.dv.n == b.dv.n) && same a.dv.s b.dv.s))) := by
  simp [sameC, Bool.and_assoc]
theorem mv_0 {s : List Ty} {c : Chg} {e : Ev} (h : ((applyX s c).2 != 0) = true ∨ (evtR s e != 0) = true ∨ (!(e.ty.toList == c.ty.toList)) = true ∨ (c.kind == 5) = true) : moveX s c e = e := by
  unfold moveX
  rw [show ((applyX s c).2 != 0 || (evtR s e != 0 || (!(same e.ty c.ty) || c.kind == 5))) = true from by
    rcases h with h | h | h | h
    · rw [h]; rfl
    · rw [h]; simp
    · rw [show (!(same e.ty c.ty)) = true from h]; simp
    · rw [h]; simp]
  rfl
theorem mv_1 {s : List Ty} {c : Chg} {e : Ev} (h1 : ((applyX s c).2 != 0) = false) (h2 : (evtR s e != 0) = false) (h3 : (!(e.ty.toList == c.ty.toList)) = false) (h4 : (c.kind == 5) = false) : moveX s c e = ⟨e.ty, e.ts, valsX (findT s e.ty).1 c e.vals⟩ := by
  unfold moveX
  rw [h1, h2, show (!(same e.ty c.ty)) = false from h3, h4]
  rfl
theorem vl_1 {t : Ty} {c : Chg} {vs : List Vl} (h : (c.kind == 1) = true) : valsX t c vs = vs ++ [c.dv] := by unfold valsX; rw [h]; rfl
theorem vl_2 {t : Ty} {c : Chg} {vs : List Vl} (h1 : (c.kind == 1) = false) (h : decide (fieldAt t c.fld < 0) = true ∨ decide (fieldAt t c.fld ≥ (vs.length : Int)) = true) : valsX t c vs = vs := by
  unfold valsX
  rw [h1, show (decide (fieldAt t c.fld < 0) || decide (fieldAt t c.fld ≥ (vs.length : Int))) = true from by rcases h with h | h <;> rw [h] <;> simp]
  rfl
theorem vl_at {t : Ty} {c : Chg} {vs : List Vl} (h1 : decide (fieldAt t c.fld < 0) = false) (h2 : decide (fieldAt t c.fld ≥ (vs.length : Int)) = false) : ∃ (k : Nat) (v : Vl), fieldAt t c.fld = (k : Int) ∧ vs[k]? = some v := by
  simp only [decide_eq_false_iff_not] at h1 h2
  obtain ⟨k, hk⟩ := Int.eq_ofNat_of_zero_le (show 0 ≤ fieldAt t c.fld by omega)
  exact ⟨k, vs[k]'(by omega), hk, List.getElem?_eq_getElem (by omega)⟩
theorem vl_3 {t : Ty} {c : Chg} {vs : List Vl} {k : Nat} (h1 : (c.kind == 1) = false) (h2 : decide (fieldAt t c.fld < 0) = false) (h3 : decide (fieldAt t c.fld ≥ (vs.length : Int)) = false) (hk : fieldAt t c.fld = (k : Int)) (h : (c.kind == 2) = true) : valsX t c vs = vs.eraseIdx k := by
  unfold valsX
  rw [h1, h2, h3, h, hk]
  rfl
theorem vl_4 {t : Ty} {c : Chg} {vs : List Vl} {k : Nat} {v : Vl} (h1 : (c.kind == 1) = false) (h2 : decide (fieldAt t c.fld < 0) = false) (h3 : decide (fieldAt t c.fld ≥ (vs.length : Int)) = false) (hk : fieldAt t c.fld = (k : Int)) (hv : vs[k]? = some v) (h4 : (c.kind == 2) = false) (h : (c.kind == 4) = true) : valsX t c vs = vs.set k ⟨1, v.n, nul⟩ := by
  unfold valsX
  rw [h1, h2, h3, h4, h, hk]
  simp only [cond_true, cond_false, Bool.or_self, Int.toNat_natCast]
  rw [List.getD_eq_getElem?_getD, hv]
  rfl
theorem vl_0 {t : Ty} {c : Chg} {vs : List Vl} (h1 : (c.kind == 1) = false) (h2 : decide (fieldAt t c.fld < 0) = false) (h3 : decide (fieldAt t c.fld ≥ (vs.length : Int)) = false) (h4 : (c.kind == 2) = false) (h : (c.kind == 4) = false) : valsX t c vs = vs := by
  unfold valsX
  rw [h1, h2, h3, h4, h]
  rfl
theorem vl_len {t : Ty} {c : Chg} {vs : List Vl} : (valsX t c vs).length ≤ vs.length + 1 := by
  unfold valsX
  have h : ∀ (b : Bool) (x y : List Vl), x.length ≤ vs.length + 1 → y.length ≤ vs.length + 1 → (bif b then x else y).length ≤ vs.length + 1 := fun b x y h1 h2 => by cases b <;> assumption
  have h2 := List.length_eraseIdx_le vs (fieldAt t c.fld).toNat
  exact h _ _ _ (by simp) (h _ _ _ (by omega) (h _ _ _ (by omega) (h _ _ _ (by simp) (by omega))))
theorem change_few (t : Ty) (c : Chg) : (changeT t c).1.fields.length ≤ t.fields.length + 1 := by
  have h : ∀ (b : Bool) (x y : Ty × Int), x.1.fields.length ≤ t.fields.length + 1 → y.1.fields.length ≤ t.fields.length + 1 → (bif b then x else y).1.fields.length ≤ t.fields.length + 1 := fun b x y h1 h2 => by cases b <;> assumption
  have h1 := List.length_eraseIdx_le t.fields (fieldAt t c.fld).toNat
  have h2 : (nameSet t.fields (fieldAt t c.fld).toNat c.to).length = t.fields.length := by unfold nameSet; split <;> simp
  have h3 : (kindSet t.fields (fieldAt t c.fld).toNat 1).length = t.fields.length := by unfold kindSet; split <;> simp
  unfold changeT
  repeat' (refine h _ _ _ ?_ ?_)
  all_goals (dsimp only; first | omega | (simp; done) | (simp; omega))
theorem right_len {s : List Ty} (hs : isSchema s = true) : s.length ≤ 5 := by
  unfold isSchema at hs
  simp only [Bool.and_eq_true, decide_eq_true_eq] at hs
  exact hs.1.2
theorem rnAs_dd (ρ : Nat → Nat) (l : List D) : rnAs ρ (l.map .d) = l.map .d := by
  have h : (rnA ρ ∘ AV.d) = AV.d := by funext x; rfl
  simp [rnAs_eq, h]
end Go.AL
