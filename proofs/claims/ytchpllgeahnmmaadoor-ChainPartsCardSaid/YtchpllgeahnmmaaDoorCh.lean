/- Parts of an abstract logic over the kit's walks, and walks in it: Chn, Chn4, Chn5. -/
import Derived.Test.YtchpllgeahnmmaaDoorEz
import Derived.Test.YtchpllgeahnmmaaDoorCp
namespace Go.AL
set_option linter.unusedVariables false
set_option linter.unusedSimpArgs false
theorem map_set_at {α : Type} {enc : α → List D} {l : List α} {i : Nat} {x : α} (h : l[i]? = some x) : (l.map enc).set i (enc x) = l.map enc := by
  rw [← List.map_set]
  congr 1
  apply List.ext_getElem?
  intro q
  rw [List.getElem?_set]
  split
  · rename_i hq; subst hq; rw [if_pos (List.getElem?_eq_some_iff.1 h).1, h]
  · rfl
def encS1 (s : List Ty) : List D := [encS s]
def topS (ss : List (List Ty)) (cs : List Chg) : List Ty := ss.getD cs.length []
def addE (ss : List (List Ty)) (cs : List Chg) (c : Chg) : Int := bif decide ((cs.length : Int) ≥ 20) then 12 else (applyX (topS ss cs) c).2
def addS (ss : List (List Ty)) (cs : List Chg) (c : Chg) : List (List Ty) := bif addE ss cs c == 0 then ss ++ [(applyX (topS ss cs) c).1] else ss
def addC (ss : List (List Ty)) (cs : List Chg) (c : Chg) : List Chg := bif addE ss cs c == 0 then cs ++ [c] else cs
structure ChainOk (ss : List (List Ty)) (cs : List Chg) : Prop where
  len : ss.length = cs.length + 1
  few : cs.length ≤ 20
  right : ∀ s ∈ ss, isSchema s = true
  link : ∀ (i : Nat) (s : List Ty) (c : Chg), ss[i]? = some s → cs[i]? = some c → ∃ a, applyX s c = (a, 0) ∧ ss[i + 1]? = some a
theorem ChainOk.at {ss : List (List Ty)} {cs : List Chg} (h : ChainOk ss cs) {i : Nat} (hi : i ≤ cs.length) : ∃ s, ss[i]? = some s ∧ isSchema s = true := by
  have : i < ss.length := by have := h.len; omega
  exact ⟨ss[i], List.getElem?_eq_getElem this, h.right _ (List.getElem_mem this)⟩
theorem topS_of {ss : List (List Ty)} {cs : List Chg} {s : List Ty} (h : ss[cs.length]? = some s) : topS ss cs = s := by
  unfold topS; rw [List.getD_eq_getElem?_getD, h]; rfl
theorem add_full {ss : List (List Ty)} {cs : List Chg} {c : Chg} (h : decide ((cs.length : Int) ≥ 20) = true) : addE ss cs c = 12 ∧ addS ss cs c = ss ∧ addC ss cs c = cs := by
  have e : addE ss cs c = 12 := by unfold addE; rw [h]; rfl
  exact ⟨e, by unfold addS; rw [e]; rfl, by unfold addC; rw [e]; rfl⟩
theorem add_err {ss : List (List Ty)} {cs : List Chg} {c : Chg} {s : List Ty} (h : decide ((cs.length : Int) ≥ 20) = false) (hs : ss[cs.length]? = some s) (he : ((applyX s c).2 != 0) = true) : addE ss cs c = (applyX s c).2 ∧ addS ss cs c = ss ∧ addC ss cs c = cs := by
  have e : addE ss cs c = (applyX s c).2 := by unfold addE; rw [h, topS_of hs]; rfl
  have e0 : ((applyX s c).2 == 0) = false := by simpa using he
  exact ⟨e, by unfold addS; rw [e, e0]; rfl, by unfold addC; rw [e, e0]; rfl⟩
theorem add_ok {ss : List (List Ty)} {cs : List Chg} {c : Chg} {s : List Ty} (h : decide ((cs.length : Int) ≥ 20) = false) (hs : ss[cs.length]? = some s) (he : ((applyX s c).2 != 0) = false) : addE ss cs c = 0 ∧ addS ss cs c = ss ++ [(applyX s c).1] ∧ addC ss cs c = cs ++ [c] := by
  have e : addE ss cs c = 0 := by unfold addE; rw [h, topS_of hs]; simpa using he
  exact ⟨e, by unfold addS; rw [e, topS_of hs]; rfl, by unfold addC; rw [e]; rfl⟩
theorem ChainOk.one {s : List Ty} (h : isSchema s = true) : ChainOk [s] [] := ⟨rfl, by simp, by simpa using h, fun i s c _ hc => by simp at hc⟩
theorem ChainOk.add {ss : List (List Ty)} {cs : List Chg} {c : Chg} (h : ChainOk ss cs) : ChainOk (addS ss cs c) (addC ss cs c) := by
  obtain ⟨s, hs, hr⟩ := h.at (Nat.le_refl _)
  cases h1 : decide ((cs.length : Int) ≥ 20) with
  | true => rw [(add_full h1).2.1, (add_full h1).2.2]; exact h
  | false =>
    cases h2 : ((applyX s c).2 != 0) with
    | true => rw [(add_err h1 hs h2).2.1, (add_err h1 hs h2).2.2]; exact h
    | false =>
      rw [(add_ok h1 hs h2).2.1, (add_ok h1 hs h2).2.2]
      have hA := apply_ok_iff s c (by simpa using h2)
      have hl := h.len
      refine ⟨by simp [hl], by simp at h1 ⊢; omega, fun x hx => ?_, fun i x d hx hd => ?_⟩
      · rcases List.mem_append.1 hx with hx | hx
        · exact h.right x hx
        · simp at hx; subst hx; exact (apply_right hr hA).1
      · rw [List.getElem?_append] at hx hd
        split at hd
        · rename_i hi
          rw [if_pos (by omega)] at hx
          obtain ⟨a, ha, ha2⟩ := h.link i x d hx hd
          exact ⟨a, ha, by rw [List.getElem?_append_left (by omega)]; exact ha2⟩
        · rename_i hi
          have hi0 : i - cs.length = 0 := by
            rcases Nat.eq_zero_or_pos (i - cs.length) with z | z
            · exact z
            · rw [List.getElem?_eq_none (by simp; omega)] at hd; cases hd
          have hie : i = cs.length := by omega
          subst hie
          rw [if_pos (by omega), hs] at hx
          cases hx
          simp at hd
          subst hd
          exact ⟨_, hA, by rw [List.getElem?_append_right (by omega)]; simp [hl]⟩
theorem wrap_sm {n : Int} (h0 : -1000000 ≤ n) (h1 : n ≤ 1000000) : IntKind.i64.wrap n = n :=
  wrap_id _ _ (by have e : IntKind.i64.min = -9223372036854775808 := rfl; omega) (by have e : IntKind.i64.max = 9223372036854775807 := rfl; omega)
def encCh (ss : List (List Ty)) (cs : List Chg) : List D := [.sl 1 24 (ss.map encS1), .sl 7 88 (cs.map encC)]
def argCh (ss : List (List Ty)) (cs : List Chg) : AV := .d (.iptr (encCh ss cs))
def isIn (cs : List Chg) (i : Int) : Bool := decide (i ≥ 0) && decide (i ≤ ((cs.length : Nat) : Int))
theorem isIn_at {cs : List Chg} {i : Int} (h : isIn cs i = true) : ∃ k : Nat, i = (k : Int) ∧ k ≤ cs.length := by
  simp only [isIn, Bool.and_eq_true, decide_eq_true_eq] at h
  exact ⟨i.toNat, by omega, by omega⟩
theorem isIn_of {cs : List Chg} {k : Nat} (h : k ≤ cs.length) : isIn cs (k : Int) = true := by
  simp only [isIn, Bool.and_eq_true, decide_eq_true_eq]; omega
def lastX (cs : List Chg) (i j : Nat) : List Chg := ((cs.drop i).take (j - i)).reverse
theorem lastX_len {cs : List Chg} {i j : Nat} (hj : j ≤ cs.length) : (lastX cs i j).length = j - i := by simp [lastX]; omega
theorem lastX_get {cs : List Chg} {i j q : Nat} (hj : j ≤ cs.length) (hq : q < j - i) : (lastX cs i j)[q]? = cs[j - 1 - q]? := by
  unfold lastX
  rw [List.getElem?_reverse (by simp; omega)]
  have hl : ((cs.drop i).take (j - i)).length = j - i := by simp; omega
  rw [hl, List.getElem?_take_of_lt (by omega), List.getElem?_drop]
  congr 1
  omega
def ysL (l : List Chg) : List (List AV) := l.map fun c => [argC c]
theorem ysL_length (l : List Chg) : (ysL l).length = l.length := by simp [ysL]
theorem ysL_get {l : List Chg} {i : Nat} {c : Chg} (h : l[i]? = some c) : (ysL l)[i]? = some [argC c] := by simp [ysL, h]
theorem ysL_of {l : List Chg} {i : Nat} {args : List AV} (h : (ysL l)[i]? = some args) : ∃ c, l[i]? = some c ∧ args = [argC c] := by
  simp only [ysL, List.getElem?_map, Option.map_eq_some_iff] at h
  obtain ⟨a, ha, rfl⟩ := h
  exact ⟨a, ha, rfl⟩
theorem ysL_kf (l : List Chg) : ∀ y ∈ ysL l, kfs y = true ∧ y.length = 1 := by
  intro y hy
  simp only [ysL, List.mem_map] at hy
  obtain ⟨x, _, rfl⟩ := hy
  exact ⟨rfl, rfl⟩
def bkX (ty : ByteArray) : List Chg → ByteArray → Option ByteArray
  | [], f => some f
  | c :: l, f => bif same c.ty ty then (bif (backX c f).2 then bkX ty l (backX c f).1 else none) else bkX ty l f
theorem bkX_app (ty : ByteArray) : ∀ (l r : List Chg) (f : ByteArray), bkX ty (l ++ r) f = (bkX ty l f).bind (bkX ty r)
  | [], r, f => rfl
  | c :: l, r, f => by
    simp only [List.cons_append, bkX]
    cases same c.ty ty with
    | false => simp only [cond_false]; exact bkX_app ty l r f
    | true =>
      simp only [cond_true]
      cases (backX c f).2 with
      | false => rfl
      | true => simp only [cond_true]; exact bkX_app ty l r _
def bkAt (ty : ByteArray) (l : List Chg) (f : ByteArray) (i : Nat) : ByteArray := (bkX ty (l.take i) f).getD nul
theorem bkX_succ {ty : ByteArray} {l : List Chg} {f g : ByteArray} {i : Nat} {c : Chg} (h : l[i]? = some c) (hb : bkX ty (l.take i) f = some g) : bkX ty (l.take (i + 1)) f = bkX ty [c] g := by
  rw [List.take_add_one, h, bkX_app, hb]; rfl
theorem bkX_none {ty : ByteArray} {l : List Chg} {f : ByteArray} (i : Nat) (hb : bkX ty (l.take i) f = none) : bkX ty l f = none := by
  rw [← List.take_append_drop i l, bkX_app, hb]; rfl
def backAt (ss : List (List Ty)) (cs : List Chg) (ty f : ByteArray) (i j : Int) : ByteArray × Bool :=
  bif (!isIn cs i || !isIn cs j) || decide (i > j) then (nul, false)
  else bif !(findT (ss.getD j.toNat []) ty).2 || decide (fieldAt (findT (ss.getD j.toNat []) ty).1 f < 0) then (nul, false)
  else match bkX ty (lastX cs i.toNat j.toNat) f with
    | some g => (g, true)
    | none => (nul, false)
def chF (s : List Ty) (l : List Chg) : Nat → List (List Ty) × List Chg
  | 0 => ([s], [])
  | k + 1 => match l[k]? with
    | some c => (addS (chF s l k).1 (chF s l k).2 c, addC (chF s l k).1 (chF s l k).2 c)
    | none => chF s l k
theorem chF_succ {s : List Ty} {l : List Chg} {k : Nat} {c : Chg} (h : l[k]? = some c) : chF s l (k + 1) = (addS (chF s l k).1 (chF s l k).2 c, addC (chF s l k).1 (chF s l k).2 c) := by
  show (match l[k]? with | some c => _ | none => _) = _
  rw [h]
theorem chF_ok {s : List Ty} {l : List Chg} (hs : isSchema s = true) : ∀ k, ChainOk (chF s l k).1 (chF s l k).2
  | 0 => ChainOk.one hs
  | k + 1 => by
    cases h : l[k]? with
    | some c => rw [chF_succ h]; exact (chF_ok hs k).add
    | none => show ChainOk (match l[k]? with | some c => _ | none => _ : List (List Ty) × List Chg).1 (match l[k]? with | some c => _ | none => _ : List (List Ty) × List Chg).2; rw [h]; exact chF_ok hs k
def chM (ss : List (List Ty)) (cs : List Chg) (e : Ev) (i : Nat) : Nat → Ev
  | 0 => e
  | k + 1 => match ss[i + k]?, cs[i + k]? with
    | some s, some c => moveX s c (chM ss cs e i k)
    | _, _ => chM ss cs e i k
theorem chM_succ {ss : List (List Ty)} {cs : List Chg} {e : Ev} {i k : Nat} {s : List Ty} {c : Chg} (hs : ss[i + k]? = some s) (hc : cs[i + k]? = some c) : chM ss cs e i (k + 1) = moveX s c (chM ss cs e i k) := by
  show (match ss[i + k]?, cs[i + k]? with | some s, some c => _ | _, _ => _) = _
  rw [hs, hc]
theorem chM_right {ss : List (List Ty)} {cs : List Chg} {e : Ev} {i : Nat} {s0 : List Ty} (h : ChainOk ss cs) (h0 : ss[i]? = some s0) (he : evtR s0 e = 0) : ∀ (k : Nat), i + k ≤ cs.length → ∃ s, ss[i + k]? = some s ∧ evtR s (chM ss cs e i k) = 0
  | 0, _ => ⟨s0, h0, he⟩
  | k + 1, hk => by
    obtain ⟨s, hs, hr⟩ := chM_right h h0 he k (by omega)
    obtain ⟨c, hc⟩ : ∃ c, cs[i + k]? = some c := ⟨_, List.getElem?_eq_getElem (by omega)⟩
    obtain ⟨a, ha, ha2⟩ := h.link _ s c hs hc
    exact ⟨a, ha2, by rw [chM_succ hs hc]; exact move_right ha hr⟩
def zeroEv : Ev := ⟨nul, 0, []⟩
def mvAt (ss : List (List Ty)) (cs : List Chg) (e : Ev) (i j : Int) : Ev × Int :=
  bif (!isIn cs i || !isIn cs j) || decide (i > j) then (zeroEv, 20)
  else bif evtR (ss.getD i.toNat []) e != 0 then (zeroEv, evtR (ss.getD i.toNat []) e)
  else (chM ss cs e i.toNat (j.toNat - i.toNat), 0)
theorem mv_bad {ss : List (List Ty)} {cs : List Chg} {e : Ev} {i j : Int} (h : ((!isIn cs i || !isIn cs j) || decide (i > j)) = true) : mvAt ss cs e i j = (zeroEv, 20) := by
  unfold mvAt; rw [h]; rfl
theorem mv_err {ss : List (List Ty)} {cs : List Chg} {e : Ev} {i j : Int} {s : List Ty} (h : ((!isIn cs i || !isIn cs j) || decide (i > j)) = false) (hs : ss[i.toNat]? = some s) (he : (evtR s e != 0) = true) : mvAt ss cs e i j = (zeroEv, evtR s e) := by
  unfold mvAt
  rw [h, List.getD_eq_getElem?_getD, hs]
  simp only [cond_false, Option.getD_some, he, cond_true]
theorem mv_ok {ss : List (List Ty)} {cs : List Chg} {e : Ev} {i j : Int} {s : List Ty} (h : ((!isIn cs i || !isIn cs j) || decide (i > j)) = false) (hs : ss[i.toNat]? = some s) (he : (evtR s e != 0) = false) : mvAt ss cs e i j = (chM ss cs e i.toNat (j.toNat - i.toNat), 0) := by
  unfold mvAt
  rw [h, List.getD_eq_getElem?_getD, hs]
  simp only [cond_false, Option.getD_some, he]
theorem ba_bad {ss : List (List Ty)} {cs : List Chg} {ty f : ByteArray} {i j : Int} (h : ((!isIn cs i || !isIn cs j) || decide (i > j)) = true) : backAt ss cs ty f i j = (nul, false) := by
  unfold backAt; rw [h]; rfl
theorem ba_no {ss : List (List Ty)} {cs : List Chg} {ty f : ByteArray} {i j : Int} {s : List Ty} (h : ((!isIn cs i || !isIn cs j) || decide (i > j)) = false) (hs : ss[j.toNat]? = some s) (hq : (!(findT s ty).2 || decide (fieldAt (findT s ty).1 f < 0)) = true) : backAt ss cs ty f i j = (nul, false) := by
  unfold backAt
  rw [h, List.getD_eq_getElem?_getD, hs]
  simp only [cond_false, Option.getD_some, hq, cond_true]
theorem ba_none {ss : List (List Ty)} {cs : List Chg} {ty f : ByteArray} {i j : Int} {s : List Ty} (h : ((!isIn cs i || !isIn cs j) || decide (i > j)) = false) (hs : ss[j.toNat]? = some s) (hq : (!(findT s ty).2 || decide (fieldAt (findT s ty).1 f < 0)) = false) (hb : bkX ty (lastX cs i.toNat j.toNat) f = none) : backAt ss cs ty f i j = (nul, false) := by
  unfold backAt
  rw [h, List.getD_eq_getElem?_getD, hs]
  simp only [cond_false, Option.getD_some, hq, hb]
theorem ba_some {ss : List (List Ty)} {cs : List Chg} {ty f g : ByteArray} {i j : Int} {s : List Ty} (h : ((!isIn cs i || !isIn cs j) || decide (i > j)) = false) (hs : ss[j.toNat]? = some s) (hq : (!(findT s ty).2 || decide (fieldAt (findT s ty).1 f < 0)) = false) (hb : bkX ty (lastX cs i.toNat j.toNat) f = some g) : backAt ss cs ty f i j = (g, true) := by
  unfold backAt
  rw [h, List.getD_eq_getElem?_getD, hs]
  simp only [cond_false, Option.getD_some, hq, hb]
theorem bad_1 {a b c : Bool} (h : a = false) : ((!a || b) || c) = true := by rw [h]; rfl
theorem bad_2 {a b c : Bool} (h : b = false) : ((a || !b) || c) = true := by rw [h]; cases a <;> rfl
theorem bad_3 {a b c : Bool} (h : c = true) : ((a || b) || c) = true := by rw [h]; cases a <;> cases b <;> rfl
theorem good_3 {a b c : Bool} (h1 : a = true) (h2 : b = true) (h3 : c = false) : ((!a || !b) || c) = false := by rw [h1, h2, h3]; rfl
theorem bkAt_some {ty : ByteArray} {l : List Chg} {f g : ByteArray} {i : Nat} (h : bkX ty (l.take i) f = some g) : bkAt ty l f i = g := by unfold bkAt; rw [h]; rfl
theorem bk_off {ty : ByteArray} {c : Chg} {g : ByteArray} (h : (!(c.ty.toList == ty.toList)) = true) : bkX ty [c] g = some g := by
  unfold bkX
  rw [show same c.ty ty = false by simpa [same] using h]; rfl
theorem bk_gone {ty : ByteArray} {c : Chg} {g : ByteArray} (h : (!(c.ty.toList == ty.toList)) = false) (h2 : (!(backX c g).2) = true) : bkX ty [c] g = none := by
  unfold bkX
  rw [show same c.ty ty = true by simpa [same] using h, show (backX c g).2 = false by simpa using h2]; rfl
theorem bk_on {ty : ByteArray} {c : Chg} {g : ByteArray} (h : (!(c.ty.toList == ty.toList)) = false) (h2 : (!(backX c g).2) = false) : bkX ty [c] g = some (backX c g).1 := by
  unfold bkX
  rw [show same c.ty ty = true by simpa [same] using h, show (backX c g).2 = true by simpa using h2]; rfl
def k5S : List Ty := [⟨kA, [⟨kX, 1⟩]⟩]
def k5S1 : List Ty := [⟨kA, [⟨kY, 1⟩]⟩]
def k5S2 : List Ty := [⟨kA, [⟨kY, 1⟩, ⟨kZ, 3⟩]⟩]
def k5C : Chg := ⟨3, kA, kX, kY, ⟨0, 0, nul⟩⟩
def k5C2 : Chg := ⟨1, kA, kZ, nul, ⟨3, 0, nul⟩⟩
def k5E : Ev := ⟨kA, 0, [⟨1, 2, nul⟩]⟩
def k5E2 : Ev := ⟨kA, 0, [⟨1, 2, nul⟩, ⟨3, 0, nul⟩]⟩
theorem k5_s : isSchema k5S = true := by decide +kernel
theorem k5_a : addE [k5S] [] k5C = 0 := by kernel_rfl
theorem k5_n : chF k5S [k5C] [k5C].length = ([k5S, k5S1], [k5C]) := by kernel_rfl
theorem k5_e : addE [k5S, k5S1] [k5C] k5C2 = 0 := by kernel_rfl
theorem k5_as : addS [k5S, k5S1] [k5C] k5C2 = [k5S, k5S1, k5S2] := by kernel_rfl
theorem k5_ac : addC [k5S, k5S1] [k5C] k5C2 = [k5C, k5C2] := by kernel_rfl
theorem k5_m : mvAt [k5S, k5S1, k5S2] [k5C, k5C2] k5E 0 2 = (k5E2, 0) := by kernel_rfl
theorem k5_m2 : mvAt [k5S, k5S1, k5S2] [k5C, k5C2] zeroEv 0 9 = (zeroEv, 20) := by kernel_rfl
theorem k5_b : backAt [k5S, k5S1, k5S2] [k5C, k5C2] kA kY 0 2 = (kX, true) := by kernel_rfl
theorem k5_b2 : backAt [k5S, k5S1, k5S2] [k5C, k5C2] kA kZ 0 2 = (nul, false) := by kernel_rfl
theorem k5_ok1 : ChainOk [k5S, k5S1] [k5C] := by
  have := chF_ok (l := [k5C]) k5_s 1
  rwa [show chF k5S [k5C] 1 = ([k5S, k5S1], [k5C]) from k5_n] at this
theorem k5_ok2 : ChainOk [k5S, k5S1, k5S2] [k5C, k5C2] := by
  have := k5_ok1.add (c := k5C2)
  rwa [k5_as, k5_ac] at this
theorem k5_all : ∀ k c, [k5C][k]? = some c → addE (chF k5S [k5C] k).1 (chF k5S [k5C] k).2 c = 0 := fun k c h => by
  cases k with
  | zero => cases h; exact k5_a
  | succ k => simp at h
end Go.AL
namespace Go.AL
set_option linter.unusedVariables false
set_option linter.unusedSimpArgs false
theorem Does.narrow {P : Program} {f : Nat} {L L' : List AV} {h : Heap} {R : AV} (hd : Does P f L h R) (hle : AVles L' L) : Does P f L' h R := ⟨hd.1, fun n Z w vs hZ hv => hd.2 n Z w vs hZ (hle _ _ hv)⟩
theorem chM_add (ss : List (List Ty)) (cs : List Chg) (e : Ev) (i k : Nat) : ∀ m, chM ss cs e i (k + m) = chM ss cs (chM ss cs e i k) (i + k) m
  | 0 => rfl
  | m + 1 => by
    show (match ss[i + (k + m)]?, cs[i + (k + m)]? with | some s, some c => moveX s c (chM ss cs e i (k + m)) | _, _ => chM ss cs e i (k + m)) = (match ss[i + k + m]?, cs[i + k + m]? with | some s, some c => moveX s c (chM ss cs (chM ss cs e i k) (i + k) m) | _, _ => chM ss cs (chM ss cs e i k) (i + k) m)
    rw [show i + (k + m) = i + k + m by omega, chM_add ss cs e i k m]
theorem in_range {cs : List Chg} {i j : Nat} (hi : i ≤ j) (hj : j ≤ cs.length) : ((!isIn cs (i : Int) || !isIn cs (j : Int)) || decide ((i : Int) > (j : Int))) = false := by
  rw [isIn_of (show i ≤ cs.length by omega), isIn_of hj]
  simp; omega
theorem mv_at {ss : List (List Ty)} {cs : List Chg} {e : Ev} {i j : Nat} {s : List Ty} (hi : i ≤ j) (hj : j ≤ cs.length) (hs : ss[i]? = some s) : mvAt ss cs e (i : Int) (j : Int) = if evtR s e = 0 then (chM ss cs e i (j - i), 0) else (zeroEv, evtR s e) := by
  by_cases h : evtR s e = 0
  · rw [if_pos h, mv_ok (in_range hi hj) (by simpa using hs) (by simpa using h)]; simp
  · rw [if_neg h, mv_err (in_range hi hj) (by simpa using hs) (by simpa using h)]
theorem part_err {ss : List (List Ty)} {cs : List Chg} {e : Ev} {k : Nat} (h : ChainOk ss cs) (hk : k ≤ cs.length) (hz : ((mvAt ss cs e 0 (k : Int)).2 != 0) = true) : (mvAt ss cs e 0 ((cs.length : Nat) : Int)).2 = (mvAt ss cs e 0 (k : Int)).2 := by
  obtain ⟨s, hs, _⟩ := h.at (Nat.zero_le _)
  have e1 := mv_at (e := e) (Nat.zero_le k) hk hs
  have e2 := mv_at (e := e) (Nat.zero_le cs.length) (Nat.le_refl _) hs
  simp only [Int.ofNat_zero, Int.natCast_zero] at e1 e2
  rw [e1] at hz ⊢
  rw [e2]
  by_cases h : evtR s e = 0
  · rw [if_pos h] at hz; simp at hz
  · rw [if_neg h, if_neg h]
theorem part_ok {ss : List (List Ty)} {cs : List Chg} {e : Ev} {k : Nat} (h : ChainOk ss cs) (hk : k ≤ cs.length) (hz : ((mvAt ss cs e 0 (k : Int)).2 != 0) = false) :
    (mvAt ss cs e 0 ((cs.length : Nat) : Int)).2 = 0 ∧ (mvAt ss cs (mvAt ss cs e 0 (k : Int)).1 (k : Int) ((cs.length : Nat) : Int)).2 = 0 ∧
    (mvAt ss cs (mvAt ss cs e 0 (k : Int)).1 (k : Int) ((cs.length : Nat) : Int)).1 = (mvAt ss cs e 0 ((cs.length : Nat) : Int)).1 ∧
    ∃ t, ss[cs.length]? = some t ∧ evtR t (mvAt ss cs e 0 ((cs.length : Nat) : Int)).1 = 0 := by
  obtain ⟨s, hs, _⟩ := h.at (Nat.zero_le _)
  have e1 := mv_at (e := e) (Nat.zero_le k) hk hs
  have e2 := mv_at (e := e) (Nat.zero_le cs.length) (Nat.le_refl _) hs
  simp only [Int.ofNat_zero, Int.natCast_zero] at e1 e2
  rw [e1] at hz ⊢
  by_cases h0 : evtR s e = 0
  · rw [if_pos h0]
    rw [if_pos h0] at e2
    rw [e2]
    obtain ⟨sk, hsk, hek⟩ := chM_right h hs h0 k (by omega)
    obtain ⟨t, ht, hte⟩ := chM_right h hs h0 cs.length (by omega)
    rw [Nat.zero_add] at hsk ht
    have e3 := mv_at (e := chM ss cs e 0 (k - 0)) hk (Nat.le_refl _) hsk
    simp only [Nat.sub_zero] at e3 ⊢
    rw [if_pos hek] at e3
    rw [e3]
    refine ⟨by simp, by simp, ?_, t, ht, hte⟩
    have := chM_add ss cs e 0 k (cs.length - k)
    rw [Nat.zero_add, show k + (cs.length - k) = cs.length by omega] at this
    exact this.symm
  · rw [if_neg h0] at hz
    simp at hz
    exact absurd hz h0
end Go.AL
namespace Go.AL
set_option linter.unusedVariables false
set_option linter.unusedSimpArgs false
def newX (s : List Ty) (l : List Chg) : Nat → Int
  | 0 => 0
  | k + 1 => bif newX s l k == 0 then (match l[k]? with | some c => addE (chF s l k).1 (chF s l k).2 c | none => 0) else newX s l k
def newE (s : List Ty) (l : List Chg) : Int := newX s l l.length
theorem newX_on {s : List Ty} {l : List Chg} {k : Nat} {c : Chg} (h0 : newX s l k = 0) (hc : l[k]? = some c) : newX s l (k + 1) = addE (chF s l k).1 (chF s l k).2 c := by
  show (bif newX s l k == 0 then (match l[k]? with | some c => addE (chF s l k).1 (chF s l k).2 c | none => 0) else newX s l k) = _
  rw [h0, hc]; rfl
theorem newX_stay {s : List Ty} {l : List Chg} {k : Nat} (h : newX s l k ≠ 0) : ∀ m, newX s l (k + m) = newX s l k
  | 0 => rfl
  | m + 1 => by
    have ih := newX_stay h m
    show (bif newX s l (k + m) == 0 then _ else newX s l (k + m)) = _
    rw [ih, show (newX s l k == 0) = false by simpa using h]; rfl
theorem newX_ret {s : List Ty} {l : List Chg} {k : Nat} {c : Chg} (h0 : newX s l k = 0) (hc : l[k]? = some c) (he : (addE (chF s l k).1 (chF s l k).2 c != 0) = true) : newE s l = addE (chF s l k).1 (chF s l k).2 c := by
  have h1 := newX_on h0 hc
  have hl := (List.getElem?_eq_some_iff.1 hc).1
  have := newX_stay (s := s) (l := l) (k := k + 1) (by rw [h1]; simpa using he) (l.length - (k + 1))
  rw [show k + 1 + (l.length - (k + 1)) = l.length by omega] at this
  unfold newE
  rw [this, h1]
theorem newX_go {s : List Ty} {l : List Chg} {k : Nat} {c : Chg} (h0 : newX s l k = 0) (hc : l[k]? = some c) (he : (addE (chF s l k).1 (chF s l k).2 c != 0) = false) : newX s l (k + 1) = 0 := by
  rw [newX_on h0 hc]; simpa using he
theorem newX_back {s : List Ty} {l : List Chg} : ∀ {m k : Nat}, newX s l m = 0 → k ≤ m → newX s l k = 0 := fun {m k} h hk => by
  by_cases h0 : newX s l k = 0
  · exact h0
  · have := newX_stay h0 (m - k)
    rw [show k + (m - k) = m by omega, h] at this
    exact this.symm
theorem new_all {s : List Ty} {l : List Chg} (h : newE s l = 0) : ∀ k c, l[k]? = some c → addE (chF s l k).1 (chF s l k).2 c = 0 := fun k c hc => by
  have hl := (List.getElem?_eq_some_iff.1 hc).1
  have h0 := newX_back h (show k ≤ l.length by omega)
  rw [← newX_on h0 hc]
  exact newX_back h (show k + 1 ≤ l.length by omega)
theorem chF_len {s : List Ty} {l : List Chg} (h : ∀ k c, l[k]? = some c → addE (chF s l k).1 (chF s l k).2 c = 0) : ∀ k, k ≤ l.length → (chF s l k).2.length = k
  | 0, _ => rfl
  | k + 1, hk => by
    obtain ⟨c, hc⟩ : ∃ c, l[k]? = some c := ⟨_, List.getElem?_eq_getElem (by omega)⟩
    rw [chF_succ hc]
    show (addC (chF s l k).1 (chF s l k).2 c).length = k + 1
    unfold addC
    rw [h k c hc]
    show ((chF s l k).2 ++ [c]).length = k + 1
    rw [List.length_append, chF_len h k (by omega)]; rfl
end Go.AL
