/- Parts of an abstract logic over the kit's walks, and walks in it: Dif. -/
import Derived.Test.YtjiknbjkbakegaaDoorNrm3
/- What differs between two patterns (law 19): plain data; nothing of a program. -/
namespace Go.AL
set_option linter.unusedVariables false
set_option linter.unusedSimpArgs false

structure Dl where
  kind : Int
  pl : Int
def encDl (d : Dl) : List D := [int d.kind, int d.pl]
def sameD (a b : Dl) : Bool := a.kind == b.kind && a.pl == b.pl
def whenD (b : Bool) (d : Dl) : List Dl := bif b then [d] else []
def difH (p q : Pat) : List Dl := whenD (!(p.within == q.within)) ⟨1, 0⟩ ++ (whenD (!same p.byf q.byf) ⟨2, 0⟩ ++ whenD (!(p.any == q.any)) ⟨3, 0⟩)
def difB (a b : El) : List Bool := [!same a.al b.al, !allSame same a.tys b.tys, !(a.plus == b.plus), !(a.neg == b.neg), !sameX a.cond b.cond]
/-- The kinds of what is true, from the i-th on. -/
def kindsB : List Bool → Nat → List Int
  | [], _ => []
  | b :: l, i => bif b then ((i : Nat) : Int) :: kindsB l (i + 1) else kindsB l (i + 1)
def difL (i : Nat) (a b : El) : List Dl := (kindsB (difB a b) 5).map fun k => ⟨k, (i : Int)⟩
def difAt (P Q : List El) (j : Nat) : List Dl := match P[j]?, Q[j]? with
  | some a, some b => difL j a b
  | _, _ => []
def difs (P Q : List El) (i : Nat) : List Dl := (List.range i).flatMap (difAt P Q)
def difX (p q : Pat) : List Dl := bif p.els.length == q.els.length then difH p q ++ difs p.els q.els p.els.length else difH p q ++ [⟨4, 0⟩]
theorem difs_succ (P Q : List El) (i : Nat) : difs P Q (i + 1) = difs P Q i ++ difAt P Q i := by simp [difs, List.range_succ]
theorem difAt_some {P Q : List El} {j : Nat} {a b : El} (ha : P[j]? = some a) (hb : Q[j]? = some b) : difAt P Q j = difL j a b := by simp [difAt, ha, hb]
theorem difL_eq (i : Nat) (a b : El) : difL i a b = whenD (!same a.al b.al) ⟨5, i⟩ ++ (whenD (!allSame same a.tys b.tys) ⟨6, i⟩ ++ (whenD (!(a.plus == b.plus)) ⟨7, i⟩ ++ (whenD (!(a.neg == b.neg)) ⟨8, i⟩ ++ whenD (!sameX a.cond b.cond) ⟨9, i⟩))) := by
  unfold difL difB
  cases same a.al b.al <;> cases allSame same a.tys b.tys <;> cases (a.plus == b.plus) <;> cases (a.neg == b.neg) <;> cases sameX a.cond b.cond <;> rfl
theorem difL_few (i : Nat) (a b : El) : (difL i a b).length ≤ 5 := by
  rw [difL_eq]
  cases same a.al b.al <;> cases allSame same a.tys b.tys <;> cases (a.plus == b.plus) <;> cases (a.neg == b.neg) <;> cases sameX a.cond b.cond <;> simp [whenD]
theorem difH_few (p q : Pat) : (difH p q).length ≤ 3 := by
  unfold difH
  cases (p.within == q.within) <;> cases same p.byf q.byf <;> cases (p.any == q.any) <;> simp [whenD]
theorem difAt_few (P Q : List El) (j : Nat) : (difAt P Q j).length ≤ 5 := by
  unfold difAt
  split
  · exact difL_few _ _ _
  · simp
theorem difs_few (P Q : List El) : ∀ i, (difs P Q i).length ≤ 5 * i
  | 0 => by simp [difs]
  | i + 1 => by
    rw [difs_succ, List.length_append]
    have := difs_few P Q i
    have := difAt_few P Q i
    omega

/-! ### Alike -/
theorem same_comm (a b : ByteArray) : same a b = same b a := by
  cases h : same a b with
  | true => have := same_eq h; subst this; exact (same_refl a).symm
  | false =>
    cases h2 : same b a with
    | false => rfl
    | true => have := same_eq h2; subst this; rw [same_refl] at h; cases h
theorem sameS_eq : ∀ {l r : List ByteArray}, allSame same l r = true → l = r
  | [], [], _ => rfl
  | [], _ :: _, h => by simp [allSame] at h
  | _ :: _, [], h => by simp [allSame] at h
  | x :: l, y :: r, h => by
    simp only [allSame, Bool.and_eq_true] at h
    rw [same_eq h.1, sameS_eq h.2]
mutual
theorem sameX_eq : ∀ {x y : Exp}, sameX x y = true → x = y
  | .mk o1 v1 a1 f1 k1, .mk o2 v2 a2 f2 k2, h => by
    unfold sameX at h
    simp only [Bool.and_eq_true, beq_iff_eq] at h
    obtain ⟨h1, h2, h3, h4, h5⟩ := h
    rw [h1, sameV_eq h2, same_eq h3, same_eq h4, sameXs_eq' h5]
theorem sameXs_eq' : ∀ {l r : List Exp}, sameXs l r = true → l = r
  | [], [], _ => rfl
  | [], _ :: _, h => by simp [sameXs] at h
  | _ :: _, [], h => by simp [sameXs] at h
  | x :: l, y :: r, h => by
    simp only [sameXs, Bool.and_eq_true] at h
    rw [sameX_eq h.1, sameXs_eq' h.2]
end
theorem comm_of {α : Type} {f : α → α → Bool} (h1 : ∀ a, f a a = true) (h2 : ∀ a b, f a b = true → a = b) (a b : α) : f a b = f b a := by
  cases h : f a b with
  | true => rw [h2 a b h, h1]
  | false =>
    cases g : f b a with
    | false => rfl
    | true => rw [h2 b a g, h1] at h; cases h
theorem sameL_eq {a b : El} (h : sameL a b = true) : a = b := by
  obtain ⟨a1, a2, a3, a4, a5⟩ := a
  obtain ⟨b1, b2, b3, b4, b5⟩ := b
  unfold sameL at h
  simp only [Bool.and_eq_true, beq_iff_eq] at h
  obtain ⟨h1, h2, h3, h4, h5⟩ := h
  rw [same_eq h1, sameS_eq h2, h3, h4, sameX_eq h5]
theorem difB_comm (a b : El) : difB a b = difB b a := by
  unfold difB
  rw [same_comm a.al, comm_of (allSame_self same_refl) (fun _ _ => sameS_eq) a.tys, comm_of sameX_self (fun _ _ => sameX_eq) a.cond, Bool.beq_comm (a := a.plus), Bool.beq_comm (a := a.neg)]
theorem difAt_comm (P Q : List El) (j : Nat) : difAt P Q j = difAt Q P j := by
  unfold difAt
  cases P[j]? <;> cases Q[j]? <;> simp [difL, difB_comm]
theorem difH_comm (p q : Pat) : difH p q = difH q p := by
  unfold difH
  rw [same_comm p.byf, BEq.comm (a := p.within), Bool.beq_comm (a := p.any)]
theorem difX_comm (p q : Pat) : difX p q = difX q p := by
  unfold difX
  rw [difH_comm, BEq.comm (a := p.els.length)]
  cases h : (q.els.length == p.els.length) with
  | false => rfl
  | true =>
    simp only [beq_iff_eq] at h
    simp only [cond_true]
    rw [h]
    congr 1
    unfold difs
    congr 1
    funext j
    exact difAt_comm _ _ _
theorem difL_nil {i : Nat} {a b : El} : difL i a b = [] ↔ sameL a b = true := by
  rw [difL_eq]
  unfold sameL
  cases same a.al b.al <;> cases allSame same a.tys b.tys <;> cases (a.plus == b.plus) <;> cases (a.neg == b.neg) <;> cases sameX a.cond b.cond <;> simp [whenD]
theorem difL_self (i : Nat) (a : El) : difL i a a = [] := difL_nil.2 (sameL_self a)
theorem flat_one {α : Type} {f : Nat → List α} {k : Nat} : ∀ {n : Nat}, k < n → (∀ j, j < n → j ≠ k → f j = []) → (List.range n).flatMap f = f k
  | 0, h, _ => by omega
  | n + 1, h, hf => by
    rw [List.range_succ, List.flatMap_append]
    by_cases hk : k = n
    · subst hk
      have : (List.range k).flatMap f = [] := by
        rw [List.flatMap_eq_nil_iff]
        intro j hj
        have := List.mem_range.1 hj
        exact hf j (by omega) (by omega)
      rw [this]; simp
    · rw [flat_one (k := k) (by omega) fun j hj => hf j (by omega)]
      have := hf n (by omega) (Ne.symm hk)
      simp [this]
theorem difs_nil {P Q : List El} (hl : P.length = Q.length) : difs P Q P.length = [] ↔ allSame sameL P Q = true := by
  unfold difs
  rw [List.flatMap_eq_nil_iff]
  constructor
  · intro h
    refine allSame_all hl fun j a b hj ha hb => ?_
    have := h j (by simpa using hj)
    rw [difAt_some ha hb] at this
    exact difL_nil.1 this
  · intro h j hj
    have hj := List.mem_range.1 hj
    have ha : P[j]? = some P[j] := List.getElem?_eq_getElem hj
    have hb : Q[j]? = some (Q[j]'(by omega)) := List.getElem?_eq_getElem (by omega)
    rw [difAt_some ha hb]
    refine difL_nil.2 ?_
    cases g : sameL P[j] (Q[j]'(by omega)) with
    | true => rfl
    | false => rw [allSame_ne ha hb g] at h; cases h
theorem difX_nil (p q : Pat) : ((difX p q).length == 0) = sameP p q := by
  unfold difX sameP
  cases hl : (p.els.length == q.els.length) with
  | false =>
    have : p.els.length ≠ q.els.length := by simpa using hl
    rw [allSame_len this]
    simp
  | true =>
    have hl : p.els.length = q.els.length := by simpa using hl
    have hd := difs_nil hl
    simp only [cond_true, List.length_append]
    cases g : allSame sameL p.els q.els with
    | true =>
      rw [hd.2 g]
      unfold difH
      cases (p.within == q.within) <;> cases same p.byf q.byf <;> cases (p.any == q.any) <;> simp [whenD]
    | false =>
      have : (difs p.els q.els p.els.length).length ≠ 0 := by
        intro e
        rw [hd.1 (List.length_eq_zero_iff.1 e)] at g
        cases g
      simp only [Bool.false_and, beq_eq_false_iff_ne]
      omega
theorem difX_self (p : Pat) : difX p p = [] := by
  have := difX_nil p p
  rw [sameP_self] at this
  exact List.length_eq_zero_iff.1 (by simpa using this)
theorem sameD_self (l : List Dl) : allSame sameD l l = true := allSame_self (fun a => by simp [sameD]) l

/-! ### One thing changed -/
def kXx : ByteArray := ⟨#[120]⟩
def kZz : ByteArray := ⟨#[122, 122, 122, 122]⟩
def kMore : ByteArray := ⟨#[109, 111, 114, 101]⟩
def oneX : Exp := .mk 2 ⟨0, 0, nul⟩ ⟨#[113]⟩ ⟨#[113]⟩ []
def oneL (c : Nat) (x : El) : El :=
  bif c == 5 then { x with al := x.al ++ kXx } else bif c == 6 then { x with tys := x.tys ++ [kZz] } else bif c == 7 then { x with plus := !x.plus }
  else bif c == 8 then { x with neg := !x.neg } else { x with cond := oneX }
def moreL : El := ⟨kMore, [], false, false, zeroX⟩
def oneP (p : Pat) (c k : Nat) (x : El) : Pat :=
  bif c == 1 then { p with within := p.within + 1 } else bif c == 2 then { p with byf := p.byf ++ kXx } else bif c == 3 then { p with any := !p.any }
  else bif c == 4 then { p with els := p.els ++ [moreL] } else { p with els := p.els.set k (oneL c x) }
theorem same_more (a b : ByteArray) (hb : 0 < b.size) : same a (a ++ b) = false := by
  cases h : same a (a ++ b) with
  | false => rfl
  | true =>
    have h1 : a.size = (a ++ b).size := congrArg ByteArray.size (same_eq h)
    rw [ByteArray.size_append] at h1; omega
theorem oneX_norm : normE oneX = oneX := by
  have h1 : isX oneX = true := by decide +kernel
  unfold normE
  rw [h1]
  simp [oneX, normX, normXs, turnX]
theorem one_dif {p : Pat} {c k : Nat} {x : El} (hc : 1 ≤ c) (h9 : c ≤ 9) (hk : p.els[k]? = some x) (hX : c = 9 → sameX (normE x.cond) oneX = false) :
    difX (normP p) (normP (oneP p c k x)) = [⟨(c : Int), bif decide (5 ≤ c) then (k : Int) else 0⟩] := by
  have hkl := (List.getElem?_eq_some_iff.1 hk).1
  have hd0 : difs (normP p).els (normP p).els (normP p).els.length = [] := (difs_nil rfl).2 (allSame_self sameL_self _)
  by_cases h4 : c ≤ 4
  · have : c = 1 ∨ c = 2 ∨ c = 3 ∨ c = 4 := by omega
    rcases this with rfl | rfl | rfl | rfl
    · have e : normP (oneP p 1 k x) = { normP p with within := p.within + 1 } := rfl
      rw [e]
      unfold difX
      simp only [beq_self_eq_true, cond_true]
      rw [hd0]
      unfold difH
      have : ((normP p).within == p.within + 1) = false := by show (p.within == p.within + 1) = false; simp; omega
      rw [this, same_refl]
      simp [whenD]
    · have e : normP (oneP p 2 k x) = { normP p with byf := p.byf ++ kXx } := rfl
      rw [e]
      unfold difX
      simp only [beq_self_eq_true, cond_true]
      rw [hd0]
      unfold difH
      have : same (normP p).byf (p.byf ++ kXx) = false := same_more _ _ (by decide)
      rw [this]
      simp [whenD]
    · have e : normP (oneP p 3 k x) = { normP p with any := !p.any } := rfl
      rw [e]
      unfold difX
      simp only [beq_self_eq_true, cond_true]
      rw [hd0]
      unfold difH
      have : ((normP p).any == !p.any) = false := by show (p.any == !p.any) = false; cases p.any <;> rfl
      rw [this, same_refl]
      simp [whenD]
    · have e : normP (oneP p 4 k x) = { normP p with els := p.els.map normL ++ [normL moreL] } := by simp [oneP, normP]
      rw [e]
      unfold difX
      have : ((normP p).els.length == (p.els.map normL ++ [normL moreL]).length) = false := by simp [normP]
      simp only [this, cond_false]
      unfold difH
      rw [same_refl]
      simp [whenD]
  · have e : normP (oneP p c k x) = { normP p with els := (p.els.map normL).set k (normL (oneL c x)) } := by
      have h : oneP p c k x = { p with els := p.els.set k (oneL c x) } := by
        unfold oneP
        have e1 : (c == 1) = false := by simp; omega
        have e2 : (c == 2) = false := by simp; omega
        have e3 : (c == 3) = false := by simp; omega
        have e4 : (c == 4) = false := by simp; omega
        rw [e1, e2, e3, e4]; rfl
      rw [h]
      simp [normP, List.map_set]
    rw [e]
    unfold difX
    have hl : ((normP p).els.length == ((p.els.map normL).set k (normL (oneL c x))).length) = true := by simp [normP]
    simp only [hl, cond_true]
    have hh : difH (normP p) { normP p with els := (p.els.map normL).set k (normL (oneL c x)) } = [] := by
      unfold difH
      rw [same_refl]
      simp [whenD]
    rw [hh, List.nil_append]
    have hN : (p.els.map normL)[k]? = some (normL x) := by simp [hk]
    unfold difs
    rw [flat_one (k := k) (by simp [normP]; omega)]
    · rw [show difAt (normP p).els ((p.els.map normL).set k (normL (oneL c x))) k = difL k (normL x) (normL (oneL c x)) from difAt_some hN (by rw [List.getElem?_set]; simp [hkl])]
      rw [difL_eq]
      have : c = 5 ∨ c = 6 ∨ c = 7 ∨ c = 8 ∨ c = 9 := by omega
      rcases this with rfl | rfl | rfl | rfl | rfl
      · have h1 : same (normL x).al (normL (oneL 5 x)).al = false := same_more _ _ (by decide)
        have h2 : allSame same (normL x).tys (normL (oneL 5 x)).tys = true := allSame_self same_refl _
        have h5 : sameX (normL x).cond (normL (oneL 5 x)).cond = true := sameX_self _
        rw [h1, h2, h5]
        simp [whenD, normL, oneL]
      · have h1 : same (normL x).al (normL (oneL 6 x)).al = true := same_refl _
        have h2 : allSame same (normL x).tys (normL (oneL 6 x)).tys = false := allSame_len (by show x.tys.length ≠ (x.tys ++ [kZz]).length; simp)
        have h5 : sameX (normL x).cond (normL (oneL 6 x)).cond = true := sameX_self _
        rw [h1, h2, h5]
        simp [whenD, normL, oneL]
      · have h1 : same (normL x).al (normL (oneL 7 x)).al = true := same_refl _
        have h2 : allSame same (normL x).tys (normL (oneL 7 x)).tys = true := allSame_self same_refl _
        have h5 : sameX (normL x).cond (normL (oneL 7 x)).cond = true := sameX_self _
        rw [h1, h2, h5]
        cases hx : x.plus <;> simp [whenD, normL, oneL, hx]
      · have h1 : same (normL x).al (normL (oneL 8 x)).al = true := same_refl _
        have h2 : allSame same (normL x).tys (normL (oneL 8 x)).tys = true := allSame_self same_refl _
        have h5 : sameX (normL x).cond (normL (oneL 8 x)).cond = true := sameX_self _
        rw [h1, h2, h5]
        cases hx : x.neg <;> simp [whenD, normL, oneL, hx]
      · have h1 : same (normL x).al (normL (oneL 9 x)).al = true := same_refl _
        have h2 : allSame same (normL x).tys (normL (oneL 9 x)).tys = true := allSame_self same_refl _
        have h5 : sameX (normL x).cond (normL (oneL 9 x)).cond = false := by
          show sameX (normE x.cond) (normE oneX) = false
          rw [oneX_norm]; exact hX rfl
        rw [h1, h2, h5]
        simp [whenD, normL, oneL]
    · intro j hj hjk
      have hj' : j < p.els.length := by simpa [normP] using hj
      have ha : (normP p).els[j]? = some (normL p.els[j]) := by show (p.els.map normL)[j]? = _; simp [hj']
      have hb : ((p.els.map normL).set k (normL (oneL c x)))[j]? = some (normL p.els[j]) := by rw [List.getElem?_set]; simp [Ne.symm hjk, hj']
      rw [difAt_some ha hb, difL_self]
/-- Whether only the window differs, and that isn't greater. -/
def onlyD (l : List Dl) : Bool := l.all fun d => d.kind == 1
def shrX (p q : Pat) : Bool := onlyD (difX (normP p) (normP q)) && decide (q.within ≤ p.within)
theorem one_shr {p : Pat} {c k : Nat} {x : El} (hc : 1 ≤ c) (h9 : c ≤ 9) (hk : p.els[k]? = some x) (hX : c = 9 → sameX (normE x.cond) oneX = false) : shrX p (oneP p c k x) = false ∧ shrX (oneP p c k x) p = (c == 1) := by
  have h := one_dif hc h9 hk hX
  unfold shrX
  rw [h, difX_comm, h]
  by_cases h1 : c = 1
  · subst h1
    have : (oneP p 1 k x).within = p.within + 1 := rfl
    rw [this]
    simp [onlyD]
    omega
  · have : onlyD [⟨(c : Int), bif decide (5 ≤ c) then (k : Int) else 0⟩] = false := by simp [onlyD]; omega
    rw [this]
    simp; omega
end Go.AL
