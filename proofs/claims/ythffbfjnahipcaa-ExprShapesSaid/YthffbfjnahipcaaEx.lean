/- Conditions (trees) as plain data. Nothing of a program. -/
import Derived.Test.YthffbfjnahipcaaVal
import Derived.Test.YthffbfjnahipcaaA31
namespace Go.AL
set_option linter.unusedVariables false
set_option linter.unusedSimpArgs false

inductive Exp where
  | mk (op : Int) (val : Vl) (al fi : ByteArray) (kids : List Exp)
mutual
def encX : Exp → List D
  | .mk op v al fi ks => [int op, int v.k, int v.n, str v.s, str al, str fi, .sl 7 96 (encXs ks)]
def encXs : List Exp → List (List D)
  | [] => []
  | k :: ks => encX k :: encXs ks
end
theorem encXs_eq : ∀ ks : List Exp, encXs ks = ks.map encX
  | [] => by simp [encXs]
  | k :: ks => by simp [encXs, encXs_eq ks]
theorem encXs_length (ks : List Exp) : (encXs ks).length = ks.length := by simp [encXs_eq]
theorem encXs_get {ks : List Exp} {i : Nat} {k : Exp} (h : ks[i]? = some k) : (encXs ks)[i]? = some (encX k) := by simp [encXs_eq, h]
def argX (x : Exp) : AV := .agg ((encX x).map .d)
def Exp.op : Exp → Int | .mk op _ _ _ _ => op
def Exp.kids : Exp → List Exp | .mk _ _ _ _ ks => ks
def zeroX : Exp := .mk 0 ⟨0, 0, nul⟩ nul nul []

theorem Exp.shape (x : Exp) : ∃ o v a f k, x = .mk o v a f k := by cases x; exact ⟨_, _, _, _, _, rfl⟩
theorem any_idxX {α : Type} {p : α → Bool} {l : List α} : decide (idx p l ≥ 0) = l.any p := by
  rcases idx_cases p l with ⟨i, a, h1, h2, h3, _⟩ | ⟨h1, h2⟩
  · rw [h1]
    have : l.any p = true := List.any_eq_true.2 ⟨a, List.mem_of_getElem? h2, h3⟩
    rw [this]; simp
  · rw [h1]
    have : l.any p = false := by rw [List.any_eq_false]; intro x hx; simp [h2 x hx]
    rw [this]; rfl
/-! ### How deep -/
mutual
def depthX : Exp → Nat → Int
  | .mk op _ _ _ ks, a => bif op == 0 || decide ((a : Int) > 20) then 0 else depthXs ks (a + 1) 0 + 1
def depthXs : List Exp → Nat → Int → Int
  | [], _, n => n
  | k :: ks, a, n => depthXs ks a (max n (depthX k a))
end
theorem depthXs_snoc : ∀ {ks : List Exp} {i : Nat} {k : Exp} (a : Nat) (n : Int), ks[i]? = some k → depthXs (ks.take (i + 1)) a n = max (depthXs (ks.take i) a n) (depthX k a)
  | [], i, k, a, n, h => by simp at h
  | x :: ks, 0, k, a, n, h => by simp at h; subst h; simp [depthXs]
  | x :: ks, i + 1, k, a, n, h => by
    simp only [List.take_succ_cons, depthXs]
    exact depthXs_snoc a _ (by simpa using h)
mutual
theorem depthX_le : ∀ (x : Exp) (a : Nat), 0 ≤ depthX x a ∧ (depthX x a ≤ 21 - (a : Int) ∨ depthX x a = 0)
  | .mk op v al fi ks, a => by
    unfold depthX
    by_cases h : (op == 0 || decide ((a : Int) > 20)) = true
    · rw [h]; exact ⟨Int.le_refl 0, .inr rfl⟩
    · have h' : (op == 0 || decide ((a : Int) > 20)) = false := by simpa using h
      rw [h']
      simp only [cond_false]
      simp only [Bool.or_eq_false_iff, decide_eq_false_iff_not] at h'
      have := depthXs_le ks (a + 1) 0 (Int.le_refl 0) (by omega)
      omega
theorem depthXs_le : ∀ (ks : List Exp) (a : Nat) (n : Int), 0 ≤ n → n ≤ max (21 - (a : Int)) 0 → 0 ≤ depthXs ks a n ∧ depthXs ks a n ≤ max (21 - (a : Int)) 0
  | [], a, n, h0, h1 => by simp only [depthXs]; exact ⟨h0, h1⟩
  | k :: ks, a, n, h0, h1 => by
    simp only [depthXs]
    have := depthX_le k a
    exact depthXs_le ks a _ (by omega) (by omega)
end

/-! ### All nodes -/
mutual
def nodesX : Exp → Nat → List Exp
  | .mk op v al fi ks, a => bif op == 0 || decide ((a : Int) > 20) then [] else .mk op v al fi ks :: nodesXs ks (a + 1)
def nodesXs : List Exp → Nat → List Exp
  | [], _ => []
  | k :: ks, a => nodesX k a ++ nodesXs ks a
end
theorem nodesXs_snoc : ∀ {ks : List Exp} {i : Nat} {k : Exp} (a : Nat), ks[i]? = some k → nodesXs (ks.take (i + 1)) a = nodesXs (ks.take i) a ++ nodesX k a
  | [], i, k, a, h => by simp at h
  | x :: ks, 0, k, a, h => by simp at h; subst h; simp [nodesXs]
  | x :: ks, i + 1, k, a, h => by
    simp only [List.take_succ_cons, nodesXs, List.append_assoc]
    rw [nodesXs_snoc a (by simpa using h)]
theorem nodesXs_split : ∀ (ks : List Exp) (i : Nat) (a : Nat), nodesXs ks a = nodesXs (ks.take i) a ++ nodesXs (ks.drop i) a
  | [], i, a => by simp [nodesXs]
  | x :: ks, 0, a => by simp [nodesXs]
  | x :: ks, i + 1, a => by
    simp only [List.take_succ_cons, List.drop_succ_cons, nodesXs, List.append_assoc]
    rw [nodesXs_split ks i a]
def ysX (l : List Exp) : List (List AV) := l.map fun y => [argX y]
theorem ysX_length (l : List Exp) : (ysX l).length = l.length := by simp [ysX]
theorem ysX_get {l : List Exp} {i : Nat} {y : Exp} (h : l[i]? = some y) : (ysX l)[i]? = some [argX y] := by simp [ysX, h]
theorem ysX_of {l : List Exp} {i : Nat} {args : List AV} (h : (ysX l)[i]? = some args) : ∃ y, l[i]? = some y ∧ args = [argX y] := by
  simp only [ysX, List.getElem?_map, Option.map_eq_some_iff] at h
  obtain ⟨y, hy, rfl⟩ := h
  exact ⟨y, hy, rfl⟩
theorem argX_kf (x : Exp) : kf (argX x) = true := by simp [argX, kf, kfs_d]
theorem ysX_kf (l : List Exp) : ∀ y ∈ ysX l, kfs y = true ∧ y.length = 1 := by
  intro y hy
  simp only [ysX, List.mem_map] at hy
  obtain ⟨x, _, rfl⟩ := hy
  exact ⟨by simp [kfs, argX_kf], rfl⟩
/-- A node of a kid, in the whole row. -/
theorem node_at {op : Int} {v : Vl} {al fi : ByteArray} {ks : List Exp} {a i j : Nat} {k y : Exp} (h : (op == 0 || decide ((a : Int) > 20)) = false) (hk : ks[i]? = some k) (hy : (nodesX k (a + 1))[j]? = some y) :
    (nodesX (.mk op v al fi ks) a)[1 + (nodesXs (ks.take i) (a + 1)).length + j]? = some y := by
  unfold nodesX
  rw [h]
  simp only [cond_false]
  rw [show 1 + (nodesXs (ks.take i) (a + 1)).length + j = ((nodesXs (ks.take i) (a + 1)).length + j) + 1 by omega, List.getElem?_cons_succ, nodesXs_split ks (i + 1), nodesXs_snoc _ hk, List.append_assoc]
  rw [List.getElem?_append_right (by omega), Nat.add_sub_cancel_left, List.getElem?_append_left (List.getElem?_eq_some_iff.1 hy).1]
  exact hy

theorem nodesX_no {op : Int} {v : Vl} {al fi : ByteArray} {ks : List Exp} {a : Nat} (h : (op == 0 || decide ((a : Int) > 20)) = true) : nodesX (.mk op v al fi ks) a = [] := by unfold nodesX; rw [h]; rfl
theorem nodesX_len {op : Int} {v : Vl} {al fi : ByteArray} {ks : List Exp} {a : Nat} (h : (op == 0 || decide ((a : Int) > 20)) = false) : (nodesX (.mk op v al fi ks) a).length = 1 + (nodesXs ks (a + 1)).length := by unfold nodesX; rw [h]; simp; omega
theorem node0 {op : Int} {v : Vl} {al fi : ByteArray} {ks : List Exp} {a : Nat} (h : (op == 0 || decide ((a : Int) > 20)) = false) : (nodesX (.mk op v al fi ks) a)[0]? = some (.mk op v al fi ks) := by unfold nodesX; rw [h]; rfl

/-! ### The same, a node, a condition -/
mutual
def sameX : Exp → Exp → Bool
  | .mk o1 v1 a1 f1 k1, .mk o2 v2 a2 f2 k2 => (o1 == o2) && (sameV v1 v2 && (same a1 a2 && (same f1 f2 && sameXs k1 k2)))
def sameXs : List Exp → List Exp → Bool
  | [], [] => true
  | x :: xs, y :: ys => sameX x y && sameXs xs ys
  | _, _ => false
end
theorem sameXs_eq : ∀ (l r : List Exp), sameXs l r = allSame sameX l r
  | [], [] => by simp [sameXs, allSame]
  | [], _ :: _ => by simp [sameXs, allSame]
  | _ :: _, [] => by simp [sameXs, allSame]
  | x :: l, y :: r => by simp [sameXs, allSame, sameXs_eq l r]
def kidsN (op : Int) : Int := bif op == 12 then 1 else bif decide (op ≥ 3) && decide (op ≤ 11) then 2 else 0
def isNodeX : Exp → Bool
  | .mk op v al fi ks =>
    bif (decide (op < 1) || decide (op > 12)) || (((ks.length : Int) != kidsN op)) then false
    else bif ks.any (fun k => k.op == 0) then false
    else bif op == 1 then isVal v && !(!(same al nul) || !(same fi nul))
    else bif op == 2 then !(!(sameV v ⟨0, 0, nul⟩)) && (isName al && isName fi)
    else !(!(sameV v ⟨0, 0, nul⟩)) && !(!(same al nul) || !(same fi nul))
def isX (x : Exp) : Bool := decide (depthX x 1 ≤ 5) && (decide ((nodesX x 1).length ≤ 24) && ((nodesX x 1).all isNodeX && decide (0 < (nodesX x 1).length)))
theorem big24 {n i : Nat} (h : i < n) (h2 : decide (IntKind.i64.wrap ((i : Int) + 1) > 24) = true) : decide (n ≤ 24) = false := by
  by_cases hb : i ≤ 140737488355328
  · rw [wrap_succ hb] at h2; simp at h2 ⊢; omega
  · simp; omega
theorem lt24 {i : Nat} (h : i ≤ 24) (h2 : decide (IntKind.i64.wrap ((i : Int) + 1) > 24) = false) : i + 1 ≤ 24 := by
  rw [wrap_succ (by omega)] at h2; simp at h2; omega
end Go.AL
