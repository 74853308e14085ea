/- Parts of an abstract logic over the kit's walks, and walks in it: Mean. -/
import Derived.Test.YthffbfjnahipcaaNrm2
import Derived.Test.YthffbfjnahipcaaBa
/- What the document tells of conditions: values and kinds (pasternref6). Plain data; nothing of a program. -/
namespace Go.AL
set_option linter.unusedVariables false
set_option linter.unusedSimpArgs false

def refOver (op a b : Int) : Int × Bool :=
  bif op == 3 then (wr (a + b), decide (b ≥ 0) == decide (wr (a + b) ≥ a))
  else bif op == 4 then (wr (a - b), decide (b ≥ 0) == decide (wr (a - b) ≤ a))
  else bif a == 0 || b == 0 then (0, true)
  else bif (a == -1 && b == minI) || (b == -1 && a == minI) then (0, false)
  else (wr (a * b), wr ((wr (a * b)).tdiv b) == a)
def refTwo (op : Int) (a b : Vl) : Vl × Int :=
  bif a.k != b.k then (nulV, 14)
  else bif decide (op ≤ 5) && a.k == 1 then (bif !(refOver op a.n b.n).2 then (nulV, 16) else (⟨1, (refOver op a.n b.n).1, nul⟩, 0))
  else bif op == 6 then (truthV (sameV a b), 0)
  else bif op == 7 then (truthV (!sameV a b), 0)
  else bif op == 8 && a.k != 3 then (truthV (decide (a.n < b.n) || less a.s b.s), 0)
  else bif op == 9 && a.k != 3 then (truthV (decide (a.n < b.n) || (less a.s b.s || sameV a b)), 0)
  else (nulV, 14)
/-- What a sign tells of what its parts tell. -/
def finR (op : Int) : List (Vl × Int) → Vl × Int
  | [] => (nulV, 14)
  | r0 :: rest =>
    bif r0.2 != 0 then (nulV, r0.2)
    else bif op == 10 || op == 11 then
      (bif r0.1.k != 3 then (nulV, 14) else bif (r0.1.n == 1) == (op == 11) then (r0.1, 0)
       else match rest with
        | [] => (nulV, 14)
        | r1 :: _ => bif r1.2 == 0 && r1.1.k != 3 then (nulV, 14) else bif r1.2 != 0 then (nulV, r1.2) else (r1.1, 0))
    else bif op == 12 then (bif r0.1.k != 3 then (nulV, 14) else (truthV (r0.1.n == 0), 0))
    else match rest with
      | [] => (nulV, 14)
      | r1 :: _ => bif r1.2 != 0 then (nulV, r1.2) else refTwo op r0.1 r1.1
mutual
def evR (s : List Ty) (l : List Bi) : Exp → Vl × Int
  | .mk op v al fi ks => bif op == 1 then (v, 0) else bif op == 2 then fieldV s l al fi else finR op (evRs s l ks)
def evRs (s : List Ty) (l : List Bi) : List Exp → List (Vl × Int)
  | [] => []
  | k :: ks => evR s l k :: evRs s l ks
end
theorem evRs_eq (s : List Ty) (l : List Bi) : ∀ ks : List Exp, evRs s l ks = ks.map (evR s l)
  | [] => by simp [evRs]
  | k :: ks => by simp [evRs, evRs_eq s l ks]
def evalR (s : List Ty) (x : Exp) (l : List Bi) : Vl × Int := bif isX x then evR s l x else (nulV, 10)

/-! ### kinds -/
def badF (s : List Ty) (nm t : ByteArray) : Bool := !(findT s t).2 || decide (fieldAt (findT s t).1 nm < 0)
def kindF (s : List Ty) (nm t : ByteArray) : Int := (((findT s t).1.fields)[(fieldAt (findT s t).1 nm).toNat]?.map (·.kind)).getD 0
/-- The last kind, if all are one. -/
def oneK : List Int → Int → Bool → Int × Int
  | [], k, _ => (k, 0)
  | x :: xs, k, first => bif !first && x != k then (0, 14) else oneK xs x false
def fkR (s : List Ty) (tys : List ByteArray) (nm : ByteArray) : Int × Int := bif tys.any (badF s nm) then (0, 13) else oneK (tys.map (kindF s nm)) 0 true
def finKR (op k0 k1 : Int) : Int × Int :=
  bif op == 12 && k0 == 3 then (3, 0) else bif op == 12 || k0 != k1 then (0, 14)
  else bif decide (op ≤ 5) && k0 == 1 then (1, 0) else bif op == 6 || op == 7 then (3, 0)
  else bif (op == 8 || op == 9) && k0 != 3 then (3, 0) else bif (op == 10 || op == 11) && k0 == 3 then (3, 0) else (0, 14)
mutual
def kR (s : List Ty) (l : List El) : Exp → Int × Int
  | .mk op v al fi ks =>
    bif op == 1 then (v.k, 0)
    else bif op == 2 then (match l.findIdx? (fun e => same e.al al) with
      | none => (0, 13)
      | some i => match l[i]? with
        | some e => fkR s e.tys fi
        | none => (0, 13))
    else bif (kRs s l ks).2 != 0 then (0, (kRs s l ks).2) else finKR op ((kRs s l ks).1.getD 0 0) ((kRs s l ks).1.getD 1 0)
def kRs (s : List Ty) (l : List El) : List Exp → List Int × Int
  | [] => ([], 0)
  | k :: ks => bif (kR s l k).2 != 0 then ([], (kR s l k).2) else bif (kRs s l ks).2 != 0 then ([], (kRs s l ks).2) else ((kR s l k).1 :: (kRs s l ks).1, 0)
end
def kindR (s : List Ty) (l : List El) (x : Exp) : Int × Int := bif isX x then kR s l x else (0, 10)
def kindsAs : List Vl → List Fld → Bool
  | [], [] => true
  | v :: vs, f :: fs => v.k == f.kind && kindsAs vs fs
  | _, _ => false
/-- An event of a schema: 0, 13, 10, 14. -/
def evtR (s : List Ty) (e : Ev) : Int :=
  bif !(findT s e.ty).2 then 13
  else bif decide (e.ts < 0) || (decide (e.ts > 1073741824) || ((e.vals.length : Int) != ((findT s e.ty).1.fields.length : Int))) then 10
  else bif !(e.vals.all isVal) then 10
  else bif kindsAs e.vals (findT s e.ty).1.fields then 0 else 14
theorem findT_at {s : List Ty} {nm : ByteArray} {i : Nat} {t : Ty} (h : s[i]? = some t) (hs : same t.name nm = true) (hn : ∀ (j : Nat) (a : Ty), j < i → s[j]? = some a → same a.name nm = false) : findT s nm = (t, true) := by
  have e := idx_some (p := fun t : Ty => same t.name nm) h hs hn
  obtain ⟨i', a, h1, h2, h3⟩ := find_pos (s := s) (nm := nm) (by rw [e]; simp)
  rw [h1] at e
  have : i' = i := by omega
  subst this
  rw [h2] at h
  cases h
  exact h3
theorem findT_no {s : List Ty} {nm : ByteArray} (hn : ∀ (j : Nat) (a : Ty), j < s.length → s[j]? = some a → same a.name nm = false) : findT s nm = (zeroT, false) := by
  have e := idx_none (p := fun t : Ty => same t.name nm) hn
  exact find_neg (by rw [e]; rfl)
def amongB (l : List ByteArray) (s : ByteArray) : Bool := l.any fun t => same t s
end Go.AL
