/- What law 6's own functions build. Nothing of a program. -/
import Derived.Test.YthffbfjnahipcaaPat
import Derived.Test.YthffbfjnahipcaaEv
import Derived.Test.YthffbfjnahipcaaA34
namespace Go.AL
set_option linter.unusedVariables false
set_option linter.unusedSimpArgs false

/-! ### As deep as may be -/
def litX (c : Int) : Exp := .mk 1 ⟨1, c, nul⟩ nul nul []
def dOp (i : Nat) : Int := bif i == 0 then 1 else 3
def dVal (i : Nat) : Vl := bif i == 0 then ⟨1, 1, nul⟩ else ⟨0, 0, nul⟩
def dKids (full : Bool) : Nat → List Exp
  | 0 => []
  | i + 1 => [.mk (dOp i) (dVal i) nul nul (dKids full i), bif full then .mk (dOp i) (dVal i) nul nul (dKids full i) else litX 2]
def deepX (full : Bool) (i : Nat) : Exp := .mk (dOp i) (dVal i) nul nul (dKids full i)
def dN (full : Bool) (k : Nat) : Nat := bif full then 2 ^ k - 1 else 2 * k - 1
def deepT (full : Bool) (j : Nat) : Bool :=
  (isX (deepX full j) == (decide (j + 1 ≤ 5) && decide (dN full (j + 1) ≤ 24))) && (decide (depthX (deepX full j) 1 = ((j + 1 : Nat) : Int)) && decide ((nodesX (deepX full j) 1).length = dN full (j + 1)))
theorem deepT_all : ((List.range 7).all fun j => deepT true j && deepT false j) = true := by decide +kernel
theorem deepT_of {full : Bool} {j : Nat} (h : j < 7) : deepT full j = true := by
  have := List.all_eq_true.1 deepT_all j (by simpa using h)
  simp only [Bool.and_eq_true] at this
  cases full
  · exact this.2
  · exact this.1
theorem deep_is {full : Bool} {j : Nat} (h : j < 7) : isX (deepX full j) = (decide (((j + 1 : Nat) : Int) ≤ 5) && decide (((dN full (j + 1) : Nat) : Int) ≤ 24)) := by
  have h := deepT_of (full := full) h
  simp only [deepT, Bool.and_eq_true, beq_iff_eq, decide_eq_true_eq] at h
  rw [h.1]
  congr 1 <;> (apply decide_eq_decide.2; omega)
theorem deep_depth {full : Bool} {j : Nat} (h : j < 7) : depthX (deepX full j) 1 = ((j + 1 : Nat) : Int) := by
  have h := deepT_of (full := full) h
  simp only [deepT, Bool.and_eq_true, beq_iff_eq, decide_eq_true_eq] at h
  exact h.2.1
theorem deep_nodes {full : Bool} {j : Nat} (h : j < 7) : (nodesX (deepX full j) 1).length = dN full (j + 1) := by
  have h := deepT_of (full := full) h
  simp only [deepT, Bool.and_eq_true, beq_iff_eq, decide_eq_true_eq] at h
  exact h.2.2
theorem dN_le {full : Bool} {k : Nat} (h : k ≤ 7) : dN full k ≤ 127 := by
  have : (2 : Nat) ^ k ≤ 2 ^ 7 := Nat.pow_le_pow_right (by omega) h
  cases full <;> simp [dN] <;> omega

/-! ### As many parts as may be -/
def shK (k : Nat) : List Exp := (List.range k).map fun (j : Nat) => litX (j : Int)
def shN (b : Bool) (x : ByteArray) : ByteArray := bif b then x else nul
def shV (b : Bool) : Int := bif b then 1 else 0
def shX (o k : Nat) (name val : Bool) : Exp := .mk (o : Int) ⟨shV val, shV val, nul⟩ (shN name kA) (shN name kX) (shK k)
def shG (o k : Nat) (name val : Bool) : Bool := decide ((o : Int) ≥ 1) && (decide ((o : Int) ≤ 12) && (((k : Int) == kidsN (o : Int)) && ((name == ((o : Int) == 2)) && (val == ((o : Int) == 1)))))
theorem shK_snoc (i : Nat) : shK i ++ [litX (i : Int)] = shK (i + 1) := by simp [shK, List.range_succ]
theorem encXs_append (a b : List Exp) : encXs (a ++ b) = encXs a ++ encXs b := by simp [encXs_eq]
theorem shK_len (k : Nat) : (shK k).length = k := by simp [shK]
theorem encK_snoc (i : Nat) : encXs (shK i) ++ [encX (litX (i : Int))] = encXs (shK (i + 1)) := by rw [← shK_snoc, encXs_append]; rfl
theorem shT_all : ((List.range 14).all fun o => (List.range 4).all fun k => [true, false].all fun a => [true, false].all fun b => isX (shX o k a b) == shG o k a b) = true := by decide +kernel
theorem sh_ok {o k : Nat} {a b : Bool} (ho : o < 14) (hk : k < 4) : isX (shX o k a b) = shG o k a b := by
  have h1 := List.all_eq_true.1 shT_all o (by simpa using ho)
  have h2 := List.all_eq_true.1 h1 k (by simpa using hk)
  have h3 := List.all_eq_true.1 h2 a (by cases a <;> simp)
  have h4 := List.all_eq_true.1 h3 b (by cases b <;> simp)
  simpa using h4

/-! ### What a pattern may not be -/
theorem encX_len (x : Exp) : (encX x).length = 7 := by cases x; simp [encX]
theorem encL_len (e : El) : (encL e).length = 11 := by simp [encL, encX_len]
def ruA (c : Nat) (i : Nat) : ByteArray := (⟨#[UInt8.ofNat c]⟩ : ByteArray) ++ (⟨[UInt8.ofNat (97 + i)].toArray⟩ : ByteArray)
def kU : ByteArray := ⟨#[117]⟩
def kBB : ByteArray := ⟨#[66]⟩
def kAB : ByteArray := ⟨#[97, 98]⟩
def ruN (k i : Nat) : Bool := (((i % 2 : Nat) : Int) == 1) && decide ((i : Int) < ((k - 1 : Nat) : Int))
def ruE (k i : Nat) : El := ⟨ruA 97 i, [kTt, kU], false, ruN k i, zeroX⟩
def ruEs (k i : Nat) : List El := (List.range i).map (ruE k)
theorem ruEs_len (k i : Nat) : (ruEs k i).length = i := by simp [ruEs]
theorem ruEs_get {k i j : Nat} (h : j < i) : (ruEs k i)[j]? = some (ruE k j) := by simp [ruEs, h]
theorem ruEs_snoc (k i : Nat) : (ruEs k i).map encL ++ [encL (ruE k i)] = (ruEs k (i + 1)).map encL := by simp [ruEs, List.range_succ]
def ruP (k : Nat) : Pat := ⟨ruEs k k, 10, nul, false⟩
def ruS (k : Nat) (c : Nat) : List El :=
  match c with
  | 0 => (ruEs k k).set 0 { ruE k 0 with neg := true }
  | 1 => (ruEs k k).set (k - 1) { ruE k (k - 1) with neg := true }
  | 2 => (ruEs k k).set 0 { ruE k 0 with tys := [kU, kTt] }
  | 3 => (ruEs k k).set 0 { ruE k 0 with al := kAB }
  | 6 => (ruEs k k).set 0 { ruE k 0 with tys := [] }
  | 7 => (ruEs k k).set 0 { ruE k 0 with plus := true }
  | _ => ruEs k k
def ruW (c : Nat) : Int := bif c == 4 then 1001 else 10
def ruY (c : Nat) : ByteArray := bif c == 5 then kBB else nul
def ruQ (k c : Nat) : Pat := ⟨ruS k c, ruW c, ruY c, c == 8⟩
def ruB (k c : Nat) : Bool := bif c == 3 then decide ((k : Int) > 1) else decide (c < 7)
theorem ruT_all : ((List.range 5).all fun k => isPat (ruP (k + 1)) && (List.range 9).all fun c => isPat (ruQ (k + 1) c) == !ruB (k + 1) c) = true := by decide +kernel
theorem ru_good {k : Nat} (h1 : 1 ≤ k) (h5 : k ≤ 5) : isPat (ruP k) = true := by
  obtain ⟨j, rfl⟩ : ∃ j, k = j + 1 := ⟨k - 1, by omega⟩
  have h := List.all_eq_true.1 ruT_all j (by simp; omega)
  simp only [Bool.and_eq_true] at h
  exact h.1
theorem ru_bad {k c : Nat} (h1 : 1 ≤ k) (h5 : k ≤ 5) (hc : c < 9) : isPat (ruQ k c) = !ruB k c := by
  obtain ⟨j, rfl⟩ : ∃ j, k = j + 1 := ⟨k - 1, by omega⟩
  have h := List.all_eq_true.1 ruT_all j (by simp; omega)
  simp only [Bool.and_eq_true] at h
  have h := List.all_eq_true.1 h.2 c (by simpa using hc)
  simpa using h
theorem ruS_len (k c : Nat) : (ruS k c).length = k := by unfold ruS; split <;> simp [ruEs_len]
theorem map_len11 {l : List El} : ∀ x ∈ l.map encL, x.length = 11 := by
  intro x hx
  obtain ⟨e, _, rfl⟩ := List.mem_map.1 hx
  exact encL_len e

/-! ### As many elements as may be -/
def liT (j : Nat) : List ByteArray := (List.range j).map (ruA 116)
def liE (j i : Nat) : El := ⟨ruA 97 i, liT j, false, false, zeroX⟩
def liEs (j k : Nat) : List El := (List.range k).map (liE j)
def liP (j k : Nat) (w : Int) : Pat := ⟨liEs j k, w, nul, false⟩
def liG (j k : Nat) (w : Int) : Bool := decide ((k : Int) ≥ 1) && (decide ((k : Int) ≤ 5) && (decide ((j : Int) ≥ 1) && (decide ((j : Int) ≤ 3) && (decide (w ≥ 0) && decide (w ≤ 1000)))))
theorem liT_len (j : Nat) : (liT j).length = j := by simp [liT]
theorem liEs_len (j k : Nat) : (liEs j k).length = k := by simp [liEs]
theorem liT_snoc (j : Nat) : (liT j).map encB ++ [encB (ruA 116 j)] = (liT (j + 1)).map encB := by simp [liT, List.range_succ]
theorem liEs_snoc (j k : Nat) : (liEs j k).map encL ++ [encL (liE j k)] = (liEs j (k + 1)).map encL := by simp [liEs, List.range_succ]
theorem liT_all : ((List.range 7).all fun k => (List.range 5).all fun j => isPat (liP j k 0) == liG j k 0) = true := by decide +kernel
theorem isPat_within (els : List El) (w : Int) : isPat ⟨els, w, nul, false⟩ = (isPat ⟨els, 0, nul, false⟩ && (decide (w ≥ 0) && decide (w ≤ 1000))) := by
  have h1 : elsOk ⟨els, w, nul, false⟩ = elsOk ⟨els, 0, nul, false⟩ := rfl
  have h2 : ∀ i, negAt ⟨els, w, nul, false⟩ i = negAt ⟨els, 0, nul, false⟩ i := fun _ => rfl
  have h3 : decide (w ≥ 0) = !decide (w < 0) := by by_cases h : w < 0 <;> simp [h] <;> omega
  have h4 : decide (w ≤ 1000) = !decide (w > 1000) := by by_cases h : w > 1000 <;> simp [h] <;> omega
  unfold isPat
  rw [h1, h3, h4]
  unfold headP
  simp only [h2]
  rw [show decide ((0 : Int) < 0) = false from rfl, show decide ((0 : Int) > 1000) = false from rfl]
  generalize (!(!same nul nul && !isName nul)) = z
  generalize decide (w < 0) = a
  generalize decide (w > 1000) = b
  generalize elsOk _ = c
  generalize negAt _ _ = d
  generalize negAt _ _ = e
  generalize (!decide ((els.length : Int) < 1)) = f
  generalize (!decide ((els.length : Int) > 5)) = g
  cases a <;> cases b <;> cases c <;> cases d <;> cases e <;> cases f <;> cases g <;> cases z <;> rfl
theorem li_ok {j k : Nat} {w : Int} (hj : j < 5) (hk : k < 7) : isPat (liP j k w) = liG j k w := by
  have h := List.all_eq_true.1 liT_all k (by simpa using hk)
  have h := List.all_eq_true.1 h j (by simpa using hj)
  have h : isPat (liP j k 0) = liG j k 0 := by simpa using h
  have e : isPat (liP j k w) = (isPat (liP j k 0) && (decide (w ≥ 0) && decide (w ≤ 1000))) := isPat_within _ _
  rw [e, h]
  unfold liG
  simp [Bool.and_assoc]
end Go.AL
