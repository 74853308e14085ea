/- Parts of an abstract logic over the kit's walks, and walks in it: Dif2. -/
import Derived.Test.YtjiknbjkbakegaaDoorDif
import Derived.Test.YtjiknbjkbakegaaDoorAe
/- What differs, as the walks tell it. -/
namespace Go.AL
set_option linter.unusedVariables false
deriving instance DecidableEq for Dl
def nmD : List ByteArray := [⟨#[119, 105, 116, 104, 105, 110]⟩, ⟨#[98, 121]⟩, ⟨#[97, 110, 121]⟩, ⟨#[101, 108, 101, 109, 115]⟩, ⟨#[97, 108, 105, 97, 115]⟩, ⟨#[116, 121, 112, 101, 115]⟩, ⟨#[112, 108, 117, 115]⟩, ⟨#[110, 111, 116]⟩, ⟨#[99, 111, 110, 100]⟩]
def textD (d : Dl) (z : ByteArray) : ByteArray :=
  bif decide (d.kind < 1) then ⟨#[110, 111, 110, 101]⟩ else bif decide (d.kind > 9) then ⟨#[110, 111, 110, 101]⟩
  else bif decide (d.kind ≥ 5) then nmD.getD (d.kind - 1).toNat nul ++ ((⟨#[32]⟩ : ByteArray) ++ z) else nmD.getD (d.kind - 1).toNat nul
theorem textD_at {d : Dl} {z : ByteArray} {k : Nat} (h : d.kind = ((k + 1 : Nat) : Int)) (h9 : k < 9) : textD d z = bif decide (d.kind ≥ 5) then nmD.getD k nul ++ ((⟨#[32]⟩ : ByteArray) ++ z) else nmD.getD k nul := by
  unfold textD
  have e1 : decide (d.kind < 1) = false := by simp; omega
  have e2 : decide (d.kind > 9) = false := by simp; omega
  have e3 : (d.kind - 1).toNat = k := by omega
  rw [e1, e2, e3]; rfl
theorem nmD_load {k : Nat} (h : k < 9) : ofCells false 1 ((nmD.map fun s => AV.d (str s)).drop k) = some (AV.d (str (nmD.getD k nul))) := by
  have : k = 0 ∨ k = 1 ∨ k = 2 ∨ k = 3 ∨ k = 4 ∨ k = 5 ∨ k = 6 ∨ k = 7 ∨ k = 8 := by omega
  rcases this with rfl | rfl | rfl | rfl | rfl | rfl | rfl | rfl | rfl <;> rfl
theorem nmD_few (k : Nat) : (nmD.getD k nul).size ≤ 10 := by
  rw [List.getD_eq_getElem?_getD]
  cases h : nmD[k]? with
  | none => show nul.size ≤ 10; decide
  | some a =>
    have := List.mem_of_getElem? h
    have hall : nmD.all (fun a => decide (a.size ≤ 10)) = true := by decide
    have := List.all_eq_true.1 hall a this
    simpa using this
def pK19 : Pat := ⟨[⟨⟨#[97]⟩, [⟨#[116]⟩], false, false, zeroX⟩], 5, nul, false⟩
def qK19 : Pat := ⟨[⟨⟨#[98]⟩, [⟨#[117]⟩], false, false, zeroX⟩], 3, nul, false⟩
def rK19 : Pat := { pK19 with within := 4 }
def dK19 : List Dl := [⟨1, 0⟩, ⟨5, 0⟩, ⟨6, 0⟩]
theorem k19a : difX (normP pK19) (normP qK19) = dK19 := by decide +kernel
theorem k19b : shrX pK19 rK19 = true := by decide +kernel
theorem k19c : shrX rK19 pK19 = false := by decide +kernel
theorem k19d : shrX pK19 pK19 = true := by decide +kernel
theorem k19e : textD ⟨9, 2⟩ ⟨#[50]⟩ = ⟨#[99, 111, 110, 100, 32, 50]⟩ := by decide +kernel
theorem k19f : textD ⟨3, 0⟩ nul = ⟨#[97, 110, 121]⟩ := by decide +kernel
theorem k19g : textD ⟨0, 0⟩ nul = ⟨#[110, 111, 110, 101]⟩ := by decide +kernel
theorem whenD_few (b : Bool) (d : Dl) : (whenD b d).length ≤ 1 := by cases b <;> simp [whenD]
theorem apD_t {b : Bool} {l : List Dl} {d : Dl} (h : b = true) : l.map encDl ++ [encDl d] = (l ++ whenD b d).map encDl := by subst h; simp [whenD]
theorem apD_f {b : Bool} {l : List Dl} {d : Dl} (h : b = false) : l.map encDl = (l ++ whenD b d).map encDl := by subst h; simp [whenD]
def ysK (l : List Bool) (s : Nat) : List (List AV) := (kindsB l s).map fun k => [AV.d (int k)]
theorem kindsB_at : ∀ {l : List Bool} {s i : Nat}, l[i]? = some true → (kindsB l s)[(kindsB (l.take i) s).length]? = some ((s + i : Nat) : Int) ∧ (kindsB (l.take (i + 1)) s).length = (kindsB (l.take i) s).length + 1
  | [], s, i, h => by simp at h
  | b :: l, s, 0, h => by
    simp at h; subst h
    simp [kindsB]
  | b :: l, s, i + 1, h => by
    have h' : l[i]? = some true := by simpa using h
    obtain ⟨h1, h2⟩ := kindsB_at (s := s + 1) h'
    have e : ((s + 1 + i : Nat) : Int) = ((s + (i + 1) : Nat) : Int) := by omega
    rw [e] at h1
    cases b with
    | true => simp only [List.take_succ_cons, kindsB, cond_true, List.length_cons, List.getElem?_cons_succ]; exact ⟨h1, by rw [h2]⟩
    | false => simp only [List.take_succ_cons, kindsB, cond_false]; exact ⟨h1, h2⟩
theorem kindsB_no : ∀ {l : List Bool} {s i : Nat}, l[i]? = some false → (kindsB (l.take (i + 1)) s).length = (kindsB (l.take i) s).length
  | [], s, i, h => by simp at h
  | b :: l, s, 0, h => by
    simp at h; subst h
    simp [kindsB]
  | b :: l, s, i + 1, h => by
    have h' : l[i]? = some false := by simpa using h
    have h2 := kindsB_no (s := s + 1) h'
    cases b with
    | true => simp only [List.take_succ_cons, kindsB, cond_true, List.length_cons]; rw [h2]
    | false => simp only [List.take_succ_cons, kindsB, cond_false]; exact h2
theorem kindsB_t {l : List Bool} {s i : Nat} {b : Bool} (h : l[i]? = some b) (hb : b = true) : (kindsB (l.take (i + 1)) s).length = (kindsB (l.take i) s).length + 1 := by subst hb; exact (kindsB_at h).2
theorem kindsB_f {l : List Bool} {s i : Nat} {b : Bool} (h : l[i]? = some b) (hb : b = false) : (kindsB (l.take (i + 1)) s).length = (kindsB (l.take i) s).length := by subst hb; exact kindsB_no h
theorem kindsB_get {l : List Bool} {s i : Nat} {b : Bool} (h : l[i]? = some b) (hb : b = true) : (ysK l s)[(kindsB (l.take i) s).length]? = some [AV.d (int ((s + i : Nat) : Int))] := by
  subst hb
  unfold ysK
  rw [List.getElem?_map, (kindsB_at h).1]; rfl
theorem kindsB_cell {l : List Bool} {i : Nat} {b : Bool} (h : l[i]? = some b) : ofCells false 1 ((l.map fun b => AV.d (boo b)).drop (((i : Nat) : Int).toNat * 1)) = some (AV.d (boo b)) := by
  have e : ((i : Nat) : Int).toNat * 1 = i := by omega
  rw [e]
  have h2 : (l.map fun b => AV.d (boo b))[i]? = some (AV.d (boo b)) := by rw [List.getElem?_map, h]; rfl
  obtain ⟨hlt, h3⟩ := List.getElem?_eq_some_iff.1 h2
  rw [List.drop_eq_getElem_cons hlt, h3]
  rfl
theorem kindsB_kf {l : List Bool} {s : Nat} : ∀ y ∈ ysK l s, kfs y = true ∧ y.length = 1 := by
  intro y hy
  simp only [ysK, List.mem_map] at hy
  obtain ⟨k, _, rfl⟩ := hy
  exact ⟨rfl, rfl⟩
theorem kindsB_of {l : List Bool} {s m : Nat} {args : List AV} (h : (ysK l s)[m]? = some args) : ∃ k, (kindsB l s)[m]? = some k ∧ args = [AV.d (int k)] := by
  simp only [ysK, List.getElem?_map, Option.map_eq_some_iff] at h
  obtain ⟨k, hk, rfl⟩ := h
  exact ⟨k, hk, rfl⟩
theorem difL_snoc {l : List Dl} {i m : Nat} {a b : El} {k : Int} (hk : (kindsB (difB a b) 5)[m]? = some k) : (l ++ (difL i a b).take m).map encDl ++ [[int k, int (i : Nat)]] = (l ++ (difL i a b).take (m + 1)).map encDl := by
  have : (difL i a b)[m]? = some ⟨k, (i : Int)⟩ := by unfold difL; rw [List.getElem?_map, hk]; rfl
  rw [List.take_add_one, this]
  simp [encDl]
theorem difs_done {l : List Dl} {P Q : List El} {i : Nat} {a b : El} (ha : P[i]? = some a) (hb : Q[i]? = some b) : l ++ difs P Q i ++ (difL i a b).take (ysK (difB a b) 5).length = l ++ difs P Q (i + 1) := by
  rw [difs_succ, difAt_some ha hb, List.take_of_length_le (by simp [difL, ysK]), List.append_assoc]
theorem onlyD_bad {l : List Dl} {i : Nat} {a : Dl} (h : l[i]? = some a) (hb : (a.kind == 1) = false) : onlyD l = false := by
  unfold onlyD
  rw [List.all_eq_false]
  exact ⟨a, List.mem_of_getElem? h, by simp [hb]⟩
theorem onlyD_all {l : List Dl} (h : ∀ (j : Nat) a, j < l.length → l[j]? = some a → (a.kind == 1) = true) : onlyD l = true := by
  unfold onlyD
  rw [List.all_eq_true]
  intro a ha
  obtain ⟨j, hj⟩ := List.getElem?_of_mem ha
  exact h j a (List.getElem?_eq_some_iff.1 hj).1 hj
end Go.AL
