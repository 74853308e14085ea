/- Parts of an abstract logic over the kit's walks, and walks in it: Dec. -/
import Derived.Test.YtjiknbjkbakegaaDoorDif3
import Derived.Test.YtjiknbjkbakegaaDoorAf
import Derived.Lib.ItoaNum
/- Decimal digits. -/
namespace Go.AL
set_option linter.unusedVariables false
theorem decD_small {u : Nat} (h : u < 10) : Lib.decDigits u = [UInt8.ofNat (48 + u)] := by rw [Lib.decDigits, dif_pos h]
theorem decD_big {u : Nat} (h : ¬ u < 10) : Lib.decDigits u = Lib.decDigits (u / 10) ++ [UInt8.ofNat (48 + u % 10)] := by rw [Lib.decDigits, dif_neg h]
theorem decD_len : ∀ (k u : Nat), u < 10 ^ (k + 1) → (Lib.decDigits u).length ≤ k + 1
  | 0, u, h => by rw [decD_small (by simpa using h)]; simp
  | k + 1, u, h => by
    by_cases h10 : u < 10
    · rw [decD_small h10]; simp
    · rw [decD_big h10, List.length_append]
      have : u / 10 < 10 ^ (k + 1) := by
        rw [Nat.div_lt_iff_lt_mul (by omega)]
        rw [Nat.pow_succ] at h
        exact h
      have := decD_len k (u / 10) this
      simp; omega
theorem decD_few {u : Nat} (h : u < 18446744073709551616) : (Lib.decDigits u).length ≤ 20 := decD_len 19 u (by omega)
theorem wrapU {n : Nat} (h : n < 18446744073709551616) : IntKind.u64.wrap (n : Int) = (n : Int) :=
  wrap_id _ _ (by have : IntKind.u64.min = 0 := rfl; omega) (by have : IntKind.u64.max = 18446744073709551615 := rfl; omega)
theorem bytes_append (a b : List UInt8) : (⟨a.toArray⟩ : ByteArray) ++ ⟨b.toArray⟩ = ⟨(a ++ b).toArray⟩ := by
  apply ByteArray.ext
  simp [ByteArray.data_append]
theorem itoa_few {z : Int} (h : -9223372036854775808 ≤ z ∧ z ≤ 9223372036854775807) : (Lib.itoa z).length ≤ 21 := by
  unfold Lib.itoa
  split
  · have := decD_few (u := z.natAbs) (by omega)
    simp; omega
  · have := decD_few (u := z.toNat) (by omega)
    omega
theorem nmD_load' {k : Nat} (h : k < 9) : ofCells false 1 (((nul :: nmD).map fun s => AV.d (str s)).drop ((((k + 1 : Nat) : Int)).toNat * 1)) = some (AV.d (str (nmD.getD k nul))) := by
  have e : (((k + 1 : Nat) : Int)).toNat * 1 = k + 1 := by omega
  rw [e]
  exact nmD_load h
/-- The document's words: nothing differs, or the window alone. -/
def shrR (l : List Dl) (b : Bool) : Bool := match l with
  | [] => true
  | [d] => (d.kind == 1) && b
  | _ => false
theorem shrR_no {l : List Dl} {b : Bool} (h0 : l.length ≠ 0) (h1 : l.length ≠ 1) : shrR l b = false := by
  match l with
  | [] => simp at h0
  | [d] => simp at h1
  | d :: e :: r => rfl
theorem kindsB_ge : ∀ {l : List Bool} {s : Nat} {k : Int}, k ∈ kindsB l s → (s : Int) ≤ k
  | [], s, k, h => by simp [kindsB] at h
  | b :: l, s, k, h => by
    cases b with
    | true =>
      simp only [kindsB, cond_true, List.mem_cons] at h
      rcases h with rfl | h
      · omega
      · have := kindsB_ge h; omega
    | false =>
      simp only [kindsB, cond_false] at h
      have := kindsB_ge h; omega
theorem difs_kind {P Q : List El} {i : Nat} {d : Dl} (h : d ∈ difs P Q i) : 5 ≤ d.kind := by
  unfold difs at h
  obtain ⟨j, _, hj⟩ := List.mem_flatMap.1 h
  unfold difAt at hj
  split at hj
  · unfold difL at hj
    obtain ⟨k, hk, rfl⟩ := List.mem_map.1 hj
    have := kindsB_ge hk
    simpa using this
  · simp at hj
/-- All but the first differ in something but the window. -/
theorem difX_tail (p q : Pat) : ∃ r, difX p q = whenD (!(p.within == q.within)) ⟨1, 0⟩ ++ r ∧ ∀ d ∈ r, (d.kind == 1) = false := by
  have hw : ∀ (b : Bool) (k : Int), k ≠ 1 → ∀ d ∈ whenD b ⟨k, 0⟩, (d.kind == 1) = false := by
    intro b k hk d hd
    cases b with
    | true => simp [whenD] at hd; subst hd; simpa using hk
    | false => simp [whenD] at hd
  have hr : ∀ l : List Dl, (∀ d ∈ l, (d.kind == 1) = false) → ∀ d ∈ whenD (!same p.byf q.byf) ⟨2, 0⟩ ++ (whenD (!(p.any == q.any)) ⟨3, 0⟩ ++ l), (d.kind == 1) = false := by
    intro l hl d hd
    simp only [List.mem_append] at hd
    rcases hd with hd | hd | hd
    · exact hw _ 2 (by decide) d hd
    · exact hw _ 3 (by decide) d hd
    · exact hl d hd
  unfold difX difH
  cases (p.els.length == q.els.length) with
  | true => exact ⟨_, by simp only [cond_true, List.append_assoc]; rfl, hr _ fun d hd => by have := difs_kind hd; simp; omega⟩
  | false => exact ⟨_, by simp only [cond_false, List.append_assoc]; rfl, hr _ fun d hd => by simp at hd; subst hd; rfl⟩
theorem shr_same (p q : Pat) : shrR (difX (normP p) (normP q)) (decide (q.within ≤ p.within)) = shrX p q := by
  unfold shrX
  obtain ⟨r, hx, hr⟩ := difX_tail (normP p) (normP q)
  have hwi : (normP p).within = p.within ∧ (normP q).within = q.within := ⟨rfl, rfl⟩
  rw [hx]
  rw [hwi.1, hwi.2]
  cases hb : (p.within == q.within) with
  | true =>
    have e : p.within = q.within := by simpa using hb
    have hle : decide (q.within ≤ p.within) = true := by simp [e]
    rw [hle]
    cases r with
    | nil => rfl
    | cons d r =>
      have hd := hr d (by simp)
      cases r with
      | nil => simp [whenD, shrR, onlyD, hd]
      | cons d2 r => simp [whenD, shrR, onlyD, hd]
  | false =>
    cases r with
    | nil => simp [whenD, shrR, onlyD]
    | cons d r =>
      have hd := hr d (by simp)
      simp [whenD, shrR, onlyD, hd]
end Go.AL
