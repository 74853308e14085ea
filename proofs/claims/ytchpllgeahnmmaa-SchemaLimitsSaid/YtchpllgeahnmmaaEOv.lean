/- Parts of an abstract logic over the kit's walks, and walks in it: EOv. -/
import Derived.Test.YtchpllgeahnmmaaBa
/- Sums, differences, products by halves of 128 bits. Nothing of a program. -/
namespace Go.AL
set_option linter.unusedVariables false
set_option linter.unusedSimpArgs false
def wu (n : Int) : Int := IntKind.u64.wrap n
theorem wu_eq (n : Int) : wu n = n % 18446744073709551616 := by simp [wu, IntKind.wrap, IntKind.signed, IntKind.bits]
theorem wr_eq (n : Int) : wr n = (n + 9223372036854775808) % 18446744073709551616 - 9223372036854775808 := by
  simp only [wr, IntKind.wrap, IntKind.signed, IntKind.bits]
  simp
  split <;> omega
def in64 (a : Int) : Prop := -9223372036854775808 ≤ a ∧ a ≤ 9223372036854775807
def b63 (n : Int) : Int := n.fdiv (2 ^ 63)
def b32 (n : Int) : Int := n.fdiv (2 ^ 32)
theorem b63_eq (n : Int) : b63 n = n / 9223372036854775808 := by unfold b63; rw [Int.fdiv_eq_ediv_of_nonneg _ (by decide)]; rfl
theorem b32_eq (n : Int) : b32 n = n / 4294967296 := by unfold b32; rw [Int.fdiv_eq_ediv_of_nonneg _ (by decide)]; rfl
def fitsX (hi lo : Int) : Bool := hi == b63 (wr lo)
def addLo (a b : Int) : Int := wu (wu a + wu b)
def addHi (a b : Int) : Int := bif decide (addLo a b < wu a) then wr (wr (b63 a + b63 b) + 1) else wr (b63 a + b63 b)
def subLo (a b : Int) : Int := wu (wu a - wu b)
def subHi (a b : Int) : Int := bif decide (wu a < wu b) then wr (wr (b63 a - b63 b) - 1) else wr (b63 a - b63 b)
def lo32 (n : Int) : Int := n % ((2 ^ 32 : Nat) : Int)
theorem lo32_eq (n : Int) : lo32 n = n % 4294967296 := rfl
def mulT (a b : Int) : Int := wu (wu (b32 (wu a) * lo32 (wu b)) + b32 (wu (lo32 (wu a) * lo32 (wu b))))
def mulW (a b : Int) : Int := wu (lo32 (mulT a b) + wu (lo32 (wu a) * b32 (wu b)))
def mulLo (a b : Int) : Int := wu (wu a * wu b)
def mulH (a b : Int) : Int := wu (wu (wu (b32 (wu a) * b32 (wu b)) + b32 (mulT a b)) + b32 (mulW a b))
def mulH1 (a b : Int) : Int := bif decide (a < 0) then wu (mulH a b - wu b) else mulH a b
def mulH2 (a b : Int) : Int := bif decide (b < 0) then wu (mulH1 a b - wu a) else mulH1 a b
def mulHi (a b : Int) : Int := wr (mulH2 a b)
def ovLo (o a b : Int) : Int := bif o == 3 then addLo a b else bif o == 4 then subLo a b else mulLo a b
def ovHi (o a b : Int) : Int := bif o == 3 then addHi a b else bif o == 4 then subHi a b else mulHi a b

theorem range64 {n : Int} (h : in64 n) : wr n = n := by unfold in64 at h; rw [wr_eq]; omega
theorem sum_ok {a b : Int} (ha : in64 a) (hb : in64 b) : (sumX a b).2 = fitsX (addHi a b) (addLo a b) ∧ ((sumX a b).2 = true → (sumX a b).1 = wr (addLo a b)) := by
  unfold in64 at ha hb
  have e1 : fitsX (addHi a b) (addLo a b) = decide (-9223372036854775808 ≤ a + b ∧ a + b ≤ 9223372036854775807) := by
    unfold fitsX addHi
    cases hc : decide (addLo a b < wu a) <;> simp only [hc, cond_true, cond_false] <;> simp only [decide_eq_true_eq, decide_eq_false_iff_not] at hc <;>
      rw [Bool.eq_iff_iff] <;> simp only [beq_iff_eq, decide_eq_true_eq] <;> simp only [addLo, wu_eq, wr_eq, b63_eq] at hc ⊢ <;> omega
  have e2 : ((decide (b > 0) && decide (a > wr (maxI - b))) || (decide (b < 0) && decide (a < wr (minI - b)))) = !decide (-9223372036854775808 ≤ a + b ∧ a + b ≤ 9223372036854775807) := by
    rw [Bool.eq_iff_iff]
    simp only [Bool.or_eq_true, Bool.and_eq_true, decide_eq_true_eq, Bool.not_eq_true', decide_eq_false_iff_not, wr_eq, maxI, minI]
    omega
  rw [e1]
  unfold sumX
  rw [e2]
  by_cases h : -9223372036854775808 ≤ a + b ∧ a + b ≤ 9223372036854775807
  · rw [decide_eq_true h]
    refine ⟨rfl, fun _ => ?_⟩
    show wr (a + b) = _
    simp only [addLo, wu_eq, wr_eq]; omega
  · rw [decide_eq_false h]
    exact ⟨rfl, fun h => by cases h⟩
theorem diff_ok {a b : Int} (ha : in64 a) (hb : in64 b) : (diffX a b).2 = fitsX (subHi a b) (subLo a b) ∧ ((diffX a b).2 = true → (diffX a b).1 = wr (subLo a b)) := by
  unfold in64 at ha hb
  have e1 : fitsX (subHi a b) (subLo a b) = decide (-9223372036854775808 ≤ a - b ∧ a - b ≤ 9223372036854775807) := by
    unfold fitsX subHi
    cases hc : decide (wu a < wu b) <;> simp only [hc, cond_true, cond_false] <;> simp only [decide_eq_true_eq, decide_eq_false_iff_not] at hc <;>
      rw [Bool.eq_iff_iff] <;> simp only [beq_iff_eq, decide_eq_true_eq] <;> simp only [subLo, wu_eq, wr_eq, b63_eq] at hc ⊢ <;> omega
  have e2 : ((decide (b < 0) && decide (a > wr (maxI + b))) || (decide (b > 0) && decide (a < wr (minI + b)))) = !decide (-9223372036854775808 ≤ a - b ∧ a - b ≤ 9223372036854775807) := by
    rw [Bool.eq_iff_iff]
    simp only [Bool.or_eq_true, Bool.and_eq_true, decide_eq_true_eq, Bool.not_eq_true', decide_eq_false_iff_not, wr_eq, maxI, minI]
    omega
  rw [e1]
  unfold diffX
  rw [e2]
  by_cases h : -9223372036854775808 ≤ a - b ∧ a - b ≤ 9223372036854775807
  · rw [decide_eq_true h]
    refine ⟨rfl, fun _ => ?_⟩
    show wr (a - b) = _
    simp only [subLo, wu_eq, wr_eq]; omega
  · rw [decide_eq_false h]
    exact ⟨rfl, fun h => by cases h⟩

/-! ### Products -/
theorem mul_le {x y m n : Int} (h0 : 0 ≤ x) (h1 : x ≤ m) (h2 : 0 ≤ y) (h3 : y ≤ n) : 0 ≤ x * y ∧ x * y ≤ m * n :=
  ⟨Int.mul_nonneg h0 h2, Int.mul_le_mul h1 h3 h2 (by omega)⟩
/-- The upper half of a product of two words. -/
theorem high_ok {A B : Int} (hA : 0 ≤ A ∧ A < 18446744073709551616) (hB : 0 ≤ B ∧ B < 18446744073709551616) {t w : Int}
    (ht : t = wu (wu (b32 A * lo32 B) + b32 (wu (lo32 A * lo32 B)))) (hw : w = wu (lo32 t + wu (lo32 A * b32 B))) :
    wu (wu (wu (b32 A * b32 B) + b32 t) + b32 w) = A * B / 18446744073709551616 := by
  obtain ⟨x0, hx0⟩ : ∃ x, lo32 A = x := ⟨_, rfl⟩
  obtain ⟨x1, hx1⟩ : ∃ x, b32 A = x := ⟨_, rfl⟩
  obtain ⟨y0, hy0⟩ : ∃ x, lo32 B = x := ⟨_, rfl⟩
  obtain ⟨y1, hy1⟩ : ∃ x, b32 B = x := ⟨_, rfl⟩
  rw [hx0, hx1, hy0] at ht
  rw [hx0, hy1] at hw
  rw [hx1, hy1]
  rw [lo32_eq] at hx0 hy0
  rw [b32_eq] at hx1 hy1
  have eA : A = x1 * 4294967296 + x0 := by omega
  have eB : B = y1 * 4294967296 + y0 := by omega
  have h00 := mul_le (x := x0) (y := y0) (m := 4294967295) (n := 4294967295) (by omega) (by omega) (by omega) (by omega)
  have h01 := mul_le (x := x0) (y := y1) (m := 4294967295) (n := 4294967295) (by omega) (by omega) (by omega) (by omega)
  have h10 := mul_le (x := x1) (y := y0) (m := 4294967295) (n := 4294967295) (by omega) (by omega) (by omega) (by omega)
  have h11 := mul_le (x := x1) (y := y1) (m := 4294967295) (n := 4294967295) (by omega) (by omega) (by omega) (by omega)
  have eP : A * B = x1 * y1 * 18446744073709551616 + (x0 * y1 + x1 * y0) * 4294967296 + x0 * y0 := by
    rw [eA, eB]
    simp only [Int.add_mul, Int.mul_add]
    rw [show x1 * 4294967296 * (y1 * 4294967296) = x1 * y1 * 18446744073709551616 by rw [Int.mul_assoc, Int.mul_left_comm 4294967296, Int.mul_assoc x1 y1]; rfl]
    rw [show x1 * 4294967296 * y0 = x1 * y0 * 4294967296 by rw [Int.mul_right_comm], show x0 * (y1 * 4294967296) = x0 * y1 * 4294967296 by rw [Int.mul_assoc]]
    omega
  rw [eP]
  generalize x0 * y0 = p00 at *
  generalize x0 * y1 = p01 at *
  generalize x1 * y0 = p10 at *
  generalize x1 * y1 = p11 at *
  clear eA eB hA hB eP
  simp only [wu_eq, b32_eq, lo32_eq] at ht hw ⊢
  omega
theorem prod_range {a b : Int} (ha : in64 a) (hb : in64 b) : -85070591730234615865843651857942052864 ≤ a * b ∧ a * b ≤ 85070591730234615865843651857942052864 := by
  unfold in64 at ha hb
  have key : ∀ x y : Int, 0 ≤ x → x ≤ 9223372036854775808 → 0 ≤ y → y ≤ 9223372036854775808 → 0 ≤ x * y ∧ x * y ≤ 85070591730234615865843651857942052864 := fun x y h1 h2 h3 h4 => by
    have := mul_le h1 h2 h3 h4
    simpa using this
  rcases Int.le_total 0 a with h | h <;> rcases Int.le_total 0 b with h' | h'
  · have := key a b h (by omega) h' (by omega); omega
  · have := key a (-b) h (by omega) (by omega) (by omega); rw [Int.mul_neg] at this; omega
  · have := key (-a) b (by omega) (by omega) h' (by omega); rw [Int.neg_mul] at this; omega
  · have := key (-a) (-b) (by omega) (by omega) (by omega) (by omega); rw [Int.neg_mul_neg] at this; omega
/-- Both halves of a product of two signed numbers. -/
theorem mulHi_ok {a b : Int} (ha : in64 a) (hb : in64 b) : mulHi a b = a * b / 18446744073709551616 ∧ mulLo a b = a * b % 18446744073709551616 := by
  have hr := prod_range ha hb
  unfold in64 at ha hb
  have hA : 0 ≤ wu a ∧ wu a < 18446744073709551616 := by rw [wu_eq]; omega
  have hB : 0 ≤ wu b ∧ wu b < 18446744073709551616 := by rw [wu_eq]; omega
  have hh : mulH a b = wu a * wu b / 18446744073709551616 := high_ok hA hB rfl rfl
  have eA : wu a = bif decide (a < 0) then a + 18446744073709551616 else a := by
    cases h : decide (a < 0) <;> simp at h <;> simp only [cond_true, cond_false, wu_eq] <;> omega
  have eB : wu b = bif decide (b < 0) then b + 18446744073709551616 else b := by
    cases h : decide (b < 0) <;> simp at h <;> simp only [cond_true, cond_false, wu_eq] <;> omega
  unfold mulHi mulH2 mulH1 mulLo
  rw [hh]
  cases h1 : decide (a < 0) <;> cases h2 : decide (b < 0) <;> rw [h1] at eA <;> rw [h2] at eB <;> simp only [cond_true, cond_false] at eA eB ⊢ <;> rw [eA, eB] <;> (try simp only [Int.add_mul, Int.mul_add]) <;>
    generalize a * b = p at hr ⊢ <;> simp only [wu_eq, wr_eq] <;> clear hh eA eB hA hB h1 h2 <;> constructor <;> first | omega | rfl | simp
theorem prod_ok {a b : Int} (ha : in64 a) (hb : in64 b) : (prodX a b).2 = fitsX (mulHi a b) (mulLo a b) ∧ ((prodX a b).2 = true → (prodX a b).1 = wr (mulLo a b)) := by
  obtain ⟨h1, h2⟩ := mulHi_ok ha hb
  have e1 : fitsX (mulHi a b) (mulLo a b) = decide (-9223372036854775808 ≤ a * b ∧ a * b ≤ 9223372036854775807) := by
    unfold fitsX
    rw [h1, h2, Bool.eq_iff_iff]
    simp only [beq_iff_eq, decide_eq_true_eq, b63_eq, wr_eq]
    generalize a * b = p
    omega
  have e3 : wr (mulLo a b) = wr (a * b) := by rw [h2]; simp only [wr_eq]; omega
  rw [e1, e3]
  unfold prodX
  cases h0 : (a == 0 || b == 0) with
  | true =>
    have : a * b = 0 := by
      simp only [Bool.or_eq_true, beq_iff_eq] at h0
      rcases h0 with h | h <;> simp [h]
    rw [this]
    exact ⟨rfl, fun _ => rfl⟩
  | false =>
    simp only [Bool.or_eq_false_iff, beq_eq_false_iff_ne] at h0
    obtain ⟨ha0, hb0⟩ := h0
    have key : ((wr ((wr (a * b)).tdiv b) != a) || ((a == -1 && b == minI) || (b == -1 && a == minI))) = !decide (-9223372036854775808 ≤ a * b ∧ a * b ≤ 9223372036854775807) := by
      by_cases h : -9223372036854775808 ≤ a * b ∧ a * b ≤ 9223372036854775807
      · rw [decide_eq_true h, range64 (n := a * b) h, Int.mul_tdiv_cancel _ hb0, range64 ha]
        simp only [bne_self_eq_false, Bool.false_or, Bool.not_true, Bool.or_eq_false_iff, Bool.and_eq_false_iff, beq_eq_false_iff_ne]
        constructor
        · by_cases h3 : a = -1
          · right; intro h4; rw [h3, h4] at h; simp [minI] at h
          · left; exact h3
        · by_cases h3 : b = -1
          · right; intro h4; rw [h3, h4] at h; simp [minI] at h
          · left; exact h3
      · rw [decide_eq_false h]
        simp only [Bool.not_false]
        by_cases hs : (a == -1 && b == minI) || (b == -1 && a == minI)
        · rw [hs]; simp
        · have hs' : ((a == -1 && b == minI) || (b == -1 && a == minI)) = false := by simpa using hs
          rw [hs']
          simp only [Bool.or_false, bne_iff_ne, ne_eq]
          intro hc
          have hcr : in64 (wr (a * b)) := by unfold in64; rw [wr_eq]; omega
          have hne : wr (a * b) ≠ a * b := by
            intro e; rw [e] at hcr; exact h hcr
          have hmod : ∃ k : Int, wr (a * b) = a * b + k * 18446744073709551616 := by
            refine ⟨-((a * b + 9223372036854775808) / 18446744073709551616), ?_⟩
            rw [wr_eq]; omega
          obtain ⟨k, hk⟩ := hmod
          have hk0 : k ≠ 0 := by intro e; rw [e] at hk; simp at hk; exact hne hk
          unfold in64 at ha hb hcr
          -- the quotient
          have hq : ∃ r : Int, wr (a * b) = b * ((wr (a * b)).tdiv b) + r ∧ -9223372036854775808 < r ∧ r < 9223372036854775808 := by
            have h6 : ((wr (a * b)).tmod b).natAbs < b.natAbs := by rw [Int.natAbs_tmod]; exact Nat.mod_lt _ (by omega)
            exact ⟨(wr (a * b)).tmod b, (Int.mul_tdiv_add_tmod _ _).symm, by omega, by omega⟩
          obtain ⟨r, hr1, hr2, hr3⟩ := hq
          by_cases h7 : in64 ((wr (a * b)).tdiv b)
          · rw [range64 h7] at hc
            rw [hc, hk, Int.mul_comm b a] at hr1
            generalize a * b = p at hr1
            omega
          · -- only the least number by -1
            have h8 : ((wr (a * b)).tdiv b).natAbs ≤ (wr (a * b)).natAbs := by rw [Int.natAbs_tdiv]; exact Nat.div_le_self _ _
            have h9 : (wr (a * b)).tdiv b = 9223372036854775808 := by unfold in64 at h7; omega
            have h10 : wr (a * b) = -9223372036854775808 := by rw [h9] at h8; omega
            rw [h9] at hc
            have ha2 : a = -9223372036854775808 := by rw [← hc]; decide
            have hb2 : b = -1 := by
              rw [h9, h10] at hr1
              omega
            apply hs
            rw [ha2, hb2]; decide
    rw [key]
    by_cases h : -9223372036854775808 ≤ a * b ∧ a * b ≤ 9223372036854775807
    · rw [decide_eq_true h]; exact ⟨rfl, fun _ => rfl⟩
    · rw [decide_eq_false h]; exact ⟨rfl, fun h => by cases h⟩
theorem ov_ok {o a b : Int} (ha : in64 a) (hb : in64 b) : (countsR o a b).2 = fitsX (ovHi o a b) (ovLo o a b) ∧ ((countsR o a b).2 = true → (countsR o a b).1 = wr (ovLo o a b)) := by
  unfold countsR ovHi ovLo
  cases o == 3 with
  | true => exact sum_ok ha hb
  | false => cases o == 4 with
    | true => exact diff_ok ha hb
    | false => exact prod_ok ha hb
theorem node_lit (a : Int) : isNodeX (litX a) = true := by
  have h := same_rfl nul
  simp [isNodeX, litX, isVal, kidsN, h]
theorem node_two {o : Int} (h1 : 3 ≤ o) (h2 : o ≤ 11) {x y : Exp} (hx : x.op ≠ 0) (hy : y.op ≠ 0) : isNodeX (twoX o x y) = true := by
  have h := same_rfl nul
  have h' := sameV_rfl ⟨0, 0, nul⟩
  have e1 : decide (o < 1) = false := by simp; omega
  have e2 : decide (o > 12) = false := by simp; omega
  have e3 : (o == 12) = false := by simp; omega
  have e4 : decide (o ≥ 3) = true := by simp; omega
  have e5 : decide (o ≤ 11) = true := by simp; omega
  have e6 : (o == 1) = false := by simp; omega
  have e7 : (o == 2) = false := by simp; omega
  have ek : kidsN o = 2 := by unfold kidsN; rw [e3, e4, e5]; rfl
  have ea : ([x, y].any fun k => k.op == 0) = false := by simp [hx, hy]
  unfold twoX isNodeX
  dsimp only
  rw [e1, e2, ek, ea, e6, e7, h, h']
  rfl
theorem two_isX {o : Int} (h1 : 3 ≤ o) (h2 : o ≤ 11) {x y : Exp} (hx : isNodeX x = true) (hy : isNodeX y = true) (ox : x.op ≠ 0) (oy : y.op ≠ 0) (hd : depthX (twoX o x y) 1 = 2) (hn : nodesX (twoX o x y) 1 = [twoX o x y, x, y]) : isX (twoX o x y) = true := by
  unfold isX
  rw [hd, hn]
  simp [hx, hy, node_two h1 h2 ox oy]
theorem ov_isX {o a b : Int} (ho : o = 3 ∨ o = 4 ∨ o = 5) : isX (twoX o (litX a) (litX b)) = true := by
  refine two_isX (by omega) (by omega) (node_lit a) (node_lit b) (by simp [litX, Exp.op]) (by simp [litX, Exp.op]) ?_ ?_ <;> rcases ho with rfl | rfl | rfl <;> rfl
theorem ov_ev {o a b : Int} (ho : o = 3 ∨ o = 4 ∨ o = 5) : evalX bS [] (twoX o (litX a) (litX b)) = countsX o a b := by
  unfold evalX
  rw [ov_isX ho]
  rcases ho with rfl | rfl | rfl <;> rfl
theorem ov_no {o a b : Int} (h : (!(countsR o a b).2) = true) : countsX o a b = (nulV, 16) := by unfold countsX; rw [h]; rfl
theorem ov_yes {o a b : Int} (ha : in64 a) (hb : in64 b) (h : (!(countsR o a b).2) = false) : countsX o a b = (⟨1, wr (ovLo o a b), nul⟩, 0) := by
  unfold countsX; rw [h, (ov_ok ha hb).2 (by simpa using h)]; rfl
theorem ov_op {n : Nat} (h : n < 3) : ((3 + n : Nat) : Int) = 3 ∨ ((3 + n : Nat) : Int) = 4 ∨ ((3 + n : Nat) : Int) = 5 := by omega
end Go.AL
