/- Parts of an abstract logic over the kit's walks, and walks in it: ELa. -/
import Derived.Test.YtchpllgeahnmmaaEOv
/- What an alias stands for; texts compared. Nothing of a program. -/
namespace Go.AL
set_option linter.unusedVariables false
set_option linter.unusedSimpArgs false
theorem truth_same (b : Bool) : sameV (truthV b) (truthV true) = b := by cases b <;> decide +kernel
theorem holds_of {s : List Ty} {l : List Bi} {x : Exp} {r : Vl × Int} (h : evalX s l x = r) (ho : x.op ≠ 0) : holdsX s l x = (r.2 == 0 && sameV r.1 (truthV true)) := by
  unfold holdsX
  have : sameX x zeroX = false := by
    obtain ⟨op, v, al, fi, ks⟩ := x
    have : (op == 0) = false := by simpa [Exp.op] using ho
    simp [sameX, zeroX, this]
  rw [this, h]; rfl
theorem ev_two {s : List Ty} {l : List Bi} {o : Int} {x y : Exp} {vx vy : Vl} (h1 : 3 ≤ o) (h2 : o ≤ 9) (hx : evX s l x = (vx, 0)) (hy : evX s l y = (vy, 0)) : evX s l (twoX o x y) = pairX o vx vy := by
  have hs : evXs s l [x, y] = ([vx, vy], 0) := by simp [evXs_if, evXs, hx, hy]
  have e1 : (o == 1) = false := by simp; omega
  have e2 : (o == 2) = false := by simp; omega
  have e3 : (o == 10 || o == 11) = false := by simp; omega
  have e4 : (o == 12) = false := by simp; omega
  unfold twoX
  rw [evX_fin e1 e2 e3 (by rw [hs]), hs]
  unfold finX
  rw [e4]; rfl
theorem evalX_two {s : List Ty} {l : List Bi} {o : Int} {x y : Exp} {vx vy : Vl} (h1 : 3 ≤ o) (h2 : o ≤ 9) (hx : evX s l x = (vx, 0)) (hy : evX s l y = (vy, 0)) (hw : isX (twoX o x y) = true) : evalX s l (twoX o x y) = pairX o vx vy := by
  unfold evalX; rw [hw]; exact ev_two h1 h2 hx hy
theorem ev_lit {s : List Ty} {l : List Bi} {v : Vl} : evX s l (.mk 1 v nul nul []) = (v, 0) := evX_lit rfl
theorem pair_eq {a b : Vl} (h : (a.k == b.k) = true) : pairX 6 a b = (truthV (sameV a b), 0) := by
  unfold pairX; rw [h]; rfl
theorem pair_ne {a b : Vl} (h : (a.k == b.k) = true) : pairX 7 a b = (truthV (!sameV a b), 0) := by
  unfold pairX; rw [h]; rfl
theorem pair_lt {a b : Vl} (h : (a.k == b.k) = true) (h3 : (a.k != 3) = true) : pairX 8 a b = (truthV (lessV a b), 0) := by
  unfold pairX; rw [h, h3]; rfl
theorem pair_le {a b : Vl} (h : (a.k == b.k) = true) (h3 : (a.k != 3) = true) : pairX 9 a b = (truthV (!lessV b a), 0) := by
  unfold pairX; rw [h, h3]; rfl
theorem pair_lt3 {a b : Vl} (h : (a.k == b.k) = true) (h3 : (a.k != 3) = false) : pairX 8 a b = (nulV, 14) := by
  unfold pairX; rw [h, h3]; rfl

/-! ### The last one -/
def alU (u : UInt8) : ByteArray := bif u.toNat % 2 == 0 then ch 97 else ch 99
def bindU (u : UInt8) : Bi := ⟨alU u, ⟨ch 117, 0, [⟨1, ((u.toNat / 2 : Nat) : Int), nul⟩]⟩⟩
def lb (l : List UInt8) : List Bi := l.map bindU
def laN (l : List UInt8) : Int := match l.reverse.find? (fun u => u.toNat % 2 == 0) with
  | some u => ((u.toNat / 2 : Nat) : Int)
  | none => -1
theorem alU_is (u : UInt8) : ((alU u).toList == (ch 97).toList) = (u.toNat % 2 == 0) := by
  unfold alU
  cases u.toNat % 2 == 0 with
  | true => exact same_rfl (ch 97)
  | false => show same (ch 99) (ch 97) = false; decide +kernel
theorem laN_snoc {l : List UInt8} {i : Nat} {u : UInt8} (h : l[i]? = some u) : laN (l.take (i + 1)) = bif u.toNat % 2 == 0 then ((u.toNat / 2 : Nat) : Int) else laN (l.take i) := by
  unfold laN
  rw [List.take_add_one, h]
  simp only [Option.toList_some, List.reverse_append, List.reverse_cons, List.reverse_nil, List.nil_append, List.singleton_append, List.cons_append, List.find?_cons]
  cases u.toNat % 2 == 0 <;> rfl
theorem lb_snoc {l : List UInt8} {i : Nat} {u : UInt8} (h : l[i]? = some u) : (lb (l.take i)).map encBi ++ [encBi (bindU u)] = (lb (l.take (i + 1))).map encBi := by
  rw [List.take_add_one, h]; simp [lb]
theorem lb_len (l : List UInt8) : (lb l).length = l.length := by simp [lb]
theorem la_last (l : List UInt8) : (laN l < 0 ∧ lastB (lb l) (ch 97) = none) ∨ (0 ≤ laN l ∧ ∃ al, lastB (lb l) (ch 97) = some ⟨al, ⟨ch 117, 0, [⟨1, laN l, nul⟩]⟩⟩) := by
  unfold lastB laN lb
  rw [← List.map_reverse, List.find?_map]
  have e : (fun b : Bi => same b.al (ch 97)) ∘ bindU = fun u => u.toNat % 2 == 0 := by
    funext u; exact alU_is u
  rw [e]
  cases h : l.reverse.find? (fun u => u.toNat % 2 == 0) with
  | none => exact .inl ⟨by show (-1 : Int) < 0; omega, rfl⟩
  | some u => exact .inr ⟨Int.natCast_nonneg _, alU u, rfl⟩
theorem la_get (m : Int) : getV bS ⟨ch 117, 0, [⟨1, m, nul⟩]⟩ (ch 110) = (⟨1, m, nul⟩, true) :=
  getV_ok (i := 0) (show (findT bS (ch 117)).2 = true by decide +kernel) (show fieldAt (findT bS (ch 117)).1 (ch 110) = ((0 : Nat) : Int) by decide +kernel) rfl
theorem fld_isX : isX (fldX (ch 97) (ch 110)) = true := by decide +kernel
theorem fld_node : isNodeX (fldX (ch 97) (ch 110)) = true := by decide +kernel
theorem la_evX {l : List UInt8} : evX bS (lb l) (fldX (ch 97) (ch 110)) = bif decide (laN l < 0) then (nulV, 13) else (⟨1, laN l, nul⟩, 0) := by
  unfold fldX
  rw [evX_field rfl rfl]
  rcases la_last l with ⟨h1, h2⟩ | ⟨h1, al, h2⟩
  · rw [fieldV_none h2, decide_eq_true h1]; rfl
  · have hg := la_get (laN l)
    rw [fieldV_ok h2 (by show (getV bS _ (ch 110)).2 = true; rw [hg]), decide_eq_false (by omega)]
    show ((getV bS _ (ch 110)).1, (0 : Int)) = _
    rw [hg]; rfl
theorem la_ev {l : List UInt8} : evalX bS (lb l) (fldX (ch 97) (ch 110)) = bif decide (laN l < 0) then (nulV, 13) else (⟨1, laN l, nul⟩, 0) := by
  unfold evalX; rw [fld_isX]; exact la_evX
theorem la_holds {l : List UInt8} (h : decide (laN l < 0) = false) (c : Int) : holdsX bS (lb l) (twoX 6 (fldX (ch 97) (ch 110)) (litX c)) = (laN l == c) := by
  have h1 := la_evX (l := l)
  rw [h] at h1
  have hw : isX (twoX 6 (fldX (ch 97) (ch 110)) (litX c)) = true := two_isX (by omega) (by omega) fld_node (node_lit c) (by simp [fldX, Exp.op]) (by simp [litX, Exp.op]) rfl rfl
  have h2 : evX bS (lb l) (litX c) = (⟨1, c, nul⟩, 0) := ev_lit
  rw [holds_of (evalX_two (vx := ⟨1, laN l, nul⟩) (vy := ⟨1, c, nul⟩) (by omega) (by omega) h1 h2 hw) (by simp [twoX, Exp.op]), pair_eq rfl]
  show ((0 : Int) == 0 && sameV (truthV (sameV ⟨1, laN l, nul⟩ ⟨1, c, nul⟩)) (truthV true)) = _
  rw [truth_same]
  simp [sameV, same_rfl]
theorem la_idx (u : UInt8) : ofCells false 1 ([AV.d (str (ch 97)), .d (str (ch 99))].drop (((u.toNat % 2 : Nat) : Int).toNat * 1)) = some (.d (str (alU u))) := by
  unfold alU
  rcases Nat.mod_two_eq_zero_or_one u.toNat with h | h <;> rw [h] <;> rfl
theorem la_half (u : UInt8) : IntKind.i64.wrap (IntKind.u8.wrap ((u.toNat : Int).tdiv 2)) = ((u.toNat / 2 : Nat) : Int) := by
  have h := u.toNat_lt
  rw [show ((u.toNat : Int).tdiv 2) = ((u.toNat / 2 : Nat) : Int) from rfl]
  rw [wrap_id .u8 _ (by have : IntKind.u8.min = 0 := rfl; omega) (by have : IntKind.u8.max = 255 := rfl; omega), wrapN (by omega)]

/-! ### Texts -/
def vE (v : Vl) : Exp := .mk 1 v nul nul []
theorem node_v {v : Vl} (hv : isVal v = true) : isNodeX (vE v) = true := by
  have h := same_rfl nul
  simp [isNodeX, vE, kidsN, h, hv]
theorem tx_ev {o : Int} {v w : Vl} (h1 : 3 ≤ o) (h2 : o ≤ 9) (hv : isVal v = true) (hw : isVal w = true) : evalX bS [] (twoX o (vE v) (vE w)) = pairX o v w := by
  refine evalX_two h1 h2 ev_lit ev_lit (two_isX h1 (by omega) (node_v hv) (node_v hw) (by simp [vE, Exp.op]) (by simp [vE, Exp.op]) ?_ ?_)
  · have e : (o == 0) = false := by simp; omega
    simp [twoX, vE, depthX, depthXs, e]
    rfl
  · have e : (o == 0) = false := by simp; omega
    simp [twoX, vE, nodesX, nodesXs, e]
theorem tx_holds {o : Int} {v w : Vl} {b : Bool} (h1 : 3 ≤ o) (h2 : o ≤ 9) (hv : isVal v = true) (hw : isVal w = true) (hp : pairX o v w = (truthV b, 0)) : holdsX bS [] (twoX o (vE v) (vE w)) = b := by
  rw [holds_of (tx_ev h1 h2 hv hw) (by simp [twoX, Exp.op]; omega), hp]
  show ((0 : Int) == 0 && sameV (truthV b) (truthV true)) = _
  rw [truth_same]; rfl
def txV (c : Bool) (m : Int) (a : ByteArray) : Vl := bif c then ⟨1, m, nul⟩ else ⟨2, 0, a⟩
def txL (c : Bool) (m n : Int) (a b : ByteArray) : Bool := bif c then decide (m < n) else less a b
def txS (c : Bool) (m n : Int) (a b : ByteArray) : Bool := bif c then m == n else same a b
theorem txV_ok {c : Bool} {m : Int} {a : ByteArray} (h : isText a = true) : isVal (txV c m a) = true := by
  cases c
  · simp [txV, isVal, h]
  · simp [txV, isVal, same_rfl]
theorem tx_k (c : Bool) (m n : Int) (a b : ByteArray) : ((txV c m a).k == (txV c n b).k) = true ∧ ((txV c m a).k != 3) = true ∧ ((txV c n b).k == (txV c m a).k) = true ∧ ((txV c n b).k != 3) = true := by cases c <;> exact ⟨rfl, rfl, rfl, rfl⟩
theorem tx_8 {c : Bool} {m n : Int} {a b : ByteArray} (ha : isText a = true) (hb : isText b = true) : holdsX bS [] (twoX 8 (vE (txV c m a)) (vE (txV c n b))) = txL c m n a b := by
  refine tx_holds (by omega) (by omega) (txV_ok ha) (txV_ok hb) ?_
  rw [pair_lt (tx_k c m n a b).1 (tx_k c m n a b).2.1]
  congr 2
  cases c <;> rfl
theorem less_tot {a b : ByteArray} : (!less b a) = (less a b || same a b) := by
  cases h1 : less b a with
  | true =>
    have h2 := less_asymm h1
    have h3 : same a b = false := by
      cases h : same a b with
      | false => rfl
      | true => rw [same_eq h, less_self] at h1; cases h1
    rw [h2, h3]; rfl
  | false =>
    cases h2 : less a b with
    | true => rfl
    | false =>
      cases h3 : same a b with
      | true => rfl
      | false => have := less_total h3 h2; rw [h1] at this; cases this
theorem tx_9 {c : Bool} {m n : Int} {a b : ByteArray} (ha : isText a = true) (hb : isText b = true) : holdsX bS [] (twoX 9 (vE (txV c m a)) (vE (txV c n b))) = (txL c m n a b || txS c m n a b) := by
  refine tx_holds (by omega) (by omega) (txV_ok ha) (txV_ok hb) ?_
  rw [pair_le (tx_k c m n a b).1 (tx_k c m n a b).2.1]
  congr 2
  cases c
  · exact less_tot
  · show (!decide (n < m)) = (decide (m < n) || m == n)
    rw [Bool.eq_iff_iff]; simp; omega
theorem tx_6 {c : Bool} {m n : Int} {a b : ByteArray} (ha : isText a = true) (hb : isText b = true) : holdsX bS [] (twoX 6 (vE (txV c m a)) (vE (txV c n b))) = txS c m n a b := by
  refine tx_holds (by omega) (by omega) (txV_ok ha) (txV_ok hb) ?_
  rw [pair_eq (tx_k c m n a b).1]
  congr 2
  cases c
  · simp [txV, txS, sameV]
  · simp [txV, txS, sameV, same_rfl]
theorem tx_7 {c : Bool} {m n : Int} {a b : ByteArray} (ha : isText a = true) (hb : isText b = true) : holdsX bS [] (twoX 7 (vE (txV c m a)) (vE (txV c n b))) = !txS c m n a b := by
  refine tx_holds (by omega) (by omega) (txV_ok ha) (txV_ok hb) ?_
  rw [pair_ne (tx_k c m n a b).1]
  congr 2
  cases c
  · simp [txV, txS, sameV]
  · simp [txV, txS, sameV, same_rfl]
theorem tx_b {m : Int} : isVal ⟨3, m % 2, nul⟩ = true := by
  have : m % 2 = 0 ∨ m % 2 = 1 := by omega
  simp only [isVal]
  rcases this with h | h <;> simp [h, same_rfl]
theorem tx_b8 {m n : Int} : evalX bS [] (twoX 8 (vE ⟨3, m % 2, nul⟩) (vE ⟨3, n % 2, nul⟩)) = (nulV, 14) := by
  rw [tx_ev (by omega) (by omega) tx_b tx_b, pair_lt3 rfl rfl]
theorem tx_b6 {m n : Int} : holdsX bS [] (twoX 6 (vE ⟨3, m % 2, nul⟩) (vE ⟨3, n % 2, nul⟩)) = (m % 2 == n % 2) := by
  refine tx_holds (by omega) (by omega) tx_b tx_b ?_
  rw [pair_eq rfl]
  simp [sameV, same_rfl]
theorem data_app (a b : ByteArray) : (a ++ b).data.toList = a.data.toList ++ b.data.toList := by simp
theorem tx_text {a b : ByteArray} (ha : a.size ≤ 10) (hb : b.size ≤ 10) (h : ∀ j c, j < a.size + b.size → (a ++ b).data.toList[j]? = some c → shownC c = true) : isText a = true ∧ isText b = true := by
  have hall : ∀ c ∈ a.data.toList ++ b.data.toList, shownC c = true := by
    intro c hc
    obtain ⟨j, hj⟩ := List.getElem?_of_mem hc
    refine h j c ?_ (by rw [data_app]; exact hj)
    have := (List.getElem?_eq_some_iff.1 hj).1
    rw [List.length_append] at this
    exact this
  refine ⟨?_, ?_⟩ <;> simp only [isText, Bool.and_eq_true, List.all_eq_true, decide_eq_true_eq]
  · exact ⟨fun c hc => hall c (by simp [hc]), by omega⟩
  · exact ⟨fun c hc => hall c (by simp [hc]), by omega⟩
end Go.AL
