/- Parts of an abstract logic over the kit's walks, and walks in it: Lim. -/
import Derived.Test.YtchpllgeahnmmaaBa
import Derived.Test.YtchpllgeahnmmaaAe
/- SchemaLimits' data. Nothing of a program. -/
namespace Go.AL
set_option linter.unusedVariables false

def smA (c : Nat) (i : Nat) : ByteArray := (⟨#[UInt8.ofNat c]⟩ : ByteArray) ++ (⟨[UInt8.ofNat (97 + i)].toArray⟩ : ByteArray)
def smF (f : Nat) : Fld := ⟨smA 102 f, ((f % 3 + 1 : Nat) : Int)⟩
def smFs (j : Nat) : List Fld := (List.range j).map smF
theorem smFs_len (j : Nat) : (smFs j).length = j := by simp [smFs]
theorem smFs_get {j f : Nat} (h : f < j) : (smFs j)[f]? = some (smF f) := by simp [smFs, h]
theorem smFs_snoc (f : Nat) : (smFs f).map encF ++ [encF (smF f)] = (smFs (f + 1)).map encF := by simp [smFs, List.range_succ]
def smT (j i : Nat) : Ty := ⟨smA 116 i, smFs j⟩
def smTs (j k : Nat) : List Ty := (List.range k).map (smT j)
theorem smTs_len (j k : Nat) : (smTs j k).length = k := by simp [smTs]
/-- The cells of the row of types as it grows: the first one's fields are a row of the frame's own. -/
def smC (j : Nat) : Nat → List AV
  | 0 => [.d (str (smA 116 0)), .row 60]
  | i + 1 => [.d (str (smA 116 (i + 1))), .d (.sl 2 24 ((smFs j).map encF))]
def smCs (j : Nat) : Nat → List AV
  | 0 => []
  | i + 1 => smCs j i ++ smC j i
theorem smC_len (j i : Nat) : (smC j i).length = 2 := by cases i <;> rfl
theorem smCs_len (j : Nat) : ∀ k, (smCs j k).length = k * 2
  | 0 => rfl
  | k + 1 => by simp only [smCs, List.length_append, smCs_len j k, smC_len]; omega
theorem unk_list {k : Nat} : ∀ {l : List AV}, (∀ x ∈ l, nokey k x = true) → l.map (unk k) = l
  | [], _ => rfl
  | x :: l, h => by
    simp only [List.map_cons]
    rw [unk_list fun y hy => h y (List.mem_cons_of_mem _ hy)]
    congr 1
    simp [unk, h x (List.mem_cons_self ..)]
theorem smC_nk (j i : Nat) : ∀ x ∈ smC j i, nokey 50 x = true := by
  cases i <;> · intro x hx; simp [smC] at hx; rcases hx with rfl | rfl <;> rfl
theorem smCs_nk (j : Nat) : ∀ k, ∀ x ∈ smCs j k, nokey 50 x = true
  | 0, x, h => by simp [smCs] at h
  | k + 1, x, h => by
    simp only [smCs, List.mem_append] at h
    rcases h with h | h
    · exact smCs_nk j k x h
    · exact smC_nk j k x h
theorem smCs_snoc (j i : Nat) : (smCs j i ++ smC j i).map (unk 50) = smCs j (i + 1) := unk_list fun x hx => smCs_nk j (i + 1) x hx
theorem fzs_append {k : Nat} {X : D} : ∀ (l r : List AV), fzs k X (l ++ r) = fzs k X l ++ fzs k X r
  | [], r => rfl
  | x :: l, r => by simp [fzs, fzs_append l r]
/-- Frozen it is the row of types, of which the first one's fields are what its row had. -/
def smTs' (j k : Nat) (fs : List Fld) : List Ty := (List.range k).map fun i => bif i == 0 then ⟨smA 116 0, fs⟩ else smT j i
theorem smTs'_len (j k : Nat) (fs : List Fld) : (smTs' j k fs).length = k := by simp [smTs']
theorem smTs'_get {j k i : Nat} {fs : List Fld} (h : i < k) : (smTs' j k fs)[i]? = some (bif i == 0 then ⟨smA 116 0, fs⟩ else smT j i) := by simp [smTs', h]
theorem smCs_fz (j : Nat) (fs : List Fld) : ∀ k, fzs 60 (.sl 2 24 (fs.map encF)) (smCs j k) = ((smTs' j k fs).map encT).flatten.map .d
  | 0 => rfl
  | k + 1 => by
    rw [smCs, fzs_append, smCs_fz j fs k]
    have : smTs' j (k + 1) fs = smTs' j k fs ++ [bif k == 0 then ⟨smA 116 0, fs⟩ else smT j k] := by simp [smTs', List.range_succ]
    rw [this, List.map_append, List.flatten_append, List.map_append]
    congr 1
    cases k with
    | zero => rfl
    | succ k => rfl
/-- What stands there in the end. -/
def smS (k j c : Nat) : List Ty :=
  bif c == 1 && decide (1 < k) then (smTs j k).set (k - 1) ⟨smA 116 (k - 2), smFs j⟩
  else bif c == 2 && decide (0 < k) && decide (1 < j) then smTs' j k ((smFs j).set (j - 1) { smF (j - 1) with name := smA 102 0 })
  else smTs j k
def smG (k j c : Nat) : Bool := (decide (k ≤ 5) && (decide (j ≤ 5) || k == 0)) && !(c == 1 && decide (1 < k)) && !(c == 2 && decide (0 < k) && decide (1 < j))
theorem smS_all : ((List.range 8).all fun k => (List.range 8).all fun j => (List.range 3).all fun c => isSchema (smS k j c) == smG k j c) = true := by decide +kernel
theorem smS_ok {k j c : Nat} (hk : k < 8) (hj : j < 8) (hc : c < 3) : isSchema (smS k j c) = smG k j c := by
  have h1 := List.all_eq_true.1 smS_all k (by simpa using hk)
  have h2 := List.all_eq_true.1 h1 j (by simpa using hj)
  have h3 := List.all_eq_true.1 h2 c (by simpa using hc)
  simpa using h3
theorem smTs_eq (j k : Nat) : smTs j k = smTs' j k (smFs j) := by
  unfold smTs smTs'
  apply List.map_congr_left
  intro i _
  cases i <;> rfl
theorem smG0_c0 {k j : Nat} : smG k j 0 = (decide (k ≤ 5) && (decide (j ≤ 5) || k == 0)) := by simp [smG]
theorem smG0_c1 {k j : Nat} (h : decide (1 < k) = false) : smG k j 1 = (decide (k ≤ 5) && (decide (j ≤ 5) || k == 0)) := by simp [smG, h]
theorem smG0_c2 {k j : Nat} (h : decide (0 < k) = false ∨ decide (1 < j) = false) : smG k j 2 = (decide (k ≤ 5) && (decide (j ≤ 5) || k == 0)) := by
  rcases h with h | h <;> simp [smG, h]
theorem smCs_in {H : Heap} {j : Nat} (h : (H 60).isSome = true) : ∀ k, inHs H (smCs j k) = true
  | 0 => rfl
  | k + 1 => by
    have app : ∀ (l r : List AV), inHs H l = true → inHs H r = true → inHs H (l ++ r) = true := by
      intro l r h1 h2
      induction l with
      | nil => exact h2
      | cons x l ih => simp only [inHs, Bool.and_eq_true, List.cons_append] at h1 ⊢; exact ⟨h1.1, ih h1.2⟩
    refine app _ _ (smCs_in h k) ?_
    cases k with
    | zero => simp [smC, inHs, inH, h]
    | succ k => simp [smC, inHs, inH]
theorem smCs_nk61 (j : Nat) : ∀ k, ∀ x ∈ smCs j k, nokey 61 x = true
  | 0, x, h => by simp [smCs] at h
  | k + 1, x, h => by
    simp only [smCs, List.mem_append] at h
    rcases h with h | h
    · exact smCs_nk61 j k x h
    · revert x; cases k <;> · intro x h; simp [smC] at h; rcases h with rfl | rfl <;> rfl
theorem smCs_unk61 (j k : Nat) : (smCs j k).map (unk 61) = smCs j k := unk_list (smCs_nk61 j k)
theorem smCs_fz61 (j : Nat) (X : D) : ∀ k, fzs 61 X (smCs j k) = smCs j k
  | 0 => rfl
  | k + 1 => by
    rw [smCs, fzs_append, smCs_fz61 j X k]
    cases k <;> rfl
theorem smCs_head (j : Nat) : ∀ q, ∃ r, smCs j (q + 1) = .d (str (smA 116 0)) :: .row 60 :: r
  | 0 => ⟨[], rfl⟩
  | q + 1 => by obtain ⟨r, h⟩ := smCs_head j q; exact ⟨r ++ smC j (q + 1), by rw [smCs, h]; rfl⟩
theorem smB_load (j q : Nat) : ofCells false 1 ((smCs j (q + 1)).drop 1) = some (.row 60) := by
  obtain ⟨r, h⟩ := smCs_head j q
  rw [h]; rfl
theorem smA_load (j q : Nat) : ofCells false 1 ((smCs j (q + 2)).drop (q * 2)) = some (.d (str (smA 116 q))) := by
  have : smCs j (q + 2) = smCs j q ++ (smC j q ++ smC j (q + 1)) := by simp [smCs]
  rw [this, ← smCs_len j q, List.drop_left]
  cases q <;> rfl
theorem smA_over (j q : Nat) (x : D) : overwrite (smCs j (q + 2)) ((q + 1) * 2) [.d x] = smCs j (q + 1) ++ [.d x, .d (.sl 2 24 ((smFs j).map encF))] := by
  have : smCs j (q + 2) = smCs j (q + 1) ++ smC j (q + 1) := rfl
  unfold overwrite
  rw [this, ← smCs_len j (q + 1), List.take_left, List.drop_append]
  simp [smC, List.drop_eq_nil_of_le]
theorem smTs_snoc (j k : Nat) : smTs j (k + 1) = smTs j k ++ [smT j k] := by simp [smTs, List.range_succ]
theorem smA_end (j q : Nat) : smS (q + 2) j 1 = smTs j (q + 1) ++ [⟨smA 116 q, smFs j⟩] := by
  have : smS (q + 2) j 1 = (smTs j (q + 2)).set (q + 1) ⟨smA 116 q, smFs j⟩ := by simp [smS]
  rw [this, smTs_snoc, List.set_append]
  simp [smTs_len]
theorem smA_fz (j q : Nat) : fzs 60 (.sl 2 24 ((smFs j).map encF)) (smCs j (q + 1) ++ [.d (str (smA 116 q)), .d (.sl 2 24 ((smFs j).map encF))]) = ((smS (q + 2) j 1).map encT).flatten.map .d := by
  rw [fzs_append, smCs_fz, ← smTs_eq, smA_end, List.map_append, List.flatten_append, List.map_append]
  rfl
theorem smS_0 (k j : Nat) : smS k j 0 = smTs j k := by simp [smS]
theorem smS_1 {k j : Nat} (h : decide (1 < k) = false) : smS k j 1 = smTs j k := by simp [smS, h]
theorem smS_2 {k j : Nat} (h : decide (0 < k) = false ∨ decide (1 < j) = false) : smS k j 2 = smTs j k := by rcases h with h | h <;> simp [smS, h]
theorem smB_end (q r : Nat) : smS (q + 1) (r + 2) 2 = smTs' (r + 2) (q + 1) ((smFs (r + 2)).set (r + 1) { smF (r + 1) with name := smA 102 0 }) := by simp [smS]
theorem smB_fz (q r : Nat) : fzs 60 (.sl 2 24 (((smFs (r + 2)).set (r + 1) { smF (r + 1) with name := smA 102 0 }).map encF)) (smCs (r + 2) (q + 1)) = ((smS (q + 1) (r + 2) 2).map encT).flatten.map .d := by
  rw [smCs_fz, smB_end]
theorem sm0_fz (j k : Nat) : fzs 60 (.sl 2 24 ((smFs j).map encF)) (smCs j k) = ((smTs j k).map encT).flatten.map .d := by rw [smCs_fz, smTs_eq]
theorem smS_len {k j c : Nat} : (smS k j c).length = k := by
  unfold smS
  cases (c == 1 && decide (1 < k)) <;> cases (c == 2 && decide (0 < k) && decide (1 < j)) <;> simp [smTs_len, smTs'_len]
theorem inHs_app {H : Heap} : ∀ {l r : List AV}, inHs H l = true → inHs H r = true → inHs H (l ++ r) = true
  | [], r, _, h => h
  | x :: l, r, h1, h2 => by
    simp only [inHs, Bool.and_eq_true, List.cons_append] at h1 ⊢
    exact ⟨h1.1, inHs_app h1.2 h2⟩
theorem dec_le5 (k : Nat) : decide (((k : Nat) : Int) ≤ 5) = decide (k ≤ 5) := by apply decide_eq_decide.2; omega
theorem eq0N (k : Nat) : (((k : Nat) : Int) == 0) = (k == 0) := by
  cases k with
  | zero => rfl
  | succ k => simp; omega
theorem hlh_none {H h h' : Heap} (hh : hlh H h h') {k : Nat} : hlh H h (hset h' k none) := fun i => by
  by_cases hi : i = k
  · subst hi; exact .inl (hset_same ..)
  · rw [hset_ne _ _ hi]; exact hh i
def smSl (g : Bool) : Slots := sset (sset noSlots 9 (.ptr 1 0)) 13 (.d (boo g))
theorem encT_len (t : Ty) : (encT t).length = 2 := rfl
theorem map_len2 (xs : List Ty) : ∀ x ∈ xs.map encT, x.length = 2 := by simp [encT_len]
theorem smEnd {E : Env} {J : Jt} {g : Bool} {k : Nat} {cs : List AV} {fs : List Fld} {xs : List Ty} (tS tT tF : Nat) (hb : fs.length ≤ 1000) (hf : fzs 60 (.sl 2 24 (fs.map encF)) cs = (xs.map encT).flatten.map .d) (hx : xs.length = k) :
    LE E ⟨J, smSl g, hset (hset (hset noHeap 1 (some (.box tS [.row 50]))) 50 (some (.rowA tT 2 k cs))) 60 (some (.row tF 2 (fs.map encF)))⟩ ⟨J, smSl g, hset (hset noHeap 1 (some (.box tS [.row 50]))) 50 (some (.row tT 2 (xs.map encT)))⟩ :=
  (LE_freeze 60 24 rfl (by simp; omega)).trans ((LE_rowD 50 (xs := xs.map encT) rfl (by simp [hx]) hf (map_len2 xs)).trans
    (LE_sh (slh_set (slh_set (slh_no _ _) rfl rfl) rfl rfl) (hlh_set (hlh_set (hlh_no _ _) rfl rfl) rfl rfl)))
theorem smEnd0 {E : Env} {J : Jt} {g : Bool} (tS tT : Nat) :
    LE E ⟨J, smSl g, hset (hset noHeap 1 (some (.box tS [.row 50]))) 50 (some (.rowA tT 2 0 []))⟩ ⟨J, smSl g, hset (hset noHeap 1 (some (.box tS [.row 50]))) 50 (some (.row tT 2 (([] : List Ty).map encT)))⟩ :=
  (LE_rowD 50 (xs := []) rfl rfl rfl (by simp)).trans (LE_sh (slh_set (slh_set (slh_no _ _) rfl rfl) rfl rfl) (hlh_set (hlh_set (hlh_no _ _) rfl rfl) rfl rfl))
end Go.AL
