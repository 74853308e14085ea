/- Parts of an abstract logic over the kit's walks, and walks in it: Nrm2. -/
import Derived.Test.YtjiknbjkbakegaaDoorNrm
import Derived.Test.YtjiknbjkbakegaaDoorAe
/- What putting right does: plain laws. Nothing of a program. -/
namespace Go.AL
set_option linter.unusedVariables false
set_option linter.unusedSimpArgs false

/-! ### once is enough -/
/-! ### no more nodes, no deeper -/
mutual
def cntX : Exp → Nat
  | .mk _ _ _ _ ks => cntXs ks + 1
def cntXs : List Exp → Nat
  | [] => 0
  | k :: ks => cntX k + cntXs ks
end
/-! ### bulk -/
mutual
theorem nodes_le_cnt : ∀ (x : Exp) (a : Nat), (nodesX x a).length ≤ cntX x
  | .mk op v al fi ks, a => by
    have h := nodess_le_cnt ks (a + 1)
    unfold nodesX
    cases (op == 0 || decide ((a : Int) > 20)) with
    | true => simp
    | false => simp only [cond_false, List.length_cons, cntX]; omega
theorem nodess_le_cnt : ∀ (ks : List Exp) (a : Nat), (nodesXs ks a).length ≤ cntXs ks
  | [], a => by simp [nodesXs]
  | k :: ks, a => by
    have h1 := nodes_le_cnt k a
    have h2 := nodess_le_cnt ks a
    simp only [nodesXs, List.length_append, cntXs]; omega
end
mutual
theorem cnt_bulk : ∀ x : Exp, cntX x ≤ bulkDs (encX x)
  | .mk op v al fi ks => by
    have h := cnts_bulk ks
    simp only [encX, bulkDs, bulkD, cntX]
    omega
theorem cnts_bulk : ∀ ks : List Exp, cntXs ks ≤ bulkCs (encXs ks)
  | [] => by simp [cntXs]
  | k :: ks => by
    have h1 := cnt_bulk k
    have h2 := cnts_bulk ks
    simp only [cntXs, encXs, bulkCs]; omega
end
theorem nodes_bulk (x : Exp) (a : Nat) : (nodesX x a).length ≤ bulkDs (encX x) := Nat.le_trans (nodes_le_cnt x a) (cnt_bulk x)
theorem bulkCs_mem {xs : List (List D)} {x : List D} (h : x ∈ xs) : bulkDs x ≤ bulkCs xs := by
  induction xs with
  | nil => cases h
  | cons y ys ih =>
    simp only [bulkCs]
    rcases List.mem_cons.1 h with rfl | h
    · omega
    · have := ih h; omega
theorem pat_bulk {p : Pat} {e : El} (h : e ∈ p.els) (a : Nat) : (nodesX e.cond a).length ≤ bulkDs (encP p) := by
  have h1 := nodes_bulk e.cond a
  have h2 := bulkCs_mem (List.mem_map.2 ⟨e, h, rfl⟩ : encL e ∈ p.els.map encL)
  have h3 : bulkDs (encX e.cond) ≤ bulkDs (encL e) := by
    simp only [encL, bulkDs]; omega
  have h4 : bulkCs (p.els.map encL) ≤ bulkDs (encP p) := by
    simp only [encP, bulkDs, bulkD]; omega
  omega

/-! ### Law 12: other names -/
def Exp.al : Exp → ByteArray | .mk _ _ al _ _ => al
def re1 (a b s : ByteArray) : ByteArray := bif same s a then b else s
def frB : ByteArray := ⟨#[102, 114, 101, 115, 104, 101, 115, 116]⟩
end Go.AL
