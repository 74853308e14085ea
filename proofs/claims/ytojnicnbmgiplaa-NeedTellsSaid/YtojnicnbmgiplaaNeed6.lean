/- Parts of an abstract logic over the kit's walks, and walks in it: Need6. -/
import Derived.Test.YtojnicnbmgiplaaNeed5
/- The document's uses as they are gathered; plain data. -/
namespace Go.AL
open Go.Proofs
set_option linter.unusedVariables false
set_option linter.unusedSimpArgs false
section
variable {p : Pat} {A : List Us} {e : El} {x : Exp} {t : ByteArray} {i k j : Nat}
def accI (p : Pat) (i : Nat) : List Us := ((p.els.take i).flatMap (refE p)).foldl withU []
def accN (p : Pat) (i : Nat) (e : El) (k : Nat) : List Us := (((nodesX e.cond 1).take k).flatMap (usesN p)).foldl withU (accI p i)
def accT (p : Pat) (A : List Us) (x : Exp) (j : Nat) : List Us := (((typesX p x).take j).map fun t => (⟨t, x.fi⟩ : Us)).foldl withU A
def accB (p : Pat) (A : List Us) (e : El) (j : Nat) : List Us := bif same p.byf nul then A else ((e.tys.take j).map fun t => (⟨t, p.byf⟩ : Us)).foldl withU A
theorem accT_succ (h : (typesX p x)[j]? = some t) : accT p A x (j + 1) = withU (accT p A x j) ⟨t, x.fi⟩ := by
  unfold accT
  rw [List.take_add_one, h]
  show (((typesX p x).take j ++ [t]).map fun t => (⟨t, x.fi⟩ : Us)).foldl withU A = _
  rw [List.map_append, List.foldl_append]; rfl
theorem accN_succ (h : (nodesX e.cond 1)[k]? = some x) : accN p i e (k + 1) = accT p (accN p i e k) x (typesX p x).length := by
  unfold accN accT
  rw [List.take_add_one, h, List.take_of_length_le (Nat.le_refl _)]
  show (((nodesX e.cond 1).take k ++ [x]).flatMap (usesN p)).foldl withU (accI p i) = _
  rw [List.flatMap_append, List.foldl_append]
  show List.foldl withU _ (usesN p x ++ []) = _
  rw [List.append_nil]; rfl
theorem accN_skip (h : (nodesX e.cond 1)[k]? = some x) (ho : (x.op != 2) = true) : accN p i e (k + 1) = accN p i e k := by
  rw [accN_succ h]
  have : typesX p x = [] := by
    unfold typesX
    rw [show (x.op == 2) = false from beq_eq_false_iff_ne.2 (bne_iff_ne.1 ho)]; rfl
  unfold accT
  rw [this]; rfl
theorem accB_succ (hb : same p.byf nul = false) (h : e.tys[j]? = some t) : accB p A e (j + 1) = withU (accB p A e j) ⟨t, p.byf⟩ := by
  unfold accB
  rw [hb, cond_false, cond_false, List.take_add_one, h]
  show ((e.tys.take j ++ [t]).map fun t => (⟨t, p.byf⟩ : Us)).foldl withU A = _
  rw [List.map_append, List.foldl_append]; rfl
theorem accB_zero : accB p A e 0 = A := by unfold accB; cases same p.byf nul <;> rfl
theorem accB_no (hb : same p.byf nul = true) : accB p A e j = A := by unfold accB; rw [hb]; rfl
theorem accI_succ (h : p.els[i]? = some e) : accI p (i + 1) = accB p (accN p i e (nodesX e.cond 1).length) e e.tys.length := by
  unfold accI
  rw [List.take_add_one, h]
  show ((p.els.take i ++ [e]).flatMap (refE p)).foldl withU [] = _
  rw [List.flatMap_append, List.foldl_append]
  show List.foldl withU (accI p i) (refE p e ++ []) = _
  rw [List.append_nil]
  unfold refE
  rw [List.foldl_append]
  unfold accB accN usesB usesC
  rw [List.take_of_length_le (Nat.le_refl _), List.take_of_length_le (Nat.le_refl _)]
  cases same p.byf nul <;> rfl
theorem accI_end (h : p.els.length ≤ i) : accI p i = refU p := by unfold accI refU refAll; rw [List.take_of_length_le h]
theorem fold_len : ∀ (l a : List Us), (l.foldl withU a).length ≤ a.length + l.length
  | [], a => Nat.le_refl _
  | u :: l, a => by
    have h1 := fold_len l (withU a u)
    have h2 := with_len a u
    rw [List.foldl_cons, List.length_cons]; omega
theorem accI_len (hp : isPat p = true) (i : Nat) : (accI p i).length ≤ 375 := by
  obtain ⟨h1, h2⟩ := pat_few hp
  have h3 : ∀ e ∈ p.els, (refE p e).length ≤ 75 := fun e he => by
    obtain ⟨g1, g2⟩ := h2 e he
    unfold refE
    rw [List.length_append]
    have q1 : (usesB p e).length ≤ 3 := by
      unfold usesB
      cases same p.byf nul with
      | true => exact Nat.zero_le _
      | false => show (e.tys.map _).length ≤ 3; rw [List.length_map]; exact g2
    have q2 : (usesC p e).length ≤ (nodesX e.cond 1).length * 3 := fm_few fun x _ => by
      unfold usesN
      rw [List.length_map]
      exact types_len fun d hd => (h2 d hd).2
    omega
  have h4 : ((p.els.take i).flatMap (refE p)).length ≤ (p.els.take i).length * 75 := fm_few fun e he => h3 e (List.mem_of_mem_take he)
  have h5 := fold_len ((p.els.take i).flatMap (refE p)) []
  have h6 : (p.els.take i).length ≤ 5 := by rw [List.length_take]; omega
  unfold accI
  simp only [List.length_nil] at h5
  omega
theorem accN_len (hp : isPat p = true) (he : e ∈ p.els) (i k : Nat) : (accN p i e k).length ≤ 450 := by
  have h1 := accI_len hp i
  obtain ⟨_, h2⟩ := pat_few hp
  have h5 := fold_len (((nodesX e.cond 1).take k).flatMap (usesN p)) (accI p i)
  have h4 : (((nodesX e.cond 1).take k).flatMap (usesN p)).length ≤ ((nodesX e.cond 1).take k).length * 3 := fm_few fun x _ => by
    unfold usesN
    rw [List.length_map]
    exact types_len fun d hd => (h2 d hd).2
  have h6 : ((nodesX e.cond 1).take k).length ≤ 24 := by rw [List.length_take]; have := (h2 e he).1; omega
  unfold accN
  omega
theorem accT_len (A : List Us) (hp : isPat p = true) (x : Exp) (j : Nat) : (accT p A x j).length ≤ A.length + 3 := by
  have h5 := fold_len (((typesX p x).take j).map fun t => (⟨t, x.fi⟩ : Us)) A
  have := types_len (x := x) fun d hd => ((pat_few hp).2 d hd).2
  rw [List.length_map, List.length_take] at h5
  unfold accT; omega
theorem accB_len (A : List Us) (h : e.tys.length ≤ 3) (j : Nat) : (accB p A e j).length ≤ A.length + 3 := by
  have h5 := fold_len ((e.tys.take j).map fun t => (⟨t, p.byf⟩ : Us)) A
  rw [List.length_map, List.length_take] at h5
  unfold accB
  cases same p.byf nul with
  | true => show A.length ≤ _; omega
  | false => show (List.foldl withU A _).length ≤ _; omega
/-- Where a named alias stands. -/
theorem chk_at {s : List Ty} (h : chkR s p = 0) (he : e ∈ p.els) (hx : x ∈ nodesX e.cond 1) (ho : (x.op == 2) = true) : ∃ (j : Nat) (d : El), idx (fun e : El => same e.al x.al) p.els = (j : Int) ∧ p.els[j]? = some d ∧ typesX p x = d.tys := by
  obtain ⟨d0, hd0, g0⟩ := chk_found h he hx ho
  rcases idx_cases (fun e : El => same e.al x.al) p.els with ⟨j, d, h1, h2, h3, h4⟩ | ⟨_, h2⟩
  · exact ⟨j, d, h1, h2, types_hit h2 ho h3 fun q c hq hc => by rw [h4 q c hq hc]; simp⟩
  · rw [h2 d0 hd0] at g0; cases g0
end
theorem sameUs_refl : ∀ l : List Us, sameUs l l = true
  | [] => rfl
  | u :: l => by
    show (sameU u u && allSame sameU l l) = true
    rw [show sameU u u = true from beq_self_eq_true u, show allSame sameU l l = true from sameUs_refl l]; rfl
end Go.AL
