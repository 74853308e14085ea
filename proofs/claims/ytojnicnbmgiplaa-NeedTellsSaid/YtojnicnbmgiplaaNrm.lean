/- Parts of an abstract logic over the kit's walks, and walks in it: Nrm. -/
import Derived.Test.YtojnicnbmgiplaaBa
/- Conditions put right, shapes told as the document tells them: plain data. Nothing of a program. -/
namespace Go.AL
set_option linter.unusedVariables false
set_option linter.unusedSimpArgs false

/-! ### Shape -/
def noNames (al fi : ByteArray) : Bool := same al nul && same fi nul
mutual
def shapedX : Exp → Nat → Bool
  | .mk op v al fi ks, d =>
    bif decide (op < 1) || (decide (op > 12) || (((ks.length : Int) != kidsN op) || decide ((d : Int) > 5))) then false
    else bif op == 1 then isVal v && noNames al fi
    else bif op == 2 then sameV v ⟨0, 0, nul⟩ && (isName al && isName fi)
    else shapedXs ks (d + 1) && (sameV v ⟨0, 0, nul⟩ && noNames al fi)
def shapedXs : List Exp → Nat → Bool
  | [], _ => true
  | k :: ks, d => shapedX k d && shapedXs ks d
end
theorem shapedXs_all : ∀ (ks : List Exp) (d : Nat), shapedXs ks d = ks.all fun k => shapedX k d
  | [], d => by simp [shapedXs]
  | k :: ks, d => by simp [shapedXs, shapedXs_all ks d]
theorem shapedXs_bad {ks : List Exp} {i d : Nat} {k : Exp} (h : ks[i]? = some k) (hb : shapedX k d = false) : shapedXs ks d = false := by
  rw [shapedXs_all, List.all_eq_false]
  exact ⟨k, List.mem_of_getElem? h, by simp [hb]⟩
theorem shapedXs_ok {ks : List Exp} {d i : Nat} (hi : ks.length ≤ i) (h : ∀ j k, j < i → ks[j]? = some k → shapedX k d = true) : shapedXs ks d = true := by
  rw [shapedXs_all, List.all_eq_true]
  intro k hk
  obtain ⟨j, hj⟩ := List.getElem?_of_mem hk
  exact h j k (by have := (List.getElem?_eq_some_iff.1 hj).1; omega) hj

theorem nodes_part {op : Int} {v : Vl} {al fi : ByteArray} {ks : List Exp} {a i : Nat} {k : Exp} (h : (op == 0 || decide ((a : Int) > 20)) = false) (hk : ks[i]? = some k) :
    1 + (nodesXs (ks.take i) (a + 1)).length + (nodesX k (a + 1)).length ≤ (nodesX (.mk op v al fi ks) a).length := by
  rw [nodesX_len h, nodesXs_split ks (i + 1), nodesXs_snoc _ hk, List.length_append, List.length_append]
  omega
theorem nodes_some {op : Int} {v : Vl} {al fi : ByteArray} {ks : List Exp} {a i : Nat} (h : (op == 0 || decide ((a : Int) > 20)) = false) :
    1 + (nodesXs (ks.take i) (a + 1)).length ≤ (nodesX (.mk op v al fi ks) a).length := by
  rw [nodesX_len h, nodesXs_split ks i, List.length_append]
  omega
theorem nodesX_go {op : Int} {v : Vl} {al fi : ByteArray} {ks : List Exp} {a : Nat} (h : (op == 0 || decide ((a : Int) > 20)) = false) : nodesX (.mk op v al fi ks) a = .mk op v al fi ks :: nodesXs ks (a + 1) := by unfold nodesX; rw [h]; rfl

/-! as many nodes as a shape has at the most -/
mutual
theorem shaped_few : ∀ (x : Exp) (d : Nat), shapedX x d = true → ∀ a, (nodesX x a).length + 1 ≤ 2 ^ (6 - d)
  | .mk op v al fi ks, d => fun h a => by
    unfold shapedX at h
    cases h1 : (decide (op < 1) || (decide (op > 12) || (((ks.length : Int) != kidsN op) || decide ((d : Int) > 5)))) with
    | true => rw [h1] at h; cases h
    | false =>
      rw [h1] at h
      simp only [cond_false] at h
      simp only [Bool.or_eq_false_iff, decide_eq_false_iff_not, bne_eq_false_iff_eq] at h1
      obtain ⟨g1, g2, g3, g4⟩ := h1
      have hp : 2 ≤ 2 ^ (6 - d) := by
        have : 2 ^ 1 ≤ 2 ^ (6 - d) := Nat.pow_le_pow_right (by omega) (by omega)
        omega
      unfold nodesX
      cases h0 : (op == 0 || decide ((a : Int) > 20)) with
      | true => simp; omega
      | false =>
        simp only [cond_false, List.length_cons]
        cases e1 : (op == 1) with
        | true =>
          have : op = 1 := by simpa using e1
          subst this
          have : ks = [] := List.length_eq_zero_iff.1 (by have : kidsN 1 = 0 := rfl; omega)
          subst this
          simp [nodesXs]; omega
        | false =>
          cases e2 : (op == 2) with
          | true =>
            have : op = 2 := by simpa using e2
            subst this
            have : ks = [] := List.length_eq_zero_iff.1 (by have : kidsN 2 = 0 := rfl; omega)
            subst this
            simp [nodesXs]; omega
          | false =>
            rw [e1, e2] at h
            simp only [cond_false, Bool.and_eq_true] at h
            have hk : ks.length ≤ 2 := by
              have : kidsN op ≤ 2 := by
                unfold kidsN
                cases (op == 12) with
                | true => simp
                | false => cases (decide (op ≥ 3) && decide (op ≤ 11)) <;> simp
              omega
            have := shapeds_few ks (d + 1) h.1 (a + 1)
            have e3 : 2 ^ (6 - d) = 2 * 2 ^ (6 - (d + 1)) := by
              rw [show 6 - d = (6 - (d + 1)) + 1 by omega, Nat.pow_succ]; omega
            have e4 : 1 ≤ 2 ^ (6 - (d + 1)) := Nat.one_le_two_pow
            have e5 : ks.length * (2 ^ (6 - (d + 1)) - 1) ≤ 2 * (2 ^ (6 - (d + 1)) - 1) := Nat.mul_le_mul_right _ hk
            omega
theorem shapeds_few : ∀ (ks : List Exp) (d : Nat), shapedXs ks d = true → ∀ a, (nodesXs ks a).length ≤ ks.length * (2 ^ (6 - d) - 1)
  | [], d => fun h a => by simp [nodesXs]
  | k :: ks, d => fun h a => by
    simp only [shapedXs, Bool.and_eq_true] at h
    have h1 := shaped_few k d h.1 a
    have h2 := shapeds_few ks d h.2 a
    simp only [nodesXs, List.length_append, List.length_cons]
    rw [Nat.add_mul]
    omega
end
theorem shaped_1000 {x : Exp} (h : shapedX x 1 = true) : (nodesX x 1).length ≤ 1048576 := by
  have := shaped_few x 1 h 1
  have e : 2 ^ (6 - 1) = 32 := by decide
  omega
def isExpr (x : Exp) : Bool := shapedX x 1 && decide ((nodesX x 1).length ≤ 24)

/-! #### the document's shape is the program's -/
theorem isNode_parts {op : Int} {v : Vl} {al fi : ByteArray} {ks : List Exp} : isNodeX (.mk op v al fi ks) =
    ((!(decide (op < 1)) && (!(decide (op > 12)) && !((ks.length : Int) != kidsN op))) && (ks.all (fun k => k.op != 0) &&
      (bif op == 1 then isVal v && noNames al fi else bif op == 2 then sameV v ⟨0, 0, nul⟩ && (isName al && isName fi) else sameV v ⟨0, 0, nul⟩ && noNames al fi))) := by
  have e : ks.all (fun k => k.op != 0) = !(ks.any fun k => k.op == 0) := by
    rw [List.not_any_eq_all_not]
    rfl
  rw [e]
  unfold isNodeX noNames
  by_cases b1 : op < 1
  · simp [b1]
  by_cases b2 : op > 12
  · simp [b2]
  by_cases b3 : (ks.length : Int) = kidsN op
  · by_cases b5 : op = 1
    · subst b5
      cases b4 : (ks.any fun k => k.op == 0) <;> simp [b3, b4]
    · by_cases b6 : op = 2
      · subst b6
        cases b4 : (ks.any fun k => k.op == 0) <;> simp [b3, b4]
      · cases b4 : (ks.any fun k => k.op == 0) <;> simp [b1, b2, b3, b4, b5, b6]
  · simp [b1, b2, b3]
theorem depthXs_max : ∀ (ks : List Exp) (a : Nat) (n b : Int), depthXs ks a n ≤ b ↔ n ≤ b ∧ ∀ k ∈ ks, depthX k a ≤ b
  | [], a, n, b => by simp [depthXs]
  | k :: ks, a, n, b => by
    simp only [depthXs, List.mem_cons, forall_eq_or_imp]
    rw [depthXs_max ks a _ b, Int.max_le, and_assoc]
theorem nodesXs_all : ∀ (ks : List Exp) (a : Nat) (p : Exp → Bool), (nodesXs ks a).all p = ks.all fun k => (nodesX k a).all p
  | [], a, p => by simp [nodesXs]
  | k :: ks, a, p => by simp [nodesXs, nodesXs_all ks a p]
theorem shaped_iff : ∀ (n : Nat) (x : Exp), SizeOf.sizeOf x < n → ∀ d : Nat, 1 ≤ d → d ≤ 6 → (shapedX x d = true ↔ x.op ≠ 0 ∧ depthX x d ≤ 6 - (d : Int) ∧ (nodesX x d).all isNodeX = true)
  | 0, x, h => by omega
  | n + 1, .mk op v al fi ks, h => fun d hd1 hd6 => by
    have ih : ∀ k ∈ ks, ∀ d : Nat, 1 ≤ d → d ≤ 6 → (shapedX k d = true ↔ k.op ≠ 0 ∧ depthX k d ≤ 6 - (d : Int) ∧ (nodesX k d).all isNodeX = true) := fun k hk => shaped_iff n k (by have := List.sizeOf_lt_of_mem hk; simp at h; omega)
    have hop : (Exp.mk op v al fi ks).op = op := rfl
    rw [hop]
    by_cases h0 : op = 0
    · subst h0
      constructor
      · intro h; unfold shapedX at h; simp at h
      · intro h; exact absurd rfl h.1
    · have g0 : (op == 0 || decide ((d : Int) > 20)) = false := by simp [h0]; omega
      rw [nodesX_go g0, List.all_cons, nodesXs_all, isNode_parts]
      have hdp : depthX (.mk op v al fi ks) d = depthXs ks (d + 1) 0 + 1 := by
        conv => lhs; unfold depthX
        rw [g0]; rfl
      rw [hdp, show (depthXs ks (d + 1) 0 + 1 ≤ 6 - (d : Int)) ↔ (depthXs ks (d + 1) 0 ≤ 5 - (d : Int)) by omega, depthXs_max]
      unfold shapedX
      cases e1 : decide (op < 1) with
      | true => simp
      | false =>
      cases e2 : decide (op > 12) with
      | true => simp
      | false =>
      cases e3 : ((ks.length : Int) != kidsN op) with
      | true => simp
      | false =>
      cases e4 : decide ((d : Int) > 5) with
      | true =>
        have : ¬ (0 : Int) ≤ 5 - (d : Int) := by simp at e4; omega
        constructor
        · intro h; simp at h
        · rintro ⟨_, ⟨h, _⟩, _⟩; exact absurd h this
      | false =>
        have hd5 : d ≤ 5 := by simp at e4; omega
        have hle : (0 : Int) ≤ 5 - (d : Int) := by omega
        have hks : (op == 1 || op == 2) = true → ks = [] := by
          intro hh
          simp only [Bool.or_eq_true, beq_iff_eq] at hh
          have e3 : (ks.length : Int) = kidsN op := by simpa using e3
          rcases hh with rfl | rfl
          · exact List.length_eq_zero_iff.1 (by have : kidsN 1 = 0 := rfl; omega)
          · exact List.length_eq_zero_iff.1 (by have : kidsN 2 = 0 := rfl; omega)
        cases e5 : (op == 1) with
        | true =>
          have := hks (by rw [e5]; rfl)
          subst this
          have : op = 1 := by simpa using e5
          subst this
          simp [hle]
          omega
        | false =>
          cases e6 : (op == 2) with
          | true =>
            have := hks (by rw [e6]; simp)
            subst this
            have : op = 2 := by simpa using e6
            subst this
            simp [hle]
            omega
          | false =>
            have key : shapedXs ks (d + 1) = true ↔ (∀ k ∈ ks, k.op ≠ 0 ∧ depthX k (d + 1) ≤ 5 - (d : Int) ∧ (nodesX k (d + 1)).all isNodeX = true) := by
              rw [shapedXs_all, List.all_eq_true]
              constructor
              · intro h k hk
                have := (ih k hk (d + 1) (by omega) (by omega)).1 (h k hk)
                refine ⟨this.1, ?_, this.2.2⟩
                have := this.2.1
                omega
              · intro h k hk
                have := h k hk
                exact (ih k hk (d + 1) (by omega) (by omega)).2 ⟨this.1, by have := this.2.1; omega, this.2.2⟩
            simp only [Bool.or_false, cond_false, Bool.and_eq_true, key, Bool.not_false, true_and, List.all_eq_true, bne_iff_ne]
            constructor
            · rintro ⟨h1, h2, h3⟩
              exact ⟨h0, ⟨hle, fun k hk => (h1 k hk).2.1⟩, ⟨fun k hk => (h1 k hk).1, h2, h3⟩, fun k hk => by simpa using (h1 k hk).2.2⟩
            · rintro ⟨_, ⟨_, h1⟩, ⟨h2, h3, h4⟩, h5⟩
              exact ⟨fun k hk => ⟨h2 k hk, h1 k hk, by simpa using h5 k hk⟩, h3, h4⟩
theorem isExpr_eq (x : Exp) : isExpr x = isX x := by
  have h := shaped_iff _ x (Nat.lt_succ_self _) 1 (by omega) (by omega)
  unfold isExpr isX
  rw [Bool.eq_iff_iff]
  simp only [Bool.and_eq_true, decide_eq_true_eq]
  rw [h]
  have hp : x.op ≠ 0 ↔ 0 < (nodesX x 1).length := by
    obtain ⟨op, v, al, fi, ks⟩ := x
    show op ≠ 0 ↔ _
    by_cases h0 : op = 0
    · subst h0
      rw [nodesX_no (by rfl)]
      simp
    · rw [nodesX_go (by simp [h0])]
      simp [h0]
  rw [hp]
  constructor
  · rintro ⟨⟨h1, h2, h3⟩, h4⟩; exact ⟨by omega, h4, h3, h1⟩
  · rintro ⟨h1, h2, h3, h4⟩; exact ⟨⟨h4, by omega, h3⟩, h2⟩

/-! ### Patterns -/
def elHead (p : Pat) (i : Nat) (e : El) : Bool := headL e && (!((p.els.take i).any fun x => same x.al e.al) && !(e.neg && negAt p (i - 1)))
def elTail (e : El) : Bool := e.tys.all isName && (sameX e.cond zeroX || isX e.cond)
theorem elOk_eq (p : Pat) (i : Nat) (e : El) : elOk p i e = (elHead p i e && elTail e) := by
  unfold elOk elHead elTail isElemX
  generalize headL e = a
  generalize (!((p.els.take i).any fun x => same x.al e.al) && !(e.neg && negAt p (i - 1))) = b
  generalize (e.tys.all isName && (sameX e.cond zeroX || isX e.cond)) = c
  cases a <;> cases b <;> cases c <;> rfl
theorem idx_at {α : Type} {p : α → Bool} {l : List α} {i : Nat} {a : α} (h : l[i]? = some a) (hp : p a = true) : (idx p l = (i : Int)) ↔ (l.take i).any p = false := by
  rcases idx_cases p l with ⟨j, b, h1, h2, h3, h4⟩ | ⟨h1, h2⟩
  · rw [h1]
    constructor
    · intro e
      have e : j = i := by exact_mod_cast e
      subst e
      rw [List.any_eq_false]
      intro x hx
      obtain ⟨k, hk⟩ := List.getElem?_of_mem hx
      have hlt : k < j := by
        have := (List.getElem?_eq_some_iff.1 hk).1
        simp at this
        omega
      rw [List.getElem?_take, if_pos hlt] at hk
      simp [h4 k x hlt hk]
    · intro e
      have hge : i ≤ j := by
        rcases Nat.lt_or_ge j i with hlt | hge
        · have : (l.take i).any p = true := List.any_eq_true.2 ⟨b, List.mem_of_getElem? (i := j) (by rw [List.getElem?_take, if_pos hlt]; exact h2), h3⟩
          rw [this] at e; cases e
        · exact hge
      rcases Nat.lt_or_ge i j with hlt | hge'
      · have := h4 i a hlt h
        rw [hp] at this; cases this
      · have : j = i := by omega
        rw [this]
  · rw [h1]
    have := h2 a (List.mem_of_getElem? h)
    rw [hp] at this; cases this
theorem elHead_of {p : Pat} {i : Nat} {e : El} (h : p.els[i]? = some e) : elHead p i e = (isName e.al && ((idx (fun x => same x.al e.al) p.els == (i : Int)) && (!(decide ((e.tys.length : Int) < 1)) && (!(decide ((e.tys.length : Int) > 3)) && (rise e.tys && (!(e.plus && e.neg) && !(e.neg && negAt p (i - 1)))))))) := by
  have hk : (idx (fun x => same x.al e.al) p.els == (i : Int)) = !((p.els.take i).any fun x => same x.al e.al) := by
    have := idx_at (p := fun x => same x.al e.al) h (same_refl _)
    rw [Bool.eq_iff_iff]
    simp only [beq_iff_eq, Bool.not_eq_true']
    exact this
  rw [hk]
  unfold elHead headL
  generalize isName e.al = a
  generalize (!((p.els.take i).any fun x => same x.al e.al)) = b
  generalize (!(decide ((e.tys.length : Int) < 1))) = c
  generalize (!(decide ((e.tys.length : Int) > 3))) = d
  generalize rise e.tys = f
  generalize (!(e.plus && e.neg)) = g
  generalize (!(e.neg && negAt p (i - 1))) = k
  cases a <;> cases b <;> cases c <;> cases d <;> cases f <;> cases g <;> cases k <;> rfl
theorem elTail_bad {e : El} {i : Nat} {t : ByteArray} (h : e.tys[i]? = some t) (hb : isName t = false) : elTail e = false := by
  have : e.tys.all isName = false := by rw [List.all_eq_false]; exact ⟨t, List.mem_of_getElem? h, by simp [hb]⟩
  unfold elTail; rw [this]; rfl
theorem all_of_get {α : Type} {p : α → Bool} {l : List α} {i : Nat} (hi : l.length ≤ i) (h : ∀ j a, j < i → l[j]? = some a → p a = true) : l.all p = true := by
  rw [List.all_eq_true]
  intro a ha
  obtain ⟨j, hj⟩ := List.getElem?_of_mem ha
  exact h j a (by have := (List.getElem?_eq_some_iff.1 hj).1; omega) hj

/-! ### Put right -/
def swap2 : List Exp → List Exp
  | [a, b] => [b, a]
  | l => l
def zV : Vl := ⟨0, 0, nul⟩
/-- What a negation of that (put right) becomes. -/
def flipX (y : Exp) : Exp → Exp
  | .mk o1 _ _ _ k1 =>
    bif o1 == 12 then k1.headD zeroX
    else bif o1 == 6 then .mk 7 zV nul nul k1
    else bif o1 == 7 then .mk 6 zV nul nul k1
    else bif o1 == 8 then .mk 9 zV nul nul (swap2 k1)
    else bif o1 == 9 then .mk 8 zV nul nul (swap2 k1)
    else y
def turnX (op : Int) (v : Vl) (al fi : ByteArray) (ks : List Exp) : Exp := bif op == 12 then flipX (.mk op v al fi ks) (ks.headD zeroX) else .mk op v al fi ks
mutual
def normX : Exp → Exp
  | .mk op v al fi ks => turnX op v al fi (normXs ks)
def normXs : List Exp → List Exp
  | [] => []
  | k :: ks => normX k :: normXs ks
end
theorem normXs_eq : ∀ ks : List Exp, normXs ks = ks.map normX
  | [] => by simp [normXs]
  | k :: ks => by simp [normXs, normXs_eq ks]
theorem normXs_len (ks : List Exp) : (normXs ks).length = ks.length := by simp [normXs_eq]
mutual
/-- As many parts as the sign has. -/
def arX : Exp → Bool
  | .mk op _ _ _ ks => (ks.length : Int) == kidsN op && arXs ks
def arXs : List Exp → Bool
  | [] => true
  | k :: ks => arX k && arXs ks
end
theorem arXs_all : ∀ ks : List Exp, arXs ks = ks.all arX
  | [] => by simp [arXs]
  | k :: ks => by simp [arXs, arXs_all ks]
theorem ar_mem {op : Int} {v : Vl} {al fi : ByteArray} {ks : List Exp} {k : Exp} (h : arX (.mk op v al fi ks) = true) (hk : k ∈ ks) : arX k = true := by
  unfold arX at h
  rw [arXs_all] at h
  simp only [Bool.and_eq_true, List.all_eq_true] at h
  exact h.2 k hk
theorem ar_len {op : Int} {v : Vl} {al fi : ByteArray} {ks : List Exp} (h : arX (.mk op v al fi ks) = true) : (ks.length : Int) = kidsN op := by
  unfold arX at h
  simp only [Bool.and_eq_true, beq_iff_eq] at h
  exact h.1
theorem ar_mk {op : Int} {v : Vl} {al fi : ByteArray} {ks : List Exp} (h : (ks.length : Int) = kidsN op) (hk : ∀ k ∈ ks, arX k = true) : arX (.mk op v al fi ks) = true := by
  unfold arX
  rw [arXs_all]
  simp only [Bool.and_eq_true, beq_iff_eq, List.all_eq_true]
  exact ⟨h, hk⟩
theorem kids12 : kidsN 12 = 1 := rfl
theorem kids6 : kidsN 6 = 2 := rfl
theorem kids7 : kidsN 7 = 2 := rfl
theorem kids8 : kidsN 8 = 2 := rfl
theorem kids9 : kidsN 9 = 2 := rfl
theorem len1 {ks : List Exp} (h : (ks.length : Int) = 1) : ∃ k, ks = [k] := by
  match ks, h with
  | [k], _ => exact ⟨k, rfl⟩
  | [], h => simp at h
  | _ :: _ :: _, h => simp at h; omega
theorem len2 {ks : List Exp} (h : (ks.length : Int) = 2) : ∃ a b, ks = [a, b] := by
  match ks, h with
  | [a, b], _ => exact ⟨a, b, rfl⟩
  | [], h => simp at h
  | [_], h => simp at h
  | _ :: _ :: _ :: _, h => simp at h; omega
mutual
theorem ar_norm : ∀ (x : Exp), arX x = true → arX (normX x) = true
  | .mk op v al fi ks => fun h => by
    have hl := ar_len h
    have hk : ∀ k ∈ normXs ks, arX k = true := ars_norm ks (fun k hk => ar_mem h hk)
    have hy : arX (.mk op v al fi (normXs ks)) = true := ar_mk (by rw [normXs_len]; exact hl) hk
    unfold normX turnX
    cases h12 : (op == 12) with
    | false => exact hy
    | true =>
      have : op = 12 := by simpa using h12
      subst this
      rw [kids12] at hl
      obtain ⟨y, hyk⟩ := len1 (ks := normXs ks) (by rw [normXs_len]; exact hl)
      rw [hyk] at hk hy ⊢
      obtain ⟨o1, v1, a1, f1, k1⟩ := y
      have hw := hk (.mk o1 v1 a1 f1 k1) (by simp)
      have hl1 := ar_len hw
      simp only [List.headD_cons, cond_true]
      unfold flipX
      cases e1 : (o1 == 12) with
      | true =>
        have : o1 = 12 := by simpa using e1
        subst this
        rw [kids12] at hl1
        obtain ⟨z, rfl⟩ := len1 hl1
        exact ar_mem hw (by simp)
      | false =>
      cases e2 : (o1 == 6) with
      | true =>
        have : o1 = 6 := by simpa using e2
        subst this
        exact ar_mk (by rw [kids7]; rw [kids6] at hl1; exact hl1) fun k hk => ar_mem hw hk
      | false =>
      cases e3 : (o1 == 7) with
      | true =>
        have : o1 = 7 := by simpa using e3
        subst this
        exact ar_mk (by rw [kids6]; rw [kids7] at hl1; exact hl1) fun k hk => ar_mem hw hk
      | false =>
      cases e4 : (o1 == 8) with
      | true =>
        have : o1 = 8 := by simpa using e4
        subst this
        rw [kids8] at hl1
        obtain ⟨a, b, rfl⟩ := len2 hl1
        exact ar_mk (by rw [kids9]; rfl) fun k hk => by
          simp [swap2] at hk
          rcases hk with rfl | rfl <;> exact ar_mem hw (by simp)
      | false =>
      cases e5 : (o1 == 9) with
      | true =>
        have : o1 = 9 := by simpa using e5
        subst this
        rw [kids9] at hl1
        obtain ⟨a, b, rfl⟩ := len2 hl1
        exact ar_mk (by rw [kids8]; rfl) fun k hk => by
          simp [swap2] at hk
          rcases hk with rfl | rfl <;> exact ar_mem hw (by simp)
      | false =>
        show arX (bif o1 == 12 then _ else bif o1 == 6 then _ else bif o1 == 7 then _ else bif o1 == 8 then _ else bif o1 == 9 then _ else _) = true
        rw [e1, e2, e3, e4, e5]; exact hy
theorem ars_norm : ∀ (ks : List Exp), (∀ k ∈ ks, arX k = true) → ∀ k ∈ normXs ks, arX k = true
  | [], _ => by simp [normXs]
  | k :: ks, h => by
    intro y hy
    simp only [normXs, List.mem_cons] at hy
    rcases hy with rfl | hy
    · exact ar_norm k (h k (by simp))
    · exact ars_norm ks (fun z hz => h z (by simp [hz])) y hy
end
mutual
theorem shaped_ar : ∀ (x : Exp) (d : Nat), shapedX x d = true → arX x = true
  | .mk op v al fi ks, d => fun h => by
    unfold shapedX at h
    cases h1 : (decide (op < 1) || (decide (op > 12) || (((ks.length : Int) != kidsN op) || decide ((d : Int) > 5)))) with
    | true => rw [h1] at h; cases h
    | false =>
      rw [h1] at h
      simp only [Bool.or_eq_false_iff, decide_eq_false_iff_not, bne_eq_false_iff_eq] at h1
      obtain ⟨g1, g2, g3, g4⟩ := h1
      refine ar_mk g3 fun k hk => ?_
      simp only [cond_false] at h
      cases e1 : (op == 1) with
      | true =>
        have : op = 1 := by simpa using e1
        subst this
        have : ks = [] := List.length_eq_zero_iff.1 (by have : kidsN 1 = 0 := rfl; omega)
        subst this
        cases hk
      | false =>
        cases e2 : (op == 2) with
        | true =>
          have : op = 2 := by simpa using e2
          subst this
          have : ks = [] := List.length_eq_zero_iff.1 (by have : kidsN 2 = 0 := rfl; omega)
          subst this
          cases hk
        | false =>
          rw [e1, e2] at h
          simp only [cond_false, Bool.and_eq_true] at h
          exact shapeds_ar ks (d + 1) h.1 k hk
theorem shapeds_ar : ∀ (ks : List Exp) (d : Nat), shapedXs ks d = true → ∀ k ∈ ks, arX k = true
  | [], d => fun h k hk => by cases hk
  | y :: ks, d => fun h k hk => by
    simp only [shapedXs, Bool.and_eq_true] at h
    rcases List.mem_cons.1 hk with e | hk
    · rw [e]; exact shaped_ar y d h.1
    · exact shapeds_ar ks d h.2 k hk
end
theorem isX_ar {x : Exp} (h : isX x = true) : arX x = true := by
  rw [← isExpr_eq] at h
  unfold isExpr at h
  simp only [Bool.and_eq_true] at h
  exact shaped_ar x 1 h.1

/-! ### Patterns put right, equal -/
/-- What an alias of the one row is called in the other. -/
def nm (fr to : List El) (al : ByteArray) : ByteArray := match fr.findIdx? (fun e => same e.al al) with
  | some i => match to[i]? with
    | some e => e.al
    | none => al
  | none => al
/-- A bound for the conditions' sizes. -/
noncomputable def bigE : List El → Nat
  | [] => 0
  | e :: l => SizeOf.sizeOf e.cond + bigE l
/-! ### Law 12 -/
end Go.AL
