/- Parts of an abstract logic over the kit's walks, and walks in it: Nrm. -/
import Derived.Test.YtaghhofbaoaajaaBa
/- Conditions put right, shapes told as the document tells them: plain data. Nothing of a program. -/
namespace Go.AL
set_option linter.unusedVariables false
set_option linter.unusedSimpArgs false

/-! ### Shape -/
def noNames (al fi : ByteArray) : Bool := same al nul && same fi nul
mutual
def shapedX : Exp → Nat → Bool
  | .mk op v al fi ks, d =>
    bif decide (op < 1) || (decide (op > 12) || (((ks.length : Int) != kidsN op) || decide ((d : Int) > 5))) then false
    else bif op == 1 then isVal v && noNames al fi
    else bif op == 2 then sameV v ⟨0, 0, nul⟩ && (isName al && isName fi)
    else shapedXs ks (d + 1) && (sameV v ⟨0, 0, nul⟩ && noNames al fi)
def shapedXs : List Exp → Nat → Bool
  | [], _ => true
  | k :: ks, d => shapedX k d && shapedXs ks d
end
theorem shapedXs_all : ∀ (ks : List Exp) (d : Nat), shapedXs ks d = ks.all fun k => shapedX k d
  | [], d => by simp [shapedXs]
  | k :: ks, d => by simp [shapedXs, shapedXs_all ks d]
/-! as many nodes as a shape has at the most -/
/-! #### the document's shape is the program's -/
/-! ### Patterns -/
/-! ### Put right -/
def swap2 : List Exp → List Exp
  | [a, b] => [b, a]
  | l => l
def zV : Vl := ⟨0, 0, nul⟩
/-- What a negation of that (put right) becomes. -/
def flipX (y : Exp) : Exp → Exp
  | .mk o1 _ _ _ k1 =>
    bif o1 == 12 then k1.headD zeroX
    else bif o1 == 6 then .mk 7 zV nul nul k1
    else bif o1 == 7 then .mk 6 zV nul nul k1
    else bif o1 == 8 then .mk 9 zV nul nul (swap2 k1)
    else bif o1 == 9 then .mk 8 zV nul nul (swap2 k1)
    else y
def turnX (op : Int) (v : Vl) (al fi : ByteArray) (ks : List Exp) : Exp := bif op == 12 then flipX (.mk op v al fi ks) (ks.headD zeroX) else .mk op v al fi ks
mutual
def normX : Exp → Exp
  | .mk op v al fi ks => turnX op v al fi (normXs ks)
def normXs : List Exp → List Exp
  | [] => []
  | k :: ks => normX k :: normXs ks
end
theorem normXs_eq : ∀ ks : List Exp, normXs ks = ks.map normX
  | [] => by simp [normXs]
  | k :: ks => by simp [normXs, normXs_eq ks]
theorem normXs_len (ks : List Exp) : (normXs ks).length = ks.length := by simp [normXs_eq]
mutual
/-- As many parts as the sign has. -/
def arX : Exp → Bool
  | .mk op _ _ _ ks => (ks.length : Int) == kidsN op && arXs ks
def arXs : List Exp → Bool
  | [] => true
  | k :: ks => arX k && arXs ks
end
theorem arXs_all : ∀ ks : List Exp, arXs ks = ks.all arX
  | [] => by simp [arXs]
  | k :: ks => by simp [arXs, arXs_all ks]
theorem ar_mem {op : Int} {v : Vl} {al fi : ByteArray} {ks : List Exp} {k : Exp} (h : arX (.mk op v al fi ks) = true) (hk : k ∈ ks) : arX k = true := by
  unfold arX at h
  rw [arXs_all] at h
  simp only [Bool.and_eq_true, List.all_eq_true] at h
  exact h.2 k hk
theorem ar_len {op : Int} {v : Vl} {al fi : ByteArray} {ks : List Exp} (h : arX (.mk op v al fi ks) = true) : (ks.length : Int) = kidsN op := by
  unfold arX at h
  simp only [Bool.and_eq_true, beq_iff_eq] at h
  exact h.1
theorem ar_mk {op : Int} {v : Vl} {al fi : ByteArray} {ks : List Exp} (h : (ks.length : Int) = kidsN op) (hk : ∀ k ∈ ks, arX k = true) : arX (.mk op v al fi ks) = true := by
  unfold arX
  rw [arXs_all]
  simp only [Bool.and_eq_true, beq_iff_eq, List.all_eq_true]
  exact ⟨h, hk⟩
theorem kids12 : kidsN 12 = 1 := rfl
theorem kids6 : kidsN 6 = 2 := rfl
theorem kids7 : kidsN 7 = 2 := rfl
theorem kids8 : kidsN 8 = 2 := rfl
theorem kids9 : kidsN 9 = 2 := rfl
theorem len1 {ks : List Exp} (h : (ks.length : Int) = 1) : ∃ k, ks = [k] := by
  match ks, h with
  | [k], _ => exact ⟨k, rfl⟩
  | [], h => simp at h
  | _ :: _ :: _, h => simp at h; omega
theorem len2 {ks : List Exp} (h : (ks.length : Int) = 2) : ∃ a b, ks = [a, b] := by
  match ks, h with
  | [a, b], _ => exact ⟨a, b, rfl⟩
  | [], h => simp at h
  | [_], h => simp at h
  | _ :: _ :: _ :: _, h => simp at h; omega
mutual
theorem ar_norm : ∀ (x : Exp), arX x = true → arX (normX x) = true
  | .mk op v al fi ks => fun h => by
    have hl := ar_len h
    have hk : ∀ k ∈ normXs ks, arX k = true := ars_norm ks (fun k hk => ar_mem h hk)
    have hy : arX (.mk op v al fi (normXs ks)) = true := ar_mk (by rw [normXs_len]; exact hl) hk
    unfold normX turnX
    cases h12 : (op == 12) with
    | false => exact hy
    | true =>
      have : op = 12 := by simpa using h12
      subst this
      rw [kids12] at hl
      obtain ⟨y, hyk⟩ := len1 (ks := normXs ks) (by rw [normXs_len]; exact hl)
      rw [hyk] at hk hy ⊢
      obtain ⟨o1, v1, a1, f1, k1⟩ := y
      have hw := hk (.mk o1 v1 a1 f1 k1) (by simp)
      have hl1 := ar_len hw
      simp only [List.headD_cons, cond_true]
      unfold flipX
      cases e1 : (o1 == 12) with
      | true =>
        have : o1 = 12 := by simpa using e1
        subst this
        rw [kids12] at hl1
        obtain ⟨z, rfl⟩ := len1 hl1
        exact ar_mem hw (by simp)
      | false =>
      cases e2 : (o1 == 6) with
      | true =>
        have : o1 = 6 := by simpa using e2
        subst this
        exact ar_mk (by rw [kids7]; rw [kids6] at hl1; exact hl1) fun k hk => ar_mem hw hk
      | false =>
      cases e3 : (o1 == 7) with
      | true =>
        have : o1 = 7 := by simpa using e3
        subst this
        exact ar_mk (by rw [kids6]; rw [kids7] at hl1; exact hl1) fun k hk => ar_mem hw hk
      | false =>
      cases e4 : (o1 == 8) with
      | true =>
        have : o1 = 8 := by simpa using e4
        subst this
        rw [kids8] at hl1
        obtain ⟨a, b, rfl⟩ := len2 hl1
        exact ar_mk (by rw [kids9]; rfl) fun k hk => by
          simp [swap2] at hk
          rcases hk with rfl | rfl <;> exact ar_mem hw (by simp)
      | false =>
      cases e5 : (o1 == 9) with
      | true =>
        have : o1 = 9 := by simpa using e5
        subst this
        rw [kids9] at hl1
        obtain ⟨a, b, rfl⟩ := len2 hl1
        exact ar_mk (by rw [kids8]; rfl) fun k hk => by
          simp [swap2] at hk
          rcases hk with rfl | rfl <;> exact ar_mem hw (by simp)
      | false =>
        show arX (bif o1 == 12 then _ else bif o1 == 6 then _ else bif o1 == 7 then _ else bif o1 == 8 then _ else bif o1 == 9 then _ else _) = true
        rw [e1, e2, e3, e4, e5]; exact hy
theorem ars_norm : ∀ (ks : List Exp), (∀ k ∈ ks, arX k = true) → ∀ k ∈ normXs ks, arX k = true
  | [], _ => by simp [normXs]
  | k :: ks, h => by
    intro y hy
    simp only [normXs, List.mem_cons] at hy
    rcases hy with rfl | hy
    · exact ar_norm k (h k (by simp))
    · exact ars_norm ks (fun z hz => h z (by simp [hz])) y hy
end
mutual
theorem shaped_ar : ∀ (x : Exp) (d : Nat), shapedX x d = true → arX x = true
  | .mk op v al fi ks, d => fun h => by
    unfold shapedX at h
    cases h1 : (decide (op < 1) || (decide (op > 12) || (((ks.length : Int) != kidsN op) || decide ((d : Int) > 5)))) with
    | true => rw [h1] at h; cases h
    | false =>
      rw [h1] at h
      simp only [Bool.or_eq_false_iff, decide_eq_false_iff_not, bne_eq_false_iff_eq] at h1
      obtain ⟨g1, g2, g3, g4⟩ := h1
      refine ar_mk g3 fun k hk => ?_
      simp only [cond_false] at h
      cases e1 : (op == 1) with
      | true =>
        have : op = 1 := by simpa using e1
        subst this
        have : ks = [] := List.length_eq_zero_iff.1 (by have : kidsN 1 = 0 := rfl; omega)
        subst this
        cases hk
      | false =>
        cases e2 : (op == 2) with
        | true =>
          have : op = 2 := by simpa using e2
          subst this
          have : ks = [] := List.length_eq_zero_iff.1 (by have : kidsN 2 = 0 := rfl; omega)
          subst this
          cases hk
        | false =>
          rw [e1, e2] at h
          simp only [cond_false, Bool.and_eq_true] at h
          exact shapeds_ar ks (d + 1) h.1 k hk
theorem shapeds_ar : ∀ (ks : List Exp) (d : Nat), shapedXs ks d = true → ∀ k ∈ ks, arX k = true
  | [], d => fun h k hk => by cases hk
  | y :: ks, d => fun h k hk => by
    simp only [shapedXs, Bool.and_eq_true] at h
    rcases List.mem_cons.1 hk with e | hk
    · rw [e]; exact shaped_ar y d h.1
    · exact shapeds_ar ks d h.2 k hk
end
/-! ### Patterns put right, equal -/
/-- What an alias of the one row is called in the other. -/
def nm (fr to : List El) (al : ByteArray) : ByteArray := match fr.findIdx? (fun e => same e.al al) with
  | some i => match to[i]? with
    | some e => e.al
    | none => al
  | none => al
/-- A bound for the conditions' sizes. -/
noncomputable def bigE : List El → Nat
  | [] => 0
  | e :: l => SizeOf.sizeOf e.cond + bigE l
/-! ### Law 12 -/
end Go.AL
