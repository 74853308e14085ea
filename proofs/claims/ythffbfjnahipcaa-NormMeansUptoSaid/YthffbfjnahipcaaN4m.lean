/- Parts of an abstract logic over the kit's walks, and walks in it: N4m. -/
import Derived.Test.YthffbfjnahipcaaN4b
import Derived.Test.YthffbfjnahipcaaN4c
import Derived.Test.YthffbfjnahipcaaN4e
import Derived.Test.YthffbfjnahipcaaN2m
namespace Go.Proofs.Ythffbfjnahipcaa
open Go Go.AL
set_option linter.unusedVariables false
set_option linter.unusedSimpArgs false
set_option maxHeartbeats 4000000
theorem normMeansOk (s : List Ty) (x : Exp) (l : List Bi) (es : List El) (hx : (nodesX x 1).length ≤ 1048576) : Does Try.prog 8 [argS s, argX x, .d (.sl 4 64 (l.map encBi)), .d (.sl 11 144 (es.map encL))] noHeap (.d (boo true)) := by
  refine Does_of T_ok mixed (N := 145) Try.func8 rfl rfl rfl (by rfl) fun F n Z hE hF J => ?_
  have c1 := refNodesOk x hx
  have c2 := normEOk x
  have c3 := refEvalOk s x l
  have c4 := refEvalOk s (normE x) l
  have c5 := refKindOk s es x
  have c6 := refKindOk s es (normE x)
  have c7 := refIsXOk (normE x)
  have c8 := refIsXOk x
  have hm := fun (hS : Suits s l es) (h : isX x = true) => means_law hS h
  obtain ⟨ra, hra⟩ : ∃ z, evalR s x l = z := ⟨_, rfl⟩
  obtain ⟨rb, hrb⟩ : ∃ z, evalR s (normE x) l = z := ⟨_, rfl⟩
  obtain ⟨ka, hka⟩ : ∃ z, kindR s es x = z := ⟨_, rfl⟩
  obtain ⟨kb, hkb⟩ : ∃ z, kindR s es (normE x) = z := ⟨_, rfl⟩
  rw [hra] at c3 hm
  rw [hrb] at c4 hm
  rw [hka] at c5 hm
  rw [hkb] at c6 hm
  clear hra hrb hka hkb
  obtain ⟨o3, v3, a3, f3, k3, hN⟩ := Exp.shape (normE x)
  rw [hN] at c2 c4 c6 c7 hm
  clear hN
  obtain ⟨o1, v1, a1, f1, k1, rfl⟩ := Exp.shape x
  refine CW_seq ?_
  refine CW_region ?_
  refine OW_run' hE.ok 3 rfl ?_
  refine OW_end rfl ?_
  refine CW_seq ?_
  refine CW_seq ?_
  refine CW_region ?_
  refine OW_call' hE (known12) rfl rfl rfl rfl rfl rfl rfl ?_
  refine OW_run' hE.ok 1 rfl ?_
  refine OW_end rfl ?_
  refine CW_false rfl ?_
  refine CW_skip ?_
  refine CW_seq ?_
  refine CW_seq ?_
  refine CW_region ?_
  refine OW_run' hE.ok 1 rfl ?_
  refine OW_call' hE (refIsSOk s) rfl rfl rfl rfl rfl rfl rfl ?_
  refine OW_run' hE.ok 2 rfl ?_
  refine OW_split' 25 rfl (fun h1 => ?_) (fun h1 => ?_)
  · skip
    refine OW_run' hE.ok 20 rfl ?_
    refine OW_end rfl ?_
    refine CW_true rfl ?_
    refine CW_seq ?_
    refine CW_region ?_
    refine OW_run' hE.ok 1 rfl ?_
    refine OW_end rfl ?_
    refine CW_ret ?_
    refine ⟨.inr rfl, rfl, ⟨[.d (boo true)], rfl, rfl, ?_⟩, rfl⟩
    exact AVle.refl _
  · skip
    refine OW_run' hE.ok 5 rfl ?_
    refine OW_split' 30 rfl (fun h2 => ?_) (fun h2 => ?_)
    · skip
      refine OW_run' hE.ok 15 rfl ?_
      refine OW_end rfl ?_
      refine CW_true rfl ?_
      refine CW_seq ?_
      refine CW_region ?_
      refine OW_run' hE.ok 1 rfl ?_
      refine OW_end rfl ?_
      refine CW_ret ?_
      refine ⟨.inr rfl, rfl, ⟨[.d (boo true)], rfl, rfl, ?_⟩, rfl⟩
      exact AVle.refl _
    · skip
      refine OW_run' hE.ok 5 rfl ?_
      refine OW_split' 35 rfl (fun h3 => ?_) (fun h3 => ?_)
      · skip
        refine OW_run' hE.ok 10 rfl ?_
        refine OW_end rfl ?_
        refine CW_true rfl ?_
        refine CW_seq ?_
        refine CW_region ?_
        refine OW_run' hE.ok 1 rfl ?_
        refine OW_end rfl ?_
        refine CW_ret ?_
        refine ⟨.inr rfl, rfl, ⟨[.d (boo true)], rfl, rfl, ?_⟩, rfl⟩
        exact AVle.refl _
      · skip
        refine OW_run' hE.ok 1 rfl ?_
        refine OW_call' hE (c1) rfl rfl rfl rfl rfl rfl rfl ?_
        refine OW_run' hE.ok 4 rfl ?_
        refine OW_split' 41 rfl (fun h4 => ?_) (fun h4 => ?_)
        · skip
          refine OW_run' hE.ok 4 rfl ?_
          refine OW_end rfl ?_
          refine CW_true rfl ?_
          refine CW_seq ?_
          refine CW_region ?_
          refine OW_run' hE.ok 1 rfl ?_
          refine OW_end rfl ?_
          refine CW_ret ?_
          refine ⟨.inr rfl, rfl, ⟨[.d (boo true)], rfl, rfl, ?_⟩, rfl⟩
          exact AVle.refl _
        · skip
          refine OW_run' hE.ok 1 rfl ?_
          refine OW_call' hE (c8) rfl rfl rfl rfl rfl rfl rfl ?_
          refine OW_run' hE.ok 2 rfl ?_
          refine OW_end rfl ?_
          refine CW_cond _ rfl (fun h5 => ?_) (fun h5 => ?_)
          · skip
            refine CW_seq ?_
            refine CW_region ?_
            refine OW_run' hE.ok 1 rfl ?_
            refine OW_end rfl ?_
            refine CW_ret ?_
            refine ⟨.inr rfl, rfl, ⟨[.d (boo true)], rfl, rfl, ?_⟩, rfl⟩
            exact AVle.refl _
          · skip
            have hix : isX (.mk o1 v1 a1 f1 k1) = true := by have := h5; simpa using this
            refine CW_skip ?_
            refine CW_seq ?_
            refine CW_seq ?_
            refine CW_region ?_
            refine OW_run' hE.ok 1 rfl ?_
            refine OW_end rfl ?_
            refine CW_block ?_
            refine CW_loop (σ := {i : Nat // i ≤ l.length ∧ ∀ (j : Nat) (b : Bi), j < i → l[j]? = some b → evtR s b.ev = 0 ∧ ∃ i e, es.findIdx? (fun x => same x.al b.al) = some i ∧ es[i]? = some e ∧ b.ev.ty ∈ e.tys}) (fun i => ⟨J, (sset (sset (sset (sset (sset noSlots 2 (.d (.sl 4 64 (l.map encBi)))) 3 (.d (.sl 11 144 (es.map encL)))) 4 (.d (.iptr [encS s]))) 5 (.d (.iptr (encX (.mk o1 v1 a1 f1 k1))))) 9 (.d (int ((i.1 : Nat) : Int)))), noHeap⟩) (fun i => l.length - i.1) ⟨0, Nat.zero_le _, fun j a hj => by omega⟩ (LE_sh (slh_set (slh_set (slh_set (slh_set (slh_set (slh_no _ _) rfl rfl) rfl rfl) rfl rfl) rfl rfl) rfl rfl) (hlh_no _ _)) fun ⟨i, hi, hp⟩ => ?_
            refine CW_seq ?_
            refine CW_seq ?_
            refine CW_region ?_
            refine OW_run' hE.ok 4 rfl ?_
            refine OW_end rfl ?_
            refine CW_cond _ rfl (fun h6 => ?_) (fun h6 => ?_)
            · skip
              refine CW_know (know_sl (d := 2) rfl) fun hlen => ?_
              rw [List.length_map] at hlen
              refine CW_know (know_sl (d := 3) rfl) fun hlen3 => ?_
              rw [List.length_map] at hlen3
              have hlt : i < l.length := by have := h6; simp at this; omega
              obtain ⟨b, hb⟩ : ∃ b, l[i]? = some b := ⟨_, List.getElem?_eq_getElem hlt⟩
              obtain ⟨bal, bty, bts, bvals, rfl⟩ := Bi.shape b
              refine CW_skip ?_
              refine CW_seq ?_
              refine CW_block ?_
              refine CW_seq ?_
              refine CW_region ?_
              refine OW_run' hE.ok 3 rfl ?_
              refine OW_loc' hE (loc_indexAddr hE rfl rfl rfl rfl rfl (by omega) (x := encBi ⟨bal, ⟨bty, bts, bvals⟩⟩) (by simp [hb])) rfl rfl rfl ?_
              refine OW_run' hE.ok 2 rfl ?_
              refine OW_call' hE (refAliasOk es bal) rfl rfl rfl rfl rfl rfl rfl ?_
              refine OW_run' hE.ok 1 rfl ?_
              refine OW_end rfl ?_
              refine CW_seq ?_
              refine CW_drawn' hE 24 (by decide +kernel) ?_
              refine HW_run hE 3 rfl rfl ?_
              refine HW_loc hE (loc_indexAddr hE rfl rfl rfl rfl rfl (by omega) (x := encBi ⟨bal, ⟨bty, bts, bvals⟩⟩) (by simp [hb])) rfl rfl rfl rfl ?_
              refine HW_run hE 2 rfl rfl ?_
              refine HW_call hE (refIsEOk s ⟨bty, bts, bvals⟩) rfl rfl rfl rfl rfl rfl rfl rfl ?_
              refine HW_run hE 2 rfl rfl ?_
              refine HW_split 67 rfl (fun h7 => ?_) (fun h7 => ?_)
              · skip
                refine HW_run hE 15 rfl rfl ?_
                refine HW_end ?_
                refine OW_run' hE.ok 3 rfl ?_
                refine OW_end rfl ?_
                refine CW_true rfl ?_
                refine CW_seq ?_
                refine CW_region ?_
                refine OW_run' hE.ok 1 rfl ?_
                refine OW_end rfl ?_
                refine CW_ret ?_
                refine ⟨.inr rfl, rfl, ⟨[.d (boo true)], rfl, rfl, ?_⟩, rfl⟩
                exact AVle.refl _
              · skip
                have ge : evtR s ⟨bty, bts, bvals⟩ = 0 := by have := h7; simpa using this
                refine HW_run hE 4 rfl rfl ?_
                refine HW_split 71 rfl (fun h8 => ?_) (fun h8 => ?_)
                · skip
                  refine HW_run hE 11 rfl rfl ?_
                  refine HW_end ?_
                  refine OW_run' hE.ok 3 rfl ?_
                  refine OW_end rfl ?_
                  refine CW_true rfl ?_
                  refine CW_seq ?_
                  refine CW_region ?_
                  refine OW_run' hE.ok 1 rfl ?_
                  refine OW_end rfl ?_
                  refine CW_ret ?_
                  refine ⟨.inr rfl, rfl, ⟨[.d (boo true)], rfl, rfl, ?_⟩, rfl⟩
                  exact AVle.refl _
                · skip
                  obtain ⟨k, el, hk, hel⟩ : ∃ (k : Nat) (el : El), (idx (fun e : El => same e.al bal) es) = (k : Int) ∧ es[k]? = some el := by (have hh := h8; rcases idx_cases (fun e : El => same e.al bal) es with ⟨k, el, q1, q2, _⟩ | ⟨q1, _⟩; exact ⟨k, el, q1, q2⟩; rw [q1] at hh; simp at hh)
                  have hkl := (List.getElem?_eq_some_iff.1 hel).1
                  obtain ⟨y1, y2, y3, y4, y5, y6, y7, y8, y9, rfl⟩ := El.shape el
                  refine HW_run hE 2 rfl rfl ?_
                  refine HW_as 73 (.d (int (k : Nat))) (congrArg (fun z => AV.d (int z)) hk) ?_
                  refine HW_loc hE (loc_indexAddr hE rfl rfl rfl rfl rfl (by omega) (x := encL ⟨y1, y2, y3, y4, .mk y5 y6 y7 y8 y9⟩) (by simp [hel])) rfl rfl rfl rfl ?_
                  refine HW_run hE 4 rfl rfl ?_
                  refine HW_loc hE (loc_indexAddr hE rfl rfl rfl rfl rfl (by omega) (x := encBi ⟨bal, ⟨bty, bts, bvals⟩⟩) (by simp [hb])) rfl rfl rfl rfl ?_
                  refine HW_run hE 3 rfl rfl ?_
                  refine HW_end ?_
                  refine OW_call' hE (amongOk y2 bty) rfl rfl rfl rfl rfl rfl rfl ?_
                  refine OW_run' hE.ok 2 rfl ?_
                  refine OW_end rfl ?_
                  refine CW_cond _ rfl (fun h9 => ?_) (fun h9 => ?_)
                  · skip
                    refine CW_seq ?_
                    refine CW_region ?_
                    refine OW_run' hE.ok 1 rfl ?_
                    refine OW_end rfl ?_
                    refine CW_ret ?_
                    refine ⟨.inr rfl, rfl, ⟨[.d (boo true)], rfl, rfl, ?_⟩, rfl⟩
                    exact AVle.refl _
                  · skip
                    have gam : amongB y2 bty = true := by have := h9; simpa using this
                    refine CW_skip ?_
                    refine CW_region ?_
                    refine OW_run' hE.ok 3 rfl ?_
                    refine OW_end rfl ?_
                    refine ⟨⟨i + 1, by omega, fun j x hj hx => ?_⟩, LE_sh (slh_set (v := .d (int ((i + 1 : Nat) : Int))) (slh_set (v := .d (.iptr (encX (.mk o1 v1 a1 f1 k1)))) (slh_set (v := .d (.iptr [encS s])) (slh_set (v := .d (.sl 11 144 (es.map encL))) (slh_set (v := .d (.sl 4 64 (l.map encBi))) (slh_no _ _) (by rfl) rfl) (by rfl) rfl) (by rfl) rfl) (by rfl) rfl) (by show AV.d (.lit (.int .i64 (IntKind.i64.wrap ((i : Int) + 1)))) = _; rw [wrap_succ (by omega)]; rfl) rfl) (hlh_no _ _), by show l.length - (i + 1) < l.length - i; omega⟩
                    by_cases hji : j = i
                    · subst hji; rw [hb] at hx; cases hx; exact suits_one ge hk hel gam
                    · exact hp j x (by omega) hx
            · skip
              have hge : l.length ≤ i := by have := h6; simp at this; omega
              have hS : Suits s l es := fun b hb => by obtain ⟨j, hj⟩ := List.getElem?_of_mem hb; exact hp j b (by have := (List.getElem?_eq_some_iff.1 hj).1; omega) hj
              obtain ⟨m1, m2⟩ := hm hS hix
              rw [m1] at c7
              have m3 : ka.2 = 0 → kb = ka := fun h => (m2 h).1
              have m4 : ka.2 = 0 → (ra.2 == 0) = (rb.2 == 0) := fun h => (m2 h).2.1
              have m5 : ka.2 = 0 → ra.1 = rb.1 := fun h => (m2 h).2.2
              clear m2
              refine CW_exit ?_
              show CW _ _ _ _
              refine CW_seq ?_
              refine CW_region ?_
              refine OW_run' hE.ok 1 rfl ?_
              refine OW_call' hE (c2) rfl rfl rfl rfl rfl rfl rfl ?_
              refine OW_alloc' hE 1 rfl rfl rfl rfl rfl rfl rfl ?_
              refine OW_store' hE rfl rfl rfl rfl rfl rfl rfl rfl rfl rfl rfl rfl ?_
              refine OW_end rfl ?_
              refine CW_seq ?_
              refine CW_region ?_
              refine OW_run' hE.ok 3 rfl ?_
              refine OW_call' hE (c3) rfl rfl rfl rfl rfl rfl rfl ?_
              refine OW_run' hE.ok 3 rfl ?_
              refine OW_alloc' hE 2 rfl rfl rfl rfl rfl rfl rfl ?_
              refine OW_store' hE rfl rfl rfl rfl rfl rfl rfl rfl rfl rfl rfl rfl ?_
              refine OW_run' hE.ok 1 rfl ?_
              refine OW_end rfl ?_
              refine CW_seq ?_
              refine CW_region ?_
              refine OW_run' hE.ok 3 rfl ?_
              refine OW_call' hE (c4) rfl rfl rfl rfl rfl rfl rfl ?_
              refine OW_run' hE.ok 3 rfl ?_
              refine OW_alloc' hE 3 rfl rfl rfl rfl rfl rfl rfl ?_
              refine OW_store' hE rfl rfl rfl rfl rfl rfl rfl rfl rfl rfl rfl rfl ?_
              refine OW_run' hE.ok 1 rfl ?_
              refine OW_end rfl ?_
              refine CW_seq ?_
              refine CW_region ?_
              refine OW_run' hE.ok 3 rfl ?_
              refine OW_call' hE (c5) rfl rfl rfl rfl rfl rfl rfl ?_
              refine OW_run' hE.ok 5 rfl ?_
              refine OW_end rfl ?_
              refine CW_seq ?_
              refine CW_region ?_
              refine OW_run' hE.ok 3 rfl ?_
              refine OW_call' hE (c6) rfl rfl rfl rfl rfl rfl rfl ?_
              refine OW_run' hE.ok 5 rfl ?_
              refine OW_end rfl ?_
              refine CW_seq ?_
              refine CW_seq ?_
              refine CW_region ?_
              refine OW_run' hE.ok 3 rfl ?_
              refine OW_split' 118 rfl (fun h10 => ?_) (fun h10 => ?_)
              · skip
                have hz : ka.2 = 0 := eq_of_beq h10
                refine OW_run' hE.ok 1 rfl ?_
                refine OW_run' hE.ok 1 rfl ?_
                refine OW_as' 120 (.d (boo false)) (by refine congrArg (fun b => AV.d (boo b)) ?_; rw [m3 hz, hz]; rfl) ?_
                refine OW_run' hE.ok 3 rfl ?_
                refine OW_run' hE.ok 1 rfl ?_
                refine OW_as' 124 (.d (boo false)) (by refine congrArg (fun b => AV.d (boo b)) ?_; rw [m3 hz]; exact bne_self_eq_false _) ?_
                refine OW_run' hE.ok 2 rfl ?_
                refine OW_end rfl ?_
                refine CW_false rfl ?_
                refine CW_skip ?_
                refine CW_seq ?_
                refine CW_region ?_
                refine OW_run' hE.ok 1 rfl ?_
                refine OW_call' hE (c7) rfl rfl rfl rfl rfl rfl rfl ?_
                refine OW_run' hE.ok 4 rfl ?_
                refine OW_split' 132 rfl (fun h11 => ?_) (fun h11 => ?_)
                · skip
                  refine OW_run' hE.ok 13 rfl ?_
                  refine OW_end rfl ?_
                  refine CW_ret ?_
                  refine ⟨.inr rfl, rfl, ⟨[.d (boo true)], rfl, rfl, ?_⟩, rfl⟩
                  exact AVle.refl _
                · skip
                  have hz : ka.2 = 0 := bne_eq_false_iff_eq.1 h11
                  refine OW_run' hE.ok 4 rfl ?_
                  refine OW_run' hE.ok 1 rfl ?_
                  refine OW_as' 137 (.d (boo true)) (by refine congrArg (fun b => AV.d (boo b)) ?_; rw [m4 hz]; exact beq_self_eq_true _) ?_
                  refine OW_run' hE.ok 3 rfl ?_
                  refine OW_loc' hE (loc_eql rfl rfl rfl (r := sameV ra.1 rb.1) (eqLaw_flat T_ok (t := 24) rfl (by decide +kernel) rfl (X := encV ra.1) (Y := encV rb.1) rfl rfl rfl)) rfl rfl rfl ?_
                  refine OW_as' 141 (.d (boo true)) (by refine congrArg (fun b => AV.d (boo b)) ?_; rw [m5 hz, sameV_rfl]) ?_
                  refine OW_run' hE.ok 4 rfl ?_
                  refine OW_end rfl ?_
                  refine CW_ret ?_
                  refine ⟨.inr rfl, rfl, ⟨[.d (boo true)], rfl, rfl, ?_⟩, rfl⟩
                  exact AVle.refl _
              · skip
                refine OW_run' hE.ok 8 rfl ?_
                refine OW_end rfl ?_
                refine CW_false rfl ?_
                refine CW_skip ?_
                refine CW_seq ?_
                refine CW_region ?_
                refine OW_run' hE.ok 1 rfl ?_
                refine OW_call' hE (c7) rfl rfl rfl rfl rfl rfl rfl ?_
                refine OW_run' hE.ok 4 rfl ?_
                refine OW_split' 132 rfl (fun h12 => ?_) (fun h12 => ?_)
                · skip
                  refine OW_run' hE.ok 13 rfl ?_
                  refine OW_end rfl ?_
                  refine CW_ret ?_
                  refine ⟨.inr rfl, rfl, ⟨[.d (boo true)], rfl, rfl, ?_⟩, rfl⟩
                  exact AVle.refl _
                · skip
                  have hz : ka.2 = 0 := bne_eq_false_iff_eq.1 h12
                  refine OW_run' hE.ok 4 rfl ?_
                  refine OW_run' hE.ok 1 rfl ?_
                  refine OW_as' 137 (.d (boo true)) (by refine congrArg (fun b => AV.d (boo b)) ?_; rw [m4 hz]; exact beq_self_eq_true _) ?_
                  refine OW_run' hE.ok 3 rfl ?_
                  refine OW_loc' hE (loc_eql rfl rfl rfl (r := sameV ra.1 rb.1) (eqLaw_flat T_ok (t := 24) rfl (by decide +kernel) rfl (X := encV ra.1) (Y := encV rb.1) rfl rfl rfl)) rfl rfl rfl ?_
                  refine OW_as' 141 (.d (boo true)) (by refine congrArg (fun b => AV.d (boo b)) ?_; rw [m5 hz, sameV_rfl]) ?_
                  refine OW_run' hE.ok 4 rfl ?_
                  refine OW_end rfl ?_
                  refine CW_ret ?_
                  refine ⟨.inr rfl, rfl, ⟨[.d (boo true)], rfl, rfl, ?_⟩, rfl⟩
                  exact AVle.refl _
end Go.Proofs.Ythffbfjnahipcaa
