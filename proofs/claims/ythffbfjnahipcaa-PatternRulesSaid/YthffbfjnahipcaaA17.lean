/- AL, part 17: the rule for a range over a function. -/
import Derived.Test.YthffbfjnahipcaaA16
namespace Go.AL
set_option linter.unusedVariables false
set_option linter.unusedSimpArgs false

def fnOf : AV → Option (Nat × List AV × List AV)
  | .d (.fn (.func f) first cap) => some (f, first.map .d, cap.map .d)
  | .fn (.func f) first cap => some (f, first, cap)
  | _ => none
theorem fnOf_ok {C : Cx} {x : AV} {v : Value} {f : Nat} {first cap : List AV} (hx : fnOf x = some (f, first, cap)) (h : RA C x v) : ∃ vf vc, v = .func (.func f) vf vc ∧ RAs C first vf.toList ∧ RAs C cap vc.toList := by
  unfold fnOf at hx
  split at hx
  · cases hx
    simp only [RA, RD] at h
    obtain ⟨vf, vc, e, h1, h2⟩ := h
    exact ⟨vf, vc, e, RAs_map_d.2 h1, RAs_map_d.2 h2⟩
  · cases hx
    simp only [RA] at h
    exact h
  · cases hx

theorem cons_leave {E : Env} {tm : List Value} {rs : List Nat} {G l : Nat} {rec : Loop} {K Y Z Za Ya Ka : Nat → Prop} {w : World} {J : Jt} {h : Heap} {L : List AV} {ι : Nat → Value} (x : ConsX E.Z tm rs G l rec K Y Z w J h L ι Za Ya Ka) (rec2 : Loop) {a : Act}
    (ht : a.tmps.toList = tm) (hN : tm.length = E.N) (hd : a.defers = rs.map markOf) : RelS E ⟨J, listS L, h⟩ ι a (setO w l (.loop rec2)) := by
  have hgh : RAs (cx Za h ι w) L tm := (x.mem.ent G _ x.g).2
  refine ⟨Za, Ka, Ya, ⟨x.ez, x.yaz, x.mj⟩, x.mem.setO x.rc rfl x.lka, by rw [← hN, ← ht]; simp, fun i => RA_keeps (keepsC_obj x.rc rfl) _ _ ?_, rs, hd, x.rnd, fun q hq => ?_⟩
  · have := RAs_listS hgh i
    rw [← ht] at this
    simpa using this
  · obtain ⟨g1, g2, g3, g4, g5⟩ := x.rs q hq
    have hne : q ≠ l := by intro e; rw [e, x.rc] at g1; cases g1
    exact ⟨by rw [setO_ne _ _ _ hne]; exact g1, g4, g5⟩

theorem foldl_zip (ps : Array Tmp) (vs : List Value) (tm : Array Value) : (ps.zip vs.toArray).foldl (fun tmps (x : Tmp × Value) => tmps.setIfInBounds x.1 x.2) tm = (ps.toList.zip vs).foldl (fun t (x : Tmp × Value) => t.setIfInBounds x.1 x.2) tm := by
  rw [← Array.foldl_toList, Array.toList_zip]

theorem CW_rangeFunc {E : Env} {Q : Exit → St → Prop} {st : St} (hE : E.Good) (hF : E.F = Fence.wide) {g : Operand} {ps : Array Tmp} {assign body : Code} {f : Nat} {first cap : List AV} {ys : List (List AV)} (hI : Iter E.P f first cap ys)
    (hg : fnOf (ev st.s g) = some (f, first, cap)) (hkf : kfs first = true) (hkc : kfs cap = true) (hks : ∀ y ∈ ys, kfs y = true ∧ y.length = ps.size) (hps : ps.toList.all (fun p => Nat.ble (p + 1) E.N) = true) (G : Nat) (hG : st.h G = none)
    (Inv : List Value → Nat → Jt → Heap → Prop) (hOk : ∀ vs i J h, Inv vs i J h → (Mono st.J → Mono J) ∧ h G = some (.ghost (slotsL E.N st.s) vs)) (h0 : ∀ vs, Inv vs 0 st.J (hset st.h G (some (.ghost (slotsL E.N st.s) vs))))
    (hbody : ∀ F n Z Br Bb, (⟨E.P, E.T, F, n, Z, E.N⟩ : Env).Good → (∀ W, Wrap E.Z W → Wrap Z (fun J => Bb (W J))) → ∀ vs i J h args, ys[i]? = some args → Inv vs i J h →
      CW ⟨E.P, E.T, F, n, Z, E.N⟩ assign (asgQ ⟨E.P, E.T, F, n, Z, E.N⟩ Br Bb J body (bodyQ ⟨E.P, E.T, F, n, Z, E.N⟩ Bb st.J G vs (Inv vs (i + 1)) Q)) ⟨Br J, psets ps.toList args (listS (slotsL E.N st.s)), h⟩)
    (hdone : ∀ vs J h, Inv vs ys.length J h → Q .normal ⟨J, listS (slotsL E.N st.s), h⟩) : CW E (.rangeFunc g ps assign body) Q st := fun ι a w r => by
  obtain ⟨Z, K, Y, hZE, r⟩ := r
  refine wpIn_rangeFunc fun fn hfn => ?_
  have hround : E.F.round = none := by rw [hF]; rfl
  rw [hround]
  obtain ⟨vf, vc, hev, hvf, hvc⟩ := fnOf_ok hg (RA_ev (C := cx Z st.h ι w) (s := st.s) (a := a) g fun t _ => r.slot t)
  obtain ⟨mk, hrec⟩ : ∃ mk : LoopState → Option Code → Loop, mk = fun s p => { state := s, pending := p, fn, tmps := a.tmps, params := ps, assign, body, defers := w.heap.size } := ⟨_, rfl⟩
  obtain ⟨w1, hw1⟩ : ∃ w1, w1 = (w.alloc (.deferred (some []))).alloc (.loop (mk .ready none)) := ⟨_, rfl⟩
  have hg1 : Grew w w1 := by rw [hw1]; exact (Grew.alloc w _).trans (Grew.alloc _ _)
  have hs1 : w1.heap.size = w.heap.size + 2 := by rw [hw1]; simp
  have hL1 : w1.heap[w.heap.size + 1]? = some (.loop (mk .ready none)) := by
    rw [hw1]; have := World.alloc_heap_new (w.alloc (.deferred (some []))) (.loop (mk .ready none)); rwa [World.size_alloc] at this
  have hD1 : w1.heap[w.heap.size]? = some (.deferred (some [])) := by
    rw [hw1]; exact (RowKit.Below.heap_alloc _ _ _ (by simp)).trans (World.alloc_heap_new w _)
  obtain ⟨L0, hL0⟩ : ∃ L0, L0 = slotsL E.N st.s := ⟨_, rfl⟩
  rw [← hL0] at hOk h0 hbody hdone
  obtain ⟨rs, hd1, hd2, hd3⟩ := r.ds
  have hgh : RAs (cx Z st.h ι w) L0 a.tmps.toList := by
    rw [hL0, ← r.size]; exact RAs_slotsL r.slot
  have m1 := (r.mem.ghost hG hgh).grew hg1
  obtain ⟨ι0, hι0⟩ : ∃ ι0 : Nat → Value, ι0 = fun j => bif Nat.beq j G then .slice none 0 0 else ι j := ⟨_, rfl⟩
  obtain ⟨hp, hhp⟩ : ∃ hp, hp = hset st.h G (some (.ghost L0 a.tmps.toList)) := ⟨_, rfl⟩
  rw [← hι0, ← hhp] at m1
  have hpG : hp G = some (.ghost L0 a.tmps.toList) := by rw [hhp, hset_same]
  let own : Nat → Prop := fun b => ∃ k, dom hp k ∧ blk (ι0 k) = some b
  have hown : ∀ b, own b → b < w.heap.size ∧ isCells w b := fun b ⟨k, hk, hb⟩ => by
    have hne : k ≠ G := by intro e; rw [hι0, e] at hb; simp [blk] at hb
    have hk' : dom st.h k := by simp only [dom, hhp, hset_ne st.h _ hne] at hk; exact hk
    have hb' : blk (ι k) = some b := by
      rw [hι0] at hb
      have : Nat.beq k G = false := Bool.eq_false_iff.2 fun h' => hne (Nat.eq_of_beq_eq_true h')
      simp only [this, cond_false] at hb; exact hb
    exact ⟨(r.mem.own k b hk' hb').2.2, r.mem.cells hk' hb'⟩
  let K1 : Nat → Prop := fun b => b < w1.heap.size
  let Y1 : Nat → Prop := fun b => Y b ∨ own b ∨ b = w.heap.size + 1
  let Z1 : Nat → Prop := fun b => Z b ∨ own b ∨ b = w.heap.size + 1
  have hZlt : ∀ b, Z b → b < w.heap.size := r.mem.Zlt
  have hrs : (w.heap.size :: rs).Nodup := List.nodup_cons.2 ⟨fun hm => by have := (Array.getElem?_eq_some_iff.1 (hd3 _ hm).1).1; omega, hd2⟩
  have x1 : ConsX E.Z a.tmps.toList (w.heap.size :: rs) G (w.heap.size + 1) (mk .ready none) K1 Y1 Z1 w1 st.J hp L0 ι0 Z Y K := by
    refine ⟨hpG, hZE.2.2, hZE.1, fun b hb => ?_, hZE.2.1, fun b hb => ?_, fun b hb => .inl hb, m1, fun b hb hk => (hk hb).elim, fun b hb => m1.Klt b hb, fun b hb => hb, fun k b hk hb => ⟨(m1.own k b hk hb).2.2, .inr (.inl ⟨k, hk, hb⟩)⟩, fun b hb => .inl (.inl hb), hL1, by show _ < _; omega, .inr (.inr rfl),
      fun hb => ?_, fun hb => ?_, hrs, fun q hq => ?_⟩
    · show b < _; have := hZlt b (hZE.1 b hb); omega
    · show b < _; have := hZlt b (hZE.2.1 b hb); omega
    · have := r.mem.Klt _ hb; omega
    · have := hZlt _ (hZE.2.1 _ hb); omega
    · rcases List.mem_cons.1 hq with rfl | hq
      · refine ⟨hD1, by show _ < _; omega, fun hy => ?_, fun hb => ?_, fun hb => ?_⟩
        · rcases hy with hy | hy | hy
          · have := hZlt _ (hZE.2.1 _ hy); omega
          · have := (hown _ hy).1; omega
          · omega
        · have := r.mem.Klt _ hb; omega
        · have := hZlt _ hb; omega
      · obtain ⟨e1, e2, e3⟩ := hd3 q hq
        have hlt := (Array.getElem?_eq_some_iff.1 e1).1
        refine ⟨by rw [hg1.block q hlt]; exact e1, by show _ < _; omega, fun hy => ?_, e2, e3⟩
        rcases hy with hy | hy | hy
        · exact e3 (hZE.2.1 _ hy)
        · obtain ⟨c, t, f, hc⟩ := (hown _ hy).2
          rw [e1] at hc; cases hc
        · omega
  let C : Nat → Jt := fun i => Cons E.Z a.tmps.toList (w.heap.size :: rs) G (w.heap.size + 1) (mk .ready none) fun J h L => Inv a.tmps.toList i J h ∧ L = L0
  let X : Jt := fun K Y Z w' => ∃ c : Code, Cons E.Z a.tmps.toList (w.heap.size :: rs) G (w.heap.size + 1) (mk .done (some c)) (fun J h L => Jumps Q c ⟨J, listS L, h⟩) K Y Z w'
  have htN : a.tmps.toList.length = E.N := by simpa using r.size
  have hspec : YieldSpec E.P (w.heap.size + 1) ys C X := by
    rintro n i args hy K Y Z W vs ⟨J, h, L, ι', Za, Ya, Ka, ⟨hInv, rfl⟩, x⟩ hYZ _ _ hv
    have hyk := hks args (List.mem_of_getElem? hy)
    have hvl := RAs_length hv
    have hrun := run_yield (P := E.P) (args := vs.toArray) x.rc (by rw [hrec]; simp [hvl, hyk.2])
    refine ⟨_, _, _, _, hrun, roundIn_of_wpIn trivial ?_⟩
    rw [hrec]
    rw [foldl_zip]
    have hgood : (⟨E.P, E.T, Fence.wide.inRound (w.heap.size + 1), n, Za, E.N⟩ : Env).Good := ⟨⟨hE.ok.T, fun f => trivial, rfl, hE.ok.mixed⟩, .inr ⟨_, rfl⟩⟩
    have hlY : Y (w.heap.size + 1) := x.ly
    have hre := round_enter (P := E.P) (T := E.T) (F := Fence.wide.inRound (w.heap.size + 1)) (n := n) x hYZ hps htN hyk.1 hv
    refine wpIn_mono (hbody _ n Za (rnd K Y Ya Za W (w.heap.size :: rs) (w.heap.size + 1) (mk .ready none)) (rnd K Y Ya Za W (w.heap.size :: rs) (w.heap.size + 1) (mk .busy none)) hgood
      (fun V hV => wrap_rnd x.ez x.zk x.yay hV) _ i J h args hy hInv ι' _ W hre) ?_
    rintro e a2 w2 ⟨st2, ι2, ⟨rfl, hJ2, hcw⟩, r2⟩
    obtain ⟨J2, s2, h2⟩ := st2
    simp only at hJ2
    subst hJ2
    obtain ⟨hrc2, r2'⟩ := round_begin x.mj hlY (mk .busy none) r2
    refine ⟨_, run_beginRound hrc2 (by rw [hrec]), ?_⟩
    have hput : w2.putObj (w.heap.size + 1) (.loop { mk .ready none with state := .busy }) = setO w2 (w.heap.size + 1) (.loop (mk .busy none)) := by rw [hrec]; rfl
    rw [hput]
    refine wpIn_mono (hcw ι2 a2 _ r2') ?_
    rintro e a3 w3 ⟨st3, ι3, hq, r3⟩
    cases e with
    | normal =>
      obtain ⟨st3, hle, J', hJ3, hI3⟩ := hq
      obtain ⟨ι3, r3⟩ := hle _ _ _ r3
      obtain ⟨J3, s3, h3⟩ := st3
      simp only at hJ3
      subst hJ3
      have ho := hOk _ _ _ _ hI3
      obtain ⟨hrc3, htu, Za', Ya', Ka', x'⟩ := round_end x (fun b hb => hb) hYZ (ho.1 hZE.2.2) (mk .ready none) r3 ho.2
      refine ⟨_, _, run_endRound none hrc3, ?_⟩
      have hput3 : w3.putObj (w.heap.size + 1) (.loop { mk .busy none with state := if (none : Option Code).isNone then .ready else .done, pending := none }) = setO w3 (w.heap.size + 1) (.loop (mk .ready none)) := by rw [hrec]; rfl
      rw [hput3]
      exact ⟨htu, .inl ⟨rfl, J', h3, _, ι3, Za', Ya', Ka', ⟨hI3, rfl⟩, x'⟩⟩
    | ret =>
      obtain ⟨st3, hle, J', L', hm, hJ3, hG3, hq3⟩ := hq
      obtain ⟨ι3, r3⟩ := hle _ _ _ r3
      obtain ⟨J3, s3, h3⟩ := st3
      simp only at hJ3
      subst hJ3
      obtain ⟨hrc3, htu, Za', Ya', Ka', x'⟩ := round_end x (fun b hb => hb) hYZ (hm hZE.2.2) (mk .done (some .ret)) r3 hG3
      refine ⟨_, _, run_endRound (some .ret) hrc3, ?_⟩
      have hput3 : w3.putObj (w.heap.size + 1) (.loop { mk .busy none with state := if (some Code.ret).isNone then .ready else .done, pending := some Code.ret }) = setO w3 (w.heap.size + 1) (.loop (mk .done (some .ret))) := by rw [hrec]; rfl
      rw [hput3]
      exact ⟨htu, .inr ⟨rfl, .ret, J', h3, L', ι3, Za', Ya', Ka', .inl ⟨rfl, hq3⟩, x'⟩⟩
    | exit id =>
      obtain ⟨st3, hle, J', L', hm, hJ3, hG3, hq3⟩ := hq
      obtain ⟨ι3, r3⟩ := hle _ _ _ r3
      obtain ⟨J3, s3, h3⟩ := st3
      simp only at hJ3
      subst hJ3
      obtain ⟨hrc3, htu, Za', Ya', Ka', x'⟩ := round_end x (fun b hb => hb) hYZ (hm hZE.2.2) (mk .done (some (.exit id))) r3 hG3
      refine ⟨_, _, run_endRound (some (.exit id)) hrc3, ?_⟩
      have hput3 : w3.putObj (w.heap.size + 1) (.loop { mk .busy none with state := if (some (Code.exit id)).isNone then .ready else .done, pending := some (Code.exit id) }) = setO w3 (w.heap.size + 1) (.loop (mk .done (some (.exit id)))) := by rw [hrec]; rfl
      rw [hput3]
      exact ⟨htu, .inr ⟨rfl, .exit id, J', h3, L', ι3, Za', Ya', Ka', .inr ⟨id, rfl, hq3⟩, x'⟩⟩
    | goto t => exact hq.elim
    | panic c => exact hq.elim
    | outgrown => exact hq.elim
  have hcf : ∀ as : Array Value, (callFunc f as).run E.P w1 = .ok (.enter f as) w1 := by
    intro as
    obtain ⟨fn, k1, k2, k3⟩ := hI.1
    unfold callFunc
    rw [Sem.run_bind]
    simp only [program, Sem.run, Result.andThen_ok, k1, k2, k3, Bool.false_eq_true, if_false]
    rfl
  refine ⟨w.heap.size + 1, [markOf w.heap.size], w1, { target := .fn (.func f) vc, args := vf ++ #[.func (.yield (w.heap.size + 1)) #[] #[]] }, w1, f, vf ++ #[.func (.yield (w.heap.size + 1)) #[] #[]] ++ vc, w1, ?_, ?_, fun f' _ => hE.wide.fn f', ?_, fun hx => (by rw [hE.wide.depth] at hx; cases hx), ?_⟩
  · rw [hw1, hrec]; exact run_enterLoop_outer _ _ _ _ _
  · simp only [resolve, hev]; simp [Deferred.ofValue, Act.eval]
  · simp [invoke, hcf]
  · have hargs : RAs (cx Z1 noHeap noι w1) (first ++ .d (.fn (.yield (w.heap.size + 1)) [] []) :: cap) (vf ++ #[Value.func (Fn.yield (w.heap.size + 1)) #[] #[]] ++ vc).toList := by
      have hk : Keeps w w1 (cx Z st.h ι w).M (cx Z1 noHeap noι w1).M := by
        refine ⟨fun b o u _ hc => cell_grew hg1 hc, fun b _ hi => hi.grew hg1, fun b hi hm hm' => ?_⟩
        rcases hm' with (hz | ⟨k, hk, hb⟩ | hz) | ⟨k, hk, _⟩
        · exact hm (.inl hz)
        · have hne : k ≠ G := by intro e; rw [hι0, e] at hb; simp [blk] at hb
          have hk' : dom st.h k := by simp only [dom, hhp, hset_ne st.h _ hne] at hk; exact hk
          have hb' : blk (ι k) = some b := by
            rw [hι0] at hb
            have : Nat.beq k G = false := Bool.eq_false_iff.2 fun h' => hne (Nat.eq_of_beq_eq_true h')
            simp only [this, cond_false] at hb; exact hb
          exact hm (.inr ⟨k, hk', hb'⟩)
        · have := hi.lt; omega
        · simp [dom, noHeap] at hk
      have e1 := RAs_kf (C := cx Z st.h ι w) (C' := cx Z1 noHeap noι w1) hk _ _ hkf hvf
      have e2 := RAs_kf (C := cx Z st.h ι w) (C' := cx Z1 noHeap noι w1) hk _ _ hkc hvc
      have e3 : RA (cx Z1 noHeap noι w1) (.d (.fn (.yield (w.heap.size + 1)) [] [])) (.func (.yield (w.heap.size + 1)) #[] #[]) := by
        simp [RA, RD, RDs]
      have e4 := RAs_append e1 (show RAs (cx Z1 noHeap noι w1) (.d (.fn (.yield (w.heap.size + 1)) [] []) :: cap) (.func (.yield (w.heap.size + 1)) #[] #[] :: vc.toList) by simp only [RAs]; exact ⟨_, _, rfl, e3, e2⟩)
      simpa using e4
    have hcall := hI.2 (E.n - 1) (w.heap.size + 1) C X (fun i => mono_cons) (mono_ex fun c => mono_cons) hspec K1 Y1 Z1 w1 _ ⟨st.J, hp, L0, ι0, Z, Y, K, ⟨by rw [hhp]; exact h0 _, rfl⟩, x1⟩ (fun b hb => hb.imp (hZE.2.1 b) (fun h => h)) (fun b hb => hb)
      (fun b hb => by
        show b < _
        rcases hb with hb | hb | hb
        · have := hZlt b hb; omega
        · have := (hown b hb).1; omega
        · omega) hargs
    rw [Array.toArray_toList] at hcall
    refine (hE.wide.calls hcall).mono ?_
    rintro e w2 ⟨v, K', Y', Z', rfl, hC | hX⟩
    · obtain ⟨J, h, L, ι', Za, Ya, Ka, ⟨hInv, hLL⟩, x⟩ := hC
      subst hLL
      exact ⟨none, _, by have := run_endLoop (P := E.P) x.rc (by rw [hrec]; simp); rw [hrec] at this; exact this, ⟨J, listS _, h⟩, ι', hdone _ _ _ hInv, cons_leave x _ rfl htN (by simp [hd1])⟩
    · obtain ⟨c, J, h, L, ι', Za, Ya, Ka, hj, x⟩ := hX
      refine ⟨some c, _, by have := run_endLoop (P := E.P) x.rc (by rw [hrec]; simp); rw [hrec] at this; exact this, ?_⟩
      rcases hj with ⟨rfl, hq⟩ | ⟨id, rfl, hq⟩
      · exact wpIn_ret ⟨_, ι', hq, cons_leave x _ rfl htN (by simp [hd1])⟩
      · exact wpIn_exit ⟨_, ι', hq, cons_leave x _ rfl htN (by simp [hd1])⟩
end Go.AL
