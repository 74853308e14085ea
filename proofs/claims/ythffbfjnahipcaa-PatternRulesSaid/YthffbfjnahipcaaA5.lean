/- AL, part 5: what 'stepPure' tells is what the machine does. -/
import Derived.Test.YthffbfjnahipcaaA4
namespace Go.AL
set_option linter.unusedVariables false
set_option linter.unusedSimpArgs false

section
variable {P : Program} {T : Nat → Option TI} {Z : Nat → Prop} {h : Heap} {ι : Nat → Value} {w : World} {K : Nat → Prop} {J : World → Prop} {s : Slots} {a : Act}

theorem structOf_ok (hT : TOk P T) {t f : Nat} {fti : TI} {off : Nat} (hs : structOf T t f = some (fti, off)) :
    ∃ fields fd, P.underlying t = some (.struct fields) ∧ fields[f]? = some fd ∧ T fd.type = some fti ∧ fd.offset = off := by
  unfold structOf at hs
  split at hs
  · rename_i fs sz by_ z ht
    obtain ⟨fields, hu, hf⟩ := (hT t _ ht).2
    split at hs
    · rename_i ft o hfo
      split at hs
      · rename_i ti hti
        cases hs
        rw [← hf] at hfo
        simp at hfo
        obtain ⟨fd, h1, h2, h3⟩ := hfo
        exact ⟨fields, fd, hu, by simpa using h1, by rw [h2]; exact hti, h3⟩
      · cases hs
    · cases hs
  · cases hs

theorem blk_ptr {v : Value} {b : Nat} (h1 : v = .pointer (some ⟨b, 0, none⟩)) : blk v = some b := by rw [h1]; rfl

theorem RAs_evs {C : Cx} : ∀ {l : List Operand}, (∀ x ∈ l, RA C (ev s x) (a.eval x)) → RAs C (l.map (ev s)) (l.map a.eval)
  | [], _ => by simp [RAs]
  | x :: l, hl => by
    simp only [List.map_cons, RAs]
    exact ⟨_, _, rfl, hl x (by simp), RAs_evs fun y hy => hl y (by simp [hy])⟩

theorem RC_new {Z : Nat → Prop} {h : Heap} {ι : Nat → Value} {w : World} {ds : List D} {vs : List Value} (m : Mem Z K J h ι w) (e : TypeId) (hv : RDs w (cx Z h ι w).M ds vs) :
    ¬ (cx Z h ι (w.alloc (.cells vs.toArray e))).M w.heap.size ∧ RC (w.alloc (.cells vs.toArray e)) (cx Z h ι (w.alloc (.cells vs.toArray e))).M w.heap.size ds 0 := by
  have hM : (cx Z h ι (w.alloc (.cells vs.toArray e))).M = (cx Z h ι w).M := rfl
  refine ⟨fun hm => ?_, ?_⟩
  · rw [hM] at hm
    have := m.Mlt hm
    omega
  · refine RC_of_list (RDs_keeps (keepsC_grew (K := K) (J := J) (Z := Z) (h := h) (ι := ι) (Grew.alloc w _)).d _ _ hv) fun j v hj => ?_
    have : (w.alloc (.cells vs.toArray e)).heap[w.heap.size]? = some (.cells vs.toArray e (0, 0)) := heap_alloc_new w _
    simp only [World.cell?, this]
    simpa using hj

theorem stepPure_ok (hT : TOk P T) (m : Mem Z K J h ι w) (o : Oper) (hl : ∀ x ∈ o.op.operands.toList, RA (cx Z h ι w) (ev s x) (a.eval x)) {R : AV} (hr : stepPure T h s o.op = some R) :
    OGives P Z h ι (execOp a.eval o) w R := by
  obtain ⟨dst, op, ty, pos, af, gd⟩ := o
  simp only at hl hr
  cases op with
  | move x =>
    simp only [stepPure, Option.some.injEq] at hr
    subst hr
    exact ⟨a.eval x, w, by simp [execOp], Grew.refl w, hl x (by simp [Op.operands])⟩
  | assign x =>
    simp only [stepPure, Option.some.injEq] at hr
    subst hr
    exact ⟨a.eval x, w, by simp [execOp], Grew.refl w, hl x (by simp [Op.operands])⟩
  | pick c x y =>
    simp only [stepPure] at hr
    have hc := hl c (by simp [Op.operands])
    split at hr
    · rename_i he
      cases hr
      rw [he] at hc
      obtain ⟨e, _⟩ := RA_lit.1 hc
      exact ⟨a.eval x, w, by simp [execOp, e, asBool], Grew.refl w, hl x (by simp [Op.operands])⟩
    · rename_i he
      cases hr
      rw [he] at hc
      obtain ⟨e, _⟩ := RA_lit.1 hc
      exact ⟨a.eval y, w, by simp [execOp, e, asBool], Grew.refl w, hl y (by simp [Op.operands])⟩
    · cases hr
  | box t x =>
    simp only [stepPure] at hr
    cases hc : cellsOk (ev s x) with
    | false => rw [hc] at hr; cases hr
    | true =>
      rw [hc] at hr
      simp only [cond_true, Option.map_eq_some_iff] at hr
      obtain ⟨ds, hds, rfl⟩ := hr
      have hx := RA_cells m.named hc (hl x (by simp [Op.operands]))
      rw [allD_eq hds] at hx
      have hn := RC_new m t (RAs_map_d.1 hx)
      refine ⟨.pointer (some ⟨w.heap.size, 0, none⟩), w.alloc (.cells (a.eval x).cells t), by simp [execOp, Instr.box, newVar, newRow], Grew.alloc w _, ?_⟩
      simp only [RA, RD]
      exact ⟨_, _, rfl, by simpa using hn.1, ⟨_, _, _, heap_alloc_new w _⟩, by simpa using hn.2⟩
  | load t x =>
    simp only [stepPure] at hr
    have hx := hl x (by simp [Op.operands])
    split at hr
    · rename_i ti ht
      split at hr
      · rename_i cs he
        rw [he] at hx
        simp only [RA, RD] at hx
        obtain ⟨b, off, e, hm, hb, hc⟩ := hx
        obtain ⟨vs, h1, h2⟩ := RC_list hc
        obtain ⟨v, h3, h4⟩ := run_loadVar_of hT ht (C := cx Z h ι w) (RAs_map_d.2 h1) b off h2 hr
        exact ⟨v, w, by simp [execOp, Instr.loadAt, Instr.sureAddr, e, h3], Grew.refl w, h4⟩
      · rename_i k off he
        rw [he] at hx
        simp only [RA] at hx
        obtain ⟨hk, b, hb, e⟩ := hx
        split at hr
        · rename_i t' cs hkk
          obtain ⟨b', vs, e1, e2, e3⟩ := m.ent k _ hkk
          have : b' = b := by rw [blk_ptr e1] at hb; injection hb
          subst this
          have e2' : w.heap[b']? = some (.cells vs t' (0, 0)) := e2
          obtain ⟨v, h3, h4⟩ := run_loadVar_of (w := w) hT ht (C := cx Z h ι w) (RAs_drop off e3) b' off (fun j v hj => by
            simp only [World.cell?, e2']
            simpa [List.getElem?_drop] using hj) hr
          exact ⟨v, w, by simp [execOp, Instr.loadAt, Instr.sureAddr, e, h3], Grew.refl w, h4⟩
        · cases hr
      · cases hr
    · cases hr
  | fieldAddr t x f =>
    simp only [stepPure] at hr
    have hx := hl x (by simp [Op.operands])
    split at hr
    · rename_i fti off hs
      obtain ⟨fields, fd, hu, hf, hft, hoff⟩ := structOf_ok hT hs
      cases hz : Nat.beq fti.size 0 with
      | true => rw [hz] at hr; cases hr
      | false =>
        rw [hz] at hr
        simp only [cond_false] at hr
        have hz' : fti.size ≠ 0 := by intro e; rw [e] at hz; cases hz
        have hsz := run_size hT hft w
        have hpl : ∀ (b o : Nat), (fieldPlace ⟨b, o, none⟩ fd).run P w = .ok ⟨b, o + off, none⟩ w := by
          intro b o
          unfold fieldPlace
          simp [hsz, hz', hoff, Addr.add]
        split at hr
        · rename_i cs he
          cases hr
          rw [he] at hx
          simp only [RA, RD] at hx
          obtain ⟨b, o, e, hm, hb, hc⟩ := hx
          refine ⟨.pointer (some ⟨b, o + off, none⟩), w, by simp [execOp, Instr.fieldAt, run_underlying hu, hf, e, Instr.sureAddr, hpl], Grew.refl w, ?_⟩
          simp only [RA, RD]
          exact ⟨b, o + off, rfl, hm, hb, RC_drop off hc⟩
        · rename_i k o he
          cases hr
          rw [he] at hx
          simp only [RA] at hx
          obtain ⟨hk, b, hb, e⟩ := hx
          refine ⟨.pointer (some ⟨b, o + off, none⟩), w, by simp [execOp, Instr.fieldAt, run_underlying hu, hf, e, Instr.sureAddr, hpl], Grew.refl w, ?_⟩
          simp only [RA]
          exact ⟨hk, b, hb, rfl⟩
        · cases hr
    · cases hr
  | field t x f =>
    simp only [stepPure] at hr
    have hx := hl x (by simp [Op.operands])
    split at hr
    · rename_i fti off hs
      obtain ⟨fields, fd, hu, hf, hft, hoff⟩ := structOf_ok hT hs
      split at hr
      · rename_i cs he
        rw [he] at hx
        simp only [RA] at hx
        obtain ⟨vs, e, hv⟩ := hx
        obtain ⟨v, h1, h2⟩ := run_part_of hT hft hv off hr w
        exact ⟨v, w, by simp [execOp, Instr.field, run_underlying hu, hf, e, asAgg, hoff, h1], Grew.refl w, h2⟩
      · cases hr
    · cases hr
  | binOp op t x y yt =>
    simp only [stepPure] at hr
    exact OGives.of (g_binop hT (hl x (by simp [Op.operands])) (hl y (by simp [Op.operands])) hr)
  | unOp op t x =>
    simp only [stepPure] at hr
    have hx := hl x (by simp [Op.operands])
    split at hr
    · rename_i he
      cases hr
      rw [he] at hx
      obtain ⟨e, _⟩ := RA_lit.1 hx
      exact ⟨_, w, by simp [execOp, Op.unary, e], Grew.refl w, RA_lit_mk trivial⟩
    · rename_i k n he
      cases hr
      rw [he] at hx
      obtain ⟨e, _⟩ := RA_lit.1 hx
      exact ⟨.int k (k.wrap (0 - n)), w, by simp [execOp, Op.unary, e, Op.intArith], Grew.refl w, RA_lit_mk (wrap_ok _ _)⟩
    · cases hr
  | convert src dst x =>
    simp only [stepPure, stepConv] at hr
    have hx := hl x (by simp [Op.operands])
    split at hr
    · rename_i ti k sz bt z k' n ht ht' he
      cases hr
      rw [he] at hx
      obtain ⟨e, _⟩ := RA_lit.1 hx
      have hu := (hT _ _ ht').2
      simp only [TK.fits] at hu
      obtain ⟨d, hd⟩ : ∃ d, P.underlying src = some d := by
        have := (hT _ _ ht).2
        cases hk : ti.k <;> rw [hk] at this
        case struct fs => obtain ⟨f, hf, _⟩ := this; exact ⟨_, hf⟩
        case iface => obtain ⟨f, hf⟩ := this; exact ⟨_, hf⟩
        case other => obtain ⟨f, hf, _⟩ := this; exact ⟨_, hf⟩
        all_goals exact ⟨_, this⟩
      exact ⟨.int k (k.wrap n), w, by simp [execOp, convert, run_underlying hu, run_underlying hd, e, Conv.intToInt], Grew.refl w, RA_lit_mk (wrap_ok _ _)⟩
    · rename_i ti sz bt z b ht ht' he
      cases hr
      rw [he] at hx
      obtain ⟨e, hb⟩ := RA_lit.1 hx
      have hu := (hT _ _ ht').2
      simp only [TK.fits] at hu
      obtain ⟨d, hd⟩ : ∃ d, P.underlying src = some d := by
        have := (hT _ _ ht).2
        cases hk : ti.k <;> rw [hk] at this
        case struct fs => obtain ⟨f, hf, _⟩ := this; exact ⟨_, hf⟩
        case iface => obtain ⟨f, hf⟩ := this; exact ⟨_, hf⟩
        case other => obtain ⟨f, hf, _⟩ := this; exact ⟨_, hf⟩
        all_goals exact ⟨_, this⟩
      exact ⟨.string b, w, by simp [execOp, convert, run_underlying hu, run_underlying hd, e], Grew.refl w, RA_lit_mk hb⟩
    · cases hr
  | makeInterface t x =>
    simp only [stepPure] at hr
    have hx := hl x (by simp [Op.operands])
    split at hr
    · cases hr
    · rename_i ti d hne ht he
      cases hr
      rw [he] at hx
      simp only [RA] at hx
      have hrun : (Instr.makeInterface t (a.eval x)).run P w = .ok (.iface t (a.eval x)) w := by
        have := (hT _ _ ht).2
        unfold Instr.makeInterface
        cases hk : ti.k <;> rw [hk] at this
        case struct fs => obtain ⟨f, hf, _⟩ := this; simp [run_underlying hf]
        case iface => obtain ⟨k, sz, bt, z⟩ := ti; simp only at hk; subst hk; exact (hne _ _ _ rfl).elim
        case other => obtain ⟨f, hf, hg⟩ := this; cases f <;> simp at hg <;> simp [run_underlying hf]
        all_goals (simp only [TK.fits] at this; simp [run_underlying this])
      exact ⟨.iface t (a.eval x), w, by simp [execOp, hrun], Grew.refl w, by simp only [RA, RD]; exact ⟨_, rfl, hx⟩⟩
    · cases hr
  | makeFunc f first cap =>
    simp only [stepPure] at hr
    have h1 := RAs_evs (C := cx Z h ι w) (s := s) (a := a) (l := first.toList) fun x hx => hl x (by simp [Op.operands]; exact .inl (by simpa using hx))
    have h2 := RAs_evs (C := cx Z h ι w) (s := s) (a := a) (l := cap.toList) fun x hx => hl x (by simp [Op.operands]; exact .inr (by simpa using hx))
    refine ⟨.func f (first.map a.eval) (cap.map a.eval), w, by simp [execOp, Instr.makeFunc], Grew.refl w, ?_⟩
    split at hr
    · rename_i d1 d2 e1 e2
      cases hr
      rw [allD_eq e1] at h1
      rw [allD_eq e2] at h2
      simp only [RA, RD]
      exact ⟨_, _, rfl, by simpa using RAs_map_d.1 h1, by simpa using RAs_map_d.1 h2⟩
    · cases hr
      simp only [RA]
      exact ⟨_, _, rfl, by simpa using h1, by simpa using h2⟩
  | extract x i =>
    simp only [stepPure] at hr
    have hx := hl x (by simp [Op.operands])
    split at hr
    · rename_i vs he
      rw [he] at hx
      simp only [RA] at hx
      obtain ⟨us, e, hv⟩ := hx
      obtain ⟨v, h1, h2⟩ := RAs_get hv hr
      exact ⟨v, w, by simp at h1; simp [execOp, Instr.extract, e, h1], Grew.refl w, h2⟩
    · cases hr
  | nilCheck x =>
    simp only [stepPure] at hr
    have hx := hl x (by simp [Op.operands])
    split at hr
    · rename_i cs he
      cases hr
      rw [he] at hx
      have hx' := hx
      simp only [RA, RD] at hx'
      obtain ⟨b, o, e, _⟩ := hx'
      exact ⟨a.eval x, w, by simp [execOp, e], Grew.refl w, hx⟩
    · rename_i k o he
      cases hr
      rw [he] at hx
      have hx' := hx
      simp only [RA] at hx'
      obtain ⟨_, b, _, e⟩ := hx'
      exact ⟨a.eval x, w, by simp [execOp, e], Grew.refl w, hx⟩
    · cases hr
  | call c =>
    obtain ⟨callee, args, ts⟩ := c
    cases callee with
    | builtin b =>
      cases b with
      | len =>
        simp only [stepPure] at hr
        split at hr
        · rename_i x t hx0 ht0
          have hmem : x ∈ args := by
            have := Array.getElem?_eq_some_iff.1 hx0
            obtain ⟨h1, h2⟩ := this
            rw [← h2]; exact Array.getElem_mem h1
          have hx := hl x (by simp [Op.operands, Call.operands]; exact hmem)
          have hax : (args.map a.eval)[0]? = some (a.eval x) := by simp [hx0]
          have done : ∀ v : Value, (Builtin.len_ ts ty (args.map a.eval)).run P w = .ok v w → ∀ R', RA (cx Z h ι w) R' v → OGives P Z h ι (execOp a.eval ⟨dst, .call ⟨.builtin .len, args, ts⟩, ty, pos, af, gd⟩) w R' := by
            intro v hv R' hR
            exact ⟨v, w, by simp [execOp, resolve, invoke, builtin, hv], Grew.refl w, hR⟩
          unfold stepLen at hr
          split at hr
          · rename_i e sz bt z s1 s2 xs htt he
            cases hr
            rw [he] at hx
            have hu := (hT _ _ htt).2
            simp only [TK.fits] at hu
            simp only [RA, RD] at hx
            obtain ⟨ad, cap, ex, h1, h2, h3, _⟩ := hx
            refine done (.int .i64 xs.length) (by simp [Builtin.len_, ht0, hax, run_underlying hu, ex, goInt]) _ (RA_lit_mk ?_)
            simp only [okLit]
            constructor <;> simp [IntKind.min, IntKind.max, IntKind.signed, IntKind.bits] <;> omega
          · rename_i e sz bt z aa n cc htt he
            cases hr
            rw [he] at hx
            have hu := (hT _ _ htt).2
            simp only [TK.fits] at hu
            obtain ⟨ex, ho⟩ := RA_lit.1 hx
            simp only [okLit] at ho
            obtain ⟨rfl, rfl, rfl⟩ := ho
            refine done (.int .i64 0) (by simp [Builtin.len_, ht0, hax, run_underlying hu, ex, goInt]) _ (RA_lit_mk ?_)
            simp [okLit, IntKind.min, IntKind.max, IntKind.signed, IntKind.bits]
          · rename_i e sz bt z k htt he
            split at hr
            · rename_i e' sz' xs hk
              cases hr
              rw [he] at hx
              have hu := (hT _ _ htt).2
              simp only [TK.fits] at hu
              simp only [RA] at hx
              obtain ⟨hd, ex⟩ := hx
              obtain ⟨vs, h1, h2, h3, h4⟩ := m.ent k _ hk
              have hsl : ∃ ad cap, ι k = .slice ad xs.length cap := by
                rcases h1 with ⟨ad, e1, e2, _⟩ | ⟨g, cap, cur, e1, _⟩
                · exact ⟨ad, 0, by rw [e1, e2]⟩
                · exact ⟨_, _, e1⟩
              obtain ⟨ad, cap, e1⟩ := hsl
              have ex' : a.eval x = .slice ad xs.length cap := ex.trans e1
              refine done (.int .i64 xs.length) (by simp [Builtin.len_, ht0, hax, run_underlying hu, ex', goInt]) _ (RA_lit_mk ?_)
              simp only [okLit]
              constructor <;> simp [IntKind.min, IntKind.max, IntKind.signed, IntKind.bits] <;> omega
            · cases hr
          · rename_i sz bt z b htt he
            cases hr
            rw [he] at hx
            have hu := (hT _ _ htt).2
            simp only [TK.fits] at hu
            obtain ⟨ex, ho⟩ := RA_lit.1 hx
            simp only [okLit] at ho
            refine done (.int .i64 b.size) (by simp [Builtin.len_, ht0, hax, run_underlying hu, ex, goInt]) _ (RA_lit_mk ?_)
            simp only [okLit]
            constructor <;> simp [IntKind.min, IntKind.max, IntKind.signed, IntKind.bits] <;> omega
          · cases hr
        · cases hr
      | _ => simp [stepPure] at hr
    | _ => simp [stepPure] at hr
  | _ => simp [stepPure] at hr
end
end Go.AL
