/- Parts of an abstract logic over the kit's walks, and walks in it: A41, A30, A31, A32, A33, A34, A35, A36, A43, A44, A45, A46, A37, A47, A48, A49, A38, A39, A40, A42. -/
import Derived.Test.YtjiknbjkbakegaaDoorAc
import Derived.Test.YtjiknbjkbakegaaDoorAd
/- AL, part 41: a law's arguments as they come in, with their bulk: how many values and letters the data hold. -/
namespace Go.AL
set_option linter.unusedVariables false
set_option linter.unusedSimpArgs false

mutual
def bulkD : D → Nat
  | .lit (.string s) => s.size + 1
  | .lit _ => 1
  | .sl _ _ xs => bulkCs xs + 1
  | .iptr _ => 1
  | .fn _ _ _ => 1
  | .iface _ _ => 1
def bulkDs : List D → Nat
  | [] => 0
  | x :: xs => bulkD x + bulkDs xs
def bulkCs : List (List D) → Nat
  | [] => 0
  | x :: xs => bulkDs x + bulkCs xs
end
theorem bulkDs_append : ∀ (l r : List D), bulkDs (l ++ r) = bulkDs l + bulkDs r
  | [], r => by simp [bulkDs]
  | x :: l, r => by simp only [List.cons_append, bulkDs, bulkDs_append l r]; omega

/-- A way to count readings. -/
structure Bulk {H : Type} (B : DataW H → Nat) (BA : List (DataW H) → Nat) : Prop where
  nil : BA [] = 0
  cons : ∀ d l, BA (d :: l) = B d + BA l
  one : ∀ d, 1 ≤ B d
  str : ∀ b, B (.lit (.string b)) = b.length + 1
  sl : ∀ l r, BA l + 1 ≤ B (.slice l r)
  agg : ∀ l, BA l ≤ B (.agg l)

theorem bulkCs_le {H : Type} {B : DataW H → Nat} {BA : List (DataW H) → Nat} (hB : Bulk B BA) : ∀ (xs : List (List D)) (es : List (DataW H)), (∀ (i : Nat) x, xs[i]? = some x → ∃ d, es[i]? = some d ∧ bulkDs x ≤ B d) → bulkCs xs ≤ BA es
  | [], es, _ => by simp [bulkCs]
  | x :: xs, [], h => by
    obtain ⟨d, hd, _⟩ := h 0 x rfl
    simp at hd
  | x :: xs, d :: es, h => by
    obtain ⟨d', hd, h1⟩ := h 0 x rfl
    simp at hd
    subst hd
    have := bulkCs_le hB xs es fun i y hy => by simpa using h (i + 1) y (by simpa using hy)
    simp only [bulkCs, hB.cons]
    omega

section
variable {P : Program} {T : Nat → Option TI} (hT : TOk P T) {S : List TypeId} (hS : closedT T S = true)
theorem partsB_of {H : Type} {B : DataW H → Nat} {BA : List (DataW H) → Nat} (hB : Bulk B BA) {R : TypeId → List D → Prop} {w : World} {cs : List Value} : ∀ (fs : List (TypeId × Nat)) (xs : List (DataW H)) (off : Nat), tiles T fs off cs.length = true →
    (∀ (i : Nat) f, fs[i]? = some f → ∀ ti, T f.1 = some ti → ∃ d, xs[i]? = some d ∧ ∃ ds, RDs w noM ds ((cs.drop f.2).take ti.size) ∧ R f.1 ds ∧ ds.length = ti.size ∧ bulkDs ds ≤ B d) →
    ∃ ds, RDs w noM ds (cs.drop off) ∧ partsT R (fs.map (·.1)) ds ∧ ds.length = cs.length - off ∧ bulkDs ds ≤ BA xs
  | [], xs, off, h, _ => by
    have : off = cs.length := Nat.eq_of_beq_eq_true h
    exact ⟨[], by simp [this, RDs], by simp [partsT], by simp [this], by simp [bulkDs]⟩
  | (t, o) :: fs, xs, off, h, hf => by
    simp only [tiles] at h
    cases ht : T t with
    | none => rw [ht] at h; cases h
    | some ti =>
      rw [ht] at h
      simp only [Bool.and_eq_true] at h
      have ho : o = off := Nat.eq_of_beq_eq_true h.1
      subst ho
      obtain ⟨d, hd, d1, a1, a2, a3, a4⟩ := hf 0 (t, o) (by simp) ti ht
      cases xs with
      | nil => simp at hd
      | cons x xs =>
        simp at hd
        subst hd
        obtain ⟨d2, b1, b2, b3, b4⟩ := partsB_of hB fs xs (o + ti.size) h.2 fun i f hm tj htj => by simpa using hf (i + 1) f (by simpa using hm) tj htj
        have hl1 := RDs_length a1
        refine ⟨d1 ++ d2, ?_, by simp only [List.map_cons, partsT]; exact ⟨d1, d2, rfl, a2, b2⟩, ?_, ?_⟩
        · have := RDs_append a1 b1
          rwa [← List.drop_drop, List.take_append_drop] at this
        · simp at hl1
          simp [a3, b3]
          omega
        · rw [bulkDs_append, hB.cons]; omega
include hT hS
theorem trod_RDB {H : Type} {B : DataW H → Nat} {BA : List (DataW H) → Nat} (hB : Bulk B BA) {enc : TypeId × Value → H} {w : World} {base : Nat} {spare : Nat → Bool} {held : Bool} : ∀ (n : Nat) (t : TypeId) (cs : List Value) (x : DataW H × List MemPlace), DataW.trod enc P w base spare held n t cs = some x → S.contains t = true →
    (∀ m ∈ x.1.weights P t, m ≤ reachBytes) → ∃ ds, RDs w noM ds cs ∧ DTc T n t ds ∧ (∀ ti, T t = some ti → ds.length = ti.size) ∧ bulkDs ds ≤ B x.1
  | 0, t, cs, x, h, _, _ => by simp [DataW.trod] at h
  | n + 1, t, cs, x, h, ht, hw => by
    have hc := List.all_eq_true.1 hS t (by simpa using ht)
    cases hti : T t with
    | none => rw [hti] at hc; cases hc
    | some ti =>
      rw [hti] at hc
      obtain ⟨k, s, b, z⟩ := ti
      have hfit := (hT t _ hti).2
      cases k with
      | bool =>
        simp only [TK.fits] at hfit
        obtain ⟨c, rfl, rfl⟩ := DataW.trod_bool hfit h
        have hs1 : s = 1 := Nat.eq_of_beq_eq_true hc
        exact ⟨[.lit (.bool c)], by simp [RDs, RD, okLit], by simp only [DTc, hti]; exact ⟨c, rfl⟩, fun ti hh => by cases hh; simp [hs1], hB.one _⟩
      | int k =>
        simp only [TK.fits] at hfit
        obtain ⟨m, rfl, rfl, hwf⟩ := DataW.trod_int hfit h
        have hs1 : s = 1 := Nat.eq_of_beq_eq_true hc
        simp only [Lit.wf, Bool.and_eq_true, decide_eq_true_eq] at hwf
        exact ⟨[.lit (.int k m)], by simp [RDs, RD, okLit, hwf.1, hwf.2], by simp only [DTc, hti]; exact ⟨m, rfl, hwf⟩, fun ti hh => by cases hh; simp [hs1], hB.one _⟩
      | str =>
        simp only [TK.fits] at hfit
        obtain ⟨u, rfl, rfl, hwf⟩ := DataW.trod_string hfit h
        have hs1 : s = 1 := Nat.eq_of_beq_eq_true hc
        have h1 : u.data.toList.length = u.size := Array.length_toList
        have hle : u.size ≤ 140737488351232 := by
          have := hw u.data.toList.length (by simp [DataW.weights])
          have h2 : reachBytes = 140737488351232 := rfl
          omega
        exact ⟨[.lit (.string u)], by simp only [RDs, RD]; exact ⟨_, [], rfl, ⟨rfl, show u.size ≤ 140737488355328 by omega⟩, rfl⟩, by simp only [DTc, hti]; exact ⟨u, rfl, hle⟩, fun ti hh => by cases hh; simp [hs1],
          by simp only [hB.str, bulkDs, bulkD]; omega⟩
      | slice e =>
        simp only [TK.fits] at hfit
        simp only [Bool.and_eq_true] at hc
        obtain ⟨⟨hs1, hSe⟩, hte⟩ := hc
        have hs1 : s = 1 := Nat.eq_of_beq_eq_true hs1
        cases htE : T e with
        | none => rw [htE] at hte; cases hte
        | some te =>
          rw [htE] at hte
          simp only [Bool.and_eq_true] at hte
          have hsz : 1 ≤ te.size := Nat.le_of_ble_eq_true hte.1
          have hbt : 1 ≤ te.bytes := Nat.le_of_ble_eq_true hte.2
          obtain ⟨hce, hbe⟩ := cellsOf_of hT htE
          rcases DataW.trod_slice hfit h with ⟨rfl, rfl⟩ | ⟨a, len, cap, elems, rest, m, hm, rfl, rfl, hb, hl, hcm, hel, hat, _, _⟩
          · refine ⟨[.sl te.size te.bytes []], ?_, ?_, fun ti hh => by cases hh; simp [hs1], hB.one _⟩
            · simp only [RDs, RD]
              exact ⟨_, [], rfl, ⟨none, 0, rfl, by simp, by simp, by simp, by simp⟩, rfl⟩
            · simp only [DTc, hti, htE]
              exact ⟨[], rfl, by simp, by simp⟩
          · cases hm
            have hwt : (elems.length + rest.length) * te.bytes ≤ 140737488351232 := by
              have := hw ((elems.length + rest.length) * P.bytesOf e) (by simp [DataW.weights, hfit])
              rw [hbe] at this
              exact this
            have hlen : len * te.bytes ≤ 140737488351232 := Nat.le_trans (Nat.mul_le_mul_right _ (by omega)) hwt
            have each : ∀ i, i < len → ∃ ds : List D, (∃ cs', w.cells? base (a.add (i * te.size)) te.size = some cs' ∧ RDs w noM ds cs') ∧ DTc T n e ds ∧ ds.length = te.size ∧ ∃ d, (elems.map (fun x => x.fst))[i]? = some d ∧ bulkDs ds ≤ B d := by
              intro i hi
              have hi' := hat i hi
              rw [hce] at hi'
              have hil : i < elems.length := by omega
              rw [List.getElem?_eq_getElem hil] at hi'
              simp only [Option.bind_eq_some_iff] at hi'
              obtain ⟨cs', hcs, htr⟩ := hi'
              obtain ⟨ds, g1, g2, g3, g4⟩ := trod_RDB hB n e cs' _ htr hSe fun q hq => hw q (by
                simp only [DataW.weights, hfit, List.mem_cons, List.mem_append]
                exact .inr (.inl (weightsAll_mem (List.mem_map.2 ⟨_, List.getElem_mem _, rfl⟩) q hq)))
              exact ⟨ds, ⟨cs', hcs, g1⟩, g2, g3 te htE, _, by rw [List.getElem?_map, List.getElem?_eq_getElem hil]; rfl, g4⟩
            obtain ⟨xs, hxl, hx⟩ := list_of_each len each
            have hxlen : xs.length ≤ 140737488355328 := by
              have : xs.length * 1 ≤ xs.length * te.bytes := Nat.mul_le_mul_left _ hbt
              rw [hxl] at this ⊢
              omega
            refine ⟨[.sl te.size te.bytes xs], ?_, ?_, fun ti hh => by cases hh; simp [hs1], ?_⟩
            · simp only [RDs, RD]
              refine ⟨_, [], rfl, ⟨some a, cap, by rw [hxl], by omega, by rw [hxl]; omega, hxlen, ?_⟩, rfl⟩
              by_cases h0 : xs = []
              · exact .inl h0
              · right
                have hpos : 0 < xs.length := List.length_pos_iff.2 h0
                obtain ⟨⟨cs0, hc0, _⟩, _, _⟩ := hx 0 xs[0] (List.getElem?_eq_getElem hpos)
                obtain ⟨_, hl0, hat0⟩ := World.cells?_some hc0
                have hcell := hat0 0 (by omega)
                rw [List.getElem?_eq_getElem (by omega : 0 < cs0.length)] at hcell
                have hspot : a.spot = none := by
                  simp [Addr.add, World.cell?] at hcell
                  split at hcell
                  · split at hcell
                    · cases hcell
                    · rename_i hh; simpa using hh
                  · cases hcell
                obtain ⟨ab, ao, asp⟩ := a
                simp only at hspot
                subst hspot
                have hadd : ∀ o k, (⟨ab, o, none⟩ : Addr).add k = ⟨ab, o + k, none⟩ := by
                  intro o k
                  unfold Addr.add
                  split
                  · subst_vars; simp
                  · rfl
                refine ⟨ab, ao, rfl, fun h => h, ?_, RCs_of_get _ _ fun i x hi => ?_⟩
                · rw [hadd, hadd] at hcell
                  exact isCells.of_cell hcell
                · obtain ⟨⟨cs', hc', hr⟩, _, hxl', _⟩ := hx i x hi
                  obtain ⟨_, hl', hat'⟩ := World.cells?_some hc'
                  refine ⟨hxl', RC_of_list hr fun j v hj => ?_⟩
                  have hj' : j < te.size := by
                    have := (List.getElem?_eq_some_iff.1 hj).1
                    omega
                  have := hat' j hj'
                  rw [hadd, hadd] at this
                  rw [this, hj]
            · simp only [DTc, hti, htE]
              refine ⟨xs, rfl, fun x hm => ?_, by rw [hxl]; exact hlen⟩
              obtain ⟨i, hi⟩ := List.getElem?_of_mem hm
              exact (hx i x hi).2.1
            · have h1 := bulkCs_le hB xs _ fun i x hi => (hx i x hi).2.2.2
              simp only [bulkDs, bulkD]
              refine Nat.le_trans ?_ (hB.sl _ _)
              omega
      | struct fs =>
        simp only [TK.fits] at hfit
        obtain ⟨fields, hu, hfs⟩ := hfit
        simp only [Bool.and_eq_true] at hc
        obtain ⟨htile, hSf⟩ := hc
        obtain ⟨xs, m, hm, rfl, hcl, hxl, hf⟩ := DataW.trod_struct hu h
        cases hm
        obtain ⟨hct, _⟩ := cellsOf_of hT hti
        have hcl' : cs.length = s := hcl.trans hct
        obtain ⟨ds, g1, g2, g3, g4⟩ := partsB_of (T := T) hB (R := DTc T n) (w := w) (cs := cs) fs (xs.map (·.1)) 0 (by rw [hcl']; exact htile) fun i f hm ti hft => by
          rw [← hfs, List.getElem?_map] at hm
          simp only [Option.map_eq_some_iff] at hm
          obtain ⟨fd, hfd, rfl⟩ := hm
          have hi' : fields[i]? = some fd := by simpa using hfd
          have hil : i < xs.length := by rw [hxl]; exact (Array.getElem?_eq_some_iff.1 hi').1
          have htr := hf i fd hi'
          rw [List.getElem?_eq_getElem hil] at htr
          obtain ⟨hcf, _⟩ := cellsOf_of hT hft
          rw [hcf] at htr
          have hSt : S.contains fd.type = true := by
            have := List.all_eq_true.1 hSf (fd.type, fd.offset) (by rw [← hfs]; exact List.mem_map.2 ⟨fd, List.mem_of_getElem? hfd, rfl⟩)
            exact this
          obtain ⟨ds, e1, e2, e3, e4⟩ := trod_RDB hB n fd.type _ _ htr hSt fun q hq => hw q (by
            simp only [DataW.weights, hu]
            exact DataW.weights_mem_each (j := i) (by simp [hi']) (by simp [List.getElem?_eq_getElem hil]) q hq)
          exact ⟨_, by rw [List.getElem?_map, List.getElem?_eq_getElem hil]; rfl, ds, e1, e2, e3 ti hft, e4⟩
        exact ⟨ds, by simpa using g1, by simp only [DTc, hti]; exact g2, fun ti hh => by cases hh; simp [g3, hcl'], Nat.le_trans g4 (hB.agg _)⟩
      | _ => cases hc
end

theorem arg_okB {P : Program} {T : Nat → Option TI} (hT : TOk P T) {S : List TypeId} (hS : closedT T S = true) {H : Type} {B : DataW H → Nat} {BA : List (DataW H) → Nat} (hB : Bulk B BA) {enc : TypeId × Value → H} {w : World} {base b0 : Nat} {spare : Nat → Bool} {held : Bool} {r : Reach} {t : TypeId} {v : Value} {d : DataW H} {ps : List MemPlace} (hval : Value.okWide P w r b0 t v)
    (h : DataW.Trod enc P w base spare held t v d ps) (ht : S.contains t = true) (hw : ∀ m ∈ d.weights P t, m ≤ reachBytes) : ∃ n ds, DTc T n t ds ∧ RA (cx noM noHeap noι w) (argOf T t ds) v ∧ bulkDs ds ≤ B d := by
  obtain ⟨n, hn⟩ := h
  obtain ⟨ds, h1, h2, h3, h4⟩ := trod_RDB hT hS hB n t _ _ hn ht hw
  refine ⟨n, ds, h2, ?_, h4⟩
  have hM : (cx noM noHeap noι w).M = noM := by
    funext b
    refine propext ⟨fun hb => ?_, fun hb => .inl hb⟩
    rcases hb with hb | ⟨k, hk, _⟩
    · exact hb
    · simp [dom, noHeap] at hk
  have h1' : RAs (cx noM noHeap noι w) (ds.map .d) v.cells.toList := RAs_map_d.2 (by rw [hM]; exact h1)
  have hc := List.all_eq_true.1 hS t (by simpa using ht)
  unfold argOf
  cases hti : T t with
  | none => rw [hti] at hc; cases hc
  | some ti =>
    rw [hti] at hc
    obtain ⟨k, s, b, z⟩ := ti
    have hfit := (hT t _ hti).2
    have one : v.cells = #[v] → RA (cx noM noHeap noι w) (packR (ds.map .d)) v := fun e => by
      rw [e] at h1'
      cases ds with
      | nil => simp [RAs] at h1'
      | cons x xs =>
        cases xs with
        | nil =>
          simp only [List.map_cons, List.map_nil, RAs] at h1'
          obtain ⟨v', t, e, h2, _⟩ := h1'
          cases e
          exact h2
        | cons y ys =>
          simp only [List.map_cons, RAs] at h1'
          obtain ⟨_, t1, e, _, _, t2, e2, _⟩ := h1'
          cases e
          cases e2
    cases k with
    | bool => simp only [TK.fits] at hfit; obtain ⟨c, rfl⟩ := Go.WideShapes.okWide_bool hfit hval; exact one rfl
    | int k => simp only [TK.fits] at hfit; obtain ⟨c, rfl⟩ := Go.WideShapes.okWide_int hfit hval; exact one rfl
    | str => simp only [TK.fits] at hfit; obtain ⟨c, rfl⟩ := Go.WideShapes.okWide_string hfit hval; exact one rfl
    | slice e => simp only [TK.fits] at hfit; obtain ⟨a, l, c, rfl⟩ := Go.WideShapes.okWide_slice hfit hval; exact one rfl
    | struct fs =>
      simp only [TK.fits] at hfit
      obtain ⟨fields, hu, _⟩ := hfit
      obtain ⟨cs, rfl, _⟩ := Go.WideShapes.okWide_struct hu hval
      simp only [RA]
      exact ⟨cs, rfl, h1'⟩
    | _ => cases hc
end Go.AL
/- AL, part 30: struct values in a head; a nil slice inside a variable as a row; a row made shorter; a cut where several ways meet. -/
namespace Go.AL
set_option linter.unusedVariables false
set_option linter.unusedSimpArgs false

section
variable {E : Env} {ops : List Oper} {Q : Exit → St → Prop} {i : Nat} {J : Jt} {s : Slots} {h : Heap} {o : Oper}

theorem loc_build (hE : E.Good) {t : TypeId} {parts : Array (Nat × Operand)} (hop : o.op = .build t parts) {R : AV} (hR : stepBuild E.T s t parts.toList = some R) : Loc E ops J h o s R := by
  refine ⟨(by rw [hop]; intro c hc; cases hc), fun Z K Y ι a w m hlk => ?_⟩
  obtain ⟨dst, op, ty, pos, af, gd⟩ := o
  simp only at hop
  subst hop
  unfold stepBuild at hR
  split at hR
  · rename_i fs sz bt z ht
    split at hR
    · rename_i ps cs hps hcs
      simp only [Option.map_eq_some_iff] at hR
      obtain ⟨R', hR', rfl⟩ := hR
      obtain ⟨fields, hu, hf⟩ := (hE.ok.T t _ ht).2
      obtain ⟨zv, hz1, hz2⟩ := run_zero hE.ok.T ht w
      rw [← hf] at hps
      have hpr := places_run hE.ok.T (w := w) fields.toList ps hps
      have hpr' : (fields.mapM fun f => (do pure (f.offset, ← sizeOf f.type) : Sem (Nat × Nat))).run E.P w = .ok ps.toArray w := by
        rw [Array.mapM_eq_mapM_toList, map_eq_pure_bind, Sem.run_bind, hpr]
        simp
      obtain ⟨r', hr1, hr2⟩ := afill_ok (C := cx Z h ι w) m.named (places := ps) (place := (ps.toArray[·]?)) (fun i q hq => by simpa using hq) (parts.toList.map fun p => (p.1, ev s p.2)) (parts.toList.map fun p => (p.1, a.eval p.2)) cs zv.cells R' (by simp) (by
        have := RAs_evs (C := cx Z h ι w) (s := s) (a := a) (l := parts.toList.map (·.2)) fun x hx => hlk x (by simp only [Op.operands, Array.toList_map]; exact hx)
        simpa [List.map_map, Function.comp_def] using this) (by rw [hz2]; exact litCells_ok hcs) hR'
      refine ⟨.agg r', w, ?_, Grew.refl w, by simp only [RA]; exact ⟨_, rfl, hr2⟩⟩
      have hb : (Instr.build t (parts.map fun p => (p.1, a.eval p.2))).run E.P w = .ok (.agg r') w := by
        unfold Instr.build
        simp only [Sem.run_bind, hz1, Result.andThen_ok, run_underlying hu, hpr', Array.toList_map, hr1, Sem.run_pure]
      simp only [execOp, Sem.run_bind]
      rw [hb]
      simp
    · cases hR
  · cases hR

/-- A cell of a variable that holds a nil slice: a row of the frame's own, as yet empty. -/
theorem LE_nilCell (k key off : Nat) (e : TypeId) (sz : Nat) {t : TypeId} {cs : List AV} (hk : h k = some (.box t cs)) (hc : cs[off]? = some (.d (.lit (.slice none 0 0)))) (hkey : h key = none) :
    LE E ⟨J, s, h⟩ ⟨J, s, hset (hset h key (some (.row e sz []))) k (some (.box t (cs.set off (.row key))))⟩ := fun ι a w ⟨Z, K, Y, hZ, r⟩ => by
  have hne : k ≠ key := by intro e; subst e; rw [hk] at hkey; cases hkey
  obtain ⟨m1, kc⟩ := r.mem.add (Grew.refl w) hkey (e := .row e sz []) (v := .slice none 0 0) (fun b hb => by simp [blk] at hb) ⟨[], .inl ⟨none, rfl, rfl, rfl⟩, by simp [RDs], by simp, by simp⟩
  have hdom : ∀ j, dom (hset (hset h key (some (.row e sz []))) k (some (.box t (cs.set off (.row key))))) j ↔ dom (hset h key (some (.row e sz []))) j := by
    intro j
    by_cases hj : j = k
    · subst hj; simp only [dom, hset_same, hset_ne h _ hne, hk]; simp
    · simp only [dom, hset_ne _ _ hj]
  have hM : (cx Z (hset (hset h key (some (.row e sz []))) k (some (.box t (cs.set off (.row key))))) (fun j => bif Nat.beq j key then .slice none 0 0 else ι j) w).M = (cx Z (hset h key (some (.row e sz []))) (fun j => bif Nat.beq j key then .slice none 0 0 else ι j) w).M := by
    funext b
    refine propext (or_congr Iff.rfl ⟨fun ⟨j, hj, hb⟩ => ⟨j, (hdom j).1 hj, hb⟩, fun ⟨j, hj, hb⟩ => ⟨j, (hdom j).2 hj, hb⟩⟩)
  have kc2 : KeepsC (cx Z (hset h key (some (.row e sz []))) (fun j => bif Nat.beq j key then .slice none 0 0 else ι j) w) (cx Z (hset (hset h key (some (.row e sz []))) k (some (.box t (cs.set off (.row key))))) (fun j => bif Nat.beq j key then .slice none 0 0 else ι j) w) :=
    ⟨⟨fun _ _ _ _ hh => hh, fun _ _ hh => hh, fun b _ hm => by rw [hM]; exact hm⟩, fun j hj => ⟨(hdom j).2 hj, rfl⟩⟩
  refine ⟨_, Z, K, Y, hZ, ⟨fun j en hj => ?_, fun j b hj hjb => m1.own j b ((hdom j).1 hj) hjb, fun j j' b hj hj' => m1.apart j j' b ((hdom j).1 hj) ((hdom j').1 hj'), m1.Zlt, m1.Klt, m1.Jw, m1.Jc⟩, r.size, fun i => RA_keeps kc2 _ _ (RA_keeps kc _ _ (r.slot i)), r.ds⟩
  by_cases hjk : j = k
  · subst hjk
    have hj' : some (Ent.box t (cs.set off (.row key))) = some en := (hset_same _ _ _).symm.trans hj
    cases hj'
    have hb : Nat.beq j key = false := Bool.eq_false_iff.2 fun h' => hne (Nat.eq_of_beq_eq_true h')
    obtain ⟨b, vs, h1, h2, h3⟩ := r.mem.ent j _ hk
    obtain ⟨v, hv1, hv2⟩ := RAs_get h3 hc
    obtain ⟨rfl, _⟩ := RA_lit.1 hv2
    refine ⟨b, vs, by simp only [hb, cond_false]; exact h1, h2, ?_⟩
    have h4 := RAs_keeps kc2 _ _ (RAs_keeps kc _ _ h3)
    have h5 := RAs_set off h4 (x := .row key) (v := .slice none 0 0) (by
      simp only [RA]
      refine ⟨(hdom key).2 ?_, by simp⟩
      simp [dom, hset_same])
    have hvs : vs.toList.set off (.slice none 0 0) = vs.toList := by
      obtain ⟨hl, he⟩ := List.getElem?_eq_some_iff.1 hv1
      rw [← he, List.set_getElem_self]
    rwa [hvs] at h5
  · have hj' : hset h key (some (.row e sz [])) j = some en := (hset_ne _ _ hjk).symm.trans hj
    exact EntOk.keeps kc2 (fun b cs t f _ hb => hb) (m1.ent j en hj')

/-- 'x[:u]' of a row of the frame's own: under the same key; what named it before is forgotten. -/
theorem OW_cutRow' (hE : E.Good) {key : Nat} {t : TypeId} {xo uo : Operand} (ho : ops[i]? = some o) (hop : o.op = .slice t xo none (some uo) none) (hw : awant ops o s = some true) {e : TypeId} {z1 z2 : Nat} {z3 : List Value} (ht : E.T t = some ⟨.slice e, z1, z2, z3⟩) {k : TK} {sz z5 : Nat} {z6 : List Value} (hte : E.T e = some ⟨k, sz, z5, z6⟩)
    {xs : List (List D)} (hx : ev s xo = .row key) (hkey : h key = some (.row e sz xs)) {ik : IntKind} {u : Nat} (hu : ev s uo = .d (.lit (.int ik (u : Int)))) (hle : u ≤ xs.length)
    {s' : Slots} (hs : putS E.N (unkS key s) o.dst (.row key) = some s') (hk : OW E ops (i + 1) Q ⟨J, s', hset (unkH key h) key (some (.row e sz (xs.take u)))⟩) : OW E ops i Q ⟨J, s, h⟩ := fun ι a w r => by
  have hd : ops.drop i = o :: ops.drop (i + 1) := by
    obtain ⟨hlt, rfl⟩ := List.getElem?_eq_some_iff.1 ho
    exact List.drop_eq_getElem_cons hlt
  rw [hd]
  simp only [wpListIn]
  rw [if_pos (awant_ok r hw)]
  refine ⟨fun f _ => hE.wide.fn f, ?_⟩
  rw [Oper.semAt_plain E.F _ _ (by rw [hop]; intro c hc; cases hc)]
  obtain ⟨dst, op, ty, pos, af, gd⟩ := o
  simp only at hop hs
  subst hop
  obtain ⟨Z, K, Y, hZE, r⟩ := r
  have h1 := RA_ev (C := cx Z h ι w) (s := s) (a := a) xo fun t _ => r.slot t
  rw [hx] at h1
  simp only [RA] at h1
  obtain ⟨hkd, e1⟩ := h1
  have h2 := RA_ev (C := cx Z h ι w) (s := s) (a := a) uo fun t _ => r.slot t
  rw [hu] at h2
  have e2 := (RA_lit.1 h2).1
  obtain ⟨vs, f1, f2, f3, f4⟩ := r.mem.ent key _ hkey
  have hund := (hE.ok.T t _ ht).2
  simp only [TK.fits] at hund
  have hsz := run_size hE.ok.T hte w
  have hvl : vs.length = xs.length * sz := by rw [RDs_length f2]; exact flat_len xs f3
  have husz : u * sz ≤ xs.length * sz := Nat.mul_le_mul_right _ hle
  have hbo : ∀ cap, xs.length ≤ cap → (Instr.sliceBounds true xs.length cap none (some (.int ik (u : Int))) none).run E.P w = .ok (0, u, cap) w := by
    intro cap hcap
    have huc : u ≤ cap := by omega
    simp [Instr.sliceBounds, Instr.sliceBound, asIntOf, huc]
  obtain ⟨v', hv', hrow, hblk⟩ : ∃ v', (execOp a.eval ⟨dst, .slice t xo none (some uo) none, ty, pos, af, gd⟩).run E.P w = .ok (.value v') w ∧ RowOk w v' e sz u (vs.take (u * sz)) ∧ (∀ b, blk v' = some b → b < w.heap.size ∧ (blk (ι key) = some b ∨ w.heap.size ≤ b)) := by
    rcases f1 with ⟨ad, e0, h0, hv0⟩ | ⟨g, cap, cur, e0, hc0, hg, hnc, hcm, hcs, htk⟩
    · have hu0 : u = 0 := by omega
      subst hu0
      have e1' : a.eval xo = .slice ad 0 0 := e1.trans e0
      have hb0 := hbo 0 (by omega)
      rw [h0, show ((0 : Nat) : Int) = 0 from rfl] at hb0
      refine ⟨.slice ad 0 0, ?_, .inl ⟨ad, rfl, rfl, by rw [hv0]; simp⟩, fun b hb => by cases ad <;> simp [blk] at hb⟩
      cases ad <;> simp [execOp, Instr.sliceAt, Instr.slice, run_underlying hund, e1', e2, hb0, hsz]
    · have e1' : a.eval xo = .slice (some ⟨g, 0, none⟩) xs.length cap := e1.trans e0
      have hg' : w.heap[g]? = some (.cells cur e (0, 0)) := hg
      have hb0 := hbo cap hnc
      have hbk : blk (ι key) = some g := by rw [e0]; simp [blk]; omega
      refine ⟨.slice (some ⟨g, 0, none⟩) u cap, ?_, .inr ⟨g, cap, cur, rfl, hc0, hg', by omega, hcm, hcs, ?_⟩, fun b hb => ?_⟩
      · simp [execOp, Instr.sliceAt, Instr.slice, run_underlying hund, e1', e2, hb0, hsz, Addr.add]
      · rw [← htk, List.take_take, Nat.min_eq_left husz]
      · have : blk (.slice (some ⟨g, 0, none⟩) u cap) = some g := by simp [blk]; omega
        rw [this] at hb
        cases hb
        exact ⟨(Array.getElem?_eq_some_iff.1 hg').1, .inl hbk⟩
  rw [hv']
  show wpListIn _ _ _ _ _ _ _ _
  have hlen : (xs.take u).length = u := by simp; omega
  have hent : EntOk (cx Z (hset (unkH key h) key (some (.row e sz (xs.take u)))) (fun j => bif Nat.beq j key then v' else ι j) w) (.row e sz (xs.take u)) v' := by
    refine ⟨vs.take (u * sz), by rw [hlen]; exact hrow, ?_, fun y hy => f3 y (List.mem_of_mem_take hy), by rw [hlen]; omega⟩
    have h5 := RDs_take (u * sz) f2
    rw [← flat_take xs u f3] at h5
    refine RDs_keeps (w := w) (M := (cx Z h ι w).M) ⟨fun _ _ _ _ hh => hh, fun _ _ hh => hh, fun b _ hm hm' => ?_⟩ _ _ h5
    rcases hm' with hz | ⟨j, hj, hjb⟩
    · exact hm (.inl hz)
    · by_cases hjk : j = key
      · subst hjk
        simp at hjb
        rcases (hblk b hjb).2 with h6 | h6
        · exact hm (.inr ⟨_, hkd, h6⟩)
        · have := (hblk b hjb).1
          omega
      · have hbq : Nat.beq j key = false := Bool.eq_false_iff.2 fun h' => hjk (Nat.eq_of_beq_eq_true h')
        simp only [dom, hset_ne (unkH key h) _ hjk] at hj
        simp only [hbq, cond_false] at hjb
        exact hm (.inr ⟨j, dom_unkH.1 hj, hjb⟩)
  obtain ⟨m', kk⟩ := r.mem.redo (w' := w) hkd (Step.refl _ w) hblk hent
  have r0 : Rel Z K E.N (J K Y Z) (unkS key s) (hset (unkH key h) key (some (.row e sz (xs.take u)))) (fun j => bif Nat.beq j key then v' else ι j) a w :=
    ⟨m', r.size, fun j => RA_keepsK kk _ _ (nokey_unk key _) (RA_unk (r.slot j)), r.ds⟩
  unfold putS at hs
  cases hdst : dst with
  | none =>
    simp only [hdst] at hs
    cases hs
    exact hk _ _ w ⟨Z, K, Y, hZE, Rel.put_none r0 (Grew.refl _) _⟩
  | some d =>
    simp only [hdst] at hs
    cases hbd : Nat.ble (d + 1) E.N with
    | false => rw [hbd] at hs; cases hs
    | true =>
      rw [hbd] at hs
      cases hs
      exact hk _ _ w ⟨Z, K, Y, hZE, Rel.put r0 (Grew.refl _) hbd key_row⟩

/-- Several ways meet: what is told of all of them goes on. -/
theorem CW_cutE {x y : Code} {st : St} {α : Type} (S : α → St) (φ : α → Prop) (h : CW E x (thenQ (fun st => ∃ p, φ p ∧ LE E st (S p)) Q) st) (h2 : ∀ p, φ p → CW E y Q (S p)) : CW E (.seq x y) Q st :=
  CW_seq (CW.mono h fun e st' q => by
    cases e with
    | normal => obtain ⟨p, hp, hle⟩ := q; exact CW.le hle (h2 p hp)
    | _ => exact q)
end
end Go.AL
/- AL, part 31: regions that draw whose last operations come in several orders; 'max'. -/
namespace Go.AL
set_option linter.unusedVariables false
set_option linter.unusedSimpArgs false

def lexH (ops : Array Oper) : Nat → Nat → Array Bool → Bool
  | 0, _, _ => true
  | f + 1, k, listed => (Region.ready .any ops listed).contains k && Region.free .any ops listed k && lexH ops f (k + 1) (listed.setIfInBounds k true)
/-- Whatever is not of the head waits for all of the head. -/
def allSink (ops : Array Oper) (n : Nat) : Bool := (List.range ops.size).all fun t => Nat.ble (t + 1) n || (List.range n).all fun i => match ops[t]? with
  | some o => o.after.any fun e => Region.binds .any e && Nat.beq e.on i
  | none => true
def headB (ops : Array Oper) (n : Nat) : Bool := Nat.ble n ops.size && allSink ops n && lexH ops n 0 (Array.replicate ops.size false)

theorem waits_of {ops : Array Oper} {n : Nat} (h : allSink ops n = true) {listed : Array Bool} {i : Nat} (hi : i < n) (hun : listed.getD i true = false) : ∀ t, n ≤ t → t ∉ Region.ready .any ops listed := by
  intro t ht hr
  obtain ⟨_, ot, hot, hall⟩ := mem_ready.1 hr
  have htl : t < ops.size := (Array.getElem?_eq_some_iff.1 hot).1
  have h1 := List.all_eq_true.1 h t (List.mem_range.2 htl)
  simp only [Bool.or_eq_true] at h1
  rcases h1 with h1 | h1
  · have := Nat.le_of_ble_eq_true h1; omega
  · have h2 := List.all_eq_true.1 h1 i (List.mem_range.2 hi)
    rw [hot] at h2
    obtain ⟨e, he, hb⟩ := Array.any_eq_true'.1 h2
    simp only [Bool.and_eq_true] at hb
    have hon := Nat.eq_of_beq_eq_true hb.2
    have := hall e he hb.1
    rw [hon] at this
    rcases Nat.lt_or_ge i listed.size with h' | h'
    · simp [h'] at hun this
      rw [hun] at this; cases this
    · simp [Array.getElem?_eq_none h'] at hun

section
variable {E : Env} {ops : List Oper} {Y : Nat → Slots → AV → Prop}
theorem anyB_firstW (hY : YStable ops Y) {n i : Nat} {oi : Oper} {v : AV} {L : Array Bool → Slots → Prop} (hi : ops[i]? = some oi) (hw : allSink ops.toArray n = true) (hin : i < n) (hdo : dstOk E.N oi.dst = true)
    (hdone : ∀ listed s, L listed s → ∀ j ∈ Region.ready .any ops.toArray listed, n ≤ j) :
    ∀ (f : Nat) (listed : Array Bool) (s : Slots), HeadInv .any ops.toArray n listed →
      (∀ j oj, ops.toArray[j]? = some oj → j ≠ i → listed.getD j true = false → (∀ e ∈ oj.after, Region.binds .any e = true → e.on ≠ i) → oi.apart ops.toArray oj = true) →
      i ∈ Region.ready .any ops.toArray listed → Y i s v →
      anyB E ops Y n L f (listed.setIfInBounds i true) (pu s oi.dst v) → anyB E ops Y n L (f + 1) listed s := by
  intro f
  induction f with
  | zero =>
    intro listed s inv _ hr hy H
    have hun := (mem_ready.1 hr).1
    refine ⟨fun h => (by rw [h] at hr; cases hr), fun j hj => ?_⟩
    have hjn : j < n := by
      rcases Nat.lt_or_ge j n with h | h
      · exact h
      · exact absurd hj (waits_of hw hin hun j h)
    refine ⟨hjn, ?_⟩
    by_cases hji : j = i
    · subst hji
      unfold qB
      simp only [hi]
      exact ⟨v, hdo, hy, H⟩
    · have := hdone _ _ H j (ready_mono hj hji)
      omega
  | succ f ih =>
    intro listed s inv hfree hr hy H
    have hun := (mem_ready.1 hr).1
    refine ⟨fun h => (by rw [h] at hr; cases hr), fun j hj => ?_⟩
    have hjn : j < n := by
      rcases Nat.lt_or_ge j n with h | h
      · exact h
      · exact absurd hj (waits_of hw hin hun j h)
    refine ⟨hjn, ?_⟩
    by_cases hji : j = i
    · subst hji
      unfold qB
      simp only [hi]
      exact ⟨v, hdo, hy, H⟩
    · have h1 := (H.2 j (ready_mono hj hji)).2
      obtain ⟨hjun, oj, hoj, hall⟩ := mem_ready.1 hj
      have hoj' : ops[j]? = some oj := by simpa using hoj
      have hnot : ∀ e ∈ oj.after, Region.binds .any e = true → e.on ≠ i := fun e he hb heq => by
        have h1 := hall e he hb
        rw [heq, getD_both hun] at h1
        cases h1
      have h2 := qB_put hY hi hoj' (hfree j oj hoj hji hjun hnot) hy h1
      have hfree' : ∀ k ok, ops.toArray[k]? = some ok → k ≠ i → (listed.setIfInBounds j true).getD k true = false →
          (∀ e ∈ ok.after, Region.binds .any e = true → e.on ≠ i) → oi.apart ops.toArray ok = true := fun k ok hk hki hun hno => by
        refine hfree k ok hk hki ?_ hno
        by_cases hjk : j = k
        · subst hjk; exact hjun
        · rw [getD_set_ne true hjk] at hun; exact hun
      refine qB_mono (fun s' h3 => ih (listed.setIfInBounds j true) s' (inv.set hj hjn) hfree' (ready_mono hr (Ne.symm hji)) h3.1 ?_) h2
      rw [Array.setIfInBounds_comm _ _ hji]
      exact h3.2

theorem anyB_lexW (hY : YStable ops Y) {n : Nat} {K : Slots → Prop} (hw : allSink ops.toArray n = true) (hn : n ≤ ops.toArray.size) :
    ∀ (l : List Oper) (k : Nat) (listed : Array Bool) (s : Slots), (∀ j, j < l.length → l[j]? = ops[k + j]?) → k + l.length = n → HeadInv .any ops.toArray n listed → (∀ j, j < k → listed.getD j false = true) →
    lexH ops.toArray l.length k listed = true → QB E Y K l k s →
    anyB E ops Y n (fun listed' s' => (HeadInv .any ops.toArray n listed' ∧ ∀ j, j < n → listed'.getD j false = true) ∧ K s') l.length listed s
  | [], k, listed, s, _, hk, inv, hall, hB, hq => by
    have : k = n := by simpa using hk
    subst this
    exact ⟨⟨inv, hall⟩, hq⟩
  | o :: l, k, listed, s, hl, hk, inv, hall, hB, hq => by
    have h0 : ops[k]? = some o := by simpa using (hl 0 (by simp)).symm
    simp only [List.length_cons, lexH, Bool.and_eq_true] at hB
    obtain ⟨⟨hr, hf⟩, hB'⟩ := hB
    have hkn : k < n := by simp only [List.length_cons] at hk; omega
    have hr' : k ∈ Region.ready .any ops.toArray listed := by simpa using hr
    obtain ⟨x, g1, g2, g3⟩ := hq
    have hall' : ∀ j, j < k + 1 → (listed.setIfInBounds k true).getD j false = true := fun j hj => by
      by_cases hjk : k = j
      · subst hjk
        have : k < listed.size := by rw [inv.size]; omega
        simp [this]
      · rw [getD_set_ne false hjk]; exact hall j (by omega)
    exact anyB_firstW hY h0 hw hkn g1 (fun listed' s' hL j hj => by
      rcases Nat.lt_or_ge j n with h | h
      · have h1 := hL.1.2 j h
        have h2 := (mem_ready.1 hj).1
        rw [getD_both h2] at h1; cases h1
      · exact h) l.length listed s inv (Region.free_spec (by simpa using h0) hf) hr' g2
      (anyB_lexW hY hw hn l (k + 1) _ _ (fun j hj => by have := hl (j + 1) (by simp; omega); simpa [Nat.add_assoc, Nat.add_comm 1 j] using this) (by simp only [List.length_cons] at hk; omega) (inv.set hr' hkn) hall' hB' g3)
end

/-! ### Behind the head: whichever is ready -/
def AW (E : Env) (ops : List Oper) (g : Nat) (listed : Array Bool) (Q : Exit → St → Prop) (st : St) : Prop :=
  ∀ ι a w, RelS E st ι a w → wpAnyIn E.F E.n E.P .any ops.toArray (Post E Q) g listed a w
section
variable {E : Env} {ops : List Oper} {Q : Exit → St → Prop} {st : St} {listed : Array Bool} {g : Nat}
theorem AW_end (hr : Region.ready .any ops.toArray listed = []) (h : Q .normal st) : AW E ops 0 listed Q st := fun ι a w r => ⟨hr, st, ι, h, r⟩
theorem AW_le {st' : St} (hle : LE E st st') (h : AW E ops g listed Q st') : AW E ops g listed Q st := fun ι a w r => let ⟨ι', r'⟩ := hle ι a w r; h ι' a w r'
theorem opIn_of {i : Nat} {o : Oper} (ho : ops[i]? = some o) (hg : o.guard = none) {K : St → Prop} (h : OW E [o] 0 (fun e st' => e = .normal ∧ K st') st) {K' : Act → World → Prop} {Q' : Exit → Act → World → Prop} (hk : ∀ st' ι' a' w', K st' → RelS E st' ι' a' w' → K' a' w')
    {ι : Nat → Value} {a : Act} {w : World} (r : RelS E st ι a w) : wpOpIn E.F E.n E.P ops.toArray Q' i K' a w := by
  unfold wpOpIn
  simp only [List.getElem?_toArray, ho]
  rw [if_pos (by simp [Region.wanted, hg])]
  exact opG_of_OW hg h ι a w r K' Q' hk
theorem AW_one {i : Nat} {o : Oper} (hr : Region.ready .any ops.toArray listed = [i]) (ho : ops[i]? = some o) (hg : o.guard = none) (h : OW E [o] 0 (fun e st' => e = .normal ∧ AW E ops g (listed.setIfInBounds i true) Q st') st) : AW E ops (g + 1) listed Q st := fun ι a w r => by
  refine ⟨fun h0 => (by rw [hr] at h0; cases h0), fun j hj => ?_⟩
  rw [hr] at hj
  have : j = i := by simpa using hj
  subst this
  exact opIn_of ho hg h (fun st' ι' a' w' k r' => k ι' a' w' r') r
theorem AW_two {i j : Nat} {o o' : Oper} (hr : Region.ready .any ops.toArray listed = [i, j]) (ho : ops[i]? = some o) (hg : o.guard = none) (ho' : ops[j]? = some o') (hg' : o'.guard = none)
    (h : OW E [o] 0 (fun e st' => e = .normal ∧ AW E ops g (listed.setIfInBounds i true) Q st') st) (h' : OW E [o'] 0 (fun e st' => e = .normal ∧ AW E ops g (listed.setIfInBounds j true) Q st') st) : AW E ops (g + 1) listed Q st := fun ι a w r => by
  refine ⟨fun h0 => (by rw [hr] at h0; cases h0), fun q hq => ?_⟩
  rw [hr] at hq
  have : q = i ∨ q = j := by simpa using hq
  rcases this with rfl | rfl
  · exact opIn_of ho hg h (fun st' ι' a' w' k r' => k ι' a' w' r') r
  · exact opIn_of ho' hg' h' (fun st' ι' a' w' k r' => k ι' a' w' r') r
end

def headListed (n m : Nat) : Array Bool := ((List.replicate n true) ++ List.replicate (m - n) false).toArray

theorem CW_fork {E : Env} {ops : List Oper} {Q : Exit → St → Prop} {J : Jt} {s : Slots} {h : Heap} (hE : E.Good) (n : Nat) {id : Nat} (hB : headB ops.toArray n = true)
    (hq : HW E ops J h n 0 (fun s => AW E ops (ops.length - n) (headListed n ops.length) Q ⟨J, s, h⟩) s) : CW E (.region id ops.toArray true) Q ⟨J, s, h⟩ := fun ι a w r => by
  simp only [headB, Bool.and_eq_true] at hB
  obtain ⟨⟨hn, hs⟩, hlex⟩ := hB
  have hn := Nat.le_of_ble_eq_true hn
  have hn' : n ≤ ops.length := by simpa using hn
  have htl : (ops.take n).length = n := by simp; omega
  let Y : Nat → Slots → AV → Prop := fun i s x => ∃ o, ops[i]? = some o ∧ YA E ops J h o s x
  have hYS : YStable ops Y := by
    rintro i o s s' x ho hss ⟨o', ho', hy⟩
    have : o' = o := by rw [ho] at ho'; exact (Option.some.inj ho').symm
    subst this
    exact ⟨o', ho', YA_same hss hy⟩
  have inv0 : HeadInv .any ops.toArray n (Array.replicate ops.toArray.size false) :=
    ⟨by simp, fun j oj _ hl => (by rw [getD_replicate_false] at hl; cases hl), fun t _ ht => getD_in (by simpa using ht) (getD_replicate_false _ _)⟩
  have hQB : ∀ (l : List Oper) (k : Nat) (K : Slots → Prop) (s : Slots), (∀ j, j < l.length → l[j]? = ops[k + j]?) → QW E ops J h K l s → QB E Y K l k s := by
    intro l
    induction l with
    | nil => intro k K s _ hq; exact hq
    | cons o l ih =>
      intro k K s hl hq
      obtain ⟨x, h1, h2, h3⟩ := hq
      exact ⟨x, h1, ⟨o, by simpa using (hl 0 (by simp)).symm, h2⟩, ih (k + 1) K _ (fun j hj => by have := hl (j + 1) (by simp; omega); simpa [Nat.add_assoc, Nat.add_comm 1 j] using this) h3⟩
  have H0 := anyB_lexW (E := E) (Y := Y) hYS hs hn (ops.take n) 0 _ s (fun j hj => by
    have hj' : j < n := by rw [htl] at hj; exact hj
    simp [hj']) (by simpa using htl) inv0 (fun j hj => by omega) (by rw [htl]; exact hlex) (hQB _ 0 _ s (fun j hj => by
    have hj' : j < n := by rw [htl] at hj; exact hj
    simp [hj']) (by simpa [HW] using hq))
  have r1 : RelS E ⟨J, s, h⟩ ι a { w with drawn := w.drawn + 1 } := by
    obtain ⟨Z, K, Y, hZE, r⟩ := r
    exact ⟨Z, K, Y, hZE, r.mem.grew (Grew.drew w), r.size, fun i => RA_keeps (keepsC_grew (K := K) (J := J K Y Z) (Grew.drew w)) _ _ (r.slot i), r.ds.grew (Grew.drew w)⟩
  refine wpIn_region_any hE.ok.mixed ?_
  have hh := wpAnyIn_of_headB (Y := Y) (J := J) (Q' := Post E Q) (fun _ => h) (g := ops.length - n) (fun i o listed s x ho inv hi hin hy hdo ι a w r K' hk' => ?_) (fun listed s ι a' w' r' hL => by
    have hlist : listed = headListed n ops.length := by
      have hsz := hL.1.1.size
      apply Array.ext
      · rw [hsz]; simp [headListed]; omega
      · intro q hq1 hq2
        rcases Nat.lt_or_ge q n with hqn | hqn
        · have := hL.1.2 q hqn
          have e1 : listed[q] = true := by simpa [hq1] using this
          rw [e1]
          simp [headListed, List.getElem_append, hqn]
        · have := hL.1.1.tail q hqn (by rw [← hsz]; exact hq1)
          have e1 : listed[q] = false := by simpa [hq1] using this
          rw [e1]
          simp [headListed, List.getElem_append, Nat.not_lt.2 hqn]
    subst hlist
    exact hL.2 ι a' w' r') _ _ _ ι a _ inv0 r1 H0
  · rw [htl] at hh
    rwa [show n + (ops.length - n) = ops.toArray.size by simp; omega] at hh
  · obtain ⟨o', ho', hya⟩ := hy
    have : o' = o := by rw [ho] at ho'; exact (Option.some.inj ho').symm
    subst this
    refine wpOpIn_of_qA (J := J) (h := h) (K := fun s' => s' = pu s o'.dst x) hE r (fun s' a' w' r' hs' => ?_) ?_
    · subst hs'
      exact hk' ι a' w' r'
    · unfold qA
      simp only [ho]
      exact ⟨x, hdo, hya, rfl⟩

/-- 'max' of two ints. -/
theorem loc_max {E : Env} {ops : List Oper} {J : Jt} {s : Slots} {h : Heap} (hE : E.Good) {o : Oper} {xo yo : Operand} {t : TypeId} (hop : o.op = .call ⟨.builtin .max, #[xo, yo], #[t, t]⟩) {x1 x2 : Nat} {x3 : List Value} (ht : E.T t = some ⟨.int .i64, x1, x2, x3⟩) {a b : Int} (hx : ev s xo = .d (.lit (.int .i64 a))) (hy : ev s yo = .d (.lit (.int .i64 b))) :
    Loc E ops J h o s (.d (.lit (.int .i64 (max a b)))) := by
  refine ⟨(by rw [hop]; intro c hc; cases hc), fun Z K Y ι ac w m hl => ?_⟩
  obtain ⟨dst, op, ty, pos, af, gd⟩ := o
  simp only at hop
  subst hop
  have h1 := hl xo (by simp [Op.operands, Call.operands])
  have h2 := hl yo (by simp [Op.operands, Call.operands])
  rw [hx] at h1
  rw [hy] at h2
  obtain ⟨e1, o1⟩ := RA_lit.1 h1
  obtain ⟨e2, o2⟩ := RA_lit.1 h2
  have hu := (hE.ok.T t _ ht).2
  simp only [TK.fits] at hu
  refine ⟨.int .i64 (max a b), w, ?_, Grew.refl w, RA_lit_mk ?_⟩
  · have hm : (if b > a then b else a) = max a b := by simp only [Int.max_def]; split <;> split <;> omega
    simp [execOp, resolve, invoke, builtin, Builtin.max_, Builtin.max2, e1, e2, hm]
  · simp only [okLit] at o1 o2 ⊢
    omega

/-- '[]T{zero}', the element a constant of several cells. -/
theorem loc_litAgg {E : Env} {ops : List Oper} {J : Jt} {s : Slots} {h : Heap} (hE : E.Good) {o : Oper} {t e : TypeId} {vs : Array Value} (hop : o.op = .buildSlice t 1 #[(0, .const (.agg vs))]) {z1 z2 : Nat} {z3 : List Value} (ht : E.T t = some ⟨.slice e, z1, z2, z3⟩)
    {k : TK} {sz bts : Nat} {z6 : List Value} (hte : E.T e = some ⟨k, sz, bts, z6⟩) (hpos : Nat.ble 1 sz = true) (hsz : vs.size = sz) (hok : vs.toList.all okLitB = true) (hsmall : Nat.ble (1 * sz) 16777216 = true) (hbts : Nat.ble bts 16777216 = true) : Loc E ops J h o s (.d (.sl sz bts [vs.toList.map .lit])) := by
  refine ⟨(by rw [hop]; intro c hc; cases hc), fun Z K Y ι a w m hlk => ?_⟩
  obtain ⟨dst, op, ty, pos, af, gd⟩ := o
  simp only at hop
  subst hop
  have hu := (hE.ok.T t _ ht).2
  simp only [TK.fits] at hu
  obtain ⟨⟨ie, hie, hisz, hby, z, hz, hzc⟩, _⟩ := hE.ok.T e _ hte
  simp only at hisz hby hzc
  have hpos' : 1 ≤ sz := Nat.le_of_ble_eq_true hpos
  have hsm' := Nat.le_of_ble_eq_true hsmall
  have hb := Nat.le_of_ble_eq_true hbts
  have hr : (Instr.buildSlice t 1 (#[(0, Operand.const (.agg vs))].map fun p => (p.1, a.eval p.2))).run E.P w = .ok (.slice (some ⟨w.heap.size, 0, none⟩) 1 1) (w.alloc (.cells vs e)) := by
    refine run_buildSlice (P := E.P) w t e 1 _ _ ie z hu hie hz (by rw [hisz]; omega) (by rw [hisz]; omega) ?_
    rw [hisz]
    have hfw := Great.fill_whole (s := sz) hpos' [Value.agg vs] ((Array.range (1 * sz)).map (z.cells[· % z.cells.size]!)) (by intro v hv; simp at hv; subst hv; simpa [Value.cells] using hsz) (by simp)
    simpa [Act.eval, Value.cells] using hfw
  refine ⟨.slice (some ⟨w.heap.size, 0, none⟩) 1 1, w.alloc (.cells vs e), by simp only [execOp, Sem.run_bind]; rw [hr]; simp, Grew.alloc w _, ?_⟩
  have hRD : ∀ l : List Value, l.all okLitB = true → RDs w (cx Z h ι w).M (l.map .lit) l := by
    intro l
    induction l with
    | nil => simp [RDs]
    | cons v l ih =>
      intro hl
      simp only [List.all_cons, Bool.and_eq_true] at hl
      simp only [List.map_cons, RDs]
      exact ⟨v, l, rfl, by simp only [RD]; exact ⟨trivial, okLit_of_B hl.1⟩, ih hl.2⟩
  simp only [RA, RD]
  have hn := RC_new m e (hRD vs.toList hok)
  refine ⟨_, 1, rfl, by simp, by simp; omega, by simp, .inr ⟨w.heap.size, 0, rfl, hn.1, ⟨_, _, _, heap_alloc_new w _⟩, RCs_of_flat (by intro x hx; simp at hx; subst hx; simpa using hsz) (by simpa using hn.2)⟩⟩
end Go.AL
/- AL, part 32: a variable of the frame's own handed on as data: nobody writes it from now on. -/
namespace Go.AL
set_option linter.unusedVariables false
set_option linter.unusedSimpArgs false
mutual
def fb (k : Nat) (ds : List D) : AV → AV
  | .d x => .d x
  | .any => .any
  | .agg cs => .agg (fbs k ds cs)
  | .tup cs => .tup (fbs k ds cs)
  | .fn f a b => .fn f (fbs k ds a) (fbs k ds b)
  | .ptr j o => bif Nat.beq j k then .d (.iptr (ds.drop o)) else .ptr j o
  | .row j => bif Nat.beq j k then .any else .row j
  | .view j o n => bif Nat.beq j k then .any else .view j o n
def fbs (k : Nat) (ds : List D) : List AV → List AV
  | [] => []
  | x :: xs => fb k ds x :: fbs k ds xs
end
def fbS (k : Nat) (ds : List D) (s : Slots) : Slots := fun i => fb k ds (s i)
def fbE (k : Nat) (ds : List D) : Ent → Ent
  | .box t cs => .box t (fbs k ds cs)
  | .row e sz xs => .row e sz xs
  | .ghost cs vs => .ghost (fbs k ds cs) vs
  | .rowA e sz n cs => .rowA e sz n (fbs k ds cs)
def fbH (k : Nat) (ds : List D) (h : Heap) : Heap := fun j => bif Nat.beq j k then none else match h j with
  | some e => some (fbE k ds e)
  | none => none
mutual
theorem RA_fb {k : Nat} {ds : List D} {C C' : Cx} (hk : Keeps C.w C'.w C.M C'.M) (hd : ∀ j, j ≠ k → C.dom j → C'.dom j ∧ C'.ι j = C.ι j) (hX : ∀ o b, blk (C.ι k) = some b → RD C'.w C'.M (.iptr (ds.drop o)) (.pointer (some ⟨b, o, none⟩))) : ∀ (x : AV) (v : Value), RA C x v → RA C' (fb k ds x) v
  | .d x, v => fun hx => by simp only [RA, fb] at hx ⊢; exact RD_keeps hk x v hx
  | .agg cs, v => fun hx => by
    simp only [RA, fb] at hx ⊢
    obtain ⟨vs, e, h1⟩ := hx
    exact ⟨vs, e, RAs_fb hk hd hX cs _ h1⟩
  | .tup cs, v => fun hx => by
    simp only [RA, fb] at hx ⊢
    obtain ⟨vs, e, h1⟩ := hx
    exact ⟨vs, e, RAs_fb hk hd hX cs _ h1⟩
  | .fn f first cap, v => fun hx => by
    simp only [RA, fb] at hx ⊢
    obtain ⟨vf, vc, e, h1, h2⟩ := hx
    exact ⟨vf, vc, e, RAs_fb hk hd hX first _ h1, RAs_fb hk hd hX cap _ h2⟩
  | .any, v => fun _ => by simp only [RA, fb]
  | .ptr j o, v => fun hx => by
    simp only [fb]
    cases hb : Nat.beq j k with
    | true =>
      have e := Nat.eq_of_beq_eq_true hb
      subst e
      simp only [RA, cond_true] at hx ⊢
      obtain ⟨_, b, hbk, e⟩ := hx
      rw [e]; exact hX o b hbk
    | false =>
      have hne : j ≠ k := by intro e; subst e; simp at hb
      simp only [RA, cond_false] at hx ⊢
      obtain ⟨hj, b, hbk, e⟩ := hx
      have := hd j hne hj
      exact ⟨this.1, b, by rw [this.2]; exact hbk, e⟩
  | .view j o n, v => fun hx => by
    simp only [fb]
    cases hb : Nat.beq j k with
    | true => simp [RA]
    | false =>
      have hne : j ≠ k := by intro e; subst e; simp at hb
      simp only [RA, cond_false] at hx ⊢
      obtain ⟨hj, b, cap, hbk, e⟩ := hx
      have := hd j hne hj
      exact ⟨this.1, b, cap, by rw [this.2]; exact hbk, by rw [this.2]; exact e⟩
  | .row j, v => fun hx => by
    simp only [fb]
    cases hb : Nat.beq j k with
    | true => simp [RA]
    | false =>
      have hne : j ≠ k := by intro e; subst e; simp at hb
      simp only [RA, cond_false] at hx ⊢
      have := hd j hne hx.1
      exact ⟨this.1, by rw [this.2]; exact hx.2⟩
theorem RAs_fb {k : Nat} {ds : List D} {C C' : Cx} (hk : Keeps C.w C'.w C.M C'.M) (hd : ∀ j, j ≠ k → C.dom j → C'.dom j ∧ C'.ι j = C.ι j) (hX : ∀ o b, blk (C.ι k) = some b → RD C'.w C'.M (.iptr (ds.drop o)) (.pointer (some ⟨b, o, none⟩))) : ∀ (xs : List AV) (vs : List Value), RAs C xs vs → RAs C' (fbs k ds xs) vs
  | [], vs => fun hx => by simpa only [RAs, fbs] using hx
  | x :: xs, vs => fun hx => by
    simp only [RAs, fbs] at hx ⊢
    obtain ⟨v, t, e, h1, h2⟩ := hx
    exact ⟨v, t, e, RA_fb hk hd hX x v h1, RAs_fb hk hd hX xs t h2⟩
end

theorem LE_freezeBox {E : Env} {J : Jt} {s : Slots} {h : Heap} (k : Nat) {t : TypeId} {cs : List AV} {ds : List D} (hk : h k = some (.box t cs)) (hds : cs = ds.map .d) : LE E ⟨J, s, h⟩ ⟨J, fbS k ds s, fbH k ds h⟩ := fun ι a w ⟨Z, K, Y, hZE, r⟩ => by
  subst hds
  have hdom : ∀ j, dom (fbH k ds h) j ↔ j ≠ k ∧ dom h j := by
    intro j
    unfold dom fbH
    cases hbq : Nat.beq j k with
    | true =>
      have e := Nat.eq_of_beq_eq_true hbq
      simp [e]
    | false =>
      have hne : j ≠ k := by intro e; subst e; simp at hbq
      simp only [cond_false]
      cases hj : h j <;> simp [hne]
  have hkd : dom h k := by simp [dom, hk]
  have keeps : Keeps w w (cx Z h ι w).M (cx Z (fbH k ds h) ι w).M := by
    refine ⟨fun _ _ _ _ hh => hh, fun _ _ hh => hh, fun b _ hm hm' => ?_⟩
    rcases hm' with hz | ⟨j, hj, hjb⟩
    · exact hm (.inl hz)
    · exact hm (.inr ⟨j, ((hdom j).1 hj).2, hjb⟩)
  have hd : ∀ j, j ≠ k → (cx Z h ι w).dom j → (cx Z (fbH k ds h) ι w).dom j ∧ ι j = ι j := fun j hne hj => ⟨(hdom j).2 ⟨hne, hj⟩, rfl⟩
  have hX : ∀ o b, blk (ι k) = some b → RD w (cx Z (fbH k ds h) ι w).M (.iptr (ds.drop o)) (.pointer (some ⟨b, o, none⟩)) := by
    intro o b hb
    obtain ⟨b', vs, h1, h2, h3⟩ := r.mem.ent k _ hk
    have : b' = b := by rw [blk_ptr h1] at hb; injection hb
    subst this
    have h2' : w.heap[b']? = some (.cells vs t (0, 0)) := h2
    simp only [RD]
    refine ⟨b', o, rfl, fun hm => ?_, ⟨_, _, _, h2'⟩, RC_of_list (RDs_keeps keeps _ _ (RDs_drop o (RAs_map_d.1 h3))) fun j v hj => ?_⟩
    · rcases hm with hz | ⟨j, hj, hjb⟩
      · exact (r.mem.own k b' hkd hb).1 hz
      · have hj' := (hdom j).1 hj
        exact hj'.1 (r.mem.apart j k b' hj'.2 hkd hjb hb)
    · simp only [World.cell?, h2']
      simpa [List.getElem?_drop] using hj
  refine ⟨ι, Z, K, Y, hZE, ⟨fun j e' hj => ?_, fun j b hj hjb => r.mem.own j b ((hdom j).1 hj).2 hjb, fun j j' b hj hj' => r.mem.apart j j' b ((hdom j).1 hj).2 ((hdom j').1 hj').2, r.mem.Zlt, r.mem.Klt, r.mem.Jw, r.mem.Jc⟩, r.size,
    fun j => RA_fb (C := cx Z h ι w) (C' := cx Z (fbH k ds h) ι w) keeps hd hX _ _ (r.slot j), r.ds⟩
  have hj0 : j ≠ k := ((hdom j).1 (show (fbH k ds h j).isSome = true by rw [show fbH k ds h j = some e' from hj]; rfl)).1
  have hbq : Nat.beq j k = false := Bool.eq_false_iff.2 fun h' => hj0 (Nat.eq_of_beq_eq_true h')
  have hj' : (match h j with | some e => some (fbE k ds e) | none => none) = some e' := by
    have : fbH k ds h j = some e' := hj
    unfold fbH at this
    rw [hbq] at this
    exact this
  split at hj'
  · rename_i e0 he0
    cases hj'
    have ho := r.mem.ent j e0 he0
    cases e0 with
    | box t cs =>
      obtain ⟨b, vs, h1, h2, h3⟩ := ho
      exact ⟨b, vs, h1, h2, RAs_fb (C := cx Z h ι w) (C' := cx Z (fbH k ds h) ι w) keeps hd hX _ _ h3⟩
    | row e2 sz2 xs2 =>
      obtain ⟨vs, h1, h2, h3⟩ := ho
      exact ⟨vs, h1, RDs_keeps keeps _ _ h2, h3⟩
    | ghost cs vs => exact ⟨ho.1, RAs_fb (C := cx Z h ι w) (C' := cx Z (fbH k ds h) ι w) keeps hd hX _ _ ho.2⟩
    | rowA e2 sz2 n2 cs =>
      obtain ⟨vs, h1, h2, h3⟩ := ho
      exact ⟨vs, h1, RAs_fb (C := cx Z h ι w) (C' := cx Z (fbH k ds h) ι w) keeps hd hX _ _ h2, h3⟩
  · cases hj'

/-- 's + t' of texts. -/
theorem loc_concat {E : Env} {ops : List Oper} {J : Jt} {s : Slots} {h : Heap} (hE : E.Good) {o : Oper} {t yt : TypeId} {xo yo : Operand} (hop : o.op = .binOp .add t xo yo yt) {x y : ByteArray} (hx : ev s xo = .d (.lit (.string x))) (hy : ev s yo = .d (.lit (.string y))) (hsz : x.size + y.size ≤ 140737488355328) : Loc E ops J h o s (.d (.lit (.string (x ++ y)))) := by
  refine ⟨(by rw [hop]; intro c hc; cases hc), fun Z K Y ι ac w m hl => ?_⟩
  obtain ⟨dst, op, ty, pos, af, gd⟩ := o
  simp only at hop
  subst hop
  have h1 := hl xo (by simp [Op.operands])
  have h2 := hl yo (by simp [Op.operands])
  rw [hx] at h1
  rw [hy] at h2
  obtain ⟨e1, o1⟩ := RA_lit.1 h1
  obtain ⟨e2, o2⟩ := RA_lit.1 h2
  have hg : (eqGuard .add t xo yo (.string x) (.string y)).run E.P w = .ok () w := by
    unfold eqGuard; split <;> simp
  refine ⟨.string (x ++ y), w, ?_, Grew.refl w, RA_lit_mk (by simp only [okLit, ByteArray.size_append]; omega)⟩
  · simp only [execOp, e1, e2, Sem.run_bind, hg, Result.andThen_ok]
    simp [binOp, Op.stringOp]
    omega
end Go.AL
/- AL, part 33: shifts to the left. -/
namespace Go.AL
set_option linter.unusedVariables false
set_option linter.unusedSimpArgs false
section
variable {E : Env} {ops : List Oper} {J : Jt} {h : Heap} {s : Slots}
/-- '1 << k'. -/
theorem loc_shl (hE : E.Good) {o : Oper} {t yt : TypeId} {xo yo : Operand} (hop : o.op = .binOp .shl t xo yo yt) {k : Nat} {yk : IntKind} (hx : ev s xo = .d (.lit (.int .i64 1))) (hy : ev s yo = .d (.lit (.int yk (k : Int)))) (hk : k ≤ 60) : Loc E ops J h o s (.d (.lit (.int .i64 ((2 ^ k : Nat) : Int)))) := by
  refine ⟨(by rw [hop]; intro c hc; cases hc), fun Z K Y ι a w m hl => ?_⟩
  obtain ⟨dst, op, ty, pos, af, gd⟩ := o
  simp only at hop
  subst hop
  have h1 := hl xo (by simp [Op.operands])
  have h2 := hl yo (by simp [Op.operands])
  rw [hx] at h1
  rw [hy] at h2
  obtain ⟨e1, o1⟩ := RA_lit.1 h1
  obtain ⟨e2, _⟩ := RA_lit.1 h2
  have hg : (eqGuard .shl t xo yo (.int .i64 1) (.int yk k)).run E.P w = .ok () w := by
    unfold eqGuard; split <;> simp
  have hp : (2 : Nat) ^ k ≤ 2 ^ 60 := Nat.pow_le_pow_right (by omega) hk
  have h4 : (1 : Int) * 2 ^ k = ((2 ^ k : Nat) : Int) := by simp
  generalize 2 ^ k = m at hp h4 ⊢
  have hw : IntKind.i64.wrap (m : Int) = (m : Int) :=
    wrap_id _ _ (by have : IntKind.i64.min = -9223372036854775808 := rfl; omega) (by have : IntKind.i64.max = 9223372036854775807 := rfl; omega)
  refine ⟨.int .i64 (m : Int), w, ?_, Grew.refl w, RA_lit_mk ?_⟩
  · simp only [execOp, e1, e2, Sem.run_bind, hg, Result.andThen_ok]
    have hb : min k IntKind.i64.bits = k := by have : IntKind.i64.bits = 64 := rfl; omega
    have h3 : ¬ ((k : Int) < 0) := by omega
    simp only [binOp, Op.shift, h3, if_false, Int.toNat_natCast, hb, h4, hw]
    rfl
  · simp only [okLit]
    have : IntKind.i64.min = -9223372036854775808 := rfl
    have : IntKind.i64.max = 9223372036854775807 := rfl
    constructor <;> omega
end
end Go.AL
/- AL, part 34: calls that are lent what is the frame's own; rows told with less. -/
namespace Go.AL
set_option linter.unusedVariables false
set_option linter.unusedSimpArgs false
section
variable {E : Env} {ops : List Oper} {Q : Exit → St → Prop} {i : Nat} {J : Jt} {h : Heap} {s : Slots}

/-- A call of a function that writes nothing of what it is handed and gives a plain value: what is the frame's own may be lent to it as data. -/
theorem OW_callLend' (hE : E.Good) {sF : Slots} {hF : Heap} (hle : LE E ⟨J, s, h⟩ ⟨J, sF, hF⟩) {f : Nat} {L : List AV} {x : Value} (hc : Does E.P f L noHeap (.d (.lit x))) {o : Oper} {fo : Operand} {args : Array Operand} {ts : Array TypeId} (ho : ops[i]? = some o) (hop : o.op = .call ⟨.value fo, args, ts⟩) (hw : awant ops o s = some true)
    (hL : callArgs sF fo args.toList = some (f, L)) (hk : kfs L = true) {s' : Slots} (hs : putS E.N s o.dst (.d (.lit x)) = some s') (hq : OW E ops (i + 1) Q ⟨J, s', h⟩) : OW E ops i Q ⟨J, s, h⟩ := fun ι a w r => by
  have hd : ops.drop i = o :: ops.drop (i + 1) := by
    obtain ⟨hlt, rfl⟩ := List.getElem?_eq_some_iff.1 ho
    exact List.drop_eq_getElem_cons hlt
  rw [hd]
  simp only [wpListIn]
  rw [if_pos (awant_ok r hw)]
  refine ⟨fun f _ => hE.wide.fn f, ?_⟩
  rw [Oper.semAt_plain E.F _ _ (by rw [hop]; intro c hc; cases hc)]
  obtain ⟨ι2, Z2, K2, Y2, hZE2, r2⟩ := hle ι a w r
  obtain ⟨Z, K, Y, hZE, r⟩ := r
  obtain ⟨vf, vc, he, hv⟩ := call_args hL r2.slot
  obtain ⟨dst, op, ty, pos, af, gd⟩ := o
  simp only at hop
  subst hop
  rw [exec_call he hc.1]
  simp only [Oper.uponIn]
  refine ⟨fun hx => (by rw [hE.wide.depth] at hx; cases hx), ?_⟩
  have hZ : ∀ b, (cx Z2 hF ι2 w).M b → b < w.heap.size := fun b hb => r2.mem.Mlt hb
  have hv' : RAs (cx (cx Z2 hF ι2 w).M noHeap noι w) L (vf ++ args.map a.eval ++ vc).toList :=
    RAs_kf (C := cx Z2 hF ι2 w) (C' := cx (cx Z2 hF ι2 w).M noHeap noι w) ⟨fun _ _ _ _ hh => hh, fun _ _ hh => hh, fun b _ hm hm' => by rw [M_of] at hm'; exact hm hm'⟩ _ _ hk hv
  have := hc.2 (E.n - 1) (cx Z2 hF ι2 w).M w _ hZ hv'
  simp only [Array.toArray_toList] at this
  refine (hE.wide.calls this).mono fun e w' ⟨v, ι', he', hg, hRv, _⟩ => ?_
  subst he'
  show wpListIn _ _ _ _ _ _ _ _
  have hRv' : RA (cx Z h ι w') (.d (.lit x)) v := by
    obtain ⟨e, o⟩ := RA_lit.1 hRv
    rw [e]; exact RA_lit_mk o
  unfold putS at hs
  cases hdst : dst with
  | none =>
    simp only [hdst] at hs
    cases hs
    exact hq ι _ w' ⟨Z, K, Y, hZE, Rel.put_none r hg _⟩
  | some d =>
    simp only [hdst] at hs
    cases hb : Nat.ble (d + 1) E.N with
    | false => rw [hb] at hs; cases hs
    | true =>
      rw [hb] at hs
      cases hs
      exact hq ι _ w' ⟨Z, K, Y, hZE, Rel.put r hg hb hRv'⟩

/-! ### Data told with less -/
def Dle (x y : D) : Prop := ∀ w M v, RD w M x v → RD w M y v
def Dles (x y : List D) : Prop := ∀ w M vs, RDs w M x vs → RDs w M y vs
theorem Dle.refl (x : D) : Dle x x := fun _ _ _ h => h
theorem Dles.refl (x : List D) : Dles x x := fun _ _ _ h => h
theorem Dles.nil : Dles [] [] := fun _ _ _ h => h
theorem Dles.cons {x y : D} {xs ys : List D} (h : Dle x y) (hs : Dles xs ys) : Dles (x :: xs) (y :: ys) := fun w M vs hv => by
  simp only [RDs] at hv ⊢
  obtain ⟨v, t, e, h1, h2⟩ := hv
  exact ⟨v, t, e, h _ _ _ h1, hs _ _ _ h2⟩
theorem RDs_split {w : World} {M : Nat → Prop} : ∀ {xs ys : List D} {vs : List Value}, RDs w M (xs ++ ys) vs → ∃ a b, vs = a ++ b ∧ RDs w M xs a ∧ RDs w M ys b
  | [], ys, vs, h => ⟨[], vs, rfl, by simp [RDs], h⟩
  | x :: xs, ys, vs, h => by
    simp only [List.cons_append, RDs] at h
    obtain ⟨v, t, rfl, h1, h2⟩ := h
    obtain ⟨a, b, rfl, h3, h4⟩ := RDs_split h2
    exact ⟨v :: a, b, rfl, by simp only [RDs]; exact ⟨v, a, rfl, h1, h3⟩, h4⟩
theorem Dles.append {x y xs ys : List D} (h : Dles x y) (hs : Dles xs ys) : Dles (x ++ xs) (y ++ ys) := fun w M vs hv => by
  obtain ⟨a, b, rfl, h1, h2⟩ := RDs_split hv
  exact RDs_append (h _ _ _ h1) (hs _ _ _ h2)
theorem Dle.nilSl (sz bts : Nat) : Dle (.lit (.slice none 0 0)) (.sl sz bts []) := fun w M v hv => by
  simp only [RD] at hv
  obtain ⟨rfl, _⟩ := hv
  simp only [RD]
  exact ⟨none, 0, rfl, by simp, by simp, by simp, by simp⟩
theorem Dles.set {x y : List D} : ∀ {xs : List (List D)} {j : Nat}, xs[j]? = some x → Dles x y → Dles xs.flatten (xs.set j y).flatten
  | [], j, h, _ => by simp at h
  | z :: xs, 0, h, hl => by
    simp at h; subst h
    simpa using hl.append (Dles.refl _)
  | z :: xs, j + 1, h, hl => by
    have := Dles.set (xs := xs) (j := j) (by simpa using h) hl
    simpa using (Dles.refl z).append this
theorem Dles.set2 {x y : List D} (hl : Dles x y) : ∀ {xs : List (List D)} {j : Nat}, Dles (xs.set j x).flatten (xs.set j y).flatten
  | [], j => by simpa using Dles.refl _
  | z :: xs, 0 => by simpa using hl.append (Dles.refl _)
  | z :: xs, j + 1 => by simpa using (Dles.refl z).append (Dles.set2 hl (xs := xs) (j := j))
theorem LE_rowLe (k : Nat) {e : TypeId} {sz : Nat} {xs xs' : List (List D)} (hk : h k = some (.row e sz xs)) (hl : xs'.length = xs.length) (hz : (∀ x ∈ xs, x.length = sz) → ∀ x ∈ xs', x.length = sz) (hd : Dles xs.flatten xs'.flatten) : LE E ⟨J, s, h⟩ ⟨J, s, hset h k (some (.row e sz xs'))⟩ := fun ι a w ⟨Z, K, Y, hZ, r⟩ => by
  have hdom : dom (hset h k (some (.row e sz xs'))) = dom h := by
    funext j
    by_cases hj : j = k
    · subst hj; simp [dom, hset_same, hk]
    · simp [dom, hset_ne _ _ hj]
  have hcx : cx Z (hset h k (some (.row e sz xs'))) ι w = cx Z h ι w := by simp only [cx, hdom]
  refine ⟨ι, Z, K, Y, hZ, ⟨fun j e' hj => ?_, fun j b hj hb => r.mem.own j b (by rw [← hdom]; exact hj) hb, fun j j' b hj hj' => r.mem.apart j j' b (by rw [← hdom]; exact hj) (by rw [← hdom]; exact hj'), r.mem.Zlt, r.mem.Klt, r.mem.Jw, r.mem.Jc⟩, r.size, fun j => ?_, r.ds⟩
  · rw [show (⟨w, Z, dom (hset h k (some (.row e sz xs'))), ι⟩ : Cx) = cx Z h ι w from hcx]
    have hj : hset h k (some (.row e sz xs')) j = some e' := hj
    by_cases hjk : j = k
    · subst hjk
      rw [hset_same] at hj
      cases hj
      obtain ⟨vs, h1, h2, h3, h4⟩ := r.mem.ent j _ hk
      exact ⟨vs, by rw [hl]; exact h1, hd _ _ _ h2, hz h3, by rw [hl]; exact h4⟩
    · rw [hset_ne _ _ hjk] at hj
      exact r.mem.ent j _ hj
  · rw [show cx Z (hset h k (some (.row e sz xs'))) ι w = cx Z h ι w from hcx]
    exact r.slot j
/-- 'a / b', b not nought. -/
theorem loc_quo (hE : E.Good) {o : Oper} {t yt : TypeId} {xo yo : Operand} (hop : o.op = .binOp .quo t xo yo yt) {k : IntKind} {a b : Int} (hx : ev s xo = .d (.lit (.int k a))) (hy : ev s yo = .d (.lit (.int k b))) (hb : b ≠ 0) : Loc E ops J h o s (.d (.lit (.int k (k.wrap (a.tdiv b))))) := by
  refine ⟨(by rw [hop]; intro c hc; cases hc), fun Z K Y ι ac w m hl => ?_⟩
  obtain ⟨dst, op, ty, pos, af, gd⟩ := o
  simp only at hop
  subst hop
  have h1 := hl xo (by simp [Op.operands])
  have h2 := hl yo (by simp [Op.operands])
  rw [hx] at h1
  rw [hy] at h2
  obtain ⟨e1, o1⟩ := RA_lit.1 h1
  obtain ⟨e2, o2⟩ := RA_lit.1 h2
  have hg : (eqGuard .quo t xo yo (.int k a) (.int k b)).run E.P w = .ok () w := by
    unfold eqGuard; split <;> simp
  refine ⟨.int k (k.wrap (a.tdiv b)), w, ?_, Grew.refl w, RA_lit_mk ?_⟩
  · simp only [execOp, e1, e2, Sem.run_bind, hg, Result.andThen_ok]
    simp [binOp, Op.intDiv, hb]
  · exact wrap_ok k _
end
end Go.AL
/- AL, part 35: shifts to the right, the low bits of a number. -/
namespace Go.AL
set_option linter.unusedVariables false
set_option linter.unusedSimpArgs false
section
variable {E : Env} {ops : List Oper} {J : Jt} {h : Heap} {s : Slots}
theorem fdiv_range (x : Int) (n : Nat) (k : IntKind) (h0 : k.min ≤ x) (h1 : x ≤ k.max) : k.min ≤ x.fdiv (2 ^ n) ∧ x.fdiv (2 ^ n) ≤ k.max := by
  have hp : (0 : Int) < 2 ^ n := Int.pow_pos (by omega)
  have h1p : (1 : Int) ≤ 2 ^ n := hp
  have h4 : k.min ≤ 0 := by cases k <;> simp [IntKind.min, IntKind.signed, IntKind.bits]
  have h5 : 0 ≤ k.max := by cases k <;> simp [IntKind.max, IntKind.signed, IntKind.bits]
  rw [Int.fdiv_eq_ediv_of_nonneg _ (by omega)]
  constructor
  · rw [Int.le_ediv_iff_mul_le hp]
    have : k.min * 2 ^ n ≤ k.min * 1 := Int.mul_le_mul_of_nonpos_left h4 h1p
    omega
  · rcases Int.le_total 0 x with h | h
    · exact Int.le_trans (Int.ediv_le_self _ h) h1
    · have : x / 2 ^ n ≤ 0 := by
        have := Int.ediv_le_ediv hp h
        simpa using this
      omega
/-- 'x >> n'. -/
theorem loc_shr (hE : E.Good) {o : Oper} {t yt : TypeId} {xo yo : Operand} (hop : o.op = .binOp .shr t xo yo yt) {k yk : IntKind} {x : Int} {n : Nat} (hx : ev s xo = .d (.lit (.int k x))) (hy : ev s yo = .d (.lit (.int yk (n : Int)))) (hn : Nat.ble n k.bits = true) : Loc E ops J h o s (.d (.lit (.int k (x.fdiv (2 ^ n))))) := by
  refine ⟨(by rw [hop]; intro c hc; cases hc), fun Z K Y ι a w m hl => ?_⟩
  obtain ⟨dst, op, ty, pos, af, gd⟩ := o
  simp only at hop
  subst hop
  have h1 := hl xo (by simp [Op.operands])
  have h2 := hl yo (by simp [Op.operands])
  rw [hx] at h1
  rw [hy] at h2
  obtain ⟨e1, o1⟩ := RA_lit.1 h1
  obtain ⟨e2, _⟩ := RA_lit.1 h2
  have hg : (eqGuard .shr t xo yo (.int k x) (.int yk n)).run E.P w = .ok () w := by
    unfold eqGuard; split <;> simp
  refine ⟨.int k (x.fdiv (2 ^ n)), w, ?_, Grew.refl w, RA_lit_mk ?_⟩
  · simp only [execOp, e1, e2, Sem.run_bind, hg, Result.andThen_ok]
    have hb : min n k.bits = n := Nat.min_eq_left (Nat.le_of_ble_eq_true hn)
    have h3 : ¬ ((n : Int) < 0) := by omega
    simp only [binOp, Op.shift, h3, if_false, Int.toNat_natCast, hb]
    rfl
  · exact fdiv_range x n k o1.1 o1.2
theorem and_low64 (x n : Nat) : ((BitVec.ofNat 64 x) &&& (BitVec.ofNat 64 (2 ^ n - 1))).toNat = if n < 64 then (x % 2 ^ 64) % 2 ^ n else (x % 2 ^ 64) &&& ((2 ^ n - 1) % 2 ^ 64) := by
  split
  · rename_i h
    have hp : 2 ^ n ≤ 2 ^ 63 := Nat.pow_le_pow_right (by omega) (by omega)
    have : (2 ^ n - 1) % 2 ^ 64 = 2 ^ n - 1 := Nat.mod_eq_of_lt (by omega)
    rw [BitVec.toNat_and, BitVec.toNat_ofNat, BitVec.toNat_ofNat, this, Nat.and_two_pow_sub_one_eq_mod]
  · rw [BitVec.toNat_and, BitVec.toNat_ofNat, BitVec.toNat_ofNat]
/-- 'x & (1<<n - 1)' at uint64. -/
theorem loc_lowU (hE : E.Good) {o : Oper} {t yt : TypeId} {xo yo : Operand} (hop : o.op = .binOp .and t xo yo yt) (n : Nat) (hn : Nat.ble n 63 = true) {x m : Int} (hx : ev s xo = .d (.lit (.int .u64 x))) (hy : ev s yo = .d (.lit (.int .u64 m))) (hm : m = ((2 ^ n - 1 : Nat) : Int)) : Loc E ops J h o s (.d (.lit (.int .u64 (x % ((2 ^ n : Nat) : Int))))) := by
  subst hm
  refine ⟨(by rw [hop]; intro c hc; cases hc), fun Z K Y ι a w m hl => ?_⟩
  obtain ⟨dst, op, ty, pos, af, gd⟩ := o
  simp only at hop
  subst hop
  have h1 := hl xo (by simp [Op.operands])
  have h2 := hl yo (by simp [Op.operands])
  rw [hx] at h1
  rw [hy] at h2
  obtain ⟨e1, o1⟩ := RA_lit.1 h1
  obtain ⟨e2, _⟩ := RA_lit.1 h2
  have q0 : IntKind.u64.min = 0 := rfl
  have q1 : IntKind.u64.max = 18446744073709551615 := rfl
  simp only [okLit] at o1
  obtain ⟨x, rfl⟩ := Int.eq_ofNat_of_zero_le (show 0 ≤ x by omega)
  have hg : (eqGuard .and t xo yo (.int .u64 x) (.int .u64 ((2 ^ n - 1 : Nat) : Int))).run E.P w = .ok () w := by
    unfold eqGuard; split <;> simp
  have hn' := Nat.le_of_ble_eq_true hn
  have hx64 : x < 2 ^ 64 := by omega
  have key : (BitVec.ofInt 64 (x : Int) &&& BitVec.ofInt 64 ((2 ^ n - 1 : Nat) : Int)).toNat = x % 2 ^ n := by
    rw [BitVec.ofInt_natCast, BitVec.ofInt_natCast, and_low64, if_pos (by omega), Nat.mod_eq_of_lt hx64]
  have hle : x % 2 ^ n ≤ x := Nat.mod_le _ _
  have hw : IntKind.u64.wrap ((x % 2 ^ n : Nat) : Int) = ((x % 2 ^ n : Nat) : Int) := by
    generalize x % 2 ^ n = q at hle ⊢
    exact wrap_id _ _ (by omega) (by omega)
  rw [show ((x : Int) % ((2 ^ n : Nat) : Int)) = ((x % 2 ^ n : Nat) : Int) by rw [Int.natCast_emod]]
  refine ⟨.int .u64 ((x % 2 ^ n : Nat) : Int), w, ?_, Grew.refl w, RA_lit_mk ?_⟩
  · simp only [execOp, e1, e2, Sem.run_bind, hg, Result.andThen_ok]
    simp only [binOp, Op.intBits]
    simp only [ne_eq, not_true_eq_false, if_false]
    show Result.andThen ((pure (Value.int .u64 (IntKind.u64.wrap ((BitVec.ofInt 64 (x : Int) &&& BitVec.ofInt 64 ((2 ^ n - 1 : Nat) : Int)).toNat : Int))) : Sem Value).run E.P w) _ = _
    rw [key, hw]
    rfl
  · have := wrap_ok .u64 ((x % 2 ^ n : Nat) : Int)
    rw [hw] at this
    exact this
theorem and_one_i64 (x : Int) : IntKind.i64.wrap ((BitVec.ofInt 64 x &&& BitVec.ofInt 64 1).toNat : Int) = x % 2 := by
  have h1 : (BitVec.ofInt 64 x &&& BitVec.ofInt 64 1).toNat = (x % 2).toNat := by
    rw [BitVec.toNat_and, BitVec.toNat_ofInt, BitVec.toNat_ofInt]
    have e : ((1 : Int) % ((2 ^ 64 : Nat) : Int)).toNat = 1 := by decide
    rw [e, Nat.and_one_is_mod]
    omega
  rw [h1]
  have h2 : ((x % 2).toNat : Int) = x % 2 := by omega
  rw [h2]
  exact wrap_id _ _ (by have : IntKind.i64.min = -9223372036854775808 := rfl; omega) (by have : IntKind.i64.max = 9223372036854775807 := rfl; omega)
/-- 'x & 1' at int64. -/
theorem loc_and1 (hE : E.Good) {o : Oper} {t yt : TypeId} {xo yo : Operand} (hop : o.op = .binOp .and t xo yo yt) {x : Int} (hx : ev s xo = .d (.lit (.int .i64 x))) (hy : ev s yo = .d (.lit (.int .i64 1))) : Loc E ops J h o s (.d (.lit (.int .i64 (x % 2)))) := by
  refine ⟨(by rw [hop]; intro c hc; cases hc), fun Z K Y ι a w m hl => ?_⟩
  obtain ⟨dst, op, ty, pos, af, gd⟩ := o
  simp only at hop
  subst hop
  have h1 := hl xo (by simp [Op.operands])
  have h2 := hl yo (by simp [Op.operands])
  rw [hx] at h1
  rw [hy] at h2
  obtain ⟨e1, o1⟩ := RA_lit.1 h1
  obtain ⟨e2, _⟩ := RA_lit.1 h2
  have hg : (eqGuard .and t xo yo (.int .i64 x) (.int .i64 1)).run E.P w = .ok () w := by
    unfold eqGuard; split <;> simp
  refine ⟨.int .i64 (x % 2), w, ?_, Grew.refl w, RA_lit_mk ?_⟩
  · simp only [execOp, e1, e2, Sem.run_bind, hg, Result.andThen_ok]
    simp only [binOp, Op.intBits]
    simp only [ne_eq, not_true_eq_false, if_false]
    show Result.andThen ((pure (Value.int .i64 (IntKind.i64.wrap ((BitVec.ofInt 64 x &&& BitVec.ofInt 64 1).toNat : Int))) : Sem Value).run E.P w) _ = _
    rw [and_one_i64]
    rfl
  · rw [← and_one_i64 x]; exact wrap_ok .i64 _
end
end Go.AL
/- AL, part 36: arrays: written out, their elements read. -/
namespace Go.AL
set_option linter.unusedVariables false
set_option linter.unusedSimpArgs false
def stepBuildA (T : Nat → Option TI) (s : Slots) (t : TypeId) (parts : List (Nat × Operand)) : Option AV :=
  match T t with
  | some ⟨.array n e, _, _, z⟩ => match T e, litCells z with
    | some ti, some cs => (afill ((List.range n).map fun i => (i * ti.size, ti.size)) cs (parts.map fun p => (p.1, ev s p.2))).map .agg
    | _, _ => none
  | _ => none
section
variable {E : Env} {ops : List Oper} {J : Jt} {h : Heap} {s : Slots}
theorem loc_buildA (hE : E.Good) {o : Oper} {t : TypeId} {parts : Array (Nat × Operand)} (hop : o.op = .build t parts) {R : AV} (hR : stepBuildA E.T s t parts.toList = some R) : Loc E ops J h o s R := by
  refine ⟨(by rw [hop]; intro c hc; cases hc), fun Z K Y ι a w m hlk => ?_⟩
  obtain ⟨dst, op, ty, pos, af, gd⟩ := o
  simp only at hop
  subst hop
  unfold stepBuildA at hR
  split at hR
  · rename_i n e sz bt z ht
    split at hR
    · rename_i ti cs hti hcs
      simp only [Option.map_eq_some_iff] at hR
      obtain ⟨R', hR', rfl⟩ := hR
      have hu := (hE.ok.T t _ ht).2
      simp only [TK.fits] at hu
      obtain ⟨zv, hz1, hz2⟩ := run_zero hE.ok.T ht w
      have hsz := run_size hE.ok.T hti w
      obtain ⟨r', hr1, hr2⟩ := afill_ok (C := cx Z h ι w) m.named (places := (List.range n).map fun i => (i * ti.size, ti.size)) (place := fun i => some (i * ti.size, ti.size)) (fun i q hq => by
        simp only [List.getElem?_map, Option.map_eq_some_iff] at hq
        obtain ⟨j, hj, rfl⟩ := hq
        obtain ⟨hlt, hj⟩ := List.getElem?_eq_some_iff.1 hj
        simp at hj
        rw [hj]) (parts.toList.map fun p => (p.1, ev s p.2)) (parts.toList.map fun p => (p.1, a.eval p.2)) cs zv.cells R' (by simp) (by
        have := RAs_evs (C := cx Z h ι w) (s := s) (a := a) (l := parts.toList.map (·.2)) fun x hx => hlk x (by simp only [Op.operands, Array.toList_map]; exact hx)
        simpa [List.map_map, Function.comp_def] using this) (by rw [hz2]; exact litCells_ok hcs) hR'
      refine ⟨.agg r', w, ?_, Grew.refl w, by simp only [RA]; exact ⟨_, rfl, hr2⟩⟩
      have hb : (Instr.build t (parts.map fun p => (p.1, a.eval p.2))).run E.P w = .ok (.agg r') w := by
        unfold Instr.build
        simp only [Sem.run_bind, hz1, Result.andThen_ok, run_underlying hu, hsz, Array.toList_map, hr1, Sem.run_pure]
      simp only [execOp, Sem.run_bind]
      rw [hb]
      simp
    · cases hR
  · cases hR
/-- An element of an array that is a value. -/
theorem loc_indexA (hE : E.Good) {o : Oper} {t : TypeId} {xo io : Operand} (hop : o.op = .index t xo io) {n : Nat} {e : TypeId} {z1 z2 : Nat} {z3 : List Value} (ht : E.T t = some ⟨.array n e, z1, z2, z3⟩) {ti : TI} (hte : E.T e = some ti)
    {cs : List AV} {ik : IntKind} {i : Int} (hx : ev s xo = .agg cs) (hi : ev s io = .d (.lit (.int ik i))) (h0 : 0 ≤ i) (h1 : i < n) {R : AV} (hR : ofCells ti.k.isAgg ti.size (cs.drop (i.toNat * ti.size)) = some R) : Loc E ops J h o s R := by
  refine ⟨(by rw [hop]; intro c hc; cases hc), fun Z K Y ι a w m hl => ?_⟩
  obtain ⟨dst, op, ty, pos, af, gd⟩ := o
  simp only at hop
  subst hop
  have g1 := hl xo (by simp [Op.operands])
  have g2 := hl io (by simp [Op.operands])
  rw [hx] at g1
  rw [hi] at g2
  obtain ⟨e2, _⟩ := RA_lit.1 g2
  simp only [RA] at g1
  obtain ⟨vs, e1, hv⟩ := g1
  have hu := (hE.ok.T t _ ht).2
  simp only [TK.fits] at hu
  have hsz := run_size hE.ok.T hte w
  obtain ⟨v, hv1, hv2⟩ := run_part_of hE.ok.T hte (C := cx Z h ι w) hv (i.toNat * ti.size) hR w
  refine ⟨v, w, ?_, Grew.refl w, hv2⟩
  simp [execOp, Instr.index, e1, e2, asIntOf, run_underlying hu, h0, h1, hsz, hv1]
/-- The address of an element of an array of the frame's own. -/
theorem loc_addrA (hE : E.Good) {o : Oper} {t : TypeId} {xo io : Operand} (hop : o.op = .indexAddr t xo io) {n : Nat} {e : TypeId} {z1 z2 : Nat} {z3 : List Value} (ht : E.T t = some ⟨.array n e, z1, z2, z3⟩) {ti : TI} (hte : E.T e = some ti)
    {k off : Nat} {ik : IntKind} {i : Int} (hx : ev s xo = .ptr k off) (hi : ev s io = .d (.lit (.int ik i))) (h0 : 0 ≤ i) (h1 : i < n) : Loc E ops J h o s (.ptr k (off + i.toNat * ti.size)) := by
  refine ⟨(by rw [hop]; intro c hc; cases hc), fun Z K Y ι a w m hl => ?_⟩
  obtain ⟨dst, op, ty, pos, af, gd⟩ := o
  simp only at hop
  subst hop
  have g1 := hl xo (by simp [Op.operands])
  have g2 := hl io (by simp [Op.operands])
  rw [hx] at g1
  rw [hi] at g2
  obtain ⟨e2, _⟩ := RA_lit.1 g2
  simp only [RA] at g1
  obtain ⟨hk, b, hb, e1⟩ := g1
  have hu := (hE.ok.T t _ ht).2
  simp only [TK.fits] at hu
  have hsz := run_size hE.ok.T hte w
  refine ⟨.pointer (some ⟨b, off + i.toNat * ti.size, none⟩), w, ?_, Grew.refl w, by simp only [RA]; exact ⟨hk, b, hb, rfl⟩⟩
  simp [execOp, Instr.indexAt, e1, e2, asIntOf, Instr.sureAddr, run_underlying hu, h0, h1, hsz]
  simp [Addr.add]
theorem loc_addrAI (hE : E.Good) {o : Oper} {t : TypeId} {xo io : Operand} (hop : o.op = .indexAddr t xo io) {n : Nat} {e : TypeId} {z1 z2 : Nat} {z3 : List Value} (ht : E.T t = some ⟨.array n e, z1, z2, z3⟩) {ti : TI} (hte : E.T e = some ti)
    {cs : List D} {ik : IntKind} {i : Int} (hx : ev s xo = .d (.iptr cs)) (hi : ev s io = .d (.lit (.int ik i))) (h0 : 0 ≤ i) (h1 : i < n) : Loc E ops J h o s (.d (.iptr (cs.drop (i.toNat * ti.size)))) := by
  refine ⟨(by rw [hop]; intro c hc; cases hc), fun Z K Y ι a w m hl => ?_⟩
  obtain ⟨dst, op, ty, pos, af, gd⟩ := o
  simp only at hop
  subst hop
  have g1 := hl xo (by simp [Op.operands])
  have g2 := hl io (by simp [Op.operands])
  rw [hx] at g1
  rw [hi] at g2
  obtain ⟨e2, _⟩ := RA_lit.1 g2
  simp only [RA, RD] at g1
  obtain ⟨b, off, e1, hm, hb, hc⟩ := g1
  have hu := (hE.ok.T t _ ht).2
  simp only [TK.fits] at hu
  have hsz := run_size hE.ok.T hte w
  refine ⟨.pointer (some ⟨b, off + i.toNat * ti.size, none⟩), w, ?_, Grew.refl w, by simp only [RA, RD]; exact ⟨b, _, rfl, hm, hb, RC_drop _ hc⟩⟩
  simp [execOp, Instr.indexAt, e1, e2, asIntOf, Instr.sureAddr, run_underlying hu, h0, h1, hsz]
  simp [Addr.add]
/-- A read of a variable of the frame's own, at a place that is told by an equation. -/
theorem loc_loadBox (hE : E.Good) {o : Oper} {t : TypeId} {po : Operand} (hop : o.op = .load t po) {ti : TI} (ht : E.T t = some ti) {k off : Nat} (hp : ev s po = .ptr k off) {t' : TypeId} {cs : List AV} (hk : h k = some (.box t' cs))
    {R : AV} (hR : ofCells ti.k.isAgg ti.size (cs.drop off) = some R) : Loc E ops J h o s R := by
  refine ⟨(by rw [hop]; intro c hc; cases hc), fun Z K Y ι a w m hl => ?_⟩
  obtain ⟨dst, op, ty, pos, af, gd⟩ := o
  simp only at hop
  subst hop
  have h1 := hl po (by simp [Op.operands])
  rw [hp] at h1
  simp only [RA] at h1
  obtain ⟨hkd, b, hb, e1⟩ := h1
  obtain ⟨b', vs, g1, g2, g3⟩ := m.ent k _ hk
  have : b' = b := by rw [blk_ptr g1] at hb; injection hb
  subst this
  have g2' : w.heap[b']? = some (.cells vs t' (0, 0)) := g2
  obtain ⟨v, h3, h4⟩ := run_loadVar_of (w := w) hE.ok.T ht (C := cx Z h ι w) (RAs_drop off g3) b' off (fun j v hj => by
    simp only [World.cell?, g2']
    simpa [List.getElem?_drop] using hj) hR
  exact ⟨v, w, by simp [execOp, Instr.loadAt, Instr.sureAddr, e1, h3], Grew.refl w, h4⟩
theorem H2_as (d : Nat) (v : AV) {p : Pair} {n i : Nat} {K : Slots → Prop} (hs : s d = v) (hk : H2W p E ops J n i K (sset s d v)) : H2W p E ops J n i K s := by rwa [sset_self hs] at hk
end
end Go.AL
/- AL, part 43: a variable that holds a function which captures that variable: frozen, to any depth. -/
namespace Go.AL
set_option linter.unusedVariables false
set_option linter.unusedSimpArgs false

/-- The function, unrolled n times. -/
def unroll (F : Fn) (first cap : List D) : Nat → D
  | 0 => .fn F first (cap ++ [.iptr []])
  | n + 1 => .fn F first (cap ++ [.iptr [unroll F first cap n]])

theorem RD_unroll {w : World} {M : Nat → Prop} {F : Fn} {first cap : List D} {b : Nat} {vf : Array Value} {vc : List Value} {vs : Array Value} {t : TypeId} (hb : ¬ M b) (hc : w.heap[b]? = some (.cells vs t (0, 0)))
    (h1 : RDs w M first vf.toList) (h2 : RDs w M cap vc) (hv : vs.toList = [.func F vf (vc ++ [Value.pointer (some ⟨b, 0, none⟩)]).toArray]) : ∀ n, RD w M (unroll F first cap n) (.func F vf (vc ++ [Value.pointer (some ⟨b, 0, none⟩)]).toArray)
  | 0 => by
    simp only [unroll, RD]
    refine ⟨vf, _, rfl, h1, ?_⟩
    refine RDs_append h2 ?_
    simp only [RDs, RD]
    exact ⟨_, [], rfl, ⟨b, 0, rfl, hb, ⟨_, _, _, hc⟩, by simp only [RC]⟩, rfl⟩
  | n + 1 => by
    have ih := RD_unroll hb hc h1 h2 hv n
    simp only [unroll, RD]
    refine ⟨vf, _, rfl, h1, ?_⟩
    refine RDs_append h2 ?_
    simp only [RDs, RD]
    refine ⟨_, [], rfl, ⟨b, 0, rfl, hb, ⟨_, _, _, hc⟩, ?_⟩, rfl⟩
    simp only [RC]
    refine ⟨⟨_, ?_, ih⟩, trivial⟩
    simp only [World.cell?, hc]
    have : vs[0]? = some (.func F vf (vc ++ [Value.pointer (some ⟨b, 0, none⟩)]).toArray) := by
      rw [← Array.getElem?_toList, hv]; rfl
    simpa using this

theorem RAs_snoc_inv {C : Cx} : ∀ {xs : List AV} {y : AV} {vs : List Value}, RAs C (xs ++ [y]) vs → ∃ us v, vs = us ++ [v] ∧ RAs C xs us ∧ RA C y v
  | [], y, vs, h => by
    simp only [List.nil_append, RAs] at h
    obtain ⟨v, t, rfl, h1, rfl⟩ := h
    exact ⟨[], v, rfl, by simp [RAs], h1⟩
  | x :: xs, y, vs, h => by
    simp only [List.cons_append, RAs] at h
    obtain ⟨v, t, rfl, h1, h2⟩ := h
    obtain ⟨us, u, rfl, g1, g2⟩ := RAs_snoc_inv h2
    exact ⟨v :: us, u, rfl, by simp only [RAs]; exact ⟨v, us, rfl, h1, g1⟩, g2⟩

theorem LE_freezeCyc {E : Env} {J : Jt} {s : Slots} {h : Heap} (k n : Nat) {t : TypeId} {F : Fn} {first cap : List D} (hk : h k = some (.box t [.fn F (first.map .d) (cap.map .d ++ [.ptr k 0])])) :
    LE E ⟨J, s, h⟩ ⟨J, fbS k [unroll F first cap n] s, fbH k [unroll F first cap n] h⟩ := fun ι a w ⟨Z, K, Y, hZE, r⟩ => by
  obtain ⟨ds, hds⟩ : ∃ ds, ds = [unroll F first cap n] := ⟨_, rfl⟩
  rw [← hds]
  have hdom : ∀ j, dom (fbH k ds h) j ↔ j ≠ k ∧ dom h j := by
    intro j
    unfold dom fbH
    cases hbq : Nat.beq j k with
    | true =>
      have e := Nat.eq_of_beq_eq_true hbq
      simp [e]
    | false =>
      have hne : j ≠ k := by intro e; subst e; simp at hbq
      simp only [cond_false]
      cases hj : h j <;> simp [hne]
  have hkd : dom h k := by simp [dom, hk]
  have keeps : Keeps w w (cx Z h ι w).M (cx Z (fbH k ds h) ι w).M := by
    refine ⟨fun _ _ _ _ hh => hh, fun _ _ hh => hh, fun b _ hm hm' => ?_⟩
    rcases hm' with hz | ⟨j, hj, hjb⟩
    · exact hm (.inl hz)
    · exact hm (.inr ⟨j, ((hdom j).1 hj).2, hjb⟩)
  have hd : ∀ j, j ≠ k → (cx Z h ι w).dom j → (cx Z (fbH k ds h) ι w).dom j ∧ ι j = ι j := fun j hne hj => ⟨(hdom j).2 ⟨hne, hj⟩, rfl⟩
  have hX : ∀ o b, blk (ι k) = some b → RD w (cx Z (fbH k ds h) ι w).M (.iptr (ds.drop o)) (.pointer (some ⟨b, o, none⟩)) := by
    intro o b hb
    obtain ⟨b', vs, h1, h2, h3⟩ := r.mem.ent k _ hk
    have : b' = b := by rw [blk_ptr h1] at hb; injection hb
    subst this
    have h2' : w.heap[b']? = some (.cells vs t (0, 0)) := h2
    have hnm : ¬ (cx Z (fbH k ds h) ι w).M b' := fun hm => by
      rcases hm with hz | ⟨j, hj, hjb⟩
      · exact (r.mem.own k b' hkd hb).1 hz
      · have hj' := (hdom j).1 hj
        exact hj'.1 (r.mem.apart j k b' hj'.2 hkd hjb hb)
    simp only [RAs] at h3
    obtain ⟨v, tl, hvs, h3, rfl⟩ := h3
    simp only [RA] at h3
    obtain ⟨vf, vc, rfl, g1, g2⟩ := h3
    obtain ⟨us, u, hvc, g3, g4⟩ := RAs_snoc_inv g2
    simp only [RA] at g4
    obtain ⟨_, b2, hb2, rfl⟩ := g4
    have : b2 = b' := by
      have e : some b2 = some b' := hb2.symm.trans hb
      injection e
    subst this
    have hvc' : vc = (us ++ [Value.pointer (some ⟨b2, 0, none⟩)]).toArray := by
      rw [← hvc]
    subst hvc'
    have q := RD_unroll (n := n) hnm h2' (RDs_keeps keeps _ _ (RAs_map_d.1 g1)) (RDs_keeps keeps _ _ (RAs_map_d.1 g3)) hvs
    simp only [RD]
    refine ⟨b2, o, rfl, hnm, ⟨_, _, _, h2'⟩, ?_⟩
    cases o with
    | zero =>
      rw [show ds.drop 0 = [unroll F first cap n] by rw [hds]; rfl]
      simp only [RC]
      refine ⟨⟨_, ?_, q⟩, trivial⟩
      simp only [World.cell?, h2']
      have : vs[0]? = some (.func F vf (us ++ [Value.pointer (some ⟨b2, 0, none⟩)]).toArray) := by
        rw [← Array.getElem?_toList, hvs]; rfl
      simpa using this
    | succ o =>
      rw [show ds.drop (o + 1) = [] by rw [hds]; simp]
      simp only [RC]
  refine ⟨ι, Z, K, Y, hZE, ⟨fun j e' hj => ?_, fun j b hj hjb => r.mem.own j b ((hdom j).1 hj).2 hjb, fun j j' b hj hj' => r.mem.apart j j' b ((hdom j).1 hj).2 ((hdom j').1 hj').2, r.mem.Zlt, r.mem.Klt, r.mem.Jw, r.mem.Jc⟩, r.size,
    fun j => RA_fb (C := cx Z h ι w) (C' := cx Z (fbH k ds h) ι w) keeps hd hX _ _ (r.slot j), r.ds⟩
  have hj0 : j ≠ k := ((hdom j).1 (show (fbH k ds h j).isSome = true by rw [show fbH k ds h j = some e' from hj]; rfl)).1
  have hbq : Nat.beq j k = false := Bool.eq_false_iff.2 fun h' => hj0 (Nat.eq_of_beq_eq_true h')
  have hj' : (match h j with | some e => some (fbE k ds e) | none => none) = some e' := by
    have : fbH k ds h j = some e' := hj
    unfold fbH at this
    rw [hbq] at this
    exact this
  split at hj'
  · rename_i e0 he0
    cases hj'
    have ho := r.mem.ent j e0 he0
    cases e0 with
    | box t cs =>
      obtain ⟨b, vs, h1, h2, h3⟩ := ho
      exact ⟨b, vs, h1, h2, RAs_fb (C := cx Z h ι w) (C' := cx Z (fbH k ds h) ι w) keeps hd hX _ _ h3⟩
    | row e2 sz2 xs2 =>
      obtain ⟨vs, h1, h2, h3⟩ := ho
      exact ⟨vs, h1, RDs_keeps keeps _ _ h2, h3⟩
    | ghost cs vs => exact ⟨ho.1, RAs_fb (C := cx Z h ι w) (C' := cx Z (fbH k ds h) ι w) keeps hd hX _ _ ho.2⟩
    | rowA e2 sz2 n2 cs =>
      obtain ⟨vs, h1, h2, h3⟩ := ho
      exact ⟨vs, h1, RAs_fb (C := cx Z h ι w) (C' := cx Z (fbH k ds h) ι w) keeps hd hX _ _ h2, h3⟩
  · cases hj'
end Go.AL
/- AL, part 44: rows whose elements hold what is the frame's own. -/
namespace Go.AL
set_option linter.unusedVariables false
set_option linter.unusedSimpArgs false

/-- An entry told otherwise. -/
theorem LE_ent {E : Env} {J : Jt} {s : Slots} {h : Heap} (k : Nat) {e0 e1 : Ent} (hk : h k = some e0) (hd : ∀ C v, EntOk C e0 v → EntOk C e1 v) : LE E ⟨J, s, h⟩ ⟨J, s, hset h k (some e1)⟩ := fun ι a w ⟨Z, K, Y, hZ, r⟩ => by
  have hdom : dom (hset h k (some e1)) = dom h := by
    funext j
    by_cases hj : j = k
    · subst hj; simp [dom, hset_same, hk]
    · simp [dom, hset_ne _ _ hj]
  have hcx : cx Z (hset h k (some e1)) ι w = cx Z h ι w := by simp only [cx, hdom]
  refine ⟨ι, Z, K, Y, hZ, ⟨fun j e' hj => ?_, fun j b hj hb => r.mem.own j b (by rw [← hdom]; exact hj) hb, fun j j' b hj hj' => r.mem.apart j j' b (by rw [← hdom]; exact hj) (by rw [← hdom]; exact hj'), r.mem.Zlt, r.mem.Klt, r.mem.Jw, r.mem.Jc⟩, r.size, fun j => ?_, r.ds⟩
  · rw [show (⟨w, Z, dom (hset h k (some e1)), ι⟩ : Cx) = cx Z h ι w from hcx]
    have hj : hset h k (some e1) j = some e' := hj
    by_cases hjk : j = k
    · subst hjk
      rw [hset_same] at hj
      cases hj
      exact hd _ _ (r.mem.ent j _ hk)
    · rw [hset_ne _ _ hjk] at hj
      exact r.mem.ent j _ hj
  · rw [show cx Z (hset h k (some e1)) ι w = cx Z h ι w from hcx]
    exact r.slot j
theorem LE_rowA {E : Env} {J : Jt} {s : Slots} {h : Heap} (k : Nat) {e : TypeId} {sz : Nat} {xs : List (List D)} {n : Nat} {cs : List AV} (hk : h k = some (.row e sz xs)) (hn : xs.length = n) (hc : xs.flatten.map .d = cs) : LE E ⟨J, s, h⟩ ⟨J, s, hset h k (some (.rowA e sz n cs))⟩ := by
  subst hn; subst hc
  exact LE_ent k hk fun C v ⟨vs, h1, h2, h3, h4⟩ => ⟨vs, h1, RAs_map_d.2 h2, h4⟩
theorem LE_rowD {E : Env} {J : Jt} {s : Slots} {h : Heap} (k : Nat) {e : TypeId} {sz : Nat} {xs : List (List D)} {n : Nat} {cs : List AV} (hk : h k = some (.rowA e sz n cs)) (hn : xs.length = n) (hc : cs = xs.flatten.map .d) (hl : ∀ x ∈ xs, x.length = sz) : LE E ⟨J, s, h⟩ ⟨J, s, hset h k (some (.row e sz xs))⟩ := by
  subst hn; subst hc
  exact LE_ent k hk fun C v ⟨vs, h1, h2, h3⟩ => ⟨vs, h1, RAs_map_d.1 h2, hl, h3⟩
/-- Cells told with less. -/
theorem LE_rowAle {E : Env} {J : Jt} {s : Slots} {h : Heap} (k : Nat) {e : TypeId} {sz n : Nat} {cs cs' : List AV} (hk : h k = some (.rowA e sz n cs)) (hc : AVles cs cs') : LE E ⟨J, s, h⟩ ⟨J, s, hset h k (some (.rowA e sz n cs'))⟩ :=
  LE_ent k hk fun C v ⟨vs, h1, h2, h3⟩ => ⟨vs, h1, hc _ _ h2, h3⟩
theorem LE_boxLe {E : Env} {J : Jt} {s : Slots} {h : Heap} (k : Nat) {t : TypeId} {cs cs' : List AV} (hk : h k = some (.box t cs)) (hc : AVles cs cs') : LE E ⟨J, s, h⟩ ⟨J, s, hset h k (some (.box t cs'))⟩ :=
  LE_ent k hk fun C v ⟨b, vs, h1, h2, h3⟩ => ⟨b, vs, h1, h2, hc _ _ h3⟩

section
variable {E : Env} {ops : List Oper} {Q : Exit → St → Prop} {i : Nat} {J : Jt} {h : Heap} {s : Slots} {o : Oper}
theorem loc_idxRowA (hE : E.Good) {key : Nat} {t : TypeId} {xo io : Operand} (hop : o.op = .indexAddr t xo io)
    {e : TypeId} {z1 z2 : Nat} {z3 : List Value} (ht : E.T t = some ⟨.slice e, z1, z2, z3⟩) {k : TK} {sz z5 : Nat} {z6 : List Value} (hte : E.T e = some ⟨k, sz, z5, z6⟩)
    {n : Nat} {cs : List AV} (hx : ev s xo = .row key) (hkey : h key = some (.rowA e sz n cs)) {ik : IntKind} {j : Nat} (hi : ev s io = .d (.lit (.int ik j))) (hj : j < n) : Loc E ops J h o s (.ptr key (j * sz)) := by
  refine ⟨(by rw [hop]; intro c hc; cases hc), fun Z K Y ι a w m hl => ?_⟩
  obtain ⟨dst, op, ty, pos, af, gd⟩ := o
  simp only at hop
  subst hop
  have h1 := hl xo (by simp [Op.operands])
  have h2 := hl io (by simp [Op.operands])
  rw [hx] at h1
  rw [hi] at h2
  obtain ⟨e2, _⟩ := RA_lit.1 h2
  simp only [RA] at h1
  obtain ⟨hkd, e1⟩ := h1
  obtain ⟨vs, f1, f2, f3⟩ := m.ent key _ hkey
  rcases f1 with ⟨_, _, h0, _⟩ | ⟨g, cap, cur, e0, hc0, hg, hnc, hcm, hcs, htk⟩
  · omega
  have hb : blk (ι key) = some g := by rw [e0]; simp [blk]; omega
  have hu := (hE.ok.T t _ ht).2
  simp only [TK.fits] at hu
  have hsz := run_size hE.ok.T hte w
  have e1' : a.eval xo = .slice (some ⟨g, 0, none⟩) n cap := e1.trans e0
  refine ⟨.pointer (some ⟨g, j * sz, none⟩), w, ?_, Grew.refl w, ?_⟩
  · simp [execOp, Instr.indexAt, e1', e2, asIntOf, run_underlying hu, hj, hsz]
    simp [Addr.add]
    exact fun h => h.symm
  · simp only [RA]
    exact ⟨hkd, g, hb, rfl⟩
theorem loc_loadRowA (hE : E.Good) {key q : Nat} {t : TypeId} {p : Operand} (hop : o.op = .load t p) {ti : TI} (ht : E.T t = some ti) {e : TypeId} {sz n : Nat} {cs : List AV} (hp : ev s p = .ptr key q) (hkey : h key = some (.rowA e sz n cs))
    {R : AV} (hR : ofCells ti.k.isAgg ti.size (cs.drop q) = some R) : Loc E ops J h o s R := by
  refine ⟨(by rw [hop]; intro c hc; cases hc), fun Z K Y ι a w m hl => ?_⟩
  obtain ⟨dst, op, ty, pos, af, gd⟩ := o
  simp only at hop
  subst hop
  have h1 := hl p (by simp [Op.operands])
  rw [hp] at h1
  simp only [RA] at h1
  obtain ⟨hkd, b, hb, e1⟩ := h1
  obtain ⟨vs, f1, f2, f3⟩ := m.ent key _ hkey
  rcases f1 with ⟨a0, e0, h0, _⟩ | ⟨g, cap, cur, e0, hc0, hg, hnc, hcm, hcs, htk⟩
  · have hb' : blk (ι key) = some b := hb
    have e0' : ι key = .slice a0 0 0 := e0
    rw [e0'] at hb'
    cases a0 <;> simp [blk] at hb'
  have hbg : blk (ι key) = some g := by rw [e0]; simp [blk]; omega
  have : b = g := by rw [hbg] at hb; injection hb with hb; exact hb.symm
  subst this
  have hg' : w.heap[b]? = some (.cells cur e (0, 0)) := hg
  obtain ⟨v, h3, h4⟩ := run_loadVar_of (w := w) hE.ok.T ht (C := cx Z h ι w) (RAs_drop q f2) b q (fun j v hj => by
    rw [cell_of_row w b _ cur e (0, 0) hg']
    rw [List.getElem?_drop, ← htk, List.getElem?_take] at hj
    split at hj
    · simpa using hj
    · cases hj) hR
  exact ⟨v, w, by simp [execOp, Instr.loadAt, Instr.sureAddr, e1, h3], Grew.refl w, h4⟩
theorem OW_storeRowA' (hE : E.Good) {key q : Nat} {t2 : TypeId} {po yo : Operand} (ho2 : ops[i]? = some o) (hop2 : o.op = .store t2 po yo) (hw2 : awant ops o s = some true) (hdst2 : o.dst = none) {ti : TI} (ht2 : E.T t2 = some ti)
    {e : TypeId} {sz n : Nat} {cs : List AV} (hp : ev s po = .ptr key q) (hkey : h key = some (.rowA e sz n cs)) {y : List AV} (hy : cellsOf (ev s yo) = y) (hc : cellsOk (ev s yo) = true) (h1a : oneAll y = true) (hyl : Nat.beq y.length ti.size = true) (hoff : q + y.length ≤ cs.length)
    {cs' : List AV} (hcs' : overwrite cs q y = cs') (hk : OW E ops (i + 1) Q ⟨J, s, hset h key (some (.rowA e sz n cs'))⟩) : OW E ops i Q ⟨J, s, h⟩ := fun ι a w r => by
  have hyl := Nat.eq_of_beq_eq_true hyl
  subst hcs'
  have hdr2 : ops.drop i = o :: ops.drop (i + 1) := by
    obtain ⟨hlt, rfl⟩ := List.getElem?_eq_some_iff.1 ho2
    exact List.drop_eq_getElem_cons hlt
  rw [hdr2]
  simp only [wpListIn]
  rw [if_pos (awant_ok r hw2)]
  refine ⟨fun f _ => hE.wide.fn f, ?_⟩
  rw [Oper.semAt_plain E.F _ _ (by rw [hop2]; intro c hc; cases hc)]
  obtain ⟨dst2, op2, ty2, pos2, af2, gd2⟩ := o
  simp only at hop2 hdst2
  subst hop2 hdst2
  obtain ⟨Z, K, Y, hZE, r⟩ := r
  have h1 := RA_ev (C := cx Z h ι w) (s := s) (a := a) po fun t _ => r.slot t
  rw [hp] at h1
  simp only [RA] at h1
  obtain ⟨hkd, b0, hb0, e1⟩ := h1
  obtain ⟨vs, f1, f2, f3⟩ := r.mem.ent key _ hkey
  have hvl : vs.length = cs.length := RAs_length f2
  rcases f1 with ⟨a0, e0, _, h0⟩ | ⟨g, cap, cur, e0, hc0, hg, hnc, hcm, hcsz, htk⟩
  · have hb' : blk (ι key) = some b0 := hb0
    have e0' : ι key = .slice a0 0 0 := e0
    rw [e0'] at hb'
    cases a0 <;> simp [blk] at hb'
  have hg' : w.heap[g]? = some (.cells cur e (0, 0)) := hg
  have hb : blk (ι key) = some g := by rw [e0]; simp [blk]; omega
  have : b0 = g := by rw [hb] at hb0; injection hb0 with hb0; exact hb0.symm
  subst this
  have hxv := RA_cells r.mem.named hc (RA_ev (C := cx Z h ι w) (s := s) (a := a) yo fun t _ => r.slot t)
  rw [hy] at hxv
  have hlen := RAs_length hxv
  have hcl0 : cur.toList.length = cap * sz := by simpa using hcsz
  have hns : n * sz ≤ cap * sz := Nat.mul_le_mul_right _ hnc
  have hvn : vs.length = n * sz := by rw [← htk, List.length_take, hcl0]; omega
  have hst := run_storeCells_at (P := E.P) b0 q e (a.eval yo).cells.toList 0 cur w hg' (by omega) (oneAll_ok r.mem.named h1a hxv)
  have hsize : (a.eval yo).cells.size = ti.size := by rw [← hyl]; simpa using hlen
  have hsz2 := run_size hE.ok.T ht2 w
  have hrun2 : (execOp a.eval ⟨none, .store t2 po yo, ty2, pos2, af2, gd2⟩).run E.P w = .ok .skip (w.setRow b0 (cur.toList.take q ++ (a.eval yo).cells.toList ++ cur.toList.drop (q + (a.eval yo).cells.toList.length)).toArray) := by
    simp [execOp, Instr.storeAt, Instr.sureAddr, e1, storeVar, hsz2, hsize]
    simp at hst
    rw [hsize] at hst
    rw [hst]
    rfl
  rw [hrun2]
  show wpListIn _ _ _ _ _ _ _ _
  obtain ⟨cv, hcv⟩ : ∃ cv, cv = (a.eval yo).cells.toList := ⟨_, rfl⟩
  rw [← hcv] at hlen hxv hst ⊢
  obtain ⟨cur', hcur'⟩ : ∃ cur', cur' = (cur.toList.take q ++ cv ++ cur.toList.drop (q + cv.length)).toArray := ⟨_, rfl⟩
  rw [← hcur']
  have hnew : (w.setRow b0 cur').heap[b0]? = some (.cells cur' e (0, 0)) := setRow_heap w b0 cur _ e _ hg'
  have hdom : ∀ k', dom h k' ↔ dom (hset h key (some (.rowA e sz n (overwrite cs q y)))) k' := by
    intro k'
    by_cases hjk : k' = key
    · subst hjk; simp [dom, hset_same]; rw [hkey]; rfl
    · simp only [dom, hset_ne h _ hjk]
  have kc : KeepsC (cx Z h ι w) (cx Z (hset h key (some (.rowA e sz n (overwrite cs q y)))) ι (w.setRow b0 cur')) := by
    refine ⟨⟨fun b o u hm hcc => ?_, fun b hm hi => hi.at (setRow_other w b0 b _ fun e => hm (e ▸ .inr ⟨key, hkd, hb⟩)), fun b _ hm hm' => ?_⟩, fun k' hk' => ⟨(hdom k').1 hk', rfl⟩⟩
    · have hne : b ≠ b0 := by intro e; subst e; exact hm (.inr ⟨key, hkd, hb⟩)
      show World.cell? _ _ = _
      rw [World.cell?_of_block (w := w) (a := ⟨b, o, none⟩) (setRow_other w b0 b _ hne)]; exact hcc
    · rcases hm' with hz | ⟨k', hk', hkb⟩
      · exact hm (.inl hz)
      · exact hm (.inr ⟨k', (hdom k').2 hk', hkb⟩)
  have hcs' : cur'.size = cap * sz := by rw [hcur']; simp; omega
  have hent : EntOk (cx Z (hset h key (some (.rowA e sz n (overwrite cs q y)))) ι (w.setRow b0 cur')) (.rowA e sz n (overwrite cs q y)) (ι key) := by
    refine ⟨vs.take q ++ cv ++ vs.drop (q + y.length), .inr ⟨b0, cap, cur', e0, hc0, hnew, hnc, hcm, hcs', ?_⟩, RAs_keeps kc _ _ (RAs_append (RAs_append (RAs_take _ f2) hxv) (RAs_drop _ f2)), f3⟩
    have hl1 : (cur.toList.take q).length = q := by simp; omega
    rw [hcur', hlen]
    rw [← htk]
    apply List.ext_getElem?
    intro p
    simp only [List.getElem?_take, List.getElem?_append, List.getElem?_drop, List.length_append, List.length_take, List.length_drop, hlen, hl1]
    rw [hcl0]
    repeat' split
    all_goals first | rfl | omega | (exfalso; omega) | skip
    all_goals first | (congr 1; omega) | (simp; omega) | skip
    all_goals first | (rw [List.getElem?_eq_none (by simp; omega)]) | skip
  obtain ⟨m', _⟩ := r.mem.turn hkd hb (setRow_step w b0 _) (by simp) hent
  exact hk ι _ _ ⟨Z, K, Y, hZE, Rel.put_none ⟨m', r.size, fun i => RA_keeps kc _ _ (r.slot i), r.ds.turn ⟨cur, e, _, hg'⟩ (setRow_step w b0 _)⟩ (Grew.refl _) _⟩
end

/-! ### Literals and append -/
theorem keeps_new {Z K : Nat → Prop} {J : World → Prop} {h : Heap} {ι : Nat → Value} {w w' : World} (m : Mem Z K J h ι w) {k : Nat} (hk : h k = none) (hg : Grew w w') {e : Ent} {v : Value} (hb : ∀ b, blk v = some b → w.heap.size ≤ b) :
    KeepsC (cx Z h ι w) (cx Z (hset h k (some e)) (fun j => bif Nat.beq j k then v else ι j) w') := by
  refine ⟨⟨fun b o u _ hc => cell_grew hg hc, fun b _ hi => hi.grew hg, fun b hlt hm hm' => ?_⟩, fun j hj => ⟨?_, ?_⟩⟩
  · rcases hm' with hz | ⟨j, hj, hjb⟩
    · exact hm (.inl hz)
    · by_cases hjk : j = k
      · subst hjk
        simp only [Nat.beq_refl, cond_true] at hjb
        have hlt' : b < w.heap.size := hlt.lt
        have := hb b hjb
        omega
      · have hbq : Nat.beq j k = false := Bool.eq_false_iff.2 fun h' => hjk (Nat.eq_of_beq_eq_true h')
        simp only [dom, hset_ne h _ hjk] at hj
        simp only [hbq, cond_false] at hjb
        exact hm (.inr ⟨j, hj, hjb⟩)
  · have hjk : j ≠ k := by intro e; subst e; simp [dom, hk] at hj
    show (hset h k _ j).isSome = true
    rw [hset_ne h _ hjk]; exact hj
  · have hjk : j ≠ k := by intro e; subst e; simp [dom, hk] at hj
    have hb : Nat.beq j k = false := Bool.eq_false_iff.2 fun h' => hjk (Nat.eq_of_beq_eq_true h')
    simp [hb]
def partsA (s : Slots) (sz : Nat) : Nat → List (Nat × Operand) → Option (List AV)
  | _, [] => some []
  | i, (j, x) :: r => bif Nat.beq j i && cellsOk (ev s x) && Nat.beq (cellsOf (ev s x)).length sz then
      match partsA s sz (i + 1) r with
      | some cs => some (cellsOf (ev s x) ++ cs)
      | none => none
    else none
theorem partsA_ok {C : Cx} (hn : Named C) {s : Slots} {a : Act} (hs : ∀ x, RA C (ev s x) (a.eval x)) {sz : Nat} : ∀ (parts : List (Nat × Operand)) (i : Nat) (cs : List AV), partsA s sz i parts = some cs →
    (parts.map fun p => (p.1, a.eval p.2)) = (((parts.map fun p => a.eval p.2).zipIdx i).map fun x => (x.2, x.1)) ∧ (∀ v ∈ parts.map (fun p => a.eval p.2), v.cells.size = sz) ∧
    RAs C cs ((parts.map fun p => a.eval p.2).flatMap fun v => v.cells.toList) ∧ cs.length = parts.length * sz
  | [], i, cs, h => by simp [partsA] at h; subst h; simp [RAs]
  | (j, x) :: parts, i, cs, h => by
    simp only [partsA] at h
    cases hb : Nat.beq j i && cellsOk (ev s x) && Nat.beq (cellsOf (ev s x)).length sz with
    | false => rw [hb] at h; cases h
    | true =>
      rw [hb] at h
      simp only [cond_true] at h
      simp only [Bool.and_eq_true] at hb
      obtain ⟨⟨b1, b2⟩, b3⟩ := hb
      have e1 := Nat.eq_of_beq_eq_true b1
      have e3 := Nat.eq_of_beq_eq_true b3
      split at h
      · rename_i cs' hcs
        cases h
        obtain ⟨h1, h2, h3, h4⟩ := partsA_ok hn hs parts (i + 1) cs' hcs
        have hcx := RA_cells hn b2 (hs x)
        have hl := RAs_length hcx
        refine ⟨by simp [h1, e1], ?_, ?_, by simp [h4, e3, Nat.add_mul]; omega⟩
        · intro v hv
          simp only [List.map_cons, List.mem_cons] at hv
          rcases hv with rfl | hv
          · simp at hl; omega
          · exact h2 v hv
        · simp only [List.map_cons, List.flatMap_cons]
          exact RAs_append hcx h3
      · cases h
/-- A literal row whose elements hold what is the frame's own. -/
theorem OW_litsOwnA' {E : Env} {ops : List Oper} {Q : Exit → St → Prop} {i : Nat} {J : Jt} {h : Heap} {s : Slots} (hE : E.Good) (key : Nat) {o : Oper} {t e : TypeId} {len : Nat} {parts : Array (Nat × Operand)} (ho : ops[i]? = some o) (hop : o.op = .buildSlice t len parts) (hw : awant ops o s = some true) (hkey : h key = none) {z1 z2 : Nat} {z3 : List Value} (ht : E.T t = some ⟨.slice e, z1, z2, z3⟩)
    {ti : TI} (hte : E.T e = some ti) (hpos : Nat.ble 1 ti.size = true) (hlen : parts.size = len) (hl1 : Nat.ble 1 len = true) (hsmall : Nat.ble (len * ti.size) 16777216 = true) (hl2 : Nat.ble len 16777216 = true) {cs : List AV} (hx : partsA s ti.size 0 parts.toList = some cs)
    {s' : Slots} (hs : putS E.N s o.dst (.row key) = some s') (hk : OW E ops (i + 1) Q ⟨J, s', hset h key (some (.rowA e ti.size len cs))⟩) : OW E ops i Q ⟨J, s, h⟩ := by
  refine OW_lays (st := ⟨J, s, h⟩) hE ho hw (by rw [hop]; intro c hc; cases hc) key hkey (.rowA e ti.size len cs) (.row key) (fun Z K Y ι a w r => ?_) hs hk
  obtain ⟨dst, op, ty, pos, af, gd⟩ := o
  simp only at hop
  subst hop
  have hu := (hE.ok.T t _ ht).2
  simp only [TK.fits] at hu
  obtain ⟨⟨ie, hie, hsz, hby, z, hz, hzc⟩, _⟩ := hE.ok.T e _ hte
  obtain ⟨h1, h2, h3, h4⟩ := partsA_ok (C := cx Z h ι w) r.mem.named (s := s) (a := a) (fun x => RA_ev x fun t _ => r.slot t) parts.toList 0 cs hx
  have hpos' : 1 ≤ ti.size := Nat.le_of_ble_eq_true hpos
  have hsm' := Nat.le_of_ble_eq_true hsmall
  have h0 : 1 ≤ len := Nat.le_of_ble_eq_true hl1
  have hl := Nat.le_of_ble_eq_true hl2
  have hpl : parts.toList.length = len := by simpa using hlen
  have hcs : ((parts.toList.map fun p => a.eval p.2).flatMap fun v => v.cells.toList).length = len * ti.size := by rw [RAs_length h3, h4, hpl]
  have hb : (Instr.buildSlice t len (parts.map fun p => (p.1, a.eval p.2))).run E.P w = .ok (.slice (some ⟨w.heap.size, 0, none⟩) len len) (w.alloc (.cells ((parts.toList.map fun p => a.eval p.2).flatMap fun v => v.cells.toList).toArray e)) := by
    refine run_buildSlice (P := E.P) w t e len _ _ ie z hu hie hz (by rw [hsz]; omega) (by rw [hsz]; intro h; rcases Nat.mul_eq_zero.1 h with h | h <;> omega) ?_
    rw [hsz]
    have hfw := Great.fill_whole (s := ti.size) hpos' (parts.toList.map fun p => a.eval p.2) ((Array.range (len * ti.size)).map (z.cells[· % z.cells.size]!)) h2 (by simp [hlen])
    rw [← h1] at hfw
    simpa using hfw
  obtain ⟨cells, hcc⟩ : ∃ c, c = ((parts.toList.map fun p => a.eval p.2).flatMap fun v => v.cells.toList).toArray := ⟨_, rfl⟩
  rw [← hcc] at hb
  have h3' : RAs (cx Z h ι w) cs cells.toList := by rw [hcc]; simpa using h3
  have hcs' : cells.size = len * ti.size := by rw [hcc]; simpa using hcs
  refine ⟨.slice (some ⟨w.heap.size, 0, none⟩) len len, .slice (some ⟨w.heap.size, 0, none⟩) len len, w.alloc (.cells cells e), by simp only [execOp, Sem.run_bind]; rw [hb]; simp, Grew.alloc w _, ?_, ?_, key_row⟩
  · intro b hb
    simp only [blk] at hb
    split at hb
    · cases hb
    · cases hb; simp
  · refine ⟨cells.toList, .inr ⟨w.heap.size, len, cells, rfl, by omega, heap_alloc_new w _, by omega, by simp [maxLen]; omega, hcs', ?_⟩, RAs_keeps (keeps_new r.mem hkey (Grew.alloc w _) (fun b hb => by simp only [blk] at hb; split at hb <;> first | (cases hb; done) | (cases hb; exact Nat.le_refl _))) _ _ h3', by omega⟩
    rw [List.take_of_length_le (by simp; omega)]
/-- A row of the frame's own as a source of 'append'. -/
theorem Src_row {w : World} {u : Value} {e : TypeId} {sz n : Nat} {vs : List Value} (h : RowOk w u e sz n vs) : Src w u n vs := by
  rcases h with ⟨a, rfl, rfl, rfl⟩ | ⟨g, cap, cur, rfl, hc0, hg, hnc, hcm, hcs, htk⟩
  · cases a with
    | none => exact .inr ⟨rfl, 0, rfl⟩
    | some a => exact .inl ⟨a, 0, rfl, by simp⟩
  · refine .inl ⟨_, cap, rfl, fun j x hj => ?_⟩
    have hadd : (⟨g, 0, none⟩ : Addr).add j = ⟨g, j, none⟩ := by unfold Addr.add; split <;> simp_all
    rw [hadd, cell_of_row w g j cur e (0, 0) hg]
    rw [← htk, List.getElem?_take] at hj
    split at hj
    · simpa using hj
    · cases hj
theorem unk_d (k : Nat) (x : D) : unk k (.d x) = .d x := by simp [unk, nokey]
section
variable {E : Env} {ops : List Oper} {Q : Exit → St → Prop} {i : Nat} {J : Jt} {h : Heap} {s : Slots} {o : Oper}
/-- 'append' of one own row to another one, cells of the frame's own among them. -/
theorem OW_appendA' (hE : E.Good) {key key2 : Nat} {t e : TypeId} {so xo : Operand} (ho : ops[i]? = some o) (hop : o.op = .call ⟨.builtin .append, #[so, xo], #[t, t]⟩) (hw : awant ops o s = some true) {z1 z2 : Nat} {z3 : List Value} (ht : E.T t = some ⟨.slice e, z1, z2, z3⟩)
    {k : TK} {sz bts : Nat} {z6 : List Value} (hte : E.T e = some ⟨k, sz, bts, z6⟩) (hpos : Nat.ble 1 sz = true) (hso : ev s so = .row key) {n m : Nat} {cs ys : List AV} (hkey : h key = some (.rowA e sz n cs)) (hxo : ev s xo = .row key2) (hkey2 : h key2 = some (.rowA e sz m ys))
    (hone : oneAll ys = true) (hcl : cs.length = n * sz) (hyl : ys.length = m * sz) (hn : n + m ≤ 140737488355328) (hb : (n + m) * bts ≤ 140737488355328) {zs : List AV} (hz : (cs ++ ys).map (unk key) = zs)
    {s' : Slots} (hs : putS E.N (unkS key s) o.dst (.row key) = some s') (hk : OW E ops (i + 1) Q ⟨J, s', hset (unkH key h) key (some (.rowA e sz (n + m) zs))⟩) : OW E ops i Q ⟨J, s, h⟩ := fun ι a w r => by
  subst hz
  have hd : ops.drop i = o :: ops.drop (i + 1) := by
    obtain ⟨hlt, rfl⟩ := List.getElem?_eq_some_iff.1 ho
    exact List.drop_eq_getElem_cons hlt
  rw [hd]
  simp only [wpListIn]
  rw [if_pos (awant_ok r hw)]
  refine ⟨fun f _ => hE.wide.fn f, ?_⟩
  rw [Oper.semAt_plain E.F _ _ (by rw [hop]; intro c hc; cases hc)]
  obtain ⟨dst, op, ty, pos, af, gd⟩ := o
  simp only at hop hs
  subst hop
  obtain ⟨Z, K, Y, hZE, r⟩ := r
  have h1 := RA_ev (C := cx Z h ι w) (s := s) (a := a) so fun t _ => r.slot t
  rw [hso] at h1
  simp only [RA] at h1
  obtain ⟨hkd, e1⟩ := h1
  have h2 := RA_ev (C := cx Z h ι w) (s := s) (a := a) xo fun t _ => r.slot t
  rw [hxo] at h2
  simp only [RA] at h2
  obtain ⟨hkd2, e2⟩ := h2
  obtain ⟨vs, f1, f2, f3⟩ := r.mem.ent key _ hkey
  obtain ⟨news, g1, g2, g3⟩ := r.mem.ent key2 _ hkey2
  have hvl : vs.length = n * sz := by rw [RAs_length f2]; exact hcl
  have hnl : news.length = m * sz := by rw [RAs_length g2]; exact hyl
  obtain ⟨v', w', hr, q1, q2, q3⟩ := run_append_any hE.ok.T ht (ty := ty) hte hpos (n := n) (m := m) f1 hvl (Src_row g1) hnl (oneAll_ok r.mem.named hone g2) hn hb
  rw [exec_append (v' := v') (w' := w') (by rw [e1, e2]; exact hr)]
  show wpListIn _ _ _ _ _ _ _ _
  have kk0 : KeepsK key (cx Z h ι w) (cx Z (hset (unkH key h) key (some (.rowA e sz (n + m) ((cs ++ ys).map (unk key))))) (fun j => bif Nat.beq j key then v' else ι j) w') := by
    refine ⟨⟨fun b o u hm hc => ?_, fun b hm hi => hi.at (q2.block b ⟨hi.lt, fun e => hm (.inr ⟨key, hkd, e.symm⟩)⟩), fun b hlt hm hm' => ?_⟩, fun j hjk hj => ?_⟩
    · rw [World.cell?_of_block (w := w) (a := ⟨b, o, none⟩) (q2.block b ⟨World.block_lt_of_cell? w ⟨b, o, none⟩ hc, fun e => hm (.inr ⟨key, hkd, e.symm⟩)⟩)]; exact hc
    · rcases hm' with hz | ⟨j, hj, hjb⟩
      · exact hm (.inl hz)
      · by_cases hjk : j = key
        · subst hjk
          simp at hjb
          rcases (q3 b hjb).2 with h | h
          · exact hm (.inr ⟨_, hkd, h⟩)
          · have hlt' : b < w.heap.size := hlt.lt
            have h' : w.heap.size ≤ b := h
            omega
        · have hbq : Nat.beq j key = false := Bool.eq_false_iff.2 fun h' => hjk (Nat.eq_of_beq_eq_true h')
          simp only [dom, hset_ne (unkH key h) _ hjk] at hj
          simp only [hbq, cond_false] at hjb
          exact hm (.inr ⟨j, dom_unkH.1 hj, hjb⟩)
    · have hbq : Nat.beq j key = false := Bool.eq_false_iff.2 fun h' => hjk (Nat.eq_of_beq_eq_true h')
      refine ⟨?_, by show (bif Nat.beq j key then v' else ι j) = ι j; rw [hbq]; rfl⟩
      show dom (hset (unkH key h) key _) j
      simp only [dom, hset_ne (unkH key h) _ hjk]
      exact dom_unkH.2 hj
  have hent : EntOk (cx Z (hset (unkH key h) key (some (.rowA e sz (n + m) ((cs ++ ys).map (unk key))))) (fun j => bif Nat.beq j key then v' else ι j) w') (.rowA e sz (n + m) ((cs ++ ys).map (unk key))) v' :=
    ⟨vs ++ news, q1, RAs_keepsK kk0 _ _ (nokeys_unk key _) (RAs_unk (RAs_append f2 g2)), hn⟩
  obtain ⟨m', kk⟩ := r.mem.redo hkd q2 q3 hent
  have hmarks : Marks Z K w' a.defers := by
    obtain ⟨rs, p1, p2, p3⟩ := r.ds
    refine ⟨rs, p1, p2, fun x hx => ?_⟩
    obtain ⟨p4, p5⟩ := p3 x hx
    refine ⟨?_, p5⟩
    rw [q2.block x ⟨(Array.getElem?_eq_some_iff.1 p4).1, fun e => ?_⟩]
    · exact p4
    · rcases f1 with ⟨a0, e0, _⟩ | ⟨g, cap, cur, e0, hc0, hg, _⟩
      · rw [e0] at e; cases a0 <;> simp [blk] at e
      · rw [e0] at e
        have hg' : w.heap[g]? = some (.cells cur _ (0, 0)) := hg
        have : blk (.slice (some ⟨g, 0, none⟩) n cap) = some g := by simp [blk]; omega
        rw [this] at e
        cases e
        rw [hg'] at p4
        cases p4
  have r0 : Rel Z K E.N (J K Y Z) (unkS key s) (hset (unkH key h) key (some (.rowA e sz (n + m) ((cs ++ ys).map (unk key))))) (fun j => bif Nat.beq j key then v' else ι j) a w' :=
    ⟨m', r.size, fun j => RA_keepsK kk _ _ (nokey_unk key _) (RA_unk (r.slot j)), hmarks⟩
  unfold putS at hs
  cases hdst : dst with
  | none =>
    simp only [hdst] at hs
    cases hs
    exact hk _ _ w' ⟨Z, K, Y, hZE, Rel.put_none r0 (Grew.refl _) _⟩
  | some d =>
    simp only [hdst] at hs
    cases hbd : Nat.ble (d + 1) E.N with
    | false => rw [hbd] at hs; cases hs
    | true =>
      rw [hbd] at hs
      cases hs
      exact hk _ _ w' ⟨Z, K, Y, hZE, Rel.put r0 (Grew.refl _) hbd key_row⟩
end
end Go.AL
/- AL, part 45: functions that are lent what is the frame's own, write it, and give it back. -/
namespace Go.AL
set_option linter.unusedVariables false
set_option linter.unusedSimpArgs false

/-! ### Other keys -/
mutual
def rnA (ρ : Nat → Nat) : AV → AV
  | .d x => .d x
  | .any => .any
  | .agg cs => .agg (rnAs ρ cs)
  | .tup cs => .tup (rnAs ρ cs)
  | .fn f a b => .fn f (rnAs ρ a) (rnAs ρ b)
  | .ptr k o => .ptr (ρ k) o
  | .view k o n => .view (ρ k) o n
  | .row k => .row (ρ k)
def rnAs (ρ : Nat → Nat) : List AV → List AV
  | [] => []
  | x :: xs => rnA ρ x :: rnAs ρ xs
end
def rnE (ρ : Nat → Nat) : Ent → Ent
  | .box t cs => .box t (rnAs ρ cs)
  | .row e sz xs => .row e sz xs
  | .ghost cs vs => .ghost (rnAs ρ cs) vs
  | .rowA e sz n cs => .rowA e sz n (rnAs ρ cs)
mutual
theorem RA_rn {ρ : Nat → Nat} {H : Heap} {C C' : Cx} (hk : Keeps C.w C'.w C.M C'.M) (hd : ∀ k, (H k).isSome = true → C'.dom (ρ k) ∧ C'.ι (ρ k) = C.ι k) : ∀ (x : AV) (v : Value), inH H x = true → RA C x v → RA C' (rnA ρ x) v
  | .d x, v => fun _ hx => by simp only [RA, rnA] at hx ⊢; exact RD_keeps hk x v hx
  | .agg cs, v => fun hi hx => by
    simp only [RA, rnA] at hx ⊢
    obtain ⟨vs, e, h1⟩ := hx
    exact ⟨vs, e, RAs_rn hk hd cs _ (by simpa [inH] using hi) h1⟩
  | .tup cs, v => fun hi hx => by
    simp only [RA, rnA] at hx ⊢
    obtain ⟨vs, e, h1⟩ := hx
    exact ⟨vs, e, RAs_rn hk hd cs _ (by simpa [inH] using hi) h1⟩
  | .fn f first cap, v => fun hi hx => by
    simp only [RA, rnA] at hx ⊢
    obtain ⟨vf, vc, e, h1, h2⟩ := hx
    simp [inH] at hi
    exact ⟨vf, vc, e, RAs_rn hk hd first _ hi.1 h1, RAs_rn hk hd cap _ hi.2 h2⟩
  | .any, v => fun _ hx => by simp only [RA, rnA]
  | .ptr k o, v => fun hi hx => by
    simp only [RA, rnA] at hx ⊢
    obtain ⟨_, b, h2, e⟩ := hx
    obtain ⟨g1, g2⟩ := hd k (by simpa [inH] using hi)
    exact ⟨g1, b, by rw [g2]; exact h2, e⟩
  | .view k o n, v => fun hi hx => by
    simp only [RA, rnA] at hx ⊢
    obtain ⟨_, b, cap, h2, e⟩ := hx
    obtain ⟨g1, g2⟩ := hd k (by simpa [inH] using hi)
    exact ⟨g1, b, cap, by rw [g2]; exact h2, by rw [g2]; exact e⟩
  | .row k, v => fun hi hx => by
    simp only [RA, rnA] at hx ⊢
    obtain ⟨g1, g2⟩ := hd k (by simpa [inH] using hi)
    exact ⟨g1, by rw [g2]; exact hx.2⟩
theorem RAs_rn {ρ : Nat → Nat} {H : Heap} {C C' : Cx} (hk : Keeps C.w C'.w C.M C'.M) (hd : ∀ k, (H k).isSome = true → C'.dom (ρ k) ∧ C'.ι (ρ k) = C.ι k) : ∀ (xs : List AV) (vs : List Value), inHs H xs = true → RAs C xs vs → RAs C' (rnAs ρ xs) vs
  | [], vs => fun _ hx => by simpa only [RAs, rnAs] using hx
  | x :: xs, vs => fun hi hx => by
    simp only [RAs, rnAs] at hx ⊢
    obtain ⟨v, t, e, h1, h2⟩ := hx
    simp [inHs] at hi
    exact ⟨v, t, e, RA_rn hk hd x v hi.1 h1, RAs_rn hk hd xs t hi.2 h2⟩
end
mutual
theorem RA_nr {ρ : Nat → Nat} {H : Heap} {C C' : Cx} (hk : Keeps C.w C'.w C.M C'.M) (hd : ∀ k, (H k).isSome = true → C'.dom k ∧ C'.ι k = C.ι (ρ k)) : ∀ (x : AV) (v : Value), inH H x = true → RA C (rnA ρ x) v → RA C' x v
  | .d x, v => fun _ hx => by simp only [RA, rnA] at hx ⊢; exact RD_keeps hk x v hx
  | .agg cs, v => fun hi hx => by
    simp only [RA, rnA] at hx ⊢
    obtain ⟨vs, e, h1⟩ := hx
    exact ⟨vs, e, RAs_nr hk hd cs _ (by simpa [inH] using hi) h1⟩
  | .tup cs, v => fun hi hx => by
    simp only [RA, rnA] at hx ⊢
    obtain ⟨vs, e, h1⟩ := hx
    exact ⟨vs, e, RAs_nr hk hd cs _ (by simpa [inH] using hi) h1⟩
  | .fn f first cap, v => fun hi hx => by
    simp only [RA, rnA] at hx ⊢
    obtain ⟨vf, vc, e, h1, h2⟩ := hx
    simp [inH] at hi
    exact ⟨vf, vc, e, RAs_nr hk hd first _ hi.1 h1, RAs_nr hk hd cap _ hi.2 h2⟩
  | .any, v => fun _ hx => by simp only [RA]
  | .ptr k o, v => fun hi hx => by
    simp only [RA, rnA] at hx ⊢
    obtain ⟨_, b, h2, e⟩ := hx
    obtain ⟨g1, g2⟩ := hd k (by simpa [inH] using hi)
    exact ⟨g1, b, by rw [g2]; exact h2, e⟩
  | .view k o n, v => fun hi hx => by
    simp only [RA, rnA] at hx ⊢
    obtain ⟨_, b, cap, h2, e⟩ := hx
    obtain ⟨g1, g2⟩ := hd k (by simpa [inH] using hi)
    exact ⟨g1, b, cap, by rw [g2]; exact h2, by rw [g2]; exact e⟩
  | .row k, v => fun hi hx => by
    simp only [RA, rnA] at hx ⊢
    obtain ⟨g1, g2⟩ := hd k (by simpa [inH] using hi)
    exact ⟨g1, by rw [g2]; exact hx.2⟩
theorem RAs_nr {ρ : Nat → Nat} {H : Heap} {C C' : Cx} (hk : Keeps C.w C'.w C.M C'.M) (hd : ∀ k, (H k).isSome = true → C'.dom k ∧ C'.ι k = C.ι (ρ k)) : ∀ (xs : List AV) (vs : List Value), inHs H xs = true → RAs C (rnAs ρ xs) vs → RAs C' xs vs
  | [], vs => fun _ hx => by simpa only [RAs, rnAs] using hx
  | x :: xs, vs => fun hi hx => by
    simp only [RAs, rnAs] at hx ⊢
    obtain ⟨v, t, e, h1, h2⟩ := hx
    simp [inHs] at hi
    exact ⟨v, t, e, RA_nr hk hd x v hi.1 h1, RAs_nr hk hd xs t hi.2 h2⟩
end
theorem EntOk_rn {ρ : Nat → Nat} {H : Heap} {C C' : Cx} (hw : C'.w = C.w) (hk : Keeps C.w C'.w C.M C'.M) (hd : ∀ k, (H k).isSome = true → C'.dom (ρ k) ∧ C'.ι (ρ k) = C.ι k) {e : Ent} {v : Value} (hi : inE H e = true) (h : EntOk C e v) : EntOk C' (rnE ρ e) v := by
  cases e with
  | box t cs => obtain ⟨b, vs, h1, h2, h3⟩ := h; exact ⟨b, vs, h1, by rw [hw]; exact h2, RAs_rn hk hd _ _ hi h3⟩
  | row e sz xs => obtain ⟨vs, h1, h2, h3⟩ := h; exact ⟨vs, by rw [hw]; exact h1, RDs_keeps hk _ _ h2, h3⟩
  | ghost cs vs => exact ⟨h.1, RAs_rn hk hd _ _ hi h.2⟩
  | rowA e sz n cs => obtain ⟨vs, h1, h2, h3⟩ := h; exact ⟨vs, by rw [hw]; exact h1, RAs_rn hk hd _ _ hi h2, h3⟩
theorem EntOk_nr {ρ : Nat → Nat} {H : Heap} {C C' : Cx} (hw : C'.w = C.w) (hk : Keeps C.w C'.w C.M C'.M) (hd : ∀ k, (H k).isSome = true → C'.dom k ∧ C'.ι k = C.ι (ρ k)) {e : Ent} {v : Value} (hi : inE H e = true) (h : EntOk C (rnE ρ e) v) : EntOk C' e v := by
  cases e with
  | box t cs => obtain ⟨b, vs, h1, h2, h3⟩ := h; exact ⟨b, vs, h1, by rw [hw]; exact h2, RAs_nr hk hd _ _ hi h3⟩
  | row e sz xs => obtain ⟨vs, h1, h2, h3⟩ := h; exact ⟨vs, by rw [hw]; exact h1, RDs_keeps hk _ _ h2, h3⟩
  | ghost cs vs => exact ⟨h.1, RAs_nr hk hd _ _ hi h.2⟩
  | rowA e sz n cs => obtain ⟨vs, h1, h2, h3⟩ := h; exact ⟨vs, by rw [hw]; exact h1, RAs_nr hk hd _ _ hi h2, h3⟩
theorem EntOk_in {H : Heap} {C C' : Cx} (hw : C'.w = C.w) (hk : Keeps C.w C'.w C.M C'.M) (hd : ∀ k, (H k).isSome = true → C'.dom k ∧ C'.ι k = C.ι k) {e : Ent} {v : Value} (hi : inE H e = true) (h : EntOk C e v) : EntOk C' e v := by
  cases e with
  | box t cs => obtain ⟨b, vs, h1, h2, h3⟩ := h; exact ⟨b, vs, h1, by rw [hw]; exact h2, RAs_in hk hd _ _ hi h3⟩
  | row e sz xs => obtain ⟨vs, h1, h2, h3⟩ := h; exact ⟨vs, by rw [hw]; exact h1, RDs_keeps hk _ _ h2, h3⟩
  | ghost cs vs => exact ⟨h.1, RAs_in hk hd _ _ hi h.2⟩
  | rowA e sz n cs => obtain ⟨vs, h1, h2, h3⟩ := h; exact ⟨vs, by rw [hw]; exact h1, RAs_in hk hd _ _ hi h2, h3⟩

/-! ### Without some keys -/
mutual
def noP (p : Nat → Bool) : AV → Bool
  | .d _ => true
  | .any => true
  | .agg cs => noPs p cs
  | .tup cs => noPs p cs
  | .fn _ a b => noPs p a && noPs p b
  | .ptr k _ => !p k
  | .view k _ _ => !p k
  | .row k => !p k
def noPs (p : Nat → Bool) : List AV → Bool
  | [] => true
  | x :: xs => noP p x && noPs p xs
end
mutual
theorem RA_noP {p : Nat → Bool} {C C' : Cx} (hk : Keeps C.w C'.w C.M C'.M) (hd : ∀ k, p k = false → C.dom k → C'.dom k ∧ C'.ι k = C.ι k) : ∀ (x : AV) (v : Value), noP p x = true → RA C x v → RA C' x v
  | .d x, v => fun _ hx => by simp only [RA] at hx ⊢; exact RD_keeps hk x v hx
  | .agg cs, v => fun hi hx => by
    simp only [RA] at hx ⊢
    obtain ⟨vs, e, h1⟩ := hx
    exact ⟨vs, e, RAs_noP hk hd cs _ (by simpa [noP] using hi) h1⟩
  | .tup cs, v => fun hi hx => by
    simp only [RA] at hx ⊢
    obtain ⟨vs, e, h1⟩ := hx
    exact ⟨vs, e, RAs_noP hk hd cs _ (by simpa [noP] using hi) h1⟩
  | .fn f first cap, v => fun hi hx => by
    simp only [RA] at hx ⊢
    obtain ⟨vf, vc, e, h1, h2⟩ := hx
    simp [noP] at hi
    exact ⟨vf, vc, e, RAs_noP hk hd first _ hi.1 h1, RAs_noP hk hd cap _ hi.2 h2⟩
  | .any, v => fun _ hx => by simp only [RA]
  | .ptr k o, v => fun hi hx => by
    simp only [RA] at hx ⊢
    obtain ⟨hdk, b, h2, e⟩ := hx
    obtain ⟨g1, g2⟩ := hd k (by simpa [noP] using hi) hdk
    exact ⟨g1, b, by rw [g2]; exact h2, e⟩
  | .view k o n, v => fun hi hx => by
    simp only [RA] at hx ⊢
    obtain ⟨hdk, b, cap, h2, e⟩ := hx
    obtain ⟨g1, g2⟩ := hd k (by simpa [noP] using hi) hdk
    exact ⟨g1, b, cap, by rw [g2]; exact h2, by rw [g2]; exact e⟩
  | .row k, v => fun hi hx => by
    simp only [RA] at hx ⊢
    obtain ⟨g1, g2⟩ := hd k (by simpa [noP] using hi) hx.1
    exact ⟨g1, by rw [g2]; exact hx.2⟩
theorem RAs_noP {p : Nat → Bool} {C C' : Cx} (hk : Keeps C.w C'.w C.M C'.M) (hd : ∀ k, p k = false → C.dom k → C'.dom k ∧ C'.ι k = C.ι k) : ∀ (xs : List AV) (vs : List Value), noPs p xs = true → RAs C xs vs → RAs C' xs vs
  | [], vs => fun _ hx => by simpa only [RAs] using hx
  | x :: xs, vs => fun hi hx => by
    simp only [RAs] at hx ⊢
    obtain ⟨v, t, e, h1, h2⟩ := hx
    simp [noPs] at hi
    exact ⟨v, t, e, RA_noP hk hd x v hi.1 h1, RAs_noP hk hd xs t hi.2 h2⟩
end
def unP (p : Nat → Bool) (x : AV) : AV := bif noP p x then x else .any
def unPs (p : Nat → Bool) (xs : List AV) : List AV := xs.map (unP p)
def unPE (p : Nat → Bool) : Ent → Ent
  | .box t cs => .box t (unPs p cs)
  | .row e sz xs => .row e sz xs
  | .ghost cs vs => .ghost (unPs p cs) vs
  | .rowA e sz n cs => .rowA e sz n (unPs p cs)
theorem RA_unP {p : Nat → Bool} {C C' : Cx} (hk : Keeps C.w C'.w C.M C'.M) (hd : ∀ k, p k = false → C.dom k → C'.dom k ∧ C'.ι k = C.ι k) (x : AV) (v : Value) (h : RA C x v) : RA C' (unP p x) v := by
  unfold unP
  cases hn : noP p x with
  | true => exact RA_noP hk hd x v hn h
  | false => simp [RA]
theorem RAs_unP {p : Nat → Bool} {C C' : Cx} (hk : Keeps C.w C'.w C.M C'.M) (hd : ∀ k, p k = false → C.dom k → C'.dom k ∧ C'.ι k = C.ι k) : ∀ (xs : List AV) (vs : List Value), RAs C xs vs → RAs C' (unPs p xs) vs
  | [], vs, h => by simpa only [RAs, unPs, List.map_nil] using h
  | x :: xs, vs, h => by
    simp only [RAs, unPs, List.map_cons] at h ⊢
    obtain ⟨v, t, e, h1, h2⟩ := h
    exact ⟨v, t, e, RA_unP hk hd x v h1, RAs_unP hk hd xs t h2⟩
theorem EntOk_unP {p : Nat → Bool} {C C' : Cx} (hk : Keeps C.w C'.w C.M C'.M) (hd : ∀ k, p k = false → C.dom k → C'.dom k ∧ C'.ι k = C.ι k) {e : Ent} {v : Value} (hb : ∀ b cs t f, blk v = some b → C.w.heap[b]? = some (.cells cs t f) → C'.w.heap[b]? = some (.cells cs t f)) (h : EntOk C e v) : EntOk C' (unPE p e) v := by
  have hrow : ∀ {e sz n vs}, RowOk C.w v e sz n vs → RowOk C'.w v e sz n vs := fun h1 => by
    rcases h1 with h1 | ⟨g, cap, cur, g1, g0, g2, g3⟩
    · exact .inl h1
    · exact .inr ⟨g, cap, cur, g1, g0, hb g _ _ _ (by rw [g1]; simp [blk]; omega) g2, g3⟩
  cases e with
  | box t cs => obtain ⟨b, vs, h1, h2, h3⟩ := h; exact ⟨b, vs, h1, hb b _ _ _ (blk_ptr h1) h2, RAs_unP hk hd _ _ h3⟩
  | row e sz xs => obtain ⟨vs, h1, h2, h3⟩ := h; exact ⟨vs, hrow h1, RDs_keeps hk _ _ h2, h3⟩
  | ghost cs vs => exact ⟨h.1, RAs_unP hk hd _ _ h.2⟩
  | rowA e sz n cs => obtain ⟨vs, h1, h2, h3⟩ := h; exact ⟨vs, hrow h1, RAs_unP hk hd _ _ h2, h3⟩

/-! ### Heaps as lists -/
def heapOf : List (Nat × Ent) → Heap
  | [] => noHeap
  | (k, e) :: l => hset (heapOf l) k (some e)
def allE (h : Heap) : List (Nat × Ent) → Prop
  | [] => True
  | (k, e) :: l => h k = some e ∧ allE h l
theorem heapOf_mem : ∀ {l : List (Nat × Ent)} {k : Nat} {e : Ent}, heapOf l k = some e → (k, e) ∈ l
  | [], k, e, h => by simp [heapOf, noHeap] at h
  | (j, x) :: l, k, e, h => by
    by_cases hjk : k = j
    · subst hjk
      simp only [heapOf, hset_same] at h
      cases h; simp
    · simp only [heapOf] at h
      rw [hset_ne _ _ hjk] at h
      exact List.mem_cons_of_mem _ (heapOf_mem h)
theorem allE_mem {h : Heap} : ∀ {l : List (Nat × Ent)} {k : Nat} {e : Ent}, allE h l → (k, e) ∈ l → h k = some e
  | (j, x) :: l, k, e, ha, hm => by
    rcases List.mem_cons.1 hm with hm | hm
    · cases hm; exact ha.1
    · exact allE_mem ha.2 hm
theorem allE_of {h : Heap} {l : List (Nat × Ent)} {k : Nat} {e : Ent} (ha : allE h l) (hk : heapOf l k = some e) : h k = some e := allE_mem ha (heapOf_mem hk)
def closedL (l : List (Nat × Ent)) : Bool := l.all fun x => inE (heapOf l) x.2
theorem closedL_of {l : List (Nat × Ent)} (h : closedL l = true) {k : Nat} {e : Ent} (hk : heapOf l k = some e) : inE (heapOf l) e = true := List.all_eq_true.1 h _ (heapOf_mem hk)
def keyOf (l : List (Nat × Ent)) (k : Nat) : Bool := l.any fun x => Nat.beq x.1 k
theorem keyOf_dom {l : List (Nat × Ent)} {k : Nat} : keyOf l k = true ↔ dom (heapOf l) k := by
  induction l with
  | nil => simp [keyOf, dom, heapOf, noHeap]
  | cons x l ih =>
    obtain ⟨j, e⟩ := x
    by_cases hjk : k = j
    · subst hjk
      simp [keyOf, dom, heapOf, hset_same]
    · have hb : Nat.beq j k = false := Bool.eq_false_iff.2 fun h' => hjk (Nat.eq_of_beq_eq_true h').symm
      simp only [keyOf, List.any_cons, hb, Bool.false_or, dom, heapOf]
      rw [hset_ne _ _ hjk]
      exact ih

/-! ### The contract -/
structure OwnIn (Z : Nat → Prop) (h : Heap) (ι : Nat → Value) (w : World) : Prop where
  ent : ∀ k e, h k = some e → EntOk (cx Z h ι w) e (ι k)
  own : ∀ k b, dom h k → blk (ι k) = some b → ¬ Z b ∧ b < w.heap.size
  apart : ∀ k k' b, dom h k → dom h k' → blk (ι k) = some b → blk (ι k') = some b → k = k'
def Lent (h : Heap) (ι : Nat → Value) (b : Nat) : Prop := ∃ k, dom h k ∧ blk (ι k) = some b
structure Gave (Z : Nat → Prop) (h0 : Heap) (ι : Nat → Value) (w : World) (h1 : Heap) (kept : List Nat) (ι' : Nat → Value) (w' : World) : Prop where
  ent : ∀ k e, h1 k = some e → EntOk (cx Z h1 ι' w') e (ι' k)
  own : ∀ k b, dom h1 k → blk (ι' k) = some b → ¬ Z b ∧ b < w'.heap.size ∧ (Lent h0 ι b ∨ w.heap.size ≤ b)
  apart : ∀ k k' b, dom h1 k → dom h1 k' → blk (ι' k) = some b → blk (ι' k') = some b → k = k'
  kept : ∀ k ∈ kept, ι' k = ι k
  step : Step (fun b => b < w.heap.size ∧ ¬ Lent h0 ι b) w w'
/-- A function that is lent the entries l0 and gives back l1; kept: the keys whose handles stay. -/
def DoesM (P : Program) (f : Nat) (l0 : List (Nat × Ent)) (args : List AV) (R : AV) (l1 : List (Nat × Ent)) (kept : List Nat) : Prop :=
  (Callable P f ∧ closedL l0 = true ∧ closedL l1 = true ∧ inHs (heapOf l0) args = true ∧ inH (heapOf l1) R = true ∧ (kept.all fun k => keyOf l0 k && keyOf l1 k) = true) ∧
  ∀ n Z w ι vs, (∀ b, Z b → b < w.heap.size) → OwnIn Z (heapOf l0) ι w → RAs (cx Z (heapOf l0) ι w) args vs →
    CallsIn Fence.wide n P f vs.toArray w fun x w' => ∃ v ι', x = .returned v ∧ RA (cx Z (heapOf l1) ι' w') R v ∧ Gave Z (heapOf l0) ι w (heapOf l1) kept ι' w'
def lentJ (h0 : Heap) (ι : Nat → Value) (w : World) : Jt := fun K _ _ w' => Step (fun b => b < w.heap.size ∧ ¬ Lent h0 ι b) w w' ∧ ∀ b, (b < w.heap.size ∧ ¬ Lent h0 ι b) → K b
theorem mono_lent (h0 : Heap) (ι : Nat → Value) (w : World) : Mono (lentJ h0 ι w) :=
  ⟨fun K Y Z w1 w2 h1 h2 => ⟨⟨h2.os.trans h1.1.os, h2.tape.trans h1.1.tape, h2.output.trans h1.1.output, Nat.le_trans h1.1.size h2.size, fun b hb => (h2.block b (h1.2 b hb)).trans (h1.1.block b hb)⟩, h1.2⟩,
   fun K K2 Y Z Z2 w1 h1 h2 _ _ _ => ⟨h1.1, fun b hb => h2 b (h1.2 b hb)⟩⟩
def RetM (T : Nat → Option TI) (fn : Func) (J : Jt) (l1 : List (Nat × Ent)) (R : AV) (kept : List Nat) (V : List Value) : Exit → St → Prop := fun x st =>
  (x = .normal ∨ x = .ret) ∧ st.J = J ∧ (∃ Rs, aresults T st.h st.s fn.results.toList = some Rs ∧ AVle (packR Rs) R) ∧ allE st.h l1 ∧ st.h 99 = some (.ghost (kept.map .row) V)
theorem RAs_rows {C : Cx} : ∀ {ks : List Nat} {V : List Value}, RAs C (ks.map .row) V → V = ks.map C.ι ∧ ∀ k ∈ ks, C.dom k
  | [], V, h => by simp only [List.map_nil, RAs] at h; exact ⟨by simpa using h, by simp⟩
  | k :: ks, V, h => by
    simp only [List.map_cons, RAs, RA] at h
    obtain ⟨v, t, rfl, ⟨h1, rfl⟩, h2⟩ := h
    obtain ⟨e, h3⟩ := RAs_rows h2
    refine ⟨by rw [e]; rfl, fun j hj => ?_⟩
    rcases List.mem_cons.1 hj with rfl | hj
    · exact h1
    · exact h3 j hj
theorem RAs_rows_mk {C : Cx} : ∀ {ks : List Nat}, (∀ k ∈ ks, C.dom k) → RAs C (ks.map .row) (ks.map C.ι)
  | [], _ => by simp [RAs]
  | k :: ks, h => by
    simp only [List.map_cons, RAs, RA]
    exact ⟨_, _, rfl, ⟨h k (by simp), rfl⟩, RAs_rows_mk fun j hj => h j (by simp [hj])⟩
theorem DoesM_of {P : Program} {T : Nat → Option TI} (hT : TOk P T) (hm : P.follows .mixedOrders = true) {f : Nat} {fn : Func} {c : Code} {l0 : List (Nat × Ent)} {args : List AV} {R : AV} {l1 : List (Nat × Ent)} {kept : List Nat} (hf : P.funcs[f]? = some fn) (hb : fn.body = some c) (hn : (fn.name == "runtime.NumGoroutine") = false)
    {N : Nat} (hN : fn.ntmps = N) (hl : Nat.ble args.length N = true) (h99 : keyOf l0 99 = false) (hc0 : closedL l0 = true) (hc1 : closedL l1 = true) (hia : inHs (heapOf l0) args = true) (hiR : inH (heapOf l1) R = true) (hkp : (kept.all fun k => keyOf l0 k && keyOf l1 k) = true)
    (h : ∀ F n Z, (⟨P, T, F, n, Z, N⟩ : Env).Good → F = Fence.wide → ∀ J V, CW ⟨P, T, F, n, Z, N⟩ c (RetM T fn J l1 R kept V) ⟨J, argSlots args 0, hset (heapOf l0) 99 (some (.ghost (kept.map .row) V))⟩) : DoesM P f l0 args R l1 kept := by
  subst hN
  refine ⟨⟨⟨fn, hf, hn, by rw [hb]; rfl⟩, hc0, hc1, hia, hiR, hkp⟩, fun n Z w ι vs hZ ho hv => ?_⟩
  have hd99 : ¬ dom (heapOf l0) 99 := fun hd => by rw [keyOf_dom.2 hd] at h99; cases h99
  have hne : ∀ k, dom (heapOf l0) k → k ≠ 99 := fun k hk e => hd99 (e ▸ hk)
  have hkd : ∀ k ∈ kept, dom (heapOf l0) k := fun k hk => by
    have := List.all_eq_true.1 hkp k hk
    rw [Bool.and_eq_true] at this
    exact keyOf_dom.1 this.1
  let E : Env := ⟨P, T, Fence.wide, n, Z, fn.ntmps⟩
  have hE : E.Good := ⟨⟨hT, fun f => trivial, rfl, hm⟩, .inl rfl⟩
  let V := kept.map ι
  let hs : Heap := hset (heapOf l0) 99 (some (.ghost (kept.map .row) V))
  let ιs : Nat → Value := fun j => bif Nat.beq j 99 then .slice none 0 0 else ι j
  have hιs : ∀ j, j ≠ 99 → ιs j = ι j := fun j hj => by
    have : Nat.beq j 99 = false := Bool.eq_false_iff.2 fun h' => hj (Nat.eq_of_beq_eq_true h')
    show (bif Nat.beq j 99 then _ else _) = _
    rw [this]; rfl
  have hds : ∀ j, dom hs j → j = 99 ∨ dom (heapOf l0) j := fun j hj => by
    by_cases hj9 : j = 99
    · exact .inl hj9
    · right
      have : hs j = heapOf l0 j := hset_ne _ _ hj9
      unfold dom at hj ⊢; rw [← this]; exact hj
  have hdm : ∀ j, dom (heapOf l0) j → dom hs j := fun j hj => by
    have : hs j = heapOf l0 j := hset_ne _ _ (hne j hj)
    unfold dom at hj ⊢; rw [this]; exact hj
  have kc : KeepsC (cx Z (heapOf l0) ι w) (cx Z hs ιs w) := by
    refine ⟨⟨fun _ _ _ _ hh => hh, fun _ _ hh => hh, fun b _ hm hm' => ?_⟩, fun k hk => ⟨hdm k hk, hιs k (hne k hk)⟩⟩
    rcases hm' with hz | ⟨j, hj, hjb⟩
    · exact hm (.inl hz)
    · rcases hds j hj with rfl | hj'
      · simp [ιs, blk] at hjb
      · have : ιs j = ι j := hιs j (hne j hj')
        rw [show (cx Z hs ιs w).ι j = ιs j from rfl, this] at hjb
        exact hm (.inr ⟨j, hj', hjb⟩)
  have hown : ∀ k b, dom hs k → blk (ιs k) = some b → dom (heapOf l0) k ∧ blk (ι k) = some b := fun k b hk hkb => by
    rcases hds k hk with rfl | hk'
    · simp [ιs, blk] at hkb
    · rw [hιs k (hne k hk')] at hkb; exact ⟨hk', hkb⟩
  refine callsIn_of_wp_marks hf hb trivial (wpIn_mono (h _ _ _ hE rfl (lentJ (heapOf l0) ι w) V ιs _ w ?_) ?_) rfl
  · refine ⟨Z, fun b => b < w.heap.size ∧ ¬ Lent (heapOf l0) ι b, fun _ => False, ⟨fun b hb => hb, fun _ hb => hb.elim, mono_lent _ _ w⟩, ⟨fun k e' hk => ?_, fun k b hk hb => ?_, fun k k' b hk hk' h1 h2 => ?_, hZ, fun b hb => hb.1, ⟨Step.refl _ w, fun b hb => hb⟩, (mono_lent _ _ w).closed (fun b => b < w.heap.size ∧ ¬ Lent (heapOf l0) ι b) (fun _ => False) Z⟩, ?_, fun j => ?_, Marks.nil _ _ _⟩
    · by_cases hk9 : k = 99
      · subst hk9
        have : hs 99 = some e' := hk
        rw [show hs 99 = some (.ghost (kept.map .row) V) from hset_same _ _ _] at this
        cases this
        refine ⟨by show ιs 99 = _; simp [ιs], ?_⟩
        have hR := RAs_rows_mk (C := cx Z hs ιs w) (ks := kept) fun k hk => hdm k (hkd k hk)
        have hVe : kept.map (cx Z hs ιs w).ι = V := List.map_congr_left fun k hk => hιs k (hne k (hkd k hk))
        rw [hVe] at hR
        exact hR
      · have h1 : heapOf l0 k = some e' := by rw [← show hs k = heapOf l0 k from hset_ne _ _ hk9]; exact hk
        show EntOk (cx Z hs ιs w) e' (ιs k)
        rw [hιs k hk9]
        exact EntOk.keeps kc (fun _ _ _ _ _ hb => hb) (ho.ent k e' h1)
    · obtain ⟨h1, h2⟩ := hown k b hk hb
      have := ho.own k b h1 h2
      exact ⟨this.1, fun hK => hK.2 ⟨k, h1, h2⟩, this.2⟩
    · obtain ⟨g1, g2⟩ := hown k b hk h1
      obtain ⟨g3, g4⟩ := hown k' b hk' h2
      exact ho.apart k k' b g1 g3 g2 g4
    · have hlen := RAs_length hv
      have hle := Nat.le_of_ble_eq_true hl
      simp [hlen]
      omega
    · have := argSlots_ok (C := cx Z hs ιs w) args vs 0 [] (List.replicate (fn.ntmps - vs.length) undef) (RAs_keeps kc _ _ hv) rfl j
      rw [List.nil_append] at this
      have e2 : (vs.toArray ++ Array.replicate (fn.ntmps - vs.toArray.size) undef : Array Value) = (vs ++ List.replicate (fn.ntmps - vs.length) undef).toArray := by rw [← List.toArray_replicate]; simp
      show RA (cx Z hs ιs w) (argSlots args 0 j) ((vs.toArray ++ Array.replicate (fn.ntmps - vs.toArray.size) undef).getD j undef)
      rw [e2]
      exact this
  · rintro x a' w' ⟨st, ι1, ⟨he, hJ, ⟨Rs, hRs, hR⟩, hall, hgh⟩, Z', K, Y, hZE, r⟩
    have goal : LeavesInM Fence.wide n P fn a'.tmps (fun x w' => ∃ v ι', x = .returned v ∧ RA (cx Z (heapOf l1) ι' w') R v ∧ Gave Z (heapOf l0) ι w (heapOf l1) kept ι' w') a'.defers .returning w' := by
      refine leaves_marks r fun w1 r1 => ?_
      have hg : Step (fun b => b < w.heap.size ∧ ¬ Lent (heapOf l0) ι b) w w1 ∧ ∀ b, (b < w.heap.size ∧ ¬ Lent (heapOf l0) ι b) → K b := by have := r1.mem.Jw; rw [hJ] at this; exact this
      obtain ⟨v, g1, g2⟩ := results_ok hT r1 hRs
      have hd1 : ∀ k, dom (heapOf l1) k → dom st.h k := fun k hk => by
        obtain ⟨e, he⟩ := Option.isSome_iff_exists.1 hk
        show (st.h k).isSome = true
        rw [allE_of hall he]; rfl
      have keeps : Keeps w1 w1 (cx Z' st.h ι1 w1).M (cx Z (heapOf l1) ι1 w1).M := ⟨fun _ _ _ _ hh => hh, fun _ _ hh => hh, fun b _ hm hm' => by
        rcases hm' with hm' | ⟨j, hj, hjb⟩
        · exact hm (.inl (hZE.1 b hm'))
        · exact hm (.inr ⟨j, hd1 j hj, hjb⟩)⟩
      have hd : ∀ k, ((heapOf l1) k).isSome = true → (cx Z (heapOf l1) ι1 w1).dom k ∧ (cx Z (heapOf l1) ι1 w1).ι k = (cx Z' st.h ι1 w1).ι k := fun k hk => ⟨hk, rfl⟩
      have hgv : V = kept.map ι1 := (RAs_rows (r1.mem.ent 99 _ hgh).2).1
      refine ⟨v, g1, v, ι1, rfl, RA_in (C := cx Z' st.h ι1 w1) (C' := cx Z (heapOf l1) ι1 w1) keeps hd _ _ hiR (hR _ _ g2), ⟨fun k e hk => ?_, fun k b hk hkb => ?_, fun k k' b hk hk' => r1.mem.apart k k' b (hd1 k hk) (hd1 k' hk'), fun k hk => ?_, hg.1⟩⟩
      · exact EntOk_in (C := cx Z' st.h ι1 w1) (C' := cx Z (heapOf l1) ι1 w1) rfl keeps hd (closedL_of hc1 hk) (r1.mem.ent k e (allE_of hall hk))
      · have hw := r1.mem.own k b (hd1 k hk) hkb
        refine ⟨fun hz => hw.1 (hZE.1 b hz), hw.2.2, ?_⟩
        by_cases hlt : b < w.heap.size
        · left
          by_cases hL : Lent (heapOf l0) ι b
          · exact hL
          · exact absurd (hg.2 b ⟨hlt, hL⟩) hw.2.1
        · right; omega
      · have : kept.map ι = kept.map ι1 := hgv
        exact (List.map_inj_left.1 this k hk).symm
    rcases he with rfl | rfl
    · exact goal
    · exact goal
end Go.AL
/- AL, part 46: calls of functions that are lent what is the frame's own. -/
namespace Go.AL
set_option linter.unusedVariables false
set_option linter.unusedSimpArgs false

/-- Keys to keys, by a list. -/
def tr : List (Nat × Nat) → Nat → Nat
  | [], k => k
  | (a, b) :: l, k => bif Nat.beq k a then b else tr l k
/-- Which of the callee's keys stands under the caller's key j. -/
def lkK (ρ : Nat → Nat) : List (Nat × Ent) → Nat → Option Nat
  | [], _ => none
  | (k, _) :: l, j => bif Nat.beq j (ρ k) then some k else lkK ρ l j
def gone (ρ : Nat → Nat) (l : List (Nat × Ent)) (j : Nat) : Bool := l.any fun x => Nat.beq j (ρ x.1)
def lostP (ρ : Nat → Nat) (l : List (Nat × Ent)) (kept : List Nat) (j : Nat) : Bool := l.any fun x => Nat.beq j (ρ x.1) && !(kept.any fun k => Nat.beq k x.1)
def callH (ρ : Nat → Nat) (l0 l1 : List (Nat × Ent)) (kept : List Nat) (h : Heap) : Heap := fun j => match lkK ρ l1 j with
  | some k => (heapOf l1 k).map (rnE ρ)
  | none => bif gone ρ l0 j then none else (h j).map (unPE (lostP ρ l0 kept))
def callS (ρ : Nat → Nat) (l0 : List (Nat × Ent)) (kept : List Nat) (s : Slots) : Slots := fun i => unP (lostP ρ l0 kept) (s i)
def pairE (ρ : Nat → Nat) (l : List (Nat × Ent)) : List (Nat × Ent) := l.map fun x => (ρ x.1, rnE ρ x.2)
/-- Different keys are different keys of the caller. -/
def injB (ρ : Nat → Nat) (ks : List Nat) : Bool := ks.all fun k => ks.all fun k' => !(Nat.beq (ρ k) (ρ k')) || Nat.beq k k'
def keysL (l : List (Nat × Ent)) : List Nat := l.map (·.1)
/-- What is new has a key of its own. -/
def freshL (ρ : Nat → Nat) (h : Heap) (l0 : List (Nat × Ent)) : List (Nat × Ent) → Bool
  | [] => true
  | (k, _) :: l => (keyOf l0 k || (h (ρ k)).isNone) && freshL ρ h l0 l

theorem lkK_some {ρ : Nat → Nat} : ∀ {l : List (Nat × Ent)} {j k : Nat}, lkK ρ l j = some k → j = ρ k ∧ dom (heapOf l) k ∧ k ∈ keysL l
  | [], j, k, h => by simp [lkK] at h
  | (a, e) :: l, j, k, h => by
    simp only [lkK] at h
    cases hb : Nat.beq j (ρ a) with
    | true =>
      rw [hb] at h
      cases h
      exact ⟨Nat.eq_of_beq_eq_true hb, by simp [dom, heapOf, hset_same], by simp [keysL]⟩
    | false =>
      rw [hb] at h
      obtain ⟨h1, h2, h3⟩ := lkK_some (l := l) h
      refine ⟨h1, ?_, by simp [keysL] at h3 ⊢; exact .inr h3⟩
      by_cases hka : k = a
      · subst hka; simp [dom, heapOf, hset_same]
      · simp only [dom, heapOf]; rw [hset_ne _ _ hka]; exact h2
theorem lkK_none {ρ : Nat → Nat} : ∀ {l : List (Nat × Ent)} {j : Nat}, lkK ρ l j = none → ∀ k ∈ keysL l, j ≠ ρ k
  | [], j, h => by simp [keysL]
  | (a, e) :: l, j, h => by
    simp only [lkK] at h
    cases hb : Nat.beq j (ρ a) with
    | true => rw [hb] at h; cases h
    | false =>
      rw [hb] at h
      intro k hk
      simp only [keysL, List.map_cons, List.mem_cons] at hk
      rcases hk with rfl | hk
      · intro e; rw [e] at hb; simp at hb
      · exact lkK_none (l := l) h k hk
theorem dom_keysL {l : List (Nat × Ent)} {k : Nat} (h : dom (heapOf l) k) : k ∈ keysL l := by
  obtain ⟨e, he⟩ := Option.isSome_iff_exists.1 h
  exact List.mem_map.2 ⟨_, heapOf_mem he, rfl⟩
theorem keysL_dom {l : List (Nat × Ent)} {k : Nat} (h : k ∈ keysL l) : dom (heapOf l) k := by
  rw [← keyOf_dom]
  obtain ⟨x, hx, rfl⟩ := List.mem_map.1 h
  exact List.any_eq_true.2 ⟨x, hx, by simp⟩
theorem gone_iff {ρ : Nat → Nat} {l : List (Nat × Ent)} {j : Nat} : gone ρ l j = true ↔ ∃ k ∈ keysL l, j = ρ k := by
  unfold gone
  rw [List.any_eq_true]
  constructor
  · rintro ⟨x, hx, hb⟩
    exact ⟨x.1, List.mem_map.2 ⟨x, hx, rfl⟩, Nat.eq_of_beq_eq_true hb⟩
  · rintro ⟨k, hk, rfl⟩
    obtain ⟨x, hx, rfl⟩ := List.mem_map.1 hk
    exact ⟨x, hx, by simp⟩
theorem lost_iff {ρ : Nat → Nat} {l : List (Nat × Ent)} {kept : List Nat} {j : Nat} (hp : lostP ρ l kept j = false) {k : Nat} (hk : k ∈ keysL l) (hj : j = ρ k) : k ∈ kept := by
  unfold lostP at hp
  rw [List.any_eq_false] at hp
  obtain ⟨x, hx, rfl⟩ := List.mem_map.1 hk
  have := hp x hx
  subst hj
  simp only [Nat.beq_refl, Bool.true_and, Bool.not_eq_true', Bool.not_eq_true, Bool.not_eq_false', Bool.not_eq_false] at this
  obtain ⟨k, hk, hb⟩ := List.any_eq_true.1 this
  rw [← Nat.eq_of_beq_eq_true hb]; exact hk
theorem freshL_mem {ρ : Nat → Nat} {h : Heap} {l0 : List (Nat × Ent)} : ∀ {l : List (Nat × Ent)} {k : Nat}, freshL ρ h l0 l = true → k ∈ keysL l → dom (heapOf l0) k ∨ h (ρ k) = none
  | (a, e) :: l, k, hf, hk => by
    simp only [freshL, Bool.and_eq_true, Bool.or_eq_true] at hf
    simp only [keysL, List.map_cons, List.mem_cons] at hk
    rcases hk with rfl | hk
    · rcases hf.1 with h1 | h1
      · exact .inl (keyOf_dom.1 h1)
      · exact .inr (by simpa using h1)
    · exact freshL_mem hf.2 hk
theorem injB_of {ρ : Nat → Nat} {ks : List Nat} (h : injB ρ ks = true) {k k' : Nat} (hk : k ∈ ks) (hk' : k' ∈ ks) (he : ρ k = ρ k') : k = k' := by
  have := List.all_eq_true.1 (List.all_eq_true.1 h k hk) k' hk'
  rw [he] at this
  simp only [Nat.beq_refl, Bool.not_true, Bool.false_or] at this
  exact Nat.eq_of_beq_eq_true this
theorem pairE_mem {ρ : Nat → Nat} {h : Heap} {l : List (Nat × Ent)} (ha : allE h (pairE ρ l)) {k : Nat} {e : Ent} (hk : heapOf l k = some e) : h (ρ k) = some (rnE ρ e) :=
  allE_mem ha (List.mem_map.2 ⟨_, heapOf_mem hk, rfl⟩)

/-- The frame behind such a call. -/
theorem rel_callM {Z K : Nat → Prop} {N : Nat} {J : World → Prop} {s : Slots} {h : Heap} {ι : Nat → Value} {a : Act} {w w' : World} (r : Rel Z K N J s h ι a w) {l0 l1 : List (Nat × Ent)} {kept : List Nat} {ρ : Nat → Nat} (hc0 : closedL l0 = true) (hc1 : closedL l1 = true)
    (hkp : (kept.all fun k => keyOf l0 k && keyOf l1 k) = true) (hinj : injB ρ (keysL l0 ++ keysL l1) = true) (hent : allE h (pairE ρ l0)) (hfr : freshL ρ h l0 l1 = true) {ι' : Nat → Value}
    (g : Gave (fun b => (cx Z h ι w).M b ∧ ¬ Lent (heapOf l0) (fun k => ι (ρ k)) b) (heapOf l0) (fun k => ι (ρ k)) w (heapOf l1) kept ι' w') :
    ∃ ι2, Rel Z K N J (callS ρ l0 kept s) (callH ρ l0 l1 kept h) ι2 a w' ∧ ∀ R v, inH (heapOf l1) R = true → RA (cx (fun b => (cx Z h ι w).M b ∧ ¬ Lent (heapOf l0) (fun k => ι (ρ k)) b) (heapOf l1) ι' w') R v → RA (cx Z (callH ρ l0 l1 kept h) ι2 w') (rnA ρ R) v := by
  obtain ⟨Z0, hZ0⟩ : ∃ Z0, (fun b => (cx Z h ι w).M b ∧ ¬ Lent (heapOf l0) (fun k => ι (ρ k)) b) = Z0 := ⟨_, rfl⟩
  rw [hZ0] at g ⊢
  have hZ0d : ∀ b, Z0 b ↔ ((cx Z h ι w).M b ∧ ¬ Lent (heapOf l0) (fun k => ι (ρ k)) b) := fun b => by rw [← hZ0]
  let h' := callH ρ l0 l1 kept h
  let ι2 : Nat → Value := fun j => match lkK ρ l1 j with | some k => ι' k | none => ι j
  have hdl : ∀ k, dom (heapOf l0) k → dom h (ρ k) := fun k hk => by
    obtain ⟨e, he⟩ := Option.isSome_iff_exists.1 hk
    show (h (ρ k)).isSome = true
    rw [pairE_mem hent he]; rfl
  have hlent : ∀ b, Lent (heapOf l0) (fun k => ι (ρ k)) b → (cx Z h ι w).M b ∧ ¬ Z b ∧ ¬ K b ∧ b < w.heap.size := fun b ⟨k, hk, hb⟩ => by
    have := r.mem.own (ρ k) b (hdl k hk) hb
    exact ⟨.inr ⟨ρ k, hdl k hk, hb⟩, this.1, this.2.1, this.2.2⟩
  -- the caller's keys behind the call
  have hcase : ∀ j, dom h' j → (∃ k, lkK ρ l1 j = some k ∧ j = ρ k ∧ dom (heapOf l1) k ∧ ι2 j = ι' k) ∨ (lkK ρ l1 j = none ∧ gone ρ l0 j = false ∧ dom h j ∧ ι2 j = ι j) := by
    intro j hj
    have hj : (callH ρ l0 l1 kept h j).isSome = true := hj
    unfold callH at hj
    cases hq : lkK ρ l1 j with
    | some k =>
      left
      obtain ⟨h1, h2, _⟩ := lkK_some hq
      exact ⟨k, rfl, h1, h2, by show (match lkK ρ l1 j with | some k => ι' k | none => ι j) = _; rw [hq]⟩
    | none =>
      right
      rw [hq] at hj
      simp only at hj
      cases hg : gone ρ l0 j with
      | true => rw [hg] at hj; simp at hj
      | false =>
        rw [hg] at hj
        refine ⟨rfl, rfl, ?_, by show (match lkK ρ l1 j with | some k => ι' k | none => ι j) = _; rw [hq]⟩
        show (h j).isSome = true
        simpa using hj
  have hold : ∀ j b, gone ρ l0 j = false → dom h j → blk (ι j) = some b → ¬ Lent (heapOf l0) (fun k => ι (ρ k)) b := fun j b hg hj hb ⟨k, hk, hkb⟩ => by
    have := r.mem.apart j (ρ k) b hj (hdl k hk) hb hkb
    have : gone ρ l0 j = true := gone_iff.2 ⟨k, dom_keysL hk, this⟩
    rw [hg] at this; cases this
  have hkept : ∀ k, k ∈ kept → dom (heapOf l0) k ∧ dom (heapOf l1) k := fun k hk => by
    have := List.all_eq_true.1 hkp k hk
    rw [Bool.and_eq_true] at this
    exact ⟨keyOf_dom.1 this.1, keyOf_dom.1 this.2⟩
  have hlk : ∀ k, dom (heapOf l1) k → lkK ρ l1 (ρ k) = some k := fun k hk => by
    cases hq : lkK ρ l1 (ρ k) with
    | none => exact absurd rfl (lkK_none hq k (dom_keysL hk))
    | some k' =>
      obtain ⟨h1, h2, h3⟩ := lkK_some hq
      have := injB_of hinj (k := k) (k' := k') (List.mem_append_right _ (dom_keysL hk)) (List.mem_append_right _ h3) h1
      rw [this]
  have hd1 : ∀ k, ((heapOf l1) k).isSome = true → (cx Z h' ι2 w').dom (ρ k) ∧ (cx Z h' ι2 w').ι (ρ k) = ι' k := fun k hk => by
    have hq := hlk k hk
    refine ⟨?_, by show (match lkK ρ l1 (ρ k) with | some k => ι' k | none => ι (ρ k)) = _; rw [hq]⟩
    show (callH ρ l0 l1 kept h (ρ k)).isSome = true
    unfold callH
    rw [hq]
    simpa using hk
  -- what may turn
  have hM : ∀ b, (cx Z h' ι2 w').M b → Z b ∨ (∃ k, dom (heapOf l1) k ∧ blk (ι' k) = some b) ∨ (∃ j, gone ρ l0 j = false ∧ dom h j ∧ blk (ι j) = some b) := fun b hb => by
    rcases hb with hz | ⟨j, hj, hjb⟩
    · exact .inl hz
    · rcases hcase j hj with ⟨k, _, rfl, h2, h3⟩ | ⟨_, h2, h3, h4⟩
      · rw [show (cx Z h' ι2 w').ι (ρ k) = ι' k from h3] at hjb
        exact .inr (.inl ⟨k, h2, hjb⟩)
      · rw [show (cx Z h' ι2 w').ι j = ι j from h4] at hjb
        exact .inr (.inr ⟨j, h2, h3, hjb⟩)
  have keeps1 : Keeps w' w' (cx Z0 (heapOf l1) ι' w').M (cx Z h' ι2 w').M := ⟨fun _ _ _ _ hh => hh, fun _ _ hh => hh, fun b _ hm hm' => by
    rcases hM b hm' with hz | ⟨k, hk, hkb⟩ | ⟨j, hg, hj, hjb⟩
    · exact hm (.inl ((hZ0d b).2 ⟨.inl hz, fun hL => (hlent b hL).2.1 hz⟩))
    · exact hm (.inr ⟨k, hk, hkb⟩)
    · exact hm (.inl ((hZ0d b).2 ⟨.inr ⟨j, hj, hjb⟩, hold j b hg hj hjb⟩))⟩
  have hst := g.step
  have hblock : ∀ b, b < w.heap.size → ¬ (cx Z h ι w).M b → w'.heap[b]? = w.heap[b]? := fun b hb hm => hst.block b ⟨hb, fun hL => hm (hlent b hL).1⟩
  have keeps2 : Keeps w w' (cx Z h ι w).M (cx Z h' ι2 w').M := ⟨fun b o v hm hc => by
      rw [World.cell?_of_block (w := w) (a := ⟨b, o, none⟩) (hblock b (isCells.of_cell hc).lt hm)]; exact hc,
    fun b hm hi => hi.at (hblock b hi.lt hm), fun b hi hm hm' => by
      rcases hM b hm' with hz | ⟨k, hk, hkb⟩ | ⟨j, hg, hj, hjb⟩
      · exact hm (.inl hz)
      · rcases (g.own k b hk hkb).2.2 with hL | hL
        · exact hm (hlent b hL).1
        · have := hi.lt; have hL' : w.heap.size ≤ b := hL; have h3 : b < w.heap.size := this; omega
      · exact hm (.inr ⟨j, hj, hjb⟩)⟩
  have hd2 : ∀ j, lostP ρ l0 kept j = false → (cx Z h ι w).dom j → (cx Z h' ι2 w').dom j ∧ (cx Z h' ι2 w').ι j = (cx Z h ι w).ι j := fun j hp hj => by
    cases hg : gone ρ l0 j with
    | true =>
      obtain ⟨k, hk, rfl⟩ := gone_iff.1 hg
      have hkk := lost_iff hp hk rfl
      obtain ⟨_, hk1⟩ := hkept k hkk
      obtain ⟨g1, g2⟩ := hd1 k hk1
      exact ⟨g1, by rw [g2]; exact g.kept k hkk⟩
    | false =>
      have hq : lkK ρ l1 j = none := by
        cases hq : lkK ρ l1 j with
        | none => rfl
        | some k =>
          obtain ⟨rfl, h2, h3⟩ := lkK_some hq
          rcases freshL_mem hfr h3 with hk0 | hn
          · have : gone ρ l0 (ρ k) = true := gone_iff.2 ⟨k, dom_keysL hk0, rfl⟩
            rw [hg] at this; cases this
          · have hj' : (h (ρ k)).isSome = true := hj
            rw [hn] at hj'; cases hj'
      refine ⟨?_, by show (match lkK ρ l1 j with | some k => ι' k | none => ι j) = _; rw [hq]⟩
      show (callH ρ l0 l1 kept h j).isSome = true
      unfold callH
      rw [hq, hg]
      have hj' : (h j).isSome = true := hj
      simpa using hj'
  have hcells : ∀ b, Lent (heapOf l0) (fun k => ι (ρ k)) b → isCells w b := fun b ⟨k, hk, hb⟩ => r.mem.cells (hdl k hk) hb
  refine ⟨ι2, ⟨⟨fun j e hj => ?_, fun j b hj hjb => ?_, fun j j' b hj hj' h1 h2 => ?_, fun b hz => Nat.lt_of_lt_of_le (r.mem.Zlt b hz) hst.size, fun b hz => Nat.lt_of_lt_of_le (r.mem.Klt b hz) hst.size, ?_, r.mem.Jc⟩, r.size, fun i => ?_, ?_⟩, fun R v hR hv => ?_⟩
  · -- the entries
    have hjd : dom h' j := by show (h' j).isSome = true; rw [show h' j = some e from hj]; rfl
    rcases hcase j hjd with ⟨k, hq, rfl, h2, h3⟩ | ⟨hq, h2, h3, h4⟩
    · have hj' : (heapOf l1 k).map (rnE ρ) = some e := by
        have : callH ρ l0 l1 kept h (ρ k) = some e := hj
        unfold callH at this
        rw [hq] at this
        exact this
      obtain ⟨e1, he1, rfl⟩ := Option.map_eq_some_iff.1 hj'
      show EntOk (cx Z h' ι2 w') (rnE ρ e1) (ι2 (ρ k))
      rw [h3]
      exact EntOk_rn (C := cx Z0 (heapOf l1) ι' w') (C' := cx Z h' ι2 w') (H := heapOf l1) rfl keeps1 (fun k hk => hd1 k hk) (closedL_of hc1 he1) (g.ent k e1 he1)
    · have hj' : (h j).map (unPE (lostP ρ l0 kept)) = some e := by
        have : callH ρ l0 l1 kept h j = some e := hj
        unfold callH at this
        rw [hq, h2] at this
        exact this
      obtain ⟨e0, he0, rfl⟩ := Option.map_eq_some_iff.1 hj'
      show EntOk (cx Z h' ι2 w') (unPE _ e0) (ι2 j)
      rw [h4]
      exact EntOk_unP (C := cx Z h ι w) keeps2 hd2 (fun b cs t f hb hc => by
        have hc' : w.heap[b]? = some (.cells cs t f) := hc
        show w'.heap[b]? = _
        rw [hst.block b ⟨(Array.getElem?_eq_some_iff.1 hc').1, hold j b h2 h3 hb⟩]; exact hc') (r.mem.ent j e0 he0)
  · rcases hcase j hj with ⟨k, _, rfl, h2, h3⟩ | ⟨_, h2, h3, h4⟩
    · rw [h3] at hjb
      obtain ⟨q1, q2, q3⟩ := g.own k b h2 hjb
      rcases q3 with hL | hL
      · obtain ⟨_, e1, e2, _⟩ := hlent b hL
        exact ⟨e1, e2, q2⟩
      · exact ⟨fun hz => by have := r.mem.Zlt b hz; omega, fun hz => by have := r.mem.Klt b hz; omega, q2⟩
    · rw [h4] at hjb
      have := r.mem.own j b h3 hjb
      exact ⟨this.1, this.2.1, Nat.lt_of_lt_of_le this.2.2 hst.size⟩
  · have mix : ∀ k j, dom (heapOf l1) k → blk (ι' k) = some b → gone ρ l0 j = false → dom h j → blk (ι j) = some b → False := fun k j hk hkb hg hj hjb => by
      rcases (g.own k b hk hkb).2.2 with hL | hL
      · exact hold j b hg hj hjb hL
      · have := (r.mem.own j b hj hjb).2.2; omega
    rcases hcase j hj with ⟨k, _, rfl, g2, g3⟩ | ⟨_, g2, g3, g4⟩ <;> rcases hcase j' hj' with ⟨k', _, rfl, g2', g3'⟩ | ⟨_, g2', g3', g4'⟩
    · rw [g3] at h1
      rw [g3'] at h2
      rw [g.apart k k' b g2 g2' h1 h2]
    · rw [g3] at h1
      rw [g4'] at h2
      exact (mix k j' g2 h1 g2' g3' h2).elim
    · rw [g4] at h1
      rw [g3'] at h2
      exact (mix k' j g2' h2 g2 g3 h1).elim
    · rw [g4] at h1
      rw [g4'] at h2
      exact r.mem.apart j j' b g3 g3' h1 h2
  · exact r.mem.Jc w w' r.mem.Jw ⟨hst.os, hst.tape, hst.output, hst.size, fun b hz => hst.block b ⟨r.mem.Klt b hz, fun hL => (hlent b hL).2.2.1 hz⟩⟩
  · exact RA_unP (C := cx Z h ι w) (C' := cx Z h' ι2 w') keeps2 hd2 _ _ (r.slot i)
  · obtain ⟨rs, p1, p2, p3⟩ := r.ds
    refine ⟨rs, p1, p2, fun x hx => ?_⟩
    obtain ⟨p4, p5⟩ := p3 x hx
    refine ⟨?_, p5⟩
    rw [hst.block x ⟨(Array.getElem?_eq_some_iff.1 p4).1, fun hL => ?_⟩]
    · exact p4
    · obtain ⟨cs, t, f, hc⟩ := hcells x hL
      rw [p4] at hc; cases hc
  · exact RA_rn (C := cx Z0 (heapOf l1) ι' w') (C' := cx Z h' ι2 w') (H := heapOf l1) keeps1 (fun k hk => hd1 k hk) _ _ hR hv

section
variable {E : Env} {ops : List Oper} {Q : Exit → St → Prop} {i : Nat} {J : Jt} {s : Slots} {h : Heap} {o : Oper}
/-- A call that is lent what is the frame's own. -/
theorem OW_callM' (hE : E.Good) (ρ : Nat → Nat) {f : Nat} {l0 : List (Nat × Ent)} {L : List AV} {R : AV} {l1 : List (Nat × Ent)} {kept : List Nat} (hc : DoesM E.P f l0 L R l1 kept) {o : Oper} {fo : Operand} {args : Array Operand} {ts : Array TypeId} (ho : ops[i]? = some o) (hop : o.op = .call ⟨.value fo, args, ts⟩) (hw : awant ops o s = some true)
    (hL : callArgs s fo args.toList = some (f, rnAs ρ L)) (hinj : injB ρ (keysL l0 ++ keysL l1) = true) (hent : allE h (pairE ρ l0)) (hfr : freshL ρ h l0 l1 = true)
    {s' : Slots} (hs : putS E.N (callS ρ l0 kept s) o.dst (rnA ρ R) = some s') (hk' : OW E ops (i + 1) Q ⟨J, s', callH ρ l0 l1 kept h⟩) : OW E ops i Q ⟨J, s, h⟩ := fun ι a w r => by
  have hd : ops.drop i = o :: ops.drop (i + 1) := by
    obtain ⟨hlt, rfl⟩ := List.getElem?_eq_some_iff.1 ho
    exact List.drop_eq_getElem_cons hlt
  rw [hd]
  simp only [wpListIn]
  rw [if_pos (awant_ok r hw)]
  refine ⟨fun f _ => hE.wide.fn f, ?_⟩
  rw [Oper.semAt_plain E.F _ _ (by rw [hop]; intro c hc; cases hc)]
  obtain ⟨Z, K, Y, hZE, r⟩ := r
  obtain ⟨vf, vc, he, hv⟩ := call_args hL r.slot
  obtain ⟨dst, op, ty, pos, af, gd⟩ := o
  simp only at hop hs
  subst hop
  obtain ⟨⟨hcal, hc0, hc1, hia, hiR, hkp⟩, hcc⟩ := hc
  rw [exec_call he hcal]
  simp only [Oper.uponIn]
  refine ⟨fun hx => (by rw [hE.wide.depth] at hx; cases hx), ?_⟩
  have hdl : ∀ k, dom (heapOf l0) k → dom h (ρ k) := fun k hk => by
    obtain ⟨e, he⟩ := Option.isSome_iff_exists.1 hk
    show (h (ρ k)).isSome = true
    rw [pairE_mem hent he]; rfl
  have keeps : Keeps w w (cx Z h ι w).M (cx (fun b => (cx Z h ι w).M b ∧ ¬ Lent (heapOf l0) (fun k => ι (ρ k)) b) (heapOf l0) (fun k => ι (ρ k)) w).M := ⟨fun _ _ _ _ hh => hh, fun _ _ hh => hh, fun b _ hm hm' => by
    rcases hm' with hz | ⟨k, hk, hkb⟩
    · exact hm hz.1
    · exact hm (.inr ⟨ρ k, hdl k hk, hkb⟩)⟩
  have hd0 : ∀ k, ((heapOf l0) k).isSome = true → (cx (fun b => (cx Z h ι w).M b ∧ ¬ Lent (heapOf l0) (fun k => ι (ρ k)) b) (heapOf l0) (fun k => ι (ρ k)) w).dom k ∧ (cx (fun b => (cx Z h ι w).M b ∧ ¬ Lent (heapOf l0) (fun k => ι (ρ k)) b) (heapOf l0) (fun k => ι (ρ k)) w).ι k = (cx Z h ι w).ι (ρ k) := fun k hk => ⟨hk, rfl⟩
  have hown : OwnIn (fun b => (cx Z h ι w).M b ∧ ¬ Lent (heapOf l0) (fun k => ι (ρ k)) b) (heapOf l0) (fun k => ι (ρ k)) w := by
    refine ⟨fun k e hk => ?_, fun k b hk hb => ⟨fun hz => hz.2 ⟨k, hk, hb⟩, (r.mem.own (ρ k) b (hdl k hk) hb).2.2⟩, fun k k' b hk hk' h1 h2 => ?_⟩
    · exact EntOk_nr (C := cx Z h ι w) (C' := cx (fun b => (cx Z h ι w).M b ∧ ¬ Lent (heapOf l0) (fun k => ι (ρ k)) b) (heapOf l0) (fun k => ι (ρ k)) w) (H := heapOf l0) rfl keeps hd0 (closedL_of hc0 hk) (r.mem.ent (ρ k) _ (pairE_mem hent hk))
    · exact injB_of hinj (List.mem_append_left _ (dom_keysL hk)) (List.mem_append_left _ (dom_keysL hk')) (r.mem.apart _ _ b (hdl k hk) (hdl k' hk') h1 h2)
  have hv' := RAs_nr (C := cx Z h ι w) (H := heapOf l0) keeps hd0 _ _ hia hv
  have hcall := hcc (E.n - 1) _ w _ _ (fun b hb => r.mem.Mlt hb.1) hown hv'
  simp only [Array.toArray_toList] at hcall
  refine (hE.wide.calls hcall).mono fun x w' ⟨v, ι', he', hRv, hg⟩ => ?_
  subst he'
  show wpListIn _ _ _ _ _ _ _ _
  obtain ⟨ι2, r0, hres⟩ := rel_callM r hc0 hc1 hkp hinj hent hfr hg
  have hRv' := hres R v hiR hRv
  unfold putS at hs
  cases hdst : dst with
  | none =>
    simp only [hdst] at hs
    cases hs
    exact hk' _ _ w' ⟨Z, K, Y, hZE, Rel.put_none r0 (Grew.refl _) _⟩
  | some d =>
    simp only [hdst] at hs
    cases hb : Nat.ble (d + 1) E.N with
    | false => rw [hb] at hs; cases hs
    | true =>
      rw [hb] at hs
      cases hs
      exact hk' _ _ w' ⟨Z, K, Y, hZE, Rel.put r0 (Grew.refl _) hb hRv'⟩
end
end Go.AL
/- AL, part 37: views into rows; functions that write the row that they are handed. -/
namespace Go.AL
set_option linter.unusedVariables false
set_option linter.unusedSimpArgs false
section
variable {E : Env} {ops : List Oper} {Q : Exit → St → Prop} {i : Nat} {J : Jt} {s : Slots} {h : Heap} {o : Oper}

/-- 'xs[l:]' of a row of the frame's own. -/
theorem loc_viewRow (hE : E.Good) {key : Nat} {t : TypeId} {xo lo : Operand} (hop : o.op = .slice t xo (some lo) none none) {e : TypeId} {z1 z2 : Nat} {z3 : List Value} (ht : E.T t = some ⟨.slice e, z1, z2, z3⟩) {k : TK} {sz z5 : Nat} {z6 : List Value} (hte : E.T e = some ⟨k, sz, z5, z6⟩) (hpos : Nat.ble 1 sz = true)
    {xs : List (List D)} (hx : ev s xo = .row key) (hkey : h key = some (.row e sz xs)) {ik : IntKind} {l : Nat} (hl0 : ev s lo = .d (.lit (.int ik (l : Int)))) (hlt : l < xs.length) : Loc E ops J h o s (.view key (l * sz) (xs.length - l)) := by
  refine ⟨(by rw [hop]; intro c hc; cases hc), fun Z K Y ι a w m hl => ?_⟩
  obtain ⟨dst, op, ty, pos, af, gd⟩ := o
  simp only at hop
  subst hop
  have h1 := hl xo (by simp [Op.operands])
  have h2 := hl lo (by simp [Op.operands])
  rw [hx] at h1
  rw [hl0] at h2
  obtain ⟨e2, _⟩ := RA_lit.1 h2
  simp only [RA] at h1
  obtain ⟨hkd, e1⟩ := h1
  obtain ⟨vs, f1, f2, f3, f4⟩ := m.ent key _ hkey
  rcases f1 with ⟨_, _, h0, _⟩ | ⟨g, cap, cur, e0, hc0, hg, hnc, hcm, hcs, htk⟩
  · omega
  have hb : blk (ι key) = some g := by rw [e0]; simp [blk]; omega
  have hu := (hE.ok.T t _ ht).2
  simp only [TK.fits] at hu
  have hsz := run_size hE.ok.T hte w
  have e1' : a.eval xo = .slice (some ⟨g, 0, none⟩) xs.length cap := e1.trans e0
  have hb0 : (Instr.sliceBounds true xs.length cap (some (.int ik (l : Int))) none none).run E.P w = .ok (l, xs.length, cap) w := by
    have : l ≤ xs.length := by omega
    simp [Instr.sliceBounds, Instr.sliceBound, asIntOf, this]
  have hne : cap ≠ l := by omega
  refine ⟨.slice (some ⟨g, l * sz, none⟩) (xs.length - l) (cap - l), w, ?_, Grew.refl w, ?_⟩
  · simp [execOp, Instr.sliceAt, Instr.slice, run_underlying hu, e1', e2, hb0, hsz, hne]
    simp [Addr.add]
    exact fun h => h.symm
  · simp only [RA]
    refine ⟨hkd, g, cap - l, hb, rfl, fun h0 => ?_⟩
    have hp := Nat.le_of_ble_eq_true hpos
    have hl0 : l = 0 := by rcases Nat.mul_eq_zero.1 h0 with h | h <;> omega
    have e0' : ι key = .slice (some ⟨g, 0, none⟩) xs.length cap := e0
    show cap - l = capOf (ι key)
    rw [e0']
    show cap - l = cap
    omega
theorem loc_lenView (hE : E.Good) {key off m : Nat} {xo : Operand} {t : TypeId} (hop : o.op = .call ⟨.builtin .len, #[xo], #[t]⟩) {e : TypeId} {z1 z2 : Nat} {z3 : List Value} (ht : E.T t = some ⟨.slice e, z1, z2, z3⟩) (hx : ev s xo = .view key off m) (hm : m ≤ 140737488355328) : Loc E ops J h o s (.d (.lit (.int .i64 (m : Int)))) := by
  refine ⟨(by rw [hop]; intro c hc; cases hc), fun Z K Y ι a w mm hl => ?_⟩
  obtain ⟨dst, op, ty, pos, af, gd⟩ := o
  simp only at hop
  subst hop
  have h1 := hl xo (by simp [Op.operands, Call.operands])
  rw [hx] at h1
  simp only [RA] at h1
  obtain ⟨hkd, b, cap, hb, e1, _⟩ := h1
  have hu := (hE.ok.T t _ ht).2
  simp only [TK.fits] at hu
  refine ⟨.int .i64 m, w, ?_, Grew.refl w, RA_lit_mk ?_⟩
  · simp [execOp, resolve, invoke, builtin, Builtin.len_, e1, run_underlying hu, goInt]
  · simp only [okLit]
    have : IntKind.i64.min = -9223372036854775808 := rfl
    have : IntKind.i64.max = 9223372036854775807 := rfl
    omega
theorem loc_idxView (hE : E.Good) {key off m : Nat} {t : TypeId} {xo io : Operand} (hop : o.op = .indexAddr t xo io)
    {e : TypeId} {z1 z2 : Nat} {z3 : List Value} (ht : E.T t = some ⟨.slice e, z1, z2, z3⟩) {k : TK} {sz z5 : Nat} {z6 : List Value} (hte : E.T e = some ⟨k, sz, z5, z6⟩)
    (hx : ev s xo = .view key off m) {ik : IntKind} {j : Nat} (hi : ev s io = .d (.lit (.int ik j))) (hj : j < m) : Loc E ops J h o s (.ptr key (off + j * sz)) := by
  refine ⟨(by rw [hop]; intro c hc; cases hc), fun Z K Y ι a w mm hl => ?_⟩
  obtain ⟨dst, op, ty, pos, af, gd⟩ := o
  simp only at hop
  subst hop
  have h1 := hl xo (by simp [Op.operands])
  have h2 := hl io (by simp [Op.operands])
  rw [hx] at h1
  rw [hi] at h2
  obtain ⟨e2, _⟩ := RA_lit.1 h2
  simp only [RA] at h1
  obtain ⟨hkd, b, cap, hb, e1, _⟩ := h1
  have hu := (hE.ok.T t _ ht).2
  simp only [TK.fits] at hu
  have hsz := run_size hE.ok.T hte w
  refine ⟨.pointer (some ⟨b, off + j * sz, none⟩), w, ?_, Grew.refl w, ?_⟩
  · simp [execOp, Instr.indexAt, e1, e2, asIntOf, run_underlying hu, hj, hsz]
    simp [Addr.add]
  · simp only [RA]
    exact ⟨hkd, b, hb, rfl⟩
/-- Rows of numbers. -/
def intRow (ks : List Int) : List (List D) := ks.map fun k => [.lit (.int .i64 k)]
def intVals (ks : List Int) : List Value := ks.map fun k => .int .i64 k
def inI64 (ks : List Int) : Prop := ∀ k ∈ ks, IntKind.i64.min ≤ k ∧ k ≤ IntKind.i64.max
theorem intRow_len (ks : List Int) : (intRow ks).length = ks.length := by simp [intRow]
theorem intRow_one (ks : List Int) : ∀ x ∈ intRow ks, x.length = 1 := by
  intro x hx
  simp only [intRow, List.mem_map] at hx
  obtain ⟨k, _, rfl⟩ := hx
  rfl
theorem RDs_ints {w : World} {M : Nat → Prop} : ∀ {ks : List Int} {vs : List Value}, RDs w M (intRow ks).flatten vs ↔ (vs = intVals ks ∧ inI64 ks)
  | [], vs => by simp [intRow, intVals, RDs, inI64]
  | k :: ks, vs => by
    have ih := fun vs => RDs_ints (w := w) (M := M) (ks := ks) (vs := vs)
    simp only [intRow, List.map_cons, List.flatten_cons, List.cons_append, List.nil_append, RDs, RD, okLit] at ih ⊢
    constructor
    · rintro ⟨v, t, rfl, ⟨rfl, h1⟩, h2⟩
      obtain ⟨rfl, h3⟩ := (ih t).1 h2
      exact ⟨rfl, fun q hq => by rcases List.mem_cons.1 hq with rfl | hq; exact h1; exact h3 q hq⟩
    · rintro ⟨rfl, h⟩
      exact ⟨_, _, rfl, ⟨rfl, h k (by simp)⟩, (ih _).2 ⟨rfl, fun q hq => h q (by simp [hq])⟩⟩
/-- 'clear(xs[l:])' of a row of numbers. -/
theorem OW_clearInts' (hE : E.Good) {key l m : Nat} {xo : Operand} {t : TypeId} (ho : ops[i]? = some o) (hop : o.op = .call ⟨.builtin .clear, #[xo], #[t]⟩) (hw : awant ops o s = some true) (hdst : o.dst = none)
    {e : TypeId} {z1 z2 : Nat} {z3 : List Value} (ht : E.T t = some ⟨.slice e, z1, z2, z3⟩) {k : TK} {z5 : Nat} (hte : E.T e = some ⟨k, 1, z5, [.int .i64 0]⟩) (hx : ev s xo = .view key l m) {ks : List Int} (hkey : h key = some (.row e 1 (intRow ks))) (hm : ks.length = l + m) (hm0 : 0 < m)
    (hk : OW E ops (i + 1) Q ⟨J, s, hset h key (some (.row e 1 (intRow (ks.take l ++ List.replicate m 0))))⟩) : OW E ops i Q ⟨J, s, h⟩ := fun ι a w r => by
  have hd : ops.drop i = o :: ops.drop (i + 1) := by
    obtain ⟨hlt, rfl⟩ := List.getElem?_eq_some_iff.1 ho
    exact List.drop_eq_getElem_cons hlt
  rw [hd]
  simp only [wpListIn]
  rw [if_pos (awant_ok r hw)]
  refine ⟨fun f _ => hE.wide.fn f, ?_⟩
  rw [Oper.semAt_plain E.F _ _ (by rw [hop]; intro c hc; cases hc)]
  obtain ⟨dst, op, ty, pos, af, gd⟩ := o
  simp only at hop hdst
  subst hop hdst
  obtain ⟨Z, K, Y, hZE, r⟩ := r
  have h1 := RA_ev (C := cx Z h ι w) (s := s) (a := a) xo fun t _ => r.slot t
  rw [hx] at h1
  simp only [RA] at h1
  obtain ⟨hkd, b0, cap1, hb0, e1, _⟩ := h1
  obtain ⟨vs, f1, f2, f3, f4⟩ := r.mem.ent key _ hkey
  rw [RDs_ints] at f2
  obtain ⟨hvs, hrange⟩ := f2
  rw [intRow_len] at f1 f4
  rcases f1 with ⟨_, _, h0, _⟩ | ⟨g, cap, cur, e0, hc0, hg, hnc, hcm, hcs, htk⟩
  · omega
  have hg' : w.heap[g]? = some (.cells cur e (0, 0)) := hg
  have hb : blk (ι key) = some g := by rw [e0]; simp [blk]; omega
  have : b0 = g := by rw [hb] at hb0; injection hb0 with hb0; exact hb0.symm
  subst this
  have hu := (hE.ok.T t _ ht).2
  simp only [TK.fits] at hu
  obtain ⟨z, hz1, hz2⟩ := run_zero hE.ok.T hte w
  have hzc : z.cells = #[.int .i64 0] := by
    apply Array.ext'; rw [hz2]
  have hzs : (Builtin.zeroCells z.cells m).toList = List.replicate m (Value.int .i64 0) := by
    rw [hzc]
    simp [Builtin.zeroCells]
    apply List.ext_getElem?
    intro q
    simp [List.getElem?_map, List.getElem?_replicate]
    by_cases hq : q < m
    · simp [hq, Nat.mod_one]
    · simp [hq]
  have hst := run_storeCells_at (P := E.P) b0 l e (List.replicate m (Value.int .i64 0)) 0 cur w hg' (by simp; omega) (by intro v hv; rw [List.eq_of_mem_replicate hv]; rfl)
  obtain ⟨cur', hcur'⟩ : ∃ cur', cur' = (cur.toList.take l ++ List.replicate m (Value.int .i64 0) ++ cur.toList.drop (l + m)).toArray := ⟨_, rfl⟩
  have hrun : (execOp a.eval ⟨none, .call ⟨.builtin .clear, #[xo], #[t]⟩, ty, pos, af, gd⟩).run E.P w = .ok (.value (.tuple #[])) (w.setRow b0 cur') := by
    have hm' : m ≠ 0 := by omega
    obtain ⟨m, rfl⟩ : ∃ q, m = q + 1 := ⟨m - 1, by omega⟩
    simp only [execOp, resolve, invoke, builtin, Builtin.clear_]
    simp [e1, run_underlying hu, hz1, hzs]
    simp at hst
    rw [hst, hcur']
    simp [Nat.add_assoc]
  rw [hrun]
  show wpListIn _ _ _ _ _ _ _ _
  have hnew : (w.setRow b0 cur').heap[b0]? = some (.cells cur' e (0, 0)) := setRow_heap w b0 cur _ e _ hg'
  have hdom : ∀ k', dom h k' ↔ dom (hset h key (some (.row e 1 (intRow (ks.take l ++ List.replicate m 0))))) k' := by
    intro k'
    by_cases hjk : k' = key
    · subst hjk; simp [dom, hset_same]; rw [hkey]; rfl
    · simp only [dom, hset_ne h _ hjk]
  have kc : KeepsC (cx Z h ι w) (cx Z (hset h key (some (.row e 1 (intRow (ks.take l ++ List.replicate m 0))))) ι (w.setRow b0 cur')) := by
    refine ⟨⟨fun b o u hm hcc => ?_, fun b hm hi => hi.at (setRow_other w b0 b _ fun e => hm (e ▸ .inr ⟨key, hkd, hb⟩)), fun b _ hm hm' => ?_⟩, fun k' hk' => ⟨(hdom k').1 hk', rfl⟩⟩
    · have hne : b ≠ b0 := by intro e; subst e; exact hm (.inr ⟨key, hkd, hb⟩)
      show World.cell? _ _ = _
      rw [World.cell?_of_block (w := w) (a := ⟨b, o, none⟩) (setRow_other w b0 b _ hne)]; exact hcc
    · rcases hm' with hz | ⟨k', hk', hkb⟩
      · exact hm (.inl hz)
      · exact hm (.inr ⟨k', (hdom k').2 hk', hkb⟩)
  have hcl : cur.toList.length = cap := by simpa using hcs
  have hcs' : cur'.size = cap * 1 := by rw [hcur']; simp; omega
  have htl : cur.toList.take l = (intVals ks).take l := by
    rw [← hvs, ← htk, List.take_take, Nat.min_eq_left (by omega)]
  have hent : EntOk (cx Z (hset h key (some (.row e 1 (intRow (ks.take l ++ List.replicate m 0))))) ι (w.setRow b0 cur')) (.row e 1 (intRow (ks.take l ++ List.replicate m 0))) (ι key) := by
    have hlen : (intRow (ks.take l ++ List.replicate m 0)).length = ks.length := by rw [intRow_len]; simp; omega
    refine ⟨intVals (ks.take l ++ List.replicate m 0), .inr ⟨b0, cap, cur', by rw [hlen]; exact e0, hc0, hnew, by rw [hlen]; exact hnc, hcm, hcs', ?_⟩, RDs_ints.2 ⟨rfl, ?_⟩, intRow_one _, by rw [hlen]; exact f4⟩
    · rw [hlen, hcur', Nat.mul_one]
      show List.take ks.length (cur.toList.take l ++ List.replicate m (Value.int .i64 0) ++ cur.toList.drop (l + m)) = _
      have hl1 : (cur.toList.take l ++ List.replicate m (Value.int .i64 0)).length = ks.length := by simp; omega
      rw [List.take_append_of_le_length (by omega), List.take_of_length_le (by omega), htl]
      simp [intVals, List.map_take]
    · intro q hq
      rcases List.mem_append.1 hq with hq | hq
      · exact hrange q (List.mem_of_mem_take hq)
      · rw [List.eq_of_mem_replicate hq]
        have : IntKind.i64.min = -9223372036854775808 := rfl
        have : IntKind.i64.max = 9223372036854775807 := rfl
        omega
  obtain ⟨m', _⟩ := r.mem.turn hkd hb (setRow_step w b0 _) (by simp) hent
  exact hk ι _ _ ⟨Z, K, Y, hZE, Rel.put_none ⟨m', r.size, fun i => RA_keeps kc _ _ (r.slot i), r.ds.turn ⟨cur, e, _, hg'⟩ (setRow_step w b0 _)⟩ (Grew.refl _) _⟩
end

/-! ### Functions that write the row of numbers that they are handed, and give it back -/
def InI (P : Program) (f : Nat) (e : TypeId) (ks ks' : List Int) : Prop :=
  Callable P f ∧ ∀ n w v, inI64 ks → ks.length ≤ 140737488355328 → RowOk w v e 1 ks.length (intVals ks) → CallsIn Fence.wide n P f #[v] w fun x w' =>
    ∃ v', x = .returned v' ∧ RowOk w' v' e 1 ks'.length (intVals ks') ∧ inI64 ks' ∧ ks'.length ≤ 140737488355328 ∧ Step (fun b => b < w.heap.size ∧ some b ≠ blk v) w w' ∧ (∀ b, blk v' = some b → b < w'.heap.size ∧ (blk v = some b ∨ w.heap.size ≤ b))
def inJ (w : World) (v : Value) : Jt := fun K _ _ w' => Step (fun b => b < w.heap.size ∧ some b ≠ blk v) w w' ∧ ∀ b, (b < w.heap.size ∧ some b ≠ blk v) → K b
theorem mono_in (w : World) (v : Value) : Mono (inJ w v) :=
  ⟨fun K Y Z w1 w2 h1 h2 => ⟨⟨h2.os.trans h1.1.os, h2.tape.trans h1.1.tape, h2.output.trans h1.1.output, Nat.le_trans h1.1.size h2.size, fun b hb => (h2.block b (h1.2 b hb)).trans (h1.1.block b hb)⟩, h1.2⟩,
   fun K K2 Y Z Z2 w1 h1 h2 _ _ _ => ⟨h1.1, fun b hb => h2 b (h1.2 b hb)⟩⟩
def RetIn (T : Nat → Option TI) (fn : Func) (J : Jt) (e : TypeId) (ks' : List Int) : Exit → St → Prop := fun x st =>
  (x = .normal ∨ x = .ret) ∧ st.J = J ∧ ∃ k, aresults T st.h st.s fn.results.toList = some [.row k] ∧ st.h k = some (.row e 1 (intRow ks'))
theorem InI_of {P : Program} {T : Nat → Option TI} (hT : TOk P T) (hm : P.follows .mixedOrders = true) {f : Nat} {fn : Func} {c : Code} {e : TypeId} {ks ks' : List Int} (hf : P.funcs[f]? = some fn) (hb : fn.body = some c) (hn : (fn.name == "runtime.NumGoroutine") = false)
    {N : Nat} (hN : fn.ntmps = N) (hl : Nat.ble 1 N = true)
    (h : ∀ F n Z, (⟨P, T, F, n, Z, N⟩ : Env).Good → F = Fence.wide → ∀ J, CW ⟨P, T, F, n, Z, N⟩ c (RetIn T fn J e ks') ⟨J, argSlots [.row 0] 0, oneRow e 1 (intRow ks)⟩) : InI P f e ks ks' := by
  subst hN
  refine ⟨⟨fn, hf, hn, by rw [hb]; rfl⟩, fun n w v hr hlen hv => ?_⟩
  let Z : Nat → Prop := fun _ => False
  let E : Env := ⟨P, T, Fence.wide, n, Z, fn.ntmps⟩
  have hE : E.Good := ⟨⟨hT, fun f => trivial, rfl, hm⟩, .inl rfl⟩
  have hlt : ∀ b, blk v = some b → b < w.heap.size := by
    intro b hbv
    rcases hv with ⟨a, e0, _⟩ | ⟨g, cap, cur, e0, hc0, hg, _⟩
    · rw [e0] at hbv; cases a <;> simp [blk] at hbv
    · rw [e0] at hbv
      have : blk (.slice (some ⟨g, 0, none⟩) ks.length cap) = some g := by simp [blk]; omega
      rw [this] at hbv
      cases hbv
      exact (Array.getElem?_eq_some_iff.1 hg).1
  refine callsIn_of_wp_marks hf hb trivial (wpIn_mono (h _ _ _ hE rfl (inJ w v) (fun _ => v) _ w ?_) ?_) rfl
  · refine ⟨Z, fun b => b < w.heap.size ∧ some b ≠ blk v, fun _ => False, ⟨fun b hb => hb, fun _ hb => hb.elim, mono_in w v⟩, ⟨fun k e' hk => ?_, fun k b hk hb => ?_, fun k k' b hk hk' _ _ => (dom_oneRow hk).trans (dom_oneRow hk').symm, fun b hb => hb.elim, fun b hb => hb.1, ⟨Step.refl _ w, fun b hb => hb⟩, (mono_in w v).closed (fun b => b < w.heap.size ∧ some b ≠ blk v) (fun _ => False) Z⟩, ?_, fun j => ?_, Marks.nil _ _ _⟩
    · have hk : oneRow e 1 (intRow ks) k = some e' := hk
      have hk0 := dom_oneRow (k := k) (by show (oneRow e 1 (intRow ks) k).isSome = true; rw [hk]; rfl)
      subst hk0
      have : e' = .row e 1 (intRow ks) := by simpa [oneRow, hset] using hk.symm
      subst this
      exact ⟨intVals ks, by rw [intRow_len]; exact hv, RDs_ints.2 ⟨rfl, hr⟩, intRow_one ks, by rw [intRow_len]; exact hlen⟩
    · exact ⟨fun hz => hz, fun hk2 => hk2.2 hb.symm, hlt b hb⟩
    · have hle := Nat.le_of_ble_eq_true hl
      simp; omega
    · have := argSlots_ok (C := cx Z (oneRow e 1 (intRow ks)) (fun _ => v) w) [.row 0] [v] 0 [] (List.replicate (fn.ntmps - 1) undef) (by
        simp only [RAs, RA]
        exact ⟨v, [], rfl, ⟨by show (oneRow e 1 (intRow ks) 0).isSome = true; simp [oneRow, hset], rfl⟩, rfl⟩) rfl j
      rw [List.nil_append] at this
      show RA _ (argSlots [.row 0] 0 j) ((#[v] ++ Array.replicate (fn.ntmps - #[v].size) undef).getD j undef)
      rw [← List.toArray_replicate]
      have e2 : (#[v] ++ (List.replicate (fn.ntmps - #[v].size) undef).toArray : Array Value) = ([v] ++ List.replicate (fn.ntmps - 1) undef).toArray := by simp
      rw [e2]
      exact this
  · rintro x a' w' ⟨st, ι, ⟨he, hJ, k, hRs, hk⟩, Z', K, Y, hZE, r⟩
    have goal : LeavesInM Fence.wide n P fn a'.tmps (fun x w' => ∃ v', x = .returned v' ∧ RowOk w' v' e 1 ks'.length (intVals ks') ∧ inI64 ks' ∧ ks'.length ≤ 140737488355328 ∧ Step (fun b => b < w.heap.size ∧ some b ≠ blk v) w w' ∧ (∀ b, blk v' = some b → b < w'.heap.size ∧ (blk v = some b ∨ w.heap.size ≤ b))) a'.defers .returning w' := by
      refine leaves_marks r fun w1 r1 => ?_
      have hg : Step (fun b => b < w.heap.size ∧ some b ≠ blk v) w w1 ∧ ∀ b, (b < w.heap.size ∧ some b ≠ blk v) → K b := by have := r1.mem.Jw; rw [hJ] at this; exact this
      obtain ⟨v', g1, g2⟩ := results_ok hT r1 hRs
      have g3 : dom st.h k ∧ v' = ι k := by simpa only [packR, RA] using g2
      obtain ⟨us, f1, f2, f3, f4⟩ := r1.mem.ent k _ hk
      rw [RDs_ints] at f2
      rw [intRow_len] at f1 f4
      rw [f2.1] at f1
      refine ⟨v', g1, v', rfl, by rw [g3.2]; exact f1, f2.2, f4, hg.1, fun b hbv => ?_⟩
      have ho := r1.mem.own k b g3.1 (by rw [← g3.2]; exact hbv)
      refine ⟨ho.2.2, ?_⟩
      by_cases hlt2 : b < w.heap.size
      · left
        by_cases hbe : some b = blk v
        · exact hbe.symm
        · exact absurd (hg.2 b ⟨hlt2, hbe⟩) ho.2.1
      · right; omega
    rcases he with rfl | rfl
    · exact goal
    · exact goal

section
variable {E : Env} {ops : List Oper} {Q : Exit → St → Prop} {i : Nat} {J : Jt} {s : Slots} {h : Heap}
theorem OW_callIn' (hE : E.Good) {key : Nat} {f : Nat} {e : TypeId} {ks ks' : List Int} (hc : InI E.P f e ks ks') {o : Oper} {fo so : Operand} {ts : Array TypeId} (ho : ops[i]? = some o) (hop : o.op = .call ⟨.value fo, #[so], ts⟩) (hw : awant ops o s = some true)
    (hfo : ev s fo = .d (.fn (.func f) [] [])) (hso : ev s so = .row key) (hkey : h key = some (.row e 1 (intRow ks)))
    {s' : Slots} (hs : putS E.N (unkS key s) o.dst (.row key) = some s') (hk' : OW E ops (i + 1) Q ⟨J, s', hset (unkH key h) key (some (.row e 1 (intRow ks')))⟩) : OW E ops i Q ⟨J, s, h⟩ := fun ι a w r => by
  have hd : ops.drop i = o :: ops.drop (i + 1) := by
    obtain ⟨hlt, rfl⟩ := List.getElem?_eq_some_iff.1 ho
    exact List.drop_eq_getElem_cons hlt
  rw [hd]
  simp only [wpListIn]
  rw [if_pos (awant_ok r hw)]
  refine ⟨fun f _ => hE.wide.fn f, ?_⟩
  rw [Oper.semAt_plain E.F _ _ (by rw [hop]; intro c hc; cases hc)]
  obtain ⟨dst, op, ty, pos, af, gd⟩ := o
  simp only at hop hs
  subst hop
  obtain ⟨Z, K, Y, hZE, r⟩ := r
  have hf1 := RA_ev (C := cx Z h ι w) (s := s) (a := a) fo fun t _ => r.slot t
  rw [hfo] at hf1
  simp only [RA, RD] at hf1
  obtain ⟨vf, vc, ef, hvf, hvc⟩ := hf1
  have hvf' : vf = #[] := by
    have := hvf; simp only [RDs] at this; simpa using this
  have hvc' : vc = #[] := by
    have := hvc; simp only [RDs] at this; simpa using this
  subst hvf'; subst hvc'
  have h1 := RA_ev (C := cx Z h ι w) (s := s) (a := a) so fun t _ => r.slot t
  rw [hso] at h1
  simp only [RA] at h1
  obtain ⟨hkd, e1⟩ := h1
  obtain ⟨vs, f1, f2, f3, f4⟩ := r.mem.ent key _ hkey
  rw [RDs_ints] at f2
  rw [intRow_len, f2.1] at f1
  rw [intRow_len] at f4
  rw [exec_call ef hc.1]
  simp only [Oper.uponIn]
  refine ⟨fun hx => (by rw [hE.wide.depth] at hx; cases hx), ?_⟩
  have hcall := hc.2 (E.n - 1) w (ι key) f2.2 f4 f1
  have hargs : (#[] ++ Array.map a.eval #[so] ++ #[] : Array Value) = #[ι key] := by simp [e1]
  rw [hargs]
  refine (hE.wide.calls hcall).mono fun x w' ⟨v', he', q1, q4, q5, q2, q3⟩ => ?_
  subst he'
  show wpListIn _ _ _ _ _ _ _ _
  have hent : EntOk (cx Z (hset (unkH key h) key (some (.row e 1 (intRow ks')))) (fun j => bif Nat.beq j key then v' else ι j) w') (.row e 1 (intRow ks')) v' :=
    ⟨intVals ks', by rw [intRow_len]; exact q1, RDs_ints.2 ⟨rfl, q4⟩, intRow_one _, by rw [intRow_len]; exact q5⟩
  obtain ⟨m', kk⟩ := r.mem.redo hkd q2 q3 hent
  have hmarks : Marks Z K w' a.defers := by
    obtain ⟨rs, p1, p2, p3⟩ := r.ds
    refine ⟨rs, p1, p2, fun x hx => ?_⟩
    obtain ⟨p4, p5⟩ := p3 x hx
    refine ⟨?_, p5⟩
    rw [q2.block x ⟨(Array.getElem?_eq_some_iff.1 p4).1, fun e => ?_⟩]
    · exact p4
    · rcases f1 with ⟨a0, e0, _⟩ | ⟨g, cap, cur, e0, hc0, hg, _⟩
      · rw [e0] at e; cases a0 <;> simp [blk] at e
      · rw [e0] at e
        have hg' : w.heap[g]? = some (.cells cur _ (0, 0)) := hg
        have : blk (.slice (some ⟨g, 0, none⟩) ks.length cap) = some g := by simp [blk]; omega
        rw [this] at e
        cases e
        rw [hg'] at p4
        cases p4
  have r0 : Rel Z K E.N (J K Y Z) (unkS key s) (hset (unkH key h) key (some (.row e 1 (intRow ks')))) (fun j => bif Nat.beq j key then v' else ι j) a w' :=
    ⟨m', r.size, fun j => RA_keepsK kk _ _ (nokey_unk key _) (RA_unk (r.slot j)), hmarks⟩
  unfold putS at hs
  cases hdst : dst with
  | none =>
    simp only [hdst] at hs
    cases hs
    exact hk' _ _ w' ⟨Z, K, Y, hZE, Rel.put_none r0 (Grew.refl _) _⟩
  | some d =>
    simp only [hdst] at hs
    cases hbd : Nat.ble (d + 1) E.N with
    | false => rw [hbd] at hs; cases hs
    | true =>
      rw [hbd] at hs
      cases hs
      exact hk' _ _ w' ⟨Z, K, Y, hZE, Rel.put r0 (Grew.refl _) hbd key_row⟩
end
end Go.AL
/- AL, part 47: parts of rows of the frame's own: taken, laid over, cleared, made rows again. -/
namespace Go.AL
set_option linter.unusedVariables false
set_option linter.unusedSimpArgs false

/-- What is behind the r-th: a part of the row, or nothing. -/
def tailV (sz bts key r len : Nat) : AV := if r < len then .view key (r * sz) (len - r) else .d (.sl sz bts [])
/-- A row with those from l up to r left out; as many stay behind as were left out. -/
def delX (xs : List (List D)) (l r : Nat) : List (List D) := xs.take l ++ xs.drop r ++ xs.drop (l + (xs.length - r))
theorem delX_len {xs : List (List D)} {l r : Nat} (h1 : l ≤ r) (h2 : r ≤ xs.length) : (delX xs l r).length = xs.length := by simp [delX]; omega
theorem delX_take {xs : List (List D)} {l r : Nat} (h1 : l ≤ r) (h2 : r ≤ xs.length) : (delX xs l r).take (l + (xs.length - r)) = xs.take l ++ xs.drop r := by
  unfold delX
  rw [List.take_append_of_le_length (by simp; omega), List.take_of_length_le (by simp; omega)]

theorem zero_flat (z : Array Value) : ∀ m : Nat, (Builtin.zeroCells z m).toList = (List.replicate m z.toList).flatten
  | 0 => by simp [Builtin.zeroCells]
  | m + 1 => by
    have ih := zero_flat z m
    simp only [Builtin.zeroCells, Array.toList_map, Array.toList_range] at ih ⊢
    rw [List.replicate_succ, List.flatten_cons, ← ih, show (m + 1) * z.size = z.size + m * z.size by rw [Nat.add_mul]; omega, List.range_add, List.map_append]
    congr 1
    · apply List.ext_getElem?
      intro q
      simp only [List.getElem?_map, List.getElem?_range, Array.getElem?_toList]
      by_cases hq : q < z.size
      · rw [List.getElem?_range hq]
        simp [Nat.mod_eq_of_lt hq, hq]
      · rw [List.getElem?_eq_none (by simpa using hq)]
        simp; omega
    · rw [List.map_map]
      apply List.map_congr_left
      intro q _
      simp

section
variable {E : Env} {ops : List Oper} {Q : Exit → St → Prop} {i : Nat} {J : Jt} {s : Slots} {h : Heap} {o : Oper}

/-- 'xs[:u]' of a row of the frame's own. -/
theorem loc_headRow (hE : E.Good) {key : Nat} {t : TypeId} {xo hi : Operand} (hop : o.op = .slice t xo none (some hi) none) {e : TypeId} {z1 z2 : Nat} {z3 : List Value} (ht : E.T t = some ⟨.slice e, z1, z2, z3⟩) {k : TK} {sz z5 : Nat} {z6 : List Value} (hte : E.T e = some ⟨k, sz, z5, z6⟩)
    {xs : List (List D)} (hx : ev s xo = .row key) (hkey : h key = some (.row e sz xs)) {ik : IntKind} {u : Nat} (hu0 : ev s hi = .d (.lit (.int ik (u : Int)))) (hun : u ≤ xs.length) (h0 : 0 < xs.length) : Loc E ops J h o s (.view key 0 u) := by
  refine ⟨(by rw [hop]; intro c hc; cases hc), fun Z K Y ι a w m hl => ?_⟩
  obtain ⟨dst, op, ty, pos, af, gd⟩ := o
  simp only at hop
  subst hop
  have h1 := hl xo (by simp [Op.operands])
  have h2 := hl hi (by simp [Op.operands])
  rw [hx] at h1
  rw [hu0] at h2
  obtain ⟨e2, _⟩ := RA_lit.1 h2
  simp only [RA] at h1
  obtain ⟨hkd, e1⟩ := h1
  obtain ⟨vs, f1, f2, f3, f4⟩ := m.ent key _ hkey
  rcases f1 with ⟨_, _, h0', _⟩ | ⟨g, cap, cur, e0, hc0, hg, hnc, hcm, hcs, htk⟩
  · omega
  have hb : blk (ι key) = some g := by rw [e0]; simp [blk]; omega
  have hu := (hE.ok.T t _ ht).2
  simp only [TK.fits] at hu
  have hsz := run_size hE.ok.T hte w
  have e0' : ι key = .slice (some ⟨g, 0, none⟩) xs.length cap := e0
  have e1' : a.eval xo = .slice (some ⟨g, 0, none⟩) xs.length cap := e1.trans e0
  have hb0 : (Instr.sliceBounds true xs.length cap none (some (.int ik (u : Int))) none).run E.P w = .ok (0, u, cap) w := by
    have : u ≤ cap := by omega
    simp [Instr.sliceBounds, Instr.sliceBound, asIntOf, this]
  have hne : cap ≠ 0 := by omega
  refine ⟨.slice (some ⟨g, 0, none⟩) u cap, w, ?_, Grew.refl w, ?_⟩
  · simp [execOp, Instr.sliceAt, Instr.slice, run_underlying hu, e1', e2, hb0, hsz, hne]
    simp [Addr.add]
  · simp only [RA]
    exact ⟨hkd, g, cap, hb, rfl, fun _ => by show cap = capOf (ι key); rw [e0']; rfl⟩
/-- 'xs[r:]' of a row of the frame's own. -/
theorem loc_tailRow (hE : E.Good) {key : Nat} {t : TypeId} {xo lo : Operand} (hop : o.op = .slice t xo (some lo) none none) {e : TypeId} {z1 z2 : Nat} {z3 : List Value} (ht : E.T t = some ⟨.slice e, z1, z2, z3⟩) {k : TK} {sz bts : Nat} {z6 : List Value} (hte : E.T e = some ⟨k, sz, bts, z6⟩) (hpos : Nat.ble 1 sz = true)
    {xs : List (List D)} (hx : ev s xo = .row key) (hkey : h key = some (.row e sz xs)) {ik : IntKind} {l : Nat} (hl0 : ev s lo = .d (.lit (.int ik (l : Int)))) (hlt : l ≤ xs.length) : Loc E ops J h o s (tailV sz bts key l xs.length) := by
  by_cases hl : l < xs.length
  · unfold tailV; rw [if_pos hl]
    exact loc_viewRow hE hop ht hte hpos hx hkey hl0 hl
  · unfold tailV; rw [if_neg hl]
    have hle : l = xs.length := by omega
    subst hle
    refine ⟨(by rw [hop]; intro c hc; cases hc), fun Z K Y ι a w m hl => ?_⟩
    obtain ⟨dst, op, ty, pos, af, gd⟩ := o
    simp only at hop
    subst hop
    have h1 := hl xo (by simp [Op.operands])
    have h2 := hl lo (by simp [Op.operands])
    rw [hx] at h1
    rw [hl0] at h2
    obtain ⟨e2, _⟩ := RA_lit.1 h2
    simp only [RA] at h1
    obtain ⟨hkd, e1⟩ := h1
    obtain ⟨vs, f1, f2, f3, f4⟩ := m.ent key _ hkey
    have hu := (hE.ok.T t _ ht).2
    simp only [TK.fits] at hu
    have hsz := run_size hE.ok.T hte w
    have hsl : ∃ a0 cap, ι key = .slice a0 xs.length cap ∧ xs.length ≤ cap := by
      rcases f1 with ⟨a0, e0, h0, _⟩ | ⟨g, cap, cur, e0, hc0, hg, hnc, hcm, hcs, htk⟩
      · exact ⟨a0, 0, by rw [h0]; exact e0, by omega⟩
      · exact ⟨_, cap, e0, hnc⟩
    obtain ⟨a0, cap, e0, hnc⟩ := hsl
    have e1' : a.eval xo = .slice a0 xs.length cap := e1.trans e0
    have hb0 : (Instr.sliceBounds true xs.length cap (some (.int ik (xs.length : Int))) none none).run E.P w = .ok (xs.length, xs.length, cap) w := by
      simp [Instr.sliceBounds, Instr.sliceBound, asIntOf]
    refine ⟨.slice (if cap = xs.length then a0 else a0.map (·.add (xs.length * sz))) 0 (cap - xs.length), w, ?_, Grew.refl w, ?_⟩
    · simp [execOp, Instr.sliceAt, Instr.slice, run_underlying hu, e1', e2, hb0, hsz]
    · simp only [RA, RD]
      exact ⟨_, _, rfl, by simp, by simp, by simp, .inl trivial⟩
/-- 'xs[l:u]' of the first part of a row, up to what the row has. -/
theorem loc_partView (hE : E.Good) {key m0 : Nat} {t : TypeId} {xo lo hi : Operand} (hop : o.op = .slice t xo (some lo) (some hi) none) {e : TypeId} {z1 z2 : Nat} {z3 : List Value} (ht : E.T t = some ⟨.slice e, z1, z2, z3⟩) {k : TK} {sz bts : Nat} {z6 : List Value} (hte : E.T e = some ⟨k, sz, bts, z6⟩) (hpos : Nat.ble 1 sz = true)
    {xs : List (List D)} (hx : ev s xo = .view key 0 m0) (hkey : h key = some (.row e sz xs)) {ik iu : IntKind} {l u : Nat} (hl0 : ev s lo = .d (.lit (.int ik (l : Int)))) (hu0 : ev s hi = .d (.lit (.int iu (u : Int)))) (hlu : l < u) (hun : u ≤ xs.length) : Loc E ops J h o s (.view key (l * sz) (u - l)) := by
  refine ⟨(by rw [hop]; intro c hc; cases hc), fun Z K Y ι a w m hl => ?_⟩
  obtain ⟨dst, op, ty, pos, af, gd⟩ := o
  simp only at hop
  subst hop
  have h1 := hl xo (by simp [Op.operands])
  have h2 := hl lo (by simp [Op.operands])
  have h3 := hl hi (by simp [Op.operands])
  rw [hx] at h1
  rw [hl0] at h2
  rw [hu0] at h3
  obtain ⟨e2, _⟩ := RA_lit.1 h2
  obtain ⟨e3, _⟩ := RA_lit.1 h3
  simp only [RA] at h1
  obtain ⟨hkd, b, cap1, hb1, e1, hcap⟩ := h1
  obtain ⟨vs, f1, f2, f3, f4⟩ := m.ent key _ hkey
  rcases f1 with ⟨_, _, h0', _⟩ | ⟨g, cap, cur, e0, hc0, hg, hnc, hcm, hcs, htk⟩
  · omega
  have e0' : ι key = .slice (some ⟨g, 0, none⟩) xs.length cap := e0
  have hb : blk (ι key) = some g := by rw [e0]; simp [blk]; omega
  have hbg : b = g := by
    have : blk (ι key) = some b := hb1
    rw [hb] at this; injection this with this; exact this.symm
  subst hbg
  have hc1 : cap1 = cap := by
    have := hcap trivial
    rw [e0'] at this
    exact this
  subst hc1
  have hu := (hE.ok.T t _ ht).2
  simp only [TK.fits] at hu
  have hsz := run_size hE.ok.T hte w
  have hb0 : (Instr.sliceBounds true m0 cap1 (some (.int ik (l : Int))) (some (.int iu (u : Int))) none).run E.P w = .ok (l, u, cap1) w := by
    have h1 : u ≤ cap1 := by omega
    have h2 : l ≤ u := by omega
    simp [Instr.sliceBounds, Instr.sliceBound, asIntOf, h1, h2]
  have hne : cap1 ≠ l := by omega
  refine ⟨.slice (some ⟨b, l * sz, none⟩) (u - l) (cap1 - l), w, ?_, Grew.refl w, ?_⟩
  · simp [execOp, Instr.sliceAt, Instr.slice, run_underlying hu, e1, e2, e3, hb0, hsz, hne]
    simp [Addr.add]
    exact fun h => h.symm
  · simp only [RA]
    refine ⟨hkd, b, cap1 - l, hb, rfl, fun h0 => ?_⟩
    have hp := Nat.le_of_ble_eq_true hpos
    have hl0 : l = 0 := by rcases Nat.mul_eq_zero.1 h0 with h | h <;> omega
    show cap1 - l = capOf (ι key)
    rw [e0']
    show cap1 - l = cap1
    omega
/-- 'xs[i:j:n]' of a row, for its checks alone. -/
theorem loc_checkRow (hE : E.Good) {key : Nat} {t : TypeId} {xo lo hi mx : Operand} (hop : o.op = .slice t xo (some lo) (some hi) (some mx)) {e : TypeId} {z1 z2 : Nat} {z3 : List Value} (ht : E.T t = some ⟨.slice e, z1, z2, z3⟩) {k : TK} {sz bts : Nat} {z6 : List Value} (hte : E.T e = some ⟨k, sz, bts, z6⟩)
    {xs : List (List D)} (hx : ev s xo = .row key) (hkey : h key = some (.row e sz xs)) {ik iu im : IntKind} {l u : Nat} (hl0 : ev s lo = .d (.lit (.int ik (l : Int)))) (hu0 : ev s hi = .d (.lit (.int iu (u : Int)))) (hm0 : ev s mx = .d (.lit (.int im (xs.length : Int)))) (hlu : l ≤ u) (hun : u ≤ xs.length) : Loc E ops J h o s .any := by
  refine ⟨(by rw [hop]; intro c hc; cases hc), fun Z K Y ι a w m hl => ?_⟩
  obtain ⟨dst, op, ty, pos, af, gd⟩ := o
  simp only at hop
  subst hop
  have h1 := hl xo (by simp [Op.operands])
  have h2 := hl lo (by simp [Op.operands])
  have h3 := hl hi (by simp [Op.operands])
  have h4 := hl mx (by simp [Op.operands])
  rw [hx] at h1
  rw [hl0] at h2
  rw [hu0] at h3
  rw [hm0] at h4
  obtain ⟨e2, _⟩ := RA_lit.1 h2
  obtain ⟨e3, _⟩ := RA_lit.1 h3
  obtain ⟨e4, _⟩ := RA_lit.1 h4
  simp only [RA] at h1
  obtain ⟨hkd, e1⟩ := h1
  obtain ⟨vs, f1, f2, f3, f4⟩ := m.ent key _ hkey
  have hu := (hE.ok.T t _ ht).2
  simp only [TK.fits] at hu
  have hsz := run_size hE.ok.T hte w
  have hsl : ∃ a0 cap, ι key = .slice a0 xs.length cap ∧ xs.length ≤ cap := by
    rcases f1 with ⟨a0, e0, h0, _⟩ | ⟨g, cap, cur, e0, hc0, hg, hnc, hcm, hcs, htk⟩
    · exact ⟨a0, 0, by rw [h0]; exact e0, by omega⟩
    · exact ⟨_, cap, e0, hnc⟩
  obtain ⟨a0, cap, e0, hnc⟩ := hsl
  have e1' : a.eval xo = .slice a0 xs.length cap := e1.trans e0
  have hb0 : (Instr.sliceBounds true xs.length cap (some (.int ik (l : Int))) (some (.int iu (u : Int))) (some (.int im (xs.length : Int)))).run E.P w = .ok (l, u, xs.length) w := by
    simp [Instr.sliceBounds, Instr.sliceBound, asIntOf, hnc, hun, hlu]
  refine ⟨.slice (if xs.length = l then a0 else a0.map (·.add (l * sz))) (u - l) (xs.length - l), w, ?_, Grew.refl w, by simp only [RA]⟩
  simp [execOp, Instr.sliceAt, Instr.slice, run_underlying hu, e1', e2, e3, e4, hb0, hsz]

/-- The row has turned, its handle has not. -/
theorem OW_turned {key g cap : Nat} {e : TypeId} {sz : Nat} {xs xs' : List (List D)} {cur cur' : Array Value} {vs' : List Value} {Z K Y : Nat → Prop} {ι : Nat → Value} {a : Act} {w : World} (r : Rel Z K E.N (J K Y Z) s h ι a w) (hkey : h key = some (.row e sz xs)) (hkd : dom h key)
    (e0 : ι key = .slice (some ⟨g, 0, none⟩) xs.length cap) (hc0 : 0 < cap) (hg : w.heap[g]? = some (.cells cur e (0, 0))) (hnc : xs.length ≤ cap) (hcm : cap ≤ maxLen) (hcs : cur'.size = cap * sz) (hl : xs'.length = xs.length) (htk : cur'.toList.take (xs.length * sz) = vs')
    (hv : RDs w (cx Z h ι w).M xs'.flatten vs') (hz : ∀ x ∈ xs', x.length = sz) (hn : xs.length ≤ 140737488355328) : Rel Z K E.N (J K Y Z) s (hset h key (some (.row e sz xs'))) ι a (w.setRow g cur') := by
  have hb : blk (ι key) = some g := by rw [e0]; simp [blk]; omega
  have hdom : ∀ k', dom h k' ↔ dom (hset h key (some (.row e sz xs'))) k' := by
    intro k'
    by_cases hjk : k' = key
    · subst hjk; simp [dom, hset_same]; rw [hkey]; rfl
    · simp only [dom, hset_ne h _ hjk]
  have kc : KeepsC (cx Z h ι w) (cx Z (hset h key (some (.row e sz xs'))) ι (w.setRow g cur')) := by
    refine ⟨⟨fun b o u hm hcc => ?_, fun b hm hi => hi.at (setRow_other w g b _ fun e => hm (e ▸ .inr ⟨key, hkd, hb⟩)), fun b _ hm hm' => ?_⟩, fun k' hk' => ⟨(hdom k').1 hk', rfl⟩⟩
    · have hne : b ≠ g := by intro e; subst e; exact hm (.inr ⟨key, hkd, hb⟩)
      show World.cell? _ _ = _
      rw [World.cell?_of_block (w := w) (a := ⟨b, o, none⟩) (setRow_other w g b _ hne)]; exact hcc
    · rcases hm' with hz | ⟨k', hk', hkb⟩
      · exact hm (.inl hz)
      · exact hm (.inr ⟨k', (hdom k').2 hk', hkb⟩)
  have hent : EntOk (cx Z (hset h key (some (.row e sz xs'))) ι (w.setRow g cur')) (.row e sz xs') (ι key) :=
    ⟨vs', .inr ⟨g, cap, cur', by rw [hl]; exact e0, hc0, setRow_heap w g cur _ e _ hg, by rw [hl]; exact hnc, hcm, hcs, by rw [hl]; exact htk⟩, RDs_keeps kc.d _ _ hv, hz, by rw [hl]; exact hn⟩
  obtain ⟨m', _⟩ := r.mem.turn hkd hb (setRow_step w g _) (by simp) hent
  exact ⟨m', r.size, fun i => RA_keeps kc _ _ (r.slot i), r.ds.turn ⟨cur, e, _, hg⟩ (setRow_step w g _)⟩

/-- 'append(xs[:l], xs[r:]...)': within the row. -/
theorem OW_appendTail' (hE : E.Good) {key l r0 : Nat} {t e : TypeId} {so xo : Operand} (ho : ops[i]? = some o) (hop : o.op = .call ⟨.builtin .append, #[so, xo], #[t, t]⟩) (hw : awant ops o s = some true) {z1 z2 : Nat} {z3 : List Value} (ht : E.T t = some ⟨.slice e, z1, z2, z3⟩)
    {k : TK} {sz bts : Nat} {z6 : List Value} (hte : E.T e = some ⟨k, sz, bts, z6⟩) {xs : List (List D)} (hso : ev s so = .view key 0 l) (hkey : h key = some (.row e sz xs)) (hxo : ev s xo = tailV sz bts key r0 xs.length) (hlr : l ≤ r0) (hr : r0 ≤ xs.length) (h0 : 0 < xs.length)
    {s' : Slots} (hs : putS E.N s o.dst (.view key 0 (l + (xs.length - r0))) = some s') (hk : OW E ops (i + 1) Q ⟨J, s', hset h key (some (.row e sz (delX xs l r0)))⟩) : OW E ops i Q ⟨J, s, h⟩ := fun ι a w r => by
  have hd : ops.drop i = o :: ops.drop (i + 1) := by
    obtain ⟨hlt, rfl⟩ := List.getElem?_eq_some_iff.1 ho
    exact List.drop_eq_getElem_cons hlt
  rw [hd]
  simp only [wpListIn]
  rw [if_pos (awant_ok r hw)]
  refine ⟨fun f _ => hE.wide.fn f, ?_⟩
  rw [Oper.semAt_plain E.F _ _ (by rw [hop]; intro c hc; cases hc)]
  obtain ⟨dst, op, ty, pos, af, gd⟩ := o
  simp only at hop hs
  subst hop
  obtain ⟨Z, K, Y, hZE, r⟩ := r
  have h1 := RA_ev (C := cx Z h ι w) (s := s) (a := a) so fun t _ => r.slot t
  rw [hso] at h1
  simp only [RA] at h1
  obtain ⟨hkd, b, cap1, hb1, e1, hcap⟩ := h1
  have h2 := RA_ev (C := cx Z h ι w) (s := s) (a := a) xo fun t _ => r.slot t
  rw [hxo] at h2
  obtain ⟨vs, f1, f2, f3, f4⟩ := r.mem.ent key _ hkey
  rcases f1 with ⟨_, _, h0', _⟩ | ⟨g, cap, cur, e0, hc0, hg, hnc, hcm, hcs, htk⟩
  · omega
  have e0' : ι key = .slice (some ⟨g, 0, none⟩) xs.length cap := e0
  have hb : blk (ι key) = some g := by rw [e0]; simp [blk]; omega
  have hbg : b = g := by
    have : blk (ι key) = some b := hb1
    rw [hb] at this; injection this with this; exact this.symm
  subst hbg
  have hc1 : cap1 = cap := by
    have := hcap trivial
    rw [e0'] at this
    exact this
  subst hc1
  have hg' : w.heap[b]? = some (.cells cur e (0, 0)) := hg
  have hu := (hE.ok.T t _ ht).2
  simp only [TK.fits] at hu
  obtain ⟨⟨ie, hie, hsz, hby, z, hz, hzc, hzl⟩, _⟩ := hE.ok.T e _ hte
  simp only at hsz hby hzc hzl
  have hvl : vs.length = xs.length * sz := by rw [RDs_length f2]; exact flat_len xs f3
  have hcl : cur.toList.length = cap1 * sz := by simpa using hcs
  have hns : xs.length * sz ≤ cap1 * sz := Nat.mul_le_mul_right _ hnc
  have hls : l * sz + (xs.length - r0) * sz ≤ xs.length * sz := by rw [← Nat.add_mul]; exact Nat.mul_le_mul_right _ (by omega)
  have hrs : r0 * sz ≤ xs.length * sz := Nat.mul_le_mul_right _ hr
  have hrs2 : r0 * sz + (xs.length - r0) * sz = xs.length * sz := by rw [← Nat.add_mul]; congr 1; omega
  have hlr2 : l * sz ≤ r0 * sz := Nat.mul_le_mul_right _ hlr
  obtain ⟨m, hm⟩ : ∃ m, xs.length - r0 = m := ⟨_, rfl⟩
  rw [hm] at hls hrs2 hs
  -- what is laid
  obtain ⟨news, hnews⟩ : ∃ news, news = vs.drop (r0 * sz) := ⟨_, rfl⟩
  have hnl : news.length = m * sz := by rw [hnews, List.length_drop, hvl]; omega
  have hone : ∀ v ∈ news, v.oneCell' = true := fun v hv => RDs_one f2 v (List.mem_of_mem_drop (hnews ▸ hv))
  obtain ⟨cur', hcur'⟩ : ∃ cur', cur' = (cur.toList.take (l * sz) ++ news ++ cur.toList.drop (l * sz + news.length)).toArray := ⟨_, rfl⟩
  have hrun : (Builtin.append_ #[t, t] ty #[a.eval so, a.eval xo]).run E.P w = .ok (.slice (some ⟨b, 0, none⟩) (l + m) cap1) (w.setRow b cur') := by
    rw [e1]
    unfold tailV at h2
    by_cases hlt : r0 < xs.length
    · rw [if_pos hlt] at h2
      simp only [RA] at h2
      obtain ⟨_, b2, cap2, hb2, e2, _⟩ := h2
      have hb2g : b2 = b := by
        have : blk (ι key) = some b2 := hb2
        rw [hb] at this; injection this with this; exact this.symm
      subst hb2g
      rw [e2, hm]
      have := run_append_room (P := E.P) (w := w) t ty e ie hu hie b2 l cap1 cur hg' ⟨b2, r0 * sz, none⟩ m cap2 news (by rw [hsz]; exact hnl) (fun j x hj => by
        have hadd : (⟨b2, r0 * sz, none⟩ : Addr).add j = ⟨b2, r0 * sz + j, none⟩ := by unfold Addr.add; split <;> first | rfl | (rename_i hq; rw [hq]; rfl)
        rw [hadd, cell_of_row w b2 _ cur e (0, 0) hg']
        rw [hnews, List.getElem?_drop, ← htk, List.getElem?_take] at hj
        split at hj
        · simpa using hj
        · cases hj) hone (by omega) (by rw [hsz, hnl]; have : cur.size = cap1 * sz := hcs; omega)
      rw [hsz] at this
      rw [this, hcur']
    · rw [if_neg hlt] at h2
      have hm0 : m = 0 := by omega
      subst hm0
      simp only [RA, RD] at h2
      obtain ⟨a2, cap2, e2, _⟩ := h2
      have hn0 : news = [] := List.eq_nil_of_length_eq_zero (by rw [hnl]; omega)
      have hcc : cur' = cur := by
        apply Array.ext'
        rw [hcur', hn0]
        simp
      have hw' : w.setRow b cur' = w := by
        rw [hcc]
        have hh : (w.setRow b cur).heap = w.heap := by
          apply Array.ext_getElem?
          intro q
          by_cases hq : q = b
          · rw [hq, setRow_heap w b cur cur e (0, 0) hg', hg']
          · exact setRow_other w b q cur hq
        calc w.setRow b cur = { w with heap := (w.setRow b cur).heap } := rfl
          _ = w := by rw [hh]
      rw [hw', e2]
      have hlc : l ≤ cap1 := by omega
      cases a2 <;> simp [Builtin.append_, run_underlying hu, sizeOf, typeInfo, hie, Builtin.lenOf, hlc, Builtin.firstCells, loadCells, loadCellsFrom, storeCells]
  rw [exec_append (v' := .slice (some ⟨b, 0, none⟩) (l + m) cap1) (w' := w.setRow b cur') hrun]
  show wpListIn _ _ _ _ _ _ _ _
  have hdl : (delX xs l r0).length = xs.length := delX_len hlr hr
  have hdz : ∀ x ∈ delX xs l r0, x.length = sz := fun x hx => by
    unfold delX at hx
    rcases List.mem_append.1 hx with hx | hx
    · rcases List.mem_append.1 hx with hx | hx
      · exact f3 x (List.mem_of_mem_take hx)
      · exact f3 x (List.mem_of_mem_drop hx)
    · exact f3 x (List.mem_of_mem_drop hx)
  have hfl : (delX xs l r0).flatten = xs.flatten.take (l * sz) ++ xs.flatten.drop (r0 * sz) ++ xs.flatten.drop ((l + m) * sz) := by
    unfold delX
    rw [List.flatten_append, List.flatten_append, flat_take xs l f3, flat_drop xs r0 f3, flat_drop xs _ f3, hm]
  have r0' : Rel Z K E.N (J K Y Z) s (hset h key (some (.row e sz (delX xs l r0)))) ι a (w.setRow b cur') := by
    refine OW_turned (vs' := vs.take (l * sz) ++ news ++ vs.drop ((l + m) * sz)) r hkey hkd e0' hc0 hg' hnc hcm ?_ hdl ?_ ?_ hdz f4
    · rw [hcur']; simp only [List.size_toArray, List.length_append, List.length_take, List.length_drop, hcl, hnl]; omega
    · rw [hcur', ← htk]
      have hl1 : (cur.toList.take (l * sz)).length = l * sz := by simp; omega
      have hmz : (l + m) * sz = l * sz + m * sz := Nat.add_mul _ _ _
      apply List.ext_getElem?
      intro q
      simp only [List.getElem?_take, List.getElem?_append, List.getElem?_drop, List.length_append, List.length_take, List.length_drop, hnl, hl1, hmz]
      rw [hcl]
      repeat' split
      all_goals first | rfl | omega | (exfalso; omega) | skip
      all_goals first | (congr 1; omega) | (simp; omega) | skip
      all_goals first | (rw [List.getElem?_eq_none (by simp; omega)]) | skip
    · rw [hfl, hnews]
      exact RDs_append (RDs_append (RDs_take _ f2) (RDs_drop _ f2)) (RDs_drop _ f2)
  have hres : RA (cx Z (hset h key (some (.row e sz (delX xs l r0)))) ι (w.setRow b cur')) (.view key 0 (l + m)) (.slice (some ⟨b, 0, none⟩) (l + m) cap1) := by
    simp only [RA]
    exact ⟨by show (hset h key _ key).isSome = true; rw [hset_same]; rfl, b, cap1, hb, rfl, fun _ => by show cap1 = capOf (ι key); rw [e0']; rfl⟩
  unfold putS at hs
  cases hdst : dst with
  | none =>
    simp only [hdst] at hs
    cases hs
    exact hk _ _ _ ⟨Z, K, Y, hZE, Rel.put_none r0' (Grew.refl _) _⟩
  | some d =>
    simp only [hdst] at hs
    cases hbd : Nat.ble (d + 1) E.N with
    | false => rw [hbd] at hs; cases hs
    | true =>
      rw [hbd] at hs
      cases hs
      exact hk _ _ _ ⟨Z, K, Y, hZE, Rel.put r0' (Grew.refl _) hbd hres⟩
end
end Go.AL
/- AL, part 48: parts of rows cleared; a part that becomes the row. -/
namespace Go.AL
set_option linter.unusedVariables false
set_option linter.unusedSimpArgs false

theorem RDs_reps {w : World} {M : Nat → Prop} {zs : List D} {zv : List Value} (h : RDs w M zs zv) : ∀ m : Nat, RDs w M (List.replicate m zs).flatten (List.replicate m zv).flatten
  | 0 => by simp [RDs]
  | m + 1 => by
    rw [List.replicate_succ, List.replicate_succ, List.flatten_cons, List.flatten_cons]
    exact RDs_append h (RDs_reps h m)
section
variable {E : Env} {ops : List Oper} {Q : Exit → St → Prop} {i : Nat} {J : Jt} {s : Slots} {h : Heap} {o : Oper}
/-- 'clear' of a part of a row. -/
theorem OW_clearView' (hE : E.Good) {key l m : Nat} {xo : Operand} {t : TypeId} (ho : ops[i]? = some o) (hop : o.op = .call ⟨.builtin .clear, #[xo], #[t]⟩) (hw : awant ops o s = some true) (hdst : o.dst = none)
    {e : TypeId} {z1 z2 : Nat} {z3 : List Value} (ht : E.T t = some ⟨.slice e, z1, z2, z3⟩) {k : TK} {sz z5 : Nat} {z6 : List Value} (hte : E.T e = some ⟨k, sz, z5, z6⟩) {zs : List D} (hzs : litCells z6 = some (zs.map .d)) {q : Nat} (hx : ev s xo = .view key q m) (hq : q = l * sz) {xs : List (List D)} (hkey : h key = some (.row e sz xs)) (hm : l + m ≤ xs.length) (hm0 : 0 < m)
    (hk : OW E ops (i + 1) Q ⟨J, s, hset h key (some (.row e sz (xs.take l ++ List.replicate m zs ++ xs.drop (l + m))))⟩) : OW E ops i Q ⟨J, s, h⟩ := fun ι a w r => by
  subst hq
  have hd : ops.drop i = o :: ops.drop (i + 1) := by
    obtain ⟨hlt, rfl⟩ := List.getElem?_eq_some_iff.1 ho
    exact List.drop_eq_getElem_cons hlt
  rw [hd]
  simp only [wpListIn]
  rw [if_pos (awant_ok r hw)]
  refine ⟨fun f _ => hE.wide.fn f, ?_⟩
  rw [Oper.semAt_plain E.F _ _ (by rw [hop]; intro c hc; cases hc)]
  obtain ⟨dst, op, ty, pos, af, gd⟩ := o
  simp only at hop hdst
  subst hop hdst
  obtain ⟨Z, K, Y, hZE, r⟩ := r
  have h1 := RA_ev (C := cx Z h ι w) (s := s) (a := a) xo fun t _ => r.slot t
  rw [hx] at h1
  simp only [RA] at h1
  obtain ⟨hkd, b0, cap1, hb0, e1, _⟩ := h1
  obtain ⟨vs, f1, f2, f3, f4⟩ := r.mem.ent key _ hkey
  rcases f1 with ⟨_, _, h0, _⟩ | ⟨g, cap, cur, e0, hc0, hg, hnc, hcm, hcs, htk⟩
  · omega
  have hg' : w.heap[g]? = some (.cells cur e (0, 0)) := hg
  have e0' : ι key = .slice (some ⟨g, 0, none⟩) xs.length cap := e0
  have hb : blk (ι key) = some g := by rw [e0]; simp [blk]; omega
  have : b0 = g := by
    have hb0' : blk (ι key) = some b0 := hb0
    rw [hb] at hb0'; injection hb0' with hb0'; exact hb0'.symm
  subst this
  have hu := (hE.ok.T t _ ht).2
  simp only [TK.fits] at hu
  obtain ⟨z, hz1, hz2⟩ := run_zero hE.ok.T hte w
  have hz6 : z6.length = sz := by obtain ⟨⟨_, _, _, _, _, _, _, h⟩, _⟩ := hE.ok.T e _ hte; exact h
  have hz2' : z.cells.toList = z6 := hz2
  have hzl : z.cells.size = sz := by rw [← hz6, ← hz2']; simp
  obtain ⟨zv, hzv⟩ : ∃ zv, zv = (List.replicate m z6).flatten := ⟨_, rfl⟩
  have hzc : (Builtin.zeroCells z.cells m).toList = zv := by rw [hzv, zero_flat, hz2']
  have hzvl : zv.length = m * sz := by
    rw [← hzc]; simp [Builtin.zeroCells, hzl]
  have hRz : RDs w (cx Z h ι w).M zs z6 := RAs_map_d.1 (litCells_ok (C := cx Z h ι w) hzs)
  have hRr := RDs_reps hRz m
  rw [← hzv] at hRr
  have hvl : vs.length = xs.length * sz := by rw [RDs_length f2]; exact flat_len xs f3
  have hcl : cur.toList.length = cap * sz := by simpa using hcs
  have hns : xs.length * sz ≤ cap * sz := Nat.mul_le_mul_right _ hnc
  have hlm : (l + m) * sz ≤ xs.length * sz := Nat.mul_le_mul_right _ hm
  have hlm2 : (l + m) * sz = l * sz + m * sz := Nat.add_mul _ _ _
  have hst := run_storeCells_at (P := E.P) b0 (l * sz) e zv 0 cur w hg' (by rw [hzvl]; have : cur.size = cap * sz := hcs; omega) (RDs_one hRr)
  obtain ⟨cur', hcur'⟩ : ∃ cur', cur' = (cur.toList.take (l * sz) ++ zv ++ cur.toList.drop (l * sz + zv.length)).toArray := ⟨_, rfl⟩
  have hrun : (execOp a.eval ⟨none, .call ⟨.builtin .clear, #[xo], #[t]⟩, ty, pos, af, gd⟩).run E.P w = .ok (.value (.tuple #[])) (w.setRow b0 cur') := by
    have hm' : m ≠ 0 := by omega
    obtain ⟨m, rfl⟩ : ∃ q, m = q + 1 := ⟨m - 1, by omega⟩
    simp only [execOp, resolve, invoke, builtin, Builtin.clear_]
    simp [e1, run_underlying hu, hz1, hzc]
    simp at hst
    rw [hst, hcur']
    simp
  rw [hrun]
  show wpListIn _ _ _ _ _ _ _ _
  obtain ⟨xs', hxs'⟩ : ∃ xs', xs.take l ++ List.replicate m zs ++ xs.drop (l + m) = xs' := ⟨_, rfl⟩
  rw [hxs'] at hk
  have hzsl : zs.length = sz := by rw [← RDs_length hRz]; exact hz6
  have hdz : ∀ x ∈ xs', x.length = sz := fun x hx => by
    rw [← hxs'] at hx
    rcases List.mem_append.1 hx with hx | hx
    · rcases List.mem_append.1 hx with hx | hx
      · exact f3 x (List.mem_of_mem_take hx)
      · rw [List.eq_of_mem_replicate hx]; exact hzsl
    · exact f3 x (List.mem_of_mem_drop hx)
  have hfl : xs'.flatten = xs.flatten.take (l * sz) ++ (List.replicate m zs).flatten ++ xs.flatten.drop ((l + m) * sz) := by
    rw [← hxs', List.flatten_append, List.flatten_append, flat_take xs l f3, flat_drop xs _ f3]
  have hxl : xs'.length = xs.length := by rw [← hxs']; simp; omega
  have r0' : Rel Z K E.N (J K Y Z) s (hset h key (some (.row e sz xs'))) ι a (w.setRow b0 cur') := by
    refine OW_turned (vs' := vs.take (l * sz) ++ zv ++ vs.drop ((l + m) * sz)) r hkey hkd e0' hc0 hg' hnc hcm ?_ hxl ?_ ?_ hdz f4
    · rw [hcur']; simp only [List.size_toArray, List.length_append, List.length_take, List.length_drop, hcl, hzvl]; omega
    · rw [hcur', ← htk]
      have hl1 : (cur.toList.take (l * sz)).length = l * sz := by simp; omega
      apply List.ext_getElem?
      intro q
      simp only [List.getElem?_take, List.getElem?_append, List.getElem?_drop, List.length_append, List.length_take, List.length_drop, hzvl, hl1, hlm2]
      rw [hcl]
      repeat' split
      all_goals first | rfl | omega | (exfalso; omega) | skip
      all_goals first | (congr 1; omega) | (simp; omega) | skip
      all_goals first | (rw [List.getElem?_eq_none (by simp; omega)]) | skip
    · rw [hfl]
      exact RDs_append (RDs_append (RDs_take _ f2) hRr) (RDs_drop _ f2)
  exact hk ι _ _ ⟨Z, K, Y, hZE, Rel.put_none r0' (Grew.refl _) _⟩
end

/-- A first part of a row becomes the row. -/
theorem LE_viewRow {E : Env} {J : Jt} {s : Slots} {h : Heap} (d : Nat) {key l : Nat} {e : TypeId} {sz : Nat} {xs xs' : List (List D)} (hs : s d = .view key 0 l) (hkey : h key = some (.row e sz xs)) (hl : l ≤ xs.length) (h0 : 0 < xs.length) (hxs : xs.take l = xs') :
    LE E ⟨J, s, h⟩ ⟨J, sset (unkS key s) d (.row key), hset (unkH key h) key (some (.row e sz xs'))⟩ := fun ι a w ⟨Z, K, Y, hZE, r⟩ => by
  subst hxs
  have h1 : RA (cx Z h ι w) (s d) (a.tmps.getD d undef) := r.slot d
  rw [hs] at h1
  simp only [RA] at h1
  obtain ⟨hkd, b, cap1, hb1, e1, hcap⟩ := h1
  obtain ⟨vs, f1, f2, f3, f4⟩ := r.mem.ent key _ hkey
  rcases f1 with ⟨_, _, h0', _⟩ | ⟨g, cap, cur, e0, hc0, hg, hnc, hcm, hcs, htk⟩
  · omega
  have e0' : ι key = .slice (some ⟨g, 0, none⟩) xs.length cap := e0
  have hb : blk (ι key) = some g := by rw [e0]; simp [blk]; omega
  have hbg : b = g := by
    have : blk (ι key) = some b := hb1
    rw [hb] at this; injection this with this; exact this.symm
  subst hbg
  have hc1 : cap1 = cap := by
    have := hcap trivial
    rw [e0'] at this
    exact this
  subst hc1
  have hbl : blk (.slice (some ⟨b, 0, none⟩) l cap1) = some b := by simp [blk]; omega
  have hlt : b < w.heap.size := (Array.getElem?_eq_some_iff.1 (show w.heap[b]? = _ from hg)).1
  have hls : l * sz ≤ xs.length * sz := Nat.mul_le_mul_right _ hl
  have hent : EntOk (cx Z (hset (unkH key h) key (some (.row e sz (xs.take l)))) (fun j => bif Nat.beq j key then .slice (some ⟨b, 0, none⟩) l cap1 else ι j) w) (.row e sz (xs.take l)) (.slice (some ⟨b, 0, none⟩) l cap1) := by
    have hll : (xs.take l).length = l := by simp; omega
    refine ⟨vs.take (l * sz), .inr ⟨b, cap1, cur, by rw [hll], hc0, hg, by rw [hll]; omega, hcm, hcs, ?_⟩, ?_, fun x hx => f3 x (List.mem_of_mem_take hx), by rw [hll]; omega⟩
    · rw [hll, ← htk, List.take_take, Nat.min_eq_left hls]
    · rw [flat_take xs l f3]
      refine RDs_keeps (w := w) (M := (cx Z h ι w).M) ⟨fun _ _ _ _ hh => hh, fun _ _ hh => hh, fun b' _ hm hm' => ?_⟩ _ _ (RDs_take _ f2)
      rcases hm' with hz | ⟨j, hj, hjb⟩
      · exact hm (.inl hz)
      · by_cases hjk : j = key
        · subst hjk
          simp only [Nat.beq_refl, cond_true] at hjb
          rw [hbl] at hjb
          cases hjb
          exact hm (.inr ⟨_, hkd, hb⟩)
        · have hbq : Nat.beq j key = false := Bool.eq_false_iff.2 fun h' => hjk (Nat.eq_of_beq_eq_true h')
          simp only [dom, hset_ne (unkH key h) _ hjk] at hj
          simp only [hbq, cond_false] at hjb
          exact hm (.inr ⟨j, dom_unkH.1 hj, hjb⟩)
  obtain ⟨m', kk⟩ := r.mem.redo hkd (Step.refl _ w) (fun b' hb' => by
    rw [hbl] at hb'
    cases hb'
    exact ⟨hlt, .inl hb⟩) hent
  refine ⟨_, Z, K, Y, hZE, ⟨m', r.size, fun j => ?_, r.ds⟩⟩
  show RA _ (sset (unkS key s) d (.row key) j) _
  by_cases hj : j = d
  · subst hj
    rw [sset_same, e1]
    exact key_row
  · rw [sset_ne _ _ hj]
    exact RA_keepsK kk _ _ (nokey_unk key _) (RA_unk (r.slot j))
end Go.AL
/- AL, part 49: what a function does in worlds of which something is known (a table that stands). -/
namespace Go.AL
set_option linter.unusedVariables false
set_option linter.unusedSimpArgs false
def Tells (Tab : World → Prop) (J : Jt) : Prop := ∀ K Y Z w, J K Y Z w → Tab w
def DoesW (P : Program) (Tab : World → Prop) (f : Nat) (args : List AV) (R : AV) : Prop :=
  Callable P f ∧ ∀ n Z w vs, (∀ b, Z b → b < w.heap.size) → Tab w → RAs (cx Z noHeap noι w) args vs →
    CallsIn Fence.wide n P f vs.toArray w fun e w' => ∃ v ι, e = .returned v ∧ Grew w w' ∧ RA (cx Z noHeap ι w') R v ∧ Own Z w.heap.size noHeap ι w'
theorem DoesW.of {P : Program} {Tab : World → Prop} {f : Nat} {args : List AV} {R : AV} (h : Does P f args noHeap R) : DoesW P Tab f args R := ⟨h.1, fun n Z w vs hZ _ hv => h.2 n Z w vs hZ hv⟩
section
variable {E : Env} {ops : List Oper} {Q : Exit → St → Prop} {st : St} {i : Nat}
theorem OW_callW (hE : E.Good) {Tab : World → Prop} {f : Nat} {L : List AV} {R : AV} (hc : DoesW E.P Tab f L R) (hJ : Tells Tab st.J) {o : Oper} {fo : Operand} {args : Array Operand} {ts : Array TypeId} (ho : ops[i]? = some o) (hop : o.op = .call ⟨.value fo, args, ts⟩) (hw : awant ops o st.s = some true)
    (hL : callArgs st.s fo args.toList = some (f, L)) (hk : kfs L = true) (hR : kf R = true) {s' : Slots} (hs : putS E.N st.s o.dst R = some s') (h : OW E ops (i + 1) Q { st with s := s' }) : OW E ops i Q st := fun ι a w r => by
  have hd : ops.drop i = o :: ops.drop (i + 1) := by
    obtain ⟨hlt, rfl⟩ := List.getElem?_eq_some_iff.1 ho
    exact List.drop_eq_getElem_cons hlt
  rw [hd]
  simp only [wpListIn]
  rw [if_pos (awant_ok r hw)]
  refine ⟨fun f _ => hE.wide.fn f, ?_⟩
  rw [Oper.semAt_plain E.F _ _ (by rw [hop]; intro c hc; cases hc)]
  obtain ⟨Z, K, Y, hZE, r⟩ := r
  obtain ⟨vf, vc, he, hv⟩ := call_args hL r.slot
  obtain ⟨dst, op, ty, pos, af, gd⟩ := o
  simp only at hop
  subst hop
  rw [exec_call he hc.1]
  simp only [Oper.uponIn]
  refine ⟨fun hx => (by rw [hE.wide.depth] at hx; cases hx), ?_⟩
  have hZ : ∀ b, (cx Z st.h ι w).M b → b < w.heap.size := fun b hb => r.mem.Mlt hb
  have hv' : RAs (cx (cx Z st.h ι w).M noHeap noι w) L (vf ++ args.map a.eval ++ vc).toList :=
    RAs_kf (C := cx Z st.h ι w) (C' := cx (cx Z st.h ι w).M noHeap noι w) ⟨fun _ _ _ _ hh => hh, fun _ _ hh => hh, fun b _ hm hm' => by rw [M_of] at hm'; exact hm hm'⟩ _ _ hk hv
  have := hc.2 (E.n - 1) (cx Z st.h ι w).M w _ hZ (hJ _ _ _ _ r.mem.Jw) hv'
  simp only [Array.toArray_toList] at this
  refine (hE.wide.calls this).mono fun e w' ⟨v, ι', he', hg, hRv, _⟩ => ?_
  subst he'
  show wpListIn _ _ _ _ _ _ _ _
  have hRv' : RA (cx Z st.h ι w') R v := RA_kf (C := cx (cx Z st.h ι w).M noHeap ι' w') (C' := cx Z st.h ι w') ⟨fun _ _ _ _ hh => hh, fun _ _ hh => hh, fun b _ hm hm' => hm (.inl hm')⟩ _ _ hR hRv
  unfold putS at hs
  cases hdst : dst with
  | none =>
    simp only [hdst] at hs
    cases hs
    exact h ι _ w' ⟨Z, K, Y, hZE, Rel.put_none r hg _⟩
  | some d =>
    simp only [hdst] at hs
    cases hb : Nat.ble (d + 1) E.N with
    | false => rw [hb] at hs; cases hs
    | true =>
      rw [hb] at hs
      cases hs
      exact h ι _ w' ⟨Z, K, Y, hZE, Rel.put r hg hb hRv'⟩
end
section
variable {E : Env} {ops : List Oper} {Q : Exit → St → Prop} {J : Jt} {s : Slots} {h : Heap} {i : Nat}
theorem OW_callW' (hE : E.Good) {Tab : World → Prop} {f : Nat} {L : List AV} {R : AV} (hc : DoesW E.P Tab f L R) (hJ : Tells Tab J) {o : Oper} {fo : Operand} {args : Array Operand} {ts : Array TypeId} (ho : ops[i]? = some o) (hop : o.op = .call ⟨.value fo, args, ts⟩) (hw : awant ops o s = some true)
    (hL : callArgs s fo args.toList = some (f, L)) (hk : kfs L = true) (hR : kf R = true) {s' : Slots} (hs : putS E.N s o.dst R = some s') (hk' : OW E ops (i + 1) Q ⟨J, s', h⟩) : OW E ops i Q ⟨J, s, h⟩ :=
  OW_callW (st := ⟨J, s, h⟩) hE hc hJ ho hop hw hL hk hR hs hk'
end
section
variable {E : Env} {ops : List Oper} {J : Jt} {h : Heap}
theorem LY_callW (hE : E.Good) {Tab : World → Prop} {f : Nat} {L : List AV} {R : AV} (hc : DoesW E.P Tab f L R) (hJ : Tells Tab J) {s : Slots} {o : Oper} {fo : Operand} {args : Array Operand} {ts : Array TypeId} (hop : o.op = .call ⟨.value fo, args, ts⟩)
    (hL : callArgs s fo args.toList = some (f, L)) (hkf : kfs L = true) (hR : kf R = true) : LY E ops.toArray J h o s R := by
  intro Z K Y ι a w m hl K' Q' hk'
  refine ⟨fun f _ => hE.wide.fn f, ?_⟩
  rw [Oper.semAt_plain E.F _ _ (by rw [hop]; intro c hc; cases hc)]
  have hevs := look_ev (ops := ops) (o := o) (s := s) (C := cx Z h ι w) (a := a) hl
  have hfo : RA (cx Z h ι w) (ev s fo) (a.eval fo) := hevs fo (by rw [hop]; simp [Op.operands, Call.operands])
  have hargs : RAs (cx Z h ι w) (args.toList.map (ev s)) (args.toList.map a.eval) := RAs_evs fun x hx => hevs x (by rw [hop]; simp [Op.operands, Call.operands]; exact .inr (by simpa using hx))
  obtain ⟨vf, vc, he, hv⟩ : ∃ vf vc, a.eval fo = .func (.func f) vf vc ∧ RAs (cx Z h ι w) L (vf ++ args.map a.eval ++ vc).toList := by
    unfold callArgs at hL
    split at hL
    · rename_i f' first cap hee
      cases hL
      rw [hee] at hfo
      simp only [RA, RD] at hfo
      obtain ⟨vf, vc, e, h1, h2⟩ := hfo
      exact ⟨vf, vc, e, by simpa using RAs_append (RAs_map_d.2 h1) (RAs_append hargs (RAs_map_d.2 h2))⟩
    · rename_i f' first cap hee
      cases hL
      rw [hee] at hfo
      simp only [RA] at hfo
      obtain ⟨vf, vc, e, h1, h2⟩ := hfo
      exact ⟨vf, vc, e, by simpa using RAs_append h1 (RAs_append hargs h2)⟩
    · cases hL
  obtain ⟨dst, op, ty, pos, af, gd⟩ := o
  simp only at hop
  subst hop
  rw [exec_call he hc.1]
  simp only [Oper.uponIn]
  refine ⟨fun hx => (by rw [hE.wide.depth] at hx; cases hx), ?_⟩
  have hZ : ∀ b, (cx Z h ι w).M b → b < w.heap.size := fun b hb => m.Mlt hb
  have hv' : RAs (cx (cx Z h ι w).M noHeap noι w) L (vf ++ args.map a.eval ++ vc).toList :=
    RAs_kf (C := cx Z h ι w) (C' := cx (cx Z h ι w).M noHeap noι w) ⟨fun _ _ _ _ hh => hh, fun _ _ hh => hh, fun b _ hm hm' => by rw [M_of] at hm'; exact hm hm'⟩ _ _ hkf hv
  have := hc.2 (E.n - 1) (cx Z h ι w).M w _ hZ (hJ _ _ _ _ m.Jw) hv'
  simp only [Array.toArray_toList] at this
  refine (hE.wide.calls this).mono fun e w' ⟨v, ι', he', hg, hRv, _⟩ => ?_
  subst he'
  exact hk' v w' hg (RA_kf (C := cx (cx Z h ι w).M noHeap ι' w') (C' := cx Z h ι w') ⟨fun _ _ _ _ hh => hh, fun _ _ hh => hh, fun b _ hm hm' => hm (.inl hm')⟩ _ _ hR hRv)
theorem HW_callW (hE : E.Good) {Tab : World → Prop} {f : Nat} {L : List AV} {R : AV} (hc : DoesW E.P Tab f L R) (hJ : Tells Tab J) {n i : Nat} {K : Slots → Prop} {s s' : Slots} {o : Oper} {fo : Operand} {args : Array Operand} {ts : Array TypeId} (ho : ops[i]? = some o) (hi : Nat.ble (i + 1) n = true) (hop : o.op = .call ⟨.value fo, args, ts⟩)
    (hw : awant ops o s = some true) (hL : callArgs s fo args.toList = some (f, L)) (hkf : kfs L = true) (hR : kf R = true) (hs : putS E.N s o.dst R = some s') (hk : HW E ops J h n (i + 1) K s') : HW E ops J h n i K s := by
  obtain ⟨hd, rfl⟩ := pu_of_putS hs
  exact HW_cons ho hi hd (.inl ⟨hw, LY_callW hE hc hJ hop hL hkf hR⟩) hk
end
theorem DoesW_of {P : Program} {Tab : World → Prop} (hst : ∀ w w', Tab w → Grew w w' → Tab w') {T : Nat → Option TI} (hT : TOk P T) (hm : P.follows .mixedOrders = true) {f : Nat} {fn : Func} {c : Code} {args : List AV} {R : AV} (hf : P.funcs[f]? = some fn) (hb : fn.body = some c) (hn : (fn.name == "runtime.NumGoroutine") = false)
    {N : Nat} (hN : fn.ntmps = N) (hl : Nat.ble args.length N = true)
    (h : ∀ F n Z, (⟨P, T, F, n, Z, N⟩ : Env).Good → F = Fence.wide → ∀ J, Tells Tab J → CW ⟨P, T, F, n, Z, N⟩ c (Ret T fn J noHeap R) ⟨J, argSlots args 0, noHeap⟩) : DoesW P Tab f args R := by
  subst hN
  refine ⟨⟨fn, hf, hn, by rw [hb]; rfl⟩, fun n Z w vs hZ hTab hv => ?_⟩
  let E : Env := ⟨P, T, Fence.wide, n, Z, fn.ntmps⟩
  have hE : E.Good := ⟨⟨hT, fun f => trivial, rfl, hm⟩, .inl rfl⟩
  refine callsIn_of_wp_marks hf hb trivial (wpIn_mono (h _ _ _ hE rfl (grewJ w) (fun K Y Z w' hw => hst w w' hTab hw.1) noι _ w ?_) ?_) rfl
  · exact ⟨Z, fun b => b < w.heap.size, fun _ => False, ⟨fun b hb => hb, fun _ hb => hb.elim, mono_grew w⟩, rel_begin hZ (fun b hb => hb) ⟨Grew.refl w, fun b hb => hb⟩ ((mono_grew w).closed (fun b => b < w.heap.size) (fun _ => False) Z) hv hl⟩
  · rintro e a' w' ⟨st, ι, ⟨he, hJ, ⟨Rs, hRs, hk, hRe⟩, _⟩, Z', K, Y, hZE, r⟩
    have goal : LeavesInM Fence.wide n P fn a'.tmps (fun e w' => ∃ v ι, e = .returned v ∧ Grew w w' ∧ RA (cx Z noHeap ι w') R v ∧ Own Z w.heap.size noHeap ι w') a'.defers .returning w' := by
      refine leaves_marks r fun w1 r1 => ?_
      have hg : Grew w w1 := by have := r1.mem.Jw; rw [hJ] at this; exact this.1
      obtain ⟨v, g1, g2⟩ := results_ok hT r1 hRs
      refine ⟨v, g1, v, noι, rfl, hg, hRe _ _ (RA_kf (C := cx Z' st.h ι w1) (C' := cx Z noHeap noι w1) ⟨fun _ _ _ _ hh => hh, fun _ _ hh => hh, fun b _ hm hm' => ?_⟩ _ _ hk g2), ⟨fun k e hk => by simp [noHeap] at hk, fun k b hk => by simp [dom, noHeap] at hk, fun k k' b hk => by simp [dom, noHeap] at hk⟩⟩
      rcases hm' with hm' | ⟨k, hk, _⟩
      · exact hm (.inl (hZE.1 b hm'))
      · simp [dom, noHeap] at hk
    rcases he with rfl | rfl
    · exact goal
    · exact goal
theorem law_endsW {P : Program} {Tab : World → Prop} {f : Nat} {args : List AV} (hD : DoesW P Tab f args (.d (.lit (.bool true)))) {w : World} (hT : Tab w) {vs : List Value} (hv : RAs (cx noM noHeap noι w) args vs) :
    Calls P f vs.toArray w fun e w' => e = .returned (.bool true) ∧ RowKit.Below w.heap.size w w' := by
  refine (callsIn_wide (n := 0)).1 ((hD.2 0 noM w vs (fun _ h => h.elim) hT hv).mono fun e w' ⟨v, ι, he, hg, hr, _⟩ => ?_)
  obtain ⟨rfl, _⟩ := RA_lit.1 hr
  exact ⟨he, hg.below⟩
end Go.AL
/- AL, part 38: rows begun by a call in a drawn head; calls that are lent own rows and give errors. -/
namespace Go.AL
set_option linter.unusedVariables false
set_option linter.unusedSimpArgs false
section
variable {E : Env} {ops : List Oper} {Q : Exit → St → Prop} {J : Jt} {s : Slots} {h : Heap}
theorem CW_drawn4 (hE : E.Good) (n g1 g2 k : Nat) {id : Nat} (hB : Region.lexTailB .any ops.toArray n = true) {o1 o2 : Oper} {t e : TypeId} {x1 x2 fo : Operand} {ts : Array TypeId} {f : Nat} {d d2 : Tmp} {ys1 ys2 : List (List D)}
    (ho1 : ops[g1]? = some o1) (hop1 : o1.op = .call ⟨.value fo, #[x1], ts⟩) (hfo : fo = .func f) (hgd1 : o1.guard = none) (hd1 : o1.dst = some d) (hn1 : Nat.ble (d + 1) E.N = true)
    (ho2 : ops[g2]? = some o2) (hop2 : o2.op = .call ⟨.builtin .append, #[.tmp d, x2], #[t, t]⟩) (hgd2 : o2.guard = none) (hd2 : o2.dst = some d2) (hn2 : (Nat.ble (d2 + 1) E.N && !Nat.beq d2 d) = true) (hx2 : x2 ≠ .tmp d)
    (haf : (o2.after.any fun e => Region.binds .any e && Nat.beq e.on g1) = true) (hlt : (Nat.ble (g1 + 1) n && Nat.ble (g2 + 1) n && !Nat.beq g1 g2) = true) (hk : h k = none)
    {z1 z2 : Nat} {z3 : List Value} (ht : E.T t = some ⟨.slice e, z1, z2, z3⟩) {kk : TK} {sz bts : Nat} {z6 : List Value} (hte : E.T e = some ⟨kk, sz, bts, z6⟩) (hpos : Nat.ble 1 sz = true) (hnn : ys1.length + ys2.length ≤ 140737488355328) (hbb : (ys1.length + ys2.length) * bts ≤ 140737488355328)
    (hclone : Does E.P f [.d (.sl sz bts ys1)] (oneRow e sz ys1) (.row 0))
    (hq : H3W ⟨h, k, g1, g2, d, e, sz, bts, x1, x2, ys1, ys2⟩ E ops J n 0 (fun s => OW E ops n Q ⟨J, s, hset (unkH k (hset h k (some (.row e sz ys1)))) k (some (.row e sz (ys1 ++ ys2)))⟩) s) : CW E (.region id ops.toArray true) Q ⟨J, s, h⟩ := fun ι a w r => by
  simp only [Bool.and_eq_true, Bool.not_eq_true'] at hlt hn2
  obtain ⟨⟨hl1, hl2⟩, hne⟩ := hlt
  have hl1 : g1 < n := Nat.le_of_ble_eq_true hl1
  have hl2 : g2 < n := Nat.le_of_ble_eq_true hl2
  have hne : g1 ≠ g2 := fun e => by subst e; simp at hne
  obtain ⟨ed, hem, hed⟩ := Array.any_eq_true'.1 haf
  simp only [Bool.and_eq_true] at hed
  have heon : ed.on = g1 := Nat.eq_of_beq_eq_true hed.2
  let p : Grow := ⟨h, k, g1, g2, d, e, sz, bts, x1, x2, ys1, ys2⟩
  simp only [Region.lexTailB, Bool.and_eq_true, decide_eq_true_eq] at hB
  obtain ⟨⟨⟨⟨hsel, hn⟩, hs⟩, hc⟩, hlex⟩ := hB
  have hn' : n < ops.length := by simpa using hn
  have htl : (ops.take n).length = n := by simp; omega
  have hdl : (ops.drop n).length = ops.toArray.size - n := by simp
  have inv0 : HeadInv .any ops.toArray n (Array.replicate ops.toArray.size false) :=
    ⟨by simp, fun j oj _ hl => (by rw [getD_replicate_false] at hl; cases hl), fun t _ ht => getD_in (by simpa using ht) (getD_replicate_false _ _)⟩
  have hYS : YStable ops (p.Y E ops J) := by
    intro i o s s' x ho hss hy
    rcases hy with ⟨h1, h2, h3⟩ | ⟨h1, h2, h3⟩ | ⟨h1, h2, h2', o', h3, h4, h5⟩
    · have hoo : o = o1 := by
        have h1' : i = g1 := h1
        rw [h1', ho1] at ho; exact (Option.some.inj ho).symm
      subst hoo
      refine .inl ⟨h1, h2, ?_⟩
      rw [← h3]
      refine ev_same fun t' e' => hss t' ?_
      simp only [Oper.looksAt, List.mem_append, List.mem_filterMap]
      refine .inl ⟨.tmp t', ?_, rfl⟩
      rw [hop1]
      have e'' : x1 = .tmp t' := e'
      simp [Op.operands, Call.operands, ← e'']
    · have hoo : o = o2 := by
        have h1' : i = g2 := h1
        rw [h1', ho2] at ho; exact (Option.some.inj ho).symm
      subst hoo
      refine .inr (.inl ⟨h1, h2, ?_⟩)
      rw [← h3]
      refine ev_same fun t' e' => hss t' ?_
      simp only [Oper.looksAt, List.mem_append, List.mem_filterMap]
      refine .inl ⟨.tmp t', ?_, rfl⟩
      rw [hop2]
      have e'' : x2 = .tmp t' := e'
      simp [Op.operands, Call.operands, ← e'']
    · have hoo : o' = o := by rw [ho] at h3; exact (Option.some.inj h3).symm
      subst hoo
      exact .inr (.inr ⟨h1, h2, h2', o', h3, h4, fun b => YA_same hss (h5 b)⟩)
  have H0 := anyB_lex (E := E) (Y := p.Y E ops J) (g := ops.toArray.size - n) hYS hs hc hn (ops.take n) 0 _ s (fun j hj => by
    have hj' : j < n := by rw [htl] at hj; exact hj
    simp [hj']) (by simpa using htl) inv0 (fun j hj => by omega) (by rw [htl]; exact hlex) (by simpa [H3W] using hq)
  have b2 : bits (Array.replicate ops.toArray.size false) g2 = false := getD_replicate_false _ _
  have b1 : bits (Array.replicate ops.toArray.size false) g1 = false := getD_replicate_false _ _
  have hH0 : p.H (bits (Array.replicate ops.toArray.size false)) = h := by
    show (bif bits _ g2 then _ else bif bits _ g1 then _ else _) = h
    rw [b1, b2]; rfl
  have hR0 : p.R (bits (Array.replicate ops.toArray.size false)) s ι a := by
    intro _
    refine ⟨fun i => ?_, fun hb => (by
      have hb' : bits (Array.replicate ops.toArray.size false) g1 = true := hb
      rw [b1] at hb'; cases hb')⟩
    obtain ⟨Z, K, Y, _, r⟩ := r
    exact RA_nokey (C := cx Z h ι w) (k := k) (by show ¬ (h k).isSome = true; rw [hk]; simp) _ _ (r.slot i)
  have r1 : RelS E ⟨J, s, p.H (bits (Array.replicate ops.toArray.size false))⟩ ι a { w with drawn := w.drawn + 1 } := by
    rw [hH0]
    obtain ⟨Z, K, Y, hZE, r⟩ := r
    exact ⟨Z, K, Y, hZE, r.mem.grew (Grew.drew w), r.size, fun i => RA_keeps (keepsC_grew (K := K) (J := J K Y Z) (Grew.drew w)) _ _ (r.slot i), r.ds.grew (Grew.drew w)⟩
  refine wpIn_region_any hE.ok.mixed ?_
  have hh := wpAnyIn_of_headR (Y := p.Y E ops J) (J := J) (Q' := Post E Q) p.H p.R (g := ops.toArray.size - n) (fun i o listed s x ho inv hi hin hy hdo ι a w r hR K' hk' => ?_) (fun listed s ι a' w' r' hL => by
    have hb : bits listed g2 = true := hL.1.2 g2 hl2
    have hH : p.H (bits listed) = p.h2 := by
      show (bif bits listed g2 then _ else _) = _
      rw [hb]; rfl
    rw [hH] at r'
    have := wpAnyIn_of_seq (Q' := Post E Q) (ops.drop n) n listed a' w' (fun j => by simp [List.getElem?_drop]) (by rw [hdl]; exact hL.1.1) (hL.2 ι a' w' r')
    rwa [hdl] at this) _ _ _ ι a _ inv0 r1 hR0 H0
  · rw [htl] at hh
    rwa [show n + (ops.toArray.size - n) = ops.toArray.size by simp; omega] at hh
  · have hun : listed.getD i true = false := (mem_ready.1 hi).1
    have hst' : ∀ j, j ≠ i → bits (listed.setIfInBounds i true) j = bits listed j := fun j hj => getD_set_ne false (Ne.symm hj)
    have hsz : i < listed.size := by
      rw [inv.size]
      have := (List.getElem?_eq_some_iff.1 ho).1
      simpa using this
    have hseti : bits (listed.setIfInBounds i true) i = true := by simp [bits, hsz]
    have hdlt : ∀ {a : Act} {ι w}, RelS E ⟨J, s, p.H (bits listed)⟩ ι a w → a.tmps.size = E.N := fun ⟨Z, K, Y, _, r⟩ => r.size
    rcases hy with ⟨h1, rfl, h3⟩ | ⟨h1, rfl, h3⟩ | ⟨h1, h2, h2', o', h3, h4, h5⟩
    · -- the row begins
      have h1 : i = g1 := h1
      subst h1
      have hoo : o = o1 := by rw [ho1] at ho; exact (Option.some.inj ho).symm
      subst hoo
      have b1 : bits listed i = false := getD_both hun
      have b2 : bits listed g2 = false := by
        cases hb : bits listed g2 with
        | false => rfl
        | true =>
          have := inv.closed g2 o2 (by simpa using ho2) hb ed hem hed.1
          rw [heon] at this
          rw [show listed.getD i false = bits listed i from rfl, b1] at this
          cases this
      have hHb : p.H (bits listed) = h := by
        show (bif bits listed g2 then _ else bif bits listed i then _ else _) = h
        rw [b1, b2]; rfl
      have hHa : p.H (bits (listed.setIfInBounds i true)) = hset h k (some (.row e sz ys1)) := by
        show (bif bits _ g2 then _ else bif bits _ i then _ else _) = _
        rw [hst' g2 (Ne.symm hne), b2, hseti]; rfl
      rw [hHb] at r
      have g := opG_of_OW (E := E) (o := o) (st := ⟨J, s, h⟩) (K := fun st' => st' = ⟨J, pu s o.dst (.row k), Go.AL.hset h k (some (.row e sz ys1))⟩) hgd1
        (OW_callRow' hE k hclone (o := o) rfl hop1 (by simp [awant, hgd1]) (by subst hfo; simp only [callArgs, ev]; rw [show [x1].map (ev s) = [.d (.sl sz bts ys1)] from by simp only [List.map_cons, List.map_nil]; rw [show ev s x1 = .d (.sl sz bts ys1) from h3]]; rfl) rfl hk (s' := pu s o.dst (.row k)) (by rw [hd1]; simp [putS, hn1, pu]) (OW_end rfl ⟨rfl, rfl⟩))
      unfold wpOpIn
      simp only [List.getElem?_toArray, ho]
      rw [if_pos (by simp [Region.wanted, hgd1])]
      refine g ι a w r K' (Post E Q) fun st' ι' a' w' hst r' => ?_
      subst hst
      rw [hd1] at r'
      obtain ⟨Z, K, Y, hZE, r'⟩ := r'
      have hrow : a'.tmps.getD d undef = ι' k := by
        have := r'.slot d
        have hsd : pu s (some d) (.row k) d = .row k := sset_same _ _ _
        rw [show (⟨J, pu s (some d) (.row k), _⟩ : St).s d = _ from hsd] at this
        simp only [RA] at this
        exact this.2
      refine hk' ι' a' w' ?_ ?_
      · rw [hHa, hd1]
        refine ⟨Z, K, Y, hZE, r'.mem, r'.size, fun j => ?_, r'.ds⟩
        by_cases hj : j = d
        · subst hj
          show RA _ (pu s (some j) .any j) _
          rw [show pu s (some j) .any j = .any from sset_same _ _ _]; simp [RA]
        · have := r'.slot j
          show RA _ (pu s (some d) .any j) _
          rw [show pu s (some d) .any j = s j from sset_ne _ _ hj]
          rwa [show (⟨J, pu s (some d) (.row k), _⟩ : St).s j = s j from sset_ne _ _ hj] at this
      · intro _
        rw [hd1]
        refine ⟨fun j => ?_, fun _ => ⟨sset_same _ _ _, hrow⟩⟩
        by_cases hj : j = d
        · subst hj; rw [show pu s (some j) .any j = .any from sset_same _ _ _]; rfl
        · rw [show pu s (some d) .any j = s j from sset_ne _ _ hj]; exact (hR b2).1 j
    · -- it is lengthened
      have h1 : i = g2 := h1
      subst h1
      have hoo : o = o2 := by rw [ho2] at ho; exact (Option.some.inj ho).symm
      subst hoo
      have b2 : bits listed i = false := getD_both hun
      have b1 : bits listed g1 = true := by
        obtain ⟨_, o', ho', hall⟩ := mem_ready.1 hi
        have : o' = o := by
          have h' : ops[i]? = some o' := by simpa using ho'
          rw [ho] at h'; exact (Option.some.inj h').symm
        subst this
        have hl := hall ed hem hed.1
        rw [heon] at hl
        have hlt1 : g1 < listed.size := by rw [inv.size]; have := (List.getElem?_eq_some_iff.1 ho1).1; simpa using this
        simpa [bits, hlt1] using hl
      have hHb : p.H (bits listed) = p.h1 := by
        show (bif bits listed i then _ else bif bits listed g1 then _ else _) = _
        rw [b1, b2]; rfl
      have hHa : p.H (bits (listed.setIfInBounds i true)) = p.h2 := by
        show (bif bits _ i then _ else _) = _
        rw [hseti]; rfl
      rw [hHb] at r
      obtain ⟨hnk, hrr⟩ := hR b2
      obtain ⟨hsd, hrow⟩ := hrr b1
      have hsd : s d = .any := hsd
      have hrow : a.tmps.getD d undef = ι k := hrow
      have r2 : RelS E ⟨J, sset s d (.row k), p.h1⟩ ι a w := by
        obtain ⟨Z, K, Y, hZE, r⟩ := r
        refine ⟨Z, K, Y, hZE, r.mem, r.size, fun j => ?_, r.ds⟩
        by_cases hj : j = d
        · subst hj
          show RA _ (sset s j (.row k) j) _
          rw [sset_same]
          simp only [RA]
          exact ⟨by show (p.h1 k).isSome = true; show (hset h k _ k).isSome = true; rw [hset_same]; rfl, hrow⟩
        · show RA _ (sset s d (.row k) j) _
          rw [sset_ne _ _ hj]; exact r.slot j
      have hunk : unkS k (sset s d (.row k)) = s := by
        funext j
        by_cases hj : j = d
        · subst hj; simp [unkS, unk, sset_same, nokey, hsd]
        · have : nokey k (s j) = true := hnk j
          simp [unkS, unk, sset_ne _ _ hj, this]
      have hev2 : ev (sset s d (.row k)) x2 = .d (.sl sz bts ys2) := by
        rw [ev_same (s := s)]
        · exact h3
        · intro t' e'
          exact sset_ne _ _ fun e'' => hx2 (by rw [e', e''])
      have g := opG_of_OW (E := E) (o := o) (st := ⟨J, sset s d (.row k), p.h1⟩) (K := fun st' => st' = ⟨J, pu s o.dst (.row k), p.h2⟩) hgd2
        (OW_append' hE (key := k) (o := o) rfl hop2 (by simp [awant, hgd2]) ht hte hpos (show ev (sset s d (.row k)) (.tmp d) = .row k from sset_same _ _ _) (show p.h1 k = some (.row e sz ys1) from hset_same _ _ _) (.inl hev2) hnn hbb (s' := pu s o.dst (.row k)) (by rw [hd2, hunk]; simp [putS, hn2.1, pu]) (OW_end rfl ⟨rfl, rfl⟩))
      unfold wpOpIn
      simp only [List.getElem?_toArray, ho]
      rw [if_pos (by simp [Region.wanted, hgd2])]
      refine g ι a w r2 K' (Post E Q) fun st' ι' a' w' hst r' => ?_
      subst hst
      refine hk' ι' a' w' ?_ ?_
      · rw [hHa]; exact r'
      · intro hb
        have : bits (listed.setIfInBounds i true) i = false := hb
        rw [hseti] at this; cases this
    · -- all others
      have hoo : o' = o := by rw [ho] at h3; exact (Option.some.inj h3).symm
      subst hoo
      have hHs : p.H (bits (listed.setIfInBounds i true)) = p.H (bits listed) := by
        show (bif bits _ g2 then _ else bif bits _ g1 then _ else _) = (bif bits _ g2 then _ else bif bits _ g1 then _ else _)
        rw [hst' g2 (Ne.symm h2), hst' g1 (Ne.symm h1)]
      have hRs : ∀ v : Value, p.R (bits (listed.setIfInBounds i true)) (pu s o'.dst x) ι (a.put o'.dst v) := by
        intro v hb
        have hb' : bits listed g2 = false := by
          have : bits (listed.setIfInBounds i true) g2 = false := hb
          rwa [hst' g2 (Ne.symm h2)] at this
        obtain ⟨q1, q2⟩ := hR hb'
        refine ⟨fun j => ?_, fun hb1 => ?_⟩
        · cases hd : o'.dst with
          | none => exact q1 j
          | some dd =>
            by_cases hj : j = dd
            · subst hj; rw [show pu s (some j) x j = x from sset_same _ _ _]; exact h2'
            · rw [show pu s (some dd) x j = s j from sset_ne _ _ hj]; exact q1 j
        · have hb1' : bits listed g1 = true := by
            have : bits (listed.setIfInBounds i true) g1 = true := hb1
            rwa [hst' g1 (Ne.symm h1)] at this
          obtain ⟨q3, q4⟩ := q2 hb1'
          cases hd : o'.dst with
          | none => exact ⟨q3, by simpa [Act.put] using q4⟩
          | some dd =>
            have hdd : dd ≠ d := fun e => h4 (by rw [hd, e])
            refine ⟨by rw [show pu s (some dd) x p.d = s p.d from sset_ne _ _ (Ne.symm hdd)]; exact q3, ?_⟩
            have : (a.put (some dd) v).tmps.getD d undef = a.tmps.getD d undef := by
              simp [Act.put, Array.getD_eq_getD_getElem?, Array.getElem?_setIfInBounds, hdd]
            rw [show p.d = d from rfl, this]; exact q4
      have hya := h5 (bits listed)
      unfold wpOpIn
      simp only [List.getElem?_toArray, ho]
      have hwant := fun {b} (hw : awant ops o' s = some b) => awant_ok (st := ⟨J, s, p.H (bits listed)⟩) r hw
      obtain ⟨Z, K, Y, hZE, r⟩ := r
      have put : ∀ v w', Grew w w' → RA (cx Z (p.H (bits listed)) ι w') x v → RelS E ⟨J, pu s o'.dst x, p.H (bits listed)⟩ ι (a.put o'.dst v) w' := by
        intro v w' hg hv
        cases hd : o'.dst with
        | none => exact ⟨Z, K, Y, hZE, Rel.put_none r hg v⟩
        | some dd => exact ⟨Z, K, Y, hZE, Rel.put r hg (by rw [hd] at hdo; exact hdo) hv⟩
      rcases hya with ⟨hw, hy⟩ | ⟨hw, rfl⟩
      · rw [if_pos (hwant hw)]
        exact hy Z K Y ι a w r.mem (fun t _ => r.slot t) K' (Post E Q) fun v w' hg hv => hk' ι _ w' (by rw [hHs]; exact put v w' hg hv) (hRs v)
      · rw [if_neg (by rw [hwant hw]; simp)]
        exact ⟨fun f _ => hE.wide.fn f, hk' ι _ w (by rw [hHs]; exact put undef w (Grew.refl w) (by simp [RA, RAs, undef])) (hRs undef)⟩

variable {p : Grow} {n i : Nat} {K : Slots → Prop}
end
/-- Data without memory. -/
def flatD : D → Bool
  | .lit _ => true
  | .iface _ x => flatD x
  | _ => false
theorem RD_flat {w w' : World} {M M' : Nat → Prop} : ∀ {x : D} {v : Value}, flatD x = true → RD w M x v → RD w' M' x v
  | .lit u, v, _, h => by simpa only [RD] using h
  | .iface t x, v, hx, h => by
    simp only [RD] at h ⊢
    obtain ⟨u, e, h1⟩ := h
    exact ⟨u, e, RD_flat (by simpa [flatD] using hx) h1⟩
section
variable {E : Env} {ops : List Oper} {Q : Exit → St → Prop} {i : Nat} {J : Jt} {h : Heap} {s : Slots}
/-- A call of a function that writes nothing of what it is handed and gives a plain value: what is the frame's own may be lent to it as data. -/
theorem OW_callLendD' (hE : E.Good) {sF : Slots} {hF : Heap} (hle : LE E ⟨J, s, h⟩ ⟨J, sF, hF⟩) {f : Nat} {L : List AV} {x : D} (hx : flatD x = true) (hc : Does E.P f L noHeap (.d x)) {o : Oper} {fo : Operand} {args : Array Operand} {ts : Array TypeId} (ho : ops[i]? = some o) (hop : o.op = .call ⟨.value fo, args, ts⟩) (hw : awant ops o s = some true)
    (hL : callArgs sF fo args.toList = some (f, L)) (hk : kfs L = true) {s' : Slots} (hs : putS E.N s o.dst (.d x) = some s') (hq : OW E ops (i + 1) Q ⟨J, s', h⟩) : OW E ops i Q ⟨J, s, h⟩ := fun ι a w r => by
  have hd : ops.drop i = o :: ops.drop (i + 1) := by
    obtain ⟨hlt, rfl⟩ := List.getElem?_eq_some_iff.1 ho
    exact List.drop_eq_getElem_cons hlt
  rw [hd]
  simp only [wpListIn]
  rw [if_pos (awant_ok r hw)]
  refine ⟨fun f _ => hE.wide.fn f, ?_⟩
  rw [Oper.semAt_plain E.F _ _ (by rw [hop]; intro c hc; cases hc)]
  obtain ⟨ι2, Z2, K2, Y2, hZE2, r2⟩ := hle ι a w r
  obtain ⟨Z, K, Y, hZE, r⟩ := r
  obtain ⟨vf, vc, he, hv⟩ := call_args hL r2.slot
  obtain ⟨dst, op, ty, pos, af, gd⟩ := o
  simp only at hop
  subst hop
  rw [exec_call he hc.1]
  simp only [Oper.uponIn]
  refine ⟨fun hx => (by rw [hE.wide.depth] at hx; cases hx), ?_⟩
  have hZ : ∀ b, (cx Z2 hF ι2 w).M b → b < w.heap.size := fun b hb => r2.mem.Mlt hb
  have hv' : RAs (cx (cx Z2 hF ι2 w).M noHeap noι w) L (vf ++ args.map a.eval ++ vc).toList :=
    RAs_kf (C := cx Z2 hF ι2 w) (C' := cx (cx Z2 hF ι2 w).M noHeap noι w) ⟨fun _ _ _ _ hh => hh, fun _ _ hh => hh, fun b _ hm hm' => by rw [M_of] at hm'; exact hm hm'⟩ _ _ hk hv
  have := hc.2 (E.n - 1) (cx Z2 hF ι2 w).M w _ hZ hv'
  simp only [Array.toArray_toList] at this
  refine (hE.wide.calls this).mono fun e w' ⟨v, ι', he', hg, hRv, _⟩ => ?_
  subst he'
  show wpListIn _ _ _ _ _ _ _ _
  have hRv' : RA (cx Z h ι w') (.d x) v := by
    simp only [RA] at hRv ⊢
    exact RD_flat hx hRv
  unfold putS at hs
  cases hdst : dst with
  | none =>
    simp only [hdst] at hs
    cases hs
    exact hq ι _ w' ⟨Z, K, Y, hZE, Rel.put_none r hg _⟩
  | some d =>
    simp only [hdst] at hs
    cases hb : Nat.ble (d + 1) E.N with
    | false => rw [hb] at hs; cases hs
    | true =>
      rw [hb] at hs
      cases hs
      exact hq ι _ w' ⟨Z, K, Y, hZE, Rel.put r hg hb hRv'⟩

end
end Go.AL
/- AL, part 39: a row that is begun by a call, lengthened, and lent in a drawn head. -/
namespace Go.AL
set_option linter.unusedVariables false
set_option linter.unusedSimpArgs false
mutual
def flatA : AV → Bool
  | .d x => flatD x
  | .agg xs => flatAs xs
  | .tup xs => flatAs xs
  | _ => false
def flatAs : List AV → Bool
  | [] => true
  | x :: xs => flatA x && flatAs xs
end
mutual
theorem RA_flat {C C' : Cx} : ∀ {x : AV} {v : Value}, flatA x = true → RA C x v → RA C' x v
  | .d x, v, hx, h => by simp only [RA] at h ⊢; exact RD_flat hx h
  | .agg xs, v, hx, h => by
    simp only [RA] at h ⊢
    obtain ⟨vs, e, h1⟩ := h
    exact ⟨vs, e, RAs_flat (by simpa [flatA] using hx) h1⟩
  | .tup xs, v, hx, h => by
    simp only [RA] at h ⊢
    obtain ⟨vs, e, h1⟩ := h
    exact ⟨vs, e, RAs_flat (by simpa [flatA] using hx) h1⟩
  | .ptr _ _, v, hx, _ => by simp [flatA] at hx
  | .row _, v, hx, _ => by simp [flatA] at hx
  | .view _ _ _, v, hx, _ => by simp [flatA] at hx
  | .fn _ _ _, v, hx, _ => by simp [flatA] at hx
  | .any, v, hx, _ => by simp [flatA] at hx
theorem RAs_flat {C C' : Cx} : ∀ {xs : List AV} {vs : List Value}, flatAs xs = true → RAs C xs vs → RAs C' xs vs
  | [], vs, _, h => by simpa only [RAs] using h
  | x :: xs, vs, hx, h => by
    simp only [RAs] at h ⊢
    obtain ⟨v, t, e, h1, h2⟩ := h
    simp only [flatAs, Bool.and_eq_true] at hx
    exact ⟨v, t, e, RA_flat hx.1 h1, RAs_flat hx.2 h2⟩
end
mutual
theorem fz_kf {k : Nat} {X : D} : ∀ (x : AV), kf x = true → fz k X x = x
  | .d x, _ => by simp [fz]
  | .any, _ => by simp [fz]
  | .agg xs, h => by simp [fz, fzs_kf xs (by simpa [kf] using h)]
  | .tup xs, h => by simp [fz, fzs_kf xs (by simpa [kf] using h)]
  | .fn f a b, h => by
    simp only [kf, Bool.and_eq_true] at h
    simp [fz, fzs_kf a h.1, fzs_kf b h.2]
  | .ptr _ _, h => by simp [kf] at h
  | .row _, h => by simp [kf] at h
  | .view _ _ _, h => by simp [kf] at h
theorem fzs_kf {k : Nat} {X : D} : ∀ (xs : List AV), kfs xs = true → fzs k X xs = xs
  | [], _ => by simp [fzs]
  | x :: xs, h => by
    simp only [kfs, Bool.and_eq_true] at h
    simp [fzs, fz_kf x h.1, fzs_kf xs h.2]
end
theorem ev_fzS {k : Nat} {X : D} {s : Slots} (x : Operand) : ev (fzS k X s) x = fz k X (ev s x) := by
  cases x with
  | tmp t => rfl
  | const v => simp only [ev]; cases okLitB v <;> rfl
  | func f => rfl
  | global g => rfl
section
variable {E : Env} {ops : List Oper} {Q : Exit → St → Prop} {i : Nat} {J : Jt} {h : Heap} {s : Slots}
/-- A call of a function that writes nothing of what it is handed and gives a plain value: what is the frame's own may be lent to it as data. -/
theorem OW_callLendA' (hE : E.Good) {sF : Slots} {hF : Heap} (hle : LE E ⟨J, s, h⟩ ⟨J, sF, hF⟩) {f : Nat} {L : List AV} {x : AV} (hx : flatA x = true) (hc : Does E.P f L noHeap x) {o : Oper} {fo : Operand} {args : Array Operand} {ts : Array TypeId} (ho : ops[i]? = some o) (hop : o.op = .call ⟨.value fo, args, ts⟩) (hw : awant ops o s = some true)
    (hL : callArgs sF fo args.toList = some (f, L)) (hk : kfs L = true) {s' : Slots} (hs : putS E.N s o.dst x = some s') (hq : OW E ops (i + 1) Q ⟨J, s', h⟩) : OW E ops i Q ⟨J, s, h⟩ := fun ι a w r => by
  have hd : ops.drop i = o :: ops.drop (i + 1) := by
    obtain ⟨hlt, rfl⟩ := List.getElem?_eq_some_iff.1 ho
    exact List.drop_eq_getElem_cons hlt
  rw [hd]
  simp only [wpListIn]
  rw [if_pos (awant_ok r hw)]
  refine ⟨fun f _ => hE.wide.fn f, ?_⟩
  rw [Oper.semAt_plain E.F _ _ (by rw [hop]; intro c hc; cases hc)]
  obtain ⟨ι2, Z2, K2, Y2, hZE2, r2⟩ := hle ι a w r
  obtain ⟨Z, K, Y, hZE, r⟩ := r
  obtain ⟨vf, vc, he, hv⟩ := call_args hL r2.slot
  obtain ⟨dst, op, ty, pos, af, gd⟩ := o
  simp only at hop
  subst hop
  rw [exec_call he hc.1]
  simp only [Oper.uponIn]
  refine ⟨fun hx => (by rw [hE.wide.depth] at hx; cases hx), ?_⟩
  have hZ : ∀ b, (cx Z2 hF ι2 w).M b → b < w.heap.size := fun b hb => r2.mem.Mlt hb
  have hv' : RAs (cx (cx Z2 hF ι2 w).M noHeap noι w) L (vf ++ args.map a.eval ++ vc).toList :=
    RAs_kf (C := cx Z2 hF ι2 w) (C' := cx (cx Z2 hF ι2 w).M noHeap noι w) ⟨fun _ _ _ _ hh => hh, fun _ _ hh => hh, fun b _ hm hm' => by rw [M_of] at hm'; exact hm hm'⟩ _ _ hk hv
  have := hc.2 (E.n - 1) (cx Z2 hF ι2 w).M w _ hZ hv'
  simp only [Array.toArray_toList] at this
  refine (hE.wide.calls this).mono fun e w' ⟨v, ι', he', hg, hRv, _⟩ => ?_
  subst he'
  show wpListIn _ _ _ _ _ _ _ _
  have hRv' : RA (cx Z h ι w') x v := RA_flat hx hRv
  unfold putS at hs
  cases hdst : dst with
  | none =>
    simp only [hdst] at hs
    cases hs
    exact hq ι _ w' ⟨Z, K, Y, hZE, Rel.put_none r hg _⟩
  | some d =>
    simp only [hdst] at hs
    cases hb : Nat.ble (d + 1) E.N with
    | false => rw [hb] at hs; cases hs
    | true =>
      rw [hb] at hs
      cases hs
      exact hq ι _ w' ⟨Z, K, Y, hZE, Rel.put r hg hb hRv'⟩


def Grow.Y5 (p : Grow) (g3 : Nat) (R3 : AV) (P3 : Slots → Prop) (E : Env) (ops : List Oper) (J : Jt) (i : Nat) (s : Slots) (x : AV) : Prop :=
  (i = p.g1 ∧ x = .any ∧ ev s p.x1 = .d (.sl p.sz p.bts p.ys1)) ∨
  (i = p.g2 ∧ x = .row p.k ∧ ev s p.x2 = .d (.sl p.sz p.bts p.ys2)) ∨
  (i ≠ p.g1 ∧ i ≠ p.g2 ∧ nokey p.k x = true ∧ ∃ o, ops[i]? = some o ∧ o.dst ≠ some p.d ∧ ∀ b, YA E ops J (p.H b) o s x) ∨
  (i = g3 ∧ x = R3 ∧ P3 s)
def H5W (p : Grow) (g3 : Nat) (R3 : AV) (P3 : Slots → Prop) (E : Env) (ops : List Oper) (J : Jt) (n i : Nat) (K : Slots → Prop) (s : Slots) : Prop := QB E (p.Y5 g3 R3 P3 E ops J) K ((ops.take n).drop i) i s
theorem CW_drawn5 (hE : E.Good) (n g1 g2 g3 k : Nat) {id : Nat} (hB : Region.lexTailB .any ops.toArray n = true) {o1 o2 : Oper} {t e : TypeId} {x1 x2 fo : Operand} {ts : Array TypeId} {f : Nat} {d d2 : Tmp} {ys1 ys2 : List (List D)}
    (ho1 : ops[g1]? = some o1) (hop1 : o1.op = .call ⟨.value fo, #[x1], ts⟩) (hfo : fo = .func f) (hgd1 : o1.guard = none) (hd1 : o1.dst = some d) (hn1 : Nat.ble (d + 1) E.N = true)
    (ho2 : ops[g2]? = some o2) (hop2 : o2.op = .call ⟨.builtin .append, #[.tmp d, x2], #[t, t]⟩) (hgd2 : o2.guard = none) (hd2 : o2.dst = some d2) (hn2 : (Nat.ble (d2 + 1) E.N && !Nat.beq d2 d) = true) (hx2 : x2 ≠ .tmp d)
    (haf : (o2.after.any fun e => Region.binds .any e && Nat.beq e.on g1) = true) (hlt : (Nat.ble (g1 + 1) n && Nat.ble (g2 + 1) n && !Nat.beq g1 g2) = true) (hk : h k = none)
    {z1 z2 : Nat} {z3 : List Value} (ht : E.T t = some ⟨.slice e, z1, z2, z3⟩) {kk : TK} {sz bts : Nat} {z6 : List Value} (hte : E.T e = some ⟨kk, sz, bts, z6⟩) (hpos : Nat.ble 1 sz = true) (hnn : ys1.length + ys2.length ≤ 140737488355328) (hbb : (ys1.length + ys2.length) * bts ≤ 140737488355328)
    {o3 : Oper} {fo3 x0 xr x5 : Operand} {ts3 : Array TypeId} {f3 : Nat} {V0 V5 R3 : AV} (ho3 : ops[g3]? = some o3) (hop3 : o3.op = .call ⟨.value fo3, #[x0, xr, x5], ts3⟩) (hfo3 : fo3 = .func f3) (hgd3 : o3.guard = none)
    (haf3 : (o3.after.any fun e => Region.binds .any e && Nat.beq e.on g2) = true) (hne3 : (Nat.ble (g3 + 1) n && !Nat.beq g3 g1 && !Nat.beq g3 g2) = true) (hV0 : kf V0 = true) (hV5 : kf V5 = true) (hR3 : flatA R3 = true) (hnk3 : nokey k R3 = true)
    (hc3 : Does E.P f3 [V0, .d (.sl sz bts (ys1 ++ ys2)), V5] noHeap R3) (hclone : Does E.P f [.d (.sl sz bts ys1)] (oneRow e sz ys1) (.row 0))
    (hq : H5W ⟨h, k, g1, g2, d, e, sz, bts, x1, x2, ys1, ys2⟩ g3 R3 (fun s => ev s x0 = V0 ∧ ev s xr = .row k ∧ ev s x5 = V5) E ops J n 0 (fun s => OW E ops n Q ⟨J, s, hset (unkH k (hset h k (some (.row e sz ys1)))) k (some (.row e sz (ys1 ++ ys2)))⟩) s) : CW E (.region id ops.toArray true) Q ⟨J, s, h⟩ := fun ι a w r => by
  simp only [Bool.and_eq_true, Bool.not_eq_true'] at hlt hn2
  obtain ⟨⟨hl1, hl2⟩, hne⟩ := hlt
  simp only [Bool.and_eq_true, Bool.not_eq_true'] at hne3
  have hg31 : g3 ≠ g1 := fun e => by subst e; simp at hne3
  have hg32 : g3 ≠ g2 := fun e => by subst e; simp at hne3
  obtain ⟨ed3, hem3, hed3⟩ := Array.any_eq_true'.1 haf3
  simp only [Bool.and_eq_true] at hed3
  have heon3 : ed3.on = g2 := Nat.eq_of_beq_eq_true hed3.2
  have hl1 : g1 < n := Nat.le_of_ble_eq_true hl1
  have hl2 : g2 < n := Nat.le_of_ble_eq_true hl2
  have hne : g1 ≠ g2 := fun e => by subst e; simp at hne
  obtain ⟨ed, hem, hed⟩ := Array.any_eq_true'.1 haf
  simp only [Bool.and_eq_true] at hed
  have heon : ed.on = g1 := Nat.eq_of_beq_eq_true hed.2
  let p : Grow := ⟨h, k, g1, g2, d, e, sz, bts, x1, x2, ys1, ys2⟩
  simp only [Region.lexTailB, Bool.and_eq_true, decide_eq_true_eq] at hB
  obtain ⟨⟨⟨⟨hsel, hn⟩, hs⟩, hc⟩, hlex⟩ := hB
  have hn' : n < ops.length := by simpa using hn
  have htl : (ops.take n).length = n := by simp; omega
  have hdl : (ops.drop n).length = ops.toArray.size - n := by simp
  have inv0 : HeadInv .any ops.toArray n (Array.replicate ops.toArray.size false) :=
    ⟨by simp, fun j oj _ hl => (by rw [getD_replicate_false] at hl; cases hl), fun t _ ht => getD_in (by simpa using ht) (getD_replicate_false _ _)⟩
  have hYS : YStable ops (p.Y5 g3 R3 (fun s => ev s x0 = V0 ∧ ev s xr = .row k ∧ ev s x5 = V5) E ops J) := by
    intro i o s s' x ho hss hy
    rcases hy with ⟨h1, h2, h3⟩ | ⟨h1, h2, h3⟩ | ⟨h1, h2, h2', o', h3, h4, h5⟩ | ⟨h1, h2, h3, h4, h5⟩
    · have hoo : o = o1 := by
        have h1' : i = g1 := h1
        rw [h1', ho1] at ho; exact (Option.some.inj ho).symm
      subst hoo
      refine .inl ⟨h1, h2, ?_⟩
      rw [← h3]
      refine ev_same fun t' e' => hss t' ?_
      simp only [Oper.looksAt, List.mem_append, List.mem_filterMap]
      refine .inl ⟨.tmp t', ?_, rfl⟩
      rw [hop1]
      have e'' : x1 = .tmp t' := e'
      simp [Op.operands, Call.operands, ← e'']
    · have hoo : o = o2 := by
        have h1' : i = g2 := h1
        rw [h1', ho2] at ho; exact (Option.some.inj ho).symm
      subst hoo
      refine .inr (.inl ⟨h1, h2, ?_⟩)
      rw [← h3]
      refine ev_same fun t' e' => hss t' ?_
      simp only [Oper.looksAt, List.mem_append, List.mem_filterMap]
      refine .inl ⟨.tmp t', ?_, rfl⟩
      rw [hop2]
      have e'' : x2 = .tmp t' := e'
      simp [Op.operands, Call.operands, ← e'']
    · have hoo : o' = o := by rw [ho] at h3; exact (Option.some.inj h3).symm
      subst hoo
      exact .inr (.inr (.inl ⟨h1, h2, h2', o', h3, h4, fun b => YA_same hss (h5 b)⟩))
    · have hoo : o = o3 := by
        have h1' : i = g3 := h1
        rw [h1', ho3] at ho; exact (Option.some.inj ho).symm
      subst hoo
      have look : ∀ q ∈ [x0, xr, x5], ev s' q = ev s q := by
        intro q hq
        refine ev_same fun t' e' => hss t' ?_
        simp only [Oper.looksAt, List.mem_append, List.mem_filterMap]
        refine .inl ⟨.tmp t', ?_, rfl⟩
        rw [hop3, ← e']
        simp only [Op.operands, Call.operands]
        simp at hq ⊢
        rcases hq with rfl | rfl | rfl <;> simp
      exact .inr (.inr (.inr ⟨h1, h2, by rw [look x0 (by simp)]; exact h3, by rw [look xr (by simp)]; exact h4, by rw [look x5 (by simp)]; exact h5⟩))
  have H0 := anyB_lex (E := E) (Y := p.Y5 g3 R3 (fun s => ev s x0 = V0 ∧ ev s xr = .row k ∧ ev s x5 = V5) E ops J) (g := ops.toArray.size - n) hYS hs hc hn (ops.take n) 0 _ s (fun j hj => by
    have hj' : j < n := by rw [htl] at hj; exact hj
    simp [hj']) (by simpa using htl) inv0 (fun j hj => by omega) (by rw [htl]; exact hlex) (by simpa [H5W] using hq)
  have b2 : bits (Array.replicate ops.toArray.size false) g2 = false := getD_replicate_false _ _
  have b1 : bits (Array.replicate ops.toArray.size false) g1 = false := getD_replicate_false _ _
  have hH0 : p.H (bits (Array.replicate ops.toArray.size false)) = h := by
    show (bif bits _ g2 then _ else bif bits _ g1 then _ else _) = h
    rw [b1, b2]; rfl
  have hR0 : p.R (bits (Array.replicate ops.toArray.size false)) s ι a := by
    intro _
    refine ⟨fun i => ?_, fun hb => (by
      have hb' : bits (Array.replicate ops.toArray.size false) g1 = true := hb
      rw [b1] at hb'; cases hb')⟩
    obtain ⟨Z, K, Y, _, r⟩ := r
    exact RA_nokey (C := cx Z h ι w) (k := k) (by show ¬ (h k).isSome = true; rw [hk]; simp) _ _ (r.slot i)
  have r1 : RelS E ⟨J, s, p.H (bits (Array.replicate ops.toArray.size false))⟩ ι a { w with drawn := w.drawn + 1 } := by
    rw [hH0]
    obtain ⟨Z, K, Y, hZE, r⟩ := r
    exact ⟨Z, K, Y, hZE, r.mem.grew (Grew.drew w), r.size, fun i => RA_keeps (keepsC_grew (K := K) (J := J K Y Z) (Grew.drew w)) _ _ (r.slot i), r.ds.grew (Grew.drew w)⟩
  refine wpIn_region_any hE.ok.mixed ?_
  have hh := wpAnyIn_of_headR (Y := p.Y5 g3 R3 (fun s => ev s x0 = V0 ∧ ev s xr = .row k ∧ ev s x5 = V5) E ops J) (J := J) (Q' := Post E Q) p.H p.R (g := ops.toArray.size - n) (fun i o listed s x ho inv hi hin hy hdo ι a w r hR K' hk' => ?_) (fun listed s ι a' w' r' hL => by
    have hb : bits listed g2 = true := hL.1.2 g2 hl2
    have hH : p.H (bits listed) = p.h2 := by
      show (bif bits listed g2 then _ else _) = _
      rw [hb]; rfl
    rw [hH] at r'
    have := wpAnyIn_of_seq (Q' := Post E Q) (ops.drop n) n listed a' w' (fun j => by simp [List.getElem?_drop]) (by rw [hdl]; exact hL.1.1) (hL.2 ι a' w' r')
    rwa [hdl] at this) _ _ _ ι a _ inv0 r1 hR0 H0
  · rw [htl] at hh
    rwa [show n + (ops.toArray.size - n) = ops.toArray.size by simp; omega] at hh
  · have hun : listed.getD i true = false := (mem_ready.1 hi).1
    have hst' : ∀ j, j ≠ i → bits (listed.setIfInBounds i true) j = bits listed j := fun j hj => getD_set_ne false (Ne.symm hj)
    have hsz : i < listed.size := by
      rw [inv.size]
      have := (List.getElem?_eq_some_iff.1 ho).1
      simpa using this
    have hseti : bits (listed.setIfInBounds i true) i = true := by simp [bits, hsz]
    have hdlt : ∀ {a : Act} {ι w}, RelS E ⟨J, s, p.H (bits listed)⟩ ι a w → a.tmps.size = E.N := fun ⟨Z, K, Y, _, r⟩ => r.size
    rcases hy with ⟨h1, rfl, h3⟩ | ⟨h1, rfl, h3⟩ | ⟨h1, h2, h2', o', h3, h4, h5⟩ | ⟨h1, rfl, h3, h4, h5⟩
    · -- the row begins
      have h1 : i = g1 := h1
      subst h1
      have hoo : o = o1 := by rw [ho1] at ho; exact (Option.some.inj ho).symm
      subst hoo
      have b1 : bits listed i = false := getD_both hun
      have b2 : bits listed g2 = false := by
        cases hb : bits listed g2 with
        | false => rfl
        | true =>
          have := inv.closed g2 o2 (by simpa using ho2) hb ed hem hed.1
          rw [heon] at this
          rw [show listed.getD i false = bits listed i from rfl, b1] at this
          cases this
      have hHb : p.H (bits listed) = h := by
        show (bif bits listed g2 then _ else bif bits listed i then _ else _) = h
        rw [b1, b2]; rfl
      have hHa : p.H (bits (listed.setIfInBounds i true)) = hset h k (some (.row e sz ys1)) := by
        show (bif bits _ g2 then _ else bif bits _ i then _ else _) = _
        rw [hst' g2 (Ne.symm hne), b2, hseti]; rfl
      rw [hHb] at r
      have g := opG_of_OW (E := E) (o := o) (st := ⟨J, s, h⟩) (K := fun st' => st' = ⟨J, pu s o.dst (.row k), Go.AL.hset h k (some (.row e sz ys1))⟩) hgd1
        (OW_callRow' hE k hclone (o := o) rfl hop1 (by simp [awant, hgd1]) (by subst hfo; simp only [callArgs, ev]; rw [show [x1].map (ev s) = [.d (.sl sz bts ys1)] from by simp only [List.map_cons, List.map_nil]; rw [show ev s x1 = .d (.sl sz bts ys1) from h3]]; rfl) rfl hk (s' := pu s o.dst (.row k)) (by rw [hd1]; simp [putS, hn1, pu]) (OW_end rfl ⟨rfl, rfl⟩))
      unfold wpOpIn
      simp only [List.getElem?_toArray, ho]
      rw [if_pos (by simp [Region.wanted, hgd1])]
      refine g ι a w r K' (Post E Q) fun st' ι' a' w' hst r' => ?_
      subst hst
      rw [hd1] at r'
      obtain ⟨Z, K, Y, hZE, r'⟩ := r'
      have hrow : a'.tmps.getD d undef = ι' k := by
        have := r'.slot d
        have hsd : pu s (some d) (.row k) d = .row k := sset_same _ _ _
        rw [show (⟨J, pu s (some d) (.row k), _⟩ : St).s d = _ from hsd] at this
        simp only [RA] at this
        exact this.2
      refine hk' ι' a' w' ?_ ?_
      · rw [hHa, hd1]
        refine ⟨Z, K, Y, hZE, r'.mem, r'.size, fun j => ?_, r'.ds⟩
        by_cases hj : j = d
        · subst hj
          show RA _ (pu s (some j) .any j) _
          rw [show pu s (some j) .any j = .any from sset_same _ _ _]; simp [RA]
        · have := r'.slot j
          show RA _ (pu s (some d) .any j) _
          rw [show pu s (some d) .any j = s j from sset_ne _ _ hj]
          rwa [show (⟨J, pu s (some d) (.row k), _⟩ : St).s j = s j from sset_ne _ _ hj] at this
      · intro _
        rw [hd1]
        refine ⟨fun j => ?_, fun _ => ⟨sset_same _ _ _, hrow⟩⟩
        by_cases hj : j = d
        · subst hj; rw [show pu s (some j) .any j = .any from sset_same _ _ _]; rfl
        · rw [show pu s (some d) .any j = s j from sset_ne _ _ hj]; exact (hR b2).1 j
    · -- it is lengthened
      have h1 : i = g2 := h1
      subst h1
      have hoo : o = o2 := by rw [ho2] at ho; exact (Option.some.inj ho).symm
      subst hoo
      have b2 : bits listed i = false := getD_both hun
      have b1 : bits listed g1 = true := by
        obtain ⟨_, o', ho', hall⟩ := mem_ready.1 hi
        have : o' = o := by
          have h' : ops[i]? = some o' := by simpa using ho'
          rw [ho] at h'; exact (Option.some.inj h').symm
        subst this
        have hl := hall ed hem hed.1
        rw [heon] at hl
        have hlt1 : g1 < listed.size := by rw [inv.size]; have := (List.getElem?_eq_some_iff.1 ho1).1; simpa using this
        simpa [bits, hlt1] using hl
      have hHb : p.H (bits listed) = p.h1 := by
        show (bif bits listed i then _ else bif bits listed g1 then _ else _) = _
        rw [b1, b2]; rfl
      have hHa : p.H (bits (listed.setIfInBounds i true)) = p.h2 := by
        show (bif bits _ i then _ else _) = _
        rw [hseti]; rfl
      rw [hHb] at r
      obtain ⟨hnk, hrr⟩ := hR b2
      obtain ⟨hsd, hrow⟩ := hrr b1
      have hsd : s d = .any := hsd
      have hrow : a.tmps.getD d undef = ι k := hrow
      have r2 : RelS E ⟨J, sset s d (.row k), p.h1⟩ ι a w := by
        obtain ⟨Z, K, Y, hZE, r⟩ := r
        refine ⟨Z, K, Y, hZE, r.mem, r.size, fun j => ?_, r.ds⟩
        by_cases hj : j = d
        · subst hj
          show RA _ (sset s j (.row k) j) _
          rw [sset_same]
          simp only [RA]
          exact ⟨by show (p.h1 k).isSome = true; show (hset h k _ k).isSome = true; rw [hset_same]; rfl, hrow⟩
        · show RA _ (sset s d (.row k) j) _
          rw [sset_ne _ _ hj]; exact r.slot j
      have hunk : unkS k (sset s d (.row k)) = s := by
        funext j
        by_cases hj : j = d
        · subst hj; simp [unkS, unk, sset_same, nokey, hsd]
        · have : nokey k (s j) = true := hnk j
          simp [unkS, unk, sset_ne _ _ hj, this]
      have hev2 : ev (sset s d (.row k)) x2 = .d (.sl sz bts ys2) := by
        rw [ev_same (s := s)]
        · exact h3
        · intro t' e'
          exact sset_ne _ _ fun e'' => hx2 (by rw [e', e''])
      have g := opG_of_OW (E := E) (o := o) (st := ⟨J, sset s d (.row k), p.h1⟩) (K := fun st' => st' = ⟨J, pu s o.dst (.row k), p.h2⟩) hgd2
        (OW_append' hE (key := k) (o := o) rfl hop2 (by simp [awant, hgd2]) ht hte hpos (show ev (sset s d (.row k)) (.tmp d) = .row k from sset_same _ _ _) (show p.h1 k = some (.row e sz ys1) from hset_same _ _ _) (.inl hev2) hnn hbb (s' := pu s o.dst (.row k)) (by rw [hd2, hunk]; simp [putS, hn2.1, pu]) (OW_end rfl ⟨rfl, rfl⟩))
      unfold wpOpIn
      simp only [List.getElem?_toArray, ho]
      rw [if_pos (by simp [Region.wanted, hgd2])]
      refine g ι a w r2 K' (Post E Q) fun st' ι' a' w' hst r' => ?_
      subst hst
      refine hk' ι' a' w' ?_ ?_
      · rw [hHa]; exact r'
      · intro hb
        have : bits (listed.setIfInBounds i true) i = false := hb
        rw [hseti] at this; cases this
    · -- all others
      have hoo : o' = o := by rw [ho] at h3; exact (Option.some.inj h3).symm
      subst hoo
      have hHs : p.H (bits (listed.setIfInBounds i true)) = p.H (bits listed) := by
        show (bif bits _ g2 then _ else bif bits _ g1 then _ else _) = (bif bits _ g2 then _ else bif bits _ g1 then _ else _)
        rw [hst' g2 (Ne.symm h2), hst' g1 (Ne.symm h1)]
      have hRs : ∀ v : Value, p.R (bits (listed.setIfInBounds i true)) (pu s o'.dst x) ι (a.put o'.dst v) := by
        intro v hb
        have hb' : bits listed g2 = false := by
          have : bits (listed.setIfInBounds i true) g2 = false := hb
          rwa [hst' g2 (Ne.symm h2)] at this
        obtain ⟨q1, q2⟩ := hR hb'
        refine ⟨fun j => ?_, fun hb1 => ?_⟩
        · cases hd : o'.dst with
          | none => exact q1 j
          | some dd =>
            by_cases hj : j = dd
            · subst hj; rw [show pu s (some j) x j = x from sset_same _ _ _]; exact h2'
            · rw [show pu s (some dd) x j = s j from sset_ne _ _ hj]; exact q1 j
        · have hb1' : bits listed g1 = true := by
            have : bits (listed.setIfInBounds i true) g1 = true := hb1
            rwa [hst' g1 (Ne.symm h1)] at this
          obtain ⟨q3, q4⟩ := q2 hb1'
          cases hd : o'.dst with
          | none => exact ⟨q3, by simpa [Act.put] using q4⟩
          | some dd =>
            have hdd : dd ≠ d := fun e => h4 (by rw [hd, e])
            refine ⟨by rw [show pu s (some dd) x p.d = s p.d from sset_ne _ _ (Ne.symm hdd)]; exact q3, ?_⟩
            have : (a.put (some dd) v).tmps.getD d undef = a.tmps.getD d undef := by
              simp [Act.put, Array.getD_eq_getD_getElem?, Array.getElem?_setIfInBounds, hdd]
            rw [show p.d = d from rfl, this]; exact q4
      have hya := h5 (bits listed)
      unfold wpOpIn
      simp only [List.getElem?_toArray, ho]
      have hwant := fun {b} (hw : awant ops o' s = some b) => awant_ok (st := ⟨J, s, p.H (bits listed)⟩) r hw
      obtain ⟨Z, K, Y, hZE, r⟩ := r
      have put : ∀ v w', Grew w w' → RA (cx Z (p.H (bits listed)) ι w') x v → RelS E ⟨J, pu s o'.dst x, p.H (bits listed)⟩ ι (a.put o'.dst v) w' := by
        intro v w' hg hv
        cases hd : o'.dst with
        | none => exact ⟨Z, K, Y, hZE, Rel.put_none r hg v⟩
        | some dd => exact ⟨Z, K, Y, hZE, Rel.put r hg (by rw [hd] at hdo; exact hdo) hv⟩
      rcases hya with ⟨hw, hy⟩ | ⟨hw, rfl⟩
      · rw [if_pos (hwant hw)]
        exact hy Z K Y ι a w r.mem (fun t _ => r.slot t) K' (Post E Q) fun v w' hg hv => hk' ι _ w' (by rw [hHs]; exact put v w' hg hv) (hRs v)
      · rw [if_neg (by rw [hwant hw]; simp)]
        exact ⟨fun f _ => hE.wide.fn f, hk' ι _ w (by rw [hHs]; exact put undef w (Grew.refl w) (by simp [RA, RAs, undef])) (hRs undef)⟩
    · -- the row is lent
      have h1 : i = g3 := h1
      subst h1
      have hoo : o = o3 := by rw [ho3] at ho; exact (Option.some.inj ho).symm
      subst hoo
      have b2 : bits listed g2 = true := by
        obtain ⟨_, o', ho', hall⟩ := mem_ready.1 hi
        have : o' = o := by
          have h' : ops[i]? = some o' := by simpa using ho'
          rw [ho] at h'; exact (Option.some.inj h').symm
        subst this
        have hl := hall ed3 hem3 hed3.1
        rw [heon3] at hl
        have hlt1 : g2 < listed.size := by rw [inv.size]; have := (List.getElem?_eq_some_iff.1 ho2).1; simpa using this
        simpa [bits, hlt1] using hl
      have hHb : p.H (bits listed) = p.h2 := by
        show (bif bits listed g2 then _ else _) = _
        rw [b2]; rfl
      have hHa : p.H (bits (listed.setIfInBounds i true)) = p.h2 := by
        show (bif bits _ g2 then _ else _) = _
        rw [hst' g2 (Ne.symm hg32), b2]; rfl
      rw [hHb] at r
      have hk2 : p.h2 k = some (.row e sz (ys1 ++ ys2)) := hset_same _ _ _
      have g := opG_of_OW (E := E) (o := o) (st := ⟨J, s, p.h2⟩) (K := fun st' => st' = ⟨J, pu s o.dst x, p.h2⟩) hgd3
        (OW_callLendA' hE (LE_freeze k bts hk2 (by rw [List.length_append]; exact hbb)) hR3 hc3 (o := o) rfl hop3 (by simp [awant, hgd3]) (by
          subst hfo3
          unfold callArgs
          rw [show ev (fzS k (.sl sz bts (ys1 ++ ys2)) s) (.func f3) = .d (.fn (.func f3) [] []) from rfl]
          simp only [List.map_cons, List.map_nil, ev_fzS]
          rw [h3, h4, h5, fz_kf V0 hV0, fz_kf V5 hV5]
          simp [fz]) (by simp [kfs, kf, hV0, hV5]) (s' := pu s o.dst x) (by
          cases hd : o.dst with
          | none => rfl
          | some dd => rw [hd] at hdo; simp only [dstOk] at hdo; simp [putS, pu, hdo]) (OW_end rfl ⟨rfl, rfl⟩))
      unfold wpOpIn
      simp only [List.getElem?_toArray, ho]
      rw [if_pos (by simp [Region.wanted, hgd3])]
      refine g ι a w r K' (Post E Q) fun st' ι' a' w' hst r' => ?_
      subst hst
      refine hk' ι' a' w' ?_ ?_
      · rw [hHa]; exact r'
      · intro hb
        have : bits (listed.setIfInBounds i true) g2 = false := hb
        rw [hst' g2 (Ne.symm hg32), b2] at this; cases this

variable {p : Grow} {n g3 : Nat} {R3 : AV} {P3 : Slots → Prop} {K : Slots → Prop}
theorem H5_cons {o : Oper} (ho : ops[i]? = some o) (hi : Nat.ble (i + 1) n = true) {x : AV} (hd : dstOk E.N o.dst = true) (hy : p.Y5 g3 R3 P3 E ops J i s x) (hk : H5W p g3 R3 P3 E ops J n (i + 1) K (pu s o.dst x)) : H5W p g3 R3 P3 E ops J n i K s := by
  unfold H5W at *
  have hi' := Nat.le_of_ble_eq_true hi
  obtain ⟨hlt, rfl⟩ := List.getElem?_eq_some_iff.1 ho
  have hlt2 : i < (ops.take n).length := by simp; omega
  rw [List.drop_eq_getElem_cons hlt2, List.getElem_take]
  exact ⟨x, hd, hy, hk⟩
theorem H5_end (hk : K s) : H5W p g3 R3 P3 E ops J n n K s := by
  unfold H5W
  rw [List.drop_eq_nil_of_le (by simp; omega)]
  exact hk
theorem H5_one (hE : E.Good) {o : Oper} {R : AV} (ho : ops[i]? = some o) (hw : awant ops o s = some true) (hR : stepPure E.T noHeap s o.op = some R) (hi : Nat.ble (i + 1) n = true) {s' : Slots} (hs : putS E.N s o.dst R = some s') (hn : (!Nat.beq i p.g1 && !Nat.beq i p.g2 && notDst p.d o.dst && nokey p.k R) = true)
    (hk : H5W p g3 R3 P3 E ops J n (i + 1) K s') : H5W p g3 R3 P3 E ops J n i K s := by
  obtain ⟨hd, rfl⟩ := pu_of_putS hs
  simp only [Bool.and_eq_true, Bool.not_eq_true'] at hn
  exact H5_cons ho hi hd (.inr (.inr (.inl ⟨fun e => by rw [e] at hn; simp at hn, fun e => by rw [e] at hn; simp at hn, hn.2, o, ho, notDst_ne hn.1.2, fun b => .inl ⟨hw, LY_of_gives hE (stepPure_notDefer hR) fun Z K Y ι a w m hl => stepPure_ok (K := K) (J := J K Y Z) hE.ok.T m o (look_ev hl) (stepPure_more (h := noHeap) (fun j e hj => by simp [noHeap] at hj) hR)⟩⟩))) hk
theorem H5_loc (hE : E.Good) {o : Oper} {R : AV} (hl : ∀ h, Loc E ops J h o s R) (ho : ops[i]? = some o) (hi : Nat.ble (i + 1) n = true) (hw : awant ops o s = some true) {s' : Slots} (hs : putS E.N s o.dst R = some s') (hn : (!Nat.beq i p.g1 && !Nat.beq i p.g2 && notDst p.d o.dst && nokey p.k R) = true)
    (hk : H5W p g3 R3 P3 E ops J n (i + 1) K s') : H5W p g3 R3 P3 E ops J n i K s := by
  obtain ⟨hd, rfl⟩ := pu_of_putS hs
  simp only [Bool.and_eq_true, Bool.not_eq_true'] at hn
  exact H5_cons ho hi hd (.inr (.inr (.inl ⟨fun e => by rw [e] at hn; simp at hn, fun e => by rw [e] at hn; simp at hn, hn.2, o, ho, notDst_ne hn.1.2, fun b => .inl ⟨hw, LY_of_gives hE (hl (p.H b)).1 fun Z K Y ι a w m hlk => (hl (p.H b)).2 Z K Y ι a w m (look_ev hlk)⟩⟩))) hk
theorem H5_begin {o : Oper} (ho : ops[p.g1]? = some o) (hi : Nat.ble (p.g1 + 1) n = true) {s' : Slots} (hs : putS E.N s o.dst .any = some s') (hx : ev s p.x1 = .d (.sl p.sz p.bts p.ys1)) (hk : H5W p g3 R3 P3 E ops J n (p.g1 + 1) K s') : H5W p g3 R3 P3 E ops J n p.g1 K s := by
  obtain ⟨hd, rfl⟩ := pu_of_putS hs
  exact H5_cons ho hi hd (.inl ⟨rfl, rfl, hx⟩) hk
theorem H5_more {o : Oper} (ho : ops[p.g2]? = some o) (hi : Nat.ble (p.g2 + 1) n = true) {s' : Slots} (hs : putS E.N s o.dst (.row p.k) = some s') (hx : ev s p.x2 = .d (.sl p.sz p.bts p.ys2)) (hk : H5W p g3 R3 P3 E ops J n (p.g2 + 1) K s') : H5W p g3 R3 P3 E ops J n p.g2 K s := by
  obtain ⟨hd, rfl⟩ := pu_of_putS hs
  exact H5_cons ho hi hd (.inr (.inl ⟨rfl, rfl, hx⟩)) hk
theorem H5_lent {o : Oper} (ho : ops[g3]? = some o) (hi : Nat.ble (g3 + 1) n = true) {s' : Slots} (hs : putS E.N s o.dst R3 = some s') (hx : P3 s) (hk : H5W p g3 R3 P3 E ops J n (g3 + 1) K s') : H5W p g3 R3 P3 E ops J n g3 K s := by
  obtain ⟨hd, rfl⟩ := pu_of_putS hs
  exact H5_cons ho hi hd (.inr (.inr (.inr ⟨rfl, rfl, hx⟩))) hk
end
end Go.AL
/- AL, part 40: a drawn head in which a new variable is laid, that is written behind it. -/
namespace Go.AL
set_option linter.unusedVariables false
set_option linter.unusedSimpArgs false
section
variable {E : Env} {ops : List Oper} {Q : Exit → St → Prop} {J : Jt} {s : Slots} {h : Heap}
theorem CW_drawn6 (hE : E.Good) (n g1 k : Nat) {id : Nat} (hB : Region.lexTailB .any ops.toArray n = true) {o1 : Oper} {t : TypeId} {ti : TI} {zs : List AV} {d : Tmp}
    (ho1 : ops[g1]? = some o1) (hop1 : o1.op = .alloc t) (hgd1 : o1.guard = none) (hd1 : o1.dst = some d) (hn1 : Nat.ble (d + 1) E.N = true) (hlt : (Nat.ble (g1 + 1) n && Nat.ble ops.length 999) = true) (hk : h k = none) (ht : E.T t = some ti) (hz : litCells ti.zero = some zs) (hzl : Nat.beq zs.length ti.size = true)
    (hq : H2W ⟨h, k, g1, 999, t, ti.size, d, .tmp d, zs, zs⟩ E ops J n 0 (fun s => OW E ops n Q ⟨J, s, hset h k (some (.box t zs))⟩) s) : CW E (.region id ops.toArray true) Q ⟨J, s, h⟩ := fun ι a w r => by
  simp only [Bool.and_eq_true] at hlt
  have hl1 : g1 < n := Nat.le_of_ble_eq_true hlt.1
  have hl9 : ops.length ≤ 999 := Nat.le_of_ble_eq_true hlt.2
  let p : Pair := ⟨h, k, g1, 999, t, ti.size, d, .tmp d, zs, zs⟩
  simp only [Region.lexTailB, Bool.and_eq_true, decide_eq_true_eq] at hB
  obtain ⟨⟨⟨⟨hsel, hn⟩, hs⟩, hc⟩, hlex⟩ := hB
  have hn' : n < ops.length := by simpa using hn
  have b9 : ∀ l : Array Bool, l.size = ops.toArray.size → bits l 999 = false := fun l hl => by
    have hsz : l.size = ops.length := by simpa using hl
    show l.getD 999 false = false
    rw [Array.getD_eq_getD_getElem?, Array.getElem?_eq_none (by omega)]; rfl
  have htl : (ops.take n).length = n := by simp; omega
  have hdl : (ops.drop n).length = ops.toArray.size - n := by simp
  have inv0 : HeadInv .any ops.toArray n (Array.replicate ops.toArray.size false) :=
    ⟨by simp, fun j oj _ hl => (by rw [getD_replicate_false] at hl; cases hl), fun t _ ht => getD_in (by simpa using ht) (getD_replicate_false _ _)⟩
  have hYS : YStable ops (p.Y E ops J) := by
    intro i o s s' x ho hss hy
    rcases hy with hy | ⟨h1, h2, h3, h4, h5, h6⟩ | ⟨h1, h2, o', h3, h4⟩
    · exact .inl hy
    · exact absurd (show i = 999 from h1) (by
        have := (List.getElem?_eq_some_iff.1 ho).1
        omega)
    · have hoo : o' = o := by rw [ho] at h3; exact (Option.some.inj h3).symm
      subst hoo
      exact .inr (.inr ⟨h1, h2, o', h3, fun b => YA_same hss (h4 b)⟩)
  have H0 := anyB_lex (E := E) (Y := p.Y E ops J) (g := ops.toArray.size - n) hYS hs hc hn (ops.take n) 0 _ s (fun j hj => by
    have hj' : j < n := by rw [htl] at hj; exact hj
    simp [hj']) (by simpa using htl) inv0 (fun j hj => by omega) (by rw [htl]; exact hlex) (by simpa [H2W] using hq)
  have hH0 : p.H (bits (Array.replicate ops.toArray.size false)) = h := by
    have b1 : bits (Array.replicate ops.toArray.size false) 999 = false := getD_replicate_false _ _
    have b2 : bits (Array.replicate ops.toArray.size false) g1 = false := getD_replicate_false _ _
    show hset h k (bif bits _ 999 then _ else bif bits _ g1 then _ else none) = h
    rw [b1, b2]; exact hset_none hk
  have r1 : RelS E ⟨J, s, p.H (bits (Array.replicate ops.toArray.size false))⟩ ι a { w with drawn := w.drawn + 1 } := by
    rw [hH0]
    obtain ⟨Z, K, Y, hZE, r⟩ := r
    exact ⟨Z, K, Y, hZE, r.mem.grew (Grew.drew w), r.size, fun i => RA_keeps (keepsC_grew (K := K) (J := J K Y Z) (Grew.drew w)) _ _ (r.slot i), r.ds.grew (Grew.drew w)⟩
  refine wpIn_region_any hE.ok.mixed ?_
  have hh := wpAnyIn_of_headB (Y := p.Y E ops J) (J := J) (Q' := Post E Q) p.H (g := ops.toArray.size - n) (fun i o listed s x ho inv hi hin hy hdo ι a w r K' hk' => ?_) (fun listed s ι a' w' r' hL => by
    have hb1 : bits listed g1 = true := hL.1.2 g1 hl1
    have hH : p.H (bits listed) = hset h k (some (.box t zs)) := by
      show hset h k (bif bits listed 999 then _ else bif bits listed g1 then _ else none) = _
      rw [hb1]; cases bits listed 999 <;> rfl
    rw [hH] at r'
    have := wpAnyIn_of_seq (Q' := Post E Q) (ops.drop n) n listed a' w' (fun j => by simp [List.getElem?_drop]) (by rw [hdl]; exact hL.1.1) (hL.2 ι a' w' r')
    rwa [hdl] at this) _ _ _ ι a _ inv0 r1 H0
  · rw [htl] at hh
    rwa [show n + (ops.toArray.size - n) = ops.toArray.size by simp; omega] at hh
  · have hun : listed.getD i true = false := (mem_ready.1 hi).1
    have hst' : ∀ j, j ≠ i → bits (listed.setIfInBounds i true) j = bits listed j := fun j hj => getD_set_ne false (Ne.symm hj)
    have hsz : i < listed.size := by
      rw [inv.size]
      have := (List.getElem?_eq_some_iff.1 ho).1
      simpa using this
    have hseti : bits (listed.setIfInBounds i true) i = true := by simp [bits, hsz]
    rcases hy with ⟨h1, rfl⟩ | ⟨h1, rfl, h3, h4, h5, h6, h7⟩ | ⟨h1, h2, o', h3, h4⟩
    · have h1 : i = g1 := h1
      subst h1
      have hoo : o = o1 := by rw [ho1] at ho; exact (Option.some.inj ho).symm
      subst hoo
      have b1 : bits listed i = false := getD_both hun
      have b2 : bits listed 999 = false := b9 listed inv.size
      have hHb : p.H (bits listed) = h := by
        show hset h k (bif bits listed 999 then _ else bif bits listed i then _ else none) = h
        rw [b1, b2]; exact hset_none hk
      have hHa : p.H (bits (listed.setIfInBounds i true)) = hset h k (some (.box t zs)) := by
        show hset h k (bif bits _ 999 then _ else bif bits _ i then _ else none) = _
        rw [b9 _ (by simpa using inv.size), hseti]; rfl
      rw [hHb] at r
      have g := opG_of_OW (E := E) (o := o) (st := ⟨J, s, h⟩) (K := fun st' => st' = ⟨J, pu s o.dst (.ptr k 0), Go.AL.hset h k (some (.box t zs))⟩) hgd1
        (OW_alloc' hE k (o := o) rfl hop1 (by simp [awant, hgd1]) hk ht hz (s' := pu s o.dst (.ptr k 0)) (by rw [hd1]; simp [putS, hn1, pu]) (OW_end rfl ⟨rfl, rfl⟩))
      unfold wpOpIn
      simp only [List.getElem?_toArray, ho]
      rw [if_pos (by simp [Region.wanted, hgd1])]
      refine g ι a w r K' (Post E Q) fun st' ι' a' w' hst r' => ?_
      subst hst
      refine hk' ι' a' w' ?_
      rw [hHa]; exact r'
    · exact absurd (show i = 999 from h1) (by
        have := (List.getElem?_eq_some_iff.1 ho).1
        omega)
    · have hoo : o' = o := by rw [ho] at h3; exact (Option.some.inj h3).symm
      subst hoo
      have hHs : p.H (bits (listed.setIfInBounds i true)) = p.H (bits listed) := by
        show Go.AL.hset h k (bif bits _ 999 then _ else bif bits _ g1 then _ else none) = Go.AL.hset h k _
        rw [hst' 999 (Ne.symm h2), hst' g1 (Ne.symm h1)]
      refine wpOpIn_of_qA (J := J) (h := p.H (bits listed)) (K := fun s' => s' = pu s o'.dst x) hE r (fun s' a' w' r' hs' => ?_) ?_
      · subst hs'
        refine hk' ι a' w' ?_
        rw [hHs]; exact r'
      · unfold qA
        simp only [ho]
        exact ⟨x, hdo, h4 _, rfl⟩
end
end Go.AL
/- AL, part 42: a drawn head in which some operations each lay something new under a key of its own (variables, rows that calls give, rows appended to nothing), in whatever order. -/
namespace Go.AL
set_option linter.unusedVariables false
set_option linter.unusedSimpArgs false

/-- (operation, key, what it lays) -/
abbrev Effs := List (Nat × Nat × Ent)
def HG (h : Heap) (b : Nat → Bool) : Effs → Heap
  | [] => h
  | (i, k, e) :: r => hset (HG h b r) k (bif b i then some e else none)
/-- All of it laid. -/
def HGt (h : Heap) : Effs → Heap
  | [] => h
  | (_, k, e) :: r => hset (HGt h r) k (some e)
def keysOf : Effs → List Nat
  | [] => []
  | (_, k, _) :: r => k :: keysOf r
def opsOf : Effs → List Nat
  | [] => []
  | (i, _, _) :: r => i :: opsOf r
def freshK (h : Heap) : Effs → Bool
  | [] => true
  | (_, k, _) :: r => (h k).isNone && freshK h r
def distinctB : List Nat → Bool
  | [] => true
  | x :: r => !(r.any (Nat.beq x)) && distinctB r

theorem HG_true {h : Heap} {b : Nat → Bool} : ∀ {l : Effs}, (∀ i ∈ opsOf l, b i = true) → HG h b l = HGt h l
  | [], _ => rfl
  | (i, k, e) :: r, hb => by
    simp only [HG, HGt]
    rw [hb i (by simp [opsOf]), HG_true fun j hj => hb j (by simp [opsOf, hj])]
    rfl
theorem HG_none {h : Heap} {b : Nat → Bool} : ∀ {l : Effs}, freshK h l = true → (∀ i ∈ opsOf l, b i = false) → HG h b l = h
  | [], _, _ => rfl
  | (i, k, e) :: r, hf, hb => by
    simp only [freshK, Bool.and_eq_true, Option.isNone_iff_eq_none] at hf
    simp only [HG]
    rw [hb i (by simp [opsOf]), HG_none hf.2 fun j hj => hb j (by simp [opsOf, hj])]
    exact hset_none hf.1
theorem HG_out {h : Heap} {b b' : Nat → Bool} : ∀ {l : Effs}, (∀ i ∈ opsOf l, b' i = b i) → HG h b' l = HG h b l
  | [], _ => rfl
  | (i, k, e) :: r, hb => by
    simp only [HG]
    rw [hb i (by simp [opsOf]), HG_out fun j hj => hb j (by simp [opsOf, hj])]
theorem mem_opsOf {i k : Nat} {e : Ent} : ∀ {l : Effs}, (i, k, e) ∈ l → i ∈ opsOf l
  | (i', k', e') :: r, hm => by
    rcases List.mem_cons.1 hm with hm | hm
    · cases hm; simp [opsOf]
    · simp [opsOf, mem_opsOf hm]
theorem mem_keysOf {i k : Nat} {e : Ent} : ∀ {l : Effs}, (i, k, e) ∈ l → k ∈ keysOf l
  | (i', k', e') :: r, hm => by
    rcases List.mem_cons.1 hm with hm | hm
    · cases hm; simp [keysOf]
    · simp [keysOf, mem_keysOf hm]
theorem distinct_not {x : Nat} {r : List Nat} (h : distinctB (x :: r) = true) : x ∉ r := fun hm => by
  simp only [distinctB, Bool.and_eq_true, Bool.not_eq_true'] at h
  have := h.1
  rw [List.any_eq_false] at this
  exact this x hm (Nat.beq_refl x)
theorem distinct_tail {x : Nat} {r : List Nat} (h : distinctB (x :: r) = true) : distinctB r = true := by
  simp only [distinctB, Bool.and_eq_true] at h; exact h.2
theorem hset_swap (h : Heap) {k k' : Nat} (hn : k ≠ k') (x y : Option Ent) : hset (hset h k x) k' y = hset (hset h k' y) k x := by
  funext i
  by_cases h1 : i = k'
  · subst h1; rw [hset_same, hset_ne _ _ (Ne.symm hn), hset_same]
  · rw [hset_ne _ _ h1]
    by_cases h2 : i = k
    · subst h2; rw [hset_same, hset_same]
    · rw [hset_ne _ _ h2, hset_ne _ _ h2, hset_ne _ _ h1]
theorem HG_set {h : Heap} {b b' : Nat → Bool} {i k : Nat} {e : Ent} (hi : b i = false) (hi' : b' i = true) (hb : ∀ j, j ≠ i → b' j = b j) : ∀ {l : Effs}, distinctB (opsOf l) = true → distinctB (keysOf l) = true → (i, k, e) ∈ l →
    HG h b' l = hset (HG h b l) k (some e) ∧ HG h b l k = none
  | (i', k', e') :: r, h1, h2, hm => by
    have n1 := distinct_not h1
    have n2 := distinct_not h2
    rcases List.mem_cons.1 hm with hm | hm
    · cases hm
      have : HG h b' r = HG h b r := HG_out fun j hj => hb j (fun e => n1 (e ▸ hj))
      simp only [HG]
      rw [this, hi, hi']
      exact ⟨by rw [hset_hset]; rfl, hset_same _ _ _⟩
    · have hne : i' ≠ i := fun e => n1 (e ▸ mem_opsOf hm)
      have hnk : k ≠ k' := fun e => n2 (e ▸ mem_keysOf hm)
      obtain ⟨g1, g2⟩ := HG_set hi hi' hb (distinct_tail h1) (distinct_tail h2) hm
      simp only [HG]
      rw [hb i' hne, g1]
      exact ⟨hset_swap _ hnk _ _, by rw [hset_ne _ _ hnk]; exact g2⟩
theorem HG_more {h : Heap} {b : Nat → Bool} : ∀ {l : Effs}, freshK h l = true → ∀ j e, h j = some e → HG h b l j = some e
  | [], _, j, e, hj => hj
  | (i, k, e') :: r, hf, j, e, hj => by
    simp only [freshK, Bool.and_eq_true, Option.isNone_iff_eq_none] at hf
    have hne : j ≠ k := fun h => by rw [h, hf.1] at hj; cases hj
    simp only [HG]
    rw [hset_ne _ _ hne]
    exact HG_more hf.2 j e hj

/-- The operation lays e under k and gives x. -/
def Lays (E : Env) (ops : List Oper) (J : Jt) (H : (Nat → Bool) → Heap) (i : Nat) (o : Oper) (s : Slots) (x : AV) (k : Nat) (e : Ent) : Prop :=
  o.guard = none ∧ ∀ s1 b, (∀ t ∈ o.looksAt ops.toArray, s1 t = s t) → b i = false → H b k = none → OpG E o ⟨J, s1, H b⟩ (fun st' => st' = ⟨J, pu s1 o.dst x, hset (H b) k (some e)⟩)
def YG (h : Heap) (l : Effs) (E : Env) (ops : List Oper) (J : Jt) (i : Nat) (s : Slots) (x : AV) : Prop :=
  (∃ k e o, (i, k, e) ∈ l ∧ ops[i]? = some o ∧ Lays E ops J (fun b => HG h b l) i o s x k e) ∨
  (i ∉ opsOf l ∧ ∃ o, ops[i]? = some o ∧ ∀ b, YA E ops J (HG h b l) o s x)
def HGW (h : Heap) (l : Effs) (E : Env) (ops : List Oper) (J : Jt) (n i : Nat) (K : Slots → Prop) (s : Slots) : Prop := QB E (YG h l E ops J) K ((ops.take n).drop i) i s

section
variable {E : Env} {ops : List Oper} {Q : Exit → St → Prop} {J : Jt} {s : Slots} {h : Heap}
theorem CW_drawnG (hE : E.Good) (n : Nat) (l : Effs) {id : Nat} (hB : Region.lexTailB .any ops.toArray n = true)
    (hl : ((opsOf l).all (fun i => Nat.ble (i + 1) n) && distinctB (opsOf l) && distinctB (keysOf l) && freshK h l) = true)
    (hq : HGW h l E ops J n 0 (fun s => OW E ops n Q ⟨J, s, HGt h l⟩) s) : CW E (.region id ops.toArray true) Q ⟨J, s, h⟩ := fun ι a w r => by
  simp only [Bool.and_eq_true, List.all_eq_true] at hl
  obtain ⟨⟨⟨hl1, hl2⟩, hl3⟩, hl4⟩ := hl
  simp only [Region.lexTailB, Bool.and_eq_true, decide_eq_true_eq] at hB
  obtain ⟨⟨⟨⟨hsel, hn⟩, hs⟩, hc⟩, hlex⟩ := hB
  have hn' : n < ops.length := by simpa using hn
  have htl : (ops.take n).length = n := by simp; omega
  have hdl : (ops.drop n).length = ops.toArray.size - n := by simp
  have inv0 : HeadInv .any ops.toArray n (Array.replicate ops.toArray.size false) :=
    ⟨by simp, fun j oj _ hl => (by rw [getD_replicate_false] at hl; cases hl), fun t _ ht => getD_in (by simpa using ht) (getD_replicate_false _ _)⟩
  have hYS : YStable ops (YG h l E ops J) := by
    intro i o s s' x ho hss hy
    rcases hy with ⟨k, e, o', h1, h2, h3, h4⟩ | ⟨h1, o', h3, h4⟩
    · have hoo : o' = o := by rw [ho] at h2; exact (Option.some.inj h2).symm
      subst hoo
      exact .inl ⟨k, e, o', h1, h2, h3, fun s1 b hs1 => h4 s1 b fun t ht => (hs1 t ht).trans (hss t ht)⟩
    · have hoo : o' = o := by rw [ho] at h3; exact (Option.some.inj h3).symm
      subst hoo
      exact .inr ⟨h1, o', h3, fun b => YA_same hss (h4 b)⟩
  have H0 := anyB_lex (E := E) (Y := YG h l E ops J) (g := ops.toArray.size - n) hYS hs hc hn (ops.take n) 0 _ s (fun j hj => by
    have hj' : j < n := by rw [htl] at hj; exact hj
    simp [hj']) (by simpa using htl) inv0 (fun j hj => by omega) (by rw [htl]; exact hlex) (by simpa [HGW] using hq)
  have hH0 : HG h (bits (Array.replicate ops.toArray.size false)) l = h := HG_none hl4 fun i _ => getD_replicate_false _ _
  have r1 : RelS E ⟨J, s, HG h (bits (Array.replicate ops.toArray.size false)) l⟩ ι a { w with drawn := w.drawn + 1 } := by
    rw [hH0]
    obtain ⟨Z, K, Y, hZE, r⟩ := r
    exact ⟨Z, K, Y, hZE, r.mem.grew (Grew.drew w), r.size, fun i => RA_keeps (keepsC_grew (K := K) (J := J K Y Z) (Grew.drew w)) _ _ (r.slot i), r.ds.grew (Grew.drew w)⟩
  refine wpIn_region_any hE.ok.mixed ?_
  have hh := wpAnyIn_of_headB (Y := YG h l E ops J) (J := J) (Q' := Post E Q) (fun b => HG h b l) (g := ops.toArray.size - n) (fun i o listed s x ho inv hi hin hy hdo ι a w r K' hk' => ?_) (fun listed s ι a' w' r' hL => by
    have hH : HG h (bits listed) l = HGt h l := HG_true fun i hi => hL.1.2 i (Nat.le_of_ble_eq_true (hl1 i hi))
    have r' : RelS E ⟨J, s, HG h (bits listed) l⟩ ι a' w' := r'
    rw [hH] at r'
    have := wpAnyIn_of_seq (Q' := Post E Q) (ops.drop n) n listed a' w' (fun j => by simp [List.getElem?_drop]) (by rw [hdl]; exact hL.1.1) (hL.2 ι a' w' r')
    rwa [hdl] at this) _ _ _ ι a _ inv0 r1 H0
  · rw [htl] at hh
    rwa [show n + (ops.toArray.size - n) = ops.toArray.size by simp; omega] at hh
  · have hun : listed.getD i true = false := (mem_ready.1 hi).1
    have hst' : ∀ j, j ≠ i → bits (listed.setIfInBounds i true) j = bits listed j := fun j hj => getD_set_ne false (Ne.symm hj)
    have hsz : i < listed.size := by
      rw [inv.size]
      have := (List.getElem?_eq_some_iff.1 ho).1
      simpa using this
    have hseti : bits (listed.setIfInBounds i true) i = true := by simp [bits, hsz]
    have b1 : bits listed i = false := getD_both hun
    rcases hy with ⟨k, e, o', h1, h2, hgd, h4⟩ | ⟨h1, o', h3, h4⟩
    · have hoo : o' = o := by rw [ho] at h2; exact (Option.some.inj h2).symm
      subst hoo
      obtain ⟨g1, g2⟩ := HG_set (h := h) b1 hseti hst' hl2 hl3 h1
      have g := h4 s (bits listed) (fun _ _ => rfl) b1 g2
      unfold wpOpIn
      simp only [List.getElem?_toArray, ho]
      rw [if_pos (by simp [Region.wanted, hgd])]
      refine g ι a w r K' (Post E Q) fun st' ι' a' w' hst r' => ?_
      subst hst
      refine hk' ι' a' w' ?_
      show RelS E ⟨J, _, HG h _ l⟩ _ _ _
      rw [g1]; exact r'
    · have hoo : o' = o := by rw [ho] at h3; exact (Option.some.inj h3).symm
      subst hoo
      have hHs : HG h (bits (listed.setIfInBounds i true)) l = HG h (bits listed) l := HG_out fun j hj => hst' j (fun e => h1 (e ▸ hj))
      refine wpOpIn_of_qA (J := J) (h := HG h (bits listed) l) (K := fun s' => s' = pu s o'.dst x) hE r (fun s' a' w' r' hs' => ?_) ?_
      · subst hs'
        refine hk' ι a' w' ?_
        show RelS E ⟨J, _, HG h _ l⟩ _ _ _
        rw [hHs]; exact r'
      · unfold qA
        simp only [ho]
        exact ⟨x, hdo, h4 _, rfl⟩

variable {l : Effs} {n i : Nat} {K : Slots → Prop}
theorem HG_cons {o : Oper} (ho : ops[i]? = some o) (hi : Nat.ble (i + 1) n = true) {x : AV} (hd : dstOk E.N o.dst = true) (hy : YG h l E ops J i s x) (hk : HGW h l E ops J n (i + 1) K (pu s o.dst x)) : HGW h l E ops J n i K s := by
  unfold HGW at *
  have hi' := Nat.le_of_ble_eq_true hi
  obtain ⟨hlt, rfl⟩ := List.getElem?_eq_some_iff.1 ho
  have hlt2 : i < (ops.take n).length := by simp; omega
  rw [List.drop_eq_getElem_cons hlt2, List.getElem_take]
  exact ⟨x, hd, hy, hk⟩
theorem HG_end (hk : K s) : HGW h l E ops J n n K s := by
  unfold HGW
  rw [List.drop_eq_nil_of_le (by simp; omega)]
  exact hk
def offRange (l : Effs) (i m : Nat) : Bool := (opsOf l).all fun g => Nat.ble (i + m) g || Nat.ble (g + 1) i
theorem off_not {m q : Nat} (h : offRange l i m = true) (h1 : i ≤ q) (h2 : q < i + m) : q ∉ opsOf l := fun hm => by
  have := List.all_eq_true.1 h q hm
  simp only [Bool.or_eq_true] at this
  rcases this with h | h <;> have := Nat.le_of_ble_eq_true h <;> omega
theorem HG_run (hE : E.Good) (m : Nat) {s' : Slots} (hfr : freshK h l = true) (hp : runPure E ops h m i s = some s') (hi : Nat.ble (i + m) n = true) (h1 : offRange l i m = true)
    (hk : HGW h l E ops J n (i + m) K s') : HGW h l E ops J n i K s := by
  have more : ∀ b j e, h j = some e → HG h b l j = some e := fun b j e hj => HG_more hfr j e hj
  have n1 : ∀ q, i ≤ q → q < i + m → q ∉ opsOf l := fun q a b => off_not h1 a b
  clear h1
  induction m generalizing i s with
  | zero => simp only [runPure, Option.some.injEq] at hp; subst hp; exact hk
  | succ m ih =>
    have hi' := Nat.le_of_ble_eq_true hi
    have hi1 : Nat.ble (i + 1) n = true := Nat.ble_eq_true_of_le (by omega)
    have hi2 : Nat.ble (i + 1 + m) n = true := Nat.ble_eq_true_of_le (by omega)
    have a1 := n1 i (Nat.le_refl _) (by omega)
    simp only [runPure] at hp
    split at hp
    · rename_i o ho
      split at hp
      · rename_i hw
        split at hp
        · rename_i R hR
          split at hp
          · rename_i s1 hs1
            obtain ⟨hd, rfl⟩ := pu_of_putS hs1
            refine HG_cons ho hi1 hd (.inr ⟨a1, o, ho, fun b => .inl ⟨hw, LY_of_gives hE (stepPure_notDefer hR) fun Z K Y ι a w m hl => stepPure_ok (K := K) (J := J K Y Z) hE.ok.T m o (look_ev hl) (stepPure_more (more b) hR)⟩⟩) (ih hp hi2 ?_ (fun q a b => n1 q (by omega) (by omega)))
            rwa [show i + 1 + m = i + (m + 1) by omega]
          · cases hp
        · cases hp
      · rename_i hw
        split at hp
        · rename_i s1 hs1
          obtain ⟨hd, rfl⟩ := pu_of_putS hs1
          refine HG_cons ho hi1 hd (.inr ⟨a1, o, ho, fun b => .inr ⟨hw, rfl⟩⟩) (ih hp hi2 ?_ (fun q a b => n1 q (by omega) (by omega)))
          rwa [show i + 1 + m = i + (m + 1) by omega]
        · cases hp
      · cases hp
    · cases hp
theorem HG_split (d : Nat) {b : Bool} (hs : s d = .d (.lit (.bool b))) (ht : b = true → HGW h l E ops J n i K (sset s d (.d (.lit (.bool true))))) (hf : b = false → HGW h l E ops J n i K (sset s d (.d (.lit (.bool false))))) : HGW h l E ops J n i K s := by
  cases b
  · have := hf rfl; rwa [sset_self hs] at this
  · have := ht rfl; rwa [sset_self hs] at this
theorem HG_as (d : Nat) (v : AV) (hs : s d = v) (hk : HGW h l E ops J n i K (sset s d v)) : HGW h l E ops J n i K s := by rwa [sset_self hs] at hk
theorem HG_call (hE : E.Good) {f : Nat} {L : List AV} {R : AV} (hc : Does E.P f L noHeap R) {s' : Slots} {o : Oper} {fo : Operand} {args : Array Operand} {ts : Array TypeId} (ho : ops[i]? = some o) (hi : Nat.ble (i + 1) n = true) (hop : o.op = .call ⟨.value fo, args, ts⟩)
    (hw : awant ops o s = some true) (hL : callArgs s fo args.toList = some (f, L)) (hkf : kfs L = true) (hR : kf R = true) (hs : putS E.N s o.dst R = some s') (h1 : offRange l i 1 = true) (hk : HGW h l E ops J n (i + 1) K s') : HGW h l E ops J n i K s := by
  obtain ⟨hd, rfl⟩ := pu_of_putS hs
  exact HG_cons ho hi hd (.inr ⟨off_not h1 (Nat.le_refl _) (by omega), o, ho, fun b => .inl ⟨hw, LY_call hE hc hop hL hkf hR⟩⟩) hk
theorem HG_loc (hE : E.Good) {o : Oper} {R : AV} (hl : ∀ b, Loc E ops J (HG h b l) o s R) (ho : ops[i]? = some o) (hi : Nat.ble (i + 1) n = true) (hw : awant ops o s = some true) {s' : Slots} (hs : putS E.N s o.dst R = some s') (h1 : offRange l i 1 = true) (hk : HGW h l E ops J n (i + 1) K s') : HGW h l E ops J n i K s := by
  obtain ⟨hd, rfl⟩ := pu_of_putS hs
  exact HG_cons ho hi hd (.inr ⟨off_not h1 (Nat.le_refl _) (by omega), o, ho, fun b => .inl ⟨hw, LY_of_gives hE (hl b).1 fun Z K Y ι a w m hlk => (hl b).2 Z K Y ι a w m (look_ev hlk)⟩⟩) hk

theorem mem_find {l : Effs} {i k : Nat} {e : Ent} (h : l.find? (fun x => Nat.beq x.1 i) = some (i, k, e)) : (i, k, e) ∈ l := List.mem_of_find?_eq_some h
/-- A new variable. -/
theorem HG_alloc (hE : E.Good) {o : Oper} {k : Nat} {t : TypeId} {ti : TI} {zs : List AV} (hm : l.find? (fun x => Nat.beq x.1 i) = some (i, k, .box t zs)) (ho : ops[i]? = some o) (hi : Nat.ble (i + 1) n = true) (hop : o.op = .alloc t) (hgd : o.guard = none)
    (ht : E.T t = some ti) (hz : litCells ti.zero = some zs) {s' : Slots} (hs : putS E.N s o.dst (.ptr k 0) = some s') (hk : HGW h l E ops J n (i + 1) K s') : HGW h l E ops J n i K s := by
  obtain ⟨hd, rfl⟩ := pu_of_putS hs
  refine HG_cons ho hi hd (.inl ⟨k, _, o, mem_find hm, ho, hgd, fun s1 b hs1 hbi hbk => ?_⟩) hk
  refine opG_of_OW hgd (OW_alloc' hE k (o := o) rfl hop (by simp [awant, hgd]) hbk ht hz (s' := pu s1 o.dst (.ptr k 0)) ?_ (OW_end rfl ⟨rfl, rfl⟩))
  have hd : dstOk E.N o.dst = true := hd
  cases hdd : o.dst with
  | none => rfl
  | some d => rw [hdd] at hd; simp only [dstOk] at hd; simp [putS, hd, pu]
theorem callArgs_same {ops : List Oper} {o : Oper} {fo : Operand} {args : Array Operand} {ts : Array TypeId} (hop : o.op = .call ⟨.value fo, args, ts⟩) {s s1 : Slots} (hs : ∀ t ∈ o.looksAt ops.toArray, s1 t = s t) : callArgs s1 fo args.toList = callArgs s fo args.toList := by
  have look : ∀ t, (Operand.tmp t = fo ∨ Operand.tmp t ∈ args) → t ∈ o.looksAt ops.toArray := fun t ht => by
    simp only [Oper.looksAt, List.mem_append, List.mem_filterMap]
    refine .inl ⟨.tmp t, ?_, rfl⟩
    rw [hop]
    rcases ht with h | h
    · simp [Op.operands, Call.operands, h]
    · simp [Op.operands, Call.operands]; exact .inr h
  have e1 : ev s1 fo = ev s fo := ev_same fun t e => hs t (look t (.inl e.symm))
  have e2 : args.toList.map (ev s1) = args.toList.map (ev s) := List.map_congr_left fun x hx => ev_same fun t e => hs t (look t (.inr (by rw [← e]; simpa using hx)))
  unfold callArgs
  rw [e1, e2]
/-- A call that gives a row of its own. -/
theorem HG_own (hE : E.Good) {f : Nat} {L : List AV} {e : TypeId} {sz : Nat} {ys : List (List D)} {R : AV} (hc : Does E.P f L (oneRow e sz ys) R) {k : Nat} (hm : l.find? (fun x => Nat.beq x.1 i) = some (i, k, .row e sz ys)) {o : Oper} {fo : Operand} {args : Array Operand} {ts : Array TypeId} (ho : ops[i]? = some o) (hi : Nat.ble (i + 1) n = true)
    (hop : o.op = .call ⟨.value fo, args, ts⟩) (hgd : o.guard = none) (hL : callArgs s fo args.toList = some (f, L)) (hkf : kfs L = true) {s' : Slots} (hs : putS E.N s o.dst (rk 0 k R) = some s') (hk : HGW h l E ops J n (i + 1) K s') : HGW h l E ops J n i K s := by
  obtain ⟨hd, rfl⟩ := pu_of_putS hs
  refine HG_cons ho hi hd (.inl ⟨k, _, o, mem_find hm, ho, hgd, fun s1 b hs1 hbi hbk => ?_⟩) hk
  refine opG_of_OW hgd (OW_callOwn' hE k hc (o := o) rfl hop (by simp [awant, hgd]) ((callArgs_same hop hs1).trans hL) hkf hbk (s' := pu s1 o.dst (rk 0 k R)) ?_ (OW_end rfl ⟨rfl, rfl⟩))
  have hd : dstOk E.N o.dst = true := hd
  cases hdd : o.dst with
  | none => rfl
  | some d => rw [hdd] at hd; simp only [dstOk] at hd; simp [putS, hd, pu]
end
end Go.AL
