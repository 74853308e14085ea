/- Parts of an abstract logic over the kit's walks, and walks in it: A41, A30, A31, A32, A33, A34, A35, A36, A43, A44, A45, A46, A37, A47, A48, A49, A38, A39, A40, A42. -/
import Derived.Test.YtjiknbjkbakegaaDoorAc
import Derived.Test.YtjiknbjkbakegaaDoorAd
/- AL, part 41: a law's arguments as they come in, with their bulk: how many values and letters the data hold. -/
namespace Go.AL
set_option linter.unusedVariables false
set_option linter.unusedSimpArgs false

mutual
def bulkD : D → Nat
  | .lit (.string s) => s.size + 1
  | .lit _ => 1
  | .sl _ _ xs => bulkCs xs + 1
  | .iptr _ => 1
  | .fn _ _ _ => 1
  | .iface _ _ => 1
def bulkDs : List D → Nat
  | [] => 0
  | x :: xs => bulkD x + bulkDs xs
def bulkCs : List (List D) → Nat
  | [] => 0
  | x :: xs => bulkDs x + bulkCs xs
end
theorem bulkDs_append : ∀ (l r : List D), bulkDs (l ++ r) = bulkDs l + bulkDs r
  | [], r => by simp [bulkDs]
  | x :: l, r => by simp only [List.cons_append, bulkDs, bulkDs_append l r]; omega

/-- A way to count readings. -/
structure Bulk {H : Type} (B : DataW H → Nat) (BA : List (DataW H) → Nat) : Prop where
  nil : BA [] = 0
  cons : ∀ d l, BA (d :: l) = B d + BA l
  one : ∀ d, 1 ≤ B d
  str : ∀ b, B (.lit (.string b)) = b.length + 1
  sl : ∀ l r, BA l + 1 ≤ B (.slice l r)
  agg : ∀ l, BA l ≤ B (.agg l)

theorem bulkCs_le {H : Type} {B : DataW H → Nat} {BA : List (DataW H) → Nat} (hB : Bulk B BA) : ∀ (xs : List (List D)) (es : List (DataW H)), (∀ (i : Nat) x, xs[i]? = some x → ∃ d, es[i]? = some d ∧ bulkDs x ≤ B d) → bulkCs xs ≤ BA es
  | [], es, _ => by simp [bulkCs]
  | x :: xs, [], h => by
    obtain ⟨d, hd, _⟩ := h 0 x rfl
    simp at hd
  | x :: xs, d :: es, h => by
    obtain ⟨d', hd, h1⟩ := h 0 x rfl
    simp at hd
    subst hd
    have := bulkCs_le hB xs es fun i y hy => by simpa using h (i + 1) y (by simpa using hy)
    simp only [bulkCs, hB.cons]
    omega

section
variable {P : Program} {T : Nat → Option TI} (hT : TOk P T) {S : List TypeId} (hS : closedT T S = true)
theorem partsB_of {H : Type} {B : DataW H → Nat} {BA : List (DataW H) → Nat} (hB : Bulk B BA) {R : TypeId → List D → Prop} {w : World} {cs : List Value} : ∀ (fs : List (TypeId × Nat)) (xs : List (DataW H)) (off : Nat), tiles T fs off cs.length = true →
    (∀ (i : Nat) f, fs[i]? = some f → ∀ ti, T f.1 = some ti → ∃ d, xs[i]? = some d ∧ ∃ ds, RDs w noM ds ((cs.drop f.2).take ti.size) ∧ R f.1 ds ∧ ds.length = ti.size ∧ bulkDs ds ≤ B d) →
    ∃ ds, RDs w noM ds (cs.drop off) ∧ partsT R (fs.map (·.1)) ds ∧ ds.length = cs.length - off ∧ bulkDs ds ≤ BA xs
  | [], xs, off, h, _ => by
    have : off = cs.length := Nat.eq_of_beq_eq_true h
    exact ⟨[], by simp [this, RDs], by simp [partsT], by simp [this], by simp [bulkDs]⟩
  | (t, o) :: fs, xs, off, h, hf => by
    simp only [tiles] at h
    cases ht : T t with
    | none => rw [ht] at h; cases h
    | some ti =>
      rw [ht] at h
      simp only [Bool.and_eq_true] at h
      have ho : o = off := Nat.eq_of_beq_eq_true h.1
      subst ho
      obtain ⟨d, hd, d1, a1, a2, a3, a4⟩ := hf 0 (t, o) (by simp) ti ht
      cases xs with
      | nil => simp at hd
      | cons x xs =>
        simp at hd
        subst hd
        obtain ⟨d2, b1, b2, b3, b4⟩ := partsB_of hB fs xs (o + ti.size) h.2 fun i f hm tj htj => by simpa using hf (i + 1) f (by simpa using hm) tj htj
        have hl1 := RDs_length a1
        refine ⟨d1 ++ d2, ?_, by simp only [List.map_cons, partsT]; exact ⟨d1, d2, rfl, a2, b2⟩, ?_, ?_⟩
        · have := RDs_append a1 b1
          rwa [← List.drop_drop, List.take_append_drop] at this
        · simp at hl1
          simp [a3, b3]
          omega
        · rw [bulkDs_append, hB.cons]; omega
include hT hS
theorem trod_RDB {H : Type} {B : DataW H → Nat} {BA : List (DataW H) → Nat} (hB : Bulk B BA) {enc : TypeId × Value → H} {w : World} {base : Nat} {spare : Nat → Bool} {held : Bool} : ∀ (n : Nat) (t : TypeId) (cs : List Value) (x : DataW H × List MemPlace), DataW.trod enc P w base spare held n t cs = some x → S.contains t = true →
    (∀ m ∈ x.1.weights P t, m ≤ reachBytes) → ∃ ds, RDs w noM ds cs ∧ DTc T n t ds ∧ (∀ ti, T t = some ti → ds.length = ti.size) ∧ bulkDs ds ≤ B x.1
  | 0, t, cs, x, h, _, _ => by simp [DataW.trod] at h
  | n + 1, t, cs, x, h, ht, hw => by
    have hc := List.all_eq_true.1 hS t (by simpa using ht)
    cases hti : T t with
    | none => rw [hti] at hc; cases hc
    | some ti =>
      rw [hti] at hc
      obtain ⟨k, s, b, z⟩ := ti
      have hfit := (hT t _ hti).2
      cases k with
      | bool =>
        simp only [TK.fits] at hfit
        obtain ⟨c, rfl, rfl⟩ := DataW.trod_bool hfit h
        have hs1 : s = 1 := Nat.eq_of_beq_eq_true hc
        exact ⟨[.lit (.bool c)], by simp [RDs, RD, okLit], by simp only [DTc, hti]; exact ⟨c, rfl⟩, fun ti hh => by cases hh; simp [hs1], hB.one _⟩
      | int k =>
        simp only [TK.fits] at hfit
        obtain ⟨m, rfl, rfl, hwf⟩ := DataW.trod_int hfit h
        have hs1 : s = 1 := Nat.eq_of_beq_eq_true hc
        simp only [Lit.wf, Bool.and_eq_true, decide_eq_true_eq] at hwf
        exact ⟨[.lit (.int k m)], by simp [RDs, RD, okLit, hwf.1, hwf.2], by simp only [DTc, hti]; exact ⟨m, rfl, hwf⟩, fun ti hh => by cases hh; simp [hs1], hB.one _⟩
      | str =>
        simp only [TK.fits] at hfit
        obtain ⟨u, rfl, rfl, hwf⟩ := DataW.trod_string hfit h
        have hs1 : s = 1 := Nat.eq_of_beq_eq_true hc
        have h1 : u.data.toList.length = u.size := Array.length_toList
        have hle : u.size ≤ 140737488351232 := by
          have := hw u.data.toList.length (by simp [DataW.weights])
          have h2 : reachBytes = 140737488351232 := rfl
          omega
        exact ⟨[.lit (.string u)], by simp only [RDs, RD]; exact ⟨_, [], rfl, ⟨rfl, show u.size ≤ 140737488355328 by omega⟩, rfl⟩, by simp only [DTc, hti]; exact ⟨u, rfl, hle⟩, fun ti hh => by cases hh; simp [hs1],
          by simp only [hB.str, bulkDs, bulkD]; omega⟩
      | slice e =>
        simp only [TK.fits] at hfit
        simp only [Bool.and_eq_true] at hc
        obtain ⟨⟨hs1, hSe⟩, hte⟩ := hc
        have hs1 : s = 1 := Nat.eq_of_beq_eq_true hs1
        cases htE : T e with
        | none => rw [htE] at hte; cases hte
        | some te =>
          rw [htE] at hte
          simp only [Bool.and_eq_true] at hte
          have hsz : 1 ≤ te.size := Nat.le_of_ble_eq_true hte.1
          have hbt : 1 ≤ te.bytes := Nat.le_of_ble_eq_true hte.2
          obtain ⟨hce, hbe⟩ := cellsOf_of hT htE
          rcases DataW.trod_slice hfit h with ⟨rfl, rfl⟩ | ⟨a, len, cap, elems, rest, m, hm, rfl, rfl, hb, hl, hcm, hel, hat, _, _⟩
          · refine ⟨[.sl te.size te.bytes []], ?_, ?_, fun ti hh => by cases hh; simp [hs1], hB.one _⟩
            · simp only [RDs, RD]
              exact ⟨_, [], rfl, ⟨none, 0, rfl, by simp, by simp, by simp, by simp⟩, rfl⟩
            · simp only [DTc, hti, htE]
              exact ⟨[], rfl, by simp, by simp⟩
          · cases hm
            have hwt : (elems.length + rest.length) * te.bytes ≤ 140737488351232 := by
              have := hw ((elems.length + rest.length) * P.bytesOf e) (by simp [DataW.weights, hfit])
              rw [hbe] at this
              exact this
            have hlen : len * te.bytes ≤ 140737488351232 := Nat.le_trans (Nat.mul_le_mul_right _ (by omega)) hwt
            have each : ∀ i, i < len → ∃ ds : List D, (∃ cs', w.cells? base (a.add (i * te.size)) te.size = some cs' ∧ RDs w noM ds cs') ∧ DTc T n e ds ∧ ds.length = te.size ∧ ∃ d, (elems.map (fun x => x.fst))[i]? = some d ∧ bulkDs ds ≤ B d := by
              intro i hi
              have hi' := hat i hi
              rw [hce] at hi'
              have hil : i < elems.length := by omega
              rw [List.getElem?_eq_getElem hil] at hi'
              simp only [Option.bind_eq_some_iff] at hi'
              obtain ⟨cs', hcs, htr⟩ := hi'
              obtain ⟨ds, g1, g2, g3, g4⟩ := trod_RDB hB n e cs' _ htr hSe fun q hq => hw q (by
                simp only [DataW.weights, hfit, List.mem_cons, List.mem_append]
                exact .inr (.inl (weightsAll_mem (List.mem_map.2 ⟨_, List.getElem_mem _, rfl⟩) q hq)))
              exact ⟨ds, ⟨cs', hcs, g1⟩, g2, g3 te htE, _, by rw [List.getElem?_map, List.getElem?_eq_getElem hil]; rfl, g4⟩
            obtain ⟨xs, hxl, hx⟩ := list_of_each len each
            have hxlen : xs.length ≤ 140737488355328 := by
              have : xs.length * 1 ≤ xs.length * te.bytes := Nat.mul_le_mul_left _ hbt
              rw [hxl] at this ⊢
              omega
            refine ⟨[.sl te.size te.bytes xs], ?_, ?_, fun ti hh => by cases hh; simp [hs1], ?_⟩
            · simp only [RDs, RD]
              refine ⟨_, [], rfl, ⟨some a, cap, by rw [hxl], by omega, by rw [hxl]; omega, hxlen, ?_⟩, rfl⟩
              by_cases h0 : xs = []
              · exact .inl h0
              · right
                have hpos : 0 < xs.length := List.length_pos_iff.2 h0
                obtain ⟨⟨cs0, hc0, _⟩, _, _⟩ := hx 0 xs[0] (List.getElem?_eq_getElem hpos)
                obtain ⟨_, hl0, hat0⟩ := World.cells?_some hc0
                have hcell := hat0 0 (by omega)
                rw [List.getElem?_eq_getElem (by omega : 0 < cs0.length)] at hcell
                have hspot : a.spot = none := by
                  simp [Addr.add, World.cell?] at hcell
                  split at hcell
                  · split at hcell
                    · cases hcell
                    · rename_i hh; simpa using hh
                  · cases hcell
                obtain ⟨ab, ao, asp⟩ := a
                simp only at hspot
                subst hspot
                have hadd : ∀ o k, (⟨ab, o, none⟩ : Addr).add k = ⟨ab, o + k, none⟩ := by
                  intro o k
                  unfold Addr.add
                  split
                  · subst_vars; simp
                  · rfl
                refine ⟨ab, ao, rfl, fun h => h, ?_, RCs_of_get _ _ fun i x hi => ?_⟩
                · rw [hadd, hadd] at hcell
                  exact isCells.of_cell hcell
                · obtain ⟨⟨cs', hc', hr⟩, _, hxl', _⟩ := hx i x hi
                  obtain ⟨_, hl', hat'⟩ := World.cells?_some hc'
                  refine ⟨hxl', RC_of_list hr fun j v hj => ?_⟩
                  have hj' : j < te.size := by
                    have := (List.getElem?_eq_some_iff.1 hj).1
                    omega
                  have := hat' j hj'
                  rw [hadd, hadd] at this
                  rw [this, hj]
            · simp only [DTc, hti, htE]
              refine ⟨xs, rfl, fun x hm => ?_, by rw [hxl]; exact hlen⟩
              obtain ⟨i, hi⟩ := List.getElem?_of_mem hm
              exact (hx i x hi).2.1
            · have h1 := bulkCs_le hB xs _ fun i x hi => (hx i x hi).2.2.2
              simp only [bulkDs, bulkD]
              refine Nat.le_trans ?_ (hB.sl _ _)
              omega
      | struct fs =>
        simp only [TK.fits] at hfit
        obtain ⟨fields, hu, hfs⟩ := hfit
        simp only [Bool.and_eq_true] at hc
        obtain ⟨htile, hSf⟩ := hc
        obtain ⟨xs, m, hm, rfl, hcl, hxl, hf⟩ := DataW.trod_struct hu h
        cases hm
        obtain ⟨hct, _⟩ := cellsOf_of hT hti
        have hcl' : cs.length = s := hcl.trans hct
        obtain ⟨ds, g1, g2, g3, g4⟩ := partsB_of (T := T) hB (R := DTc T n) (w := w) (cs := cs) fs (xs.map (·.1)) 0 (by rw [hcl']; exact htile) fun i f hm ti hft => by
          rw [← hfs, List.getElem?_map] at hm
          simp only [Option.map_eq_some_iff] at hm
          obtain ⟨fd, hfd, rfl⟩ := hm
          have hi' : fields[i]? = some fd := by simpa using hfd
          have hil : i < xs.length := by rw [hxl]; exact (Array.getElem?_eq_some_iff.1 hi').1
          have htr := hf i fd hi'
          rw [List.getElem?_eq_getElem hil] at htr
          obtain ⟨hcf, _⟩ := cellsOf_of hT hft
          rw [hcf] at htr
          have hSt : S.contains fd.type = true := by
            have := List.all_eq_true.1 hSf (fd.type, fd.offset) (by rw [← hfs]; exact List.mem_map.2 ⟨fd, List.mem_of_getElem? hfd, rfl⟩)
            exact this
          obtain ⟨ds, e1, e2, e3, e4⟩ := trod_RDB hB n fd.type _ _ htr hSt fun q hq => hw q (by
            simp only [DataW.weights, hu]
            exact DataW.weights_mem_each (j := i) (by simp [hi']) (by simp [List.getElem?_eq_getElem hil]) q hq)
          exact ⟨_, by rw [List.getElem?_map, List.getElem?_eq_getElem hil]; rfl, ds, e1, e2, e3 ti hft, e4⟩
        exact ⟨ds, by simpa using g1, by simp only [DTc, hti]; exact g2, fun ti hh => by cases hh; simp [g3, hcl'], Nat.le_trans g4 (hB.agg _)⟩
      | _ => cases hc
end

theorem arg_okB {P : Program} {T : Nat → Option TI} (hT : TOk P T) {S : List TypeId} (hS : closedT T S = true) {H : Type} {B : DataW H → Nat} {BA : List (DataW H) → Nat} (hB : Bulk B BA) {enc : TypeId × Value → H} {w : World} {base b0 : Nat} {spare : Nat → Bool} {held : Bool} {r : Reach} {t : TypeId} {v : Value} {d : DataW H} {ps : List MemPlace} (hval : Value.okWide P w r b0 t v)
    (h : DataW.Trod enc P w base spare held t v d ps) (ht : S.contains t = true) (hw : ∀ m ∈ d.weights P t, m ≤ reachBytes) : ∃ n ds, DTc T n t ds ∧ RA (cx noM noHeap noι w) (argOf T t ds) v ∧ bulkDs ds ≤ B d := by
  obtain ⟨n, hn⟩ := h
  obtain ⟨ds, h1, h2, h3, h4⟩ := trod_RDB hT hS hB n t _ _ hn ht hw
  refine ⟨n, ds, h2, ?_, h4⟩
  have hM : (cx noM noHeap noι w).M = noM := by
    funext b
    refine propext ⟨fun hb => ?_, fun hb => .inl hb⟩
    rcases hb with hb | ⟨k, hk, _⟩
    · exact hb
    · simp [dom, noHeap] at hk
  have h1' : RAs (cx noM noHeap noι w) (ds.map .d) v.cells.toList := RAs_map_d.2 (by rw [hM]; exact h1)
  have hc := List.all_eq_true.1 hS t (by simpa using ht)
  unfold argOf
  cases hti : T t with
  | none => rw [hti] at hc; cases hc
  | some ti =>
    rw [hti] at hc
    obtain ⟨k, s, b, z⟩ := ti
    have hfit := (hT t _ hti).2
    have one : v.cells = #[v] → RA (cx noM noHeap noι w) (packR (ds.map .d)) v := fun e => by
      rw [e] at h1'
      cases ds with
      | nil => simp [RAs] at h1'
      | cons x xs =>
        cases xs with
        | nil =>
          simp only [List.map_cons, List.map_nil, RAs] at h1'
          obtain ⟨v', t, e, h2, _⟩ := h1'
          cases e
          exact h2
        | cons y ys =>
          simp only [List.map_cons, RAs] at h1'
          obtain ⟨_, t1, e, _, _, t2, e2, _⟩ := h1'
          cases e
          cases e2
    cases k with
    | bool => simp only [TK.fits] at hfit; obtain ⟨c, rfl⟩ := Go.WideShapes.okWide_bool hfit hval; exact one rfl
    | int k => simp only [TK.fits] at hfit; obtain ⟨c, rfl⟩ := Go.WideShapes.okWide_int hfit hval; exact one rfl
    | str => simp only [TK.fits] at hfit; obtain ⟨c, rfl⟩ := Go.WideShapes.okWide_string hfit hval; exact one rfl
    | slice e => simp only [TK.fits] at hfit; obtain ⟨a, l, c, rfl⟩ := Go.WideShapes.okWide_slice hfit hval; exact one rfl
    | struct fs =>
      simp only [TK.fits] at hfit
      obtain ⟨fields, hu, _⟩ := hfit
      obtain ⟨cs, rfl, _⟩ := Go.WideShapes.okWide_struct hu hval
      simp only [RA]
      exact ⟨cs, rfl, h1'⟩
    | _ => cases hc
end Go.AL
/- AL, part 30: struct values in a head; a nil slice inside a variable as a row; a row made shorter; a cut where several ways meet. -/
namespace Go.AL
set_option linter.unusedVariables false
set_option linter.unusedSimpArgs false

section
variable {E : Env} {ops : List Oper} {Q : Exit → St → Prop} {i : Nat} {J : Jt} {s : Slots} {h : Heap} {o : Oper}

theorem loc_build (hE : E.Good) {t : TypeId} {parts : Array (Nat × Operand)} (hop : o.op = .build t parts) {R : AV} (hR : stepBuild E.T s t parts.toList = some R) : Loc E ops J h o s R := by
  refine ⟨(by rw [hop]; intro c hc; cases hc), fun Z K Y ι a w m hlk => ?_⟩
  obtain ⟨dst, op, ty, pos, af, gd⟩ := o
  simp only at hop
  subst hop
  unfold stepBuild at hR
  split at hR
  · rename_i fs sz bt z ht
    split at hR
    · rename_i ps cs hps hcs
      simp only [Option.map_eq_some_iff] at hR
      obtain ⟨R', hR', rfl⟩ := hR
      obtain ⟨fields, hu, hf⟩ := (hE.ok.T t _ ht).2
      obtain ⟨zv, hz1, hz2⟩ := run_zero hE.ok.T ht w
      rw [← hf] at hps
      have hpr := places_run hE.ok.T (w := w) fields.toList ps hps
      have hpr' : (fields.mapM fun f => (do pure (f.offset, ← sizeOf f.type) : Sem (Nat × Nat))).run E.P w = .ok ps.toArray w := by
        rw [Array.mapM_eq_mapM_toList, map_eq_pure_bind, Sem.run_bind, hpr]
        simp
      obtain ⟨r', hr1, hr2⟩ := afill_ok (C := cx Z h ι w) m.named (places := ps) (place := (ps.toArray[·]?)) (fun i q hq => by simpa using hq) (parts.toList.map fun p => (p.1, ev s p.2)) (parts.toList.map fun p => (p.1, a.eval p.2)) cs zv.cells R' (by simp) (by
        have := RAs_evs (C := cx Z h ι w) (s := s) (a := a) (l := parts.toList.map (·.2)) fun x hx => hlk x (by simp only [Op.operands, Array.toList_map]; exact hx)
        simpa [List.map_map, Function.comp_def] using this) (by rw [hz2]; exact litCells_ok hcs) hR'
      refine ⟨.agg r', w, ?_, Grew.refl w, by simp only [RA]; exact ⟨_, rfl, hr2⟩⟩
      have hb : (Instr.build t (parts.map fun p => (p.1, a.eval p.2))).run E.P w = .ok (.agg r') w := by
        unfold Instr.build
        simp only [Sem.run_bind, hz1, Result.andThen_ok, run_underlying hu, hpr', Array.toList_map, hr1, Sem.run_pure]
      simp only [execOp, Sem.run_bind]
      rw [hb]
      simp
    · cases hR
  · cases hR

/-- A cell of a variable that holds a nil slice: a row of the frame's own, as yet empty. -/
theorem LE_nilCell (k key off : Nat) (e : TypeId) (sz : Nat) {t : TypeId} {cs : List AV} (hk : h k = some (.box t cs)) (hc : cs[off]? = some (.d (.lit (.slice none 0 0)))) (hkey : h key = none) :
    LE E ⟨J, s, h⟩ ⟨J, s, hset (hset h key (some (.row e sz []))) k (some (.box t (cs.set off (.row key))))⟩ := fun ι a w ⟨Z, K, Y, hZ, r⟩ => by
  have hne : k ≠ key := by intro e; subst e; rw [hk] at hkey; cases hkey
  obtain ⟨m1, kc⟩ := r.mem.add (Grew.refl w) hkey (e := .row e sz []) (v := .slice none 0 0) (fun b hb => by simp [blk] at hb) ⟨[], .inl ⟨none, rfl, rfl, rfl⟩, by simp [RDs], by simp, by simp⟩
  have hdom : ∀ j, dom (hset (hset h key (some (.row e sz []))) k (some (.box t (cs.set off (.row key))))) j ↔ dom (hset h key (some (.row e sz []))) j := by
    intro j
    by_cases hj : j = k
    · subst hj; simp only [dom, hset_same, hset_ne h _ hne, hk]; simp
    · simp only [dom, hset_ne _ _ hj]
  have hM : (cx Z (hset (hset h key (some (.row e sz []))) k (some (.box t (cs.set off (.row key))))) (fun j => bif Nat.beq j key then .slice none 0 0 else ι j) w).M = (cx Z (hset h key (some (.row e sz []))) (fun j => bif Nat.beq j key then .slice none 0 0 else ι j) w).M := by
    funext b
    refine propext (or_congr Iff.rfl ⟨fun ⟨j, hj, hb⟩ => ⟨j, (hdom j).1 hj, hb⟩, fun ⟨j, hj, hb⟩ => ⟨j, (hdom j).2 hj, hb⟩⟩)
  have kc2 : KeepsC (cx Z (hset h key (some (.row e sz []))) (fun j => bif Nat.beq j key then .slice none 0 0 else ι j) w) (cx Z (hset (hset h key (some (.row e sz []))) k (some (.box t (cs.set off (.row key))))) (fun j => bif Nat.beq j key then .slice none 0 0 else ι j) w) :=
    ⟨⟨fun _ _ _ _ hh => hh, fun _ _ hh => hh, fun b _ hm => by rw [hM]; exact hm⟩, fun j hj => ⟨(hdom j).2 hj, rfl⟩⟩
  refine ⟨_, Z, K, Y, hZ, ⟨fun j en hj => ?_, fun j b hj hjb => m1.own j b ((hdom j).1 hj) hjb, fun j j' b hj hj' => m1.apart j j' b ((hdom j).1 hj) ((hdom j').1 hj'), m1.Zlt, m1.Klt, m1.Jw, m1.Jc⟩, r.size, fun i => RA_keeps kc2 _ _ (RA_keeps kc _ _ (r.slot i)), r.ds⟩
  by_cases hjk : j = k
  · subst hjk
    have hj' : some (Ent.box t (cs.set off (.row key))) = some en := (hset_same _ _ _).symm.trans hj
    cases hj'
    have hb : Nat.beq j key = false := Bool.eq_false_iff.2 fun h' => hne (Nat.eq_of_beq_eq_true h')
    obtain ⟨b, vs, h1, h2, h3⟩ := r.mem.ent j _ hk
    obtain ⟨v, hv1, hv2⟩ := RAs_get h3 hc
    obtain ⟨rfl, _⟩ := RA_lit.1 hv2
    refine ⟨b, vs, by simp only [hb, cond_false]; exact h1, h2, ?_⟩
    have h4 := RAs_keeps kc2 _ _ (RAs_keeps kc _ _ h3)
    have h5 := RAs_set off h4 (x := .row key) (v := .slice none 0 0) (by
      simp only [RA]
      refine ⟨(hdom key).2 ?_, by simp⟩
      simp [dom, hset_same])
    have hvs : vs.toList.set off (.slice none 0 0) = vs.toList := by
      obtain ⟨hl, he⟩ := List.getElem?_eq_some_iff.1 hv1
      rw [← he, List.set_getElem_self]
    rwa [hvs] at h5
  · have hj' : hset h key (some (.row e sz [])) j = some en := (hset_ne _ _ hjk).symm.trans hj
    exact EntOk.keeps kc2 (fun b cs t f _ hb => hb) (m1.ent j en hj')

/-- Several ways meet: what is told of all of them goes on. -/
theorem CW_cutE {x y : Code} {st : St} {α : Type} (S : α → St) (φ : α → Prop) (h : CW E x (thenQ (fun st => ∃ p, φ p ∧ LE E st (S p)) Q) st) (h2 : ∀ p, φ p → CW E y Q (S p)) : CW E (.seq x y) Q st :=
  CW_seq (CW.mono h fun e st' q => by
    cases e with
    | normal => obtain ⟨p, hp, hle⟩ := q; exact CW.le hle (h2 p hp)
    | _ => exact q)
end
end Go.AL
/- AL, part 31: regions that draw whose last operations come in several orders; 'max'. -/
namespace Go.AL
set_option linter.unusedVariables false
set_option linter.unusedSimpArgs false

def lexH (ops : Array Oper) : Nat → Nat → Array Bool → Bool
  | 0, _, _ => true
  | f + 1, k, listed => (Region.ready .any ops listed).contains k && Region.free .any ops listed k && lexH ops f (k + 1) (listed.setIfInBounds k true)
/-- Whatever is not of the head waits for all of the head. -/
def allSink (ops : Array Oper) (n : Nat) : Bool := (List.range ops.size).all fun t => Nat.ble (t + 1) n || (List.range n).all fun i => match ops[t]? with
  | some o => o.after.any fun e => Region.binds .any e && Nat.beq e.on i
  | none => true
def headB (ops : Array Oper) (n : Nat) : Bool := Nat.ble n ops.size && allSink ops n && lexH ops n 0 (Array.replicate ops.size false)

theorem waits_of {ops : Array Oper} {n : Nat} (h : allSink ops n = true) {listed : Array Bool} {i : Nat} (hi : i < n) (hun : listed.getD i true = false) : ∀ t, n ≤ t → t ∉ Region.ready .any ops listed := by
  intro t ht hr
  obtain ⟨_, ot, hot, hall⟩ := mem_ready.1 hr
  have htl : t < ops.size := (Array.getElem?_eq_some_iff.1 hot).1
  have h1 := List.all_eq_true.1 h t (List.mem_range.2 htl)
  simp only [Bool.or_eq_true] at h1
  rcases h1 with h1 | h1
  · have := Nat.le_of_ble_eq_true h1; omega
  · have h2 := List.all_eq_true.1 h1 i (List.mem_range.2 hi)
    rw [hot] at h2
    obtain ⟨e, he, hb⟩ := Array.any_eq_true'.1 h2
    simp only [Bool.and_eq_true] at hb
    have hon := Nat.eq_of_beq_eq_true hb.2
    have := hall e he hb.1
    rw [hon] at this
    rcases Nat.lt_or_ge i listed.size with h' | h'
    · simp [h'] at hun this
      rw [hun] at this; cases this
    · simp [Array.getElem?_eq_none h'] at hun

section
variable {E : Env} {ops : List Oper} {Y : Nat → Slots → AV → Prop}
theorem anyB_firstW (hY : YStable ops Y) {n i : Nat} {oi : Oper} {v : AV} {L : Array Bool → Slots → Prop} (hi : ops[i]? = some oi) (hw : allSink ops.toArray n = true) (hin : i < n) (hdo : dstOk E.N oi.dst = true)
    (hdone : ∀ listed s, L listed s → ∀ j ∈ Region.ready .any ops.toArray listed, n ≤ j) :
    ∀ (f : Nat) (listed : Array Bool) (s : Slots), HeadInv .any ops.toArray n listed →
      (∀ j oj, ops.toArray[j]? = some oj → j ≠ i → listed.getD j true = false → (∀ e ∈ oj.after, Region.binds .any e = true → e.on ≠ i) → oi.apart ops.toArray oj = true) →
      i ∈ Region.ready .any ops.toArray listed → Y i s v →
      anyB E ops Y n L f (listed.setIfInBounds i true) (pu s oi.dst v) → anyB E ops Y n L (f + 1) listed s := by
  intro f
  induction f with
  | zero =>
    intro listed s inv _ hr hy H
    have hun := (mem_ready.1 hr).1
    refine ⟨fun h => (by rw [h] at hr; cases hr), fun j hj => ?_⟩
    have hjn : j < n := by
      rcases Nat.lt_or_ge j n with h | h
      · exact h
      · exact absurd hj (waits_of hw hin hun j h)
    refine ⟨hjn, ?_⟩
    by_cases hji : j = i
    · subst hji
      unfold qB
      simp only [hi]
      exact ⟨v, hdo, hy, H⟩
    · have := hdone _ _ H j (ready_mono hj hji)
      omega
  | succ f ih =>
    intro listed s inv hfree hr hy H
    have hun := (mem_ready.1 hr).1
    refine ⟨fun h => (by rw [h] at hr; cases hr), fun j hj => ?_⟩
    have hjn : j < n := by
      rcases Nat.lt_or_ge j n with h | h
      · exact h
      · exact absurd hj (waits_of hw hin hun j h)
    refine ⟨hjn, ?_⟩
    by_cases hji : j = i
    · subst hji
      unfold qB
      simp only [hi]
      exact ⟨v, hdo, hy, H⟩
    · have h1 := (H.2 j (ready_mono hj hji)).2
      obtain ⟨hjun, oj, hoj, hall⟩ := mem_ready.1 hj
      have hoj' : ops[j]? = some oj := by simpa using hoj
      have hnot : ∀ e ∈ oj.after, Region.binds .any e = true → e.on ≠ i := fun e he hb heq => by
        have h1 := hall e he hb
        rw [heq, getD_both hun] at h1
        cases h1
      have h2 := qB_put hY hi hoj' (hfree j oj hoj hji hjun hnot) hy h1
      have hfree' : ∀ k ok, ops.toArray[k]? = some ok → k ≠ i → (listed.setIfInBounds j true).getD k true = false →
          (∀ e ∈ ok.after, Region.binds .any e = true → e.on ≠ i) → oi.apart ops.toArray ok = true := fun k ok hk hki hun hno => by
        refine hfree k ok hk hki ?_ hno
        by_cases hjk : j = k
        · subst hjk; exact hjun
        · rw [getD_set_ne true hjk] at hun; exact hun
      refine qB_mono (fun s' h3 => ih (listed.setIfInBounds j true) s' (inv.set hj hjn) hfree' (ready_mono hr (Ne.symm hji)) h3.1 ?_) h2
      rw [Array.setIfInBounds_comm _ _ hji]
      exact h3.2

theorem anyB_lexW (hY : YStable ops Y) {n : Nat} {K : Slots → Prop} (hw : allSink ops.toArray n = true) (hn : n ≤ ops.toArray.size) :
    ∀ (l : List Oper) (k : Nat) (listed : Array Bool) (s : Slots), (∀ j, j < l.length → l[j]? = ops[k + j]?) → k + l.length = n → HeadInv .any ops.toArray n listed → (∀ j, j < k → listed.getD j false = true) →
    lexH ops.toArray l.length k listed = true → QB E Y K l k s →
    anyB E ops Y n (fun listed' s' => (HeadInv .any ops.toArray n listed' ∧ ∀ j, j < n → listed'.getD j false = true) ∧ K s') l.length listed s
  | [], k, listed, s, _, hk, inv, hall, hB, hq => by
    have : k = n := by simpa using hk
    subst this
    exact ⟨⟨inv, hall⟩, hq⟩
  | o :: l, k, listed, s, hl, hk, inv, hall, hB, hq => by
    have h0 : ops[k]? = some o := by simpa using (hl 0 (by simp)).symm
    simp only [List.length_cons, lexH, Bool.and_eq_true] at hB
    obtain ⟨⟨hr, hf⟩, hB'⟩ := hB
    have hkn : k < n := by simp only [List.length_cons] at hk; omega
    have hr' : k ∈ Region.ready .any ops.toArray listed := by simpa using hr
    obtain ⟨x, g1, g2, g3⟩ := hq
    have hall' : ∀ j, j < k + 1 → (listed.setIfInBounds k true).getD j false = true := fun j hj => by
      by_cases hjk : k = j
      · subst hjk
        have : k < listed.size := by rw [inv.size]; omega
        simp [this]
      · rw [getD_set_ne false hjk]; exact hall j (by omega)
    exact anyB_firstW hY h0 hw hkn g1 (fun listed' s' hL j hj => by
      rcases Nat.lt_or_ge j n with h | h
      · have h1 := hL.1.2 j h
        have h2 := (mem_ready.1 hj).1
        rw [getD_both h2] at h1; cases h1
      · exact h) l.length listed s inv (Region.free_spec (by simpa using h0) hf) hr' g2
      (anyB_lexW hY hw hn l (k + 1) _ _ (fun j hj => by have := hl (j + 1) (by simp; omega); simpa [Nat.add_assoc, Nat.add_comm 1 j] using this) (by simp only [List.length_cons] at hk; omega) (inv.set hr' hkn) hall' hB' g3)
end

/-! ### Behind the head: whichever is ready -/
def AW (E : Env) (ops : List Oper) (g : Nat) (listed : Array Bool) (Q : Exit → St → Prop) (st : St) : Prop :=
  ∀ ι a w, RelS E st ι a w → wpAnyIn E.F E.n E.P .any ops.toArray (Post E Q) g listed a w
section
variable {E : Env} {ops : List Oper} {Q : Exit → St → Prop} {st : St} {listed : Array Bool} {g : Nat}
theorem AW_end (hr : Region.ready .any ops.toArray listed = []) (h : Q .normal st) : AW E ops 0 listed Q st := fun ι a w r => ⟨hr, st, ι, h, r⟩
end

def headListed (n m : Nat) : Array Bool := ((List.replicate n true) ++ List.replicate (m - n) false).toArray

theorem CW_fork {E : Env} {ops : List Oper} {Q : Exit → St → Prop} {J : Jt} {s : Slots} {h : Heap} (hE : E.Good) (n : Nat) {id : Nat} (hB : headB ops.toArray n = true)
    (hq : HW E ops J h n 0 (fun s => AW E ops (ops.length - n) (headListed n ops.length) Q ⟨J, s, h⟩) s) : CW E (.region id ops.toArray true) Q ⟨J, s, h⟩ := fun ι a w r => by
  simp only [headB, Bool.and_eq_true] at hB
  obtain ⟨⟨hn, hs⟩, hlex⟩ := hB
  have hn := Nat.le_of_ble_eq_true hn
  have hn' : n ≤ ops.length := by simpa using hn
  have htl : (ops.take n).length = n := by simp; omega
  let Y : Nat → Slots → AV → Prop := fun i s x => ∃ o, ops[i]? = some o ∧ YA E ops J h o s x
  have hYS : YStable ops Y := by
    rintro i o s s' x ho hss ⟨o', ho', hy⟩
    have : o' = o := by rw [ho] at ho'; exact (Option.some.inj ho').symm
    subst this
    exact ⟨o', ho', YA_same hss hy⟩
  have inv0 : HeadInv .any ops.toArray n (Array.replicate ops.toArray.size false) :=
    ⟨by simp, fun j oj _ hl => (by rw [getD_replicate_false] at hl; cases hl), fun t _ ht => getD_in (by simpa using ht) (getD_replicate_false _ _)⟩
  have hQB : ∀ (l : List Oper) (k : Nat) (K : Slots → Prop) (s : Slots), (∀ j, j < l.length → l[j]? = ops[k + j]?) → QW E ops J h K l s → QB E Y K l k s := by
    intro l
    induction l with
    | nil => intro k K s _ hq; exact hq
    | cons o l ih =>
      intro k K s hl hq
      obtain ⟨x, h1, h2, h3⟩ := hq
      exact ⟨x, h1, ⟨o, by simpa using (hl 0 (by simp)).symm, h2⟩, ih (k + 1) K _ (fun j hj => by have := hl (j + 1) (by simp; omega); simpa [Nat.add_assoc, Nat.add_comm 1 j] using this) h3⟩
  have H0 := anyB_lexW (E := E) (Y := Y) hYS hs hn (ops.take n) 0 _ s (fun j hj => by
    have hj' : j < n := by rw [htl] at hj; exact hj
    simp [hj']) (by simpa using htl) inv0 (fun j hj => by omega) (by rw [htl]; exact hlex) (hQB _ 0 _ s (fun j hj => by
    have hj' : j < n := by rw [htl] at hj; exact hj
    simp [hj']) (by simpa [HW] using hq))
  have r1 : RelS E ⟨J, s, h⟩ ι a { w with drawn := w.drawn + 1 } := by
    obtain ⟨Z, K, Y, hZE, r⟩ := r
    exact ⟨Z, K, Y, hZE, r.mem.grew (Grew.drew w), r.size, fun i => RA_keeps (keepsC_grew (K := K) (J := J K Y Z) (Grew.drew w)) _ _ (r.slot i), r.ds.grew (Grew.drew w)⟩
  refine wpIn_region_any hE.ok.mixed ?_
  have hh := wpAnyIn_of_headB (Y := Y) (J := J) (Q' := Post E Q) (fun _ => h) (g := ops.length - n) (fun i o listed s x ho inv hi hin hy hdo ι a w r K' hk' => ?_) (fun listed s ι a' w' r' hL => by
    have hlist : listed = headListed n ops.length := by
      have hsz := hL.1.1.size
      apply Array.ext
      · rw [hsz]; simp [headListed]; omega
      · intro q hq1 hq2
        rcases Nat.lt_or_ge q n with hqn | hqn
        · have := hL.1.2 q hqn
          have e1 : listed[q] = true := by simpa [hq1] using this
          rw [e1]
          simp [headListed, List.getElem_append, hqn]
        · have := hL.1.1.tail q hqn (by rw [← hsz]; exact hq1)
          have e1 : listed[q] = false := by simpa [hq1] using this
          rw [e1]
          simp [headListed, List.getElem_append, Nat.not_lt.2 hqn]
    subst hlist
    exact hL.2 ι a' w' r') _ _ _ ι a _ inv0 r1 H0
  · rw [htl] at hh
    rwa [show n + (ops.length - n) = ops.toArray.size by simp; omega] at hh
  · obtain ⟨o', ho', hya⟩ := hy
    have : o' = o := by rw [ho] at ho'; exact (Option.some.inj ho').symm
    subst this
    refine wpOpIn_of_qA (J := J) (h := h) (K := fun s' => s' = pu s o'.dst x) hE r (fun s' a' w' r' hs' => ?_) ?_
    · subst hs'
      exact hk' ι a' w' r'
    · unfold qA
      simp only [ho]
      exact ⟨x, hdo, hya, rfl⟩

/-- 'max' of two ints. -/
theorem loc_max {E : Env} {ops : List Oper} {J : Jt} {s : Slots} {h : Heap} (hE : E.Good) {o : Oper} {xo yo : Operand} {t : TypeId} (hop : o.op = .call ⟨.builtin .max, #[xo, yo], #[t, t]⟩) {x1 x2 : Nat} {x3 : List Value} (ht : E.T t = some ⟨.int .i64, x1, x2, x3⟩) {a b : Int} (hx : ev s xo = .d (.lit (.int .i64 a))) (hy : ev s yo = .d (.lit (.int .i64 b))) :
    Loc E ops J h o s (.d (.lit (.int .i64 (max a b)))) := by
  refine ⟨(by rw [hop]; intro c hc; cases hc), fun Z K Y ι ac w m hl => ?_⟩
  obtain ⟨dst, op, ty, pos, af, gd⟩ := o
  simp only at hop
  subst hop
  have h1 := hl xo (by simp [Op.operands, Call.operands])
  have h2 := hl yo (by simp [Op.operands, Call.operands])
  rw [hx] at h1
  rw [hy] at h2
  obtain ⟨e1, o1⟩ := RA_lit.1 h1
  obtain ⟨e2, o2⟩ := RA_lit.1 h2
  have hu := (hE.ok.T t _ ht).2
  simp only [TK.fits] at hu
  refine ⟨.int .i64 (max a b), w, ?_, Grew.refl w, RA_lit_mk ?_⟩
  · have hm : (if b > a then b else a) = max a b := by simp only [Int.max_def]; split <;> split <;> omega
    simp [execOp, resolve, invoke, builtin, Builtin.max_, Builtin.max2, e1, e2, hm]
  · simp only [okLit] at o1 o2 ⊢
    omega

end Go.AL
/- AL, part 32: a variable of the frame's own handed on as data: nobody writes it from now on. -/
namespace Go.AL
set_option linter.unusedVariables false
set_option linter.unusedSimpArgs false
mutual
def fb (k : Nat) (ds : List D) : AV → AV
  | .d x => .d x
  | .any => .any
  | .agg cs => .agg (fbs k ds cs)
  | .tup cs => .tup (fbs k ds cs)
  | .fn f a b => .fn f (fbs k ds a) (fbs k ds b)
  | .ptr j o => bif Nat.beq j k then .d (.iptr (ds.drop o)) else .ptr j o
  | .row j => bif Nat.beq j k then .any else .row j
  | .view j o n => bif Nat.beq j k then .any else .view j o n
def fbs (k : Nat) (ds : List D) : List AV → List AV
  | [] => []
  | x :: xs => fb k ds x :: fbs k ds xs
end
def fbS (k : Nat) (ds : List D) (s : Slots) : Slots := fun i => fb k ds (s i)
def fbE (k : Nat) (ds : List D) : Ent → Ent
  | .box t cs => .box t (fbs k ds cs)
  | .row e sz xs => .row e sz xs
  | .ghost cs vs => .ghost (fbs k ds cs) vs
  | .rowA e sz n cs => .rowA e sz n (fbs k ds cs)
def fbH (k : Nat) (ds : List D) (h : Heap) : Heap := fun j => bif Nat.beq j k then none else match h j with
  | some e => some (fbE k ds e)
  | none => none
mutual
theorem RA_fb {k : Nat} {ds : List D} {C C' : Cx} (hk : Keeps C.w C'.w C.M C'.M) (hd : ∀ j, j ≠ k → C.dom j → C'.dom j ∧ C'.ι j = C.ι j) (hX : ∀ o b, blk (C.ι k) = some b → RD C'.w C'.M (.iptr (ds.drop o)) (.pointer (some ⟨b, o, none⟩))) : ∀ (x : AV) (v : Value), RA C x v → RA C' (fb k ds x) v
  | .d x, v => fun hx => by simp only [RA, fb] at hx ⊢; exact RD_keeps hk x v hx
  | .agg cs, v => fun hx => by
    simp only [RA, fb] at hx ⊢
    obtain ⟨vs, e, h1⟩ := hx
    exact ⟨vs, e, RAs_fb hk hd hX cs _ h1⟩
  | .tup cs, v => fun hx => by
    simp only [RA, fb] at hx ⊢
    obtain ⟨vs, e, h1⟩ := hx
    exact ⟨vs, e, RAs_fb hk hd hX cs _ h1⟩
  | .fn f first cap, v => fun hx => by
    simp only [RA, fb] at hx ⊢
    obtain ⟨vf, vc, e, h1, h2⟩ := hx
    exact ⟨vf, vc, e, RAs_fb hk hd hX first _ h1, RAs_fb hk hd hX cap _ h2⟩
  | .any, v => fun _ => by simp only [RA, fb]
  | .ptr j o, v => fun hx => by
    simp only [fb]
    cases hb : Nat.beq j k with
    | true =>
      have e := Nat.eq_of_beq_eq_true hb
      subst e
      simp only [RA, cond_true] at hx ⊢
      obtain ⟨_, b, hbk, e⟩ := hx
      rw [e]; exact hX o b hbk
    | false =>
      have hne : j ≠ k := by intro e; subst e; simp at hb
      simp only [RA, cond_false] at hx ⊢
      obtain ⟨hj, b, hbk, e⟩ := hx
      have := hd j hne hj
      exact ⟨this.1, b, by rw [this.2]; exact hbk, e⟩
  | .view j o n, v => fun hx => by
    simp only [fb]
    cases hb : Nat.beq j k with
    | true => simp [RA]
    | false =>
      have hne : j ≠ k := by intro e; subst e; simp at hb
      simp only [RA, cond_false] at hx ⊢
      obtain ⟨hj, b, cap, hbk, e⟩ := hx
      have := hd j hne hj
      exact ⟨this.1, b, cap, by rw [this.2]; exact hbk, by rw [this.2]; exact e⟩
  | .row j, v => fun hx => by
    simp only [fb]
    cases hb : Nat.beq j k with
    | true => simp [RA]
    | false =>
      have hne : j ≠ k := by intro e; subst e; simp at hb
      simp only [RA, cond_false] at hx ⊢
      have := hd j hne hx.1
      exact ⟨this.1, by rw [this.2]; exact hx.2⟩
theorem RAs_fb {k : Nat} {ds : List D} {C C' : Cx} (hk : Keeps C.w C'.w C.M C'.M) (hd : ∀ j, j ≠ k → C.dom j → C'.dom j ∧ C'.ι j = C.ι j) (hX : ∀ o b, blk (C.ι k) = some b → RD C'.w C'.M (.iptr (ds.drop o)) (.pointer (some ⟨b, o, none⟩))) : ∀ (xs : List AV) (vs : List Value), RAs C xs vs → RAs C' (fbs k ds xs) vs
  | [], vs => fun hx => by simpa only [RAs, fbs] using hx
  | x :: xs, vs => fun hx => by
    simp only [RAs, fbs] at hx ⊢
    obtain ⟨v, t, e, h1, h2⟩ := hx
    exact ⟨v, t, e, RA_fb hk hd hX x v h1, RAs_fb hk hd hX xs t h2⟩
end

theorem LE_freezeBox {E : Env} {J : Jt} {s : Slots} {h : Heap} (k : Nat) {t : TypeId} {cs : List AV} {ds : List D} (hk : h k = some (.box t cs)) (hds : cs = ds.map .d) : LE E ⟨J, s, h⟩ ⟨J, fbS k ds s, fbH k ds h⟩ := fun ι a w ⟨Z, K, Y, hZE, r⟩ => by
  subst hds
  have hdom : ∀ j, dom (fbH k ds h) j ↔ j ≠ k ∧ dom h j := by
    intro j
    unfold dom fbH
    cases hbq : Nat.beq j k with
    | true =>
      have e := Nat.eq_of_beq_eq_true hbq
      simp [e]
    | false =>
      have hne : j ≠ k := by intro e; subst e; simp at hbq
      simp only [cond_false]
      cases hj : h j <;> simp [hne]
  have hkd : dom h k := by simp [dom, hk]
  have keeps : Keeps w w (cx Z h ι w).M (cx Z (fbH k ds h) ι w).M := by
    refine ⟨fun _ _ _ _ hh => hh, fun _ _ hh => hh, fun b _ hm hm' => ?_⟩
    rcases hm' with hz | ⟨j, hj, hjb⟩
    · exact hm (.inl hz)
    · exact hm (.inr ⟨j, ((hdom j).1 hj).2, hjb⟩)
  have hd : ∀ j, j ≠ k → (cx Z h ι w).dom j → (cx Z (fbH k ds h) ι w).dom j ∧ ι j = ι j := fun j hne hj => ⟨(hdom j).2 ⟨hne, hj⟩, rfl⟩
  have hX : ∀ o b, blk (ι k) = some b → RD w (cx Z (fbH k ds h) ι w).M (.iptr (ds.drop o)) (.pointer (some ⟨b, o, none⟩)) := by
    intro o b hb
    obtain ⟨b', vs, h1, h2, h3⟩ := r.mem.ent k _ hk
    have : b' = b := by rw [blk_ptr h1] at hb; injection hb
    subst this
    have h2' : w.heap[b']? = some (.cells vs t (0, 0)) := h2
    simp only [RD]
    refine ⟨b', o, rfl, fun hm => ?_, ⟨_, _, _, h2'⟩, RC_of_list (RDs_keeps keeps _ _ (RDs_drop o (RAs_map_d.1 h3))) fun j v hj => ?_⟩
    · rcases hm with hz | ⟨j, hj, hjb⟩
      · exact (r.mem.own k b' hkd hb).1 hz
      · have hj' := (hdom j).1 hj
        exact hj'.1 (r.mem.apart j k b' hj'.2 hkd hjb hb)
    · simp only [World.cell?, h2']
      simpa [List.getElem?_drop] using hj
  refine ⟨ι, Z, K, Y, hZE, ⟨fun j e' hj => ?_, fun j b hj hjb => r.mem.own j b ((hdom j).1 hj).2 hjb, fun j j' b hj hj' => r.mem.apart j j' b ((hdom j).1 hj).2 ((hdom j').1 hj').2, r.mem.Zlt, r.mem.Klt, r.mem.Jw, r.mem.Jc⟩, r.size,
    fun j => RA_fb (C := cx Z h ι w) (C' := cx Z (fbH k ds h) ι w) keeps hd hX _ _ (r.slot j), r.ds⟩
  have hj0 : j ≠ k := ((hdom j).1 (show (fbH k ds h j).isSome = true by rw [show fbH k ds h j = some e' from hj]; rfl)).1
  have hbq : Nat.beq j k = false := Bool.eq_false_iff.2 fun h' => hj0 (Nat.eq_of_beq_eq_true h')
  have hj' : (match h j with | some e => some (fbE k ds e) | none => none) = some e' := by
    have : fbH k ds h j = some e' := hj
    unfold fbH at this
    rw [hbq] at this
    exact this
  split at hj'
  · rename_i e0 he0
    cases hj'
    have ho := r.mem.ent j e0 he0
    cases e0 with
    | box t cs =>
      obtain ⟨b, vs, h1, h2, h3⟩ := ho
      exact ⟨b, vs, h1, h2, RAs_fb (C := cx Z h ι w) (C' := cx Z (fbH k ds h) ι w) keeps hd hX _ _ h3⟩
    | row e2 sz2 xs2 =>
      obtain ⟨vs, h1, h2, h3⟩ := ho
      exact ⟨vs, h1, RDs_keeps keeps _ _ h2, h3⟩
    | ghost cs vs => exact ⟨ho.1, RAs_fb (C := cx Z h ι w) (C' := cx Z (fbH k ds h) ι w) keeps hd hX _ _ ho.2⟩
    | rowA e2 sz2 n2 cs =>
      obtain ⟨vs, h1, h2, h3⟩ := ho
      exact ⟨vs, h1, RAs_fb (C := cx Z h ι w) (C' := cx Z (fbH k ds h) ι w) keeps hd hX _ _ h2, h3⟩
  · cases hj'

/-- 's + t' of texts. -/
theorem loc_concat {E : Env} {ops : List Oper} {J : Jt} {s : Slots} {h : Heap} (hE : E.Good) {o : Oper} {t yt : TypeId} {xo yo : Operand} (hop : o.op = .binOp .add t xo yo yt) {x y : ByteArray} (hx : ev s xo = .d (.lit (.string x))) (hy : ev s yo = .d (.lit (.string y))) (hsz : x.size + y.size ≤ 140737488355328) : Loc E ops J h o s (.d (.lit (.string (x ++ y)))) := by
  refine ⟨(by rw [hop]; intro c hc; cases hc), fun Z K Y ι ac w m hl => ?_⟩
  obtain ⟨dst, op, ty, pos, af, gd⟩ := o
  simp only at hop
  subst hop
  have h1 := hl xo (by simp [Op.operands])
  have h2 := hl yo (by simp [Op.operands])
  rw [hx] at h1
  rw [hy] at h2
  obtain ⟨e1, o1⟩ := RA_lit.1 h1
  obtain ⟨e2, o2⟩ := RA_lit.1 h2
  have hg : (eqGuard .add t xo yo (.string x) (.string y)).run E.P w = .ok () w := by
    unfold eqGuard; split <;> simp
  refine ⟨.string (x ++ y), w, ?_, Grew.refl w, RA_lit_mk (by simp only [okLit, ByteArray.size_append]; omega)⟩
  · simp only [execOp, e1, e2, Sem.run_bind, hg, Result.andThen_ok]
    simp [binOp, Op.stringOp]
    omega
end Go.AL
/- AL, part 33: shifts to the left. -/
namespace Go.AL
set_option linter.unusedVariables false
set_option linter.unusedSimpArgs false
section
variable {E : Env} {ops : List Oper} {J : Jt} {h : Heap} {s : Slots}
end
end Go.AL
/- AL, part 34: calls that are lent what is the frame's own; rows told with less. -/
namespace Go.AL
set_option linter.unusedVariables false
set_option linter.unusedSimpArgs false
section
variable {E : Env} {ops : List Oper} {Q : Exit → St → Prop} {i : Nat} {J : Jt} {h : Heap} {s : Slots}

/-! ### Data told with less -/
def Dle (x y : D) : Prop := ∀ w M v, RD w M x v → RD w M y v
def Dles (x y : List D) : Prop := ∀ w M vs, RDs w M x vs → RDs w M y vs
theorem Dle.refl (x : D) : Dle x x := fun _ _ _ h => h
theorem Dles.refl (x : List D) : Dles x x := fun _ _ _ h => h
theorem Dles.nil : Dles [] [] := fun _ _ _ h => h
theorem Dles.cons {x y : D} {xs ys : List D} (h : Dle x y) (hs : Dles xs ys) : Dles (x :: xs) (y :: ys) := fun w M vs hv => by
  simp only [RDs] at hv ⊢
  obtain ⟨v, t, e, h1, h2⟩ := hv
  exact ⟨v, t, e, h _ _ _ h1, hs _ _ _ h2⟩
theorem RDs_split {w : World} {M : Nat → Prop} : ∀ {xs ys : List D} {vs : List Value}, RDs w M (xs ++ ys) vs → ∃ a b, vs = a ++ b ∧ RDs w M xs a ∧ RDs w M ys b
  | [], ys, vs, h => ⟨[], vs, rfl, by simp [RDs], h⟩
  | x :: xs, ys, vs, h => by
    simp only [List.cons_append, RDs] at h
    obtain ⟨v, t, rfl, h1, h2⟩ := h
    obtain ⟨a, b, rfl, h3, h4⟩ := RDs_split h2
    exact ⟨v :: a, b, rfl, by simp only [RDs]; exact ⟨v, a, rfl, h1, h3⟩, h4⟩
theorem Dles.append {x y xs ys : List D} (h : Dles x y) (hs : Dles xs ys) : Dles (x ++ xs) (y ++ ys) := fun w M vs hv => by
  obtain ⟨a, b, rfl, h1, h2⟩ := RDs_split hv
  exact RDs_append (h _ _ _ h1) (hs _ _ _ h2)
theorem Dle.nilSl (sz bts : Nat) : Dle (.lit (.slice none 0 0)) (.sl sz bts []) := fun w M v hv => by
  simp only [RD] at hv
  obtain ⟨rfl, _⟩ := hv
  simp only [RD]
  exact ⟨none, 0, rfl, by simp, by simp, by simp, by simp⟩
theorem Dles.set {x y : List D} : ∀ {xs : List (List D)} {j : Nat}, xs[j]? = some x → Dles x y → Dles xs.flatten (xs.set j y).flatten
  | [], j, h, _ => by simp at h
  | z :: xs, 0, h, hl => by
    simp at h; subst h
    simpa using hl.append (Dles.refl _)
  | z :: xs, j + 1, h, hl => by
    have := Dles.set (xs := xs) (j := j) (by simpa using h) hl
    simpa using (Dles.refl z).append this
end
end Go.AL
/- AL, part 35: shifts to the right, the low bits of a number. -/
namespace Go.AL
set_option linter.unusedVariables false
set_option linter.unusedSimpArgs false
section
variable {E : Env} {ops : List Oper} {J : Jt} {h : Heap} {s : Slots}
end
end Go.AL
/- AL, part 36: arrays: written out, their elements read. -/
namespace Go.AL
set_option linter.unusedVariables false
set_option linter.unusedSimpArgs false
def stepBuildA (T : Nat → Option TI) (s : Slots) (t : TypeId) (parts : List (Nat × Operand)) : Option AV :=
  match T t with
  | some ⟨.array n e, _, _, z⟩ => match T e, litCells z with
    | some ti, some cs => (afill ((List.range n).map fun i => (i * ti.size, ti.size)) cs (parts.map fun p => (p.1, ev s p.2))).map .agg
    | _, _ => none
  | _ => none
section
variable {E : Env} {ops : List Oper} {J : Jt} {h : Heap} {s : Slots}
theorem loc_buildA (hE : E.Good) {o : Oper} {t : TypeId} {parts : Array (Nat × Operand)} (hop : o.op = .build t parts) {R : AV} (hR : stepBuildA E.T s t parts.toList = some R) : Loc E ops J h o s R := by
  refine ⟨(by rw [hop]; intro c hc; cases hc), fun Z K Y ι a w m hlk => ?_⟩
  obtain ⟨dst, op, ty, pos, af, gd⟩ := o
  simp only at hop
  subst hop
  unfold stepBuildA at hR
  split at hR
  · rename_i n e sz bt z ht
    split at hR
    · rename_i ti cs hti hcs
      simp only [Option.map_eq_some_iff] at hR
      obtain ⟨R', hR', rfl⟩ := hR
      have hu := (hE.ok.T t _ ht).2
      simp only [TK.fits] at hu
      obtain ⟨zv, hz1, hz2⟩ := run_zero hE.ok.T ht w
      have hsz := run_size hE.ok.T hti w
      obtain ⟨r', hr1, hr2⟩ := afill_ok (C := cx Z h ι w) m.named (places := (List.range n).map fun i => (i * ti.size, ti.size)) (place := fun i => some (i * ti.size, ti.size)) (fun i q hq => by
        simp only [List.getElem?_map, Option.map_eq_some_iff] at hq
        obtain ⟨j, hj, rfl⟩ := hq
        obtain ⟨hlt, hj⟩ := List.getElem?_eq_some_iff.1 hj
        simp at hj
        rw [hj]) (parts.toList.map fun p => (p.1, ev s p.2)) (parts.toList.map fun p => (p.1, a.eval p.2)) cs zv.cells R' (by simp) (by
        have := RAs_evs (C := cx Z h ι w) (s := s) (a := a) (l := parts.toList.map (·.2)) fun x hx => hlk x (by simp only [Op.operands, Array.toList_map]; exact hx)
        simpa [List.map_map, Function.comp_def] using this) (by rw [hz2]; exact litCells_ok hcs) hR'
      refine ⟨.agg r', w, ?_, Grew.refl w, by simp only [RA]; exact ⟨_, rfl, hr2⟩⟩
      have hb : (Instr.build t (parts.map fun p => (p.1, a.eval p.2))).run E.P w = .ok (.agg r') w := by
        unfold Instr.build
        simp only [Sem.run_bind, hz1, Result.andThen_ok, run_underlying hu, hsz, Array.toList_map, hr1, Sem.run_pure]
      simp only [execOp, Sem.run_bind]
      rw [hb]
      simp
    · cases hR
  · cases hR
/-- An element of an array that is a value. -/
theorem loc_indexA (hE : E.Good) {o : Oper} {t : TypeId} {xo io : Operand} (hop : o.op = .index t xo io) {n : Nat} {e : TypeId} {z1 z2 : Nat} {z3 : List Value} (ht : E.T t = some ⟨.array n e, z1, z2, z3⟩) {ti : TI} (hte : E.T e = some ti)
    {cs : List AV} {ik : IntKind} {i : Int} (hx : ev s xo = .agg cs) (hi : ev s io = .d (.lit (.int ik i))) (h0 : 0 ≤ i) (h1 : i < n) {R : AV} (hR : ofCells ti.k.isAgg ti.size (cs.drop (i.toNat * ti.size)) = some R) : Loc E ops J h o s R := by
  refine ⟨(by rw [hop]; intro c hc; cases hc), fun Z K Y ι a w m hl => ?_⟩
  obtain ⟨dst, op, ty, pos, af, gd⟩ := o
  simp only at hop
  subst hop
  have g1 := hl xo (by simp [Op.operands])
  have g2 := hl io (by simp [Op.operands])
  rw [hx] at g1
  rw [hi] at g2
  obtain ⟨e2, _⟩ := RA_lit.1 g2
  simp only [RA] at g1
  obtain ⟨vs, e1, hv⟩ := g1
  have hu := (hE.ok.T t _ ht).2
  simp only [TK.fits] at hu
  have hsz := run_size hE.ok.T hte w
  obtain ⟨v, hv1, hv2⟩ := run_part_of hE.ok.T hte (C := cx Z h ι w) hv (i.toNat * ti.size) hR w
  refine ⟨v, w, ?_, Grew.refl w, hv2⟩
  simp [execOp, Instr.index, e1, e2, asIntOf, run_underlying hu, h0, h1, hsz, hv1]
/-- The address of an element of an array of the frame's own. -/
theorem loc_addrA (hE : E.Good) {o : Oper} {t : TypeId} {xo io : Operand} (hop : o.op = .indexAddr t xo io) {n : Nat} {e : TypeId} {z1 z2 : Nat} {z3 : List Value} (ht : E.T t = some ⟨.array n e, z1, z2, z3⟩) {ti : TI} (hte : E.T e = some ti)
    {k off : Nat} {ik : IntKind} {i : Int} (hx : ev s xo = .ptr k off) (hi : ev s io = .d (.lit (.int ik i))) (h0 : 0 ≤ i) (h1 : i < n) : Loc E ops J h o s (.ptr k (off + i.toNat * ti.size)) := by
  refine ⟨(by rw [hop]; intro c hc; cases hc), fun Z K Y ι a w m hl => ?_⟩
  obtain ⟨dst, op, ty, pos, af, gd⟩ := o
  simp only at hop
  subst hop
  have g1 := hl xo (by simp [Op.operands])
  have g2 := hl io (by simp [Op.operands])
  rw [hx] at g1
  rw [hi] at g2
  obtain ⟨e2, _⟩ := RA_lit.1 g2
  simp only [RA] at g1
  obtain ⟨hk, b, hb, e1⟩ := g1
  have hu := (hE.ok.T t _ ht).2
  simp only [TK.fits] at hu
  have hsz := run_size hE.ok.T hte w
  refine ⟨.pointer (some ⟨b, off + i.toNat * ti.size, none⟩), w, ?_, Grew.refl w, by simp only [RA]; exact ⟨hk, b, hb, rfl⟩⟩
  simp [execOp, Instr.indexAt, e1, e2, asIntOf, Instr.sureAddr, run_underlying hu, h0, h1, hsz]
  simp [Addr.add]
/-- A read of a variable of the frame's own, at a place that is told by an equation. -/
theorem loc_loadBox (hE : E.Good) {o : Oper} {t : TypeId} {po : Operand} (hop : o.op = .load t po) {ti : TI} (ht : E.T t = some ti) {k off : Nat} (hp : ev s po = .ptr k off) {t' : TypeId} {cs : List AV} (hk : h k = some (.box t' cs))
    {R : AV} (hR : ofCells ti.k.isAgg ti.size (cs.drop off) = some R) : Loc E ops J h o s R := by
  refine ⟨(by rw [hop]; intro c hc; cases hc), fun Z K Y ι a w m hl => ?_⟩
  obtain ⟨dst, op, ty, pos, af, gd⟩ := o
  simp only at hop
  subst hop
  have h1 := hl po (by simp [Op.operands])
  rw [hp] at h1
  simp only [RA] at h1
  obtain ⟨hkd, b, hb, e1⟩ := h1
  obtain ⟨b', vs, g1, g2, g3⟩ := m.ent k _ hk
  have : b' = b := by rw [blk_ptr g1] at hb; injection hb
  subst this
  have g2' : w.heap[b']? = some (.cells vs t' (0, 0)) := g2
  obtain ⟨v, h3, h4⟩ := run_loadVar_of (w := w) hE.ok.T ht (C := cx Z h ι w) (RAs_drop off g3) b' off (fun j v hj => by
    simp only [World.cell?, g2']
    simpa [List.getElem?_drop] using hj) hR
  exact ⟨v, w, by simp [execOp, Instr.loadAt, Instr.sureAddr, e1, h3], Grew.refl w, h4⟩
end
end Go.AL
/- AL, part 43: a variable that holds a function which captures that variable: frozen, to any depth. -/
namespace Go.AL
set_option linter.unusedVariables false
set_option linter.unusedSimpArgs false

end Go.AL
/- AL, part 44: rows whose elements hold what is the frame's own. -/
namespace Go.AL
set_option linter.unusedVariables false
set_option linter.unusedSimpArgs false

section
variable {E : Env} {ops : List Oper} {Q : Exit → St → Prop} {i : Nat} {J : Jt} {h : Heap} {s : Slots} {o : Oper}
end

/-! ### Literals and append -/
section
variable {E : Env} {ops : List Oper} {Q : Exit → St → Prop} {i : Nat} {J : Jt} {h : Heap} {s : Slots} {o : Oper}
end
end Go.AL
/- AL, part 45: functions that are lent what is the frame's own, write it, and give it back. -/
namespace Go.AL
set_option linter.unusedVariables false
set_option linter.unusedSimpArgs false

/-! ### Other keys -/
/-! ### Without some keys -/
/-! ### Heaps as lists -/
/-! ### The contract -/
end Go.AL
/- AL, part 46: calls of functions that are lent what is the frame's own. -/
namespace Go.AL
set_option linter.unusedVariables false
set_option linter.unusedSimpArgs false

section
variable {E : Env} {ops : List Oper} {Q : Exit → St → Prop} {i : Nat} {J : Jt} {s : Slots} {h : Heap} {o : Oper}
end
end Go.AL
/- AL, part 37: views into rows; functions that write the row that they are handed. -/
namespace Go.AL
set_option linter.unusedVariables false
set_option linter.unusedSimpArgs false
section
variable {E : Env} {ops : List Oper} {Q : Exit → St → Prop} {i : Nat} {J : Jt} {s : Slots} {h : Heap} {o : Oper}

end

/-! ### Functions that write the row of numbers that they are handed, and give it back -/
section
variable {E : Env} {ops : List Oper} {Q : Exit → St → Prop} {i : Nat} {J : Jt} {s : Slots} {h : Heap}
end
end Go.AL
/- AL, part 47: parts of rows of the frame's own: taken, laid over, cleared, made rows again. -/
namespace Go.AL
set_option linter.unusedVariables false
set_option linter.unusedSimpArgs false

section
variable {E : Env} {ops : List Oper} {Q : Exit → St → Prop} {i : Nat} {J : Jt} {s : Slots} {h : Heap} {o : Oper}

end
end Go.AL
/- AL, part 48: parts of rows cleared; a part that becomes the row. -/
namespace Go.AL
set_option linter.unusedVariables false
set_option linter.unusedSimpArgs false

section
variable {E : Env} {ops : List Oper} {Q : Exit → St → Prop} {i : Nat} {J : Jt} {s : Slots} {h : Heap} {o : Oper}
end

end Go.AL
/- AL, part 49: what a function does in worlds of which something is known (a table that stands). -/
namespace Go.AL
set_option linter.unusedVariables false
set_option linter.unusedSimpArgs false
def Tells (Tab : World → Prop) (J : Jt) : Prop := ∀ K Y Z w, J K Y Z w → Tab w
def DoesW (P : Program) (Tab : World → Prop) (f : Nat) (args : List AV) (R : AV) : Prop :=
  Callable P f ∧ ∀ n Z w vs, (∀ b, Z b → b < w.heap.size) → Tab w → RAs (cx Z noHeap noι w) args vs →
    CallsIn Fence.wide n P f vs.toArray w fun e w' => ∃ v ι, e = .returned v ∧ Grew w w' ∧ RA (cx Z noHeap ι w') R v ∧ Own Z w.heap.size noHeap ι w'
theorem DoesW.of {P : Program} {Tab : World → Prop} {f : Nat} {args : List AV} {R : AV} (h : Does P f args noHeap R) : DoesW P Tab f args R := ⟨h.1, fun n Z w vs hZ _ hv => h.2 n Z w vs hZ hv⟩
section
variable {E : Env} {ops : List Oper} {Q : Exit → St → Prop} {st : St} {i : Nat}
theorem OW_callW (hE : E.Good) {Tab : World → Prop} {f : Nat} {L : List AV} {R : AV} (hc : DoesW E.P Tab f L R) (hJ : Tells Tab st.J) {o : Oper} {fo : Operand} {args : Array Operand} {ts : Array TypeId} (ho : ops[i]? = some o) (hop : o.op = .call ⟨.value fo, args, ts⟩) (hw : awant ops o st.s = some true)
    (hL : callArgs st.s fo args.toList = some (f, L)) (hk : kfs L = true) (hR : kf R = true) {s' : Slots} (hs : putS E.N st.s o.dst R = some s') (h : OW E ops (i + 1) Q { st with s := s' }) : OW E ops i Q st := fun ι a w r => by
  have hd : ops.drop i = o :: ops.drop (i + 1) := by
    obtain ⟨hlt, rfl⟩ := List.getElem?_eq_some_iff.1 ho
    exact List.drop_eq_getElem_cons hlt
  rw [hd]
  simp only [wpListIn]
  rw [if_pos (awant_ok r hw)]
  refine ⟨fun f _ => hE.wide.fn f, ?_⟩
  rw [Oper.semAt_plain E.F _ _ (by rw [hop]; intro c hc; cases hc)]
  obtain ⟨Z, K, Y, hZE, r⟩ := r
  obtain ⟨vf, vc, he, hv⟩ := call_args hL r.slot
  obtain ⟨dst, op, ty, pos, af, gd⟩ := o
  simp only at hop
  subst hop
  rw [exec_call he hc.1]
  simp only [Oper.uponIn]
  refine ⟨fun hx => (by rw [hE.wide.depth] at hx; cases hx), ?_⟩
  have hZ : ∀ b, (cx Z st.h ι w).M b → b < w.heap.size := fun b hb => r.mem.Mlt hb
  have hv' : RAs (cx (cx Z st.h ι w).M noHeap noι w) L (vf ++ args.map a.eval ++ vc).toList :=
    RAs_kf (C := cx Z st.h ι w) (C' := cx (cx Z st.h ι w).M noHeap noι w) ⟨fun _ _ _ _ hh => hh, fun _ _ hh => hh, fun b _ hm hm' => by rw [M_of] at hm'; exact hm hm'⟩ _ _ hk hv
  have := hc.2 (E.n - 1) (cx Z st.h ι w).M w _ hZ (hJ _ _ _ _ r.mem.Jw) hv'
  simp only [Array.toArray_toList] at this
  refine (hE.wide.calls this).mono fun e w' ⟨v, ι', he', hg, hRv, _⟩ => ?_
  subst he'
  show wpListIn _ _ _ _ _ _ _ _
  have hRv' : RA (cx Z st.h ι w') R v := RA_kf (C := cx (cx Z st.h ι w).M noHeap ι' w') (C' := cx Z st.h ι w') ⟨fun _ _ _ _ hh => hh, fun _ _ hh => hh, fun b _ hm hm' => hm (.inl hm')⟩ _ _ hR hRv
  unfold putS at hs
  cases hdst : dst with
  | none =>
    simp only [hdst] at hs
    cases hs
    exact h ι _ w' ⟨Z, K, Y, hZE, Rel.put_none r hg _⟩
  | some d =>
    simp only [hdst] at hs
    cases hb : Nat.ble (d + 1) E.N with
    | false => rw [hb] at hs; cases hs
    | true =>
      rw [hb] at hs
      cases hs
      exact h ι _ w' ⟨Z, K, Y, hZE, Rel.put r hg hb hRv'⟩
end
section
variable {E : Env} {ops : List Oper} {Q : Exit → St → Prop} {J : Jt} {s : Slots} {h : Heap} {i : Nat}
theorem OW_callW' (hE : E.Good) {Tab : World → Prop} {f : Nat} {L : List AV} {R : AV} (hc : DoesW E.P Tab f L R) (hJ : Tells Tab J) {o : Oper} {fo : Operand} {args : Array Operand} {ts : Array TypeId} (ho : ops[i]? = some o) (hop : o.op = .call ⟨.value fo, args, ts⟩) (hw : awant ops o s = some true)
    (hL : callArgs s fo args.toList = some (f, L)) (hk : kfs L = true) (hR : kf R = true) {s' : Slots} (hs : putS E.N s o.dst R = some s') (hk' : OW E ops (i + 1) Q ⟨J, s', h⟩) : OW E ops i Q ⟨J, s, h⟩ :=
  OW_callW (st := ⟨J, s, h⟩) hE hc hJ ho hop hw hL hk hR hs hk'
end
section
variable {E : Env} {ops : List Oper} {J : Jt} {h : Heap}
theorem LY_callW (hE : E.Good) {Tab : World → Prop} {f : Nat} {L : List AV} {R : AV} (hc : DoesW E.P Tab f L R) (hJ : Tells Tab J) {s : Slots} {o : Oper} {fo : Operand} {args : Array Operand} {ts : Array TypeId} (hop : o.op = .call ⟨.value fo, args, ts⟩)
    (hL : callArgs s fo args.toList = some (f, L)) (hkf : kfs L = true) (hR : kf R = true) : LY E ops.toArray J h o s R := by
  intro Z K Y ι a w m hl K' Q' hk'
  refine ⟨fun f _ => hE.wide.fn f, ?_⟩
  rw [Oper.semAt_plain E.F _ _ (by rw [hop]; intro c hc; cases hc)]
  have hevs := look_ev (ops := ops) (o := o) (s := s) (C := cx Z h ι w) (a := a) hl
  have hfo : RA (cx Z h ι w) (ev s fo) (a.eval fo) := hevs fo (by rw [hop]; simp [Op.operands, Call.operands])
  have hargs : RAs (cx Z h ι w) (args.toList.map (ev s)) (args.toList.map a.eval) := RAs_evs fun x hx => hevs x (by rw [hop]; simp [Op.operands, Call.operands]; exact .inr (by simpa using hx))
  obtain ⟨vf, vc, he, hv⟩ : ∃ vf vc, a.eval fo = .func (.func f) vf vc ∧ RAs (cx Z h ι w) L (vf ++ args.map a.eval ++ vc).toList := by
    unfold callArgs at hL
    split at hL
    · rename_i f' first cap hee
      cases hL
      rw [hee] at hfo
      simp only [RA, RD] at hfo
      obtain ⟨vf, vc, e, h1, h2⟩ := hfo
      exact ⟨vf, vc, e, by simpa using RAs_append (RAs_map_d.2 h1) (RAs_append hargs (RAs_map_d.2 h2))⟩
    · rename_i f' first cap hee
      cases hL
      rw [hee] at hfo
      simp only [RA] at hfo
      obtain ⟨vf, vc, e, h1, h2⟩ := hfo
      exact ⟨vf, vc, e, by simpa using RAs_append h1 (RAs_append hargs h2)⟩
    · cases hL
  obtain ⟨dst, op, ty, pos, af, gd⟩ := o
  simp only at hop
  subst hop
  rw [exec_call he hc.1]
  simp only [Oper.uponIn]
  refine ⟨fun hx => (by rw [hE.wide.depth] at hx; cases hx), ?_⟩
  have hZ : ∀ b, (cx Z h ι w).M b → b < w.heap.size := fun b hb => m.Mlt hb
  have hv' : RAs (cx (cx Z h ι w).M noHeap noι w) L (vf ++ args.map a.eval ++ vc).toList :=
    RAs_kf (C := cx Z h ι w) (C' := cx (cx Z h ι w).M noHeap noι w) ⟨fun _ _ _ _ hh => hh, fun _ _ hh => hh, fun b _ hm hm' => by rw [M_of] at hm'; exact hm hm'⟩ _ _ hkf hv
  have := hc.2 (E.n - 1) (cx Z h ι w).M w _ hZ (hJ _ _ _ _ m.Jw) hv'
  simp only [Array.toArray_toList] at this
  refine (hE.wide.calls this).mono fun e w' ⟨v, ι', he', hg, hRv, _⟩ => ?_
  subst he'
  exact hk' v w' hg (RA_kf (C := cx (cx Z h ι w).M noHeap ι' w') (C' := cx Z h ι w') ⟨fun _ _ _ _ hh => hh, fun _ _ hh => hh, fun b _ hm hm' => hm (.inl hm')⟩ _ _ hR hRv)
theorem HW_callW (hE : E.Good) {Tab : World → Prop} {f : Nat} {L : List AV} {R : AV} (hc : DoesW E.P Tab f L R) (hJ : Tells Tab J) {n i : Nat} {K : Slots → Prop} {s s' : Slots} {o : Oper} {fo : Operand} {args : Array Operand} {ts : Array TypeId} (ho : ops[i]? = some o) (hi : Nat.ble (i + 1) n = true) (hop : o.op = .call ⟨.value fo, args, ts⟩)
    (hw : awant ops o s = some true) (hL : callArgs s fo args.toList = some (f, L)) (hkf : kfs L = true) (hR : kf R = true) (hs : putS E.N s o.dst R = some s') (hk : HW E ops J h n (i + 1) K s') : HW E ops J h n i K s := by
  obtain ⟨hd, rfl⟩ := pu_of_putS hs
  exact HW_cons ho hi hd (.inl ⟨hw, LY_callW hE hc hJ hop hL hkf hR⟩) hk
end
theorem DoesW_of {P : Program} {Tab : World → Prop} (hst : ∀ w w', Tab w → Grew w w' → Tab w') {T : Nat → Option TI} (hT : TOk P T) (hm : P.follows .mixedOrders = true) {f : Nat} {fn : Func} {c : Code} {args : List AV} {R : AV} (hf : P.funcs[f]? = some fn) (hb : fn.body = some c) (hn : (fn.name == "runtime.NumGoroutine") = false)
    {N : Nat} (hN : fn.ntmps = N) (hl : Nat.ble args.length N = true)
    (h : ∀ F n Z, (⟨P, T, F, n, Z, N⟩ : Env).Good → F = Fence.wide → ∀ J, Tells Tab J → CW ⟨P, T, F, n, Z, N⟩ c (Ret T fn J noHeap R) ⟨J, argSlots args 0, noHeap⟩) : DoesW P Tab f args R := by
  subst hN
  refine ⟨⟨fn, hf, hn, by rw [hb]; rfl⟩, fun n Z w vs hZ hTab hv => ?_⟩
  let E : Env := ⟨P, T, Fence.wide, n, Z, fn.ntmps⟩
  have hE : E.Good := ⟨⟨hT, fun f => trivial, rfl, hm⟩, .inl rfl⟩
  refine callsIn_of_wp_marks hf hb trivial (wpIn_mono (h _ _ _ hE rfl (grewJ w) (fun K Y Z w' hw => hst w w' hTab hw.1) noι _ w ?_) ?_) rfl
  · exact ⟨Z, fun b => b < w.heap.size, fun _ => False, ⟨fun b hb => hb, fun _ hb => hb.elim, mono_grew w⟩, rel_begin hZ (fun b hb => hb) ⟨Grew.refl w, fun b hb => hb⟩ ((mono_grew w).closed (fun b => b < w.heap.size) (fun _ => False) Z) hv hl⟩
  · rintro e a' w' ⟨st, ι, ⟨he, hJ, ⟨Rs, hRs, hk, hRe⟩, _⟩, Z', K, Y, hZE, r⟩
    have goal : LeavesInM Fence.wide n P fn a'.tmps (fun e w' => ∃ v ι, e = .returned v ∧ Grew w w' ∧ RA (cx Z noHeap ι w') R v ∧ Own Z w.heap.size noHeap ι w') a'.defers .returning w' := by
      refine leaves_marks r fun w1 r1 => ?_
      have hg : Grew w w1 := by have := r1.mem.Jw; rw [hJ] at this; exact this.1
      obtain ⟨v, g1, g2⟩ := results_ok hT r1 hRs
      refine ⟨v, g1, v, noι, rfl, hg, hRe _ _ (RA_kf (C := cx Z' st.h ι w1) (C' := cx Z noHeap noι w1) ⟨fun _ _ _ _ hh => hh, fun _ _ hh => hh, fun b _ hm hm' => ?_⟩ _ _ hk g2), ⟨fun k e hk => by simp [noHeap] at hk, fun k b hk => by simp [dom, noHeap] at hk, fun k k' b hk => by simp [dom, noHeap] at hk⟩⟩
      rcases hm' with hm' | ⟨k, hk, _⟩
      · exact hm (.inl (hZE.1 b hm'))
      · simp [dom, noHeap] at hk
    rcases he with rfl | rfl
    · exact goal
    · exact goal
theorem law_endsW {P : Program} {Tab : World → Prop} {f : Nat} {args : List AV} (hD : DoesW P Tab f args (.d (.lit (.bool true)))) {w : World} (hT : Tab w) {vs : List Value} (hv : RAs (cx noM noHeap noι w) args vs) :
    Calls P f vs.toArray w fun e w' => e = .returned (.bool true) ∧ RowKit.Below w.heap.size w w' := by
  refine (callsIn_wide (n := 0)).1 ((hD.2 0 noM w vs (fun _ h => h.elim) hT hv).mono fun e w' ⟨v, ι, he, hg, hr, _⟩ => ?_)
  obtain ⟨rfl, _⟩ := RA_lit.1 hr
  exact ⟨he, hg.below⟩
end Go.AL
/- AL, part 38: rows begun by a call in a drawn head; calls that are lent own rows and give errors. -/
namespace Go.AL
set_option linter.unusedVariables false
set_option linter.unusedSimpArgs false
section
variable {E : Env} {ops : List Oper} {Q : Exit → St → Prop} {J : Jt} {s : Slots} {h : Heap}
variable {p : Grow} {n i : Nat} {K : Slots → Prop}
end
section
variable {E : Env} {ops : List Oper} {Q : Exit → St → Prop} {i : Nat} {J : Jt} {h : Heap} {s : Slots}
end
end Go.AL
/- AL, part 39: a row that is begun by a call, lengthened, and lent in a drawn head. -/
namespace Go.AL
set_option linter.unusedVariables false
set_option linter.unusedSimpArgs false
section
variable {E : Env} {ops : List Oper} {Q : Exit → St → Prop} {i : Nat} {J : Jt} {h : Heap} {s : Slots}
variable {p : Grow} {n g3 : Nat} {R3 : AV} {P3 : Slots → Prop} {K : Slots → Prop}
end
end Go.AL
/- AL, part 40: a drawn head in which a new variable is laid, that is written behind it. -/
namespace Go.AL
set_option linter.unusedVariables false
set_option linter.unusedSimpArgs false
section
variable {E : Env} {ops : List Oper} {Q : Exit → St → Prop} {J : Jt} {s : Slots} {h : Heap}
end
end Go.AL
/- AL, part 42: a drawn head in which some operations each lay something new under a key of its own (variables, rows that calls give, rows appended to nothing), in whatever order. -/
namespace Go.AL
set_option linter.unusedVariables false
set_option linter.unusedSimpArgs false

/-- (operation, key, what it lays) -/
abbrev Effs := List (Nat × Nat × Ent)
def HG (h : Heap) (b : Nat → Bool) : Effs → Heap
  | [] => h
  | (i, k, e) :: r => hset (HG h b r) k (bif b i then some e else none)
/-- All of it laid. -/
def HGt (h : Heap) : Effs → Heap
  | [] => h
  | (_, k, e) :: r => hset (HGt h r) k (some e)
def keysOf : Effs → List Nat
  | [] => []
  | (_, k, _) :: r => k :: keysOf r
def opsOf : Effs → List Nat
  | [] => []
  | (i, _, _) :: r => i :: opsOf r
def freshK (h : Heap) : Effs → Bool
  | [] => true
  | (_, k, _) :: r => (h k).isNone && freshK h r
def distinctB : List Nat → Bool
  | [] => true
  | x :: r => !(r.any (Nat.beq x)) && distinctB r

theorem HG_true {h : Heap} {b : Nat → Bool} : ∀ {l : Effs}, (∀ i ∈ opsOf l, b i = true) → HG h b l = HGt h l
  | [], _ => rfl
  | (i, k, e) :: r, hb => by
    simp only [HG, HGt]
    rw [hb i (by simp [opsOf]), HG_true fun j hj => hb j (by simp [opsOf, hj])]
    rfl
theorem HG_none {h : Heap} {b : Nat → Bool} : ∀ {l : Effs}, freshK h l = true → (∀ i ∈ opsOf l, b i = false) → HG h b l = h
  | [], _, _ => rfl
  | (i, k, e) :: r, hf, hb => by
    simp only [freshK, Bool.and_eq_true, Option.isNone_iff_eq_none] at hf
    simp only [HG]
    rw [hb i (by simp [opsOf]), HG_none hf.2 fun j hj => hb j (by simp [opsOf, hj])]
    exact hset_none hf.1
theorem HG_out {h : Heap} {b b' : Nat → Bool} : ∀ {l : Effs}, (∀ i ∈ opsOf l, b' i = b i) → HG h b' l = HG h b l
  | [], _ => rfl
  | (i, k, e) :: r, hb => by
    simp only [HG]
    rw [hb i (by simp [opsOf]), HG_out fun j hj => hb j (by simp [opsOf, hj])]
theorem mem_opsOf {i k : Nat} {e : Ent} : ∀ {l : Effs}, (i, k, e) ∈ l → i ∈ opsOf l
  | (i', k', e') :: r, hm => by
    rcases List.mem_cons.1 hm with hm | hm
    · cases hm; simp [opsOf]
    · simp [opsOf, mem_opsOf hm]
theorem mem_keysOf {i k : Nat} {e : Ent} : ∀ {l : Effs}, (i, k, e) ∈ l → k ∈ keysOf l
  | (i', k', e') :: r, hm => by
    rcases List.mem_cons.1 hm with hm | hm
    · cases hm; simp [keysOf]
    · simp [keysOf, mem_keysOf hm]
theorem distinct_not {x : Nat} {r : List Nat} (h : distinctB (x :: r) = true) : x ∉ r := fun hm => by
  simp only [distinctB, Bool.and_eq_true, Bool.not_eq_true'] at h
  have := h.1
  rw [List.any_eq_false] at this
  exact this x hm (Nat.beq_refl x)
theorem distinct_tail {x : Nat} {r : List Nat} (h : distinctB (x :: r) = true) : distinctB r = true := by
  simp only [distinctB, Bool.and_eq_true] at h; exact h.2
theorem hset_swap (h : Heap) {k k' : Nat} (hn : k ≠ k') (x y : Option Ent) : hset (hset h k x) k' y = hset (hset h k' y) k x := by
  funext i
  by_cases h1 : i = k'
  · subst h1; rw [hset_same, hset_ne _ _ (Ne.symm hn), hset_same]
  · rw [hset_ne _ _ h1]
    by_cases h2 : i = k
    · subst h2; rw [hset_same, hset_same]
    · rw [hset_ne _ _ h2, hset_ne _ _ h2, hset_ne _ _ h1]
theorem HG_set {h : Heap} {b b' : Nat → Bool} {i k : Nat} {e : Ent} (hi : b i = false) (hi' : b' i = true) (hb : ∀ j, j ≠ i → b' j = b j) : ∀ {l : Effs}, distinctB (opsOf l) = true → distinctB (keysOf l) = true → (i, k, e) ∈ l →
    HG h b' l = hset (HG h b l) k (some e) ∧ HG h b l k = none
  | (i', k', e') :: r, h1, h2, hm => by
    have n1 := distinct_not h1
    have n2 := distinct_not h2
    rcases List.mem_cons.1 hm with hm | hm
    · cases hm
      have : HG h b' r = HG h b r := HG_out fun j hj => hb j (fun e => n1 (e ▸ hj))
      simp only [HG]
      rw [this, hi, hi']
      exact ⟨by rw [hset_hset]; rfl, hset_same _ _ _⟩
    · have hne : i' ≠ i := fun e => n1 (e ▸ mem_opsOf hm)
      have hnk : k ≠ k' := fun e => n2 (e ▸ mem_keysOf hm)
      obtain ⟨g1, g2⟩ := HG_set hi hi' hb (distinct_tail h1) (distinct_tail h2) hm
      simp only [HG]
      rw [hb i' hne, g1]
      exact ⟨hset_swap _ hnk _ _, by rw [hset_ne _ _ hnk]; exact g2⟩
theorem HG_more {h : Heap} {b : Nat → Bool} : ∀ {l : Effs}, freshK h l = true → ∀ j e, h j = some e → HG h b l j = some e
  | [], _, j, e, hj => hj
  | (i, k, e') :: r, hf, j, e, hj => by
    simp only [freshK, Bool.and_eq_true, Option.isNone_iff_eq_none] at hf
    have hne : j ≠ k := fun h => by rw [h, hf.1] at hj; cases hj
    simp only [HG]
    rw [hset_ne _ _ hne]
    exact HG_more hf.2 j e hj

/-- The operation lays e under k and gives x. -/
def Lays (E : Env) (ops : List Oper) (J : Jt) (H : (Nat → Bool) → Heap) (i : Nat) (o : Oper) (s : Slots) (x : AV) (k : Nat) (e : Ent) : Prop :=
  o.guard = none ∧ ∀ s1 b, (∀ t ∈ o.looksAt ops.toArray, s1 t = s t) → b i = false → H b k = none → OpG E o ⟨J, s1, H b⟩ (fun st' => st' = ⟨J, pu s1 o.dst x, hset (H b) k (some e)⟩)
def YG (h : Heap) (l : Effs) (E : Env) (ops : List Oper) (J : Jt) (i : Nat) (s : Slots) (x : AV) : Prop :=
  (∃ k e o, (i, k, e) ∈ l ∧ ops[i]? = some o ∧ Lays E ops J (fun b => HG h b l) i o s x k e) ∨
  (i ∉ opsOf l ∧ ∃ o, ops[i]? = some o ∧ ∀ b, YA E ops J (HG h b l) o s x)
def HGW (h : Heap) (l : Effs) (E : Env) (ops : List Oper) (J : Jt) (n i : Nat) (K : Slots → Prop) (s : Slots) : Prop := QB E (YG h l E ops J) K ((ops.take n).drop i) i s

section
variable {E : Env} {ops : List Oper} {Q : Exit → St → Prop} {J : Jt} {s : Slots} {h : Heap}
theorem CW_drawnG (hE : E.Good) (n : Nat) (l : Effs) {id : Nat} (hB : Region.lexTailB .any ops.toArray n = true)
    (hl : ((opsOf l).all (fun i => Nat.ble (i + 1) n) && distinctB (opsOf l) && distinctB (keysOf l) && freshK h l) = true)
    (hq : HGW h l E ops J n 0 (fun s => OW E ops n Q ⟨J, s, HGt h l⟩) s) : CW E (.region id ops.toArray true) Q ⟨J, s, h⟩ := fun ι a w r => by
  simp only [Bool.and_eq_true, List.all_eq_true] at hl
  obtain ⟨⟨⟨hl1, hl2⟩, hl3⟩, hl4⟩ := hl
  simp only [Region.lexTailB, Bool.and_eq_true, decide_eq_true_eq] at hB
  obtain ⟨⟨⟨⟨hsel, hn⟩, hs⟩, hc⟩, hlex⟩ := hB
  have hn' : n < ops.length := by simpa using hn
  have htl : (ops.take n).length = n := by simp; omega
  have hdl : (ops.drop n).length = ops.toArray.size - n := by simp
  have inv0 : HeadInv .any ops.toArray n (Array.replicate ops.toArray.size false) :=
    ⟨by simp, fun j oj _ hl => (by rw [getD_replicate_false] at hl; cases hl), fun t _ ht => getD_in (by simpa using ht) (getD_replicate_false _ _)⟩
  have hYS : YStable ops (YG h l E ops J) := by
    intro i o s s' x ho hss hy
    rcases hy with ⟨k, e, o', h1, h2, h3, h4⟩ | ⟨h1, o', h3, h4⟩
    · have hoo : o' = o := by rw [ho] at h2; exact (Option.some.inj h2).symm
      subst hoo
      exact .inl ⟨k, e, o', h1, h2, h3, fun s1 b hs1 => h4 s1 b fun t ht => (hs1 t ht).trans (hss t ht)⟩
    · have hoo : o' = o := by rw [ho] at h3; exact (Option.some.inj h3).symm
      subst hoo
      exact .inr ⟨h1, o', h3, fun b => YA_same hss (h4 b)⟩
  have H0 := anyB_lex (E := E) (Y := YG h l E ops J) (g := ops.toArray.size - n) hYS hs hc hn (ops.take n) 0 _ s (fun j hj => by
    have hj' : j < n := by rw [htl] at hj; exact hj
    simp [hj']) (by simpa using htl) inv0 (fun j hj => by omega) (by rw [htl]; exact hlex) (by simpa [HGW] using hq)
  have hH0 : HG h (bits (Array.replicate ops.toArray.size false)) l = h := HG_none hl4 fun i _ => getD_replicate_false _ _
  have r1 : RelS E ⟨J, s, HG h (bits (Array.replicate ops.toArray.size false)) l⟩ ι a { w with drawn := w.drawn + 1 } := by
    rw [hH0]
    obtain ⟨Z, K, Y, hZE, r⟩ := r
    exact ⟨Z, K, Y, hZE, r.mem.grew (Grew.drew w), r.size, fun i => RA_keeps (keepsC_grew (K := K) (J := J K Y Z) (Grew.drew w)) _ _ (r.slot i), r.ds.grew (Grew.drew w)⟩
  refine wpIn_region_any hE.ok.mixed ?_
  have hh := wpAnyIn_of_headB (Y := YG h l E ops J) (J := J) (Q' := Post E Q) (fun b => HG h b l) (g := ops.toArray.size - n) (fun i o listed s x ho inv hi hin hy hdo ι a w r K' hk' => ?_) (fun listed s ι a' w' r' hL => by
    have hH : HG h (bits listed) l = HGt h l := HG_true fun i hi => hL.1.2 i (Nat.le_of_ble_eq_true (hl1 i hi))
    have r' : RelS E ⟨J, s, HG h (bits listed) l⟩ ι a' w' := r'
    rw [hH] at r'
    have := wpAnyIn_of_seq (Q' := Post E Q) (ops.drop n) n listed a' w' (fun j => by simp [List.getElem?_drop]) (by rw [hdl]; exact hL.1.1) (hL.2 ι a' w' r')
    rwa [hdl] at this) _ _ _ ι a _ inv0 r1 H0
  · rw [htl] at hh
    rwa [show n + (ops.toArray.size - n) = ops.toArray.size by simp; omega] at hh
  · have hun : listed.getD i true = false := (mem_ready.1 hi).1
    have hst' : ∀ j, j ≠ i → bits (listed.setIfInBounds i true) j = bits listed j := fun j hj => getD_set_ne false (Ne.symm hj)
    have hsz : i < listed.size := by
      rw [inv.size]
      have := (List.getElem?_eq_some_iff.1 ho).1
      simpa using this
    have hseti : bits (listed.setIfInBounds i true) i = true := by simp [bits, hsz]
    have b1 : bits listed i = false := getD_both hun
    rcases hy with ⟨k, e, o', h1, h2, hgd, h4⟩ | ⟨h1, o', h3, h4⟩
    · have hoo : o' = o := by rw [ho] at h2; exact (Option.some.inj h2).symm
      subst hoo
      obtain ⟨g1, g2⟩ := HG_set (h := h) b1 hseti hst' hl2 hl3 h1
      have g := h4 s (bits listed) (fun _ _ => rfl) b1 g2
      unfold wpOpIn
      simp only [List.getElem?_toArray, ho]
      rw [if_pos (by simp [Region.wanted, hgd])]
      refine g ι a w r K' (Post E Q) fun st' ι' a' w' hst r' => ?_
      subst hst
      refine hk' ι' a' w' ?_
      show RelS E ⟨J, _, HG h _ l⟩ _ _ _
      rw [g1]; exact r'
    · have hoo : o' = o := by rw [ho] at h3; exact (Option.some.inj h3).symm
      subst hoo
      have hHs : HG h (bits (listed.setIfInBounds i true)) l = HG h (bits listed) l := HG_out fun j hj => hst' j (fun e => h1 (e ▸ hj))
      refine wpOpIn_of_qA (J := J) (h := HG h (bits listed) l) (K := fun s' => s' = pu s o'.dst x) hE r (fun s' a' w' r' hs' => ?_) ?_
      · subst hs'
        refine hk' ι a' w' ?_
        show RelS E ⟨J, _, HG h _ l⟩ _ _ _
        rw [hHs]; exact r'
      · unfold qA
        simp only [ho]
        exact ⟨x, hdo, h4 _, rfl⟩

variable {l : Effs} {n i : Nat} {K : Slots → Prop}
theorem HG_cons {o : Oper} (ho : ops[i]? = some o) (hi : Nat.ble (i + 1) n = true) {x : AV} (hd : dstOk E.N o.dst = true) (hy : YG h l E ops J i s x) (hk : HGW h l E ops J n (i + 1) K (pu s o.dst x)) : HGW h l E ops J n i K s := by
  unfold HGW at *
  have hi' := Nat.le_of_ble_eq_true hi
  obtain ⟨hlt, rfl⟩ := List.getElem?_eq_some_iff.1 ho
  have hlt2 : i < (ops.take n).length := by simp; omega
  rw [List.drop_eq_getElem_cons hlt2, List.getElem_take]
  exact ⟨x, hd, hy, hk⟩
theorem HG_end (hk : K s) : HGW h l E ops J n n K s := by
  unfold HGW
  rw [List.drop_eq_nil_of_le (by simp; omega)]
  exact hk
def offRange (l : Effs) (i m : Nat) : Bool := (opsOf l).all fun g => Nat.ble (i + m) g || Nat.ble (g + 1) i
theorem off_not {m q : Nat} (h : offRange l i m = true) (h1 : i ≤ q) (h2 : q < i + m) : q ∉ opsOf l := fun hm => by
  have := List.all_eq_true.1 h q hm
  simp only [Bool.or_eq_true] at this
  rcases this with h | h <;> have := Nat.le_of_ble_eq_true h <;> omega
theorem HG_run (hE : E.Good) (m : Nat) {s' : Slots} (hfr : freshK h l = true) (hp : runPure E ops h m i s = some s') (hi : Nat.ble (i + m) n = true) (h1 : offRange l i m = true)
    (hk : HGW h l E ops J n (i + m) K s') : HGW h l E ops J n i K s := by
  have more : ∀ b j e, h j = some e → HG h b l j = some e := fun b j e hj => HG_more hfr j e hj
  have n1 : ∀ q, i ≤ q → q < i + m → q ∉ opsOf l := fun q a b => off_not h1 a b
  clear h1
  induction m generalizing i s with
  | zero => simp only [runPure, Option.some.injEq] at hp; subst hp; exact hk
  | succ m ih =>
    have hi' := Nat.le_of_ble_eq_true hi
    have hi1 : Nat.ble (i + 1) n = true := Nat.ble_eq_true_of_le (by omega)
    have hi2 : Nat.ble (i + 1 + m) n = true := Nat.ble_eq_true_of_le (by omega)
    have a1 := n1 i (Nat.le_refl _) (by omega)
    simp only [runPure] at hp
    split at hp
    · rename_i o ho
      split at hp
      · rename_i hw
        split at hp
        · rename_i R hR
          split at hp
          · rename_i s1 hs1
            obtain ⟨hd, rfl⟩ := pu_of_putS hs1
            refine HG_cons ho hi1 hd (.inr ⟨a1, o, ho, fun b => .inl ⟨hw, LY_of_gives hE (stepPure_notDefer hR) fun Z K Y ι a w m hl => stepPure_ok (K := K) (J := J K Y Z) hE.ok.T m o (look_ev hl) (stepPure_more (more b) hR)⟩⟩) (ih hp hi2 ?_ (fun q a b => n1 q (by omega) (by omega)))
            rwa [show i + 1 + m = i + (m + 1) by omega]
          · cases hp
        · cases hp
      · rename_i hw
        split at hp
        · rename_i s1 hs1
          obtain ⟨hd, rfl⟩ := pu_of_putS hs1
          refine HG_cons ho hi1 hd (.inr ⟨a1, o, ho, fun b => .inr ⟨hw, rfl⟩⟩) (ih hp hi2 ?_ (fun q a b => n1 q (by omega) (by omega)))
          rwa [show i + 1 + m = i + (m + 1) by omega]
        · cases hp
      · cases hp
    · cases hp
theorem HG_call (hE : E.Good) {f : Nat} {L : List AV} {R : AV} (hc : Does E.P f L noHeap R) {s' : Slots} {o : Oper} {fo : Operand} {args : Array Operand} {ts : Array TypeId} (ho : ops[i]? = some o) (hi : Nat.ble (i + 1) n = true) (hop : o.op = .call ⟨.value fo, args, ts⟩)
    (hw : awant ops o s = some true) (hL : callArgs s fo args.toList = some (f, L)) (hkf : kfs L = true) (hR : kf R = true) (hs : putS E.N s o.dst R = some s') (h1 : offRange l i 1 = true) (hk : HGW h l E ops J n (i + 1) K s') : HGW h l E ops J n i K s := by
  obtain ⟨hd, rfl⟩ := pu_of_putS hs
  exact HG_cons ho hi hd (.inr ⟨off_not h1 (Nat.le_refl _) (by omega), o, ho, fun b => .inl ⟨hw, LY_call hE hc hop hL hkf hR⟩⟩) hk
theorem mem_find {l : Effs} {i k : Nat} {e : Ent} (h : l.find? (fun x => Nat.beq x.1 i) = some (i, k, e)) : (i, k, e) ∈ l := List.mem_of_find?_eq_some h
/-- A new variable. -/
theorem HG_alloc (hE : E.Good) {o : Oper} {k : Nat} {t : TypeId} {ti : TI} {zs : List AV} (hm : l.find? (fun x => Nat.beq x.1 i) = some (i, k, .box t zs)) (ho : ops[i]? = some o) (hi : Nat.ble (i + 1) n = true) (hop : o.op = .alloc t) (hgd : o.guard = none)
    (ht : E.T t = some ti) (hz : litCells ti.zero = some zs) {s' : Slots} (hs : putS E.N s o.dst (.ptr k 0) = some s') (hk : HGW h l E ops J n (i + 1) K s') : HGW h l E ops J n i K s := by
  obtain ⟨hd, rfl⟩ := pu_of_putS hs
  refine HG_cons ho hi hd (.inl ⟨k, _, o, mem_find hm, ho, hgd, fun s1 b hs1 hbi hbk => ?_⟩) hk
  refine opG_of_OW hgd (OW_alloc' hE k (o := o) rfl hop (by simp [awant, hgd]) hbk ht hz (s' := pu s1 o.dst (.ptr k 0)) ?_ (OW_end rfl ⟨rfl, rfl⟩))
  have hd : dstOk E.N o.dst = true := hd
  cases hdd : o.dst with
  | none => rfl
  | some d => rw [hdd] at hd; simp only [dstOk] at hd; simp [putS, hd, pu]
end
end Go.AL
