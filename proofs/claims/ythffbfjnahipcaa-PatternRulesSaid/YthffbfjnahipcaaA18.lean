/- AL, part 18: a law's arguments as they come in; the law's row. -/
import Derived.Test.YthffbfjnahipcaaA17
import Derived.ChangeArms
import Derived.SizedLaws
import Derived.DataReads
import Derived.ChangeShapes
import Derived.WideShapes
namespace Go.AL
set_option linter.unusedVariables false
set_option linter.unusedSimpArgs false

/-- Data laid out by a type, through n floors. -/
def partsT (R : TypeId → List D → Prop) : List TypeId → List D → Prop
  | [], ds => ds = []
  | t :: ts, ds => ∃ p q, ds = p ++ q ∧ R t p ∧ partsT R ts q
def DTc (T : Nat → Option TI) : Nat → TypeId → List D → Prop
  | 0, _, _ => False
  | n + 1, t, ds => match T t with
    | some ⟨.bool, _, _, _⟩ => ∃ b, ds = [.lit (.bool b)]
    | some ⟨.int k, _, _, _⟩ => ∃ m, ds = [.lit (.int k m)] ∧ k.min ≤ m ∧ m ≤ k.max
    | some ⟨.str, _, _, _⟩ => ∃ s, ds = [.lit (.string s)] ∧ s.size ≤ 140737488351232
    | some ⟨.slice e, _, _, _⟩ => match T e with
      | some te => ∃ xs : List (List D), ds = [.sl te.size te.bytes xs] ∧ (∀ x ∈ xs, DTc T n e x) ∧ xs.length * te.bytes ≤ 140737488351232
      | none => False
    | some ⟨.struct fs, _, _, _⟩ => partsT (DTc T n) (fs.map (·.1)) ds
    | _ => False

/-- Each field stands where the one ahead of it ends. -/
def tiles (T : Nat → Option TI) : List (TypeId × Nat) → Nat → Nat → Bool
  | [], off, size => Nat.beq off size
  | (t, o) :: fs, off, size => match T t with
    | some ti => Nat.beq o off && tiles T fs (off + ti.size) size
    | none => false
def closedT (T : Nat → Option TI) (S : List TypeId) : Bool := S.all fun t => match T t with
  | some ⟨.bool, s, _, _⟩ => Nat.beq s 1
  | some ⟨.int _, s, _, _⟩ => Nat.beq s 1
  | some ⟨.str, s, _, _⟩ => Nat.beq s 1
  | some ⟨.slice e, s, _, _⟩ => Nat.beq s 1 && S.contains e && (match T e with | some te => Nat.ble 1 te.size && Nat.ble 1 te.bytes | none => false)
  | some ⟨.struct fs, s, _, _⟩ => tiles T fs 0 s && fs.all (fun f => S.contains f.1)
  | _ => false

def noM : Nat → Prop := fun _ => False

theorem list_of_each {α : Type} {p : Nat → α → Prop} : ∀ (n : Nat), (∀ i, i < n → ∃ x, p i x) → ∃ xs : List α, xs.length = n ∧ ∀ i x, xs[i]? = some x → p i x
  | 0, _ => ⟨[], rfl, by simp⟩
  | n + 1, h => by
    obtain ⟨xs, h1, h2⟩ := list_of_each n fun i hi => h i (by omega)
    obtain ⟨x, hx⟩ := h n (by omega)
    refine ⟨xs ++ [x], by simp [h1], fun i y hy => ?_⟩
    rw [List.getElem?_append] at hy
    split at hy
    · exact h2 i y hy
    · rename_i hge
      have : i = n := by
        have := (List.getElem?_eq_some_iff.1 hy).1
        simp at this
        omega
      subst this
      simp [h1] at hy
      subst hy
      exact hx

theorem RCs_of_get {w : World} {M : Nat → Prop} {b sz : Nat} : ∀ (xs : List (List D)) (off : Nat), (∀ (i : Nat) (x : List D), xs[i]? = some x → x.length = sz ∧ RC w M b x (off + i * sz)) → RCs w M b sz xs off
  | [], off, _ => by simp only [RCs]
  | x :: xs, off, h => by
    simp only [RCs]
    have h0 := h 0 x rfl
    refine ⟨h0.1, by simpa using h0.2, RCs_of_get xs (off + sz) fun i y hy => ?_⟩
    have := h (i + 1) y (by simpa using hy)
    rwa [show off + (i + 1) * sz = off + sz + i * sz by rw [Nat.add_mul]; omega] at this

theorem weightsAll_mem {H : Type} {P : Program} {e : TypeId} : ∀ {l : List (DataW H)} {d : DataW H}, d ∈ l → ∀ n ∈ d.weights P e, n ∈ DataW.weightsAll P e l
  | x :: l, d, hd, n, hn => by
    simp only [DataW.weightsAll, List.mem_append]
    rcases List.mem_cons.1 hd with rfl | hd
    · exact .inl hn
    · exact .inr (weightsAll_mem hd n hn)
  | [], d, hd, _, _ => by simp at hd

section
variable {P : Program} {T : Nat → Option TI} (hT : TOk P T) {S : List TypeId} (hS : closedT T S = true)
include hT
theorem cellsOf_of {t : TypeId} {ti : TI} (h : T t = some ti) : P.cellsOf t = ti.size ∧ P.bytesOf t = ti.bytes := by
  obtain ⟨⟨i, hi, hs, hb, _⟩, _⟩ := hT t ti h
  simp [Program.cellsOf, Program.bytesOf, hi, hs, hb]

omit hT in
theorem parts_of {R : TypeId → List D → Prop} {w : World} {cs : List Value} : ∀ (fs : List (TypeId × Nat)) (off : Nat), tiles T fs off cs.length = true →
    (∀ f ∈ fs, ∀ ti, T f.1 = some ti → ∃ ds, RDs w noM ds ((cs.drop f.2).take ti.size) ∧ R f.1 ds ∧ ds.length = ti.size) → ∃ ds, RDs w noM ds (cs.drop off) ∧ partsT R (fs.map (·.1)) ds ∧ ds.length = cs.length - off
  | [], off, h, _ => by
    have : off = cs.length := Nat.eq_of_beq_eq_true h
    exact ⟨[], by simp [this, RDs], by simp [partsT], by simp [this]⟩
  | (t, o) :: fs, off, h, hf => by
    simp only [tiles] at h
    cases ht : T t with
    | none => rw [ht] at h; cases h
    | some ti =>
      rw [ht] at h
      simp only [Bool.and_eq_true] at h
      have ho : o = off := Nat.eq_of_beq_eq_true h.1
      subst ho
      obtain ⟨d1, a1, a2, a3⟩ := hf (t, o) (by simp) ti ht
      obtain ⟨d2, b1, b2, b3⟩ := parts_of fs (o + ti.size) h.2 fun f hm => hf f (by simp [hm])
      have hl1 := RDs_length a1
      refine ⟨d1 ++ d2, ?_, by simp only [List.map_cons, partsT]; exact ⟨d1, d2, rfl, a2, b2⟩, ?_⟩
      · have := RDs_append a1 b1
        rwa [← List.drop_drop, List.take_append_drop] at this
      · simp at hl1
        simp [a3, b3]
        omega
include hS
theorem trod_RD {H : Type} {enc : TypeId × Value → H} {w : World} {base : Nat} {spare : Nat → Bool} {held : Bool} : ∀ (n : Nat) (t : TypeId) (cs : List Value) (x : DataW H × List MemPlace), DataW.trod enc P w base spare held n t cs = some x → S.contains t = true →
    (∀ m ∈ x.1.weights P t, m ≤ reachBytes) → ∃ ds, RDs w noM ds cs ∧ DTc T n t ds ∧ ∀ ti, T t = some ti → ds.length = ti.size
  | 0, t, cs, x, h, _, _ => by simp [DataW.trod] at h
  | n + 1, t, cs, x, h, ht, hw => by
    have hc := List.all_eq_true.1 hS t (by simpa using ht)
    cases hti : T t with
    | none => rw [hti] at hc; cases hc
    | some ti =>
      rw [hti] at hc
      obtain ⟨k, s, b, z⟩ := ti
      have hfit := (hT t _ hti).2
      cases k with
      | bool =>
        simp only [TK.fits] at hfit
        obtain ⟨c, rfl, rfl⟩ := DataW.trod_bool hfit h
        have hs1 : s = 1 := Nat.eq_of_beq_eq_true hc
        exact ⟨[.lit (.bool c)], by simp [RDs, RD, okLit], by simp only [DTc, hti]; exact ⟨c, rfl⟩, fun ti hh => by cases hh; simp [hs1]⟩
      | int k =>
        simp only [TK.fits] at hfit
        obtain ⟨m, rfl, rfl, hwf⟩ := DataW.trod_int hfit h
        have hs1 : s = 1 := Nat.eq_of_beq_eq_true hc
        simp only [Lit.wf, Bool.and_eq_true, decide_eq_true_eq] at hwf
        exact ⟨[.lit (.int k m)], by simp [RDs, RD, okLit, hwf.1, hwf.2], by simp only [DTc, hti]; exact ⟨m, rfl, hwf⟩, fun ti hh => by cases hh; simp [hs1]⟩
      | str =>
        simp only [TK.fits] at hfit
        obtain ⟨u, rfl, rfl, hwf⟩ := DataW.trod_string hfit h
        have hs1 : s = 1 := Nat.eq_of_beq_eq_true hc
        have hle : u.size ≤ 140737488351232 := by
          have := hw u.data.toList.length (by simp [DataW.weights])
          have h1 : u.data.toList.length = u.size := Array.length_toList
          have h2 : reachBytes = 140737488351232 := rfl
          omega
        exact ⟨[.lit (.string u)], by simp only [RDs, RD]; exact ⟨_, [], rfl, ⟨rfl, show u.size ≤ 140737488355328 by omega⟩, rfl⟩, by simp only [DTc, hti]; exact ⟨u, rfl, hle⟩, fun ti hh => by cases hh; simp [hs1]⟩
      | slice e =>
        simp only [TK.fits] at hfit
        simp only [Bool.and_eq_true] at hc
        obtain ⟨⟨hs1, hSe⟩, hte⟩ := hc
        have hs1 : s = 1 := Nat.eq_of_beq_eq_true hs1
        cases htE : T e with
        | none => rw [htE] at hte; cases hte
        | some te =>
          rw [htE] at hte
          simp only [Bool.and_eq_true] at hte
          have hsz : 1 ≤ te.size := Nat.le_of_ble_eq_true hte.1
          have hbt : 1 ≤ te.bytes := Nat.le_of_ble_eq_true hte.2
          obtain ⟨hce, hbe⟩ := cellsOf_of hT htE
          rcases DataW.trod_slice hfit h with ⟨rfl, rfl⟩ | ⟨a, len, cap, elems, rest, m, hm, rfl, rfl, hb, hl, hcm, hel, hat, _, _⟩
          · refine ⟨[.sl te.size te.bytes []], ?_, ?_, fun ti hh => by cases hh; simp [hs1]⟩
            · simp only [RDs, RD]
              exact ⟨_, [], rfl, ⟨none, 0, rfl, by simp, by simp, by simp, by simp⟩, rfl⟩
            · simp only [DTc, hti, htE]
              exact ⟨[], rfl, by simp, by simp⟩
          · cases hm
            have hwt : (elems.length + rest.length) * te.bytes ≤ 140737488351232 := by
              have := hw ((elems.length + rest.length) * P.bytesOf e) (by simp [DataW.weights, hfit])
              rw [hbe] at this
              exact this
            have hlen : len * te.bytes ≤ 140737488351232 := Nat.le_trans (Nat.mul_le_mul_right _ (by omega)) hwt
            have each : ∀ i, i < len → ∃ ds : List D, (∃ cs', w.cells? base (a.add (i * te.size)) te.size = some cs' ∧ RDs w noM ds cs') ∧ DTc T n e ds ∧ ds.length = te.size := by
              intro i hi
              have hi' := hat i hi
              rw [hce] at hi'
              rw [List.getElem?_eq_getElem (by omega : i < elems.length)] at hi'
              simp only [Option.bind_eq_some_iff] at hi'
              obtain ⟨cs', hcs, htr⟩ := hi'
              obtain ⟨ds, g1, g2, g3⟩ := trod_RD n e cs' _ htr hSe fun q hq => hw q (by
                simp only [DataW.weights, hfit, List.mem_cons, List.mem_append]
                exact .inr (.inl (weightsAll_mem (List.mem_map.2 ⟨_, List.getElem_mem _, rfl⟩) q hq)))
              exact ⟨ds, ⟨cs', hcs, g1⟩, g2, g3 te htE⟩
            obtain ⟨xs, hxl, hx⟩ := list_of_each len each
            have hxlen : xs.length ≤ 140737488355328 := by
              have : xs.length * 1 ≤ xs.length * te.bytes := Nat.mul_le_mul_left _ hbt
              rw [hxl] at this ⊢
              omega
            refine ⟨[.sl te.size te.bytes xs], ?_, ?_, fun ti hh => by cases hh; simp [hs1]⟩
            · simp only [RDs, RD]
              refine ⟨_, [], rfl, ⟨some a, cap, by rw [hxl], by omega, by rw [hxl]; omega, hxlen, ?_⟩, rfl⟩
              by_cases h0 : xs = []
              · exact .inl h0
              · right
                have hpos : 0 < xs.length := List.length_pos_iff.2 h0
                obtain ⟨⟨cs0, hc0, _⟩, _, _⟩ := hx 0 xs[0] (List.getElem?_eq_getElem hpos)
                obtain ⟨_, hl0, hat0⟩ := World.cells?_some hc0
                have hcell := hat0 0 (by omega)
                rw [List.getElem?_eq_getElem (by omega : 0 < cs0.length)] at hcell
                have hspot : a.spot = none := by
                  simp [Addr.add, World.cell?] at hcell
                  split at hcell
                  · split at hcell
                    · cases hcell
                    · rename_i hh; simpa using hh
                  · cases hcell
                obtain ⟨ab, ao, asp⟩ := a
                simp only at hspot
                subst hspot
                have hadd : ∀ o k, (⟨ab, o, none⟩ : Addr).add k = ⟨ab, o + k, none⟩ := by
                  intro o k
                  unfold Addr.add
                  split
                  · subst_vars; simp
                  · rfl
                refine ⟨ab, ao, rfl, fun h => h, ?_, RCs_of_get _ _ fun i x hi => ?_⟩
                · rw [hadd, hadd] at hcell
                  exact isCells.of_cell hcell
                · obtain ⟨⟨cs', hc', hr⟩, _, hxl'⟩ := hx i x hi
                  obtain ⟨_, hl', hat'⟩ := World.cells?_some hc'
                  refine ⟨hxl', RC_of_list hr fun j v hj => ?_⟩
                  have hj' : j < te.size := by
                    have := (List.getElem?_eq_some_iff.1 hj).1
                    omega
                  have := hat' j hj'
                  rw [hadd, hadd] at this
                  rw [this, hj]
            · simp only [DTc, hti, htE]
              refine ⟨xs, rfl, fun x hm => ?_, by rw [hxl]; exact hlen⟩
              obtain ⟨i, hi⟩ := List.getElem?_of_mem hm
              exact (hx i x hi).2.1
      | struct fs =>
        simp only [TK.fits] at hfit
        obtain ⟨fields, hu, hfs⟩ := hfit
        simp only [Bool.and_eq_true] at hc
        obtain ⟨htile, hSf⟩ := hc
        obtain ⟨xs, m, hm, rfl, hcl, hxl, hf⟩ := DataW.trod_struct hu h
        cases hm
        obtain ⟨hct, _⟩ := cellsOf_of hT hti
        have hcl' : cs.length = s := hcl.trans hct
        obtain ⟨ds, g1, g2, g3⟩ := parts_of (T := T) (R := DTc T n) (w := w) (cs := cs) fs 0 (by rw [hcl']; exact htile) fun f hm ti hft => by
          have hm' : f ∈ fields.toList.map (fun f => (f.type, f.offset)) := by rw [hfs]; exact hm
          obtain ⟨fd, hfd, rfl⟩ := List.mem_map.1 hm'
          obtain ⟨i, hi⟩ := List.getElem?_of_mem hfd
          have hi' : fields[i]? = some fd := by simpa using hi
          have hil : i < xs.length := by rw [hxl]; exact (Array.getElem?_eq_some_iff.1 hi').1
          have htr := hf i fd hi'
          rw [List.getElem?_eq_getElem hil] at htr
          obtain ⟨hcf, _⟩ := cellsOf_of hT hft
          rw [hcf] at htr
          have hSt : S.contains fd.type = true := List.all_eq_true.1 hSf _ hm
          obtain ⟨ds, e1, e2, e3⟩ := trod_RD n fd.type _ _ htr hSt fun q hq => hw q (by
            simp only [DataW.weights, hu]
            exact DataW.weights_mem_each (j := i) (by simp [hi']) (by simp [List.getElem?_eq_getElem hil]) q hq)
          exact ⟨ds, e1, e2, e3 ti hft⟩
        exact ⟨ds, by simpa using g1, by simp only [DTc, hti]; exact g2, fun ti hh => by cases hh; simp [g3, hcl']⟩
      | _ => cases hc
end

/-- The argument as it stands in a frame. -/
def argOf (T : Nat → Option TI) (t : TypeId) (ds : List D) : AV := match T t with
  | some ⟨.struct _, _, _, _⟩ => .agg (ds.map .d)
  | _ => packR (ds.map .d)

theorem arg_ok {P : Program} {T : Nat → Option TI} (hT : TOk P T) {S : List TypeId} (hS : closedT T S = true) {H : Type} {enc : TypeId × Value → H} {w : World} {base b0 : Nat} {spare : Nat → Bool} {held : Bool} {r : Reach} {t : TypeId} {v : Value} {d : DataW H} {ps : List MemPlace} (hval : Value.okWide P w r b0 t v)
    (h : DataW.Trod enc P w base spare held t v d ps) (ht : S.contains t = true) (hw : ∀ m ∈ d.weights P t, m ≤ reachBytes) : ∃ n ds, DTc T n t ds ∧ RA (cx noM noHeap noι w) (argOf T t ds) v := by
  obtain ⟨n, hn⟩ := h
  obtain ⟨ds, h1, h2, h3⟩ := trod_RD hT hS n t _ _ hn ht hw
  refine ⟨n, ds, h2, ?_⟩
  have hM : (cx noM noHeap noι w).M = noM := by
    funext b
    refine propext ⟨fun hb => ?_, fun hb => .inl hb⟩
    rcases hb with hb | ⟨k, hk, _⟩
    · exact hb
    · simp [dom, noHeap] at hk
  have h1' : RAs (cx noM noHeap noι w) (ds.map .d) v.cells.toList := RAs_map_d.2 (by rw [hM]; exact h1)
  have hc := List.all_eq_true.1 hS t (by simpa using ht)
  unfold argOf
  cases hti : T t with
  | none => rw [hti] at hc; cases hc
  | some ti =>
    rw [hti] at hc
    obtain ⟨k, s, b, z⟩ := ti
    have hfit := (hT t _ hti).2
    have one : v.cells = #[v] → RA (cx noM noHeap noι w) (packR (ds.map .d)) v := fun e => by
      rw [e] at h1'
      cases ds with
      | nil => simp [RAs] at h1'
      | cons x xs =>
        cases xs with
        | nil =>
          simp only [List.map_cons, List.map_nil, RAs] at h1'
          obtain ⟨v', t, e, h2, _⟩ := h1'
          cases e
          exact h2
        | cons y ys =>
          simp only [List.map_cons, RAs] at h1'
          obtain ⟨_, t1, e, _, _, t2, e2, _⟩ := h1'
          cases e
          cases e2
    cases k with
    | bool => simp only [TK.fits] at hfit; obtain ⟨c, rfl⟩ := Go.WideShapes.okWide_bool hfit hval; exact one rfl
    | int k => simp only [TK.fits] at hfit; obtain ⟨c, rfl⟩ := Go.WideShapes.okWide_int hfit hval; exact one rfl
    | str => simp only [TK.fits] at hfit; obtain ⟨c, rfl⟩ := Go.WideShapes.okWide_string hfit hval; exact one rfl
    | slice e => simp only [TK.fits] at hfit; obtain ⟨a, l, c, rfl⟩ := Go.WideShapes.okWide_slice hfit hval; exact one rfl
    | struct fs =>
      simp only [TK.fits] at hfit
      obtain ⟨fields, hu, _⟩ := hfit
      obtain ⟨cs, rfl, _⟩ := Go.WideShapes.okWide_struct hu hval
      simp only [RA]
      exact ⟨cs, rfl, h1'⟩
    | _ => cases hc

/-- A law's contract at its end. -/
theorem law_ends {P : Program} {f : Nat} {args : List AV} (hD : Does P f args noHeap (.d (.lit (.bool true)))) {w : World} {vs : List Value} (hv : RAs (cx noM noHeap noι w) args vs) :
    Calls P f vs.toArray w fun e w' => e = .returned (.bool true) ∧ RowKit.Below w.heap.size w w' := by
  refine (callsIn_wide (n := 0)).1 ((hD.2 0 noM w vs (fun _ h => h.elim) hv).mono fun e w' ⟨v, ι, he, hg, hr, _⟩ => ?_)
  obtain ⟨rfl, _⟩ := RA_lit.1 hr
  exact ⟨he, hg.below⟩
end Go.AL
