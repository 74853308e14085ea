/- Parts of an abstract logic over the kit's walks, and walks in it: A70, A60, A69, A74, A71, A61, A62, A63, A72. -/
import Derived.Test.YtaghhofbaoaajaaAe
import Derived.Test.YtaghhofbaoaajaaAd
import Derived.Shelf.SlSortCmp.NoneTotal
import Derived.Test.YtaghhofbaoaajaaAf
/- AL, part 70: functions that turn the own row that they are handed; slices.SortFunc at elements of one cell, out of the shelf's contract. -/
namespace Go.AL
open Go.Proofs Go.Shelf Go.RowKit Go.Lib Go.Sort
set_option linter.unusedVariables false
set_option linter.unusedSimpArgs false
/-- A function that turns the own row that it is handed first, and gives nothing back. -/
def Turns (P : Program) (f : Nat) (e : TypeId) (sz : Nat) (xs : List (List D)) (A : D) (xs' : List (List D)) : Prop :=
  Callable P f ∧ ∀ n w (M : Nat → Prop) v a vs, (∀ b, M b → b < w.heap.size) → (∀ b, blk v = some b → M b) → RowOk w v e sz xs.length vs → RDs w M xs.flatten vs → (∀ x ∈ xs, x.length = sz) → xs.length ≤ 140737488355328 → RD w M A a →
    CallsIn Fence.wide n P f #[v, a] w fun x w' => x = .returned (.tuple #[]) ∧ ∃ vs', RowOk w' v e sz xs'.length vs' ∧ RDs w' M xs'.flatten vs' ∧ (∀ x ∈ xs', x.length = sz) ∧ xs'.length = xs.length ∧ Step (fun b => b < w.heap.size ∧ some b ≠ blk v) w w'
theorem grew_eq {W w : World} (h : Grew W w) : ∃ q os, w = grow (W.drewN q) os := by
  refine ⟨w.drawn - W.drawn, w.heap.extract W.heap.size w.heap.size, ?_⟩
  obtain ⟨heap', tape', drawn', os', output'⟩ := w
  have e1 : os' = W.os := h.os
  have e2 : tape' = W.tape := h.tape
  have e3 : output' = W.output := h.output
  have e4 : W.drawn ≤ drawn' := h.drawn
  have hs : W.heap.size ≤ heap'.size := h.size
  have hb : ∀ k, k < W.heap.size → heap'[k]? = W.heap[k]? := h.block
  subst e1 e2 e3
  have eh : heap' = W.heap ++ heap'.extract W.heap.size heap'.size := by
    apply Array.ext_getElem?
    intro k
    by_cases hk : k < W.heap.size
    · rw [Array.getElem?_append_left hk]; exact hb k hk
    · rw [Array.getElem?_append_right (by omega), Array.getElem?_extract]
      by_cases hk2 : k < heap'.size
      · rw [if_pos (by omega)]; congr 1; omega
      · rw [if_neg (by omega), Array.getElem?_eq_none (by omega)]
  simp only [grow, World.drewN]
  congr 1
  show drawn' = W.drawn + (drawn' - W.drawn)
  omega
section
variable {β : Type} [Inhabited β] {enc : β → Value} {w : World} {b m : Nat} {d : Array β} {os : Array Obj}
theorem sw_size : w.heap.size ≤ (sortWorld enc w b 0 m d os).heap.size := by
  show _ ≤ ((w.heap.modify b _) ++ os).size
  simp
theorem sw_block {c : Nat} (hc : c < w.heap.size) (hne : c ≠ b) : (sortWorld enc w b 0 m d os).heap[c]? = w.heap[c]? := by
  show ((w.heap.modify b _) ++ os)[c]? = _
  rw [Array.getElem?_append_left (by simpa using hc), Array.getElem?_modify, if_neg (fun e => hne e.symm)]
theorem sw_row {cur : Array Value} {e : TypeId} {fr : Nat × Nat} (hg : w.heap[b]? = some (.cells cur e fr)) : (sortWorld enc w b 0 m d os).heap[b]? = some (.cells (putCells enc 0 d cur) e fr) := by
  have hb := (Array.getElem?_eq_some_iff.1 hg).1
  show ((w.heap.modify b _) ++ os)[b]? = _
  rw [Array.getElem?_append_left (by simpa using hb), Array.getElem?_modify, if_pos rfl]
  rw [hg]; rfl
theorem sw_step : Step (fun c => c < w.heap.size ∧ c ≠ b) w (sortWorld enc w b 0 m d os) :=
  ⟨rfl, rfl, rfl, sw_size, Nat.le_add_right _ _, fun c hc => sw_block hc.1 hc.2⟩
theorem sw_keeps {M M' : Nat → Prop} (hb : M b) (h : ∀ c, isCells w c → ¬ M c → ¬ M' c) : Keeps w (sortWorld enc w b 0 m d os) M M' := by
  refine ⟨fun c o v hm hc => ?_, fun c hm hi => ?_, h⟩
  · have hlt := World.block_lt_of_cell? w ⟨c, o, none⟩ hc
    have hne : c ≠ b := fun e => hm (e ▸ hb)
    rw [World.cell?_of_block (w := w) (a := ⟨c, o, none⟩) (sw_block hlt hne)]; exact hc
  · exact hi.at (sw_block hi.lt fun e => hm (e ▸ hb))
end
/-- Sorted, where whatever two that are not one are told apart. -/
def sortX {α : Type} (cf : α → α → Int) (xs : List α) : List α := xs.mergeSort fun x y => !(ltOf cf) y x
theorem sortX_len {α : Type} (cf : α → α → Int) (xs : List α) : (sortX cf xs).length = xs.length := List.length_mergeSort _
theorem sortX_nil {α : Type} (cf : α → α → Int) : sortX cf [] = [] := by simp [sortX]
theorem RD_fn0 {w : World} {M : Nat → Prop} {g : Nat} {a : Value} (h : RD w M (.fn (.func g) [] []) a) : a = .func (.func g) #[] #[] := by
  simp only [RD] at h
  obtain ⟨vf, vc, e, h1, h2⟩ := h
  have h1' : vf = #[] := by have := h1; simp only [RDs] at this; simpa using this
  have h2' : vc = #[] := by have := h2; simp only [RDs] at this; simpa using this
  rw [e, h1', h2']
theorem callable_enters {P : Program} {g : Nat} (h : Callable P g) (args : Array Value) (w : World) : (callFunc g args).run P w = .ok (.enter g args) w := by
  obtain ⟨fn, h1, h2, h3⟩ := h
  unfold callFunc
  rw [Sem.run_bind]
  simp only [program, Sem.run, Result.andThen_ok, h1, h2, h3, Bool.false_eq_true, if_false]
  rfl
theorem turns_none {P : Program} {ρ : Ren} (L : SlLaysF0.n6 P ρ) {e : TypeId} {sz : Nat} {p : Option Addr} {cap n : Nat} {w : World} {M : Nat → Prop} {a : Value} {vs : List Value} (hr : RowOk w (.slice p 0 cap) e sz 0 vs) (hd : RDs w M [] vs) :
    CallsIn Fence.wide n P (ρ.f 6) #[.slice p 0 cap, a] w fun x w' => x = .returned (.tuple #[]) ∧ ∃ vs', RowOk w' (.slice p 0 cap) e sz ([] : List (List D)).length vs' ∧ RDs w' M ([] : List (List D)).flatten vs' ∧ (∀ x ∈ ([] : List (List D)), x.length = sz) ∧ ([] : List (List D)).length = 0 ∧ Step (fun b => b < w.heap.size ∧ some b ≠ blk (.slice p 0 cap)) w w' :=
  callsIn_wide.2 ((AnyF.slices_SortFunc_none L p cap a w).mono fun x w' ⟨h1, h2⟩ => ⟨h1, vs, by rw [h2]; exact hr, by rw [h2]; exact hd, by simp, rfl, by rw [h2]; exact Step.refl _ _⟩)
end Go.AL
/- AL, part 60: calls that look at a table, calls that give an own row, in drawn heads with whatever effects. -/
namespace Go.AL
set_option linter.unusedVariables false
set_option linter.unusedSimpArgs false
section
variable {h : Heap} {q k : Nat} {e : Ent}
end
section
variable {E : Env} {ops : List Oper} {J : Jt} {s : Slots} {h : Heap} {n i : Nat} {t : Eff} {K : Slots → Prop}
end
end Go.AL
/- AL, part 69: how long an own row is, where it isn't plain that the row is there. -/
namespace Go.AL
set_option linter.unusedVariables false
set_option linter.unusedSimpArgs false
section
variable {E : Env} {ops : List Oper} {J : Jt} {s : Slots} {h : Heap} {o : Oper}
theorem loc_lenRow (hE : E.Good) {key : Nat} {xo : Operand} {t : TypeId} (hop : o.op = .call ⟨.builtin .len, #[xo], #[t]⟩) {e : TypeId} {z1 z2 : Nat} {z3 : List Value} (ht : E.T t = some ⟨.slice e, z1, z2, z3⟩) {e' : TypeId} {sz : Nat} {xs : List (List D)} (hx : ev s xo = .row key) (hkey : h key = some (.row e' sz xs)) : Loc E ops J h o s (.d (.lit (.int .i64 (xs.length : Int)))) := by
  refine ⟨(by rw [hop]; intro c hc; cases hc), fun Z K Y ι a w m hl => ?_⟩
  obtain ⟨dst, op, ty, pos, af, gd⟩ := o
  simp only at hop
  subst hop
  have h1 := hl xo (by simp [Op.operands, Call.operands])
  rw [hx] at h1
  simp only [RA] at h1
  obtain ⟨hkd, e1⟩ := h1
  obtain ⟨vs, f1, f2, f3, f4⟩ := m.ent key _ hkey
  have hu := (hE.ok.T t _ ht).2
  simp only [TK.fits] at hu
  have e2 : ∃ ad cap, a.eval xo = .slice ad xs.length cap := by
    rcases f1 with ⟨ad, e0, h0, _⟩ | ⟨g, cap, cur, e0, _⟩
    · exact ⟨_, _, by rw [e1, e0, h0]⟩
    · exact ⟨_, _, e1.trans e0⟩
  obtain ⟨ad, cap, e2⟩ := e2
  refine ⟨.int .i64 xs.length, w, ?_, Grew.refl w, RA_lit_mk ?_⟩
  · simp [execOp, resolve, invoke, builtin, Builtin.len_, e2, run_underlying hu, goInt]
  · simp only [okLit]
    have : IntKind.i64.min = -9223372036854775808 := rfl
    have : IntKind.i64.max = 9223372036854775807 := rfl
    omega
end
end Go.AL
/- AL, part 74: slices.SortFunc at elements of k cells, out of the shelf's contract. -/
namespace Go.AL
open Go.Proofs Go.Shelf Go.RowKit Go.Lib Go.Sort
set_option linter.unusedVariables false
set_option linter.unusedSimpArgs false
theorem flat_seg {α : Type} {k : Nat} (hk : 0 < k) : ∀ {L : List (List α)}, (∀ x ∈ L, x.length = k) → ∀ t : Nat, L.flatten[t]? = (L[t / k]?).bind fun x => x[t % k]?
  | [], _, t => by simp
  | x :: L, h, t => by
    have hx := h x (by simp)
    rw [List.flatten_cons]
    by_cases ht : t < k
    · rw [List.getElem?_append_left (by omega), Nat.div_eq_of_lt ht, Nat.mod_eq_of_lt ht]; rfl
    · rw [List.getElem?_append_right (by omega), hx, flat_seg hk (fun y hy => h y (by simp [hy])), show t / k = (t - k) / k + 1 from Nat.div_eq_sub_div hk (by omega), Nat.mod_eq_sub_mod (show k ≤ t by omega)]
      rw [List.getElem?_cons_succ]
theorem flatK_rows {α : Type} [Inhabited α] {k : Nat} (hk : 0 < k) {ev : α → List Value} (he : ∀ x, (ev x).length = k) (d : Array α) : (Go.Sort.flatK ev k d).toList = (d.toList.map ev).flatten := by
  refine List.ext_getElem? fun t => ?_
  rw [flat_seg hk (fun x hx => by obtain ⟨y, _, rfl⟩ := List.mem_map.1 hx; exact he y), Array.getElem?_toList, List.getElem?_map, Array.getElem?_toList]
  by_cases ht : t < d.size * k
  · have h1 : t / k < d.size := (Nat.div_lt_iff_lt_mul hk).2 ht
    have h2 : t % k < k := Nat.mod_lt _ hk
    have g := Go.Sort.get_flatK ev k d t ht
    rw [Array.getElem?_eq_getElem (by rw [Go.Sort.size_flatK]; exact ht), Array.getElem?_eq_getElem h1]
    rw [getElem!_pos _ t (by rw [Go.Sort.size_flatK]; exact ht)] at g
    rw [g, getElem!_pos d _ h1]
    show _ = (ev d[t / k])[t % k]?
    rw [List.getElem?_eq_getElem (by rw [he]; exact h2), getElem!_pos _ _ (by rw [he]; exact h2)]
  · have h1 : ¬ t / k < d.size := fun h => ht ((Nat.div_lt_iff_lt_mul hk).1 h)
    rw [Array.getElem?_eq_none (by rw [Go.Sort.size_flatK]; omega), Array.getElem?_eq_none (by omega)]; rfl
theorem RDs_flats {w : World} {M : Nat → Prop} {ι : Type} {f : ι → List D} {g : ι → List Value} : ∀ {l : List ι}, (∀ i ∈ l, RDs w M (f i) (g i)) → RDs w M (l.map f).flatten (l.map g).flatten
  | [], _ => by simp [RDs]
  | i :: l, h => by
    simp only [List.map_cons, List.flatten_cons]
    exact RDs_append (h i (by simp)) (RDs_flats fun j hj => h j (by simp [hj]))
theorem seg_at {sz : Nat} {xs : List (List D)} {j : Nat} {x : List D} (h : xs[j]? = some x) (hl : ∀ y ∈ xs, y.length = sz) : (xs.flatten.drop (j * sz)).take sz = x := by
  have hx := hl x (List.mem_of_getElem? h)
  have hj := (List.getElem?_eq_some_iff.1 h).1
  have e : j * sz + sz = (j + 1) * sz := by rw [Nat.add_mul, Nat.one_mul]
  rw [← flat_drop xs j hl, List.drop_eq_getElem_cons hj, List.flatten_cons]
  have : xs[j] = x := (List.getElem?_eq_some_iff.1 h).2
  rw [this, List.take_left' hx]
set_option maxHeartbeats 1000000 in
/-- slices.SortFunc at elements of k cells. -/
theorem sortK_turns {P : Program} {ρ : Ren} (L : SlLaysF0.n6 P ρ) (hcl : Callable P (ρ.f 6)) {k : Nat} (hk0 : 0 < k) (aE : ∀ w, (isAgg (ρ.t 24)).run P w = .ok true w) (zE : ∀ w, (Go.sizeOf (ρ.t 24)).run P w = .ok k w) {α : Type} (enc : α → List D) (hen : ∀ x, (enc x).length = k) (cf : α → α → Int) (hO : SWO (ltOf cf)) (hT : ∀ x y, ltOf cf x y = false → ltOf cf y x = false → x = y) {g : Nat} {e : TypeId} (ok : α → Prop) (hg : Callable P g)
    (hcmp : ∀ x y, ok x → ok y → Does P g [.agg ((enc x).map .d), .agg ((enc y).map .d)] noHeap (.d (.lit (.int .i64 (cf x y))))) (xs : List α) (hok : ∀ x ∈ xs, ok x) :
    Turns P (ρ.f 6) e k (xs.map enc) (.fn (.func g) [] []) ((sortX cf xs).map enc) := by
  refine ⟨hcl, fun n w M v a vs hM hvM hrow hds hone hlen ha => ?_⟩
  obtain rfl := RD_fn0 ha
  rw [List.length_map] at hrow hlen
  have hls : ∀ y ∈ xs.map enc, y.length = k := fun y hy => by obtain ⟨x, _, rfl⟩ := List.mem_map.1 hy; exact hen x
  cases hxs : xs with
  | nil =>
    subst hxs
    rw [sortX_nil]
    rcases hrow with ⟨p, rfl, _, _⟩ | ⟨b, cap, cur, rfl, h⟩
    · exact turns_none L (.inl ⟨p, rfl, rfl, by simpa [RDs] using hds⟩) (by simpa [RDs] using hds)
    · exact turns_none L (.inr ⟨b, cap, cur, rfl, h⟩) (by simpa [RDs] using hds)
  | cons x0 xt =>
    have hn : 0 < xs.length := by rw [hxs]; exact Nat.succ_pos _
    rw [← hxs]
    rcases hrow with ⟨p, _, h0, _⟩ | ⟨b, cap, cur, rfl, hc0, hgb, hnc, hcm, hcs, htk⟩
    · omega
    have hbk : blk (.slice (some ⟨b, 0, none⟩) xs.length cap) = some b := by simp [blk]; omega
    have hMb : M b := hvM b hbk
    have hl : vs.length = xs.length * k := by rw [RDs_length hds, flat_len _ hls, List.length_map]
    have hblt := (Array.getElem?_eq_some_iff.1 hgb).1
    let con : Nat → α := fun i => xs.getD i x0
    let ix : Nat → Nat := fun i => if i < xs.length then i else 0
    let ev' : Nat → List Value := fun i => (vs.drop (ix i * k)).take k
    have hix : ∀ i, ix i < xs.length := fun i => by show (if _ then _ else _) < _; split <;> omega
    have hx0 : xs[0]? = some x0 := by rw [hxs]; rfl
    have cg : ∀ i, i < xs.length → xs[i]? = some (con i) := fun i hi => by
      show _ = some (xs.getD i x0)
      rw [List.getD_eq_getElem?_getD, List.getElem?_eq_getElem hi]; rfl
    have cix : ∀ i, con i = con (ix i) := fun i => by
      by_cases hi : i < xs.length
      · rw [show ix i = i from if_pos hi]
      · rw [show ix i = 0 from if_neg hi]
        show xs.getD i x0 = xs.getD 0 x0
        rw [List.getD_eq_getElem?_getD, List.getD_eq_getElem?_getD, List.getElem?_eq_none (by omega), hx0]; rfl
    have hmul : ∀ i, i < xs.length → i * k + k ≤ xs.length * k := fun i hi => by
      have : (i + 1) * k ≤ xs.length * k := Nat.mul_le_mul_right k hi
      rw [Nat.add_mul, Nat.one_mul] at this; exact this
    have hevl : ∀ i, (ev' i).length = k := fun i => by
      show ((vs.drop (ix i * k)).take k).length = k
      have := hmul _ (hix i)
      rw [List.length_take, List.length_drop]; omega
    have rdw : ∀ i, RDs w M (enc (con i)) (ev' i) ∧ con i ∈ xs := fun i => by
      have hc := cg _ (hix i)
      rw [← cix] at hc
      refine ⟨?_, List.mem_of_getElem? hc⟩
      have := RDs_take k (RDs_drop (ix i * k) hds)
      rwa [seg_at (x := enc (con i)) (by rw [List.getElem?_map, hc]; rfl) hls] at this
    have hone' := RDs_one hds
    have h1 : ∀ x, ∀ v ∈ ev' x, v.oneCell' = true := fun i v hv => hone' v (List.mem_of_mem_drop (List.mem_of_mem_take hv))
    let cf' : Nat → Nat → Int := fun i j => cf (con i) (con j)
    have hO' : SWO (ltOf cf') := ⟨fun i => hO.irrefl _, fun i j k => hO.trans _ _ _, fun i j k => hO.ntrans _ _ _⟩
    have hds1 : (Array.range xs.length).size = xs.length := Array.size_range
    have hsegs : ((List.range xs.length).map ev').flatten = vs := by
      refine List.ext_getElem? fun t => ?_
      rw [flat_seg hk0 (fun x hx => by obtain ⟨y, _, rfl⟩ := List.mem_map.1 hx; exact hevl y), List.getElem?_map]
      by_cases ht : t < xs.length * k
      · have h2 : t / k < xs.length := (Nat.div_lt_iff_lt_mul hk0).2 ht
        have h3 : t % k < k := Nat.mod_lt _ hk0
        rw [List.getElem?_range h2]
        show ((vs.drop (ix (t / k) * k)).take k)[t % k]? = _
        rw [show ix (t / k) = t / k from if_pos h2, List.getElem?_take, if_pos h3, List.getElem?_drop, Nat.mul_comm, Nat.div_add_mod]
      · have h2 : ¬ t / k < xs.length := fun h => ht ((Nat.div_lt_iff_lt_mul hk0).1 h)
        rw [List.getElem?_eq_none (by rw [List.length_range]; omega), List.getElem?_eq_none (by omega)]; rfl
    have hcells : ∀ j, j < xs.length * k → cur[j]? = vs[j]? := fun j hj => by
      rw [← htk, List.getElem?_take, if_pos (by omega), Array.getElem?_toList]
    have hflat : (Go.Sort.flatK ev' k (Array.range xs.length)).toList = vs := by rw [flatK_rows hk0 hevl, Array.toList_range, hsegs]
    have hH : HoldsK ev' k w b 0 (Array.range xs.length) := fun j hj => by
      rw [Go.Sort.size_flatK, hds1] at hj
      refine ⟨?_, frozen_of_row w b _ cur e hgb⟩
      have hjs : j < (Go.Sort.flatK ev' k (Array.range xs.length)).size := by rw [Go.Sort.size_flatK, hds1]; exact hj
      have e1 : (Go.Sort.flatK ev' k (Array.range xs.length))[j]? = vs[j]? := by rw [← Array.getElem?_toList, hflat]
      rw [Array.getElem?_eq_getElem hjs] at e1
      rw [getElem!_pos _ j hjs]
      simp only [World.cell?, hgb, Nat.zero_add]
      have := hcells j hj
      rw [← e1] at this
      simpa using this
    have hC : CmpLays P g #[] ev' k cf' b 0 (Array.range xs.length).size w := fun m os dk hs i j => by
      have hlt : ∀ c, M c → c < (sortWorldK ev' k w b 0 m dk os).heap.size := fun c hc => Nat.lt_of_lt_of_le (hM c hc) (sw_size (enc := (id : Value → Value)) (d := Go.Sort.flatK ev' k dk))
      have hk : Keeps w (sortWorldK ev' k w b 0 m dk os) M (cx M noHeap noι (sortWorldK ev' k w b 0 m dk os)).M := sw_keeps (enc := (id : Value → Value)) (d := Go.Sort.flatK ev' k dk) hMb fun c _ hm hm' => by
        rcases hm' with hm' | ⟨k, hk, _⟩
        · exact hm hm'
        · simp [dom, noHeap] at hk
      have hd := (hcmp (con i) (con j) (hok _ (rdw i).2) (hok _ (rdw j).2)).2 0 M _ [.agg (ev' i).toArray, .agg (ev' j).toArray] hlt (by
        simp only [RAs, RA]
        exact ⟨_, _, rfl, ⟨(ev' i).toArray, rfl, RAs_map_d.2 (RDs_keeps hk _ _ (rdw i).1)⟩, _, _, rfl, ⟨(ev' j).toArray, rfl, RAs_map_d.2 (RDs_keeps hk _ _ (rdw j).1)⟩, rfl⟩)
      refine (callsIn_wide.1 hd).mono fun x w' ⟨u, ι, hx, hgr, hu, _⟩ => ?_
      simp only [RA, RD] at hu
      exact ⟨by rw [hx, hu.1], grew_eq hgr⟩
    have hmain := AnyQ.slices_SortFunc L k aE zE ev' hevl h1 cf' hO' g #[] b 0 cap (Array.range xs.length) w (fun args w => callable_enters hg args w) hC hH hblt (by rw [hds1]; omega)
    rw [hds1] at hmain
    refine callsIn_wide.2 (hmain.mono fun x w' ⟨hx, d', m, os, hp, hs, hw⟩ => ⟨hx, ?_⟩)
    obtain ⟨hsz, _, hperm⟩ := hp
    rw [hds1] at hsz
    have he1 : d'.extract 0 xs.length = d' := by rw [← hsz]; exact Array.extract_size
    have he2 : (Array.range xs.length).extract 0 xs.length = Array.range xs.length := by
      have := Array.extract_size (xs := Array.range xs.length); rwa [hds1] at this
    rw [he1, he2, Array.toList_range] at hperm
    have hrange : (List.range xs.length).map con = xs := by
      refine List.ext_getElem? fun i => ?_
      rw [List.getElem?_map]
      by_cases hi : i < xs.length
      · rw [List.getElem?_range hi, cg i hi]; rfl
      · rw [List.getElem?_eq_none (by rw [List.length_range]; omega), List.getElem?_eq_none (by omega)]; rfl
    have hxperm : (d'.toList.map con).Perm xs := by
      have := hperm.map con; rwa [hrange] at this
    have hsort : sortX cf xs = d'.toList.map con := by
      refine (List.Perm.eq_of_pairwise (le := fun x y => (!ltOf cf y x) = true) ?_ ?_ ?_ (hxperm.trans (List.mergeSort_perm _ _).symm)).symm
      · intro x y _ _ q1 q2
        simp only [Bool.not_eq_true'] at q1 q2
        exact hT x y q2 q1
      · rw [List.pairwise_iff_getElem]
        intro i j hi hj hij
        have hi' : i < d'.size := by simpa using hi
        have hj' : j < d'.size := by simpa using hj
        have := hs i j (Nat.zero_le _) hij (by omega)
        rw [getElem!_pos d' j hj', getElem!_pos d' i hi'] at this
        simpa [cf', ltOf] using this
      · refine List.pairwise_mergeSort ?_ ?_ _
        · intro x y z q1 q2
          simp only [Bool.not_eq_true'] at q1 q2 ⊢
          exact hO.ntrans z y x q2 q1
        · intro x y
          cases h : ltOf cf y x with
          | false => simp
          | true => simp [hO.asymmA h]
    rw [hsort]
    have hw' : w' = sortWorld (id : Value → Value) w b 0 m (Go.Sort.flatK ev' k d') os := hw
    subst hw'
    have hk : Keeps w (sortWorld (id : Value → Value) w b 0 m (Go.Sort.flatK ev' k d') os) M M := sw_keeps hMb fun c _ hm => hm
    have hfs : (Go.Sort.flatK ev' k d').size = xs.length * k := by rw [Go.Sort.size_flatK, hsz]
    refine ⟨(d'.toList.map ev').flatten, .inr ⟨b, cap, putCells id 0 (Go.Sort.flatK ev' k d') cur, by simp [hsz], hc0, sw_row hgb, by simp [hsz]; exact hnc, hcm, by simpa [putCells] using hcs, ?_⟩, ?_, ?_, by simp [hsz], ?_⟩
    · rw [← flatK_rows hk0 hevl, List.length_map, List.length_map, Array.length_toList, hsz]
      refine List.ext_getElem? fun j => ?_
      rw [List.getElem?_take, Array.getElem?_toList, Array.getElem?_toList]
      by_cases hj : j < xs.length * k
      · rw [if_pos hj]
        have hxl : xs.length ≤ cap := hnc
        have hjc : j < cur.size := by rw [hcs]; exact Nat.lt_of_lt_of_le hj (Nat.mul_le_mul_right k hxl)
        have hjd : j < (Go.Sort.flatK ev' k d').size := by omega
        rw [putCells, Array.getElem?_mapIdx, Array.getElem?_eq_getElem hjc, Array.getElem?_eq_getElem hjd]
        simp only [Option.map_some, Nat.zero_le, true_and, Nat.zero_add, hjd, if_true, Nat.sub_zero]
        rw [getElem!_pos _ j hjd]; rfl
      · rw [if_neg hj, Array.getElem?_eq_none (by omega)]
    · rw [List.map_map]
      exact RDs_flats fun i hi => RDs_keeps hk _ _ (rdw i).1
    · intro y hy
      obtain ⟨x, _, rfl⟩ := List.mem_map.1 hy
      exact hen x
    · exact Step.weaken sw_step fun c hc => ⟨hc.1, fun ec => hc.2 (by rw [ec, hbk])⟩
end Go.AL
/- AL, part 71: the call of a function that turns the own row that it is handed. -/
namespace Go.AL
set_option linter.unusedVariables false
set_option linter.unusedSimpArgs false
section
variable {E : Env} {ops : List Oper} {Q : Exit → St → Prop} {i : Nat} {J : Jt} {s : Slots} {h : Heap}
theorem OW_callTurn' (hE : E.Good) {key : Nat} {f : Nat} {e : TypeId} {sz : Nat} {xs xs' : List (List D)} {A : D} (hc : Turns E.P f e sz xs A xs') {o : Oper} {fo so ao : Operand} {ts : Array TypeId} (ho : ops[i]? = some o) (hop : o.op = .call ⟨.value fo, #[so, ao], ts⟩) (hw : awant ops o s = some true)
    (hfo : ev s fo = .d (.fn (.func f) [] [])) (hso : ev s so = .row key) (hao : ev s ao = .d A) (hkey : h key = some (.row e sz xs))
    {s' : Slots} (hs : putS E.N s o.dst (.tup []) = some s') (hk' : OW E ops (i + 1) Q ⟨J, s', hset h key (some (.row e sz xs'))⟩) : OW E ops i Q ⟨J, s, h⟩ := fun ι a w r => by
  have hd : ops.drop i = o :: ops.drop (i + 1) := by
    obtain ⟨hlt, rfl⟩ := List.getElem?_eq_some_iff.1 ho
    exact List.drop_eq_getElem_cons hlt
  rw [hd]
  simp only [wpListIn]
  rw [if_pos (awant_ok r hw)]
  refine ⟨fun f _ => hE.wide.fn f, ?_⟩
  rw [Oper.semAt_plain E.F _ _ (by rw [hop]; intro c hc; cases hc)]
  obtain ⟨dst, op, ty, pos, af, gd⟩ := o
  simp only at hop hs
  subst hop
  obtain ⟨Z, K, Y, hZE, r⟩ := r
  have ef := RD_fn0 (w := w) (M := (cx Z h ι w).M) (by have hf1 := RA_ev (C := cx Z h ι w) (s := s) (a := a) fo fun t _ => r.slot t; rw [hfo] at hf1; simpa only [RA] using hf1)
  have h1 := RA_ev (C := cx Z h ι w) (s := s) (a := a) so fun t _ => r.slot t
  have h2 := RA_ev (C := cx Z h ι w) (s := s) (a := a) ao fun t _ => r.slot t
  rw [hso] at h1
  rw [hao] at h2
  simp only [RA] at h1 h2
  obtain ⟨hkd, e1⟩ := h1
  obtain ⟨vs, f1, f2, f3, f4⟩ := r.mem.ent key _ hkey
  rw [exec_call ef hc.1]
  simp only [Oper.uponIn]
  refine ⟨fun hx => (by rw [hE.wide.depth] at hx; cases hx), ?_⟩
  have hcall := hc.2 (E.n - 1) w (cx Z h ι w).M (ι key) (a.eval ao) vs (fun b hb => r.mem.Mlt hb) (fun b hb => .inr ⟨key, hkd, hb⟩) f1 f2 f3 f4 h2
  have hargs : (#[] ++ Array.map a.eval #[so, ao] ++ #[] : Array Value) = #[ι key, a.eval ao] := by simp [e1]
  rw [hargs]
  refine (hE.wide.calls hcall).mono fun x w' ⟨he', vs', q1, q2, q3, q4, q5⟩ => ?_
  subst he'
  show wpListIn _ _ _ _ _ _ _ _
  have hgd : ∀ b, blk (ι key) = some b → ∃ cur, w.heap[b]? = some (.cells cur e (0, 0)) := by
    intro b hb
    rcases f1 with ⟨p, e0, _⟩ | ⟨g, cap, cur, e0, hc0, hg, _⟩
    · have e0' : ι key = .slice p 0 0 := e0
      rw [e0'] at hb; cases p <;> simp [blk] at hb
    · have e0' : ι key = .slice (some ⟨g, 0, none⟩) xs.length cap := e0
      have hbg : blk (ι key) = some g := by rw [e0']; simp [blk]; omega
      rw [hbg] at hb; cases hb
      exact ⟨cur, hg⟩
  have hdom : ∀ k', dom h k' ↔ dom (hset h key (some (.row e sz xs'))) k' := by
    intro k'
    by_cases hjk : k' = key
    · subst hjk; simp [dom, hset_same]; rw [hkey]; rfl
    · simp only [dom, hset_ne h _ hjk]
  have hstep : Step (fun b => b < w.heap.size ∧ some b ≠ blk (ι key)) w w' := q5
  have kc : KeepsC (cx Z h ι w) (cx Z (hset h key (some (.row e sz xs'))) ι w') := by
    refine ⟨⟨fun b o u hm hcc => ?_, fun b hm hi => ?_, fun b _ hm hm' => ?_⟩, fun k' hk' => ⟨(hdom k').1 hk', rfl⟩⟩
    · have hlt := World.block_lt_of_cell? w ⟨b, o, none⟩ hcc
      have hne : some b ≠ blk (ι key) := fun e => hm (.inr ⟨key, hkd, e.symm⟩)
      show World.cell? _ _ = _
      rw [World.cell?_of_block (w := w) (a := ⟨b, o, none⟩) (hstep.block b ⟨hlt, hne⟩)]; exact hcc
    · exact hi.at (hstep.block b ⟨hi.lt, fun e => hm (.inr ⟨key, hkd, e.symm⟩)⟩)
    · rcases hm' with hz | ⟨k', hk', hkb⟩
      · exact hm (.inl hz)
      · exact hm (.inr ⟨k', (hdom k').2 hk', hkb⟩)
  have hent : EntOk (cx Z (hset h key (some (.row e sz xs'))) ι w') (.row e sz xs') (ι key) := by
    refine ⟨vs', q1, RDs_keeps ⟨fun _ _ _ _ hh => hh, fun _ _ hh => hh, fun b _ hm hm' => ?_⟩ _ _ q2, q3, by rw [q4]; exact f4⟩
    rcases hm' with hz | ⟨k', hk', hkb⟩
    · exact hm (.inl hz)
    · exact hm (.inr ⟨k', (hdom k').2 hk', hkb⟩)
  have m' : Mem Z K (J K Y Z) (hset h key (some (.row e sz xs'))) ι w' := by
    refine ⟨fun k' e' hk' => ?_, fun k' b hk' hb => ?_, fun k1 k2 b hk1 hk2 => r.mem.apart k1 k2 b ((hdom k1).2 hk1) ((hdom k2).2 hk2), fun b hz => Nat.lt_of_lt_of_le (r.mem.Zlt b hz) hstep.size, fun b hz => Nat.lt_of_lt_of_le (r.mem.Klt b hz) hstep.size, ?_, r.mem.Jc⟩
    · by_cases hjk : k' = key
      · subst hjk
        rw [hset_same] at hk'
        cases hk'
        exact hent
      · rw [hset_ne h _ hjk] at hk'
        have he' := r.mem.ent k' e' hk'
        refine EntOk.keeps kc (fun b cs t f hbj hbk => ?_) he'
        have hbk' : w.heap[b]? = some (.cells cs t f) := hbk
        show w'.heap[b]? = _
        rw [hstep.block b ⟨(Array.getElem?_eq_some_iff.1 hbk').1, fun e => hjk (r.mem.apart k' key b (by show (h k').isSome = true; rw [hk']; rfl) hkd hbj e.symm)⟩]; exact hbk'
    · have ho' := r.mem.own k' b ((hdom k').2 hk') hb
      exact ⟨ho'.1, ho'.2.1, Nat.lt_of_lt_of_le ho'.2.2 hstep.size⟩
    · exact r.mem.Jc w w' r.mem.Jw ⟨hstep.os, hstep.tape, hstep.output, hstep.size, hstep.drawn, fun b hz => hstep.block b ⟨r.mem.Klt b hz, fun e => (r.mem.own key b hkd e.symm).2.1 hz⟩⟩
  have hmarks : Marks Z K w' a.defers := by
    obtain ⟨rs, p1, p2, p3⟩ := r.ds
    refine ⟨rs, p1, p2, fun x hx => ?_⟩
    obtain ⟨p4, p5⟩ := p3 x hx
    refine ⟨?_, p5⟩
    rw [hstep.block x ⟨(Array.getElem?_eq_some_iff.1 p4).1, fun e => ?_⟩]
    · exact p4
    · obtain ⟨cur, hg⟩ := hgd x e.symm
      rw [hg] at p4
      cases p4
  have r0 : Rel Z K E.N (J K Y Z) s (hset h key (some (.row e sz xs'))) ι a w' := ⟨m', r.size, fun j => RA_keeps kc _ _ (r.slot j), hmarks⟩
  unfold putS at hs
  cases hdst : dst with
  | none =>
    simp only [hdst] at hs
    cases hs
    exact hk' _ _ w' ⟨Z, K, Y, hZE, Rel.put_none r0 (Grew.refl _) _⟩
  | some d =>
    simp only [hdst] at hs
    cases hbd : Nat.ble (d + 1) E.N with
    | false => rw [hbd] at hs; cases hs
    | true =>
      rw [hbd] at hs
      cases hs
      exact hk' _ _ w' ⟨Z, K, Y, hZE, Rel.put r0 (Grew.refl _) hbd (by simp [RA, RAs])⟩
end
end Go.AL
/- AL, part 61: 'append(nil, data...)' gives data. -/
namespace Go.AL
set_option linter.unusedVariables false
set_option linter.unusedSimpArgs false
section
variable {E : Env} {ops : List Oper} {J : Jt} {s : Slots} {h : Heap}
end
end Go.AL
/- AL, part 62: rows appended to nothing, literals with the frame's own in them, in a drawn head under keys of their own; heads in which a row grows beside variables that are read. -/
namespace Go.AL
set_option linter.unusedVariables false
set_option linter.unusedSimpArgs false
section
variable {E : Env} {ops : List Oper} {J : Jt} {s : Slots} {h : Heap} {l : Effs} {n i : Nat} {K : Slots → Prop}
end
section
variable {E : Env} {ops : List Oper} {J : Jt} {s : Slots} {p : Grow} {n i : Nat} {K : Slots → Prop}
end
end Go.AL
/- AL, part 63: a drawn head with whatever effects, in which rows grow that have come up in the head itself: the slot that held the row ahead of that is told no more. -/
namespace Go.AL
set_option linter.unusedVariables false
set_option linter.unusedSimpArgs false
structure EffY where
  qs : List Nat
  H : (Nat → Bool) → Heap
  nk : List (Nat × Nat)
  stale : List (Nat × Nat)
section
variable {E : Env} {ops : List Oper} {Y : Nat → Slots → AV → Prop}
end
section
variable {E : Env} {ops : List Oper} {Q : Exit → St → Prop} {J : Jt} {s : Slots} {h : Heap}
variable {n i : Nat} {t : EffY} {K : Slots → Prop}
end
end Go.AL
/- AL, part 72: a variable told with less; an own row appended to an own row. -/
namespace Go.AL
set_option linter.unusedVariables false
set_option linter.unusedSimpArgs false
theorem LE_slotLe {E : Env} {J : Jt} {s : Slots} {h : Heap} (d : Nat) {x y : AV} (hs : s d = x) (hl : AVle x y) : LE E ⟨J, s, h⟩ ⟨J, sset s d y, h⟩ := fun ι a w ⟨Z, K, Y, hZ, r⟩ =>
  ⟨ι, Z, K, Y, hZ, r.mem, r.size, fun i => by
    by_cases hi : i = d
    · subst hi
      show RA _ (sset s i y i) _
      rw [sset_same]
      exact hl _ _ (hs ▸ r.slot i)
    · show RA _ (sset s d y i) _
      rw [sset_ne _ _ hi]
      exact r.slot i, r.ds⟩
end Go.AL
