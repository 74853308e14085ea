/- Parts of an abstract logic over the kit's walks, and walks in it: A70, A60, A69, A74, A71, A61, A62, A63, A72, A64, A67. -/
import Derived.Test.YtojnicnbmgiplaaAe
import Derived.Test.YtojnicnbmgiplaaAd
import Derived.Shelf.SlSortCmp.NoneTotal
import Derived.Test.YtojnicnbmgiplaaAf
/- AL, part 70: functions that turn the own row that they are handed; slices.SortFunc at elements of one cell, out of the shelf's contract. -/
namespace Go.AL
open Go.Proofs Go.Shelf Go.RowKit Go.Lib Go.Sort
set_option linter.unusedVariables false
set_option linter.unusedSimpArgs false
/-- A function that turns the own row that it is handed first, and gives nothing back. -/
def Turns (P : Program) (f : Nat) (e : TypeId) (sz : Nat) (xs : List (List D)) (A : D) (xs' : List (List D)) : Prop :=
  Callable P f ∧ ∀ n w (M : Nat → Prop) v a vs, (∀ b, M b → b < w.heap.size) → (∀ b, blk v = some b → M b) → RowOk w v e sz xs.length vs → RDs w M xs.flatten vs → (∀ x ∈ xs, x.length = sz) → xs.length ≤ 140737488355328 → RD w M A a →
    CallsIn Fence.wide n P f #[v, a] w fun x w' => x = .returned (.tuple #[]) ∧ ∃ vs', RowOk w' v e sz xs'.length vs' ∧ RDs w' M xs'.flatten vs' ∧ (∀ x ∈ xs', x.length = sz) ∧ xs'.length = xs.length ∧ Step (fun b => b < w.heap.size ∧ some b ≠ blk v) w w'
theorem grew_eq {W w : World} (h : Grew W w) : ∃ q os, w = grow (W.drewN q) os := by
  refine ⟨w.drawn - W.drawn, w.heap.extract W.heap.size w.heap.size, ?_⟩
  obtain ⟨heap', tape', drawn', os', output'⟩ := w
  have e1 : os' = W.os := h.os
  have e2 : tape' = W.tape := h.tape
  have e3 : output' = W.output := h.output
  have e4 : W.drawn ≤ drawn' := h.drawn
  have hs : W.heap.size ≤ heap'.size := h.size
  have hb : ∀ k, k < W.heap.size → heap'[k]? = W.heap[k]? := h.block
  subst e1 e2 e3
  have eh : heap' = W.heap ++ heap'.extract W.heap.size heap'.size := by
    apply Array.ext_getElem?
    intro k
    by_cases hk : k < W.heap.size
    · rw [Array.getElem?_append_left hk]; exact hb k hk
    · rw [Array.getElem?_append_right (by omega), Array.getElem?_extract]
      by_cases hk2 : k < heap'.size
      · rw [if_pos (by omega)]; congr 1; omega
      · rw [if_neg (by omega), Array.getElem?_eq_none (by omega)]
  simp only [grow, World.drewN]
  congr 1
  show drawn' = W.drawn + (drawn' - W.drawn)
  omega
section
variable {β : Type} [Inhabited β] {enc : β → Value} {w : World} {b m : Nat} {d : Array β} {os : Array Obj}
theorem sw_size : w.heap.size ≤ (sortWorld enc w b 0 m d os).heap.size := by
  show _ ≤ ((w.heap.modify b _) ++ os).size
  simp
theorem sw_block {c : Nat} (hc : c < w.heap.size) (hne : c ≠ b) : (sortWorld enc w b 0 m d os).heap[c]? = w.heap[c]? := by
  show ((w.heap.modify b _) ++ os)[c]? = _
  rw [Array.getElem?_append_left (by simpa using hc), Array.getElem?_modify, if_neg (fun e => hne e.symm)]
theorem sw_row {cur : Array Value} {e : TypeId} {fr : Nat × Nat} (hg : w.heap[b]? = some (.cells cur e fr)) : (sortWorld enc w b 0 m d os).heap[b]? = some (.cells (putCells enc 0 d cur) e fr) := by
  have hb := (Array.getElem?_eq_some_iff.1 hg).1
  show ((w.heap.modify b _) ++ os)[b]? = _
  rw [Array.getElem?_append_left (by simpa using hb), Array.getElem?_modify, if_pos rfl]
  rw [hg]; rfl
theorem sw_step : Step (fun c => c < w.heap.size ∧ c ≠ b) w (sortWorld enc w b 0 m d os) :=
  ⟨rfl, rfl, rfl, sw_size, Nat.le_add_right _ _, fun c hc => sw_block hc.1 hc.2⟩
theorem sw_keeps {M M' : Nat → Prop} (hb : M b) (h : ∀ c, isCells w c → ¬ M c → ¬ M' c) : Keeps w (sortWorld enc w b 0 m d os) M M' := by
  refine ⟨fun c o v hm hc => ?_, fun c hm hi => ?_, h⟩
  · have hlt := World.block_lt_of_cell? w ⟨c, o, none⟩ hc
    have hne : c ≠ b := fun e => hm (e ▸ hb)
    rw [World.cell?_of_block (w := w) (a := ⟨c, o, none⟩) (sw_block hlt hne)]; exact hc
  · exact hi.at (sw_block hi.lt fun e => hm (e ▸ hb))
end
/-- Sorted, where whatever two that are not one are told apart. -/
def sortX {α : Type} (cf : α → α → Int) (xs : List α) : List α := xs.mergeSort fun x y => !(ltOf cf) y x
theorem sortX_len {α : Type} (cf : α → α → Int) (xs : List α) : (sortX cf xs).length = xs.length := List.length_mergeSort _
theorem sortX_nil {α : Type} (cf : α → α → Int) : sortX cf [] = [] := by simp [sortX]
theorem RD_fn0 {w : World} {M : Nat → Prop} {g : Nat} {a : Value} (h : RD w M (.fn (.func g) [] []) a) : a = .func (.func g) #[] #[] := by
  simp only [RD] at h
  obtain ⟨vf, vc, e, h1, h2⟩ := h
  have h1' : vf = #[] := by have := h1; simp only [RDs] at this; simpa using this
  have h2' : vc = #[] := by have := h2; simp only [RDs] at this; simpa using this
  rw [e, h1', h2']
theorem callable_enters {P : Program} {g : Nat} (h : Callable P g) (args : Array Value) (w : World) : (callFunc g args).run P w = .ok (.enter g args) w := by
  obtain ⟨fn, h1, h2, h3⟩ := h
  unfold callFunc
  rw [Sem.run_bind]
  simp only [program, Sem.run, Result.andThen_ok, h1, h2, h3, Bool.false_eq_true, if_false]
  rfl
theorem turns_none {P : Program} {ρ : Ren} (L : SlLaysF0.n6 P ρ) {e : TypeId} {sz : Nat} {p : Option Addr} {cap n : Nat} {w : World} {M : Nat → Prop} {a : Value} {vs : List Value} (hr : RowOk w (.slice p 0 cap) e sz 0 vs) (hd : RDs w M [] vs) :
    CallsIn Fence.wide n P (ρ.f 6) #[.slice p 0 cap, a] w fun x w' => x = .returned (.tuple #[]) ∧ ∃ vs', RowOk w' (.slice p 0 cap) e sz ([] : List (List D)).length vs' ∧ RDs w' M ([] : List (List D)).flatten vs' ∧ (∀ x ∈ ([] : List (List D)), x.length = sz) ∧ ([] : List (List D)).length = 0 ∧ Step (fun b => b < w.heap.size ∧ some b ≠ blk (.slice p 0 cap)) w w' :=
  callsIn_wide.2 ((AnyF.slices_SortFunc_none L p cap a w).mono fun x w' ⟨h1, h2⟩ => ⟨h1, vs, by rw [h2]; exact hr, by rw [h2]; exact hd, by simp, rfl, by rw [h2]; exact Step.refl _ _⟩)
end Go.AL
/- AL, part 60: calls that look at a table, calls that give an own row, in drawn heads with whatever effects. -/
namespace Go.AL
set_option linter.unusedVariables false
set_option linter.unusedSimpArgs false
section
variable {h : Heap} {q k : Nat} {e : Ent}
end
section
variable {E : Env} {ops : List Oper} {J : Jt} {s : Slots} {h : Heap} {n i : Nat} {t : Eff} {K : Slots → Prop}
end
end Go.AL
/- AL, part 69: how long an own row is, where it isn't plain that the row is there. -/
namespace Go.AL
set_option linter.unusedVariables false
set_option linter.unusedSimpArgs false
section
variable {E : Env} {ops : List Oper} {J : Jt} {s : Slots} {h : Heap} {o : Oper}
theorem loc_lenRow (hE : E.Good) {key : Nat} {xo : Operand} {t : TypeId} (hop : o.op = .call ⟨.builtin .len, #[xo], #[t]⟩) {e : TypeId} {z1 z2 : Nat} {z3 : List Value} (ht : E.T t = some ⟨.slice e, z1, z2, z3⟩) {e' : TypeId} {sz : Nat} {xs : List (List D)} (hx : ev s xo = .row key) (hkey : h key = some (.row e' sz xs)) : Loc E ops J h o s (.d (.lit (.int .i64 (xs.length : Int)))) := by
  refine ⟨(by rw [hop]; intro c hc; cases hc), fun Z K Y ι a w m hl => ?_⟩
  obtain ⟨dst, op, ty, pos, af, gd⟩ := o
  simp only at hop
  subst hop
  have h1 := hl xo (by simp [Op.operands, Call.operands])
  rw [hx] at h1
  simp only [RA] at h1
  obtain ⟨hkd, e1⟩ := h1
  obtain ⟨vs, f1, f2, f3, f4⟩ := m.ent key _ hkey
  have hu := (hE.ok.T t _ ht).2
  simp only [TK.fits] at hu
  have e2 : ∃ ad cap, a.eval xo = .slice ad xs.length cap := by
    rcases f1 with ⟨ad, e0, h0, _⟩ | ⟨g, cap, cur, e0, _⟩
    · exact ⟨_, _, by rw [e1, e0, h0]⟩
    · exact ⟨_, _, e1.trans e0⟩
  obtain ⟨ad, cap, e2⟩ := e2
  refine ⟨.int .i64 xs.length, w, ?_, Grew.refl w, RA_lit_mk ?_⟩
  · simp [execOp, resolve, invoke, builtin, Builtin.len_, e2, run_underlying hu, goInt]
  · simp only [okLit]
    have : IntKind.i64.min = -9223372036854775808 := rfl
    have : IntKind.i64.max = 9223372036854775807 := rfl
    omega
end
end Go.AL
/- AL, part 74: slices.SortFunc at elements of k cells, out of the shelf's contract. -/
namespace Go.AL
open Go.Proofs Go.Shelf Go.RowKit Go.Lib Go.Sort
set_option linter.unusedVariables false
set_option linter.unusedSimpArgs false
theorem flat_seg {α : Type} {k : Nat} (hk : 0 < k) : ∀ {L : List (List α)}, (∀ x ∈ L, x.length = k) → ∀ t : Nat, L.flatten[t]? = (L[t / k]?).bind fun x => x[t % k]?
  | [], _, t => by simp
  | x :: L, h, t => by
    have hx := h x (by simp)
    rw [List.flatten_cons]
    by_cases ht : t < k
    · rw [List.getElem?_append_left (by omega), Nat.div_eq_of_lt ht, Nat.mod_eq_of_lt ht]; rfl
    · rw [List.getElem?_append_right (by omega), hx, flat_seg hk (fun y hy => h y (by simp [hy])), show t / k = (t - k) / k + 1 from Nat.div_eq_sub_div hk (by omega), Nat.mod_eq_sub_mod (show k ≤ t by omega)]
      rw [List.getElem?_cons_succ]
theorem flatK_rows {α : Type} [Inhabited α] {k : Nat} (hk : 0 < k) {ev : α → List Value} (he : ∀ x, (ev x).length = k) (d : Array α) : (Go.Sort.flatK ev k d).toList = (d.toList.map ev).flatten := by
  refine List.ext_getElem? fun t => ?_
  rw [flat_seg hk (fun x hx => by obtain ⟨y, _, rfl⟩ := List.mem_map.1 hx; exact he y), Array.getElem?_toList, List.getElem?_map, Array.getElem?_toList]
  by_cases ht : t < d.size * k
  · have h1 : t / k < d.size := (Nat.div_lt_iff_lt_mul hk).2 ht
    have h2 : t % k < k := Nat.mod_lt _ hk
    have g := Go.Sort.get_flatK ev k d t ht
    rw [Array.getElem?_eq_getElem (by rw [Go.Sort.size_flatK]; exact ht), Array.getElem?_eq_getElem h1]
    rw [getElem!_pos _ t (by rw [Go.Sort.size_flatK]; exact ht)] at g
    rw [g, getElem!_pos d _ h1]
    show _ = (ev d[t / k])[t % k]?
    rw [List.getElem?_eq_getElem (by rw [he]; exact h2), getElem!_pos _ _ (by rw [he]; exact h2)]
  · have h1 : ¬ t / k < d.size := fun h => ht ((Nat.div_lt_iff_lt_mul hk).1 h)
    rw [Array.getElem?_eq_none (by rw [Go.Sort.size_flatK]; omega), Array.getElem?_eq_none (by omega)]; rfl
theorem RDs_flats {w : World} {M : Nat → Prop} {ι : Type} {f : ι → List D} {g : ι → List Value} : ∀ {l : List ι}, (∀ i ∈ l, RDs w M (f i) (g i)) → RDs w M (l.map f).flatten (l.map g).flatten
  | [], _ => by simp [RDs]
  | i :: l, h => by
    simp only [List.map_cons, List.flatten_cons]
    exact RDs_append (h i (by simp)) (RDs_flats fun j hj => h j (by simp [hj]))
theorem seg_at {sz : Nat} {xs : List (List D)} {j : Nat} {x : List D} (h : xs[j]? = some x) (hl : ∀ y ∈ xs, y.length = sz) : (xs.flatten.drop (j * sz)).take sz = x := by
  have hx := hl x (List.mem_of_getElem? h)
  have hj := (List.getElem?_eq_some_iff.1 h).1
  have e : j * sz + sz = (j + 1) * sz := by rw [Nat.add_mul, Nat.one_mul]
  rw [← flat_drop xs j hl, List.drop_eq_getElem_cons hj, List.flatten_cons]
  have : xs[j] = x := (List.getElem?_eq_some_iff.1 h).2
  rw [this, List.take_left' hx]
set_option maxHeartbeats 1000000 in
/-- slices.SortFunc at elements of k cells. -/
theorem sortK_turns {P : Program} {ρ : Ren} (L : SlLaysF0.n6 P ρ) (hcl : Callable P (ρ.f 6)) {k : Nat} (hk0 : 0 < k) (aE : ∀ w, (isAgg (ρ.t 24)).run P w = .ok true w) (zE : ∀ w, (Go.sizeOf (ρ.t 24)).run P w = .ok k w) {α : Type} (enc : α → List D) (hen : ∀ x, (enc x).length = k) (cf : α → α → Int) (hO : SWO (ltOf cf)) (hT : ∀ x y, ltOf cf x y = false → ltOf cf y x = false → x = y) {g : Nat} {e : TypeId} (ok : α → Prop) (hg : Callable P g)
    (hcmp : ∀ x y, ok x → ok y → Does P g [.agg ((enc x).map .d), .agg ((enc y).map .d)] noHeap (.d (.lit (.int .i64 (cf x y))))) (xs : List α) (hok : ∀ x ∈ xs, ok x) :
    Turns P (ρ.f 6) e k (xs.map enc) (.fn (.func g) [] []) ((sortX cf xs).map enc) := by
  refine ⟨hcl, fun n w M v a vs hM hvM hrow hds hone hlen ha => ?_⟩
  obtain rfl := RD_fn0 ha
  rw [List.length_map] at hrow hlen
  have hls : ∀ y ∈ xs.map enc, y.length = k := fun y hy => by obtain ⟨x, _, rfl⟩ := List.mem_map.1 hy; exact hen x
  cases hxs : xs with
  | nil =>
    subst hxs
    rw [sortX_nil]
    rcases hrow with ⟨p, rfl, _, _⟩ | ⟨b, cap, cur, rfl, h⟩
    · exact turns_none L (.inl ⟨p, rfl, rfl, by simpa [RDs] using hds⟩) (by simpa [RDs] using hds)
    · exact turns_none L (.inr ⟨b, cap, cur, rfl, h⟩) (by simpa [RDs] using hds)
  | cons x0 xt =>
    have hn : 0 < xs.length := by rw [hxs]; exact Nat.succ_pos _
    rw [← hxs]
    rcases hrow with ⟨p, _, h0, _⟩ | ⟨b, cap, cur, rfl, hc0, hgb, hnc, hcm, hcs, htk⟩
    · omega
    have hbk : blk (.slice (some ⟨b, 0, none⟩) xs.length cap) = some b := by simp [blk]; omega
    have hMb : M b := hvM b hbk
    have hl : vs.length = xs.length * k := by rw [RDs_length hds, flat_len _ hls, List.length_map]
    have hblt := (Array.getElem?_eq_some_iff.1 hgb).1
    let con : Nat → α := fun i => xs.getD i x0
    let ix : Nat → Nat := fun i => if i < xs.length then i else 0
    let ev' : Nat → List Value := fun i => (vs.drop (ix i * k)).take k
    have hix : ∀ i, ix i < xs.length := fun i => by show (if _ then _ else _) < _; split <;> omega
    have hx0 : xs[0]? = some x0 := by rw [hxs]; rfl
    have cg : ∀ i, i < xs.length → xs[i]? = some (con i) := fun i hi => by
      show _ = some (xs.getD i x0)
      rw [List.getD_eq_getElem?_getD, List.getElem?_eq_getElem hi]; rfl
    have cix : ∀ i, con i = con (ix i) := fun i => by
      by_cases hi : i < xs.length
      · rw [show ix i = i from if_pos hi]
      · rw [show ix i = 0 from if_neg hi]
        show xs.getD i x0 = xs.getD 0 x0
        rw [List.getD_eq_getElem?_getD, List.getD_eq_getElem?_getD, List.getElem?_eq_none (by omega), hx0]; rfl
    have hmul : ∀ i, i < xs.length → i * k + k ≤ xs.length * k := fun i hi => by
      have : (i + 1) * k ≤ xs.length * k := Nat.mul_le_mul_right k hi
      rw [Nat.add_mul, Nat.one_mul] at this; exact this
    have hevl : ∀ i, (ev' i).length = k := fun i => by
      show ((vs.drop (ix i * k)).take k).length = k
      have := hmul _ (hix i)
      rw [List.length_take, List.length_drop]; omega
    have rdw : ∀ i, RDs w M (enc (con i)) (ev' i) ∧ con i ∈ xs := fun i => by
      have hc := cg _ (hix i)
      rw [← cix] at hc
      refine ⟨?_, List.mem_of_getElem? hc⟩
      have := RDs_take k (RDs_drop (ix i * k) hds)
      rwa [seg_at (x := enc (con i)) (by rw [List.getElem?_map, hc]; rfl) hls] at this
    have hone' := RDs_one hds
    have h1 : ∀ x, ∀ v ∈ ev' x, v.oneCell' = true := fun i v hv => hone' v (List.mem_of_mem_drop (List.mem_of_mem_take hv))
    let cf' : Nat → Nat → Int := fun i j => cf (con i) (con j)
    have hO' : SWO (ltOf cf') := ⟨fun i => hO.irrefl _, fun i j k => hO.trans _ _ _, fun i j k => hO.ntrans _ _ _⟩
    have hds1 : (Array.range xs.length).size = xs.length := Array.size_range
    have hsegs : ((List.range xs.length).map ev').flatten = vs := by
      refine List.ext_getElem? fun t => ?_
      rw [flat_seg hk0 (fun x hx => by obtain ⟨y, _, rfl⟩ := List.mem_map.1 hx; exact hevl y), List.getElem?_map]
      by_cases ht : t < xs.length * k
      · have h2 : t / k < xs.length := (Nat.div_lt_iff_lt_mul hk0).2 ht
        have h3 : t % k < k := Nat.mod_lt _ hk0
        rw [List.getElem?_range h2]
        show ((vs.drop (ix (t / k) * k)).take k)[t % k]? = _
        rw [show ix (t / k) = t / k from if_pos h2, List.getElem?_take, if_pos h3, List.getElem?_drop, Nat.mul_comm, Nat.div_add_mod]
      · have h2 : ¬ t / k < xs.length := fun h => ht ((Nat.div_lt_iff_lt_mul hk0).1 h)
        rw [List.getElem?_eq_none (by rw [List.length_range]; omega), List.getElem?_eq_none (by omega)]; rfl
    have hcells : ∀ j, j < xs.length * k → cur[j]? = vs[j]? := fun j hj => by
      rw [← htk, List.getElem?_take, if_pos (by omega), Array.getElem?_toList]
    have hflat : (Go.Sort.flatK ev' k (Array.range xs.length)).toList = vs := by rw [flatK_rows hk0 hevl, Array.toList_range, hsegs]
    have hH : HoldsK ev' k w b 0 (Array.range xs.length) := fun j hj => by
      rw [Go.Sort.size_flatK, hds1] at hj
      refine ⟨?_, frozen_of_row w b _ cur e hgb⟩
      have hjs : j < (Go.Sort.flatK ev' k (Array.range xs.length)).size := by rw [Go.Sort.size_flatK, hds1]; exact hj
      have e1 : (Go.Sort.flatK ev' k (Array.range xs.length))[j]? = vs[j]? := by rw [← Array.getElem?_toList, hflat]
      rw [Array.getElem?_eq_getElem hjs] at e1
      rw [getElem!_pos _ j hjs]
      simp only [World.cell?, hgb, Nat.zero_add]
      have := hcells j hj
      rw [← e1] at this
      simpa using this
    have hC : CmpLays P g #[] ev' k cf' b 0 (Array.range xs.length).size w := fun m os dk hs i j => by
      have hlt : ∀ c, M c → c < (sortWorldK ev' k w b 0 m dk os).heap.size := fun c hc => Nat.lt_of_lt_of_le (hM c hc) (sw_size (enc := (id : Value → Value)) (d := Go.Sort.flatK ev' k dk))
      have hk : Keeps w (sortWorldK ev' k w b 0 m dk os) M (cx M noHeap noι (sortWorldK ev' k w b 0 m dk os)).M := sw_keeps (enc := (id : Value → Value)) (d := Go.Sort.flatK ev' k dk) hMb fun c _ hm hm' => by
        rcases hm' with hm' | ⟨k, hk, _⟩
        · exact hm hm'
        · simp [dom, noHeap] at hk
      have hd := (hcmp (con i) (con j) (hok _ (rdw i).2) (hok _ (rdw j).2)).2 0 M _ [.agg (ev' i).toArray, .agg (ev' j).toArray] hlt (by
        simp only [RAs, RA]
        exact ⟨_, _, rfl, ⟨(ev' i).toArray, rfl, RAs_map_d.2 (RDs_keeps hk _ _ (rdw i).1)⟩, _, _, rfl, ⟨(ev' j).toArray, rfl, RAs_map_d.2 (RDs_keeps hk _ _ (rdw j).1)⟩, rfl⟩)
      refine (callsIn_wide.1 hd).mono fun x w' ⟨u, ι, hx, hgr, hu, _⟩ => ?_
      simp only [RA, RD] at hu
      exact ⟨by rw [hx, hu.1], grew_eq hgr⟩
    have hmain := AnyQ.slices_SortFunc L k aE zE ev' hevl h1 cf' hO' g #[] b 0 cap (Array.range xs.length) w (fun args w => callable_enters hg args w) hC hH hblt (by rw [hds1]; omega)
    rw [hds1] at hmain
    refine callsIn_wide.2 (hmain.mono fun x w' ⟨hx, d', m, os, hp, hs, hw⟩ => ⟨hx, ?_⟩)
    obtain ⟨hsz, _, hperm⟩ := hp
    rw [hds1] at hsz
    have he1 : d'.extract 0 xs.length = d' := by rw [← hsz]; exact Array.extract_size
    have he2 : (Array.range xs.length).extract 0 xs.length = Array.range xs.length := by
      have := Array.extract_size (xs := Array.range xs.length); rwa [hds1] at this
    rw [he1, he2, Array.toList_range] at hperm
    have hrange : (List.range xs.length).map con = xs := by
      refine List.ext_getElem? fun i => ?_
      rw [List.getElem?_map]
      by_cases hi : i < xs.length
      · rw [List.getElem?_range hi, cg i hi]; rfl
      · rw [List.getElem?_eq_none (by rw [List.length_range]; omega), List.getElem?_eq_none (by omega)]; rfl
    have hxperm : (d'.toList.map con).Perm xs := by
      have := hperm.map con; rwa [hrange] at this
    have hsort : sortX cf xs = d'.toList.map con := by
      refine (List.Perm.eq_of_pairwise (le := fun x y => (!ltOf cf y x) = true) ?_ ?_ ?_ (hxperm.trans (List.mergeSort_perm _ _).symm)).symm
      · intro x y _ _ q1 q2
        simp only [Bool.not_eq_true'] at q1 q2
        exact hT x y q2 q1
      · rw [List.pairwise_iff_getElem]
        intro i j hi hj hij
        have hi' : i < d'.size := by simpa using hi
        have hj' : j < d'.size := by simpa using hj
        have := hs i j (Nat.zero_le _) hij (by omega)
        rw [getElem!_pos d' j hj', getElem!_pos d' i hi'] at this
        simpa [cf', ltOf] using this
      · refine List.pairwise_mergeSort ?_ ?_ _
        · intro x y z q1 q2
          simp only [Bool.not_eq_true'] at q1 q2 ⊢
          exact hO.ntrans z y x q2 q1
        · intro x y
          cases h : ltOf cf y x with
          | false => simp
          | true => simp [hO.asymmA h]
    rw [hsort]
    have hw' : w' = sortWorld (id : Value → Value) w b 0 m (Go.Sort.flatK ev' k d') os := hw
    subst hw'
    have hk : Keeps w (sortWorld (id : Value → Value) w b 0 m (Go.Sort.flatK ev' k d') os) M M := sw_keeps hMb fun c _ hm => hm
    have hfs : (Go.Sort.flatK ev' k d').size = xs.length * k := by rw [Go.Sort.size_flatK, hsz]
    refine ⟨(d'.toList.map ev').flatten, .inr ⟨b, cap, putCells id 0 (Go.Sort.flatK ev' k d') cur, by simp [hsz], hc0, sw_row hgb, by simp [hsz]; exact hnc, hcm, by simpa [putCells] using hcs, ?_⟩, ?_, ?_, by simp [hsz], ?_⟩
    · rw [← flatK_rows hk0 hevl, List.length_map, List.length_map, Array.length_toList, hsz]
      refine List.ext_getElem? fun j => ?_
      rw [List.getElem?_take, Array.getElem?_toList, Array.getElem?_toList]
      by_cases hj : j < xs.length * k
      · rw [if_pos hj]
        have hxl : xs.length ≤ cap := hnc
        have hjc : j < cur.size := by rw [hcs]; exact Nat.lt_of_lt_of_le hj (Nat.mul_le_mul_right k hxl)
        have hjd : j < (Go.Sort.flatK ev' k d').size := by omega
        rw [putCells, Array.getElem?_mapIdx, Array.getElem?_eq_getElem hjc, Array.getElem?_eq_getElem hjd]
        simp only [Option.map_some, Nat.zero_le, true_and, Nat.zero_add, hjd, if_true, Nat.sub_zero]
        rw [getElem!_pos _ j hjd]; rfl
      · rw [if_neg hj, Array.getElem?_eq_none (by omega)]
    · rw [List.map_map]
      exact RDs_flats fun i hi => RDs_keeps hk _ _ (rdw i).1
    · intro y hy
      obtain ⟨x, _, rfl⟩ := List.mem_map.1 hy
      exact hen x
    · exact Step.weaken sw_step fun c hc => ⟨hc.1, fun ec => hc.2 (by rw [ec, hbk])⟩
end Go.AL
/- AL, part 71: the call of a function that turns the own row that it is handed. -/
namespace Go.AL
set_option linter.unusedVariables false
set_option linter.unusedSimpArgs false
section
variable {E : Env} {ops : List Oper} {Q : Exit → St → Prop} {i : Nat} {J : Jt} {s : Slots} {h : Heap}
theorem OW_callTurn' (hE : E.Good) {key : Nat} {f : Nat} {e : TypeId} {sz : Nat} {xs xs' : List (List D)} {A : D} (hc : Turns E.P f e sz xs A xs') {o : Oper} {fo so ao : Operand} {ts : Array TypeId} (ho : ops[i]? = some o) (hop : o.op = .call ⟨.value fo, #[so, ao], ts⟩) (hw : awant ops o s = some true)
    (hfo : ev s fo = .d (.fn (.func f) [] [])) (hso : ev s so = .row key) (hao : ev s ao = .d A) (hkey : h key = some (.row e sz xs))
    {s' : Slots} (hs : putS E.N s o.dst (.tup []) = some s') (hk' : OW E ops (i + 1) Q ⟨J, s', hset h key (some (.row e sz xs'))⟩) : OW E ops i Q ⟨J, s, h⟩ := fun ι a w r => by
  have hd : ops.drop i = o :: ops.drop (i + 1) := by
    obtain ⟨hlt, rfl⟩ := List.getElem?_eq_some_iff.1 ho
    exact List.drop_eq_getElem_cons hlt
  rw [hd]
  simp only [wpListIn]
  rw [if_pos (awant_ok r hw)]
  refine ⟨fun f _ => hE.wide.fn f, ?_⟩
  rw [Oper.semAt_plain E.F _ _ (by rw [hop]; intro c hc; cases hc)]
  obtain ⟨dst, op, ty, pos, af, gd⟩ := o
  simp only at hop hs
  subst hop
  obtain ⟨Z, K, Y, hZE, r⟩ := r
  have ef := RD_fn0 (w := w) (M := (cx Z h ι w).M) (by have hf1 := RA_ev (C := cx Z h ι w) (s := s) (a := a) fo fun t _ => r.slot t; rw [hfo] at hf1; simpa only [RA] using hf1)
  have h1 := RA_ev (C := cx Z h ι w) (s := s) (a := a) so fun t _ => r.slot t
  have h2 := RA_ev (C := cx Z h ι w) (s := s) (a := a) ao fun t _ => r.slot t
  rw [hso] at h1
  rw [hao] at h2
  simp only [RA] at h1 h2
  obtain ⟨hkd, e1⟩ := h1
  obtain ⟨vs, f1, f2, f3, f4⟩ := r.mem.ent key _ hkey
  rw [exec_call ef hc.1]
  simp only [Oper.uponIn]
  refine ⟨fun hx => (by rw [hE.wide.depth] at hx; cases hx), ?_⟩
  have hcall := hc.2 (E.n - 1) w (cx Z h ι w).M (ι key) (a.eval ao) vs (fun b hb => r.mem.Mlt hb) (fun b hb => .inr ⟨key, hkd, hb⟩) f1 f2 f3 f4 h2
  have hargs : (#[] ++ Array.map a.eval #[so, ao] ++ #[] : Array Value) = #[ι key, a.eval ao] := by simp [e1]
  rw [hargs]
  refine (hE.wide.calls hcall).mono fun x w' ⟨he', vs', q1, q2, q3, q4, q5⟩ => ?_
  subst he'
  show wpListIn _ _ _ _ _ _ _ _
  have hgd : ∀ b, blk (ι key) = some b → ∃ cur, w.heap[b]? = some (.cells cur e (0, 0)) := by
    intro b hb
    rcases f1 with ⟨p, e0, _⟩ | ⟨g, cap, cur, e0, hc0, hg, _⟩
    · have e0' : ι key = .slice p 0 0 := e0
      rw [e0'] at hb; cases p <;> simp [blk] at hb
    · have e0' : ι key = .slice (some ⟨g, 0, none⟩) xs.length cap := e0
      have hbg : blk (ι key) = some g := by rw [e0']; simp [blk]; omega
      rw [hbg] at hb; cases hb
      exact ⟨cur, hg⟩
  have hdom : ∀ k', dom h k' ↔ dom (hset h key (some (.row e sz xs'))) k' := by
    intro k'
    by_cases hjk : k' = key
    · subst hjk; simp [dom, hset_same]; rw [hkey]; rfl
    · simp only [dom, hset_ne h _ hjk]
  have hstep : Step (fun b => b < w.heap.size ∧ some b ≠ blk (ι key)) w w' := q5
  have kc : KeepsC (cx Z h ι w) (cx Z (hset h key (some (.row e sz xs'))) ι w') := by
    refine ⟨⟨fun b o u hm hcc => ?_, fun b hm hi => ?_, fun b _ hm hm' => ?_⟩, fun k' hk' => ⟨(hdom k').1 hk', rfl⟩⟩
    · have hlt := World.block_lt_of_cell? w ⟨b, o, none⟩ hcc
      have hne : some b ≠ blk (ι key) := fun e => hm (.inr ⟨key, hkd, e.symm⟩)
      show World.cell? _ _ = _
      rw [World.cell?_of_block (w := w) (a := ⟨b, o, none⟩) (hstep.block b ⟨hlt, hne⟩)]; exact hcc
    · exact hi.at (hstep.block b ⟨hi.lt, fun e => hm (.inr ⟨key, hkd, e.symm⟩)⟩)
    · rcases hm' with hz | ⟨k', hk', hkb⟩
      · exact hm (.inl hz)
      · exact hm (.inr ⟨k', (hdom k').2 hk', hkb⟩)
  have hent : EntOk (cx Z (hset h key (some (.row e sz xs'))) ι w') (.row e sz xs') (ι key) := by
    refine ⟨vs', q1, RDs_keeps ⟨fun _ _ _ _ hh => hh, fun _ _ hh => hh, fun b _ hm hm' => ?_⟩ _ _ q2, q3, by rw [q4]; exact f4⟩
    rcases hm' with hz | ⟨k', hk', hkb⟩
    · exact hm (.inl hz)
    · exact hm (.inr ⟨k', (hdom k').2 hk', hkb⟩)
  have m' : Mem Z K (J K Y Z) (hset h key (some (.row e sz xs'))) ι w' := by
    refine ⟨fun k' e' hk' => ?_, fun k' b hk' hb => ?_, fun k1 k2 b hk1 hk2 => r.mem.apart k1 k2 b ((hdom k1).2 hk1) ((hdom k2).2 hk2), fun b hz => Nat.lt_of_lt_of_le (r.mem.Zlt b hz) hstep.size, fun b hz => Nat.lt_of_lt_of_le (r.mem.Klt b hz) hstep.size, ?_, r.mem.Jc⟩
    · by_cases hjk : k' = key
      · subst hjk
        rw [hset_same] at hk'
        cases hk'
        exact hent
      · rw [hset_ne h _ hjk] at hk'
        have he' := r.mem.ent k' e' hk'
        refine EntOk.keeps kc (fun b cs t f hbj hbk => ?_) he'
        have hbk' : w.heap[b]? = some (.cells cs t f) := hbk
        show w'.heap[b]? = _
        rw [hstep.block b ⟨(Array.getElem?_eq_some_iff.1 hbk').1, fun e => hjk (r.mem.apart k' key b (by show (h k').isSome = true; rw [hk']; rfl) hkd hbj e.symm)⟩]; exact hbk'
    · have ho' := r.mem.own k' b ((hdom k').2 hk') hb
      exact ⟨ho'.1, ho'.2.1, Nat.lt_of_lt_of_le ho'.2.2 hstep.size⟩
    · exact r.mem.Jc w w' r.mem.Jw ⟨hstep.os, hstep.tape, hstep.output, hstep.size, hstep.drawn, fun b hz => hstep.block b ⟨r.mem.Klt b hz, fun e => (r.mem.own key b hkd e.symm).2.1 hz⟩⟩
  have hmarks : Marks Z K w' a.defers := by
    obtain ⟨rs, p1, p2, p3⟩ := r.ds
    refine ⟨rs, p1, p2, fun x hx => ?_⟩
    obtain ⟨p4, p5⟩ := p3 x hx
    refine ⟨?_, p5⟩
    rw [hstep.block x ⟨(Array.getElem?_eq_some_iff.1 p4).1, fun e => ?_⟩]
    · exact p4
    · obtain ⟨cur, hg⟩ := hgd x e.symm
      rw [hg] at p4
      cases p4
  have r0 : Rel Z K E.N (J K Y Z) s (hset h key (some (.row e sz xs'))) ι a w' := ⟨m', r.size, fun j => RA_keeps kc _ _ (r.slot j), hmarks⟩
  unfold putS at hs
  cases hdst : dst with
  | none =>
    simp only [hdst] at hs
    cases hs
    exact hk' _ _ w' ⟨Z, K, Y, hZE, Rel.put_none r0 (Grew.refl _) _⟩
  | some d =>
    simp only [hdst] at hs
    cases hbd : Nat.ble (d + 1) E.N with
    | false => rw [hbd] at hs; cases hs
    | true =>
      rw [hbd] at hs
      cases hs
      exact hk' _ _ w' ⟨Z, K, Y, hZE, Rel.put r0 (Grew.refl _) hbd (by simp [RA, RAs])⟩
end
end Go.AL
/- AL, part 61: 'append(nil, data...)' gives data. -/
namespace Go.AL
set_option linter.unusedVariables false
set_option linter.unusedSimpArgs false
section
variable {E : Env} {ops : List Oper} {J : Jt} {s : Slots} {h : Heap}
end
end Go.AL
/- AL, part 62: rows appended to nothing, literals with the frame's own in them, in a drawn head under keys of their own; heads in which a row grows beside variables that are read. -/
namespace Go.AL
set_option linter.unusedVariables false
set_option linter.unusedSimpArgs false
theorem ev_look {ops : List Oper} {o : Oper} {s s1 : Slots} (hs : ∀ t ∈ o.looksAt ops.toArray, s1 t = s t) {x : Operand} (hx : x ∈ o.op.operands) : ev s1 x = ev s x :=
  ev_same fun t e => hs t (by
    simp only [Oper.looksAt, List.mem_append, List.mem_filterMap]
    exact .inl ⟨x, by simpa using hx, by rw [e]⟩)
section
variable {E : Env} {ops : List Oper} {J : Jt} {s : Slots} {h : Heap} {l : Effs} {n i : Nat} {K : Slots → Prop}
/-- 'append' to nothing: a row of the frame's own. -/
theorem HG_appendNil (hE : E.Good) {key : Nat} {o : Oper} {t e : TypeId} {so xo : Operand} {sz : Nat} {ys : List (List D)} (hm : l.find? (fun x => Nat.beq x.1 i) = some (i, key, .row e sz ys)) (ho : ops[i]? = some o) (hi : Nat.ble (i + 1) n = true) (hop : o.op = .call ⟨.builtin .append, #[so, xo], #[t, t]⟩) (hgd : o.guard = none)
    {z1 z2 : Nat} {z3 : List Value} (ht : E.T t = some ⟨.slice e, z1, z2, z3⟩) {k : TK} {bts : Nat} {z6 : List Value} (hte : E.T e = some ⟨k, sz, bts, z6⟩) (hpos : Nat.ble 1 sz = true) (hso : ev s so = .d (.lit (.slice none 0 0))) (hxo : ev s xo = .d (.sl sz bts ys))
    (hn : ys.length ≤ 140737488355328) (hb : ys.length * bts ≤ 140737488355328) {s' : Slots} (hs : putS E.N s o.dst (.row key) = some s') (hk : HGW h l E ops J n (i + 1) K s') : HGW h l E ops J n i K s := by
  obtain ⟨hd, rfl⟩ := pu_of_putS hs
  refine HG_cons ho hi hd (.inl ⟨key, _, o, mem_find hm, ho, hgd, fun s1 b hs1 hbi hbk => ?_⟩) hk
  refine opG_of_OW hgd (OW_appendNil' hE key (o := o) rfl hop (by simp [awant, hgd]) hbk ht hte hpos
    ((ev_look hs1 (by rw [hop]; simp [Op.operands, Call.operands])).trans hso) (.inl ((ev_look hs1 (by rw [hop]; simp [Op.operands, Call.operands])).trans hxo)) hn hb (s' := pu s1 o.dst (.row key)) (putS_pu hd) (OW_end rfl ⟨rfl, rfl⟩))
end
section
variable {E : Env} {ops : List Oper} {J : Jt} {s : Slots} {p : Grow} {n i : Nat} {K : Slots → Prop}
end
end Go.AL
/- AL, part 63: a drawn head with whatever effects, in which rows grow that have come up in the head itself: the slot that held the row ahead of that is told no more. -/
namespace Go.AL
set_option linter.unusedVariables false
set_option linter.unusedSimpArgs false
structure EffY where
  qs : List Nat
  H : (Nat → Bool) → Heap
  nk : List (Nat × Nat)
  stale : List (Nat × Nat)
def mkIn (mk : List (Nat × Nat)) (q j : Nat) : Bool := mk.any fun p => Nat.beq p.1 q && Nat.beq p.2 j
def dstIn (mk : List (Nat × Nat)) (q : Nat) : Option Tmp → Bool
  | some d => mkIn mk q d
  | none => false
def nkOk (t : EffY) (i : Nat) (o : Oper) (x : AV) : Bool := t.nk.all fun p => Nat.beq p.1 i || (nokey p.2 x || (dstIn t.stale p.1 o.dst || aft o p.1))
/-- The slots as they are told: those that are stale are not. -/
def mask (mk : List (Nat × Nat)) (b : Nat → Bool) (s : Slots) : Slots := fun j => bif mk.any (fun p => Nat.beq p.2 j && b p.1) then .any else s j
def lookB (mk : List (Nat × Nat)) (ops : List Oper) (i : Nat) (o : Oper) : Bool :=
  mk.all fun p => !((o.looksAt ops.toArray).any (Nat.beq p.2)) || (Nat.beq p.1 i || (match ops[p.1]? with | some oq => aft oq i | none => false))
def lookAll (mk : List (Nat × Nat)) (ops : List Oper) (n : Nat) : Bool := (List.range n).all fun i => match ops[i]? with | some o => lookB mk ops i o | none => true
def INy (t : EffY) (b : Nat → Bool) (s : Slots) : Prop := ∀ q k, (q, k) ∈ t.nk → b q = false → ∀ j, mkIn t.stale q j = false → nokey k (s j) = true
def YY (t : EffY) (E : Env) (ops : List Oper) (J : Jt) (i : Nat) (s : Slots) (x : AV) : Prop :=
  ∃ o, ops[i]? = some o ∧ nkOk t i o x = true ∧
  (((t.qs.any fun q => Nat.beq q i) = true ∧ awant ops o s = some true ∧ ∀ s1, (∀ t ∈ o.looksAt ops.toArray, s1 t = s t) → ∀ b, Rdy ops b i o → INy t b s1 → OpG E o ⟨J, s1, t.H b⟩ (fun st' => LE E st' ⟨J, mask t.stale (bset b i) (pu s1 o.dst x), t.H (bset b i)⟩)) ∨
   ((t.qs.any fun q => Nat.beq q i) = false ∧ ∀ b, Rdy ops b i o → YA E ops J (t.H b) o s x))
def HYW (t : EffY) (E : Env) (ops : List Oper) (J : Jt) (n i : Nat) (K : Slots → Prop) (s : Slots) : Prop := QB E (YY t E ops J) K ((ops.take n).drop i) i s

theorem bset_le {b : Nat → Bool} {i j : Nat} (h : b j = true) : bset b i j = true := by
  unfold bset; cases Nat.beq j i <;> simp [h]
theorem mask_le {mk : List (Nat × Nat)} {b b' : Nat → Bool} (hb : ∀ j, b j = true → b' j = true) {j : Nat} (h : mk.any (fun p => Nat.beq p.2 j && b' p.1) = false) : mk.any (fun p => Nat.beq p.2 j && b p.1) = false := by
  rw [List.any_eq_false] at h ⊢
  intro p hp hq
  simp only [Bool.and_eq_true] at hq
  exact h p hp (by simp only [Bool.and_eq_true]; exact ⟨hq.1, hb _ hq.2⟩)
theorem mask_pu {mk : List (Nat × Nat)} {b b' : Nat → Bool} (hb : ∀ j, b j = true → b' j = true) (s : Slots) (dst : Option Tmp) (x : AV) : mask mk b' (pu (mask mk b s) dst x) = mask mk b' (pu s dst x) := by
  funext j
  unfold mask
  cases h : mk.any (fun p => Nat.beq p.2 j && b' p.1) with
  | true => rfl
  | false =>
    have h0 := mask_le hb h
    simp only [cond_false]
    cases dst with
    | none => show (bif _ then AV.any else s j) = s j; rw [h0]; rfl
    | some d =>
      by_cases hjd : j = d
      · subst hjd; simp only [pu, sset_same]
      · simp only [pu]; rw [sset_ne _ _ hjd, sset_ne _ _ hjd]; show (bif _ then AV.any else s j) = s j; rw [h0]; rfl
theorem RelS_mask {E : Env} {J : Jt} {s : Slots} {h : Heap} {ι : Nat → Value} {a : Act} {w : World} (mk : List (Nat × Nat)) (b : Nat → Bool) (r : RelS E ⟨J, s, h⟩ ι a w) : RelS E ⟨J, mask mk b s, h⟩ ι a w := by
  obtain ⟨Z, K, Y, hZ, r⟩ := r
  refine ⟨Z, K, Y, hZ, r.mem, r.size, fun i => ?_, r.ds⟩
  show RA _ (bif _ then AV.any else s i) _
  cases mk.any (fun p => Nat.beq p.2 i && b p.1) with
  | true => trivial
  | false => exact r.slot i
section
variable {E : Env} {ops : List Oper} {Y : Nat → Slots → AV → Prop}
theorem wpAnyIn_of_headM {J : Jt} (M : (Nat → Bool) → Slots → Slots) (H : (Nat → Bool) → Heap) (I : (Nat → Bool) → Slots → Prop) {n g : Nat} {L : Array Bool → Slots → Prop} {Q' : Exit → Act → World → Prop}
    (hI : ∀ i o listed s x, ops[i]? = some o → HeadInv .any ops.toArray n listed → i ∈ Region.ready .any ops.toArray listed → Y i s x → I (bits listed) s → I (bits (listed.setIfInBounds i true)) (pu s o.dst x))
    (hop : ∀ i o listed s x, ops[i]? = some o → HeadInv .any ops.toArray n listed → i ∈ Region.ready .any ops.toArray listed → i < n → I (bits listed) s → Y i s x → dstOk E.N o.dst = true → ∀ ι a w, RelS E ⟨J, M (bits listed) s, H (bits listed)⟩ ι a w → ∀ (K' : Act → World → Prop),
      (∀ ι' a' w', RelS E ⟨J, M (bits (listed.setIfInBounds i true)) (pu s o.dst x), H (bits (listed.setIfInBounds i true))⟩ ι' a' w' → K' a' w') → wpOpIn E.F E.n E.P ops.toArray Q' i K' a w)
    (hL : ∀ listed s ι a w, RelS E ⟨J, M (bits listed) s, H (bits listed)⟩ ι a w → L listed s → wpAnyIn E.F E.n E.P .any ops.toArray Q' g listed a w) :
    ∀ (f : Nat) (listed : Array Bool) (s : Slots) (ι : Nat → Value) (a : Act) (w : World), HeadInv .any ops.toArray n listed → I (bits listed) s → RelS E ⟨J, M (bits listed) s, H (bits listed)⟩ ι a w → anyB E ops Y n L f listed s → wpAnyIn E.F E.n E.P .any ops.toArray Q' (f + g) listed a w
  | 0, listed, s, ι, a, w, _, _, r, hh => by rw [Nat.zero_add]; exact hL _ _ _ _ _ r hh
  | f + 1, listed, s, ι, a, w, inv, hS, r, hh => by
    rw [show f + 1 + g = (f + g) + 1 by omega]
    refine ⟨fun h0 => absurd h0 hh.1, fun i hi => ?_⟩
    obtain ⟨hin, hq⟩ := hh.2 i hi
    obtain ⟨hun, o, ho, _⟩ := mem_ready.1 hi
    have ho' : ops[i]? = some o := by simpa using ho
    unfold qB at hq
    simp only [ho'] at hq
    obtain ⟨x, h1, h2, h3⟩ := hq
    have hS' := hI i o listed s x ho' inv hi h2 hS
    exact hop i o listed s x ho' inv hi hin hS h2 h1 ι a w r _ fun ι' a' w' r' => wpAnyIn_of_headM M H I hI hop hL f _ _ ι' a' w' (inv.set hi hin) hS' r' h3
end
section
variable {E : Env} {ops : List Oper} {Q : Exit → St → Prop} {J : Jt} {s : Slots} {h : Heap}
theorem CW_drawnY (hE : E.Good) (n : Nat) (t : EffY) {id : Nat} (hB : Region.lexTailB .any ops.toArray n = true) (hlk : lookAll t.stale ops n = true) (hqn : ((t.qs.all fun q => Nat.ble (q + 1) n) && (t.stale.all fun p => Nat.ble (p.1 + 1) n)) = true) (hdep : ∀ b b' : Nat → Bool, (∀ q ∈ t.qs, b q = b' q) → t.H b = t.H b') (hS : INy t (fun _ => false) s) (hle : LE E ⟨J, s, h⟩ ⟨J, s, t.H (fun _ => false)⟩)
    (hq : HYW t E ops J n 0 (fun s => OW E ops n Q ⟨J, mask t.stale (fun _ => true) s, t.H (fun _ => true)⟩) s) : CW E (.region id ops.toArray true) Q ⟨J, s, h⟩ := CW.le hle fun ι a w r => by
  simp only [Region.lexTailB, Bool.and_eq_true, decide_eq_true_eq] at hB
  obtain ⟨⟨⟨⟨hsel, hn⟩, hs⟩, hc⟩, hlex⟩ := hB
  simp only [Bool.and_eq_true] at hqn
  have hn' : n < ops.length := by simpa using hn
  have htl : (ops.take n).length = n := by simp; omega
  have hdl : (ops.drop n).length = ops.toArray.size - n := by simp
  have inv0 : HeadInv .any ops.toArray n (Array.replicate ops.toArray.size false) :=
    ⟨by simp, fun j oj _ hl => (by rw [getD_replicate_false] at hl; cases hl), fun t _ ht => getD_in (by simpa using ht) (getD_replicate_false _ _)⟩
  have hYS : YStable ops (YY t E ops J) := by
    intro i o s s' x ho hss hy
    obtain ⟨o', g1, g0, g2⟩ := hy
    have hoo : o' = o := by rw [ho] at g1; exact (Option.some.inj g1).symm
    subst hoo
    refine ⟨o', g1, g0, ?_⟩
    rcases g2 with ⟨g2, g3, g4⟩ | ⟨g2, g3⟩
    · exact .inl ⟨g2, (awant_same hss).trans g3, fun s1 hs1 => g4 s1 fun t ht => (hs1 t ht).trans (hss t ht)⟩
    · exact .inr ⟨g2, fun b hb => YA_same hss (g3 b hb)⟩
  have H0 := anyB_lex (E := E) (Y := YY t E ops J) (g := ops.toArray.size - n) hYS hs hc hn (ops.take n) 0 _ s (fun j hj => by
    have hj' : j < n := by rw [htl] at hj; exact hj
    simp [hj']) (by simpa using htl) inv0 (fun j hj => by omega) (by rw [htl]; exact hlex) (by simpa [HYW] using hq)
  have b0 : bits (Array.replicate ops.toArray.size false) = fun _ => false := by funext q; exact getD_replicate_false _ _
  have r1 : RelS E ⟨J, mask t.stale (bits (Array.replicate ops.toArray.size false)) s, t.H (bits (Array.replicate ops.toArray.size false))⟩ ι a { w with drawn := w.drawn + 1 } := by
    refine RelS_mask _ _ ?_
    rw [b0]
    obtain ⟨Z, K, Y, hZE, r⟩ := r
    exact ⟨Z, K, Y, hZE, r.mem.grew (Grew.drew w), r.size, fun i => RA_keeps (keepsC_grew (K := K) (J := J K Y Z) (Grew.drew w)) _ _ (r.slot i), r.ds.grew (Grew.drew w)⟩
  refine wpIn_region_any hE.ok.mixed ?_
  have hh := wpAnyIn_of_headM (Y := YY t E ops J) (J := J) (Q' := Post E Q) (mask t.stale) t.H (fun b s => INy t b s) (g := ops.toArray.size - n)
    (fun i o listed s x ho inv hi hy hSl => fun q k hm hbq j hj => by
      obtain ⟨o', g1, g0, _⟩ := hy
      have hoo : o' = o := by rw [ho] at g1; exact (Option.some.inj g1).symm
      subst hoo
      have hsz : i < listed.size := by
        rw [inv.size]
        have := (List.getElem?_eq_some_iff.1 ho).1
        simpa using this
      rw [bits_set hsz] at hbq
      have hiq : Nat.beq q i = false := by
        cases hb : Nat.beq q i with
        | false => rfl
        | true => unfold bset at hbq; rw [hb] at hbq; cases hbq
      have hbq' : bits listed q = false := by unfold bset at hbq; rw [hiq] at hbq; exact hbq
      have hx := List.all_eq_true.1 g0 _ hm
      simp only [hiq, Bool.false_or, Bool.or_eq_true] at hx
      have h0 := hSl q k hm hbq' j hj
      cases hd : o'.dst with
      | none => exact h0
      | some d =>
        by_cases hjd : j = d
        · subst hjd
          simp only [pu, sset_same]
          rcases hx with h | h
          · exact h
          · rcases h with h | h
            · rw [hd] at h; simp only [dstIn] at h; rw [hj] at h; cases h
            · rw [aft_ready inv hi ho h] at hbq'; cases hbq'
        · simp only [pu]; rw [sset_ne _ _ hjd]; exact h0)
    (fun i o listed s x ho inv hi hin hSl hy hdo ι a w r K' hk' => ?_) (fun listed s ι a' w' r' hL => by
    have r' : RelS E ⟨J, mask t.stale (bits listed) s, t.H (bits listed)⟩ ι a' w' := r'
    have hm : mask t.stale (bits listed) s = mask t.stale (fun _ => true) s := by
      funext j
      unfold mask
      have : (t.stale.any fun p => Nat.beq p.2 j && bits listed p.1) = t.stale.any fun p => Nat.beq p.2 j && true := by
        refine Bool.eq_iff_iff.2 ⟨fun h => ?_, fun h => ?_⟩
        · obtain ⟨p, hp, hq⟩ := List.any_eq_true.1 h
          simp only [Bool.and_eq_true] at hq
          exact List.any_eq_true.2 ⟨p, hp, by simp [hq.1]⟩
        · obtain ⟨p, hp, hq⟩ := List.any_eq_true.1 h
          simp only [Bool.and_eq_true] at hq
          refine List.any_eq_true.2 ⟨p, hp, ?_⟩
          rw [show bits listed p.1 = true from hL.1.2 p.1 (Nat.le_of_ble_eq_true (List.all_eq_true.1 hqn.2 p hp))]
          simp [hq.1]
      rw [this]
    rw [hm, hdep (bits listed) (fun _ => true) fun q hq => hL.1.2 q (Nat.le_of_ble_eq_true (List.all_eq_true.1 hqn.1 q hq))] at r'
    have := wpAnyIn_of_seq (Q' := Post E Q) (ops.drop n) n listed a' w' (fun j => by simp [List.getElem?_drop]) (by rw [hdl]; exact hL.1.1) (hL.2 ι a' w' r')
    rwa [hdl] at this) _ _ _ ι a _ inv0 (by rw [b0]; exact hS) r1 H0
  · rw [htl] at hh
    rwa [show n + (ops.toArray.size - n) = ops.toArray.size by simp; omega] at hh
  · have hun : listed.getD i true = false := (mem_ready.1 hi).1
    have hsz : i < listed.size := by
      rw [inv.size]
      have := (List.getElem?_eq_some_iff.1 ho).1
      simpa using this
    rw [bits_set hsz] at hk'
    obtain ⟨o', g1, g0, g2⟩ := hy
    have hoo : o' = o := by rw [ho] at g1; exact (Option.some.inj g1).symm
    subst hoo
    have hrdy : Rdy ops (bits listed) i o' := ⟨fun j o1 h1 hb p hp => aft_listed inv h1 hp hb, getD_both hun, fun p hp => aft_ready inv hi ho hp⟩
    have hmono : ∀ j, bits listed j = true → bset (bits listed) i j = true := fun j hj => bset_le hj
    have hlook : ∀ t' ∈ o'.looksAt ops.toArray, mask t.stale (bits listed) s t' = s t' := fun t' ht' => by
      unfold mask
      cases hc : t.stale.any (fun p => Nat.beq p.2 t' && bits listed p.1) with
      | false => rfl
      | true =>
        exfalso
        obtain ⟨p, hp, hq⟩ := List.any_eq_true.1 hc
        simp only [Bool.and_eq_true] at hq
        have h1 := List.all_eq_true.1 hlk i (List.mem_range.2 hin)
        simp only [ho] at h1
        have h2 := List.all_eq_true.1 h1 p hp
        have h3 : (o'.looksAt ops.toArray).any (Nat.beq p.2) = true := List.any_eq_true.2 ⟨t', ht', hq.1⟩
        rw [h3] at h2
        simp only [Bool.not_true, Bool.false_or, Bool.or_eq_true] at h2
        rcases h2 with h2 | h2
        · rw [Nat.eq_of_beq_eq_true h2] at hq
          rw [hrdy.2.1] at hq; exact absurd hq.2 (by simp)
        · split at h2
          · rename_i oq hoq
            have := hrdy.1 _ _ hoq hq.2 i h2
            rw [hrdy.2.1] at this; cases this
          · cases h2
    have hIN : INy t (bits listed) (mask t.stale (bits listed) s) := fun q k hm hb j hj => by
      unfold mask
      cases t.stale.any (fun p => Nat.beq p.2 j && bits listed p.1) with
      | true => rfl
      | false => exact hSl q k hm hb j hj
    rcases g2 with ⟨g2, hgd, g4⟩ | ⟨g2, g3⟩
    · have g := g4 (mask t.stale (bits listed) s) hlook (bits listed) hrdy hIN
      unfold wpOpIn
      simp only [List.getElem?_toArray, ho]
      rw [if_pos (awant_ok r ((awant_same hlook).trans hgd))]
      refine g ι a w r K' (Post E Q) fun st' ι' a' w' hst r' => ?_
      obtain ⟨ι2, r2⟩ := hst ι' a' w' r'
      rw [mask_pu hmono] at r2
      exact hk' ι2 a' w' r2
    · have hHs : t.H (bset (bits listed) i) = t.H (bits listed) := hdep _ _ fun q hq => by
        have hne : Nat.beq q i = false := by
          rw [List.any_eq_false] at g2
          exact Bool.eq_false_iff.2 (g2 q hq)
        unfold bset
        rw [hne]; rfl
      rw [hHs] at hk'
      refine wpOpIn_of_qA (J := J) (h := t.H (bits listed)) (K := fun s' => s' = pu (mask t.stale (bits listed) s) o'.dst x) hE r (fun s' a' w' r' hs' => ?_) ?_
      · subst hs'
        refine hk' ι a' w' ?_
        rw [← mask_pu hmono]
        exact RelS_mask _ _ r'
      · unfold qA
        simp only [ho]
        exact ⟨x, hdo, YA_same hlook (g3 _ hrdy), rfl⟩

variable {n i : Nat} {t : EffY} {K : Slots → Prop}
theorem HY_cons {o : Oper} (ho : ops[i]? = some o) (hi : Nat.ble (i + 1) n = true) {x : AV} (hd : dstOk E.N o.dst = true) (hy : YY t E ops J i s x) (hk : HYW t E ops J n (i + 1) K (pu s o.dst x)) : HYW t E ops J n i K s := by
  unfold HYW at *
  have hi' := Nat.le_of_ble_eq_true hi
  obtain ⟨hlt, rfl⟩ := List.getElem?_eq_some_iff.1 ho
  have hlt2 : i < (ops.take n).length := by simp; omega
  rw [List.drop_eq_getElem_cons hlt2, List.getElem_take]
  exact ⟨x, hd, hy, hk⟩
theorem HY_end (hk : K s) : HYW t E ops J n n K s := by
  unfold HYW
  rw [List.drop_eq_nil_of_le (by simp; omega)]
  exact hk
theorem HY_loc2 (hE : E.Good) {o : Oper} {R : AV} (ho : ops[i]? = some o) (hi : Nat.ble (i + 1) n = true) (hw : awant ops o s = some true) (hl : ∀ b, Rdy ops b i o → Loc E ops J (t.H b) o s R) {s' : Slots} (hs : putS E.N s o.dst R = some s') (hq : (t.qs.any fun q => Nat.beq q i) = false) (hnk : nkOk t i o R = true) (hk : HYW t E ops J n (i + 1) K s') : HYW t E ops J n i K s := by
  obtain ⟨hd, rfl⟩ := pu_of_putS hs
  exact HY_cons ho hi hd ⟨o, ho, hnk, .inr ⟨hq, fun b hb => .inl ⟨hw, LY_of_gives hE (hl b hb).1 fun Z K Y ι a w m hlk => (hl b hb).2 Z K Y ι a w m (look_ev hlk)⟩⟩⟩ hk
/-- One plain operation that hangs on h0 alone, which stands while it may come. -/
theorem HY_one (hE : E.Good) {o : Oper} {R : AV} {h0 : Heap} (more : ∀ b, Rdy ops b i o → ∀ j e, h0 j = some e → t.H b j = some e) (ho : ops[i]? = some o) (hi : Nat.ble (i + 1) n = true) (hw : awant ops o s = some true) (hR : stepPure E.T h0 s o.op = some R) {s' : Slots} (hs : putS E.N s o.dst R = some s') (hq : (t.qs.any fun q => Nat.beq q i) = false) (hnk : nkOk t i o R = true) (hk : HYW t E ops J n (i + 1) K s') : HYW t E ops J n i K s := by
  obtain ⟨hd, rfl⟩ := pu_of_putS hs
  exact HY_cons ho hi hd ⟨o, ho, hnk, .inr ⟨hq, fun b hb => .inl ⟨hw, LY_of_gives hE (stepPure_notDefer hR) fun Z K Y ι a w m hl => stepPure_ok (K := K) (J := J K Y Z) hE.ok.T m o (look_ev hl) (stepPure_more (more b hb) hR)⟩⟩⟩ hk
/-- An operation that isn't wanted. -/
theorem HY_skip (hE : E.Good) {o : Oper} (ho : ops[i]? = some o) (hi : Nat.ble (i + 1) n = true) (hw : awant ops o s = some false) {s' : Slots} (hs : putS E.N s o.dst (.tup []) = some s') (hq : (t.qs.any fun q => Nat.beq q i) = false) (hk : HYW t E ops J n (i + 1) K s') : HYW t E ops J n i K s := by
  obtain ⟨hd, rfl⟩ := pu_of_putS hs
  exact HY_cons ho hi hd ⟨o, ho, by unfold nkOk; rw [List.all_eq_true]; intro p _; simp [nokey, nokeys], .inr ⟨hq, fun b _ => .inr ⟨hw, rfl⟩⟩⟩ hk
def runPureY (E : Env) (t : EffY) (ops : List Oper) (h : Heap) : Nat → Nat → Slots → Option Slots
  | 0, _, s => some s
  | m + 1, i, s => match ops[i]? with
    | some o => match awant ops o s with
      | some true => match stepPure E.T h s o.op with
        | some R => bif nkOk t i o R then match putS E.N s o.dst R with
          | some s' => runPureY E t ops h m (i + 1) s'
          | none => none else none
        | none => none
      | some false => match putS E.N s o.dst (.tup []) with
        | some s' => runPureY E t ops h m (i + 1) s'
        | none => none
      | none => none
    | none => none
theorem HY_run (hE : E.Good) (m : Nat) {h0 : Heap} {s' : Slots} (more : ∀ b j e, h0 j = some e → t.H b j = some e) (hp : runPureY E t ops h0 m i s = some s') (hi : Nat.ble (i + m) n = true) (hq : (t.qs.all fun q => Nat.ble (i + m) q || Nat.ble (q + 1) i) = true)
    (hk : HYW t E ops J n (i + m) K s') : HYW t E ops J n i K s := by
  induction m generalizing i s with
  | zero => simp only [runPureY, Option.some.injEq] at hp; subst hp; exact hk
  | succ m ih =>
    have hi' := Nat.le_of_ble_eq_true hi
    have hi1 : Nat.ble (i + 1) n = true := Nat.ble_eq_true_of_le (by omega)
    have hi2 : Nat.ble (i + 1 + m) n = true := Nat.ble_eq_true_of_le (by omega)
    have a1 : (t.qs.any fun q => Nat.beq q i) = false := by
      rw [List.any_eq_false]
      intro q hm hb
      have := List.all_eq_true.1 hq q hm
      have e := Nat.eq_of_beq_eq_true hb
      subst e
      simp only [Bool.or_eq_true] at this
      rcases this with h | h <;> have := Nat.le_of_ble_eq_true h <;> omega
    have a2 : (t.qs.all fun q => Nat.ble (i + 1 + m) q || Nat.ble (q + 1) (i + 1)) = true := by
      rw [List.all_eq_true] at hq ⊢
      intro q hm
      have := hq q hm
      simp only [Bool.or_eq_true] at this ⊢
      rcases this with h | h
      · have := Nat.le_of_ble_eq_true h
        exact .inl (Nat.ble_eq_true_of_le (by omega))
      · have := Nat.le_of_ble_eq_true h
        exact .inr (Nat.ble_eq_true_of_le (by omega))
    simp only [runPureY] at hp
    split at hp
    · rename_i o ho
      split at hp
      · rename_i hw
        split at hp
        · rename_i R hR
          cases hnk : nkOk t i o R with
          | false => rw [hnk] at hp; cases hp
          | true =>
            rw [hnk] at hp
            simp only [cond_true] at hp
            split at hp
            · rename_i s1 hs1
              refine HY_one hE (fun b _ => more b) ho hi1 hw hR hs1 a1 hnk (ih (i := i + 1) (s := s1) hp hi2 a2 ?_)
              rwa [show i + 1 + m = i + (m + 1) by omega]
            · cases hp
        · cases hp
      · rename_i hw
        split at hp
        · rename_i s1 hs1
          refine HY_skip hE ho hi1 hw hs1 a1 (ih (i := i + 1) (s := s1) hp hi2 a2 ?_)
          rwa [show i + 1 + m = i + (m + 1) by omega]
        · cases hp
      · cases hp
    · cases hp
theorem HY_as (d : Nat) (v : AV) (hs : s d = v) (hk : HYW t E ops J n i K (sset s d v)) : HYW t E ops J n i K s := by rwa [sset_self hs] at hk
/-- An effect. -/
theorem HY_eff {o : Oper} {x : AV} (ho : ops[i]? = some o) (hi : Nat.ble (i + 1) n = true) (hgd : o.guard = none) (hq : (t.qs.any fun q => Nat.beq q i) = true) (hnk : nkOk t i o x = true) {s' : Slots} (hs : putS E.N s o.dst x = some s')
    (hg : ∀ s1, (∀ t ∈ o.looksAt ops.toArray, s1 t = s t) → ∀ b, Rdy ops b i o → INy t b s1 → OW E [o] 0 (fun e st' => e = .normal ∧ LE E st' ⟨J, mask t.stale (bset b i) (pu s1 o.dst x), t.H (bset b i)⟩) ⟨J, s1, t.H b⟩) (hk : HYW t E ops J n (i + 1) K s') : HYW t E ops J n i K s := by
  obtain ⟨hd, rfl⟩ := pu_of_putS hs
  exact HY_cons ho hi hd ⟨o, ho, hnk, .inl ⟨hq, by simp [awant, hgd], fun s1 hs1 b hb hI => opG_of_OW hgd (hg s1 hs1 b hb hI)⟩⟩ hk
theorem LE_mask (mk : List (Nat × Nat)) (b : Nat → Bool) : LE E ⟨J, s, h⟩ ⟨J, mask mk b s, h⟩ := fun ι a w r => ⟨ι, RelS_mask mk b r⟩
/-- 'append' to nothing: a row of the frame's own. -/
theorem HY_appendNil (hE : E.Good) (key : Nat) {o : Oper} {ty e : TypeId} {so xo : Operand} {sz : Nat} {ys : List (List D)} (ho : ops[i]? = some o) (hi : Nat.ble (i + 1) n = true) (hop : o.op = .call ⟨.builtin .append, #[so, xo], #[ty, ty]⟩) (hgd : o.guard = none) (hq : (t.qs.any fun q => Nat.beq q i) = true) (hnk : nkOk t i o (.row key) = true)
    {z1 z2 : Nat} {z3 : List Value} (ht : E.T ty = some ⟨.slice e, z1, z2, z3⟩) {k : TK} {bts : Nat} {z6 : List Value} (hte : E.T e = some ⟨k, sz, bts, z6⟩) (hpos : Nat.ble 1 sz = true) (hso : ev s so = .d (.lit (.slice none 0 0))) (hxo : ev s xo = .d (.sl sz bts ys) ∨ (ev s xo = .d (.lit (.slice none 0 0)) ∧ ys = []))
    (hn : ys.length ≤ 140737488355328) (hb : ys.length * bts ≤ 140737488355328) {s' : Slots} (hs : putS E.N s o.dst (.row key) = some s') (hfree : ∀ b, Rdy ops b i o → t.H b key = none) (heq : ∀ b, Rdy ops b i o → hset (t.H b) key (some (.row e sz ys)) = t.H (bset b i)) (hk : HYW t E ops J n (i + 1) K s') : HYW t E ops J n i K s := by
  have hd := (pu_of_putS hs).1
  refine HY_eff ho hi hgd hq hnk hs (fun s1 hs1 b hbr _ => ?_) hk
  have e1 : ev s1 so = ev s so := ev_look hs1 (by rw [hop]; simp [Op.operands, Call.operands])
  have e2 : ev s1 xo = ev s xo := ev_look hs1 (by rw [hop]; simp [Op.operands, Call.operands])
  exact OW_appendNil' hE key (o := o) rfl hop (by simp [awant, hgd]) (hfree b hbr) ht hte hpos (e1.trans hso) (by rw [e2]; exact hxo) hn hb (putS_pu hd) (OW_end rfl ⟨rfl, by rw [← heq b hbr]; exact LE_mask _ _⟩)
theorem unk_nokey {k : Nat} {x : AV} (h : nokey k x = true) : unk k x = x := by unfold unk; rw [h]; rfl
theorem LE_any {E : Env} {J : Jt} {s s' : Slots} {h : Heap} (hs : ∀ j, s' j = s j ∨ s' j = .any) : LE E ⟨J, s, h⟩ ⟨J, s', h⟩ := fun ι a w ⟨Z, K, Y, hZ, r⟩ =>
  ⟨ι, Z, K, Y, hZ, r.mem, r.size, fun j => by rcases hs j with e | e <;> (show RA _ (s' j) _); · rw [e]; exact r.slot j
                                              · rw [e]; trivial, r.ds⟩
/-- 'append' to a row of the frame's own; the slots that held it ahead of that are told no more. -/
theorem HY_append (hE : E.Good) {key : Nat} {o : Oper} {ty e : TypeId} {so xo : Operand} {sz : Nat} {xs ys : List (List D)} (ho : ops[i]? = some o) (hi : Nat.ble (i + 1) n = true) (hop : o.op = .call ⟨.builtin .append, #[so, xo], #[ty, ty]⟩) (hgd : o.guard = none) (hq : (t.qs.any fun q => Nat.beq q i) = true) (hnk : nkOk t i o (.row key) = true) (hink : (t.nk.any fun p => Nat.beq p.1 i && Nat.beq p.2 key) = true)
    {z1 z2 : Nat} {z3 : List Value} (ht : E.T ty = some ⟨.slice e, z1, z2, z3⟩) {k : TK} {bts : Nat} {z6 : List Value} (hte : E.T e = some ⟨k, sz, bts, z6⟩) (hpos : Nat.ble 1 sz = true) (hso : ev s so = .row key) (hxo : ev s xo = .d (.sl sz bts ys) ∨ (ev s xo = .d (.lit (.slice none 0 0)) ∧ ys = []))
    (hn : xs.length + ys.length ≤ 140737488355328) (hb : (xs.length + ys.length) * bts ≤ 140737488355328) {s' : Slots} (hs : putS E.N s o.dst (.row key) = some s') (hkey : ∀ b, Rdy ops b i o → t.H b key = some (.row e sz xs)) (heq : ∀ b, Rdy ops b i o → hset (unkH key (t.H b)) key (some (.row e sz (xs ++ ys))) = t.H (bset b i)) (hk : HYW t E ops J n (i + 1) K s') : HYW t E ops J n i K s := by
  have hd := (pu_of_putS hs).1
  refine HY_eff ho hi hgd hq hnk hs (fun s1 hs1 b hbr hI => ?_) hk
  have e1 : ev s1 so = ev s so := ev_look hs1 (by rw [hop]; simp [Op.operands, Call.operands])
  have e2 : ev s1 xo = ev s xo := ev_look hs1 (by rw [hop]; simp [Op.operands, Call.operands])
  refine OW_append' hE (key := key) (o := o) rfl hop (by simp [awant, hgd]) ht hte hpos (e1.trans hso) (hkey b hbr) (by rw [e2]; exact hxo) hn hb (s' := pu (unkS key s1) o.dst (.row key)) (putS_pu hd) (OW_end rfl ⟨rfl, ?_⟩)
  rw [← heq b hbr]
  refine LE_any fun j => ?_
  obtain ⟨p, hp, hpq⟩ := List.any_eq_true.1 hink
  simp only [Bool.and_eq_true] at hpq
  have hp1 := Nat.eq_of_beq_eq_true hpq.1
  have hp2 := Nat.eq_of_beq_eq_true hpq.2
  have hm : (i, key) ∈ t.nk := by rw [← hp1, ← hp2]; exact hp
  unfold mask
  cases hc : t.stale.any (fun p => Nat.beq p.2 j && bset b i p.1) with
  | true => exact .inr rfl
  | false =>
    left
    simp only [cond_false]
    have hmj : mkIn t.stale i j = false := by
      cases hq : mkIn t.stale i j with
      | false => rfl
      | true =>
        obtain ⟨p', hp', hq'⟩ := List.any_eq_true.1 hq
        simp only [Bool.and_eq_true] at hq'
        have := List.any_eq_false.1 hc p' hp'
        rw [hq'.2, Nat.eq_of_beq_eq_true hq'.1, bset_self] at this
        exact absurd rfl this
    have hnj := hI i key hm hbr.2.1 j hmj
    cases hdd : o.dst with
    | none => exact (unk_nokey hnj).symm
    | some d =>
      by_cases hjd : j = d
      · subst hjd; simp only [pu, sset_same]
      · simp only [pu]; rw [sset_ne _ _ hjd, sset_ne _ _ hjd]; exact (unk_nokey hnj).symm
end
end Go.AL
/- AL, part 72: a variable told with less; an own row appended to an own row. -/
namespace Go.AL
set_option linter.unusedVariables false
set_option linter.unusedSimpArgs false
theorem LE_slotLe {E : Env} {J : Jt} {s : Slots} {h : Heap} (d : Nat) {x y : AV} (hs : s d = x) (hl : AVle x y) : LE E ⟨J, s, h⟩ ⟨J, sset s d y, h⟩ := fun ι a w ⟨Z, K, Y, hZ, r⟩ =>
  ⟨ι, Z, K, Y, hZ, r.mem, r.size, fun i => by
    by_cases hi : i = d
    · subst hi
      show RA _ (sset s i y i) _
      rw [sset_same]
      exact hl _ _ (hs ▸ r.slot i)
    · show RA _ (sset s d y i) _
      rw [sset_ne _ _ hi]
      exact r.slot i, r.ds⟩
end Go.AL
/- AL, part 64: calls that read what is the frame's own and give parts of it as data; rows that grow in a drawn head, told by what has come up. -/
namespace Go.AL
set_option linter.unusedVariables false
set_option linter.unusedSimpArgs false
section
variable {E : Env} {ops : List Oper} {Q : Exit → St → Prop} {i : Nat} {J : Jt} {s : Slots} {h : Heap}
end
section
variable {E : Env} {ops : List Oper} {J : Jt} {s : Slots} {n i : Nat} {t : Eff} {K : Slots → Prop}
end
/-! ### rows that grow -/
structure Gw where
  q1 : Nat
  q2 : Nat
  key : Nat
  e : TypeId
  sz : Nat
  xs : List (List D)
  ys : List (List D)
def gwE (g : Gw) (b : Nat → Bool) : Option Ent := bif b g.q2 then some (.row g.e g.sz (g.xs ++ g.ys)) else bif b g.q1 then some (.row g.e g.sz g.xs) else none
theorem gw_dep {g : Gw} {b b' : Nat → Bool} (h1 : b g.q1 = b' g.q1) (h2 : b g.q2 = b' g.q2) : gwE g b = gwE g b' := by unfold gwE; rw [h1, h2]
theorem gw_0 {g : Gw} {b : Nat → Bool} (h1 : b g.q1 = false) (h2 : b g.q2 = false) : gwE g b = none := by unfold gwE; rw [h1, h2]; rfl
theorem gw_1 {g : Gw} {b : Nat → Bool} (h1 : b g.q1 = true) (h2 : b g.q2 = false) : gwE g b = some (.row g.e g.sz g.xs) := by unfold gwE; rw [h1, h2]; rfl
theorem gw_2 {g : Gw} {b : Nat → Bool} (h2 : b g.q2 = true) : gwE g b = some (.row g.e g.sz (g.xs ++ g.ys)) := by unfold gwE; rw [h2]; rfl
theorem gw_unk (g : Gw) (b : Nat → Bool) (k : Nat) : (match gwE g b with | some e => some (unkE k e) | none => none) = gwE g b := by
  unfold gwE
  cases b g.q2 with
  | true => rfl
  | false => cases b g.q1 <;> rfl
theorem unkH_hset (k : Nat) (h : Heap) (j : Nat) (o : Option Ent) : unkH k (hset h j o) = hset (unkH k h) j (match o with | some e => some (unkE k e) | none => none) := by
  funext q
  by_cases hq : q = j
  · subst hq; unfold unkH; rw [hset_same, hset_same]; cases o <;> rfl
  · unfold unkH; rw [hset_ne _ _ hq, hset_ne _ _ hq]
def cleanE (k : Nat) : Ent → Bool
  | .box _ cs => cs.all (nokey k)
  | .row _ _ _ => true
  | .ghost cs _ => cs.all (nokey k)
  | .rowA _ _ _ cs => cs.all (nokey k)
theorem unk_all {k : Nat} : ∀ {cs : List AV}, cs.all (nokey k) = true → cs.map (unk k) = cs
  | [], _ => rfl
  | x :: cs, h => by
    simp only [List.all_cons, Bool.and_eq_true] at h
    rw [List.map_cons, unk_nokey h.1, unk_all h.2]
theorem clean_unk {k : Nat} {e : Ent} (h : cleanE k e = true) : unkE k e = e := by
  cases e with
  | box t cs => simp only [unkE]; rw [unk_all h]
  | row e sz xs => rfl
  | ghost cs vs => simp only [unkE]; rw [unk_all h]
  | rowA e sz n cs => simp only [unkE]; rw [unk_all h]
def cleanL (k : Nat) (l : List (Nat × Ent)) : Bool := l.all fun x => cleanE k x.2
theorem clean_heap {k : Nat} : ∀ {l : List (Nat × Ent)}, cleanL k l = true → unkH k (heapOf l) = heapOf l
  | [], _ => rfl
  | (j, e) :: l, h => by
    simp only [cleanL, List.all_cons, Bool.and_eq_true] at h
    show unkH k (hset (heapOf l) j (some e)) = hset (heapOf l) j (some e)
    rw [unkH_hset, clean_heap (l := l) h.2]
    show hset (heapOf l) j (some (unkE k e)) = _
    rw [clean_unk h.1]
/-- Two rows grow, one of them is put into a variable. -/
structure Tw where
  l : List (Nat × Ent)
  g1 : Gw
  g2 : Gw
  kb : Nat
  q3 : Nat
  e0 : Ent
  e1 : Ent
def Tw.H (t : Tw) (b : Nat → Bool) : Heap := hset (hset (hset (heapOf t.l) t.g1.key (gwE t.g1 b)) t.g2.key (gwE t.g2 b)) t.kb (some (bif b t.q3 then t.e1 else t.e0))
structure Tw.Ok (t : Tw) : Prop where
  n12 : t.g1.key ≠ t.g2.key
  n1b : t.g1.key ≠ t.kb
  n2b : t.g2.key ≠ t.kb
  c1 : cleanL t.g1.key t.l = true
  c2 : cleanL t.g2.key t.l = true
  d1 : cleanE t.g1.key t.e0 = true
  d2 : cleanE t.g2.key t.e0 = true
  d3 : cleanE t.g2.key t.e1 = true
section
variable {t : Tw} {b b' : Nat → Bool}
theorem Tw.dep (h1 : b t.g1.q1 = b' t.g1.q1) (h2 : b t.g1.q2 = b' t.g1.q2) (h3 : b t.g2.q1 = b' t.g2.q1) (h4 : b t.g2.q2 = b' t.g2.q2) (h5 : b t.q3 = b' t.q3) : t.H b = t.H b' := by
  unfold Tw.H; rw [gw_dep h1 h2, gw_dep h3 h4, h5]
theorem Tw.atb : t.H b t.kb = some (bif b t.q3 then t.e1 else t.e0) := by unfold Tw.H; rw [hset_same]
theorem Tw.put3 {x : Option Ent} (hx : x = some (bif b' t.q3 then t.e1 else t.e0)) (h1 : gwE t.g1 b = gwE t.g1 b') (h2 : gwE t.g2 b = gwE t.g2 b') : hset (t.H b) t.kb x = t.H b' := by
  unfold Tw.H
  rw [hset_hset, hx, h1, h2]
theorem Tw.more (h : ∀ x ∈ t.l, x.1 ≠ t.g1.key ∧ x.1 ≠ t.g2.key ∧ x.1 ≠ t.kb) : ∀ (b : Nat → Bool) j e, heapOf t.l j = some e → t.H b j = some e := fun b j e hj => by
  have := h _ (heapOf_mem hj)
  unfold Tw.H
  rw [hset_ne _ _ this.2.2, hset_ne _ _ this.2.1, hset_ne _ _ this.1]
  exact hj
end
theorem bset_at (b : Nat → Bool) (i j : Nat) (h : Nat.beq j i = false) : bset b i j = b j := by unfold bset; rw [h]; rfl
/-- What hangs on i can't have come up ahead of it. -/
theorem not_yet {ops : List Oper} {b : Nat → Bool} {i j : Nat} {o oj : Oper} (hr : Rdy ops b i o) (hj : ops[j]? = some oj) (ha : aft oj i = true) : b j = false := by
  cases h : b j with
  | false => rfl
  | true => have := hr.1 j oj hj h i ha; rw [hr.2.1] at this; cases this
/-! ### the steps of two rows that grow -/
section
variable {t : Tw} {b : Nat → Bool} {ops : List Oper} {o o2 o3 : Oper}
def Tw.qs (t : Tw) : List Nat := [t.g1.q1, t.g1.q2, t.g2.q1, t.g2.q2, t.q3]
theorem beq_ne {i j : Nat} (h : i ≠ j) : Nat.beq i j = false := Bool.eq_false_iff.2 fun h' => h (Nat.eq_of_beq_eq_true h')
theorem Tw.put (hd : t.qs.Nodup) (hr : Rdy ops b t.q3 o) : t.H b t.kb = some t.e0 ∧ hset (t.H b) t.kb (some t.e1) = t.H (bset b t.q3) := by
  simp only [Tw.qs, List.nodup_cons, List.mem_cons, List.not_mem_nil, not_or, or_false] at hd
  refine ⟨by rw [Tw.atb, hr.2.1]; rfl, Tw.put3 (by rw [bset_self]; rfl) (gw_dep (bset_at _ _ _ (beq_ne hd.1.2.2.2)).symm (bset_at _ _ _ (beq_ne hd.2.1.2.2)).symm) (gw_dep (bset_at _ _ _ (beq_ne hd.2.2.1.2)).symm (bset_at _ _ _ (beq_ne hd.2.2.2.1)).symm)⟩
theorem Tw.start (h : t.Ok) (h1 : heapOf t.l t.g1.key = none) (h2 : heapOf t.l t.g2.key = none) : t.H (fun _ => false) = hset (heapOf t.l) t.kb (some t.e0) := by
  unfold Tw.H
  rw [gw_0 rfl rfl, gw_0 rfl rfl, hset_none h1, hset_none h2]; rfl
end
section
variable {E : Env} {ops : List Oper} {J : Jt} {s : Slots} {h : Heap}
end
end Go.AL
/- AL, part 67: rows that a call hands over, in a drawn head; what is the frame's own, lent there. -/
namespace Go.AL
set_option linter.unusedVariables false
set_option linter.unusedSimpArgs false
section
variable {E : Env} {ops : List Oper} {J : Jt} {t : EffY} {n i : Nat} {K : Slots → Prop} {s : Slots}
end
/-! ### one row that grows, and is lent -/
structure Tgl where
  l : List (Nat × Ent)
  g : Gw
  q3 : Nat
def Tgl.H (t : Tgl) (b : Nat → Bool) : Heap := hset (heapOf t.l) t.g.key (gwE t.g b)
def Tgl.qs (t : Tgl) : List Nat := [t.g.q1, t.g.q2, t.q3]
section
variable {t : Tgl} {b b' : Nat → Bool} {ops : List Oper} {o o2 : Oper}
theorem Tgl.dep (h1 : b t.g.q1 = b' t.g.q1) (h2 : b t.g.q2 = b' t.g.q2) : t.H b = t.H b' := by unfold Tgl.H; rw [gw_dep h1 h2]
theorem Tgl.atg : t.H b t.g.key = gwE t.g b := by unfold Tgl.H; rw [hset_same]
theorem Tgl.new (hd : t.qs.Nodup) (hr : Rdy ops b t.g.q1 o) (ho2 : ops[t.g.q2]? = some o2) (ha : aft o2 t.g.q1 = true) : t.H b t.g.key = none ∧ hset (t.H b) t.g.key (some (.row t.g.e t.g.sz t.g.xs)) = t.H (bset b t.g.q1) := by
  simp only [Tgl.qs, List.nodup_cons, List.mem_cons, List.not_mem_nil, not_or, or_false] at hd
  have n2 := not_yet hr ho2 ha
  refine ⟨Tgl.atg.trans (gw_0 hr.2.1 n2), ?_⟩
  unfold Tgl.H
  rw [hset_hset, gw_1 (bset_self _ _) ((bset_at _ _ _ (beq_ne (Ne.symm hd.1.1))).trans n2)]
theorem Tgl.more (hd : t.qs.Nodup) (hc : cleanL t.g.key t.l = true) (hr : Rdy ops b t.g.q2 o) (ha : aft o t.g.q1 = true) : t.H b t.g.key = some (.row t.g.e t.g.sz t.g.xs) ∧ hset (unkH t.g.key (t.H b)) t.g.key (some (.row t.g.e t.g.sz (t.g.xs ++ t.g.ys))) = t.H (bset b t.g.q2) := by
  refine ⟨Tgl.atg.trans (gw_1 (hr.2.2 _ ha) hr.2.1), ?_⟩
  unfold Tgl.H
  rw [unkH_hset, clean_heap hc, gw_unk, hset_hset, gw_2 (bset_self _ _)]
theorem Tgl.lent (hd : t.qs.Nodup) (hr : Rdy ops b t.q3 o) (ha : aft o t.g.q2 = true) : t.H b t.g.key = some (.row t.g.e t.g.sz (t.g.xs ++ t.g.ys)) ∧ t.H b = t.H (bset b t.q3) := by
  simp only [Tgl.qs, List.nodup_cons, List.mem_cons, List.not_mem_nil, not_or, or_false] at hd
  exact ⟨Tgl.atg.trans (gw_2 (hr.2.2 _ ha)), Tgl.dep (bset_at _ _ _ (beq_ne hd.1.2)).symm (bset_at _ _ _ (beq_ne hd.2.1)).symm⟩
theorem Tgl.start (h1 : heapOf t.l t.g.key = none) : t.H (fun _ => false) = heapOf t.l := by
  unfold Tgl.H
  rw [gw_0 rfl rfl, hset_none h1]
theorem Tgl.keep (h : ∀ x ∈ t.l, x.1 ≠ t.g.key) : ∀ (b : Nat → Bool) j e, heapOf t.l j = some e → t.H b j = some e := fun b j e hj => by
  have := h _ (heapOf_mem hj)
  unfold Tgl.H
  rw [hset_ne _ _ this]
  exact hj
end
end Go.AL
