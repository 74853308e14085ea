/- Parts of an abstract logic over the kit's walks, and walks in it: A50, A51. -/
import Derived.Test.YtjiknbjkbakegaaDoorAe
/- AL, part 50: quotients; text out of bytes that are data. -/
namespace Go.AL
set_option linter.unusedVariables false
set_option linter.unusedSimpArgs false
section
variable {E : Env} {ops : List Oper} {J : Jt} {h : Heap} {s : Slots}
/-- 'a / b' of unsigned numbers, b not nought. -/
theorem loc_quoU (hE : E.Good) {o : Oper} {t yt : TypeId} {xo yo : Operand} (hop : o.op = .binOp .quo t xo yo yt) {n m : Nat} (hx : ev s xo = .d (.lit (.int .u64 n))) (hy : ev s yo = .d (.lit (.int .u64 m))) (hm : m ≠ 0) : Loc E ops J h o s (.d (.lit (.int .u64 ((n / m : Nat) : Int)))) := by
  refine ⟨(by rw [hop]; intro c hc; cases hc), fun Z K Y ι ac w mm hl => ?_⟩
  obtain ⟨dst, op, ty, pos, af, gd⟩ := o
  simp only at hop
  subst hop
  have h1 := hl xo (by simp [Op.operands])
  have h2 := hl yo (by simp [Op.operands])
  rw [hx] at h1
  rw [hy] at h2
  obtain ⟨e1, o1⟩ := RA_lit.1 h1
  obtain ⟨e2, o2⟩ := RA_lit.1 h2
  have hg : (eqGuard .quo t xo yo (.int .u64 n) (.int .u64 m)).run E.P w = .ok () w := by
    unfold eqGuard; split <;> simp
  simp only [okLit] at o1
  have hmin : IntKind.u64.min = 0 := rfl
  have hmax : IntKind.u64.max = 18446744073709551615 := rfl
  obtain ⟨z, hz⟩ : ∃ z, n / m = z := ⟨_, rfl⟩
  have hzn : z ≤ n := by rw [← hz]; exact Nat.div_le_self n m
  have hd : (n : Int).tdiv m = ((z : Nat) : Int) := by rw [← hz, Int.ofNat_tdiv]
  have hw : IntKind.u64.wrap ((z : Nat) : Int) = ((z : Nat) : Int) := wrap_id _ _ (by rw [hmin]; omega) (by omega)
  rw [hz]
  refine ⟨.int .u64 ((z : Nat) : Int), w, ?_, Grew.refl w, RA_lit_mk ?_⟩
  · simp only [execOp, e1, e2, Sem.run_bind, hg, Result.andThen_ok]
    have h0 : ((m : Nat) : Int) ≠ 0 := by omega
    simp only [binOp, Op.intDiv, if_neg h0, hd, hw]
    rfl
  · show IntKind.u64.min ≤ ((z : Nat) : Int) ∧ ((z : Nat) : Int) ≤ IntKind.u64.max
    omega
theorem bytes_cells {w : World} {M : Nat → Prop} {b : Nat} : ∀ {bs : List UInt8} {off : Nat}, RCs w M b 1 (bytesD bs) off → ∀ q (hq : q < bs.length), w.cell? ⟨b, off + q, none⟩ = some (.int .u8 (bs[q]'hq).toNat)
  | [], off, _, q, hq => by simp at hq
  | x :: bs, off, h, q, hq => by
    simp only [bytesD, List.map_cons, RCs, RC] at h
    obtain ⟨_, ⟨⟨v, h1, h2⟩, _⟩, h3⟩ := h
    cases q with
    | zero =>
      simp only [RD] at h2
      obtain ⟨rfl, _⟩ := h2
      exact h1
    | succ q =>
      have := bytes_cells (bs := bs) h3 q (by simpa using hq)
      rw [show off + (q + 1) = off + 1 + q by omega]
      simpa using this
/-- A text out of bytes that nobody writes. -/
theorem loc_bytesD (hE : E.Good) {o : Oper} {t dt e : TypeId} {xo : Operand} (hop : o.op = .convert t dt xo) {z1 z2 : Nat} {z3 : List Value} (ht : E.T t = some ⟨.slice e, z1, z2, z3⟩) {y1 y2 : Nat} {y3 : List Value} (hte : E.T e = some ⟨.int .u8, y1, y2, y3⟩)
    {x1 x2 : Nat} {x3 : List Value} (htd : E.T dt = some ⟨.str, x1, x2, x3⟩) {bs : List UInt8} {xs : List (List D)} (hx : ev s xo = .d (.sl 1 1 xs)) (hbs : xs = bytesD bs) : Loc E ops J h o s (.d (.lit (.string ⟨bs.toArray⟩))) := by
  subst hbs
  refine ⟨(by rw [hop]; intro c hc; cases hc), fun Z K Y ι a w m hl => ?_⟩
  obtain ⟨dst, op, ty, pos, af, gd⟩ := o
  simp only at hop
  subst hop
  have h1 := hl xo (by simp [Op.operands])
  rw [hx] at h1
  simp only [RA, RD] at h1
  obtain ⟨ad, cap, e1, hcap, _, h4, hd⟩ := h1
  have hu := (hE.ok.T t _ ht).2
  have hu2 := (hE.ok.T e _ hte).2
  have hu3 := (hE.ok.T dt _ htd).2
  simp only [TK.fits] at hu hu2 hu3
  have hlen : (bytesD bs).length = bs.length := by simp [bytesD]
  rw [hlen] at e1 hcap h4
  have hok : okLit (.string ⟨bs.toArray⟩) := by
    show bs.toArray.size ≤ _
    simpa using h4
  refine ⟨.string ⟨bs.toArray⟩, w, ?_, Grew.refl w, RA_lit_mk hok⟩
  rcases hd with hd | ⟨b, off, rfl, _, _, hc⟩
  · have hb0 : bs = [] := List.eq_nil_of_length_eq_zero (by rw [← hlen, hd]; rfl)
    subst hb0
    simp only [execOp, Sem.run_bind, e1, run_convert_bytes_string w t dt e ad 0 cap hu hu2 hu3, List.length_nil]
    cases ad <;> simp [Conv.bytesToString, loadCells, loadCellsFrom] <;> rfl
  · have hr := run_convert_bytes_arg (P := E.P) w t e hu hu2 b off bs.length cap (bs.map fun b => (b.toNat : Int)) (by simp) (fun q hq => by
      rw [bytes_cells hc q (by simpa using hq)]
      simp [List.getD, (by simpa using hq : q < bs.length)]) dt hu3
    simp only [execOp, Sem.run_bind, e1, hr]
    simp [strOfNums]
    congr 2
    apply List.ext_getElem (by simp)
    intro q h1 h2
    simp
end
end Go.AL
/- AL, part 51: A42's heads with one store more, into a variable that the head itself has made. -/
namespace Go.AL
set_option linter.unusedVariables false
set_option linter.unusedSimpArgs false
/-- Operation g2 fills what operation g1 has laid under k. -/
structure Upd where
  g1 : Nat
  g2 : Nat
  k : Nat
  e1 : Ent
  e2 : Ent
def HU (h : Heap) (b : Nat → Bool) (l : Effs) (u : Upd) : Heap := bif b u.g2 then hset (HG h b l) u.k (some u.e2) else HG h b l
def HUt (h : Heap) (l : Effs) (u : Upd) : Heap := hset (HGt h l) u.k (some u.e2)
theorem HG_at {h : Heap} {b : Nat → Bool} {i k : Nat} {e : Ent} (hi : b i = true) : ∀ {l : Effs}, distinctB (keysOf l) = true → (i, k, e) ∈ l → HG h b l k = some e
  | (i', k', e') :: r, h2, hm => by
    have n2 := distinct_not h2
    rcases List.mem_cons.1 hm with hm | hm
    · cases hm
      simp only [HG]
      rw [hi, hset_same]; rfl
    · have hnk : k ≠ k' := fun e => n2 (e ▸ mem_keysOf hm)
      simp only [HG]
      rw [hset_ne _ _ hnk]
      exact HG_at hi (distinct_tail h2) hm
theorem key_op {l : Effs} {i i' k : Nat} {e e' : Ent} : distinctB (keysOf l) = true → (i, k, e) ∈ l → (i', k, e') ∈ l → i = i' := by
  induction l with
  | nil => intro _ h; cases h
  | cons x r ih =>
    obtain ⟨a, c, d⟩ := x
    intro h2 h h'
    have n2 := distinct_not h2
    rcases List.mem_cons.1 h with hA | hA <;> rcases List.mem_cons.1 h' with hB | hB
    · cases hA; cases hB; rfl
    · cases hA; exact (n2 (mem_keysOf hB)).elim
    · cases hB; exact (n2 (mem_keysOf hA)).elim
    · exact ih (distinct_tail h2) hA hB
def YU (h : Heap) (l : Effs) (u : Upd) (E : Env) (ops : List Oper) (J : Jt) (i : Nat) (s : Slots) (x : AV) : Prop :=
  (∃ k e o, (i, k, e) ∈ l ∧ i ≠ u.g2 ∧ ops[i]? = some o ∧ Lays E ops J (fun b => HU h b l u) i o s x k e) ∨
  (i = u.g2 ∧ ∃ o, ops[i]? = some o ∧ o.guard = none ∧ ∀ s1 H, (∀ t ∈ o.looksAt ops.toArray, s1 t = s t) → H u.k = some u.e1 → OpG E o ⟨J, s1, H⟩ (fun st' => st' = ⟨J, pu s1 o.dst x, hset H u.k (some u.e2)⟩)) ∨
  (i ∉ opsOf l ∧ i ≠ u.g2 ∧ ∃ o, ops[i]? = some o ∧ ∀ b, YA E ops J (HU h b l u) o s x)
def HUW (h : Heap) (l : Effs) (u : Upd) (E : Env) (ops : List Oper) (J : Jt) (n i : Nat) (K : Slots → Prop) (s : Slots) : Prop := QB E (YU h l u E ops J) K ((ops.take n).drop i) i s

section
variable {E : Env} {ops : List Oper} {Q : Exit → St → Prop} {J : Jt} {s : Slots} {h : Heap}
theorem inv_ready {n i : Nat} {o : Oper} {listed : Array Bool} (inv : HeadInv .any ops.toArray n listed) (hi : i ∈ Region.ready .any ops.toArray listed) (ho : ops[i]? = some o) {e : Edge} (he : e ∈ o.after) (hb : Region.binds .any e = true) : bits listed e.on = true := by
  obtain ⟨_, o', ho', hall⟩ := mem_ready.1 hi
  have hoo : o' = o := by
    rw [List.getElem?_toArray, ho] at ho'
    exact (Option.some.inj ho').symm
  subst hoo
  exact hall e he hb
theorem CW_drawnU (hE : E.Good) (n : Nat) (l : Effs) (u : Upd) {id : Nat} (hB : Region.lexTailB .any ops.toArray n = true)
    (hl : ((opsOf l).all (fun i => Nat.ble (i + 1) n) && distinctB (opsOf l) && distinctB (keysOf l) && freshK h l) = true)
    (hu : (u.g1, u.k, u.e1) ∈ l) (hg : ((opsOf l).all (fun i => !Nat.beq u.g2 i) && Nat.ble (u.g2 + 1) n) = true) {o2 : Oper} (ho2 : ops[u.g2]? = some o2) (haf : (o2.after.any fun e => Region.binds .any e && Nat.beq e.on u.g1) = true)
    (hq : HUW h l u E ops J n 0 (fun s => OW E ops n Q ⟨J, s, HUt h l u⟩) s) : CW E (.region id ops.toArray true) Q ⟨J, s, h⟩ := fun ι a w r => by
  simp only [Bool.and_eq_true, List.all_eq_true] at hl
  obtain ⟨⟨⟨hl1, hl2⟩, hl3⟩, hl4⟩ := hl
  simp only [Bool.and_eq_true, List.all_eq_true] at hg
  have g2out : u.g2 ∉ opsOf l := fun hm => by have := hg.1 _ hm; simp at this
  have g2lt : u.g2 < n := Nat.le_of_ble_eq_true hg.2
  obtain ⟨ea, hem, hea⟩ := Array.any_eq_true'.1 haf
  simp only [Bool.and_eq_true] at hea
  have hon : ea.on = u.g1 := Nat.eq_of_beq_eq_true hea.2
  have g12 : u.g1 ≠ u.g2 := fun e => g2out (e ▸ mem_opsOf hu)
  simp only [Region.lexTailB, Bool.and_eq_true, decide_eq_true_eq] at hB
  obtain ⟨⟨⟨⟨hsel, hn⟩, hs⟩, hc⟩, hlex⟩ := hB
  have hn' : n < ops.length := by simpa using hn
  have htl : (ops.take n).length = n := by simp; omega
  have hdl : (ops.drop n).length = ops.toArray.size - n := by simp
  have inv0 : HeadInv .any ops.toArray n (Array.replicate ops.toArray.size false) :=
    ⟨by simp, fun j oj _ hl => (by rw [getD_replicate_false] at hl; cases hl), fun t _ ht => getD_in (by simpa using ht) (getD_replicate_false _ _)⟩
  have hYS : YStable ops (YU h l u E ops J) := by
    intro i o s s' x ho hss hy
    rcases hy with ⟨k, e, o', h1, h0, h2, h3, h4⟩ | ⟨h1, o', h2, h3, h4⟩ | ⟨h1, h0, o', h3, h4⟩
    · have hoo : o' = o := by rw [ho] at h2; exact (Option.some.inj h2).symm
      subst hoo
      exact .inl ⟨k, e, o', h1, h0, h2, h3, fun s1 b hs1 => h4 s1 b fun t ht => (hs1 t ht).trans (hss t ht)⟩
    · have hoo : o' = o := by rw [ho] at h2; exact (Option.some.inj h2).symm
      subst hoo
      exact .inr (.inl ⟨h1, o', h2, h3, fun s1 H hs1 => h4 s1 H fun t ht => (hs1 t ht).trans (hss t ht)⟩)
    · have hoo : o' = o := by rw [ho] at h3; exact (Option.some.inj h3).symm
      subst hoo
      exact .inr (.inr ⟨h1, h0, o', h3, fun b => YA_same hss (h4 b)⟩)
  have H0 := anyB_lex (E := E) (Y := YU h l u E ops J) (g := ops.toArray.size - n) hYS hs hc hn (ops.take n) 0 _ s (fun j hj => by
    have hj' : j < n := by rw [htl] at hj; exact hj
    simp [hj']) (by simpa using htl) inv0 (fun j hj => by omega) (by rw [htl]; exact hlex) (by simpa [HUW] using hq)
  have hH0 : HU h (bits (Array.replicate ops.toArray.size false)) l u = h := by
    unfold HU
    rw [show bits (Array.replicate ops.toArray.size false) u.g2 = false from getD_replicate_false _ _, cond_false]
    exact HG_none hl4 fun i _ => getD_replicate_false _ _
  have r1 : RelS E ⟨J, s, HU h (bits (Array.replicate ops.toArray.size false)) l u⟩ ι a { w with drawn := w.drawn + 1 } := by
    rw [hH0]
    obtain ⟨Z, K, Y, hZE, r⟩ := r
    exact ⟨Z, K, Y, hZE, r.mem.grew (Grew.drew w), r.size, fun i => RA_keeps (keepsC_grew (K := K) (J := J K Y Z) (Grew.drew w)) _ _ (r.slot i), r.ds.grew (Grew.drew w)⟩
  refine wpIn_region_any hE.ok.mixed ?_
  have hh := wpAnyIn_of_headB (Y := YU h l u E ops J) (J := J) (Q' := Post E Q) (fun b => HU h b l u) (g := ops.toArray.size - n) (fun i o listed s x ho inv hi hin hy hdo ι a w r K' hk' => ?_) (fun listed s ι a' w' r' hL => by
    have hH : HU h (bits listed) l u = HUt h l u := by
      unfold HU HUt
      rw [show bits listed u.g2 = true from hL.1.2 u.g2 g2lt, cond_true, HG_true (b := bits listed) fun i hi => hL.1.2 i (Nat.le_of_ble_eq_true (hl1 i hi))]
    have r' : RelS E ⟨J, s, HU h (bits listed) l u⟩ ι a' w' := r'
    rw [hH] at r'
    have := wpAnyIn_of_seq (Q' := Post E Q) (ops.drop n) n listed a' w' (fun j => by simp [List.getElem?_drop]) (by rw [hdl]; exact hL.1.1) (hL.2 ι a' w' r')
    rwa [hdl] at this) _ _ _ ι a _ inv0 r1 H0
  · rw [htl] at hh
    rwa [show n + (ops.toArray.size - n) = ops.toArray.size by simp; omega] at hh
  · have hun : listed.getD i true = false := (mem_ready.1 hi).1
    have hst' : ∀ j, j ≠ i → bits (listed.setIfInBounds i true) j = bits listed j := fun j hj => getD_set_ne false (Ne.symm hj)
    have hsz : i < listed.size := by
      rw [inv.size]
      have := (List.getElem?_eq_some_iff.1 ho).1
      simpa using this
    have hseti : bits (listed.setIfInBounds i true) i = true := by simp [bits, hsz]
    have b1 : bits listed i = false := getD_both hun
    have hcl : bits listed u.g2 = true → bits listed u.g1 = true := fun hb => by
      have := inv.closed u.g2 o2 (by simpa using ho2) hb ea (by simpa using hem) hea.1
      rwa [hon] at this
    rcases hy with ⟨k, e, o', h1, h0, h2, hgd, h4⟩ | ⟨h1, o', h2, hgd, h4⟩ | ⟨h1, h0, o', h3, h4⟩
    · have hoo : o' = o := by rw [ho] at h2; exact (Option.some.inj h2).symm
      subst hoo
      obtain ⟨g1, g2⟩ := HG_set (h := h) b1 hseti hst' hl2 hl3 h1
      have e2 : bits (listed.setIfInBounds i true) u.g2 = bits listed u.g2 := hst' _ (Ne.symm h0)
      obtain ⟨f1, f2⟩ : HU h (bits (listed.setIfInBounds i true)) l u = hset (HU h (bits listed) l u) k (some e) ∧ HU h (bits listed) l u k = none := by
        unfold HU
        rw [e2]
        cases hb2 : bits listed u.g2 with
        | false => exact ⟨g1, g2⟩
        | true =>
          have hne : k ≠ u.k := fun hk => by
            have := key_op hl3 (hk ▸ h1) hu
            rw [this, hcl hb2] at b1; cases b1
          simp only [cond_true]
          exact ⟨by rw [g1]; exact hset_swap _ hne _ _, by rw [hset_ne _ _ hne]; exact g2⟩
      have g := h4 s (bits listed) (fun _ _ => rfl) b1 f2
      unfold wpOpIn
      simp only [List.getElem?_toArray, ho]
      rw [if_pos (by simp [Region.wanted, hgd])]
      refine g ι a w r K' (Post E Q) fun st' ι' a' w' hst r' => ?_
      subst hst
      refine hk' ι' a' w' ?_
      show RelS E ⟨J, _, HU h _ l u⟩ _ _ _
      rw [f1]; exact r'
    · subst h1
      have hoo : o' = o := by rw [ho] at h2; exact (Option.some.inj h2).symm
      subst hoo
      have hoo2 : o2 = o' := by rw [ho] at ho2; exact (Option.some.inj ho2).symm
      subst hoo2
      have hg1 : bits listed u.g1 = true := by
        have := inv_ready inv hi ho hem hea.1
        rwa [hon] at this
      have hHU : HU h (bits listed) l u = HG h (bits listed) l := by unfold HU; rw [b1]; rfl
      have hat : HU h (bits listed) l u u.k = some u.e1 := by rw [hHU]; exact HG_at hg1 hl3 hu
      have hnew : HU h (bits (listed.setIfInBounds u.g2 true)) l u = hset (HU h (bits listed) l u) u.k (some u.e2) := by
        rw [hHU]
        unfold HU
        rw [hseti, cond_true, HG_out fun j hj => hst' j (fun e => g2out (e ▸ hj))]
      have g := h4 s (HU h (bits listed) l u) (fun _ _ => rfl) hat
      unfold wpOpIn
      simp only [List.getElem?_toArray, ho]
      rw [if_pos (by simp [Region.wanted, hgd])]
      refine g ι a w r K' (Post E Q) fun st' ι' a' w' hst r' => ?_
      subst hst
      refine hk' ι' a' w' ?_
      show RelS E ⟨J, _, HU h _ l u⟩ _ _ _
      rw [hnew]; exact r'
    · have hoo : o' = o := by rw [ho] at h3; exact (Option.some.inj h3).symm
      subst hoo
      have hHs : HU h (bits (listed.setIfInBounds i true)) l u = HU h (bits listed) l u := by
        unfold HU
        rw [hst' _ (Ne.symm h0), HG_out fun j hj => hst' j (fun e => h1 (e ▸ hj))]
      refine wpOpIn_of_qA (J := J) (h := HU h (bits listed) l u) (K := fun s' => s' = pu s o'.dst x) hE r (fun s' a' w' r' hs' => ?_) ?_
      · subst hs'
        refine hk' ι a' w' ?_
        show RelS E ⟨J, _, HU h _ l u⟩ _ _ _
        rw [hHs]; exact r'
      · unfold qA
        simp only [ho]
        exact ⟨x, hdo, h4 _, rfl⟩

variable {l : Effs} {u : Upd} {n i : Nat} {K : Slots → Prop}
theorem HU_cons {o : Oper} (ho : ops[i]? = some o) (hi : Nat.ble (i + 1) n = true) {x : AV} (hd : dstOk E.N o.dst = true) (hy : YU h l u E ops J i s x) (hk : HUW h l u E ops J n (i + 1) K (pu s o.dst x)) : HUW h l u E ops J n i K s := by
  unfold HUW at *
  have hi' := Nat.le_of_ble_eq_true hi
  obtain ⟨hlt, rfl⟩ := List.getElem?_eq_some_iff.1 ho
  have hlt2 : i < (ops.take n).length := by simp; omega
  rw [List.drop_eq_getElem_cons hlt2, List.getElem_take]
  exact ⟨x, hd, hy, hk⟩
theorem HU_end (hk : K s) : HUW h l u E ops J n n K s := by
  unfold HUW
  rw [List.drop_eq_nil_of_le (by simp; omega)]
  exact hk
theorem HU_more {b : Nat → Bool} (hfr : freshK h l = true) (hku : h u.k = none) : ∀ j e, h j = some e → HU h b l u j = some e := fun j e hj => by
  unfold HU
  have hne : j ≠ u.k := fun hh => by rw [hh, hku] at hj; cases hj
  cases b u.g2 with
  | false => exact HG_more hfr j e hj
  | true => simp only [cond_true]; rw [hset_ne _ _ hne]; exact HG_more hfr j e hj
theorem off_g {m q g : Nat} (h2 : (Nat.ble (i + m) g || Nat.ble (g + 1) i) = true) (h3 : i ≤ q) (h4 : q < i + m) : q ≠ g := fun e => by
  simp only [Bool.or_eq_true] at h2
  rcases h2 with h | h <;> have := Nat.le_of_ble_eq_true h <;> omega
theorem HU_run (hE : E.Good) (m : Nat) {s' : Slots} (hfr : freshK h l = true) (hku : h u.k = none) (hp : runPure E ops h m i s = some s') (hi : Nat.ble (i + m) n = true) (h1 : offRange l i m = true) (h2 : (Nat.ble (i + m) u.g2 || Nat.ble (u.g2 + 1) i) = true)
    (hk : HUW h l u E ops J n (i + m) K s') : HUW h l u E ops J n i K s := by
  have more : ∀ b j e, h j = some e → HU h b l u j = some e := fun b j e hj => HU_more hfr hku j e hj
  have n1 : ∀ q, i ≤ q → q < i + m → q ∉ opsOf l := fun q a b => off_not h1 a b
  have n2 : ∀ q, i ≤ q → q < i + m → q ≠ u.g2 := fun q a b => (off_g h2 a b)
  clear h1 h2
  induction m generalizing i s with
  | zero => simp only [runPure, Option.some.injEq] at hp; subst hp; exact hk
  | succ m ih =>
    have hi' := Nat.le_of_ble_eq_true hi
    have hi1 : Nat.ble (i + 1) n = true := Nat.ble_eq_true_of_le (by omega)
    have hi2 : Nat.ble (i + 1 + m) n = true := Nat.ble_eq_true_of_le (by omega)
    have a1 := n1 i (Nat.le_refl _) (by omega)
    have a2 := n2 i (Nat.le_refl _) (by omega)
    simp only [runPure] at hp
    split at hp
    · rename_i o ho
      split at hp
      · rename_i hw
        split at hp
        · rename_i R hR
          split at hp
          · rename_i s1 hs1
            obtain ⟨hd, rfl⟩ := pu_of_putS hs1
            refine HU_cons ho hi1 hd (.inr (.inr ⟨a1, a2, o, ho, fun b => .inl ⟨hw, LY_of_gives hE (stepPure_notDefer hR) fun Z K Y ι a w m hl => stepPure_ok (K := K) (J := J K Y Z) hE.ok.T m o (look_ev hl) (stepPure_more (more b) hR)⟩⟩)) (ih hp hi2 ?_ (fun q a b => n1 q (by omega) (by omega)) (fun q a b => n2 q (by omega) (by omega)))
            rwa [show i + 1 + m = i + (m + 1) by omega]
          · cases hp
        · cases hp
      · rename_i hw
        split at hp
        · rename_i s1 hs1
          obtain ⟨hd, rfl⟩ := pu_of_putS hs1
          refine HU_cons ho hi1 hd (.inr (.inr ⟨a1, a2, o, ho, fun b => .inr ⟨hw, rfl⟩⟩)) (ih hp hi2 ?_ (fun q a b => n1 q (by omega) (by omega)) (fun q a b => n2 q (by omega) (by omega)))
          rwa [show i + 1 + m = i + (m + 1) by omega]
        · cases hp
      · cases hp
    · cases hp
theorem HU_loc (hE : E.Good) {o : Oper} {R : AV} (hl : ∀ b, Loc E ops J (HU h b l u) o s R) (ho : ops[i]? = some o) (hi : Nat.ble (i + 1) n = true) (hw : awant ops o s = some true) {s' : Slots} (hs : putS E.N s o.dst R = some s') (h1 : offRange l i 1 = true) (h2 : (Nat.ble (i + 1) u.g2 || Nat.ble (u.g2 + 1) i) = true) (hk : HUW h l u E ops J n (i + 1) K s') : HUW h l u E ops J n i K s := by
  obtain ⟨hd, rfl⟩ := pu_of_putS hs
  exact HU_cons ho hi hd (.inr (.inr ⟨off_not h1 (Nat.le_refl _) (by omega), off_g h2 (Nat.le_refl _) (by omega), o, ho, fun b => .inl ⟨hw, LY_of_gives hE (hl b).1 fun Z K Y ι a w m hlk => (hl b).2 Z K Y ι a w m (look_ev hlk)⟩⟩)) hk
/-- A new variable. -/
theorem HU_alloc (hE : E.Good) {o : Oper} {k : Nat} {t : TypeId} {ti : TI} {zs : List AV} (hm : l.find? (fun x => Nat.beq x.1 i) = some (i, k, .box t zs)) (hne : (!Nat.beq i u.g2) = true) (ho : ops[i]? = some o) (hi : Nat.ble (i + 1) n = true) (hop : o.op = .alloc t) (hgd : o.guard = none)
    (ht : E.T t = some ti) (hz : litCells ti.zero = some zs) {s' : Slots} (hs : putS E.N s o.dst (.ptr k 0) = some s') (hk : HUW h l u E ops J n (i + 1) K s') : HUW h l u E ops J n i K s := by
  obtain ⟨hd, rfl⟩ := pu_of_putS hs
  refine HU_cons ho hi hd (.inl ⟨k, _, o, mem_find hm, fun e => by subst e; simp at hne, ho, hgd, fun s1 b hs1 hbi hbk => ?_⟩) hk
  refine opG_of_OW hgd (OW_alloc' hE k (o := o) rfl hop (by simp [awant, hgd]) hbk ht hz (s' := pu s1 o.dst (.ptr k 0)) ?_ (OW_end rfl ⟨rfl, rfl⟩))
  have hd : dstOk E.N o.dst = true := hd
  cases hdd : o.dst with
  | none => rfl
  | some d => rw [hdd] at hd; simp only [dstOk] at hd; simp [putS, hd, pu]
/-- The variable filled, whole. -/
theorem HU_store (hE : E.Good) {o : Oper} {t bt : TypeId} {p x : Operand} {ti : TI} {zs vs : List AV} (hi2 : i = u.g2) (he1 : u.e1 = .box bt zs) (he2 : u.e2 = .box bt vs) (ho : ops[i]? = some o) (hi : Nat.ble (i + 1) n = true) (hop : o.op = .store t p x) (hgd : o.guard = none) (hdst : o.dst = none)
    (ht : E.T t = some ti) (hp : ev s p = .ptr u.k 0) (hv : cellsOf (ev s x) = vs) (hc : cellsOk (ev s x) = true) (h1 : oneAll vs = true) (hl : Nat.beq vs.length ti.size = true) (hzl : Nat.beq zs.length ti.size = true) (hk : HUW h l u E ops J n (i + 1) K s) : HUW h l u E ops J n i K s := by
  have look : ∀ t', (Operand.tmp t' = p ∨ Operand.tmp t' = x) → t' ∈ o.looksAt ops.toArray := fun t' ht' => by
    simp only [Oper.looksAt, List.mem_append, List.mem_filterMap]
    refine .inl ⟨.tmp t', ?_, rfl⟩
    rw [hop]
    rcases ht' with ht' | ht' <;> simp [Op.operands, ht']
  refine HU_cons ho hi (x := .tup []) (by rw [hdst]; rfl) (.inr (.inl ⟨hi2, o, ho, hgd, fun s1 H hs1 hH => ?_⟩)) (by rw [hdst]; exact hk)
  have e1 : ev s1 p = ev s p := ev_same fun t' e => hs1 t' (look t' (.inl e.symm))
  have e2 : ev s1 x = ev s x := ev_same fun t' e => hs1 t' (look t' (.inr e.symm))
  rw [he1] at hH
  have l1 := Nat.eq_of_beq_eq_true hl
  have l2 := Nat.eq_of_beq_eq_true hzl
  refine opG_of_OW hgd (OW_store' hE (o := o) rfl hop (by simp [awant, hgd]) hdst ht (by rw [e1]; exact hp) hH (by rw [e2]; exact hv) (by rw [e2]; exact hc) h1 hl (Nat.ble_eq_true_of_le (by omega)) (OW_end rfl ⟨rfl, ?_⟩))
  have ho : overwrite zs 0 vs = vs := by unfold overwrite; simp [List.drop_eq_nil_of_le, l1, l2]
  rw [ho, he2, hdst]; rfl
end
end Go.AL
