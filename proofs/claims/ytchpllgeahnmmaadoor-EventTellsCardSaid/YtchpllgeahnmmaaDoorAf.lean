/- Parts of an abstract logic over the kit's walks, and walks in it: A50, A51, A52, A53, A54, A56, A57, A58, A55, A59. -/
import Derived.Test.YtchpllgeahnmmaaDoorAe
import Derived.Test.YtchpllgeahnmmaaDoorAd
import Derived.WalkKit
namespace Go.AL
set_option linter.unusedVariables false
set_option linter.unusedSimpArgs false
section
variable {E : Env} {ops : List Oper} {J : Jt} {h : Heap} {s : Slots}
end
end Go.AL
namespace Go.AL
set_option linter.unusedVariables false
set_option linter.unusedSimpArgs false
structure Upd where
  g1 : Nat
  g2 : Nat
  k : Nat
  e1 : Ent
  e2 : Ent
def HU (h : Heap) (b : Nat → Bool) (l : Effs) (u : Upd) : Heap := bif b u.g2 then hset (HG h b l) u.k (some u.e2) else HG h b l
def HUt (h : Heap) (l : Effs) (u : Upd) : Heap := hset (HGt h l) u.k (some u.e2)
theorem HG_at {h : Heap} {b : Nat → Bool} {i k : Nat} {e : Ent} (hi : b i = true) : ∀ {l : Effs}, distinctB (keysOf l) = true → (i, k, e) ∈ l → HG h b l k = some e
  | (i', k', e') :: r, h2, hm => by
    have n2 := distinct_not h2
    rcases List.mem_cons.1 hm with hm | hm
    · cases hm
      simp only [HG]
      rw [hi, hset_same]; rfl
    · have hnk : k ≠ k' := fun e => n2 (e ▸ mem_keysOf hm)
      simp only [HG]
      rw [hset_ne _ _ hnk]
      exact HG_at hi (distinct_tail h2) hm
theorem key_op {l : Effs} {i i' k : Nat} {e e' : Ent} : distinctB (keysOf l) = true → (i, k, e) ∈ l → (i', k, e') ∈ l → i = i' := by
  induction l with
  | nil => intro _ h; cases h
  | cons x r ih =>
    obtain ⟨a, c, d⟩ := x
    intro h2 h h'
    have n2 := distinct_not h2
    rcases List.mem_cons.1 h with hA | hA <;> rcases List.mem_cons.1 h' with hB | hB
    · cases hA; cases hB; rfl
    · cases hA; exact (n2 (mem_keysOf hB)).elim
    · cases hB; exact (n2 (mem_keysOf hA)).elim
    · exact ih (distinct_tail h2) hA hB
def YU (h : Heap) (l : Effs) (u : Upd) (E : Env) (ops : List Oper) (J : Jt) (i : Nat) (s : Slots) (x : AV) : Prop :=
  (∃ k e o, (i, k, e) ∈ l ∧ i ≠ u.g2 ∧ ops[i]? = some o ∧ Lays E ops J (fun b => HU h b l u) i o s x k e) ∨
  (i = u.g2 ∧ ∃ o, ops[i]? = some o ∧ o.guard = none ∧ ∀ s1 H, (∀ t ∈ o.looksAt ops.toArray, s1 t = s t) → H u.k = some u.e1 → OpG E o ⟨J, s1, H⟩ (fun st' => st' = ⟨J, pu s1 o.dst x, hset H u.k (some u.e2)⟩)) ∨
  (i ∉ opsOf l ∧ i ≠ u.g2 ∧ ∃ o, ops[i]? = some o ∧ ∀ b, YA E ops J (HU h b l u) o s x)
def HUW (h : Heap) (l : Effs) (u : Upd) (E : Env) (ops : List Oper) (J : Jt) (n i : Nat) (K : Slots → Prop) (s : Slots) : Prop := QB E (YU h l u E ops J) K ((ops.take n).drop i) i s
section
variable {E : Env} {ops : List Oper} {Q : Exit → St → Prop} {J : Jt} {s : Slots} {h : Heap}
theorem inv_ready {n i : Nat} {o : Oper} {listed : Array Bool} (inv : HeadInv .any ops.toArray n listed) (hi : i ∈ Region.ready .any ops.toArray listed) (ho : ops[i]? = some o) {e : Edge} (he : e ∈ o.after) (hb : Region.binds .any e = true) : bits listed e.on = true := by
  obtain ⟨_, o', ho', hall⟩ := mem_ready.1 hi
  have hoo : o' = o := by
    rw [List.getElem?_toArray, ho] at ho'
    exact (Option.some.inj ho').symm
  subst hoo
  exact hall e he hb
theorem CW_drawnU (hE : E.Good) (n : Nat) (l : Effs) (u : Upd) {id : Nat} (hB : Region.lexTailB .any ops.toArray n = true)
    (hl : ((opsOf l).all (fun i => Nat.ble (i + 1) n) && distinctB (opsOf l) && distinctB (keysOf l) && freshK h l) = true)
    (hu : (u.g1, u.k, u.e1) ∈ l) (hg : ((opsOf l).all (fun i => !Nat.beq u.g2 i) && Nat.ble (u.g2 + 1) n) = true) {o2 : Oper} (ho2 : ops[u.g2]? = some o2) (haf : (o2.after.any fun e => Region.binds .any e && Nat.beq e.on u.g1) = true)
    (hq : HUW h l u E ops J n 0 (fun s => OW E ops n Q ⟨J, s, HUt h l u⟩) s) : CW E (.region id ops.toArray true) Q ⟨J, s, h⟩ := fun ι a w r => by
  simp only [Bool.and_eq_true, List.all_eq_true] at hl
  obtain ⟨⟨⟨hl1, hl2⟩, hl3⟩, hl4⟩ := hl
  simp only [Bool.and_eq_true, List.all_eq_true] at hg
  have g2out : u.g2 ∉ opsOf l := fun hm => by have := hg.1 _ hm; simp at this
  have g2lt : u.g2 < n := Nat.le_of_ble_eq_true hg.2
  obtain ⟨ea, hem, hea⟩ := Array.any_eq_true'.1 haf
  simp only [Bool.and_eq_true] at hea
  have hon : ea.on = u.g1 := Nat.eq_of_beq_eq_true hea.2
  have g12 : u.g1 ≠ u.g2 := fun e => g2out (e ▸ mem_opsOf hu)
  simp only [Region.lexTailB, Bool.and_eq_true, decide_eq_true_eq] at hB
  obtain ⟨⟨⟨⟨hsel, hn⟩, hs⟩, hc⟩, hlex⟩ := hB
  have hn' : n < ops.length := by simpa using hn
  have htl : (ops.take n).length = n := by simp; omega
  have hdl : (ops.drop n).length = ops.toArray.size - n := by simp
  have inv0 : HeadInv .any ops.toArray n (Array.replicate ops.toArray.size false) :=
    ⟨by simp, fun j oj _ hl => (by rw [getD_replicate_false] at hl; cases hl), fun t _ ht => getD_in (by simpa using ht) (getD_replicate_false _ _)⟩
  have hYS : YStable ops (YU h l u E ops J) := by
    intro i o s s' x ho hss hy
    rcases hy with ⟨k, e, o', h1, h0, h2, h3, h4⟩ | ⟨h1, o', h2, h3, h4⟩ | ⟨h1, h0, o', h3, h4⟩
    · have hoo : o' = o := by rw [ho] at h2; exact (Option.some.inj h2).symm
      subst hoo
      exact .inl ⟨k, e, o', h1, h0, h2, h3, fun s1 b hs1 => h4 s1 b fun t ht => (hs1 t ht).trans (hss t ht)⟩
    · have hoo : o' = o := by rw [ho] at h2; exact (Option.some.inj h2).symm
      subst hoo
      exact .inr (.inl ⟨h1, o', h2, h3, fun s1 H hs1 => h4 s1 H fun t ht => (hs1 t ht).trans (hss t ht)⟩)
    · have hoo : o' = o := by rw [ho] at h3; exact (Option.some.inj h3).symm
      subst hoo
      exact .inr (.inr ⟨h1, h0, o', h3, fun b => YA_same hss (h4 b)⟩)
  have H0 := anyB_lex (E := E) (Y := YU h l u E ops J) (g := ops.toArray.size - n) hYS hs hc hn (ops.take n) 0 _ s (fun j hj => by
    have hj' : j < n := by rw [htl] at hj; exact hj
    simp [hj']) (by simpa using htl) inv0 (fun j hj => by omega) (by rw [htl]; exact hlex) (by simpa [HUW] using hq)
  have hH0 : HU h (bits (Array.replicate ops.toArray.size false)) l u = h := by
    unfold HU
    rw [show bits (Array.replicate ops.toArray.size false) u.g2 = false from getD_replicate_false _ _, cond_false]
    exact HG_none hl4 fun i _ => getD_replicate_false _ _
  have r1 : RelS E ⟨J, s, HU h (bits (Array.replicate ops.toArray.size false)) l u⟩ ι a { w with drawn := w.drawn + 1 } := by
    rw [hH0]
    obtain ⟨Z, K, Y, hZE, r⟩ := r
    exact ⟨Z, K, Y, hZE, r.mem.grew (Grew.drew w), r.size, fun i => RA_keeps (keepsC_grew (K := K) (J := J K Y Z) (Grew.drew w)) _ _ (r.slot i), r.ds.grew (Grew.drew w)⟩
  refine wpIn_region_any hE.ok.mixed ?_
  have hh := wpAnyIn_of_headB (Y := YU h l u E ops J) (J := J) (Q' := Post E Q) (fun b => HU h b l u) (g := ops.toArray.size - n) (fun i o listed s x ho inv hi hin hy hdo ι a w r K' hk' => ?_) (fun listed s ι a' w' r' hL => by
    have hH : HU h (bits listed) l u = HUt h l u := by
      unfold HU HUt
      rw [show bits listed u.g2 = true from hL.1.2 u.g2 g2lt, cond_true, HG_true (b := bits listed) fun i hi => hL.1.2 i (Nat.le_of_ble_eq_true (hl1 i hi))]
    have r' : RelS E ⟨J, s, HU h (bits listed) l u⟩ ι a' w' := r'
    rw [hH] at r'
    have := wpAnyIn_of_seq (Q' := Post E Q) (ops.drop n) n listed a' w' (fun j => by simp [List.getElem?_drop]) (by rw [hdl]; exact hL.1.1) (hL.2 ι a' w' r')
    rwa [hdl] at this) _ _ _ ι a _ inv0 r1 H0
  · rw [htl] at hh
    rwa [show n + (ops.toArray.size - n) = ops.toArray.size by simp; omega] at hh
  · have hun : listed.getD i true = false := (mem_ready.1 hi).1
    have hst' : ∀ j, j ≠ i → bits (listed.setIfInBounds i true) j = bits listed j := fun j hj => getD_set_ne false (Ne.symm hj)
    have hsz : i < listed.size := by
      rw [inv.size]
      have := (List.getElem?_eq_some_iff.1 ho).1
      simpa using this
    have hseti : bits (listed.setIfInBounds i true) i = true := by simp [bits, hsz]
    have b1 : bits listed i = false := getD_both hun
    have hcl : bits listed u.g2 = true → bits listed u.g1 = true := fun hb => by
      have := inv.closed u.g2 o2 (by simpa using ho2) hb ea (by simpa using hem) hea.1
      rwa [hon] at this
    rcases hy with ⟨k, e, o', h1, h0, h2, hgd, h4⟩ | ⟨h1, o', h2, hgd, h4⟩ | ⟨h1, h0, o', h3, h4⟩
    · have hoo : o' = o := by rw [ho] at h2; exact (Option.some.inj h2).symm
      subst hoo
      obtain ⟨g1, g2⟩ := HG_set (h := h) b1 hseti hst' hl2 hl3 h1
      have e2 : bits (listed.setIfInBounds i true) u.g2 = bits listed u.g2 := hst' _ (Ne.symm h0)
      obtain ⟨f1, f2⟩ : HU h (bits (listed.setIfInBounds i true)) l u = hset (HU h (bits listed) l u) k (some e) ∧ HU h (bits listed) l u k = none := by
        unfold HU
        rw [e2]
        cases hb2 : bits listed u.g2 with
        | false => exact ⟨g1, g2⟩
        | true =>
          have hne : k ≠ u.k := fun hk => by
            have := key_op hl3 (hk ▸ h1) hu
            rw [this, hcl hb2] at b1; cases b1
          simp only [cond_true]
          exact ⟨by rw [g1]; exact hset_swap _ hne _ _, by rw [hset_ne _ _ hne]; exact g2⟩
      have g := h4 s (bits listed) (fun _ _ => rfl) b1 f2
      unfold wpOpIn
      simp only [List.getElem?_toArray, ho]
      rw [if_pos (by simp [Region.wanted, hgd])]
      refine g ι a w r K' (Post E Q) fun st' ι' a' w' hst r' => ?_
      subst hst
      refine hk' ι' a' w' ?_
      show RelS E ⟨J, _, HU h _ l u⟩ _ _ _
      rw [f1]; exact r'
    · subst h1
      have hoo : o' = o := by rw [ho] at h2; exact (Option.some.inj h2).symm
      subst hoo
      have hoo2 : o2 = o' := by rw [ho] at ho2; exact (Option.some.inj ho2).symm
      subst hoo2
      have hg1 : bits listed u.g1 = true := by
        have := inv_ready inv hi ho hem hea.1
        rwa [hon] at this
      have hHU : HU h (bits listed) l u = HG h (bits listed) l := by unfold HU; rw [b1]; rfl
      have hat : HU h (bits listed) l u u.k = some u.e1 := by rw [hHU]; exact HG_at hg1 hl3 hu
      have hnew : HU h (bits (listed.setIfInBounds u.g2 true)) l u = hset (HU h (bits listed) l u) u.k (some u.e2) := by
        rw [hHU]
        unfold HU
        rw [hseti, cond_true, HG_out fun j hj => hst' j (fun e => g2out (e ▸ hj))]
      have g := h4 s (HU h (bits listed) l u) (fun _ _ => rfl) hat
      unfold wpOpIn
      simp only [List.getElem?_toArray, ho]
      rw [if_pos (by simp [Region.wanted, hgd])]
      refine g ι a w r K' (Post E Q) fun st' ι' a' w' hst r' => ?_
      subst hst
      refine hk' ι' a' w' ?_
      show RelS E ⟨J, _, HU h _ l u⟩ _ _ _
      rw [hnew]; exact r'
    · have hoo : o' = o := by rw [ho] at h3; exact (Option.some.inj h3).symm
      subst hoo
      have hHs : HU h (bits (listed.setIfInBounds i true)) l u = HU h (bits listed) l u := by
        unfold HU
        rw [hst' _ (Ne.symm h0), HG_out fun j hj => hst' j (fun e => h1 (e ▸ hj))]
      refine wpOpIn_of_qA (J := J) (h := HU h (bits listed) l u) (K := fun s' => s' = pu s o'.dst x) hE r (fun s' a' w' r' hs' => ?_) ?_
      · subst hs'
        refine hk' ι a' w' ?_
        show RelS E ⟨J, _, HU h _ l u⟩ _ _ _
        rw [hHs]; exact r'
      · unfold qA
        simp only [ho]
        exact ⟨x, hdo, h4 _, rfl⟩
variable {l : Effs} {u : Upd} {n i : Nat} {K : Slots → Prop}
theorem HU_cons {o : Oper} (ho : ops[i]? = some o) (hi : Nat.ble (i + 1) n = true) {x : AV} (hd : dstOk E.N o.dst = true) (hy : YU h l u E ops J i s x) (hk : HUW h l u E ops J n (i + 1) K (pu s o.dst x)) : HUW h l u E ops J n i K s := by
  unfold HUW at *
  have hi' := Nat.le_of_ble_eq_true hi
  obtain ⟨hlt, rfl⟩ := List.getElem?_eq_some_iff.1 ho
  have hlt2 : i < (ops.take n).length := by simp; omega
  rw [List.drop_eq_getElem_cons hlt2, List.getElem_take]
  exact ⟨x, hd, hy, hk⟩
theorem HU_end (hk : K s) : HUW h l u E ops J n n K s := by
  unfold HUW
  rw [List.drop_eq_nil_of_le (by simp; omega)]
  exact hk
theorem HU_more {b : Nat → Bool} (hfr : freshK h l = true) (hku : h u.k = none) : ∀ j e, h j = some e → HU h b l u j = some e := fun j e hj => by
  unfold HU
  have hne : j ≠ u.k := fun hh => by rw [hh, hku] at hj; cases hj
  cases b u.g2 with
  | false => exact HG_more hfr j e hj
  | true => simp only [cond_true]; rw [hset_ne _ _ hne]; exact HG_more hfr j e hj
theorem off_g {m q g : Nat} (h2 : (Nat.ble (i + m) g || Nat.ble (g + 1) i) = true) (h3 : i ≤ q) (h4 : q < i + m) : q ≠ g := fun e => by
  simp only [Bool.or_eq_true] at h2
  rcases h2 with h | h <;> have := Nat.le_of_ble_eq_true h <;> omega
theorem HU_run (hE : E.Good) (m : Nat) {s' : Slots} (hfr : freshK h l = true) (hku : h u.k = none) (hp : runPure E ops h m i s = some s') (hi : Nat.ble (i + m) n = true) (h1 : offRange l i m = true) (h2 : (Nat.ble (i + m) u.g2 || Nat.ble (u.g2 + 1) i) = true)
    (hk : HUW h l u E ops J n (i + m) K s') : HUW h l u E ops J n i K s := by
  have more : ∀ b j e, h j = some e → HU h b l u j = some e := fun b j e hj => HU_more hfr hku j e hj
  have n1 : ∀ q, i ≤ q → q < i + m → q ∉ opsOf l := fun q a b => off_not h1 a b
  have n2 : ∀ q, i ≤ q → q < i + m → q ≠ u.g2 := fun q a b => (off_g h2 a b)
  clear h1 h2
  induction m generalizing i s with
  | zero => simp only [runPure, Option.some.injEq] at hp; subst hp; exact hk
  | succ m ih =>
    have hi' := Nat.le_of_ble_eq_true hi
    have hi1 : Nat.ble (i + 1) n = true := Nat.ble_eq_true_of_le (by omega)
    have hi2 : Nat.ble (i + 1 + m) n = true := Nat.ble_eq_true_of_le (by omega)
    have a1 := n1 i (Nat.le_refl _) (by omega)
    have a2 := n2 i (Nat.le_refl _) (by omega)
    simp only [runPure] at hp
    split at hp
    · rename_i o ho
      split at hp
      · rename_i hw
        split at hp
        · rename_i R hR
          split at hp
          · rename_i s1 hs1
            obtain ⟨hd, rfl⟩ := pu_of_putS hs1
            refine HU_cons ho hi1 hd (.inr (.inr ⟨a1, a2, o, ho, fun b => .inl ⟨hw, LY_of_gives hE (stepPure_notDefer hR) fun Z K Y ι a w m hl => stepPure_ok (K := K) (J := J K Y Z) hE.ok.T m o (look_ev hl) (stepPure_more (more b) hR)⟩⟩)) (ih hp hi2 ?_ (fun q a b => n1 q (by omega) (by omega)) (fun q a b => n2 q (by omega) (by omega)))
            rwa [show i + 1 + m = i + (m + 1) by omega]
          · cases hp
        · cases hp
      · rename_i hw
        split at hp
        · rename_i s1 hs1
          obtain ⟨hd, rfl⟩ := pu_of_putS hs1
          refine HU_cons ho hi1 hd (.inr (.inr ⟨a1, a2, o, ho, fun b => .inr ⟨hw, rfl⟩⟩)) (ih hp hi2 ?_ (fun q a b => n1 q (by omega) (by omega)) (fun q a b => n2 q (by omega) (by omega)))
          rwa [show i + 1 + m = i + (m + 1) by omega]
        · cases hp
      · cases hp
    · cases hp
theorem HU_loc (hE : E.Good) {o : Oper} {R : AV} (hl : ∀ b, Loc E ops J (HU h b l u) o s R) (ho : ops[i]? = some o) (hi : Nat.ble (i + 1) n = true) (hw : awant ops o s = some true) {s' : Slots} (hs : putS E.N s o.dst R = some s') (h1 : offRange l i 1 = true) (h2 : (Nat.ble (i + 1) u.g2 || Nat.ble (u.g2 + 1) i) = true) (hk : HUW h l u E ops J n (i + 1) K s') : HUW h l u E ops J n i K s := by
  obtain ⟨hd, rfl⟩ := pu_of_putS hs
  exact HU_cons ho hi hd (.inr (.inr ⟨off_not h1 (Nat.le_refl _) (by omega), off_g h2 (Nat.le_refl _) (by omega), o, ho, fun b => .inl ⟨hw, LY_of_gives hE (hl b).1 fun Z K Y ι a w m hlk => (hl b).2 Z K Y ι a w m (look_ev hlk)⟩⟩)) hk
theorem HU_alloc (hE : E.Good) {o : Oper} {k : Nat} {t : TypeId} {ti : TI} {zs : List AV} (hm : l.find? (fun x => Nat.beq x.1 i) = some (i, k, .box t zs)) (hne : (!Nat.beq i u.g2) = true) (ho : ops[i]? = some o) (hi : Nat.ble (i + 1) n = true) (hop : o.op = .alloc t) (hgd : o.guard = none)
    (ht : E.T t = some ti) (hz : litCells ti.zero = some zs) {s' : Slots} (hs : putS E.N s o.dst (.ptr k 0) = some s') (hk : HUW h l u E ops J n (i + 1) K s') : HUW h l u E ops J n i K s := by
  obtain ⟨hd, rfl⟩ := pu_of_putS hs
  refine HU_cons ho hi hd (.inl ⟨k, _, o, mem_find hm, fun e => by subst e; simp at hne, ho, hgd, fun s1 b hs1 hbi hbk => ?_⟩) hk
  refine opG_of_OW hgd (OW_alloc' hE k (o := o) rfl hop (by simp [awant, hgd]) hbk ht hz (s' := pu s1 o.dst (.ptr k 0)) ?_ (OW_end rfl ⟨rfl, rfl⟩))
  have hd : dstOk E.N o.dst = true := hd
  cases hdd : o.dst with
  | none => rfl
  | some d => rw [hdd] at hd; simp only [dstOk] at hd; simp [putS, hd, pu]
theorem HU_store (hE : E.Good) {o : Oper} {t bt : TypeId} {p x : Operand} {ti : TI} {zs vs : List AV} (hi2 : i = u.g2) (he1 : u.e1 = .box bt zs) (he2 : u.e2 = .box bt vs) (ho : ops[i]? = some o) (hi : Nat.ble (i + 1) n = true) (hop : o.op = .store t p x) (hgd : o.guard = none) (hdst : o.dst = none)
    (ht : E.T t = some ti) (hp : ev s p = .ptr u.k 0) (hv : cellsOf (ev s x) = vs) (hc : cellsOk (ev s x) = true) (h1 : oneAll vs = true) (hl : Nat.beq vs.length ti.size = true) (hzl : Nat.beq zs.length ti.size = true) (hk : HUW h l u E ops J n (i + 1) K s) : HUW h l u E ops J n i K s := by
  have look : ∀ t', (Operand.tmp t' = p ∨ Operand.tmp t' = x) → t' ∈ o.looksAt ops.toArray := fun t' ht' => by
    simp only [Oper.looksAt, List.mem_append, List.mem_filterMap]
    refine .inl ⟨.tmp t', ?_, rfl⟩
    rw [hop]
    rcases ht' with ht' | ht' <;> simp [Op.operands, ht']
  refine HU_cons ho hi (x := .tup []) (by rw [hdst]; rfl) (.inr (.inl ⟨hi2, o, ho, hgd, fun s1 H hs1 hH => ?_⟩)) (by rw [hdst]; exact hk)
  have e1 : ev s1 p = ev s p := ev_same fun t' e => hs1 t' (look t' (.inl e.symm))
  have e2 : ev s1 x = ev s x := ev_same fun t' e => hs1 t' (look t' (.inr e.symm))
  rw [he1] at hH
  have l1 := Nat.eq_of_beq_eq_true hl
  have l2 := Nat.eq_of_beq_eq_true hzl
  refine opG_of_OW hgd (OW_store' hE (o := o) rfl hop (by simp [awant, hgd]) hdst ht (by rw [e1]; exact hp) hH (by rw [e2]; exact hv) (by rw [e2]; exact hc) h1 hl (Nat.ble_eq_true_of_le (by omega)) (OW_end rfl ⟨rfl, ?_⟩))
  have ho : overwrite zs 0 vs = vs := by unfold overwrite; simp [List.drop_eq_nil_of_le, l1, l2]
  rw [ho, he2, hdst]; rfl
end
end Go.AL
namespace Go.AL
set_option linter.unusedVariables false
set_option linter.unusedSimpArgs false
def namable : AV → Bool
  | .d (.lit _) => true
  | .d (.sl _ _ _) => true
  | _ => false
theorem namable_ok {C : Cx} {x : AV} {v : Value} (h : namable x = true) (hx : RA C x v) : okLit v := by
  unfold namable at h
  split at h
  · obtain ⟨rfl, ho⟩ := RA_lit.1 hx; exact ho
  · simp only [RA, RD] at hx
    obtain ⟨a, cap, rfl, h1, h2, h3, _⟩ := hx
    exact h3
  · cases h
def litA (v : Value) : AV := .d (.lit v)
theorem RAs_lits {C : Cx} : ∀ {vs : List Value}, (∀ v ∈ vs, okLit v) → RAs C (vs.map litA) vs
  | [], _ => by simp [RAs]
  | v :: vs, h => by
    simp only [List.map_cons, RAs]
    exact ⟨v, vs, rfl, RA_lit_mk (h v (by simp)), RAs_lits fun u hu => h u (by simp [hu])⟩
theorem namables_ok {C : Cx} : ∀ {cs : List AV} {vs : List Value}, cs.all namable = true → RAs C cs vs → ∀ v ∈ vs, okLit v
  | [], vs, _, h => by simp only [RAs] at h; subst h; simp
  | x :: cs, vs, hc, h => by
    simp only [RAs] at h
    obtain ⟨v, t, rfl, h1, h2⟩ := h
    simp only [List.all_cons, Bool.and_eq_true] at hc
    intro u hu
    rcases List.mem_cons.1 hu with rfl | hu
    · exact namable_ok hc.1 h1
    · exact namables_ok hc.2 h2 u hu
def LitAt (cs : List AV) (vs : List Value) : Prop := ∀ (j : Nat) (u : Value), cs[j]? = some (AV.d (D.lit u)) → vs[j]? = some u
theorem LitAt.of {C : Cx} {cs : List AV} {vs : List Value} (h : RAs C cs vs) : LitAt cs vs := fun j u hj => by
  obtain ⟨v, h1, h2⟩ := RAs_get h hj
  obtain ⟨rfl, _⟩ := RA_lit.1 h2
  exact h1
def Handle (v : Value) (n : Nat) : Prop := n ≤ 140737488355328 ∧ ∃ a cap, v = .slice a n cap ∧ (0 < n → ∃ g, a = some ⟨g, 0, none⟩)
theorem Handle.ok {v : Value} {n : Nat} (h : Handle v n) : okLit v := by
  obtain ⟨h1, a, cap, rfl, _⟩ := h
  exact h1
theorem keepsC_ghost {Z K : Nat → Prop} {J : World → Prop} {h : Heap} {ι : Nat → Value} {w : World} (m : Mem Z K J h ι w) {G : Nat} (hG : h G = none) {L : List AV} {vs : List Value} (hv : RAs (cx Z h ι w) L vs) :
    KeepsC (cx Z h ι w) (cx Z (hset h G (some (.ghost L vs))) (fun j => bif Nat.beq j G then .slice none 0 0 else ι j) w) := by
  refine ⟨⟨fun _ _ _ _ hh => hh, fun _ _ hh => hh, fun b _ hm hm' => ?_⟩, fun j hj => ?_⟩
  · rcases hm' with hz | ⟨j, hj, hjb⟩
    · exact hm (.inl hz)
    · by_cases hjk : j = G
      · subst hjk; simp [blk] at hjb
      · have hb : Nat.beq j G = false := Bool.eq_false_iff.2 fun h' => hjk (Nat.eq_of_beq_eq_true h')
        simp only [dom, hset_ne h _ hjk] at hj
        simp only [hb, cond_false] at hjb
        exact hm (.inr ⟨j, hj, hjb⟩)
  · have hne : j ≠ G := by intro e; subst e; simp [dom, hG] at hj
    have hb : Nat.beq j G = false := Bool.eq_false_iff.2 fun h' => hne (Nat.eq_of_beq_eq_true h')
    exact ⟨by show (hset h G _ j).isSome = true; rw [hset_ne h _ hne]; exact hj, by simp [hb]⟩
theorem rel_name {E : Env} {J : Jt} {s : Slots} {h : Heap} {ι : Nat → Value} {a : Act} {w : World} (r : RelS E ⟨J, s, h⟩ ι a w) {k G : Nat} {e : TypeId} {sz n : Nat} {cs : List AV} (hk : h k = some (.rowA e sz n cs)) (hG : h G = none) (hc : cs.all namable = true) :
    ∃ v vs ι', Handle v n ∧ vs.length = n * sz ∧ (∀ u ∈ vs, okLit u) ∧ LitAt cs vs ∧ RelS E ⟨J, s, hset (hset h k (some (.rowA e sz n (vs.map litA)))) G (some (.ghost (.row k :: cs) (v :: vs)))⟩ ι' a w := by
  obtain ⟨Z, K, Y, hZE, r⟩ := r
  obtain ⟨vs, f1, f2, f3⟩ := r.mem.ent k _ hk
  have hkd : dom h k := by simp [dom, hk]
  have hok := namables_ok hc f2
  have hlen : vs.length = n * sz ∧ Handle (ι k) n := by
    rcases f1 with ⟨a0, e0, h0, h1⟩ | ⟨g, cap, cur, e0, hc0, hg, hnc, hcm, hcs, htk⟩
    · subst h0 h1
      exact ⟨by simp, f3, a0, 0, e0, by omega⟩
    · refine ⟨?_, f3, _, _, e0, fun _ => ⟨g, rfl⟩⟩
      have hns : n * sz ≤ cap * sz := Nat.mul_le_mul_right _ hnc
      have hcl : cur.toList.length = cap * sz := by simpa using hcs
      rw [← htk, List.length_take, hcl, Nat.min_eq_left hns]
  have hv : RAs (cx Z h ι w) (.row k :: cs) (ι k :: vs) := by
    simp only [RAs]
    exact ⟨_, _, rfl, by simp only [RA]; exact ⟨hkd, trivial⟩, f2⟩
  have m1 := r.mem.ghost hG hv
  have kc := keepsC_ghost r.mem hG hv
  have hne : k ≠ G := by intro e; subst e; rw [hk] at hG; cases hG
  have r1 : Rel Z K E.N (J K Y Z) s (hset h G (some (.ghost (.row k :: cs) (ι k :: vs)))) (fun j => bif Nat.beq j G then .slice none 0 0 else ι j) a w := ⟨m1, r.size, fun i => RA_keeps kc _ _ (r.slot i), r.ds⟩
  refine ⟨ι k, vs, fun j => bif Nat.beq j G then .slice none 0 0 else ι j, hlen.2, hlen.1, hok, LitAt.of f2, ?_⟩
  have hk1 : hset h G (some (.ghost (.row k :: cs) (ι k :: vs))) k = some (.rowA e sz n cs) := by rw [hset_ne _ _ hne]; exact hk
  have heq : hset (hset h k (some (.rowA e sz n (vs.map litA)))) G (some (.ghost (.row k :: cs) (ι k :: vs))) = hset (hset h G (some (.ghost (.row k :: cs) (ι k :: vs)))) k (some (.rowA e sz n (vs.map litA))) := hset_comm _ hne _ _
  rw [heq]
  obtain ⟨h', hh'⟩ : ∃ h', h' = hset h G (some (.ghost (.row k :: cs) (ι k :: vs))) := ⟨_, rfl⟩
  rw [← hh'] at r1 hk1 ⊢
  have hdom : dom (hset h' k (some (.rowA e sz n (vs.map litA)))) = dom h' := by
    funext j
    by_cases hj : j = k
    · subst hj; simp [dom, hset_same, hk1]
    · simp [dom, hset_ne _ _ hj]
  obtain ⟨ι', hι'⟩ : ∃ ι' : Nat → Value, ι' = fun j => bif Nat.beq j G then .slice none 0 0 else ι j := ⟨_, rfl⟩
  rw [← hι'] at r1 ⊢
  have hkι : ι' k = ι k := by
    have : Nat.beq k G = false := Bool.eq_false_iff.2 fun h' => hne (Nat.eq_of_beq_eq_true h')
    rw [hι']; simp [this]
  have hcx : cx Z (hset h' k (some (.rowA e sz n (vs.map litA)))) ι' w = cx Z h' ι' w := by simp only [cx, hdom]
  refine ⟨Z, K, Y, hZE, ⟨fun j e' hj => ?_, fun j b hj hb => r1.mem.own j b (by rw [← hdom]; exact hj) hb, fun j j' b hj hj' => r1.mem.apart j j' b (by rw [← hdom]; exact hj) (by rw [← hdom]; exact hj'), r1.mem.Zlt, r1.mem.Klt, r1.mem.Jw, r1.mem.Jc⟩, r1.size, fun i => ?_, r1.ds⟩
  · rw [show (⟨w, Z, dom (hset h' k (some (.rowA e sz n (vs.map litA)))), ι'⟩ : Cx) = cx Z h' ι' w from hcx]
    have hj : hset h' k (some (.rowA e sz n (vs.map litA))) j = some e' := hj
    by_cases hjk : j = k
    · subst hjk
      rw [hset_same] at hj
      cases hj
      exact ⟨vs, by rw [hkι]; exact f1, RAs_lits hok, f3⟩
    · rw [hset_ne _ _ hjk] at hj
      exact r1.mem.ent j _ hj
  · rw [show cx Z (hset h' k (some (.rowA e sz n (vs.map litA)))) ι' w = cx Z h' ι' w from hcx]
    exact r1.slot i
theorem CW_nameRow {E : Env} {c : Code} {Q : Exit → St → Prop} {J : Jt} {s : Slots} {h : Heap} (k G : Nat) {e : TypeId} {sz n : Nat} {cs : List AV} (hk : h k = some (.rowA e sz n cs)) (hG : h G = none) (hc : cs.all namable = true)
    (hh : ∀ v vs, Handle v n → vs.length = n * sz → (∀ u ∈ vs, okLit u) → LitAt cs vs → CW E c Q ⟨J, s, hset (hset h k (some (.rowA e sz n (vs.map litA)))) G (some (.ghost (.row k :: cs) (v :: vs)))⟩) : CW E c Q ⟨J, s, h⟩ := fun ι a w r => by
  obtain ⟨v, vs, ι', h1, h2, h3, h4, r'⟩ := rel_name r hk hG hc
  exact hh v vs h1 h2 h3 h4 ι' a w r'
theorem LE_slotLit {E : Env} {J : Jt} {s : Slots} {h : Heap} (t : Nat) {k G : Nat} {cs : List AV} {v : Value} {vs : List Value} (hG : h G = some (.ghost (.row k :: cs) (v :: vs))) (hs : s t = .row k) (hv : okLit v) : LE E ⟨J, s, h⟩ ⟨J, sset s t (.d (.lit v)), h⟩ := fun ι a w ⟨Z, K, Y, hZ, r⟩ => by
  refine ⟨ι, Z, K, Y, hZ, r.mem, r.size, fun i => ?_, r.ds⟩
  by_cases hi : i = t
  · subst hi
    show RA _ (sset s i (.d (.lit v)) i) _
    rw [sset_same]
    have h1 := r.slot i
    have h1 : RA (cx Z h ι w) (s i) (a.tmps.getD i undef) := h1
    rw [hs] at h1
    simp only [RA] at h1
    have h2 := (r.mem.ent G _ hG).2
    simp only [RAs] at h2
    obtain ⟨u, t, e, ⟨_, hu⟩, _⟩ := h2
    cases e
    exact RA_lit.2 ⟨h1.2.trans hu.symm, hv⟩
  · show RA _ (sset s t (.d (.lit v)) i) _
    rw [sset_ne _ _ hi]; exact r.slot i
def SeeRow (v : Value) (sz : Nat) (vs : List Value) (i : Nat) (w : World) : Prop := ∀ j u, i * sz ≤ j → vs[j]? = some u → ∃ g n cap, v = .slice (some ⟨g, 0, none⟩) n cap ∧ w.cell? ⟨g, j, none⟩ = some u
theorem see_row {Z K : Nat → Prop} {J : World → Prop} {h : Heap} {ι : Nat → Value} {w : World} (m : Mem Z K J h ι w) {k G : Nat} {e : TypeId} {sz n : Nat} {cs cs' : List AV} {v : Value} {vs : List Value} (hk : h k = some (.rowA e sz n cs')) (hG : h G = some (.ghost (.row k :: cs) (v :: vs)))
    {i : Nat} (hc : ∀ j u, i * sz ≤ j → vs[j]? = some u → cs'[j]? = some (litA u)) : SeeRow v sz vs i w := by
  intro j u hj hu
  have h2 := (m.ent G _ hG).2
  simp only [RAs] at h2
  obtain ⟨v', t, e', ⟨_, hv'⟩, _⟩ := h2
  cases e'
  have hv' : v = ι k := hv'
  obtain ⟨vs', f1, f2, f3⟩ := m.ent k _ hk
  obtain ⟨u', g1, g2⟩ := RAs_get f2 (hc j u hj hu)
  obtain ⟨rfl, _⟩ := RA_lit.1 g2
  rcases f1 with ⟨a0, e0, h0, h1⟩ | ⟨g, cap, cur, e0, hc0, hg, hnc, hcm, hcs, htk⟩
  · subst h1; simp at g1
  · have hg' : w.heap[g]? = some (.cells cur e (0, 0)) := hg
    refine ⟨g, n, cap, by rw [hv']; exact e0, ?_⟩
    rw [cell_of_row w g _ cur e (0, 0) hg']
    rw [← htk, List.getElem?_take] at g1
    split at g1
    · simpa using g1
    · cases g1
section
variable {E : Env} {ops : List Oper} {Q : Exit → St → Prop} {i : Nat} {J : Jt} {h : Heap} {s : Slots} {o : Oper}
theorem loc_idxLit (hE : E.Good) {t : TypeId} {xo io : Operand} (hop : o.op = .indexAddr t xo io) {e : TypeId} {z1 z2 : Nat} {z3 : List Value} (ht : E.T t = some ⟨.slice e, z1, z2, z3⟩) {k : TK} {sz z5 : Nat} {z6 : List Value} (hte : E.T e = some ⟨k, sz, z5, z6⟩)
    {g n cap : Nat} (hx : ev s xo = .d (.lit (.slice (some ⟨g, 0, none⟩) n cap))) {ik : IntKind} {j : Nat} (hi : ev s io = .d (.lit (.int ik j))) (hj : j < n) : Loc E ops J h o s (.d (.lit (.pointer (some ⟨g, j * sz, none⟩)))) := by
  refine ⟨(by rw [hop]; intro c hc; cases hc), fun Z K Y ι a w m hl => ?_⟩
  obtain ⟨dst, op, ty, pos, af, gd⟩ := o
  simp only at hop
  subst hop
  have h1 := hl xo (by simp [Op.operands])
  have h2 := hl io (by simp [Op.operands])
  rw [hx] at h1
  rw [hi] at h2
  obtain ⟨e1, _⟩ := RA_lit.1 h1
  obtain ⟨e2, _⟩ := RA_lit.1 h2
  have hu := (hE.ok.T t _ ht).2
  simp only [TK.fits] at hu
  have hsz := run_size hE.ok.T hte w
  refine ⟨.pointer (some ⟨g, j * sz, none⟩), w, ?_, Grew.refl w, RA_lit_mk trivial⟩
  simp [execOp, Instr.indexAt, e1, e2, asIntOf, run_underlying hu, hj, hsz]
  simp [Addr.add]
  exact fun h => h.symm
theorem loc_loadSee (hE : E.Good) {t : TypeId} {p : Operand} (hop : o.op = .load t p) {ti : TI} (ht : E.T t = some ti) {g off : Nat} (hp : ev s p = .d (.lit (.pointer (some ⟨g, off, none⟩)))) {G : Nat} {cs : List AV} {vs : List Value} (hG : h G = some (.ghost cs vs))
    (hsee : ∀ K Y Z w, J K Y Z w → ∀ j u, off ≤ j → vs[j]? = some u → w.cell? ⟨g, j, none⟩ = some u) {R : AV} (hR : ofCells ti.k.isAgg ti.size (cs.drop off) = some R) : Loc E ops J h o s R := by
  refine ⟨(by rw [hop]; intro c hc; cases hc), fun Z K Y ι a w m hl => ?_⟩
  obtain ⟨dst, op, ty, pos, af, gd⟩ := o
  simp only at hop
  subst hop
  have h1 := hl p (by simp [Op.operands])
  rw [hp] at h1
  obtain ⟨e1, _⟩ := RA_lit.1 h1
  have h2 := (m.ent G _ hG).2
  obtain ⟨v, h3, h4⟩ := run_loadVar_of (w := w) hE.ok.T ht (C := cx Z h ι w) (RAs_drop off h2) g off (fun j v hj => by
    rw [List.getElem?_drop] at hj
    exact hsee K Y Z w m.Jw (off + j) v (by omega) hj) hR
  exact ⟨v, w, by simp [execOp, Instr.loadAt, Instr.sureAddr, e1, h3], Grew.refl w, h4⟩
end
def IterS (P : Program) (f : Nat) (first cap : List AV) (ys : List (List AV)) (See : Nat → World → Prop) (cs0 : List AV) (vs0 : List Value) : Prop :=
  Callable P f ∧ ∀ (n l : Nat) (C : Nat → Jt) (X : Jt), (∀ i, Mono (C i)) → Mono X → YieldSpec P l ys C X → (∀ i K Y Z w, C i K Y Z w → See i w) → ∀ (K Y Z : Nat → Prop) (w : World) (vs : List Value), C 0 K Y Z w → (∀ b, Y b → Z b) → (∀ b, K b → b < w.heap.size) → (∀ b, Z b → b < w.heap.size) →
    RAs (cx Z noHeap noι w) (first ++ .d (.fn (.yield l) [] []) :: cap) vs → RAs (cx Z noHeap noι w) cs0 vs0 →
    CallsIn Fence.wide n P f vs.toArray w fun e w' => ∃ v K Y Z, e = .returned v ∧ (C ys.length K Y Z w' ∨ X K Y Z w')
theorem IterS_of {P : Program} {T : Nat → Option TI} (hT : TOk P T) (hm : P.follows .mixedOrders = true) {f : Nat} {fn : Func} {c : Code} {first cap : List AV} {ys : List (List AV)} {See : Nat → World → Prop} {cs0 : List AV} {vs0 : List Value} (hf : P.funcs[f]? = some fn) (hb : fn.body = some c) (hn : (fn.name == "runtime.NumGoroutine") = false)
    {N : Nat} (hN : fn.ntmps = N) (hl : Nat.ble (first.length + (cap.length + 1)) N = true) (G : Nat)
    (h : ∀ F n Z, (⟨P, T, F, n, Z, N⟩ : Env).Good → F = Fence.wide → ∀ l C X, (∀ i, Mono (C i)) → Mono X → YieldSpec P l ys C X → (∀ i K Y Z w, C i K Y Z w → See i w) →
      CW ⟨P, T, F, n, Z, N⟩ c (RetI T fn (C ys.length) X) ⟨C 0, argSlots (first ++ .d (.fn (.yield l) [] []) :: cap) 0, hset noHeap G (some (.ghost cs0 vs0))⟩) : IterS P f first cap ys See cs0 vs0 := by
  subst hN
  refine ⟨⟨fn, hf, hn, by rw [hb]; rfl⟩, fun n l C X hC hX hy hsee K Y Z w vs h0 hYZ hK hZ hv hv0 => ?_⟩
  let E : Env := ⟨P, T, Fence.wide, n, Z, fn.ntmps⟩
  have hE : E.Good := ⟨⟨hT, fun f => trivial, rfl, hm⟩, .inl rfl⟩
  have r0 := rel_begin hZ hK h0 ((hC 0).closed K Y Z) hv (by simpa using hl)
  have r1 : Rel Z K fn.ntmps (C 0 K Y Z) (argSlots (first ++ .d (.fn (.yield l) [] []) :: cap) 0) (hset noHeap G (some (.ghost cs0 vs0))) (fun j => bif Nat.beq j G then .slice none 0 0 else noι j) { tmps := vs.toArray ++ Array.replicate (fn.ntmps - vs.toArray.size) undef, defers := [] } w :=
    ⟨r0.mem.ghost rfl hv0, r0.size, fun i => RA_keeps (keepsC_ghost r0.mem rfl hv0) _ _ (r0.slot i), r0.ds⟩
  refine callsIn_of_wp_marks hf hb trivial (wpIn_mono (h _ _ _ hE rfl l C X hC hX hy hsee _ _ w ⟨Z, K, Y, ⟨fun b hb => hb, hYZ, hC 0⟩, r1⟩) ?_) rfl
  · rintro e a' w' ⟨st, ι, ⟨he, hJ, Rs, hRs⟩, Z', K', Y', hZE, r⟩
    have goal : LeavesInM Fence.wide n P fn a'.tmps (fun e w' => ∃ v K Y Z, e = .returned v ∧ (C ys.length K Y Z w' ∨ X K Y Z w')) a'.defers .returning w' := by
      refine leaves_marks r fun w1 r1 => ?_
      obtain ⟨v, g1, g2⟩ := results_ok hT r1 hRs
      refine ⟨v, g1, v, K', Y', Z', rfl, ?_⟩
      have := r1.mem.Jw
      rcases hJ with hJ | hJ
      · rw [hJ] at this; exact .inl this
      · rw [hJ] at this; exact .inr this
    rcases he with rfl | rfl
    · exact goal
    · exact goal
theorem CW_rangeFuncS {E : Env} {Q : Exit → St → Prop} {st : St} (hE : E.Good) (hF : E.F = Fence.wide) {g : Operand} {ps : Array Tmp} {assign body : Code} {f : Nat} {first cap : List AV} {ys : List (List AV)} {See : Nat → World → Prop} {cs0 : List AV} {vs0 : List Value} (hI : IterS E.P f first cap ys See cs0 vs0)
    (hg : fnOf (ev st.s g) = some (f, first, cap)) (hkf : kfs first = true) (hkc : kfs cap = true) (hks : ∀ y ∈ ys, kfs y = true ∧ y.length = ps.size) (hps : ps.toList.all (fun p => Nat.ble (p + 1) E.N) = true) (G : Nat) (hG : st.h G = none) {G2 : Nat} {x0 : AV} {v0 : Value} (hG2 : st.h G2 = some (.ghost (x0 :: cs0) (v0 :: vs0))) (hk0 : kfs cs0 = true)
    (Inv : List Value → Nat → Jt → Heap → Prop) (hOk : ∀ vs i J h, Inv vs i J h → (Mono st.J → Mono J) ∧ h G = some (.ghost (slotsL E.N st.s) vs)) (h0 : ∀ vs, Inv vs 0 st.J (hset st.h G (some (.ghost (slotsL E.N st.s) vs))))
    (hbody : ∀ F n Z Br Bb, (⟨E.P, E.T, F, n, Z, E.N⟩ : Env).Good → (∀ W, Wrap E.Z W → Wrap Z (fun J => Bb (W J))) → ∀ vs i J h args, ys[i]? = some args → Inv vs i J h →
      CW ⟨E.P, E.T, F, n, Z, E.N⟩ assign (asgQ ⟨E.P, E.T, F, n, Z, E.N⟩ Br Bb J body (bodyQ ⟨E.P, E.T, F, n, Z, E.N⟩ Bb st.J G vs (Inv vs (i + 1)) Q)) ⟨Br J, psets ps.toList args (listS (slotsL E.N st.s)), h⟩)
    (hsee : ∀ vs i J h, Inv vs i J h → ∀ Z K J' ι w, Mem Z K J' h ι w → See i w)
    (hdone : ∀ vs J h, Inv vs ys.length J h → Q .normal ⟨J, listS (slotsL E.N st.s), h⟩) : CW E (.rangeFunc g ps assign body) Q st := fun ι a w r => by
  obtain ⟨Z, K, Y, hZE, r⟩ := r
  refine wpIn_rangeFunc fun fn hfn => ?_
  have hround : E.F.round = none := by rw [hF]; rfl
  rw [hround]
  obtain ⟨vf, vc, hev, hvf, hvc⟩ := fnOf_ok hg (RA_ev (C := cx Z st.h ι w) (s := st.s) (a := a) g fun t _ => r.slot t)
  obtain ⟨mk, hrec⟩ : ∃ mk : LoopState → Option Code → Loop, mk = fun s p => { state := s, pending := p, fn, tmps := a.tmps, params := ps, assign, body, defers := w.heap.size } := ⟨_, rfl⟩
  obtain ⟨w1, hw1⟩ : ∃ w1, w1 = (w.alloc (.deferred (some []))).alloc (.loop (mk .ready none)) := ⟨_, rfl⟩
  have hg1 : Grew w w1 := by rw [hw1]; exact (Grew.alloc w _).trans (Grew.alloc _ _)
  have hs1 : w1.heap.size = w.heap.size + 2 := by rw [hw1]; simp
  have hL1 : w1.heap[w.heap.size + 1]? = some (.loop (mk .ready none)) := by
    rw [hw1]; have := World.alloc_heap_new (w.alloc (.deferred (some []))) (.loop (mk .ready none)); rwa [World.size_alloc] at this
  have hD1 : w1.heap[w.heap.size]? = some (.deferred (some [])) := by
    rw [hw1]; exact (RowKit.Below.heap_alloc _ _ _ (by simp)).trans (World.alloc_heap_new w _)
  obtain ⟨L0, hL0⟩ : ∃ L0, L0 = slotsL E.N st.s := ⟨_, rfl⟩
  rw [← hL0] at hOk h0 hbody hdone
  obtain ⟨rs, hd1, hd2, hd3⟩ := r.ds
  have hgh : RAs (cx Z st.h ι w) L0 a.tmps.toList := by
    rw [hL0, ← r.size]; exact RAs_slotsL r.slot
  have m1 := (r.mem.ghost hG hgh).grew hg1
  obtain ⟨ι0, hι0⟩ : ∃ ι0 : Nat → Value, ι0 = fun j => bif Nat.beq j G then .slice none 0 0 else ι j := ⟨_, rfl⟩
  obtain ⟨hp, hhp⟩ : ∃ hp, hp = hset st.h G (some (.ghost L0 a.tmps.toList)) := ⟨_, rfl⟩
  rw [← hι0, ← hhp] at m1
  have hpG : hp G = some (.ghost L0 a.tmps.toList) := by rw [hhp, hset_same]
  let own : Nat → Prop := fun b => ∃ k, dom hp k ∧ blk (ι0 k) = some b
  have hown : ∀ b, own b → b < w.heap.size ∧ isCells w b := fun b ⟨k, hk, hb⟩ => by
    have hne : k ≠ G := by intro e; rw [hι0, e] at hb; simp [blk] at hb
    have hk' : dom st.h k := by simp only [dom, hhp, hset_ne st.h _ hne] at hk; exact hk
    have hb' : blk (ι k) = some b := by
      rw [hι0] at hb
      have : Nat.beq k G = false := Bool.eq_false_iff.2 fun h' => hne (Nat.eq_of_beq_eq_true h')
      simp only [this, cond_false] at hb; exact hb
    exact ⟨(r.mem.own k b hk' hb').2.2, r.mem.cells hk' hb'⟩
  let K1 : Nat → Prop := fun b => b < w1.heap.size
  let Y1 : Nat → Prop := fun b => Y b ∨ own b ∨ b = w.heap.size + 1
  let Z1 : Nat → Prop := fun b => Z b ∨ own b ∨ b = w.heap.size + 1
  have hZlt : ∀ b, Z b → b < w.heap.size := r.mem.Zlt
  have hrs : (w.heap.size :: rs).Nodup := List.nodup_cons.2 ⟨fun hm => by have := (Array.getElem?_eq_some_iff.1 (hd3 _ hm).1).1; omega, hd2⟩
  have x1 : ConsX E.Z a.tmps.toList (w.heap.size :: rs) G (w.heap.size + 1) (mk .ready none) K1 Y1 Z1 w1 st.J hp L0 ι0 Z Y K := by
    refine ⟨hpG, hZE.2.2, hZE.1, fun b hb => ?_, hZE.2.1, fun b hb => ?_, fun b hb => .inl hb, m1, fun b hb hk => (hk hb).elim, fun b hb => m1.Klt b hb, fun b hb => hb, fun k b hk hb => ⟨(m1.own k b hk hb).2.2, .inr (.inl ⟨k, hk, hb⟩)⟩, fun b hb => .inl (.inl hb), hL1, by show _ < _; omega, .inr (.inr rfl),
      fun hb => ?_, fun hb => ?_, hrs, fun q hq => ?_⟩
    · show b < _; have := hZlt b (hZE.1 b hb); omega
    · show b < _; have := hZlt b (hZE.2.1 b hb); omega
    · have := r.mem.Klt _ hb; omega
    · have := hZlt _ (hZE.2.1 _ hb); omega
    · rcases List.mem_cons.1 hq with rfl | hq
      · refine ⟨hD1, by show _ < _; omega, fun hy => ?_, fun hb => ?_, fun hb => ?_⟩
        · rcases hy with hy | hy | hy
          · have := hZlt _ (hZE.2.1 _ hy); omega
          · have := (hown _ hy).1; omega
          · omega
        · have := r.mem.Klt _ hb; omega
        · have := hZlt _ hb; omega
      · obtain ⟨e1, e2, e3⟩ := hd3 q hq
        have hlt := (Array.getElem?_eq_some_iff.1 e1).1
        refine ⟨by rw [hg1.block q hlt]; exact e1, by show _ < _; omega, fun hy => ?_, e2, e3⟩
        rcases hy with hy | hy | hy
        · exact e3 (hZE.2.1 _ hy)
        · obtain ⟨c, t, f, hc⟩ := (hown _ hy).2
          rw [e1] at hc; cases hc
        · omega
  let C : Nat → Jt := fun i => Cons E.Z a.tmps.toList (w.heap.size :: rs) G (w.heap.size + 1) (mk .ready none) fun J h L => Inv a.tmps.toList i J h ∧ L = L0
  let X : Jt := fun K Y Z w' => ∃ c : Code, Cons E.Z a.tmps.toList (w.heap.size :: rs) G (w.heap.size + 1) (mk .done (some c)) (fun J h L => Jumps Q c ⟨J, listS L, h⟩) K Y Z w'
  have htN : a.tmps.toList.length = E.N := by simpa using r.size
  have hspec : YieldSpec E.P (w.heap.size + 1) ys C X := by
    rintro n i args hy K Y Z W vs ⟨J, h, L, ι', Za, Ya, Ka, ⟨hInv, rfl⟩, x⟩ hYZ _ _ hv
    have hyk := hks args (List.mem_of_getElem? hy)
    have hvl := RAs_length hv
    have hrun := run_yield (P := E.P) (args := vs.toArray) x.rc (by rw [hrec]; simp [hvl, hyk.2])
    refine ⟨_, _, _, _, hrun, roundIn_of_wpIn trivial ?_⟩
    rw [hrec]
    rw [foldl_zip]
    have hgood : (⟨E.P, E.T, Fence.wide.inRound (w.heap.size + 1), n, Za, E.N⟩ : Env).Good := ⟨⟨hE.ok.T, fun f => trivial, rfl, hE.ok.mixed⟩, .inr ⟨_, rfl⟩⟩
    have hlY : Y (w.heap.size + 1) := x.ly
    have hre := round_enter (P := E.P) (T := E.T) (F := Fence.wide.inRound (w.heap.size + 1)) (n := n) x hYZ hps htN hyk.1 hv
    refine wpIn_mono (hbody _ n Za (rnd K Y Ya Za W (w.heap.size :: rs) (w.heap.size + 1) (mk .ready none)) (rnd K Y Ya Za W (w.heap.size :: rs) (w.heap.size + 1) (mk .busy none)) hgood
      (fun V hV => wrap_rnd x.ez x.zk x.yay hV) _ i J h args hy hInv ι' _ W hre) ?_
    rintro e a2 w2 ⟨st2, ι2, ⟨rfl, hJ2, hcw⟩, r2⟩
    obtain ⟨J2, s2, h2⟩ := st2
    simp only at hJ2
    subst hJ2
    obtain ⟨hrc2, r2'⟩ := round_begin x.mj hlY (mk .busy none) r2
    refine ⟨_, run_beginRound hrc2 (by rw [hrec]), ?_⟩
    have hput : w2.putObj (w.heap.size + 1) (.loop { mk .ready none with state := .busy }) = setO w2 (w.heap.size + 1) (.loop (mk .busy none)) := by rw [hrec]; rfl
    rw [hput]
    refine wpIn_mono (hcw ι2 a2 _ r2') ?_
    rintro e a3 w3 ⟨st3, ι3, hq, r3⟩
    cases e with
    | normal =>
      obtain ⟨st3, hle, J', hJ3, hI3⟩ := hq
      obtain ⟨ι3, r3⟩ := hle _ _ _ r3
      obtain ⟨J3, s3, h3⟩ := st3
      simp only at hJ3
      subst hJ3
      have ho := hOk _ _ _ _ hI3
      obtain ⟨hrc3, htu, Za', Ya', Ka', x'⟩ := round_end x (fun b hb => hb) hYZ (ho.1 hZE.2.2) (mk .ready none) r3 ho.2
      refine ⟨_, _, run_endRound none hrc3, ?_⟩
      have hput3 : w3.putObj (w.heap.size + 1) (.loop { mk .busy none with state := if (none : Option Code).isNone then .ready else .done, pending := none }) = setO w3 (w.heap.size + 1) (.loop (mk .ready none)) := by rw [hrec]; rfl
      rw [hput3]
      exact ⟨htu, .inl ⟨rfl, J', h3, _, ι3, Za', Ya', Ka', ⟨hI3, rfl⟩, x'⟩⟩
    | ret =>
      obtain ⟨st3, hle, J', L', hm, hJ3, hG3, hq3⟩ := hq
      obtain ⟨ι3, r3⟩ := hle _ _ _ r3
      obtain ⟨J3, s3, h3⟩ := st3
      simp only at hJ3
      subst hJ3
      obtain ⟨hrc3, htu, Za', Ya', Ka', x'⟩ := round_end x (fun b hb => hb) hYZ (hm hZE.2.2) (mk .done (some .ret)) r3 hG3
      refine ⟨_, _, run_endRound (some .ret) hrc3, ?_⟩
      have hput3 : w3.putObj (w.heap.size + 1) (.loop { mk .busy none with state := if (some Code.ret).isNone then .ready else .done, pending := some Code.ret }) = setO w3 (w.heap.size + 1) (.loop (mk .done (some .ret))) := by rw [hrec]; rfl
      rw [hput3]
      exact ⟨htu, .inr ⟨rfl, .ret, J', h3, L', ι3, Za', Ya', Ka', .inl ⟨rfl, hq3⟩, x'⟩⟩
    | exit id =>
      obtain ⟨st3, hle, J', L', hm, hJ3, hG3, hq3⟩ := hq
      obtain ⟨ι3, r3⟩ := hle _ _ _ r3
      obtain ⟨J3, s3, h3⟩ := st3
      simp only at hJ3
      subst hJ3
      obtain ⟨hrc3, htu, Za', Ya', Ka', x'⟩ := round_end x (fun b hb => hb) hYZ (hm hZE.2.2) (mk .done (some (.exit id))) r3 hG3
      refine ⟨_, _, run_endRound (some (.exit id)) hrc3, ?_⟩
      have hput3 : w3.putObj (w.heap.size + 1) (.loop { mk .busy none with state := if (some (Code.exit id)).isNone then .ready else .done, pending := some (Code.exit id) }) = setO w3 (w.heap.size + 1) (.loop (mk .done (some (.exit id)))) := by rw [hrec]; rfl
      rw [hput3]
      exact ⟨htu, .inr ⟨rfl, .exit id, J', h3, L', ι3, Za', Ya', Ka', .inr ⟨id, rfl, hq3⟩, x'⟩⟩
    | goto t => exact hq.elim
    | panic c => exact hq.elim
    | outgrown => exact hq.elim
  have hcf : ∀ ags : Array Value, (callFunc f ags).run E.P w1 = .ok (.enter f ags) w1 := by
    intro ags
    obtain ⟨fn, k1, k2, k3⟩ := hI.1
    unfold callFunc
    rw [Sem.run_bind]
    simp only [program, Sem.run, Result.andThen_ok, k1, k2, k3, Bool.false_eq_true, if_false]
    rfl
  refine ⟨w.heap.size + 1, [markOf w.heap.size], w1, { target := .fn (.func f) vc, args := vf ++ #[.func (.yield (w.heap.size + 1)) #[] #[]] }, w1, f, vf ++ #[.func (.yield (w.heap.size + 1)) #[] #[]] ++ vc, w1, ?_, ?_, fun f' _ => hE.wide.fn f', ?_, fun hx => (by rw [hE.wide.depth] at hx; cases hx), ?_⟩
  · rw [hw1, hrec]; exact run_enterLoop_outer _ _ _ _ _
  · simp only [resolve, hev]; simp [Deferred.ofValue, Act.eval]
  · simp [invoke, hcf]
  · have hk : Keeps w w1 (cx Z st.h ι w).M (cx Z1 noHeap noι w1).M := by
      refine ⟨fun b o u _ hc => cell_grew hg1 hc, fun b _ hi => hi.grew hg1, fun b hi hm hm' => ?_⟩
      rcases hm' with (hz | ⟨k, hk, hb⟩ | hz) | ⟨k, hk, _⟩
      · exact hm (.inl hz)
      · have hne : k ≠ G := by intro e; rw [hι0, e] at hb; simp [blk] at hb
        have hk' : dom st.h k := by simp only [dom, hhp, hset_ne st.h _ hne] at hk; exact hk
        have hb' : blk (ι k) = some b := by
          rw [hι0] at hb
          have : Nat.beq k G = false := Bool.eq_false_iff.2 fun h' => hne (Nat.eq_of_beq_eq_true h')
          simp only [this, cond_false] at hb; exact hb
        exact hm (.inr ⟨k, hk', hb'⟩)
      · have := hi.lt; omega
      · simp [dom, noHeap] at hk
    have hargs : RAs (cx Z1 noHeap noι w1) (first ++ .d (.fn (.yield (w.heap.size + 1)) [] []) :: cap) (vf ++ #[Value.func (Fn.yield (w.heap.size + 1)) #[] #[]] ++ vc).toList := by
      have e1 := RAs_kf (C := cx Z st.h ι w) (C' := cx Z1 noHeap noι w1) hk _ _ hkf hvf
      have e2 := RAs_kf (C := cx Z st.h ι w) (C' := cx Z1 noHeap noι w1) hk _ _ hkc hvc
      have e3 : RA (cx Z1 noHeap noι w1) (.d (.fn (.yield (w.heap.size + 1)) [] [])) (.func (.yield (w.heap.size + 1)) #[] #[]) := by
        simp [RA, RD, RDs]
      have e4 := RAs_append e1 (show RAs (cx Z1 noHeap noι w1) (.d (.fn (.yield (w.heap.size + 1)) [] []) :: cap) (.func (.yield (w.heap.size + 1)) #[] #[] :: vc.toList) by simp only [RAs]; exact ⟨_, _, rfl, e3, e2⟩)
      simpa using e4
    have e5 : RAs (cx Z1 noHeap noι w1) cs0 vs0 := by
      have h2 := (r.mem.ent G2 _ hG2).2
      simp only [RAs] at h2
      obtain ⟨_, _, e, _, h2⟩ := h2
      cases e
      exact RAs_kf (C := cx Z st.h ι w) (C' := cx Z1 noHeap noι w1) hk _ _ hk0 h2
    have hcall := hI.2 (E.n - 1) (w.heap.size + 1) C X (fun i => mono_cons) (mono_ex fun c => mono_cons) hspec (fun i K Y Z w ⟨J, h, L, ι', Za, Ya, Ka, hInv, x⟩ => hsee _ i J h hInv.1 _ _ _ _ _ x.mem) K1 Y1 Z1 w1 _ ⟨st.J, hp, L0, ι0, Z, Y, K, ⟨by rw [hhp]; exact h0 _, rfl⟩, x1⟩ (fun b hb => hb.imp (hZE.2.1 b) (fun h => h)) (fun b hb => hb)
      (fun b hb => by
        show b < _
        rcases hb with hb | hb | hb
        · have := hZlt b hb; omega
        · have := (hown b hb).1; omega
        · omega) hargs e5
    rw [Array.toArray_toList] at hcall
    refine (hE.wide.calls hcall).mono ?_
    rintro e w2 ⟨v, K', Y', Z', rfl, hC | hX⟩
    · obtain ⟨J, h, L, ι', Za, Ya, Ka, ⟨hInv, hLL⟩, x⟩ := hC
      subst hLL
      exact ⟨none, _, by have := run_endLoop (P := E.P) x.rc (by rw [hrec]; simp); rw [hrec] at this; exact this, ⟨J, listS _, h⟩, ι', hdone _ _ _ hInv, cons_leave x _ rfl htN (by simp [hd1])⟩
    · obtain ⟨c, J, h, L, ι', Za, Ya, Ka, hj, x⟩ := hX
      refine ⟨some c, _, by have := run_endLoop (P := E.P) x.rc (by rw [hrec]; simp); rw [hrec] at this; exact this, ?_⟩
      rcases hj with ⟨rfl, hq⟩ | ⟨id, rfl, hq⟩
      · exact wpIn_ret ⟨_, ι', hq, cons_leave x _ rfl htN (by simp [hd1])⟩
      · exact wpIn_exit ⟨_, ι', hq, cons_leave x _ rfl htN (by simp [hd1])⟩
end Go.AL
namespace Go.AL
set_option linter.unusedVariables false
set_option linter.unusedSimpArgs false
section
variable {P : Program} {T : Nat → Option TI} (hT : TOk P T)
include hT
theorem run_eqPrefix {d : Nat} {w w' : World} {M : Nat → Prop} {xs ys : Array Value} (rest : List Field) : ∀ (fields : List Field) (i : Nat) (X Y : List D) (r : Bool), flatK T (fields.map fun f => (f.type, f.offset)) i = true → (fields.all fun f => !(f.name == "_")) = true →
    kindsD T (fields.map fun f => (f.type, f.offset)) X = true → (∀ j x v, X[j]? = some x → xs[i + j]? = some v → RD w' M x v) → (∀ j y v, Y[j]? = some y → ys[i + j]? = some v → RD w' M y v) → i + X.length ≤ xs.size → i + Y.length ≤ ys.size → X.length = Y.length →
    eqDs X Y = some r → ∀ s, (Op.eqFields (d + 1) xs ys rest).run P w = .ok s w → (Op.eqFields (d + 1) xs ys (fields ++ rest)).run P w = .ok (r && s) w
  | [], i, X, Y, r, _, _, hk, _, _, _, _, hl, he => fun s hs => by
    cases X with
    | nil =>
      cases Y with
      | nil => simp [eqDs] at he; subst he; simpa using hs
      | cons y ys => simp at hl
    | cons x xs => simp [kindsD] at hk
  | f :: fields, i, [], Y, r, _, _, hk, _, _, _, _, hl, he => fun s hs => by simp [kindsD] at hk
  | f :: fields, i, x :: X, [], r, _, _, hk, _, _, _, _, hl, he => fun s hs => by simp at hl
  | f :: fields, i, x :: X, y :: Y, r, hf, hn, hk, hx, hy, hxs, hys, hl, he => fun s hs => by
    simp only [List.map_cons, flatK, Bool.and_eq_true] at hf
    obtain ⟨⟨ho, hti⟩, hf⟩ := hf
    have ho : f.offset = i := Nat.eq_of_beq_eq_true ho
    cases ht : T f.type with
    | none => rw [ht] at hti; cases hti
    | some ti =>
      rw [ht] at hti
      simp only [Bool.and_eq_true] at hti
      have hsz : ti.size = 1 := Nat.eq_of_beq_eq_true hti.2
      simp only [List.all_cons, Bool.and_eq_true, Bool.not_eq_true', beq_eq_false_iff_ne, ne_eq] at hn
      simp only [List.map_cons, kindsD, ht, Bool.and_eq_true] at hk
      have hagg : ti.k.isAgg = false := by
        have := hti.1
        cases h : ti.k <;> simp [TK.basic, h] at this <;> rfl
      simp only [List.length_cons] at hxs hys hl
      have hxi : i < xs.size := by omega
      have hyi : i < ys.size := by omega
      have px : (part f.type xs f.offset).run P w = .ok xs[i] w := by
        have ha := run_agg hT ht w
        rw [hagg] at ha
        simp [part, ha, ho, hxi]
      have py : (part f.type ys f.offset).run P w = .ok ys[i] w := by
        have ha := run_agg hT ht w
        rw [hagg] at ha
        simp [part, ha, ho, hyi]
      have hrx := hx 0 x xs[i] rfl (by simp [hxi])
      have hry := hy 0 y ys[i] rfl (by simp [hyi])
      have one : ∀ q, eqD x y = some q → (Op.equalIn (d + 1) f.type xs[i] ys[i]).run P w = .ok q w := fun q hq => by
        have hkd := hk.1
        refine run_eqD hT ht hti.1 hrx hry hq ?_ ?_ ?_ ?_
        · unfold eqD at hq
          split at hq <;> first | exact ⟨_, rfl⟩ | cases hq
        · rintro k n rfl; cases h : ti.k <;> simp [kindD, h] at hkd; simp [hkd]
        · rintro n rfl; cases h : ti.k <;> simp [kindD, h] at hkd; rfl
        · rintro n rfl; cases h : ti.k <;> simp [kindD, h] at hkd; rfl
      have step : ∀ q s, eqD x y = some q → (Op.eqFields (d + 1) xs ys (fields ++ rest)).run P w = .ok s w → (Op.eqFields (d + 1) xs ys (f :: (fields ++ rest))).run P w = .ok (q && s) w := fun q s hq hs => by
        simp only [Op.eqFields, if_pos hn.1, Sem.run_bind, px, py, one q hq, Result.andThen_ok]
        cases q
        · simp
        · simpa using hs
      have hx' : ∀ j x v, X[j]? = some x → xs[i + 1 + j]? = some v → RD w' M x v := fun j x v h1 h2 => hx (j + 1) x v (by simpa using h1) (by rw [← h2]; congr 1; omega)
      have hy' : ∀ j y v, Y[j]? = some y → ys[i + 1 + j]? = some v → RD w' M y v := fun j y v h1 h2 => hy (j + 1) y v (by simpa using h1) (by rw [← h2]; congr 1; omega)
      have ih := fun q hq => run_eqPrefix (d := d) (w := w) (w' := w') (M := M) (xs := xs) (ys := ys) rest fields (i + 1) X Y q hf (by simpa using hn.2) hk.2 hx' hy' (by omega) (by omega) (by omega) hq s hs
      cases X with
      | nil =>
        cases Y with
        | nil =>
          simp only [eqDs] at he
          have := step r _ he (ih true rfl)
          simpa using this
        | cons y2 Y => simp at hl
      | cons x2 X =>
        simp only [eqDs] at he
        split at he
        · rename_i q s' hq hs'
          cases he
          have := step q _ hq (ih s' hs')
          rwa [← Bool.and_assoc] at this
        · cases he
theorem eqLaw_tail {t : TypeId} {fs fs2 : List (TypeId × Nat)} {t2 o2 : Nat} {z1 z2 : Nat} {z3 : List Value} (ht : T t = some ⟨.struct (fs ++ [(t2, o2)]), z1, z2, z3⟩) (hok : eqOkB P t = true) (hfl : flatK T fs 0 = true) {X Y X2 Y2 : List D} (hk : kindsD T fs X = true) (hl : X.length = Y.length)
    {r1 : Bool} (he : eqDs X Y = some r1) {y1 y2 : Nat} {y3 : List Value} (ht2 : T t2 = some ⟨.struct fs2, y1, y2, y3⟩) (hok2 : eqOkB P t2 = true) (hfl2 : flatK T fs2 0 = true) (hk2 : kindsD T fs2 X2 = true) (hl2 : X2.length = Y2.length) (hs2 : Nat.beq X2.length y1 = true) (ho2 : Nat.beq X.length o2 = true)
    {r2 : Bool} (he2 : eqDs X2 Y2 = some r2) : EqLaw P t ((X ++ X2).map .d) ((Y ++ Y2).map .d) (r1 && r2) := by
  intro C xs ys w xo yo hx hy
  have hs2 := Nat.eq_of_beq_eq_true hs2
  have ho2 := Nat.eq_of_beq_eq_true ho2
  obtain ⟨fields, hu, hfs⟩ := (hT t _ ht).2
  obtain ⟨fields2, hu2, hfs2⟩ := (hT t2 _ ht2).2
  unfold eqOkB at hok hok2
  rw [hu] at hok
  rw [hu2] at hok2
  simp only [Bool.and_eq_true, Bool.not_eq_true'] at hok hok2
  obtain ⟨⟨hn, hsh⟩, hg⟩ := hok
  obtain ⟨⟨hn2, hsh2⟩, hg2⟩ := hok2
  have hx' := RAs_map_d.1 hx
  have hy' := RAs_map_d.1 hy
  have get : ∀ {Z : List D} {zs : Array Value}, RDs C.w C.M Z zs.toList → ∀ (j : Nat) (x : D) (v : Value), Z[j]? = some x → zs[j]? = some v → RD C.w C.M x v := fun {Z zs} hz j x v h1 h2 => by
    obtain ⟨v', e, h3⟩ := RAs_get (C := C) (RAs_map_d.2 hz) (i := j) (x := .d x) (by simp [h1])
    have : v' = v := by
      have e' : zs[j]? = some v' := by simpa using e
      rw [h2] at e'; exact (Option.some.inj e').symm
    subst this
    exact h3
  have hlx : xs.size = X.length + X2.length := by have := RDs_length hx'; simpa using this
  have hly : ys.size = Y.length + Y2.length := by have := RDs_length hy'; simpa using this
  have hfd : P.fieldsOf t = fields := by simp [Program.fieldsOf, hu]
  have hfd2 : P.fieldsOf t2 = fields2 := by simp [Program.fieldsOf, hu2]
  -- the fields are fs' ++ [g]
  obtain ⟨F, g, hF⟩ : ∃ F g, fields.toList = F ++ [g] := by
    rcases List.eq_nil_or_concat fields.toList with e | ⟨F, g, e⟩
    · rw [e] at hfs; simp at hfs
    · exact ⟨F, g, by rw [e, List.concat_eq_append]⟩
  rw [hF] at hfs hn
  simp only [List.map_append, List.map_cons, List.map_nil] at hfs
  obtain ⟨hfs1, hg'⟩ := List.append_inj' hfs rfl
  simp only [List.cons.injEq, and_true, Prod.mk.injEq] at hg'
  obtain ⟨hgt, hgo⟩ := hg'
  simp only [List.all_append, List.all_cons, List.all_nil, Bool.and_true, Bool.and_eq_true, Bool.not_eq_true', beq_eq_false_iff_ne, ne_eq] at hn
  obtain ⟨hnF, hng⟩ := hn
  have hpart : ∀ zs : Array Value, (part g.type zs g.offset).run P w = .ok (.agg (zs.extract o2 (o2 + y1))) w := fun zs => by
    have ha := run_agg hT ht2 w
    have hs := run_size hT ht2 w
    rw [hgt, hgo]
    simp only [TK.isAgg] at ha
    simp [part, ha, hs]
  have rec2 : (Op.equalIn 9999 g.type (.agg (xs.extract o2 (o2 + y1))) (.agg (ys.extract o2 (o2 + y1)))).run P w = .ok r2 w := by
    rw [hgt, run_equalIn_struct (P := P) w 9998 t2 _ _ (by rw [hfd2]; exact hu2) hsh2, hfd2]
    refine run_eqFields hT (w' := C.w) (M := C.M) fields2.toList 0 X2 Y2 r2 (by rw [hfs2]; exact hfl2) hn2 (by rw [hfs2]; exact hk2) (fun j x v h1 h2 => ?_) (fun j x v h1 h2 => ?_) (by simp; omega) (by simp; omega) hl2 he2
    · have hj := (List.getElem?_eq_some_iff.1 h1).1
      refine get hx' (X.length + j) x v (by rw [List.getElem?_append_right (by omega)]; simpa using h1) ?_
      rw [Nat.zero_add, Array.getElem?_extract] at h2
      split at h2
      · rw [← h2]; congr 1; omega
      · cases h2
    · have hj := (List.getElem?_eq_some_iff.1 h1).1
      refine get hy' (Y.length + j) x v (by rw [List.getElem?_append_right (by omega)]; simpa using h1) ?_
      rw [Nat.zero_add, Array.getElem?_extract] at h2
      split at h2
      · rw [← h2]; congr 1; omega
      · cases h2
  have last : (Op.eqFields 9999 xs ys [g]).run P w = .ok r2 w := by
    simp only [Op.eqFields, if_pos hng, Sem.run_bind, hpart, rec2, Result.andThen_ok]
    cases r2 <;> simp
  have run : (Op.equalIn 10000 t (.agg xs) (.agg ys)).run P w = .ok (r1 && r2) w := by
    rw [run_equalIn_struct (P := P) w 9999 t xs ys (by rw [hfd]; exact hu) hsh, hfd, hF]
    refine run_eqPrefix hT (d := 9998) (w' := C.w) (M := C.M) [g] F 0 X Y r1 (by rw [hfs1]; exact hfl) (by simpa using hnF) (by rw [hfs1]; exact hk) (fun j x v h1 h2 => ?_) (fun j x v h1 h2 => ?_) (by omega) (by omega) hl he r2 last
    · have hj := (List.getElem?_eq_some_iff.1 h1).1
      exact get hx' j x v (by rw [List.getElem?_append_left hj]; exact h1) (by simpa using h2)
    · have hj := (List.getElem?_eq_some_iff.1 h1).1
      exact get hy' j x v (by rw [List.getElem?_append_left hj]; exact h1) (by simpa using h2)
  have run' : (Op.equal t (.agg xs) (.agg ys)).run P w = .ok (r1 && r2) w := run
  constructor
  · simp only [Sem.run_bind, run_eqGuard_agg w .eql t xo yo xs ys hg, Result.andThen_ok]
    simp [binOp, run']
  · simp only [Sem.run_bind, run_eqGuard_agg w .neq t xo yo xs ys hg, Result.andThen_ok]
    simp [binOp, run']
end
end Go.AL
namespace Go.AL
set_option linter.unusedVariables false
set_option linter.unusedSimpArgs false
section
variable {E : Env} {ops : List Oper} {Y : Nat → Slots → AV → Prop}
theorem wpAnyIn_of_headN {J : Jt} (H : (Nat → Bool) → Heap) (N : AV → Prop) (q : Nat) (hN : ∀ i s x, Y i s x → i = q ∨ N x) {n g : Nat} {L : Array Bool → Slots → Prop} {Q' : Exit → Act → World → Prop}
    (hop : ∀ i o listed s x, ops[i]? = some o → HeadInv .any ops.toArray n listed → i ∈ Region.ready .any ops.toArray listed → i < n → (bits listed q = false → ∀ t, N (s t)) → Y i s x → dstOk E.N o.dst = true → ∀ ι a w, RelS E ⟨J, s, H (bits listed)⟩ ι a w → ∀ (K' : Act → World → Prop),
      (∀ ι' a' w', RelS E ⟨J, pu s o.dst x, H (bits (listed.setIfInBounds i true))⟩ ι' a' w' → K' a' w') → wpOpIn E.F E.n E.P ops.toArray Q' i K' a w)
    (hL : ∀ listed s ι a w, RelS E ⟨J, s, H (bits listed)⟩ ι a w → L listed s → wpAnyIn E.F E.n E.P .any ops.toArray Q' g listed a w) :
    ∀ (f : Nat) (listed : Array Bool) (s : Slots) (ι : Nat → Value) (a : Act) (w : World), HeadInv .any ops.toArray n listed → (bits listed q = false → ∀ t, N (s t)) → RelS E ⟨J, s, H (bits listed)⟩ ι a w → anyB E ops Y n L f listed s → wpAnyIn E.F E.n E.P .any ops.toArray Q' (f + g) listed a w
  | 0, listed, s, ι, a, w, _, _, r, hh => by rw [Nat.zero_add]; exact hL _ _ _ _ _ r hh
  | f + 1, listed, s, ι, a, w, inv, hS, r, hh => by
    rw [show f + 1 + g = (f + g) + 1 by omega]
    refine ⟨fun h0 => absurd h0 hh.1, fun i hi => ?_⟩
    obtain ⟨hin, hq⟩ := hh.2 i hi
    obtain ⟨hun, o, ho, _⟩ := mem_ready.1 hi
    have ho' : ops[i]? = some o := by simpa using ho
    unfold qB at hq
    simp only [ho'] at hq
    obtain ⟨x, h1, h2, h3⟩ := hq
    have hS' : bits (listed.setIfInBounds i true) q = false → ∀ t, N (pu s o.dst x t) := fun hb t => by
      have hiq : i ≠ q := by
        intro e; subst e
        have hsz : i < listed.size := by
          rw [inv.size]
          have := (List.getElem?_eq_some_iff.1 ho').1
          simpa using this
        simp [bits, hsz] at hb
      have hb' : bits listed q = false := by rw [← hb]; exact (getD_set_ne false hiq).symm
      have hx := (hN i s x h2).resolve_left hiq
      have hs := hS hb'
      unfold pu
      cases o.dst with
      | none => exact hs t
      | some d =>
        show N (sset s d x t)
        by_cases htd : t = d
        · subst htd; rw [sset_same]; exact hx
        · rw [sset_ne _ _ htd]; exact hs t
    exact hop i o listed s x ho' inv hi hin hS h2 h1 ι a w r _ fun ι' a' w' r' => wpAnyIn_of_headN H N q hN hop hL f _ _ ι' a' w' (inv.set hi hin) hS' r' h3
end
def YR (h h1 : Heap) (q k : Nat) (E : Env) (ops : List Oper) (J : Jt) (i : Nat) (s : Slots) (x : AV) : Prop :=
  (i = q ∧ ∃ o, ops[i]? = some o ∧ o.guard = none ∧ ∀ s1, (∀ t ∈ o.looksAt ops.toArray, s1 t = s t) → (∀ t, nokey k (s1 t) = true) → OpG E o ⟨J, s1, h⟩ (fun st' => st' = ⟨J, pu s1 o.dst x, h1⟩)) ∨
  (i ≠ q ∧ nokey k x = true ∧ ∃ o, ops[i]? = some o ∧ ∀ b : Bool, YA E ops J (bif b then h1 else h) o s x)
def HRW (h h1 : Heap) (q k : Nat) (E : Env) (ops : List Oper) (J : Jt) (n i : Nat) (K : Slots → Prop) (s : Slots) : Prop := QB E (YR h h1 q k E ops J) K ((ops.take n).drop i) i s
section
variable {E : Env} {ops : List Oper} {Q : Exit → St → Prop} {J : Jt} {s : Slots} {h : Heap}
theorem CW_drawnR (hE : E.Good) (n q k : Nat) {h1 : Heap} {id : Nat} (hB : Region.lexTailB .any ops.toArray n = true) (hqn : Nat.ble (q + 1) n = true) (hS : ∀ t, nokey k (s t) = true)
    (hq : HRW h h1 q k E ops J n 0 (fun s => OW E ops n Q ⟨J, s, h1⟩) s) : CW E (.region id ops.toArray true) Q ⟨J, s, h⟩ := fun ι a w r => by
  have hqn := Nat.le_of_ble_eq_true hqn
  simp only [Region.lexTailB, Bool.and_eq_true, decide_eq_true_eq] at hB
  obtain ⟨⟨⟨⟨hsel, hn⟩, hs⟩, hc⟩, hlex⟩ := hB
  have hn' : n < ops.length := by simpa using hn
  have htl : (ops.take n).length = n := by simp; omega
  have hdl : (ops.drop n).length = ops.toArray.size - n := by simp
  have inv0 : HeadInv .any ops.toArray n (Array.replicate ops.toArray.size false) :=
    ⟨by simp, fun j oj _ hl => (by rw [getD_replicate_false] at hl; cases hl), fun t _ ht => getD_in (by simpa using ht) (getD_replicate_false _ _)⟩
  have hYS : YStable ops (YR h h1 q k E ops J) := by
    intro i o s s' x ho hss hy
    rcases hy with ⟨g1, o', g2, g3, g4⟩ | ⟨g1, g2, o', g3, g4⟩
    · have hoo : o' = o := by rw [ho] at g2; exact (Option.some.inj g2).symm
      subst hoo
      exact .inl ⟨g1, o', g2, g3, fun s1 hs1 => g4 s1 fun t ht => (hs1 t ht).trans (hss t ht)⟩
    · have hoo : o' = o := by rw [ho] at g3; exact (Option.some.inj g3).symm
      subst hoo
      exact .inr ⟨g1, g2, o', g3, fun b => YA_same hss (g4 b)⟩
  have H0 := anyB_lex (E := E) (Y := YR h h1 q k E ops J) (g := ops.toArray.size - n) hYS hs hc hn (ops.take n) 0 _ s (fun j hj => by
    have hj' : j < n := by rw [htl] at hj; exact hj
    simp [hj']) (by simpa using htl) inv0 (fun j hj => by omega) (by rw [htl]; exact hlex) (by simpa [HRW] using hq)
  have b0 : bits (Array.replicate ops.toArray.size false) q = false := getD_replicate_false _ _
  have r1 : RelS E ⟨J, s, (fun b : Nat → Bool => (bif b q then h1 else h)) (bits (Array.replicate ops.toArray.size false))⟩ ι a { w with drawn := w.drawn + 1 } := by
    show RelS E ⟨J, s, bif bits _ q then h1 else h⟩ _ _ _
    rw [b0]
    obtain ⟨Z, K, Y, hZE, r⟩ := r
    exact ⟨Z, K, Y, hZE, r.mem.grew (Grew.drew w), r.size, fun i => RA_keeps (keepsC_grew (K := K) (J := J K Y Z) (Grew.drew w)) _ _ (r.slot i), r.ds.grew (Grew.drew w)⟩
  refine wpIn_region_any hE.ok.mixed ?_
  have hh := wpAnyIn_of_headN (Y := YR h h1 q k E ops J) (J := J) (Q' := Post E Q) (fun b => bif b q then h1 else h) (fun x => nokey k x = true) q (fun i s x hy => hy.imp (fun h => h.1) (fun h => h.2.1)) (g := ops.toArray.size - n) (fun i o listed s x ho inv hi hin hSl hy hdo ι a w r K' hk' => ?_) (fun listed s ι a' w' r' hL => by
    have hH : bits listed q = true := hL.1.2 q hqn
    have r' : RelS E ⟨J, s, bif bits listed q then h1 else h⟩ ι a' w' := r'
    rw [hH] at r'
    have := wpAnyIn_of_seq (Q' := Post E Q) (ops.drop n) n listed a' w' (fun j => by simp [List.getElem?_drop]) (by rw [hdl]; exact hL.1.1) (hL.2 ι a' w' r')
    rwa [hdl] at this) _ _ _ ι a _ inv0 (fun _ => hS) r1 H0
  · rw [htl] at hh
    rwa [show n + (ops.toArray.size - n) = ops.toArray.size by simp; omega] at hh
  · have hun : listed.getD i true = false := (mem_ready.1 hi).1
    have hst' : ∀ j, j ≠ i → bits (listed.setIfInBounds i true) j = bits listed j := fun j hj => getD_set_ne false (Ne.symm hj)
    have hsz : i < listed.size := by
      rw [inv.size]
      have := (List.getElem?_eq_some_iff.1 ho).1
      simpa using this
    have hseti : bits (listed.setIfInBounds i true) i = true := by simp [bits, hsz]
    have b1 : bits listed i = false := getD_both hun
    rcases hy with ⟨g1, o', g2, hgd, g4⟩ | ⟨g1, g2, o', g3, g4⟩
    · have hoo : o' = o := by rw [ho] at g2; exact (Option.some.inj g2).symm
      subst hoo
      subst g1
      have g := g4 s (fun _ _ => rfl) (hSl b1)
      unfold wpOpIn
      simp only [List.getElem?_toArray, ho]
      rw [if_pos (by simp [Region.wanted, hgd])]
      have r : RelS E ⟨J, s, bif bits listed i then h1 else h⟩ ι a w := r
      rw [b1] at r
      refine g ι a w r K' (Post E Q) fun st' ι' a' w' hst r' => ?_
      subst hst
      refine hk' ι' a' w' ?_
      show RelS E ⟨J, _, bif bits _ i then h1 else h⟩ _ _ _
      rw [hseti]; exact r'
    · have hoo : o' = o := by rw [ho] at g3; exact (Option.some.inj g3).symm
      subst hoo
      refine wpOpIn_of_qA (J := J) (h := bif bits listed q then h1 else h) (K := fun s' => s' = pu s o'.dst x) hE r (fun s' a' w' r' hs' => ?_) ?_
      · subst hs'
        refine hk' ι a' w' ?_
        show RelS E ⟨J, _, bif bits _ q then h1 else h⟩ _ _ _
        rw [hst' q (Ne.symm g1)]; exact r'
      · unfold qA
        simp only [ho]
        exact ⟨x, hdo, g4 _, rfl⟩
variable {n i q k : Nat} {h1 : Heap} {K : Slots → Prop}
theorem HR_cons {o : Oper} (ho : ops[i]? = some o) (hi : Nat.ble (i + 1) n = true) {x : AV} (hd : dstOk E.N o.dst = true) (hy : YR h h1 q k E ops J i s x) (hk : HRW h h1 q k E ops J n (i + 1) K (pu s o.dst x)) : HRW h h1 q k E ops J n i K s := by
  unfold HRW at *
  have hi' := Nat.le_of_ble_eq_true hi
  obtain ⟨hlt, rfl⟩ := List.getElem?_eq_some_iff.1 ho
  have hlt2 : i < (ops.take n).length := by simp; omega
  rw [List.drop_eq_getElem_cons hlt2, List.getElem_take]
  exact ⟨x, hd, hy, hk⟩
theorem HR_end (hk : K s) : HRW h h1 q k E ops J n n K s := by
  unfold HRW
  rw [List.drop_eq_nil_of_le (by simp; omega)]
  exact hk
def runPureK (E : Env) (k : Nat) (ops : List Oper) (h : Heap) : Nat → Nat → Slots → Option Slots
  | 0, _, s => some s
  | m + 1, i, s => match ops[i]? with
    | some o => match awant ops o s with
      | some true => match stepPure E.T h s o.op with
        | some R => bif nokey k R then match putS E.N s o.dst R with
          | some s' => runPureK E k ops h m (i + 1) s'
          | none => none else none
        | none => none
      | some false => match putS E.N s o.dst (.tup []) with
        | some s' => runPureK E k ops h m (i + 1) s'
        | none => none
      | none => none
    | none => none
theorem HR_run (hE : E.Good) (m : Nat) {h0 : Heap} {s' : Slots} (ha : ∀ j e, h0 j = some e → h j = some e) (hb : ∀ j e, h0 j = some e → h1 j = some e) (hp : runPureK E k ops h0 m i s = some s') (hi : Nat.ble (i + m) n = true) (hq : (Nat.ble (i + m) q || Nat.ble (q + 1) i) = true)
    (hk : HRW h h1 q k E ops J n (i + m) K s') : HRW h h1 q k E ops J n i K s := by
  have more : ∀ (b : Bool) j e, h0 j = some e → (bif b then h1 else h) j = some e := fun b j e hj => by cases b; exact ha j e hj; exact hb j e hj
  have n1 : ∀ p, i ≤ p → p < i + m → p ≠ q := fun p a b e => by
    subst e
    simp only [Bool.or_eq_true] at hq
    rcases hq with hq | hq <;> have := Nat.le_of_ble_eq_true hq <;> omega
  clear hq
  induction m generalizing i s with
  | zero => simp only [runPureK, Option.some.injEq] at hp; subst hp; exact hk
  | succ m ih =>
    have hi' := Nat.le_of_ble_eq_true hi
    have hi1 : Nat.ble (i + 1) n = true := Nat.ble_eq_true_of_le (by omega)
    have hi2 : Nat.ble (i + 1 + m) n = true := Nat.ble_eq_true_of_le (by omega)
    have a1 := n1 i (Nat.le_refl _) (by omega)
    simp only [runPureK] at hp
    split at hp
    · rename_i o ho
      split at hp
      · rename_i hw
        split at hp
        · rename_i R hR
          cases hnk : nokey k R with
          | false => rw [hnk] at hp; cases hp
          | true =>
            rw [hnk] at hp
            simp only [cond_true] at hp
            split at hp
            · rename_i s1 hs1
              obtain ⟨hd, rfl⟩ := pu_of_putS hs1
              refine HR_cons ho hi1 hd (.inr ⟨a1, hnk, o, ho, fun b => .inl ⟨hw, LY_of_gives hE (stepPure_notDefer hR) fun Z K Y ι a w m hl => stepPure_ok (K := K) (J := J K Y Z) hE.ok.T m o (look_ev hl) (stepPure_more (more b) hR)⟩⟩) (ih hp hi2 ?_ (fun q a b => n1 q (by omega) (by omega)))
              rwa [show i + 1 + m = i + (m + 1) by omega]
            · cases hp
        · cases hp
      · rename_i hw
        split at hp
        · rename_i s1 hs1
          obtain ⟨hd, rfl⟩ := pu_of_putS hs1
          refine HR_cons ho hi1 hd (.inr ⟨a1, rfl, o, ho, fun b => .inr ⟨hw, rfl⟩⟩) (ih hp hi2 ?_ (fun q a b => n1 q (by omega) (by omega)))
          rwa [show i + 1 + m = i + (m + 1) by omega]
        · cases hp
      · cases hp
    · cases hp
theorem HR_loc (hE : E.Good) {o : Oper} {R : AV} (hl : ∀ b : Bool, Loc E ops J (bif b then h1 else h) o s R) (ho : ops[i]? = some o) (hi : Nat.ble (i + 1) n = true) (hw : awant ops o s = some true) {s' : Slots} (hs : putS E.N s o.dst R = some s') (hq : Nat.beq i q = false) (hnk : nokey k R = true) (hk : HRW h h1 q k E ops J n (i + 1) K s') : HRW h h1 q k E ops J n i K s := by
  obtain ⟨hd, rfl⟩ := pu_of_putS hs
  exact HR_cons ho hi hd (.inr ⟨fun e => (by subst e; simp at hq), hnk, o, ho, fun b => .inl ⟨hw, LY_of_gives hE (hl b).1 fun Z K Y ι a w m hlk => (hl b).2 Z K Y ι a w m (look_ev hlk)⟩⟩) hk
theorem unkS_self {k : Nat} {s : Slots} (h : ∀ t, nokey k (s t) = true) : unkS k s = s := by
  funext t
  simp [unkS, unk, h t]
variable {st : St}
theorem OW_appendLit (hE : E.Good) {key G : Nat} {v0 : Value} {cs0 : List AV} {vs0 : List Value} (hG : st.h G = some (.ghost (.row key :: cs0) (v0 :: vs0))) {o : Oper} {t e : TypeId} {so xo : Operand} (ho : ops[i]? = some o) (hop : o.op = .call ⟨.builtin .append, #[so, xo], #[t, t]⟩) (hw : awant ops o st.s = some true) {z1 z2 : Nat} {z3 : List Value} (ht : E.T t = some ⟨.slice e, z1, z2, z3⟩)
    {k : TK} {sz bts : Nat} {z6 : List Value} (hte : E.T e = some ⟨k, sz, bts, z6⟩) (hpos : Nat.ble 1 sz = true) (hso : ev st.s so = .d (.lit v0)) {xs : List (List D)} (hkey : st.h key = some (.row e sz xs)) {ys : List (List D)} (hxo : ev st.s xo = .d (.sl sz bts ys) ∨ (ev st.s xo = .d (.lit (.slice none 0 0)) ∧ ys = []))
    (hn : xs.length + ys.length ≤ 140737488355328) (hb : (xs.length + ys.length) * bts ≤ 140737488355328)
    {s' : Slots} (hs : putS E.N (unkS key st.s) o.dst (.row key) = some s') (h : OW E ops (i + 1) Q ⟨st.J, s', hset (unkH key st.h) key (some (.row e sz (xs ++ ys)))⟩) : OW E ops i Q st := fun ι a w r => by
  have hd : ops.drop i = o :: ops.drop (i + 1) := by
    obtain ⟨hlt, rfl⟩ := List.getElem?_eq_some_iff.1 ho
    exact List.drop_eq_getElem_cons hlt
  rw [hd]
  simp only [wpListIn]
  rw [if_pos (awant_ok r hw)]
  refine ⟨fun f _ => hE.wide.fn f, ?_⟩
  rw [Oper.semAt_plain E.F _ _ (by rw [hop]; intro c hc; cases hc)]
  obtain ⟨dst, op, ty, pos, af, gd⟩ := o
  simp only at hop hs
  subst hop
  obtain ⟨Z, K, Y, hZE, r⟩ := r
  have h1 := RA_ev (C := cx Z st.h ι w) (s := st.s) (a := a) so fun t _ => r.slot t
  rw [hso] at h1
  obtain ⟨e1, _⟩ := RA_lit.1 h1
  have hgh := (r.mem.ent G _ hG).2
  simp only [RAs] at hgh
  obtain ⟨vg, tg, eg, ⟨hkd, hvg⟩, _⟩ := hgh
  cases eg
  rw [show v0 = ι key from hvg] at e1
  obtain ⟨news, g1, g2, g3, g4⟩ := srcOf (RA_ev (C := cx Z st.h ι w) (s := st.s) (a := a) xo fun t _ => r.slot t) hxo
  obtain ⟨vs, f1, f2, f3, f4⟩ := r.mem.ent key _ hkey
  have hfl : ∀ (l : List (List D)), (∀ y ∈ l, y.length = sz) → l.flatten.length = l.length * sz := by
    intro l
    induction l with
    | nil => simp
    | cons y ys ih => intro hy; simp [ih (fun q hq => hy q (by simp [hq])), hy y (by simp), Nat.add_mul]; omega
  have hvl : vs.length = xs.length * sz := by rw [RDs_length f2]; exact hfl xs f3
  obtain ⟨v', w', hr, q1, q2, q3⟩ := run_append_any hE.ok.T ht (ty := ty) hte hpos (n := xs.length) (m := ys.length) f1 hvl g1 g3 (RDs_one g2) hn hb
  rw [exec_append (v' := v') (w' := w') (by rw [e1]; exact hr)]
  show wpListIn _ _ _ _ _ _ _ _
  have hent : EntOk (cx Z (hset (unkH key st.h) key (some (.row e sz (xs ++ ys)))) (fun j => bif Nat.beq j key then v' else ι j) w') (.row e sz (xs ++ ys)) v' := by
    refine ⟨vs ++ news, by simpa using q1, ?_, ?_, by simpa using hn⟩
    · have := RDs_append f2 g2
      rw [← List.flatten_append] at this
      refine RDs_keeps (w := w) (M := (cx Z st.h ι w).M) ⟨fun b o u hm hc => ?_, fun b hm hi => hi.at (q2.block b ⟨hi.lt, fun e => hm (.inr ⟨key, hkd, e.symm⟩)⟩), fun b hlt hm hm' => ?_⟩ _ _ this
      · rw [World.cell?_of_block (w := w) (a := ⟨b, o, none⟩) (q2.block b ⟨World.block_lt_of_cell? w ⟨b, o, none⟩ hc, fun e => hm (.inr ⟨key, hkd, e.symm⟩)⟩)]; exact hc
      · rcases hm' with hz | ⟨j, hj, hjb⟩
        · exact hm (.inl hz)
        · by_cases hjk : j = key
          · subst hjk
            simp at hjb
            rcases (q3 b hjb).2 with h | h
            · exact hm (.inr ⟨_, hkd, h⟩)
            · have hlt' : b < w.heap.size := hlt.lt
              have h' : w.heap.size ≤ b := h
              omega
          · have hbq : Nat.beq j key = false := Bool.eq_false_iff.2 fun h' => hjk (Nat.eq_of_beq_eq_true h')
            simp only [dom, hset_ne (unkH key st.h) _ hjk] at hj
            simp only [hbq, cond_false] at hjb
            exact hm (.inr ⟨j, dom_unkH.1 hj, hjb⟩)
    · intro y hy
      rcases List.mem_append.1 hy with hy | hy
      · exact f3 y hy
      · exact g4 y hy
  obtain ⟨m', kk⟩ := r.mem.redo hkd q2 q3 hent
  have hmarks : Marks Z K w' a.defers := by
    obtain ⟨rs, p1, p2, p3⟩ := r.ds
    refine ⟨rs, p1, p2, fun x hx => ?_⟩
    obtain ⟨p4, p5⟩ := p3 x hx
    refine ⟨?_, p5⟩
    rw [q2.block x ⟨(Array.getElem?_eq_some_iff.1 p4).1, fun e => ?_⟩]
    · exact p4
    · rcases f1 with ⟨a0, e0, _⟩ | ⟨g, cap, cur, e0, hc0, hg, _⟩
      · rw [e0] at e; cases a0 <;> simp [blk] at e
      · rw [e0] at e
        have hg' : w.heap[g]? = some (.cells cur _ (0, 0)) := hg
        have : blk (.slice (some ⟨g, 0, none⟩) xs.length cap) = some g := by simp [blk]; omega
        rw [this] at e
        cases e
        rw [hg'] at p4
        cases p4
  have r0 : Rel Z K E.N (st.J K Y Z) (unkS key st.s) (hset (unkH key st.h) key (some (.row e sz (xs ++ ys)))) (fun j => bif Nat.beq j key then v' else ι j) a w' :=
    ⟨m', r.size, fun j => RA_keepsK kk _ _ (nokey_unk key _) (RA_unk (r.slot j)), hmarks⟩
  unfold putS at hs
  cases hdst : dst with
  | none =>
    simp only [hdst] at hs
    cases hs
    exact h _ _ w' ⟨Z, K, Y, hZE, Rel.put_none r0 (Grew.refl _) _⟩
  | some d =>
    simp only [hdst] at hs
    cases hbd : Nat.ble (d + 1) E.N with
    | false => rw [hbd] at hs; cases hs
    | true =>
      rw [hbd] at hs
      cases hs
      exact h _ _ w' ⟨Z, K, Y, hZE, Rel.put r0 (Grew.refl _) hbd key_row⟩
theorem HR_append (hE : E.Good) {G : Nat} {v0 : Value} {cs0 : List AV} {vs0 : List Value} (hG : h G = some (.ghost (.row k :: cs0) (v0 :: vs0))) {o : Oper} {t e : TypeId} {so xo : Operand} (ho : ops[i]? = some o) (hiq : Nat.beq i q = true) (hi : Nat.ble (i + 1) n = true) (hop : o.op = .call ⟨.builtin .append, #[so, xo], #[t, t]⟩) (hgd : o.guard = none) {d : Nat} (hdst : o.dst = some d) (hdN : Nat.ble (d + 1) E.N = true) {z1 z2 : Nat} {z3 : List Value} (ht : E.T t = some ⟨.slice e, z1, z2, z3⟩)
    {kk : TK} {sz bts : Nat} {z6 : List Value} (hte : E.T e = some ⟨kk, sz, bts, z6⟩) (hpos : Nat.ble 1 sz = true) (hso : ev s so = .d (.lit v0)) {xs : List (List D)} (hkey : h k = some (.row e sz xs)) {ys : List (List D)} (hxo : ev s xo = .d (.sl sz bts ys) ∨ (ev s xo = .d (.lit (.slice none 0 0)) ∧ ys = []))
    (hn : xs.length + ys.length ≤ 140737488355328) (hb : (xs.length + ys.length) * bts ≤ 140737488355328) (h1e : hset (unkH k h) k (some (.row e sz (xs ++ ys))) = h1) (hk : HRW h h1 q k E ops J n (i + 1) K (sset s d (.row k))) : HRW h h1 q k E ops J n i K s := by
  subst h1e
  refine HR_cons (x := .row k) ho hi (by rw [hdst]; exact hdN) (.inl ⟨Nat.eq_of_beq_eq_true hiq, o, ho, hgd, fun s1 hs1 hnk => ?_⟩) (by rw [hdst]; exact hk)
  have look : ∀ t', (Operand.tmp t' = so ∨ Operand.tmp t' = xo) → t' ∈ o.looksAt ops.toArray := fun t' ht' => by
    simp only [Oper.looksAt, List.mem_append, List.mem_filterMap]
    refine .inl ⟨.tmp t', ?_, rfl⟩
    rw [hop]
    rcases ht' with h | h
    · simp [Op.operands, Call.operands, h]
    · simp [Op.operands, Call.operands, h]
  have e1 : ev s1 so = ev s so := ev_same fun t' e => hs1 t' (look t' (.inl e.symm))
  have e2 : ev s1 xo = ev s xo := ev_same fun t' e => hs1 t' (look t' (.inr e.symm))
  refine opG_of_OW hgd (OW_appendLit (st := ⟨J, s1, h⟩) hE hG (o := o) rfl hop (by simp [awant, hgd]) ht hte hpos (by rw [e1]; exact hso) hkey (by rw [e2]; exact hxo) hn hb (s' := sset s1 d (.row k)) (by rw [unkS_self hnk, hdst]; simp [putS, hdN]) (OW_end rfl ⟨rfl, by rw [hdst]; rfl⟩))
end
theorem noHeap_no {h : Heap} : ∀ (j : Nat) (e : Ent), noHeap j = some e → h j = some e := fun j e hj => by
  have hj : (none : Option Ent) = some e := hj
  cases hj
theorem nokeyS_no (k : Nat) : ∀ t, nokey k (noSlots t) = true := fun _ => rfl
theorem nokeyS_set {k : Nat} {s : Slots} {d : Nat} {v : AV} (h : ∀ t, nokey k (s t) = true) (hv : nokey k v = true) : ∀ t, nokey k (sset s d v t) = true := fun t => by
  by_cases ht : t = d
  · subst ht; rw [sset_same]; exact hv
  · rw [sset_ne _ _ ht]; exact h t
section
variable {E : Env} {ops : List Oper} {Q : Exit → St → Prop} {J : Jt} {s : Slots} {h : Heap} {n i q k : Nat} {h1 : Heap} {K : Slots → Prop}
theorem HR_store (hE : E.Good) {o : Oper} {t : TypeId} {p x : Operand} (ho : ops[i]? = some o) (hiq : Nat.beq i q = true) (hi : Nat.ble (i + 1) n = true) (hop : o.op = .store t p x) (hgd : o.guard = none) (hdst : o.dst = none) {ti : TI} (ht : E.T t = some ti) {key off : Nat} (hp : ev s p = .ptr key off)
    {bt : TypeId} {cs : List AV} (hk : h key = some (.box bt cs)) {vs : List AV} (hv : cellsOf (ev s x) = vs) (hc : cellsOk (ev s x) = true) (ho1 : oneAll vs = true) (hl : Nat.beq vs.length ti.size = true) (hfit : Nat.ble (off + vs.length) cs.length = true)
    (h1e : hset h key (some (.box bt (overwrite cs off vs))) = h1) (hk' : HRW h h1 q k E ops J n (i + 1) K s) : HRW h h1 q k E ops J n i K s := by
  subst h1e
  refine HR_cons (x := .tup []) ho hi (by rw [hdst]; rfl) (.inl ⟨Nat.eq_of_beq_eq_true hiq, o, ho, hgd, fun s1 hs1 _ => ?_⟩) (by rw [hdst]; exact hk')
  have look : ∀ t', (Operand.tmp t' = p ∨ Operand.tmp t' = x) → t' ∈ o.looksAt ops.toArray := fun t' ht' => by
    simp only [Oper.looksAt, List.mem_append, List.mem_filterMap]
    refine .inl ⟨.tmp t', ?_, rfl⟩
    rw [hop]
    rcases ht' with h | h
    · simp [Op.operands, h]
    · simp [Op.operands, h]
  have e1 : ev s1 p = ev s p := ev_same fun t' e => hs1 t' (look t' (.inl e.symm))
  have e2 : ev s1 x = ev s x := ev_same fun t' e => hs1 t' (look t' (.inr e.symm))
  refine opG_of_OW hgd (OW_store' hE (o := o) rfl hop (by simp [awant, hgd]) hdst ht (k := key) (off := off) (by rw [e1]; exact hp) hk (by rw [e2]; exact hv) (by rw [e2]; exact hc) ho1 hl hfit (OW_end rfl ⟨rfl, by rw [hdst]; rfl⟩))
end
theorem rel_call {E : Env} {J : Jt} {s : Slots} {h : Heap} {ι : Nat → Value} {a : Act} {w : World} (r : RelS E ⟨J, s, h⟩ ι a w) {k G : Nat} {e : TypeId} {sz : Nat} {xs : List (List D)} (hk : h k = some (.row e sz xs)) (hG : h G = none) :
    ∃ v ι', Handle v xs.length ∧ RelS E ⟨J, s, hset h G (some (.ghost [.row k] [v]))⟩ ι' a w := by
  obtain ⟨Z, K, Y, hZE, r⟩ := r
  obtain ⟨vs, f1, f2, f3, f4⟩ := r.mem.ent k _ hk
  have hkd : dom h k := by simp [dom, hk]
  have hh : Handle (ι k) xs.length := by
    rcases f1 with ⟨a0, e0, h0, h1⟩ | ⟨g, cap, cur, e0, hc0, hg, hnc, hcm, hcs, htk⟩
    · rw [h0]; exact ⟨by omega, a0, 0, e0, by omega⟩
    · exact ⟨f4, _, _, e0, fun _ => ⟨g, rfl⟩⟩
  have hv : RAs (cx Z h ι w) [.row k] [ι k] := by
    simp only [RAs]
    exact ⟨_, _, rfl, by simp only [RA]; exact ⟨hkd, trivial⟩, rfl⟩
  exact ⟨ι k, _, hh, Z, K, Y, hZE, r.mem.ghost hG hv, r.size, fun i => RA_keeps (keepsC_ghost r.mem hG hv) _ _ (r.slot i), r.ds⟩
theorem CW_callRowName {E : Env} {c : Code} {Q : Exit → St → Prop} {J : Jt} {s : Slots} {h : Heap} (k G : Nat) {e : TypeId} {sz : Nat} {xs : List (List D)} (hk : h k = some (.row e sz xs)) (hG : h G = none)
    (hh : ∀ v, Handle v xs.length → CW E c Q ⟨J, s, hset h G (some (.ghost [.row k] [v]))⟩) : CW E c Q ⟨J, s, h⟩ := fun ι a w r => by
  obtain ⟨v, ι', h1, r'⟩ := rel_call r hk hG
  exact hh v h1 ι' a w r'
def litK (k : Nat) (v : Value) : AV → AV
  | .row j => bif Nat.beq j k then .d (.lit v) else .row j
  | x => x
theorem RA_litK {C : Cx} {k : Nat} {v : Value} (hv : v = C.ι k) (ho : okLit v) : ∀ {x : AV} {u : Value}, RA C x u → RA C (litK k v x) u := by
  intro x u h
  unfold litK
  split
  · rename_i j
    cases hb : Nat.beq j k with
    | false => exact h
    | true =>
      have := Nat.eq_of_beq_eq_true hb
      subst this
      simp only [RA] at h
      exact RA_lit.2 ⟨h.2.trans hv.symm, ho⟩
  · exact h
theorem RAs_litK {C : Cx} {k : Nat} {v : Value} (hv : v = C.ι k) (ho : okLit v) : ∀ {xs : List AV} {us : List Value}, RAs C xs us → RAs C (xs.map (litK k v)) us
  | [], us, h => by simpa [RAs] using h
  | x :: xs, us, h => by
    simp only [RAs] at h
    obtain ⟨u, t, rfl, h1, h2⟩ := h
    simp only [List.map_cons, RAs]
    exact ⟨u, t, rfl, RA_litK hv ho h1, RAs_litK hv ho h2⟩
theorem LE_rowLit {E : Env} {J : Jt} {s : Slots} {h : Heap} (key : Nat) {k G : Nat} {cs0 : List AV} {v : Value} {vs0 : List Value} (hG : h G = some (.ghost (.row k :: cs0) (v :: vs0))) (ho : okLit v) {e : TypeId} {sz n : Nat} {cs cs' : List AV} (hk : h key = some (.rowA e sz n cs)) (hcs : cs.map (litK k v) = cs') :
    LE E ⟨J, s, h⟩ ⟨J, s, hset h key (some (.rowA e sz n cs'))⟩ := fun ι a w ⟨Z, K, Y, hZ, r⟩ => by
  subst hcs
  have h2 := (r.mem.ent G _ hG).2
  simp only [RAs] at h2
  obtain ⟨v', t, e', ⟨_, hv'⟩, _⟩ := h2
  cases e'
  have hv' : v = (cx Z h ι w).ι k := hv'
  have hdom : dom (hset h key (some (.rowA e sz n (cs.map (litK k v))))) = dom h := by
    funext j
    by_cases hj : j = key
    · subst hj; simp [dom, hset_same, hk]
    · simp [dom, hset_ne _ _ hj]
  have hcx : cx Z (hset h key (some (.rowA e sz n (cs.map (litK k v))))) ι w = cx Z h ι w := by simp only [cx, hdom]
  refine ⟨ι, Z, K, Y, hZ, ⟨fun j e' hj => ?_, fun j b hj hb => r.mem.own j b (by rw [← hdom]; exact hj) hb, fun j j' b hj hj' => r.mem.apart j j' b (by rw [← hdom]; exact hj) (by rw [← hdom]; exact hj'), r.mem.Zlt, r.mem.Klt, r.mem.Jw, r.mem.Jc⟩, r.size, fun i => ?_, r.ds⟩
  · rw [show (⟨w, Z, dom (hset h key (some (.rowA e sz n (cs.map (litK k v))))), ι⟩ : Cx) = cx Z h ι w from hcx]
    have hj : hset h key (some (.rowA e sz n (cs.map (litK k v)))) j = some e' := hj
    by_cases hjk : j = key
    · subst hjk
      rw [hset_same] at hj
      cases hj
      obtain ⟨vs, f1, f2, f3⟩ := r.mem.ent j _ hk
      exact ⟨vs, f1, RAs_litK hv' ho f2, f3⟩
    · rw [hset_ne _ _ hjk] at hj
      exact r.mem.ent j _ hj
  · rw [show cx Z (hset h key (some (.rowA e sz n (cs.map (litK k v))))) ι w = cx Z h ι w from hcx]
    exact r.slot i
end Go.AL
namespace Go.AL
set_option linter.unusedVariables false
set_option linter.unusedSimpArgs false
section
variable {E : Env} {ops : List Oper} {Y : Nat → Slots → AV → Prop}
theorem wpAnyIn_of_headI {J : Jt} (H : (Nat → Bool) → Heap) (I : (Nat → Bool) → Slots → Prop) {n g : Nat} {L : Array Bool → Slots → Prop} {Q' : Exit → Act → World → Prop}
    (hI : ∀ i o listed s x, ops[i]? = some o → HeadInv .any ops.toArray n listed → Y i s x → I (bits listed) s → I (bits (listed.setIfInBounds i true)) (pu s o.dst x))
    (hop : ∀ i o listed s x, ops[i]? = some o → HeadInv .any ops.toArray n listed → i ∈ Region.ready .any ops.toArray listed → i < n → I (bits listed) s → Y i s x → dstOk E.N o.dst = true → ∀ ι a w, RelS E ⟨J, s, H (bits listed)⟩ ι a w → ∀ (K' : Act → World → Prop),
      (∀ ι' a' w', RelS E ⟨J, pu s o.dst x, H (bits (listed.setIfInBounds i true))⟩ ι' a' w' → K' a' w') → wpOpIn E.F E.n E.P ops.toArray Q' i K' a w)
    (hL : ∀ listed s ι a w, RelS E ⟨J, s, H (bits listed)⟩ ι a w → L listed s → wpAnyIn E.F E.n E.P .any ops.toArray Q' g listed a w) :
    ∀ (f : Nat) (listed : Array Bool) (s : Slots) (ι : Nat → Value) (a : Act) (w : World), HeadInv .any ops.toArray n listed → I (bits listed) s → RelS E ⟨J, s, H (bits listed)⟩ ι a w → anyB E ops Y n L f listed s → wpAnyIn E.F E.n E.P .any ops.toArray Q' (f + g) listed a w
  | 0, listed, s, ι, a, w, _, _, r, hh => by rw [Nat.zero_add]; exact hL _ _ _ _ _ r hh
  | f + 1, listed, s, ι, a, w, inv, hS, r, hh => by
    rw [show f + 1 + g = (f + g) + 1 by omega]
    refine ⟨fun h0 => absurd h0 hh.1, fun i hi => ?_⟩
    obtain ⟨hin, hq⟩ := hh.2 i hi
    obtain ⟨hun, o, ho, _⟩ := mem_ready.1 hi
    have ho' : ops[i]? = some o := by simpa using ho
    unfold qB at hq
    simp only [ho'] at hq
    obtain ⟨x, h1, h2, h3⟩ := hq
    have hS' := hI i o listed s x ho' inv h2 hS
    exact hop i o listed s x ho' inv hi hin hS h2 h1 ι a w r _ fun ι' a' w' r' => wpAnyIn_of_headI H I hI hop hL f _ _ ι' a' w' (inv.set hi hin) hS' r' h3
theorem nokeyI {n q k i : Nat} {o : Oper} {listed : Array Bool} {s : Slots} {x : AV} (ho : ops[i]? = some o) (inv : HeadInv .any ops.toArray n listed) (hx : i = q ∨ nokey k x = true) (hs : bits listed q = false → ∀ t, nokey k (s t) = true) :
    bits (listed.setIfInBounds i true) q = false → ∀ t, nokey k (pu s o.dst x t) = true := fun hb t => by
  have hiq : i ≠ q := by
    intro e; subst e
    have hsz : i < listed.size := by
      rw [inv.size]
      have := (List.getElem?_eq_some_iff.1 ho).1
      simpa using this
    simp [bits, hsz] at hb
  have hb' : bits listed q = false := by rw [← hb]; exact (getD_set_ne false hiq).symm
  have hx := hx.resolve_left hiq
  have hs := hs hb'
  unfold pu
  cases o.dst with
  | none => exact hs t
  | some d =>
    show nokey k (sset s d x t) = true
    by_cases htd : t = d
    · subst htd; rw [sset_same]; exact hx
    · rw [sset_ne _ _ htd]; exact hs t
end
def aft (o : Oper) (i : Nat) : Bool := o.after.any fun e => Region.binds .any e && Nat.beq e.on i
theorem aft_listed {ops : List Oper} {n i j : Nat} {o : Oper} {listed : Array Bool} (inv : HeadInv .any ops.toArray n listed) (ho : ops[i]? = some o) (h : aft o j = true) (hb : bits listed i = true) : bits listed j = true := by
  obtain ⟨e, hm, he⟩ := Array.any_eq_true'.1 h
  simp only [Bool.and_eq_true] at he
  have := inv.closed i o (by simpa using ho) hb e (by simpa using hm) he.1
  rwa [Nat.eq_of_beq_eq_true he.2] at this
theorem aft_ready {ops : List Oper} {n i j : Nat} {o : Oper} {listed : Array Bool} (inv : HeadInv .any ops.toArray n listed) (hi : i ∈ Region.ready .any ops.toArray listed) (ho : ops[i]? = some o) (h : aft o j = true) : bits listed j = true := by
  obtain ⟨e, hm, he⟩ := Array.any_eq_true'.1 h
  simp only [Bool.and_eq_true] at he
  have := inv_ready inv hi ho (by simpa using hm) he.1
  rwa [Nat.eq_of_beq_eq_true he.2] at this
structure Two where
  H : Bool → Bool → Bool → Heap
  q1 : Nat
  k1 : Nat
  q2 : Nat
  k2 : Nat
  q3 : Nat
def YT (t : Two) (E : Env) (ops : List Oper) (J : Jt) (i : Nat) (s : Slots) (x : AV) : Prop :=
  (i = t.q1 ∧ nokey t.k2 x = true ∧ ∃ o, ops[i]? = some o ∧ o.guard = none ∧ ∀ s1, (∀ t ∈ o.looksAt ops.toArray, s1 t = s t) → (∀ j, nokey t.k1 (s1 j) = true) → ∀ b2, OpG E o ⟨J, s1, t.H false b2 false⟩ (fun st' => LE E st' ⟨J, pu s1 o.dst x, t.H true b2 false⟩)) ∨
  (i = t.q2 ∧ nokey t.k1 x = true ∧ ∃ o, ops[i]? = some o ∧ o.guard = none ∧ ∀ s1, (∀ t ∈ o.looksAt ops.toArray, s1 t = s t) → (∀ j, nokey t.k2 (s1 j) = true) → ∀ b1 b3, (b3 = true → b1 = true) → OpG E o ⟨J, s1, t.H b1 false b3⟩ (fun st' => LE E st' ⟨J, pu s1 o.dst x, t.H b1 true b3⟩)) ∨
  (i = t.q3 ∧ nokey t.k1 x = true ∧ nokey t.k2 x = true ∧ ∃ o, ops[i]? = some o ∧ o.guard = none ∧ ∀ s1, (∀ t ∈ o.looksAt ops.toArray, s1 t = s t) → ∀ b2, OpG E o ⟨J, s1, t.H true b2 false⟩ (fun st' => LE E st' ⟨J, pu s1 o.dst x, t.H true b2 true⟩)) ∨
  (i ≠ t.q1 ∧ i ≠ t.q2 ∧ i ≠ t.q3 ∧ nokey t.k1 x = true ∧ nokey t.k2 x = true ∧ ∃ o, ops[i]? = some o ∧ ∀ b1 b2 b3, (b3 = true → b1 = true) → (∀ o1, ops[t.q1]? = some o1 → aft o1 i = true → b1 = false) → YA E ops J (t.H b1 b2 b3) o s x)
def HTW (t : Two) (E : Env) (ops : List Oper) (J : Jt) (n i : Nat) (K : Slots → Prop) (s : Slots) : Prop := QB E (YT t E ops J) K ((ops.take n).drop i) i s
section
variable {E : Env} {ops : List Oper} {Q : Exit → St → Prop} {J : Jt} {s : Slots} {h : Heap}
theorem CW_drawnT (hE : E.Good) (n : Nat) (t : Two) {id : Nat} (hB : Region.lexTailB .any ops.toArray n = true) (hqn : (Nat.ble (t.q1 + 1) n && Nat.ble (t.q2 + 1) n && Nat.ble (t.q3 + 1) n && !Nat.beq t.q1 t.q2 && !Nat.beq t.q1 t.q3 && !Nat.beq t.q2 t.q3) = true)
    {o3 : Oper} (ho3 : ops[t.q3]? = some o3) (haf : aft o3 t.q1 = true) (hS1 : ∀ j, nokey t.k1 (s j) = true) (hS2 : ∀ j, nokey t.k2 (s j) = true) (hle : LE E ⟨J, s, h⟩ ⟨J, s, t.H false false false⟩)
    (hq : HTW t E ops J n 0 (fun s => OW E ops n Q ⟨J, s, t.H true true true⟩) s) : CW E (.region id ops.toArray true) Q ⟨J, s, h⟩ := CW.le hle fun ι a w r => by
  simp only [Bool.and_eq_true] at hqn
  obtain ⟨⟨⟨⟨⟨hq1, hq2⟩, hq3⟩, hd12⟩, hd13⟩, hd23⟩ := hqn
  have hq1 := Nat.le_of_ble_eq_true hq1
  have hq2 := Nat.le_of_ble_eq_true hq2
  have hq3 := Nat.le_of_ble_eq_true hq3
  have n12 : t.q1 ≠ t.q2 := fun e => by rw [e] at hd12; simp at hd12
  have n13 : t.q1 ≠ t.q3 := fun e => by rw [e] at hd13; simp at hd13
  have n23 : t.q2 ≠ t.q3 := fun e => by rw [e] at hd23; simp at hd23
  simp only [Region.lexTailB, Bool.and_eq_true, decide_eq_true_eq] at hB
  obtain ⟨⟨⟨⟨hsel, hn⟩, hs⟩, hc⟩, hlex⟩ := hB
  have hn' : n < ops.length := by simpa using hn
  have htl : (ops.take n).length = n := by simp; omega
  have hdl : (ops.drop n).length = ops.toArray.size - n := by simp
  have inv0 : HeadInv .any ops.toArray n (Array.replicate ops.toArray.size false) :=
    ⟨by simp, fun j oj _ hl => (by rw [getD_replicate_false] at hl; cases hl), fun t _ ht => getD_in (by simpa using ht) (getD_replicate_false _ _)⟩
  have hYS : YStable ops (YT t E ops J) := by
    intro i o s s' x ho hss hy
    rcases hy with ⟨g1, g2, o', g3, g4, g5⟩ | ⟨g1, g2, o', g3, g4, g5⟩ | ⟨g1, g2, g2', o', g3, g4, g5⟩ | ⟨g1, g2, g3, g4, g5, o', g6, g7⟩
    · have hoo : o' = o := by rw [ho] at g3; exact (Option.some.inj g3).symm
      subst hoo
      exact .inl ⟨g1, g2, o', g3, g4, fun s1 hs1 => g5 s1 fun t ht => (hs1 t ht).trans (hss t ht)⟩
    · have hoo : o' = o := by rw [ho] at g3; exact (Option.some.inj g3).symm
      subst hoo
      exact .inr (.inl ⟨g1, g2, o', g3, g4, fun s1 hs1 => g5 s1 fun t ht => (hs1 t ht).trans (hss t ht)⟩)
    · have hoo : o' = o := by rw [ho] at g3; exact (Option.some.inj g3).symm
      subst hoo
      exact .inr (.inr (.inl ⟨g1, g2, g2', o', g3, g4, fun s1 hs1 => g5 s1 fun t ht => (hs1 t ht).trans (hss t ht)⟩))
    · have hoo : o' = o := by rw [ho] at g6; exact (Option.some.inj g6).symm
      subst hoo
      exact .inr (.inr (.inr ⟨g1, g2, g3, g4, g5, o', g6, fun b1 b2 b3 c1 c2 => YA_same hss (g7 b1 b2 b3 c1 c2)⟩))
  have H0 := anyB_lex (E := E) (Y := YT t E ops J) (g := ops.toArray.size - n) hYS hs hc hn (ops.take n) 0 _ s (fun j hj => by
    have hj' : j < n := by rw [htl] at hj; exact hj
    simp [hj']) (by simpa using htl) inv0 (fun j hj => by omega) (by rw [htl]; exact hlex) (by simpa [HTW] using hq)
  have b0 : ∀ q, bits (Array.replicate ops.toArray.size false) q = false := fun q => getD_replicate_false _ _
  have r1 : RelS E ⟨J, s, (fun b : Nat → Bool => t.H (b t.q1) (b t.q2) (b t.q3)) (bits (Array.replicate ops.toArray.size false))⟩ ι a { w with drawn := w.drawn + 1 } := by
    show RelS E ⟨J, s, t.H (bits _ t.q1) (bits _ t.q2) (bits _ t.q3)⟩ _ _ _
    rw [b0, b0, b0]
    obtain ⟨Z, K, Y, hZE, r⟩ := r
    exact ⟨Z, K, Y, hZE, r.mem.grew (Grew.drew w), r.size, fun i => RA_keeps (keepsC_grew (K := K) (J := J K Y Z) (Grew.drew w)) _ _ (r.slot i), r.ds.grew (Grew.drew w)⟩
  refine wpIn_region_any hE.ok.mixed ?_
  have hh := wpAnyIn_of_headI (Y := YT t E ops J) (J := J) (Q' := Post E Q) (fun b => t.H (b t.q1) (b t.q2) (b t.q3)) (fun b s => (b t.q1 = false → ∀ j, nokey t.k1 (s j) = true) ∧ (b t.q2 = false → ∀ j, nokey t.k2 (s j) = true)) (g := ops.toArray.size - n)
    (fun i o listed s x ho inv hy hSl => by
      have hx : (i = t.q1 ∨ nokey t.k1 x = true) ∧ (i = t.q2 ∨ nokey t.k2 x = true) := by
        rcases hy with ⟨g1, g2, _⟩ | ⟨g1, g2, _⟩ | ⟨g1, g2, g2', _⟩ | ⟨g1, g2, g3, g4, g5, _⟩
        · exact ⟨.inl g1, .inr g2⟩
        · exact ⟨.inr g2, .inl g1⟩
        · exact ⟨.inr g2, .inr g2'⟩
        · exact ⟨.inr g4, .inr g5⟩
      exact ⟨nokeyI ho inv hx.1 hSl.1, nokeyI ho inv hx.2 hSl.2⟩)
    (fun i o listed s x ho inv hi hin hSl hy hdo ι a w r K' hk' => ?_) (fun listed s ι a' w' r' hL => by
    have r' : RelS E ⟨J, s, t.H (bits listed t.q1) (bits listed t.q2) (bits listed t.q3)⟩ ι a' w' := r'
    rw [show bits listed t.q1 = true from hL.1.2 _ hq1, show bits listed t.q2 = true from hL.1.2 _ hq2, show bits listed t.q3 = true from hL.1.2 _ hq3] at r'
    have := wpAnyIn_of_seq (Q' := Post E Q) (ops.drop n) n listed a' w' (fun j => by simp [List.getElem?_drop]) (by rw [hdl]; exact hL.1.1) (hL.2 ι a' w' r')
    rwa [hdl] at this) _ _ _ ι a _ inv0 ⟨fun _ => hS1, fun _ => hS2⟩ r1 H0
  · rw [htl] at hh
    rwa [show n + (ops.toArray.size - n) = ops.toArray.size by simp; omega] at hh
  · have hun : listed.getD i true = false := (mem_ready.1 hi).1
    have hst' : ∀ j, j ≠ i → bits (listed.setIfInBounds i true) j = bits listed j := fun j hj => getD_set_ne false (Ne.symm hj)
    have hsz : i < listed.size := by
      rw [inv.size]
      have := (List.getElem?_eq_some_iff.1 ho).1
      simpa using this
    have hseti : bits (listed.setIfInBounds i true) i = true := by simp [bits, hsz]
    have b1 : bits listed i = false := getD_both hun
    have c31 : bits listed t.q3 = true → bits listed t.q1 = true := aft_listed inv ho3 haf
    have r : RelS E ⟨J, s, t.H (bits listed t.q1) (bits listed t.q2) (bits listed t.q3)⟩ ι a w := r
    have hk' : ∀ ι' a' w', RelS E ⟨J, pu s o.dst x, t.H (bits (listed.setIfInBounds i true) t.q1) (bits (listed.setIfInBounds i true) t.q2) (bits (listed.setIfInBounds i true) t.q3)⟩ ι' a' w' → K' a' w' := hk'
    rcases hy with ⟨g1, _, o', g2, hgd, g4⟩ | ⟨g1, _, o', g2, hgd, g4⟩ | ⟨g1, _, _, o', g2, hgd, g4⟩ | ⟨g1, g2, g3, _, _, o', g6, g7⟩
    · have hoo : o' = o := by rw [ho] at g2; exact (Option.some.inj g2).symm
      subst hoo
      subst g1
      have hb3 : bits listed t.q3 = false := by
        cases hb : bits listed t.q3 with
        | false => rfl
        | true => have := c31 hb; rw [b1] at this; cases this
      rw [b1, hb3] at r
      rw [hseti, hst' _ (Ne.symm n12), hst' _ (Ne.symm n13), hb3] at hk'
      have g := g4 s (fun _ _ => rfl) (hSl.1 b1) (bits listed t.q2)
      unfold wpOpIn
      simp only [List.getElem?_toArray, ho]
      rw [if_pos (by simp [Region.wanted, hgd])]
      refine g ι a w r K' (Post E Q) fun st' ι' a' w' hst r' => ?_
      obtain ⟨ι2, r2⟩ := hst ι' a' w' r'
      exact hk' ι2 a' w' r2
    · have hoo : o' = o := by rw [ho] at g2; exact (Option.some.inj g2).symm
      subst hoo
      subst g1
      rw [b1] at r
      rw [hseti, hst' _ n12, hst' _ (Ne.symm n23)] at hk'
      have g := g4 s (fun _ _ => rfl) (hSl.2 b1) (bits listed t.q1) (bits listed t.q3) c31
      unfold wpOpIn
      simp only [List.getElem?_toArray, ho]
      rw [if_pos (by simp [Region.wanted, hgd])]
      refine g ι a w r K' (Post E Q) fun st' ι' a' w' hst r' => ?_
      obtain ⟨ι2, r2⟩ := hst ι' a' w' r'
      exact hk' ι2 a' w' r2
    · have hoo : o' = o := by rw [ho] at g2; exact (Option.some.inj g2).symm
      subst hoo
      subst g1
      have hoo2 : o3 = o' := by rw [ho] at ho3; exact (Option.some.inj ho3).symm
      subst hoo2
      have hb1 := aft_ready inv hi ho haf
      rw [b1, hb1] at r
      rw [hseti, hst' _ n13, hst' _ n23, hb1] at hk'
      have g := g4 s (fun _ _ => rfl) (bits listed t.q2)
      unfold wpOpIn
      simp only [List.getElem?_toArray, ho]
      rw [if_pos (by simp [Region.wanted, hgd])]
      refine g ι a w r K' (Post E Q) fun st' ι' a' w' hst r' => ?_
      obtain ⟨ι2, r2⟩ := hst ι' a' w' r'
      exact hk' ι2 a' w' r2
    · have hoo : o' = o := by rw [ho] at g6; exact (Option.some.inj g6).symm
      subst hoo
      rw [hst' _ (Ne.symm g1), hst' _ (Ne.symm g2), hst' _ (Ne.symm g3)] at hk'
      refine wpOpIn_of_qA (J := J) (h := t.H (bits listed t.q1) (bits listed t.q2) (bits listed t.q3)) (K := fun s' => s' = pu s o'.dst x) hE r (fun s' a' w' r' hs' => ?_) ?_
      · subst hs'
        exact hk' ι a' w' r'
      · unfold qA
        simp only [ho]
        refine ⟨x, hdo, g7 _ _ _ c31 (fun o1 h1 h2 => ?_), rfl⟩
        cases hb : bits listed t.q1 with
        | false => rfl
        | true => have := aft_listed inv h1 h2 hb; rw [b1] at this; cases this
variable {n i : Nat} {t : Two} {K : Slots → Prop}
theorem HT_cons {o : Oper} (ho : ops[i]? = some o) (hi : Nat.ble (i + 1) n = true) {x : AV} (hd : dstOk E.N o.dst = true) (hy : YT t E ops J i s x) (hk : HTW t E ops J n (i + 1) K (pu s o.dst x)) : HTW t E ops J n i K s := by
  unfold HTW at *
  have hi' := Nat.le_of_ble_eq_true hi
  obtain ⟨hlt, rfl⟩ := List.getElem?_eq_some_iff.1 ho
  have hlt2 : i < (ops.take n).length := by simp; omega
  rw [List.drop_eq_getElem_cons hlt2, List.getElem_take]
  exact ⟨x, hd, hy, hk⟩
theorem HT_end (hk : K s) : HTW t E ops J n n K s := by
  unfold HTW
  rw [List.drop_eq_nil_of_le (by simp; omega)]
  exact hk
theorem noq {i : Nat} (h : (Nat.beq i t.q1 || Nat.beq i t.q2 || Nat.beq i t.q3) = false) : i ≠ t.q1 ∧ i ≠ t.q2 ∧ i ≠ t.q3 := by
  simp only [Bool.or_eq_false_iff] at h
  exact ⟨fun e => by rw [e] at h; simp at h, fun e => by rw [e] at h; simp at h, fun e => by rw [e] at h; simp at h⟩
theorem HT_loc (hE : E.Good) {o : Oper} {R : AV} (hl : ∀ b1 b2 b3, (b3 = true → b1 = true) → Loc E ops J (t.H b1 b2 b3) o s R) (ho : ops[i]? = some o) (hi : Nat.ble (i + 1) n = true) (hw : awant ops o s = some true) {s' : Slots} (hs : putS E.N s o.dst R = some s') (hq : (Nat.beq i t.q1 || Nat.beq i t.q2 || Nat.beq i t.q3) = false) (hn1 : nokey t.k1 R = true) (hn2 : nokey t.k2 R = true) (hk : HTW t E ops J n (i + 1) K s') : HTW t E ops J n i K s := by
  obtain ⟨hd, rfl⟩ := pu_of_putS hs
  obtain ⟨a1, a2, a3⟩ := noq hq
  exact HT_cons ho hi hd (.inr (.inr (.inr ⟨a1, a2, a3, hn1, hn2, o, ho, fun b1 b2 b3 hb _ => .inl ⟨hw, LY_of_gives hE (hl b1 b2 b3 hb).1 fun Z K Y ι a w m hlk => (hl b1 b2 b3 hb).2 Z K Y ι a w m (look_ev hlk)⟩⟩))) hk
theorem HT_loc1 (hE : E.Good) {o : Oper} {R : AV} (hl : ∀ b2, Loc E ops J (t.H false b2 false) o s R) {o1 : Oper} (ho1 : ops[t.q1]? = some o1) (ha : aft o1 i = true) (ho : ops[i]? = some o) (hi : Nat.ble (i + 1) n = true) (hw : awant ops o s = some true) {s' : Slots} (hs : putS E.N s o.dst R = some s') (hq : (Nat.beq i t.q1 || Nat.beq i t.q2 || Nat.beq i t.q3) = false) (hn1 : nokey t.k1 R = true) (hn2 : nokey t.k2 R = true) (hk : HTW t E ops J n (i + 1) K s') : HTW t E ops J n i K s := by
  obtain ⟨hd, rfl⟩ := pu_of_putS hs
  obtain ⟨a1, a2, a3⟩ := noq hq
  refine HT_cons ho hi hd (.inr (.inr (.inr ⟨a1, a2, a3, hn1, hn2, o, ho, fun b1 b2 b3 hb hf => ?_⟩))) hk
  have e1 : b1 = false := hf o1 ho1 ha
  have e3 : b3 = false := by
    cases b3 with
    | false => rfl
    | true => have := hb rfl; rw [e1] at this; cases this
  subst e1; subst e3
  exact .inl ⟨hw, LY_of_gives hE (hl b2).1 fun Z K Y ι a w m hlk => (hl b2).2 Z K Y ι a w m (look_ev hlk)⟩
def runPureK2 (E : Env) (k1 k2 : Nat) (ops : List Oper) (h : Heap) : Nat → Nat → Slots → Option Slots
  | 0, _, s => some s
  | m + 1, i, s => match ops[i]? with
    | some o => match awant ops o s with
      | some true => match stepPure E.T h s o.op with
        | some R => bif nokey k1 R && nokey k2 R then match putS E.N s o.dst R with
          | some s' => runPureK2 E k1 k2 ops h m (i + 1) s'
          | none => none else none
        | none => none
      | some false => match putS E.N s o.dst (.tup []) with
        | some s' => runPureK2 E k1 k2 ops h m (i + 1) s'
        | none => none
      | none => none
    | none => none
theorem HT_run (hE : E.Good) (m : Nat) {h0 : Heap} {s' : Slots} (more : ∀ b1 b2 b3 j e, h0 j = some e → t.H b1 b2 b3 j = some e) (hp : runPureK2 E t.k1 t.k2 ops h0 m i s = some s') (hi : Nat.ble (i + m) n = true) (hq1 : (Nat.ble (i + m) t.q1 || Nat.ble (t.q1 + 1) i) = true) (hq2 : (Nat.ble (i + m) t.q2 || Nat.ble (t.q2 + 1) i) = true) (hq3 : (Nat.ble (i + m) t.q3 || Nat.ble (t.q3 + 1) i) = true)
    (hk : HTW t E ops J n (i + m) K s') : HTW t E ops J n i K s := by
  have off : ∀ {q : Nat}, (Nat.ble (i + m) q || Nat.ble (q + 1) i) = true → ∀ p, i ≤ p → p < i + m → p ≠ q := fun hq p a b e => by
    subst e
    simp only [Bool.or_eq_true] at hq
    rcases hq with hq | hq <;> have := Nat.le_of_ble_eq_true hq <;> omega
  have n1 := off hq1
  have n2 := off hq2
  have n3 := off hq3
  clear hq1 hq2 hq3 off
  induction m generalizing i s with
  | zero => simp only [runPureK2, Option.some.injEq] at hp; subst hp; exact hk
  | succ m ih =>
    have hi' := Nat.le_of_ble_eq_true hi
    have hi1 : Nat.ble (i + 1) n = true := Nat.ble_eq_true_of_le (by omega)
    have hi2 : Nat.ble (i + 1 + m) n = true := Nat.ble_eq_true_of_le (by omega)
    have a1 := n1 i (Nat.le_refl _) (by omega)
    have a2 := n2 i (Nat.le_refl _) (by omega)
    have a3 := n3 i (Nat.le_refl _) (by omega)
    simp only [runPureK2] at hp
    split at hp
    · rename_i o ho
      split at hp
      · rename_i hw
        split at hp
        · rename_i R hR
          cases hnk : nokey t.k1 R && nokey t.k2 R with
          | false => rw [hnk] at hp; cases hp
          | true =>
            rw [hnk] at hp
            simp only [cond_true] at hp
            simp only [Bool.and_eq_true] at hnk
            split at hp
            · rename_i s1 hs1
              obtain ⟨hd, rfl⟩ := pu_of_putS hs1
              refine HT_cons ho hi1 hd (.inr (.inr (.inr ⟨a1, a2, a3, hnk.1, hnk.2, o, ho, fun b1 b2 b3 _ _ => .inl ⟨hw, LY_of_gives hE (stepPure_notDefer hR) fun Z K Y ι a w m hl => stepPure_ok (K := K) (J := J K Y Z) hE.ok.T m o (look_ev hl) (stepPure_more (more b1 b2 b3) hR)⟩⟩))) (ih hp hi2 ?_ (fun q a b => n1 q (by omega) (by omega)) (fun q a b => n2 q (by omega) (by omega)) (fun q a b => n3 q (by omega) (by omega)))
              rwa [show i + 1 + m = i + (m + 1) by omega]
            · cases hp
        · cases hp
      · rename_i hw
        split at hp
        · rename_i s1 hs1
          obtain ⟨hd, rfl⟩ := pu_of_putS hs1
          refine HT_cons ho hi1 hd (.inr (.inr (.inr ⟨a1, a2, a3, rfl, rfl, o, ho, fun b1 b2 b3 _ _ => .inr ⟨hw, rfl⟩⟩))) (ih hp hi2 ?_ (fun q a b => n1 q (by omega) (by omega)) (fun q a b => n2 q (by omega) (by omega)) (fun q a b => n3 q (by omega) (by omega)))
          rwa [show i + 1 + m = i + (m + 1) by omega]
        · cases hp
      · cases hp
    · cases hp
theorem looks_app {ops : List Oper} {o : Oper} {so xo : Operand} {tt : Array TypeId} (hop : o.op = .call ⟨.builtin .append, #[so, xo], tt⟩) : ∀ t', (Operand.tmp t' = so ∨ Operand.tmp t' = xo) → t' ∈ o.looksAt ops.toArray := fun t' ht' => by
  simp only [Oper.looksAt, List.mem_append, List.mem_filterMap]
  refine .inl ⟨.tmp t', ?_, rfl⟩
  rw [hop]
  rcases ht' with h | h
  · simp [Op.operands, Call.operands, h]
  · simp [Op.operands, Call.operands, h]
theorem HT_append1 (hE : E.Good) {G : Nat} {v0 : Value} {cs0 : List AV} {vs0 : List Value} (hG : ∀ b2, t.H false b2 false G = some (.ghost (.row t.k1 :: cs0) (v0 :: vs0))) {o : Oper} {ty e : TypeId} {so xo : Operand} (ho : ops[i]? = some o) (hiq : Nat.beq i t.q1 = true) (hi : Nat.ble (i + 1) n = true) (hop : o.op = .call ⟨.builtin .append, #[so, xo], #[ty, ty]⟩) (hgd : o.guard = none) {d : Nat} (hdst : o.dst = some d) (hdN : Nat.ble (d + 1) E.N = true) {z1 z2 : Nat} {z3 : List Value} (ht : E.T ty = some ⟨.slice e, z1, z2, z3⟩)
    {kk : TK} {sz bts : Nat} {z6 : List Value} (hte : E.T e = some ⟨kk, sz, bts, z6⟩) (hpos : Nat.ble 1 sz = true) (hso : ev s so = .d (.lit v0)) {xs : List (List D)} (hkey : ∀ b2, t.H false b2 false t.k1 = some (.row e sz xs)) {ys : List (List D)} (hxo : ev s xo = .d (.sl sz bts ys) ∨ (ev s xo = .d (.lit (.slice none 0 0)) ∧ ys = []))
    (hn : xs.length + ys.length ≤ 140737488355328) (hb : (xs.length + ys.length) * bts ≤ 140737488355328) (hnk : (!Nat.beq t.k1 t.k2) = true)
    (hle : ∀ b2 s2, LE E ⟨J, s2, hset (unkH t.k1 (t.H false b2 false)) t.k1 (some (.row e sz (xs ++ ys)))⟩ ⟨J, s2, t.H true b2 false⟩) (hk : HTW t E ops J n (i + 1) K (sset s d (.row t.k1))) : HTW t E ops J n i K s := by
  refine HT_cons (x := .row t.k1) ho hi (by rw [hdst]; exact hdN) (.inl ⟨Nat.eq_of_beq_eq_true hiq, hnk, o, ho, hgd, fun s1 hs1 hnk b2 => ?_⟩) (by rw [hdst]; exact hk)
  have look := looks_app (ops := ops) hop
  have e1 : ev s1 so = ev s so := ev_same fun t' e => hs1 t' (look t' (.inl e.symm))
  have e2 : ev s1 xo = ev s xo := ev_same fun t' e => hs1 t' (look t' (.inr e.symm))
  refine opG_of_OW hgd (OW_appendLit (st := ⟨J, s1, t.H false b2 false⟩) hE (hG b2) (o := o) rfl hop (by simp [awant, hgd]) ht hte hpos (by rw [e1]; exact hso) (hkey b2) (by rw [e2]; exact hxo) hn hb (s' := sset s1 d (.row t.k1)) (by rw [unkS_self hnk, hdst]; simp [putS, hdN]) (OW_end rfl ⟨rfl, by rw [hdst]; exact hle b2 _⟩))
theorem HT_append2 (hE : E.Good) {G : Nat} {v0 : Value} {cs0 : List AV} {vs0 : List Value} (hG : ∀ b1 b3, t.H b1 false b3 G = some (.ghost (.row t.k2 :: cs0) (v0 :: vs0))) {o : Oper} {ty e : TypeId} {so xo : Operand} (ho : ops[i]? = some o) (hiq : Nat.beq i t.q2 = true) (hi : Nat.ble (i + 1) n = true) (hop : o.op = .call ⟨.builtin .append, #[so, xo], #[ty, ty]⟩) (hgd : o.guard = none) {d : Nat} (hdst : o.dst = some d) (hdN : Nat.ble (d + 1) E.N = true) {z1 z2 : Nat} {z3 : List Value} (ht : E.T ty = some ⟨.slice e, z1, z2, z3⟩)
    {kk : TK} {sz bts : Nat} {z6 : List Value} (hte : E.T e = some ⟨kk, sz, bts, z6⟩) (hpos : Nat.ble 1 sz = true) (hso : ev s so = .d (.lit v0)) {xs : List (List D)} (hkey : ∀ b1 b3, t.H b1 false b3 t.k2 = some (.row e sz xs)) {ys : List (List D)} (hxo : ev s xo = .d (.sl sz bts ys) ∨ (ev s xo = .d (.lit (.slice none 0 0)) ∧ ys = []))
    (hn : xs.length + ys.length ≤ 140737488355328) (hb : (xs.length + ys.length) * bts ≤ 140737488355328) (hnk : (!Nat.beq t.k2 t.k1) = true)
    (hle : ∀ b1 b3 s2, (b3 = true → b1 = true) → LE E ⟨J, s2, hset (unkH t.k2 (t.H b1 false b3)) t.k2 (some (.row e sz (xs ++ ys)))⟩ ⟨J, s2, t.H b1 true b3⟩) (hk : HTW t E ops J n (i + 1) K (sset s d (.row t.k2))) : HTW t E ops J n i K s := by
  refine HT_cons (x := .row t.k2) ho hi (by rw [hdst]; exact hdN) (.inr (.inl ⟨Nat.eq_of_beq_eq_true hiq, hnk, o, ho, hgd, fun s1 hs1 hnk b1 b3 h31 => ?_⟩)) (by rw [hdst]; exact hk)
  have look := looks_app (ops := ops) hop
  have e1 : ev s1 so = ev s so := ev_same fun t' e => hs1 t' (look t' (.inl e.symm))
  have e2 : ev s1 xo = ev s xo := ev_same fun t' e => hs1 t' (look t' (.inr e.symm))
  refine opG_of_OW hgd (OW_appendLit (st := ⟨J, s1, t.H b1 false b3⟩) hE (hG b1 b3) (o := o) rfl hop (by simp [awant, hgd]) ht hte hpos (by rw [e1]; exact hso) (hkey b1 b3) (by rw [e2]; exact hxo) hn hb (s' := sset s1 d (.row t.k2)) (by rw [unkS_self hnk, hdst]; simp [putS, hdN]) (OW_end rfl ⟨rfl, by rw [hdst]; exact hle b1 b3 _ h31⟩))
theorem HT_store3 (hE : E.Good) {o : Oper} {ty : TypeId} {p x : Operand} (ho : ops[i]? = some o) (hiq : Nat.beq i t.q3 = true) (hi : Nat.ble (i + 1) n = true) (hop : o.op = .store ty p x) (hgd : o.guard = none) (hdst : o.dst = none) {ti : TI} (ht : E.T ty = some ti) {key off : Nat} (hp : ev s p = .ptr key off)
    {bt : TypeId} {cs : List AV} (hk : ∀ b2, t.H true b2 false key = some (.box bt cs)) {vs : List AV} (hv : cellsOf (ev s x) = vs) (hc : cellsOk (ev s x) = true) (ho1 : oneAll vs = true) (hl : Nat.beq vs.length ti.size = true) (hfit : Nat.ble (off + vs.length) cs.length = true)
    (hle : ∀ b2 s2, LE E ⟨J, s2, hset (t.H true b2 false) key (some (.box bt (overwrite cs off vs)))⟩ ⟨J, s2, t.H true b2 true⟩) (hk' : HTW t E ops J n (i + 1) K s) : HTW t E ops J n i K s := by
  refine HT_cons (x := .tup []) ho hi (by rw [hdst]; rfl) (.inr (.inr (.inl ⟨Nat.eq_of_beq_eq_true hiq, rfl, rfl, o, ho, hgd, fun s1 hs1 b2 => ?_⟩))) (by rw [hdst]; exact hk')
  have look : ∀ t', (Operand.tmp t' = p ∨ Operand.tmp t' = x) → t' ∈ o.looksAt ops.toArray := fun t' ht' => by
    simp only [Oper.looksAt, List.mem_append, List.mem_filterMap]
    refine .inl ⟨.tmp t', ?_, rfl⟩
    rw [hop]
    rcases ht' with h | h
    · simp [Op.operands, h]
    · simp [Op.operands, h]
  have e1 : ev s1 p = ev s p := ev_same fun t' e => hs1 t' (look t' (.inl e.symm))
  have e2 : ev s1 x = ev s x := ev_same fun t' e => hs1 t' (look t' (.inr e.symm))
  refine opG_of_OW hgd (OW_store' hE (o := o) rfl hop (by simp [awant, hgd]) hdst ht (k := key) (off := off) (by rw [e1]; exact hp) (hk b2) (by rw [e2]; exact hv) (by rw [e2]; exact hc) ho1 hl hfit (OW_end rfl ⟨rfl, by rw [hdst]; exact hle b2 _⟩))
theorem LE_boxLit {h : Heap} (key : Nat) {k G : Nat} {cs0 : List AV} {v : Value} {vs0 : List Value} (hG : h G = some (.ghost (.row k :: cs0) (v :: vs0))) (ho : okLit v) {bt : TypeId} {cs cs' : List AV} (hk : h key = some (.box bt cs)) (hcs : cs.map (litK k v) = cs') :
    LE E ⟨J, s, h⟩ ⟨J, s, hset h key (some (.box bt cs'))⟩ := fun ι a w ⟨Z, K, Y, hZ, r⟩ => by
  subst hcs
  have h2 := (r.mem.ent G _ hG).2
  simp only [RAs] at h2
  obtain ⟨v', tt, e', ⟨_, hv'⟩, _⟩ := h2
  cases e'
  have hv' : v = (cx Z h ι w).ι k := hv'
  have hdom : dom (hset h key (some (.box bt (cs.map (litK k v))))) = dom h := by
    funext j
    by_cases hj : j = key
    · subst hj; simp [dom, hset_same, hk]
    · simp [dom, hset_ne _ _ hj]
  have hcx : cx Z (hset h key (some (.box bt (cs.map (litK k v))))) ι w = cx Z h ι w := by simp only [cx, hdom]
  refine ⟨ι, Z, K, Y, hZ, ⟨fun j e' hj => ?_, fun j b hj hb => r.mem.own j b (by rw [← hdom]; exact hj) hb, fun j j' b hj hj' => r.mem.apart j j' b (by rw [← hdom]; exact hj) (by rw [← hdom]; exact hj'), r.mem.Zlt, r.mem.Klt, r.mem.Jw, r.mem.Jc⟩, r.size, fun i => ?_, r.ds⟩
  · rw [show (⟨w, Z, dom (hset h key (some (.box bt (cs.map (litK k v))))), ι⟩ : Cx) = cx Z h ι w from hcx]
    have hj : hset h key (some (.box bt (cs.map (litK k v)))) j = some e' := hj
    by_cases hjk : j = key
    · subst hjk
      rw [hset_same] at hj
      cases hj
      obtain ⟨bl, vs, f1, f2, f3⟩ := r.mem.ent j _ hk
      exact ⟨bl, vs, f1, f2, RAs_litK hv' ho f3⟩
    · rw [hset_ne _ _ hjk] at hj
      exact r.mem.ent j _ hj
  · rw [show cx Z (hset h key (some (.box bt (cs.map (litK k v))))) ι w = cx Z h ι w from hcx]
    exact r.slot i
end
end Go.AL
namespace Go.AL
set_option linter.unusedVariables false
set_option linter.unusedSimpArgs false
mutual
theorem rnA_id : ∀ x : AV, rnA (fun k => k) x = x
  | .d x => rfl
  | .any => rfl
  | .agg cs => by simp only [rnA, rnAs_id cs]
  | .tup cs => by simp only [rnA, rnAs_id cs]
  | .fn f a b => by simp only [rnA, rnAs_id a, rnAs_id b]
  | .ptr k o => rfl
  | .view k o n => rfl
  | .row k => rfl
theorem rnAs_id : ∀ xs : List AV, rnAs (fun k => k) xs = xs
  | [] => rfl
  | x :: xs => by simp only [rnAs, rnA_id x, rnAs_id xs]
end
theorem rnE_id (e : Ent) : rnE (fun k => k) e = e := by cases e <;> simp [rnE, rnAs_id]
theorem tr_nil : tr [] = fun k => k := by funext k; rfl
mutual
theorem noP_false : ∀ x : AV, noP (fun _ => false) x = true
  | .d x => rfl
  | .any => rfl
  | .agg cs => by simp only [noP, noPs_false cs]
  | .tup cs => by simp only [noP, noPs_false cs]
  | .fn f a b => by simp only [noP, noPs_false a, noPs_false b]; rfl
  | .ptr k o => rfl
  | .view k o n => rfl
  | .row k => rfl
theorem noPs_false : ∀ xs : List AV, noPs (fun _ => false) xs = true
  | [] => rfl
  | x :: xs => by simp only [noPs, noP_false x, noPs_false xs]; rfl
end
theorem unP_false (x : AV) : unP (fun _ => false) x = x := by unfold unP; rw [noP_false]; rfl
theorem unPE_false (e : Ent) : unPE (fun _ => false) e = e := by
  have : ∀ xs : List AV, unPs (fun _ => false) xs = xs := fun xs => by
    unfold unPs
    conv => rhs; rw [← List.map_id xs]
    exact List.map_congr_left fun x _ => unP_false x
  cases e <;> simp [unPE, this]
theorem lostP_all (l : List (Nat × Ent)) : lostP (tr []) l (keysL l) = fun _ => false := by
  funext j
  unfold lostP
  rw [List.any_eq_false]
  intro x hx h
  simp only [Bool.and_eq_true] at h
  have : (keysL l).any (fun k => Nat.beq k x.1) = true := List.any_eq_true.2 ⟨x.1, List.mem_map.2 ⟨x, hx, rfl⟩, by simp⟩
  rw [this] at h
  simp at h
theorem callS_read (l : List (Nat × Ent)) (s : Slots) : callS (tr []) l (keysL l) s = s := by
  funext i
  unfold callS
  rw [lostP_all, unP_false]
theorem pairE_id (l : List (Nat × Ent)) : pairE (tr []) l = l := by
  unfold pairE
  rw [tr_nil]
  conv => rhs; rw [← List.map_id l]
  exact List.map_congr_left fun x _ => by rw [rnE_id]; rfl
theorem callH_read {l : List (Nat × Ent)} {h : Heap} (ha : allE h l) : callH (tr []) l l (keysL l) h = h := by
  funext j
  unfold callH
  cases hk : lkK (tr []) l j with
  | some k =>
    obtain ⟨h1, h2, h3⟩ := lkK_some hk
    obtain ⟨e, he⟩ := Option.isSome_iff_exists.1 h2
    have h1 : j = k := h1
    subst h1
    simp only [he, Option.map_some, tr_nil, rnE_id]
    exact (allE_of ha he).symm
  | none =>
    have hg : gone (tr []) l j = false := by
      cases hq : gone (tr []) l j with
      | false => rfl
      | true =>
        obtain ⟨k, hkk, e⟩ := gone_iff.1 hq
        exact absurd e (lkK_none hk k hkk)
    simp only [hg, cond_false, lostP_all]
    cases h j with
    | none => rfl
    | some e => simp only [Option.map_some, unPE_false]
section
variable {E : Env} {ops : List Oper} {Q : Exit → St → Prop} {i : Nat} {J : Jt} {s : Slots} {h : Heap}
theorem OW_callR' (hE : E.Good) {f : Nat} {l : List (Nat × Ent)} {L : List AV} {R : D} {ks : List Nat} (hc : DoesM E.P f l L (.d R) l ks) {o : Oper} {fo : Operand} {args : Array Operand} {ts : Array TypeId} (ho : ops[i]? = some o) (hop : o.op = .call ⟨.value fo, args, ts⟩) (hw : awant ops o s = some true)
    (hks : keysL l = ks) (hL : callArgs s fo args.toList = some (f, L)) (hinj : injB (tr []) (keysL l ++ keysL l) = true) (hent : allE h l) (hfr : freshL (tr []) h l l = true)
    {s' : Slots} (hs : putS E.N s o.dst (.d R) = some s') (hk' : OW E ops (i + 1) Q ⟨J, s', h⟩) : OW E ops i Q ⟨J, s, h⟩ := by
  subst hks
  refine OW_callM' hE (tr []) hc ho hop hw (by rw [tr_nil, rnAs_id]; exact hL) hinj (by rw [pairE_id]; exact hent) hfr (s' := s') (by rw [callS_read, tr_nil, rnA_id]; exact hs) ?_
  rw [callH_read hent]
  exact hk'
end
def ClosedB (ops : List Oper) (b : Nat → Bool) : Prop := ∀ j o, ops[j]? = some o → b j = true → ∀ p, aft o p = true → b p = true
def bset (b : Nat → Bool) (i : Nat) : Nat → Bool := fun j => bif Nat.beq j i then true else b j
def Rdy (ops : List Oper) (b : Nat → Bool) (i : Nat) (o : Oper) : Prop := ClosedB ops b ∧ b i = false ∧ ∀ p, aft o p = true → b p = true
structure Eff where
  qs : List Nat
  H : (Nat → Bool) → Heap
  nk : List (Nat × Nat)
def INk (l : List (Nat × Nat)) (b : Nat → Bool) (s : Slots) : Prop := ∀ q k, (q, k) ∈ l → b q = false → ∀ t, nokey k (s t) = true
def YX (t : Eff) (E : Env) (ops : List Oper) (J : Jt) (i : Nat) (s : Slots) (x : AV) : Prop :=
  (t.nk.all fun p => Nat.beq p.1 i || nokey p.2 x) = true ∧ ∃ o, ops[i]? = some o ∧
  (((t.qs.any fun q => Nat.beq q i) = true ∧ awant ops o s = some true ∧ ∀ s1, (∀ t ∈ o.looksAt ops.toArray, s1 t = s t) → ∀ b, Rdy ops b i o → INk t.nk b s1 → OpG E o ⟨J, s1, t.H b⟩ (fun st' => LE E st' ⟨J, pu s1 o.dst x, t.H (bset b i)⟩)) ∨
   ((t.qs.any fun q => Nat.beq q i) = false ∧ ∀ b, Rdy ops b i o → YA E ops J (t.H b) o s x))
def HXW (t : Eff) (E : Env) (ops : List Oper) (J : Jt) (n i : Nat) (K : Slots → Prop) (s : Slots) : Prop := QB E (YX t E ops J) K ((ops.take n).drop i) i s
theorem bits_set {listed : Array Bool} {i : Nat} (h : i < listed.size) : bits (listed.setIfInBounds i true) = bset (bits listed) i := by
  funext j
  unfold bset
  cases hb : Nat.beq j i with
  | true =>
    have := Nat.eq_of_beq_eq_true hb
    subst this
    simp [bits, h]
  | false =>
    have hji : i ≠ j := fun e => by rw [e] at hb; simp at hb
    exact getD_set_ne false hji
section
variable {E : Env} {ops : List Oper} {Q : Exit → St → Prop} {J : Jt} {s : Slots} {h : Heap}
theorem CW_drawnX (hE : E.Good) (n : Nat) (t : Eff) {id : Nat} (hB : Region.lexTailB .any ops.toArray n = true) (hqn : (t.qs.all fun q => Nat.ble (q + 1) n) = true) (hdep : ∀ b b' : Nat → Bool, (∀ q ∈ t.qs, b q = b' q) → t.H b = t.H b') (hS : INk t.nk (fun _ => false) s) (hle : LE E ⟨J, s, h⟩ ⟨J, s, t.H (fun _ => false)⟩)
    (hq : HXW t E ops J n 0 (fun s => OW E ops n Q ⟨J, s, t.H (fun _ => true)⟩) s) : CW E (.region id ops.toArray true) Q ⟨J, s, h⟩ := CW.le hle fun ι a w r => by
  simp only [Region.lexTailB, Bool.and_eq_true, decide_eq_true_eq] at hB
  obtain ⟨⟨⟨⟨hsel, hn⟩, hs⟩, hc⟩, hlex⟩ := hB
  have hn' : n < ops.length := by simpa using hn
  have htl : (ops.take n).length = n := by simp; omega
  have hdl : (ops.drop n).length = ops.toArray.size - n := by simp
  have inv0 : HeadInv .any ops.toArray n (Array.replicate ops.toArray.size false) :=
    ⟨by simp, fun j oj _ hl => (by rw [getD_replicate_false] at hl; cases hl), fun t _ ht => getD_in (by simpa using ht) (getD_replicate_false _ _)⟩
  have hYS : YStable ops (YX t E ops J) := by
    intro i o s s' x ho hss hy
    obtain ⟨g0, o', g1, g2⟩ := hy
    have hoo : o' = o := by rw [ho] at g1; exact (Option.some.inj g1).symm
    subst hoo
    refine ⟨g0, o', g1, ?_⟩
    rcases g2 with ⟨g2, g3, g4⟩ | ⟨g2, g3⟩
    · exact .inl ⟨g2, (awant_same hss).trans g3, fun s1 hs1 => g4 s1 fun t ht => (hs1 t ht).trans (hss t ht)⟩
    · exact .inr ⟨g2, fun b hb => YA_same hss (g3 b hb)⟩
  have H0 := anyB_lex (E := E) (Y := YX t E ops J) (g := ops.toArray.size - n) hYS hs hc hn (ops.take n) 0 _ s (fun j hj => by
    have hj' : j < n := by rw [htl] at hj; exact hj
    simp [hj']) (by simpa using htl) inv0 (fun j hj => by omega) (by rw [htl]; exact hlex) (by simpa [HXW] using hq)
  have b0 : bits (Array.replicate ops.toArray.size false) = fun _ => false := by funext q; exact getD_replicate_false _ _
  have r1 : RelS E ⟨J, s, t.H (bits (Array.replicate ops.toArray.size false))⟩ ι a { w with drawn := w.drawn + 1 } := by
    rw [b0]
    obtain ⟨Z, K, Y, hZE, r⟩ := r
    exact ⟨Z, K, Y, hZE, r.mem.grew (Grew.drew w), r.size, fun i => RA_keeps (keepsC_grew (K := K) (J := J K Y Z) (Grew.drew w)) _ _ (r.slot i), r.ds.grew (Grew.drew w)⟩
  refine wpIn_region_any hE.ok.mixed ?_
  have hh := wpAnyIn_of_headI (Y := YX t E ops J) (J := J) (Q' := Post E Q) t.H (fun b s => INk t.nk b s) (g := ops.toArray.size - n)
    (fun i o listed s x ho inv hy hSl => fun q k hm => by
      have hx := List.all_eq_true.1 hy.1 _ hm
      simp only [Bool.or_eq_true] at hx
      exact nokeyI ho inv (hx.imp (fun h => (Nat.eq_of_beq_eq_true h).symm) (fun h => h)) (hSl q k hm))
    (fun i o listed s x ho inv hi hin hSl hy hdo ι a w r K' hk' => ?_) (fun listed s ι a' w' r' hL => by
    have r' : RelS E ⟨J, s, t.H (bits listed)⟩ ι a' w' := r'
    rw [hdep (bits listed) (fun _ => true) fun q hq => hL.1.2 q (Nat.le_of_ble_eq_true (List.all_eq_true.1 hqn q hq))] at r'
    have := wpAnyIn_of_seq (Q' := Post E Q) (ops.drop n) n listed a' w' (fun j => by simp [List.getElem?_drop]) (by rw [hdl]; exact hL.1.1) (hL.2 ι a' w' r')
    rwa [hdl] at this) _ _ _ ι a _ inv0 (by rw [b0]; exact hS) r1 H0
  · rw [htl] at hh
    rwa [show n + (ops.toArray.size - n) = ops.toArray.size by simp; omega] at hh
  · have hun : listed.getD i true = false := (mem_ready.1 hi).1
    have hsz : i < listed.size := by
      rw [inv.size]
      have := (List.getElem?_eq_some_iff.1 ho).1
      simpa using this
    rw [bits_set hsz] at hk'
    obtain ⟨_, o', g1, g2⟩ := hy
    have hoo : o' = o := by rw [ho] at g1; exact (Option.some.inj g1).symm
    subst hoo
    have hrdy : Rdy ops (bits listed) i o' := ⟨fun j o1 h1 hb p hp => aft_listed inv h1 hp hb, getD_both hun, fun p hp => aft_ready inv hi ho hp⟩
    rcases g2 with ⟨g2, hgd, g4⟩ | ⟨g2, g3⟩
    · have g := g4 s (fun _ _ => rfl) (bits listed) hrdy hSl
      unfold wpOpIn
      simp only [List.getElem?_toArray, ho]
      rw [if_pos (awant_ok r hgd)]
      refine g ι a w r K' (Post E Q) fun st' ι' a' w' hst r' => ?_
      obtain ⟨ι2, r2⟩ := hst ι' a' w' r'
      exact hk' ι2 a' w' r2
    · have hHs : t.H (bset (bits listed) i) = t.H (bits listed) := hdep _ _ fun q hq => by
        have hne : Nat.beq q i = false := by
          rw [List.any_eq_false] at g2
          exact Bool.eq_false_iff.2 (g2 q hq)
        unfold bset
        rw [hne]; rfl
      rw [hHs] at hk'
      refine wpOpIn_of_qA (J := J) (h := t.H (bits listed)) (K := fun s' => s' = pu s o'.dst x) hE r (fun s' a' w' r' hs' => ?_) ?_
      · subst hs'
        exact hk' ι a' w' r'
      · unfold qA
        simp only [ho]
        exact ⟨x, hdo, g3 _ hrdy, rfl⟩
variable {n i : Nat} {t : Eff} {K : Slots → Prop}
theorem HX_cons {o : Oper} (ho : ops[i]? = some o) (hi : Nat.ble (i + 1) n = true) {x : AV} (hd : dstOk E.N o.dst = true) (hy : YX t E ops J i s x) (hk : HXW t E ops J n (i + 1) K (pu s o.dst x)) : HXW t E ops J n i K s := by
  unfold HXW at *
  have hi' := Nat.le_of_ble_eq_true hi
  obtain ⟨hlt, rfl⟩ := List.getElem?_eq_some_iff.1 ho
  have hlt2 : i < (ops.take n).length := by simp; omega
  rw [List.drop_eq_getElem_cons hlt2, List.getElem_take]
  exact ⟨x, hd, hy, hk⟩
theorem HX_end (hk : K s) : HXW t E ops J n n K s := by
  unfold HXW
  rw [List.drop_eq_nil_of_le (by simp; omega)]
  exact hk
theorem HX_loc (hE : E.Good) {o : Oper} {R : AV} (hl : ∀ b, Rdy ops b i o → Loc E ops J (t.H b) o s R) (ho : ops[i]? = some o) (hi : Nat.ble (i + 1) n = true) (hw : awant ops o s = some true) {s' : Slots} (hs : putS E.N s o.dst R = some s') (hq : (t.qs.any fun q => Nat.beq q i) = false) (hnk : (t.nk.all fun p => Nat.beq p.1 i || nokey p.2 R) = true) (hk : HXW t E ops J n (i + 1) K s') : HXW t E ops J n i K s := by
  obtain ⟨hd, rfl⟩ := pu_of_putS hs
  exact HX_cons ho hi hd ⟨hnk, o, ho, .inr ⟨hq, fun b hb => .inl ⟨hw, LY_of_gives hE (hl b hb).1 fun Z K Y ι a w m hlk => (hl b hb).2 Z K Y ι a w m (look_ev hlk)⟩⟩⟩ hk
def runPureX (E : Env) (nk : List (Nat × Nat)) (ops : List Oper) (h : Heap) : Nat → Nat → Slots → Option Slots
  | 0, _, s => some s
  | m + 1, i, s => match ops[i]? with
    | some o => match awant ops o s with
      | some true => match stepPure E.T h s o.op with
        | some R => bif nk.all fun p => Nat.beq p.1 i || nokey p.2 R then match putS E.N s o.dst R with
          | some s' => runPureX E nk ops h m (i + 1) s'
          | none => none else none
        | none => none
      | some false => match putS E.N s o.dst (.tup []) with
        | some s' => runPureX E nk ops h m (i + 1) s'
        | none => none
      | none => none
    | none => none
theorem HX_run (hE : E.Good) (m : Nat) {h0 : Heap} {s' : Slots} (more : ∀ b j e, h0 j = some e → t.H b j = some e) (hp : runPureX E t.nk ops h0 m i s = some s') (hi : Nat.ble (i + m) n = true) (hq : (t.qs.all fun q => Nat.ble (i + m) q || Nat.ble (q + 1) i) = true)
    (hk : HXW t E ops J n (i + m) K s') : HXW t E ops J n i K s := by
  induction m generalizing i s with
  | zero => simp only [runPureX, Option.some.injEq] at hp; subst hp; exact hk
  | succ m ih =>
    have hi' := Nat.le_of_ble_eq_true hi
    have hi1 : Nat.ble (i + 1) n = true := Nat.ble_eq_true_of_le (by omega)
    have hi2 : Nat.ble (i + 1 + m) n = true := Nat.ble_eq_true_of_le (by omega)
    have a1 : (t.qs.any fun q => Nat.beq q i) = false := by
      rw [List.any_eq_false]
      intro q hm hb
      have := List.all_eq_true.1 hq q hm
      have e := Nat.eq_of_beq_eq_true hb
      subst e
      simp only [Bool.or_eq_true] at this
      rcases this with h | h <;> have := Nat.le_of_ble_eq_true h <;> omega
    have a2 : (t.qs.all fun q => Nat.ble (i + 1 + m) q || Nat.ble (q + 1) (i + 1)) = true := by
      rw [List.all_eq_true] at hq ⊢
      intro q hm
      have := hq q hm
      simp only [Bool.or_eq_true] at this ⊢
      rcases this with h | h
      · have := Nat.le_of_ble_eq_true h
        exact .inl (Nat.ble_eq_true_of_le (by omega))
      · have := Nat.le_of_ble_eq_true h
        exact .inr (Nat.ble_eq_true_of_le (by omega))
    simp only [runPureX] at hp
    split at hp
    · rename_i o ho
      split at hp
      · rename_i hw
        split at hp
        · rename_i R hR
          cases hnk : (t.nk.all fun p => Nat.beq p.1 i || nokey p.2 R) with
          | false => rw [hnk] at hp; cases hp
          | true =>
            rw [hnk] at hp
            simp only [cond_true] at hp
            split at hp
            · rename_i s1 hs1
              obtain ⟨hd, rfl⟩ := pu_of_putS hs1
              refine HX_cons ho hi1 hd ⟨hnk, o, ho, .inr ⟨a1, fun b _ => .inl ⟨hw, LY_of_gives hE (stepPure_notDefer hR) fun Z K Y ι a w m hl => stepPure_ok (K := K) (J := J K Y Z) hE.ok.T m o (look_ev hl) (stepPure_more (more b) hR)⟩⟩⟩ (ih (i := i + 1) (s := pu s o.dst R) hp hi2 a2 ?_)
              rwa [show i + 1 + m = i + (m + 1) by omega]
            · cases hp
        · cases hp
      · rename_i hw
        split at hp
        · rename_i s1 hs1
          obtain ⟨hd, rfl⟩ := pu_of_putS hs1
          refine HX_cons ho hi1 hd ⟨by rw [List.all_eq_true]; intro p _; simp [nokey, nokeys], o, ho, .inr ⟨a1, fun b _ => .inr ⟨hw, rfl⟩⟩⟩ (ih (i := i + 1) (s := pu s o.dst (.tup [])) hp hi2 a2 ?_)
          rwa [show i + 1 + m = i + (m + 1) by omega]
        · cases hp
      · cases hp
    · cases hp
theorem HX_effG {o : Oper} {x : AV} (ho : ops[i]? = some o) (hi : Nat.ble (i + 1) n = true) (hw : awant ops o s = some true) (hq : (t.qs.any fun q => Nat.beq q i) = true) (hnk : (t.nk.all fun p => Nat.beq p.1 i || nokey p.2 x) = true) {s' : Slots} (hs : putS E.N s o.dst x = some s')
    (hg : ∀ s1, (∀ t ∈ o.looksAt ops.toArray, s1 t = s t) → ∀ b, Rdy ops b i o → INk t.nk b s1 → OW E [{ o with guard := none }] 0 (fun e st' => e = .normal ∧ LE E st' ⟨J, pu s1 o.dst x, t.H (bset b i)⟩) ⟨J, s1, t.H b⟩) (hk : HXW t E ops J n (i + 1) K s') : HXW t E ops J n i K s := by
  obtain ⟨hd, rfl⟩ := pu_of_putS hs
  exact HX_cons ho hi hd ⟨hnk, o, ho, .inl ⟨hq, hw, fun s1 hs1 b hb hI => (opG_of_OW (o := { o with guard := none }) rfl (hg s1 hs1 b hb hI) : OpG E { o with guard := none } _ _)⟩⟩ hk
theorem HX_eff {o : Oper} {x : AV} (ho : ops[i]? = some o) (hi : Nat.ble (i + 1) n = true) (hgd : o.guard = none) (hq : (t.qs.any fun q => Nat.beq q i) = true) (hnk : (t.nk.all fun p => Nat.beq p.1 i || nokey p.2 x) = true) {s' : Slots} (hs : putS E.N s o.dst x = some s')
    (hg : ∀ s1, (∀ t ∈ o.looksAt ops.toArray, s1 t = s t) → ∀ b, Rdy ops b i o → INk t.nk b s1 → OW E [o] 0 (fun e st' => e = .normal ∧ LE E st' ⟨J, pu s1 o.dst x, t.H (bset b i)⟩) ⟨J, s1, t.H b⟩) (hk : HXW t E ops J n (i + 1) K s') : HXW t E ops J n i K s := by
  obtain ⟨hd, rfl⟩ := pu_of_putS hs
  exact HX_cons ho hi hd ⟨hnk, o, ho, .inl ⟨hq, by simp [awant, hgd], fun s1 hs1 b hb hI => opG_of_OW hgd (hg s1 hs1 b hb hI)⟩⟩ hk
theorem putS_pu {N : Nat} {s : Slots} {dst : Option Nat} {x : AV} (hd : dstOk N dst = true) : putS N s dst x = some (pu s dst x) := by
  cases dst with
  | none => rfl
  | some d => simp only [dstOk] at hd; simp [putS, hd, pu]
theorem HX_alloc (hE : E.Good) {o : Oper} {k : Nat} {ty : TypeId} {ti : TI} {zs : List AV} (ho : ops[i]? = some o) (hi : Nat.ble (i + 1) n = true) (hop : o.op = .alloc ty) (hgd : o.guard = none) (hq : (t.qs.any fun q => Nat.beq q i) = true) (hnk : (t.nk.all fun p => Nat.beq p.1 i || nokey p.2 (.ptr k 0)) = true)
    (hty : E.T ty = some ti) (hz : litCells ti.zero = some zs) {s' : Slots} (hs : putS E.N s o.dst (.ptr k 0) = some s') (hfree : ∀ b, Rdy ops b i o → t.H b k = none) (heq : ∀ b, Rdy ops b i o → hset (t.H b) k (some (.box ty zs)) = t.H (bset b i)) (hk : HXW t E ops J n (i + 1) K s') : HXW t E ops J n i K s := by
  have hd := (pu_of_putS hs).1
  refine HX_eff ho hi hgd hq hnk hs (fun s1 hs1 b hb _ => ?_) hk
  exact OW_alloc' hE k (o := o) rfl hop (by simp [awant, hgd]) (hfree b hb) hty hz (putS_pu hd) (OW_end rfl ⟨rfl, by rw [← heq b hb]; exact LE.refl _ _⟩)
theorem HX_store (hE : E.Good) {o : Oper} {ty : TypeId} {p x : Operand} (ho : ops[i]? = some o) (hi : Nat.ble (i + 1) n = true) (hop : o.op = .store ty p x) (hgd : o.guard = none) (hdst : o.dst = none) (hq : (t.qs.any fun q => Nat.beq q i) = true) {ti : TI} (hty : E.T ty = some ti) {key off : Nat} (hp : ev s p = .ptr key off)
    {bt : TypeId} {cs : List AV} (hkey : ∀ b, Rdy ops b i o → t.H b key = some (.box bt cs)) {vs : List AV} (hv : cellsOf (ev s x) = vs) (hc : cellsOk (ev s x) = true) (ho1 : oneAll vs = true) (hl : Nat.beq vs.length ti.size = true) (hfit : Nat.ble (off + vs.length) cs.length = true)
    (heq : ∀ b, Rdy ops b i o → hset (t.H b) key (some (.box bt (overwrite cs off vs))) = t.H (bset b i)) (hk : HXW t E ops J n (i + 1) K s) : HXW t E ops J n i K s := by
  refine HX_eff (x := .tup []) ho hi hgd hq (by rw [List.all_eq_true]; intro p _; simp [nokey, nokeys]) (s' := s) (by rw [hdst]; rfl) (fun s1 hs1 b hb _ => ?_) hk
  have look : ∀ t', (Operand.tmp t' = p ∨ Operand.tmp t' = x) → t' ∈ o.looksAt ops.toArray := fun t' ht' => by
    simp only [Oper.looksAt, List.mem_append, List.mem_filterMap]
    refine .inl ⟨.tmp t', ?_, rfl⟩
    rw [hop]
    rcases ht' with h | h
    · simp [Op.operands, h]
    · simp [Op.operands, h]
  have e1 : ev s1 p = ev s p := ev_same fun t' e => hs1 t' (look t' (.inl e.symm))
  have e2 : ev s1 x = ev s x := ev_same fun t' e => hs1 t' (look t' (.inr e.symm))
  exact OW_store' hE (o := o) rfl hop (by simp [awant, hgd]) hdst hty (k := key) (off := off) (by rw [e1]; exact hp) (hkey b hb) (by rw [e2]; exact hv) (by rw [e2]; exact hc) ho1 hl hfit (OW_end rfl ⟨rfl, by rw [hdst]; show LE E _ ⟨J, s1, _⟩; rw [← heq b hb]; exact LE.refl _ _⟩)
theorem HX_callR (hE : E.Good) {f : Nat} {l : List (Nat × Ent)} {L : List AV} {R : D} {ks : List Nat} (hc : DoesM E.P f l L (.d R) l ks) {o : Oper} {fo : Operand} {args : Array Operand} {ts : Array TypeId} (ho : ops[i]? = some o) (hi : Nat.ble (i + 1) n = true) (hop : o.op = .call ⟨.value fo, args, ts⟩) (hgd : o.guard = none) (hq : (t.qs.any fun q => Nat.beq q i) = true)
    (hks : keysL l = ks) (hL : callArgs s fo args.toList = some (f, L)) (hinj : injB (tr []) (keysL l ++ keysL l) = true) (hent : ∀ b, Rdy ops b i o → allE (t.H b) l) (hfr : ∀ b, Rdy ops b i o → freshL (tr []) (t.H b) l l = true)
    {s' : Slots} (hs : putS E.N s o.dst (.d R) = some s') (heq : ∀ b, Rdy ops b i o → t.H b = t.H (bset b i)) (hk : HXW t E ops J n (i + 1) K s') : HXW t E ops J n i K s := by
  have hd := (pu_of_putS hs).1
  refine HX_eff (x := .d R) ho hi hgd hq (by rw [List.all_eq_true]; intro p _; simp [nokey]) hs (fun s1 hs1 b hb _ => ?_) hk
  refine OW_callR' hE hc (o := o) rfl hop (by simp [awant, hgd]) hks (by
    rw [callArgs_same hop hs1]; exact hL) hinj (hent b hb) (hfr b hb) (putS_pu hd) (OW_end rfl ⟨rfl, by rw [← heq b hb]; exact LE.refl _ _⟩)
end
end Go.AL
namespace Go.AL
set_option linter.unusedVariables false
set_option linter.unusedSimpArgs false
section
variable {E : Env} {ops : List Oper} {Q : Exit → St → Prop} {J : Jt} {s : Slots} {h : Heap} {n i : Nat} {t : Eff} {K : Slots → Prop}
theorem HX_call (hE : E.Good) {f : Nat} {L : List AV} {R : AV} (hc : Does E.P f L noHeap R) {s' : Slots} {o : Oper} {fo : Operand} {args : Array Operand} {ts : Array TypeId} (ho : ops[i]? = some o) (hi : Nat.ble (i + 1) n = true) (hop : o.op = .call ⟨.value fo, args, ts⟩)
    (hw : awant ops o s = some true) (hL : callArgs s fo args.toList = some (f, L)) (hkf : kfs L = true) (hR : kf R = true) (hs : putS E.N s o.dst R = some s') (hq : (t.qs.any fun q => Nat.beq q i) = false) (hnk : (t.nk.all fun p => Nat.beq p.1 i || nokey p.2 R) = true) (hk : HXW t E ops J n (i + 1) K s') : HXW t E ops J n i K s := by
  obtain ⟨hd, rfl⟩ := pu_of_putS hs
  exact HX_cons ho hi hd ⟨hnk, o, ho, .inr ⟨hq, fun b _ => .inl ⟨hw, LY_call hE hc hop hL hkf hR⟩⟩⟩ hk
theorem HX_loc2 (hE : E.Good) {o : Oper} {R : AV} (ho : ops[i]? = some o) (hi : Nat.ble (i + 1) n = true) (hw : awant ops o s = some true) (hl : ∀ b, Rdy ops b i o → Loc E ops J (t.H b) o s R) {s' : Slots} (hs : putS E.N s o.dst R = some s') (hq : (t.qs.any fun q => Nat.beq q i) = false) (hnk : (t.nk.all fun p => Nat.beq p.1 i || nokey p.2 R) = true) (hk : HXW t E ops J n (i + 1) K s') : HXW t E ops J n i K s := HX_loc hE hl ho hi hw hs hq hnk hk
theorem HT_loc2 {t : Two} (hE : E.Good) {o : Oper} {R : AV} (ho : ops[i]? = some o) (hi : Nat.ble (i + 1) n = true) (hw : awant ops o s = some true) (hl : ∀ b1 b2 b3, (b3 = true → b1 = true) → Loc E ops J (t.H b1 b2 b3) o s R) {s' : Slots} (hs : putS E.N s o.dst R = some s') (hq : (Nat.beq i t.q1 || Nat.beq i t.q2 || Nat.beq i t.q3) = false) (hn1 : nokey t.k1 R = true) (hn2 : nokey t.k2 R = true) (hk : HTW t E ops J n (i + 1) K s') : HTW t E ops J n i K s := HT_loc hE hl ho hi hw hs hq hn1 hn2 hk
theorem HX_as (d : Nat) (v : AV) (hs : s d = v) (hk : HXW t E ops J n i K (sset s d v)) : HXW t E ops J n i K s := by rwa [sset_self hs] at hk
end
def HAS (h : Heap) (a f k : Nat) (e0 e1 : Ent) : (Nat → Bool) → Heap := fun b => bif b f then hset h k (some e1) else bif b a then hset h k (some e0) else h
section
variable {h : Heap} {a f k : Nat} {e0 e1 : Ent}
theorem has_dep {qs : List Nat} (ha : a ∈ qs) (hf : f ∈ qs) : ∀ b b' : Nat → Bool, (∀ q ∈ qs, b q = b' q) → HAS h a f k e0 e1 b = HAS h a f k e0 e1 b' := fun b b' hb => by unfold HAS; rw [hb a ha, hb f hf]
theorem has_get {j : Nat} {e : Ent} (hj : h j = some e) (hk : h k = none) (b : Nat → Bool) : HAS h a f k e0 e1 b j = some e := by
  have hne : j ≠ k := fun e => by rw [e, hk] at hj; cases hj
  unfold HAS
  cases b f with
  | true => simp only [cond_true]; rw [hset_ne _ _ hne]; exact hj
  | false => cases b a with
    | true => simp only [cond_true, cond_false]; rw [hset_ne _ _ hne]; exact hj
    | false => exact hj
theorem has_more (hk : h k = none) : ∀ (b : Nat → Bool) j e, h j = some e → HAS h a f k e0 e1 b j = some e := fun b j e hj => has_get hj hk b
theorem bset_self (b : Nat → Bool) (i : Nat) : bset b i i = true := by simp [bset]
theorem bset_ne (b : Nat → Bool) {i j : Nat} (hn : j ≠ i) : bset b i j = b j := by
  unfold bset
  rw [show Nat.beq j i = false from Bool.eq_false_iff.2 fun h' => hn (Nat.eq_of_beq_eq_true h')]; rfl
theorem has_free {ops : List Oper} {o of : Oper} {b : Nat → Bool} (hf : ops[f]? = some of) (haf : aft of a = true) (hk : h k = none) (hr : Rdy ops b a o) : HAS h a f k e0 e1 b k = none := by
  have hbf : b f = false := by
    cases hb : b f with
    | false => rfl
    | true => have := hr.1 f of hf hb a haf; rw [hr.2.1] at this; cases this
  unfold HAS
  rw [hbf, hr.2.1]; exact hk
theorem has_alloc {ops : List Oper} {o of : Oper} {b : Nat → Bool} (hne : a ≠ f) (hf : ops[f]? = some of) (haf : aft of a = true) (hr : Rdy ops b a o) : hset (HAS h a f k e0 e1 b) k (some e0) = HAS h a f k e0 e1 (bset b a) := by
  have hbf : b f = false := by
    cases hb : b f with
    | false => rfl
    | true => have := hr.1 f of hf hb a haf; rw [hr.2.1] at this; cases this
  unfold HAS
  rw [bset_ne b (Ne.symm hne), bset_self, hbf, hr.2.1]; rfl
theorem has_at {ops : List Oper} {of : Oper} {b : Nat → Bool} (haf : aft of a = true) (hr : Rdy ops b f of) : HAS h a f k e0 e1 b k = some e0 := by
  unfold HAS
  rw [hr.2.1, hr.2.2 a haf]
  simp only [cond_true, cond_false, hset_same]
theorem has_store {ops : List Oper} {of : Oper} {b : Nat → Bool} (haf : aft of a = true) (hr : Rdy ops b f of) : hset (HAS h a f k e0 e1 b) k (some e1) = HAS h a f k e0 e1 (bset b f) := by
  unfold HAS
  rw [bset_self, hr.2.1, hr.2.2 a haf]
  simp only [cond_true, cond_false]
  exact hset_hset _ _ _ _
theorem has_other {i : Nat} (ha : a ≠ i) (hf : f ≠ i) (b : Nat → Bool) : HAS h a f k e0 e1 b = HAS h a f k e0 e1 (bset b i) := by
  unfold HAS
  rw [bset_ne b ha, bset_ne b hf]
theorem has_allE {l : List (Nat × Ent)} (hk : h k = none) (b : Nat → Bool) : allE h l → allE (HAS h a f k e0 e1 b) l := by
  induction l with
  | nil => intro _; trivial
  | cons x l ih =>
    obtain ⟨j, e⟩ := x
    rintro ⟨h1, h2⟩
    exact ⟨has_get h1 hk b, ih h2⟩
end
theorem freshL_self {h : Heap} : ∀ (l0 l : List (Nat × Ent)), (∀ x ∈ l, keyOf l0 x.1 = true) → freshL (tr []) h l0 l = true
  | l0, [], _ => rfl
  | l0, x :: l, hx => by
    obtain ⟨j, e⟩ := x
    simp only [freshL]
    rw [hx _ (List.mem_cons_self ..), freshL_self l0 l fun y hy => hx y (List.mem_cons_of_mem _ hy)]; rfl
theorem freshL_own {h : Heap} (l : List (Nat × Ent)) : freshL (tr []) h l l = true := freshL_self l l fun x hx => List.any_eq_true.2 ⟨x, hx, by simp⟩
def setL : List (Nat × Ent) → Nat → Ent → List (Nat × Ent)
  | [], k, e => [(k, e)]
  | (j, x) :: l, k, e => bif Nat.beq j k then (j, e) :: l else (j, x) :: setL l k e
theorem hset_heapOf : ∀ (l : List (Nat × Ent)) (k : Nat) (e : Ent), hset (heapOf l) k (some e) = heapOf (setL l k e)
  | [], k, e => rfl
  | (j, x) :: l, k, e => by
    simp only [setL]
    cases hb : Nat.beq j k with
    | true =>
      have := Nat.eq_of_beq_eq_true hb
      subst this
      simp only [cond_true, heapOf, hset_hset]
    | false =>
      have hne : j ≠ k := fun h => by rw [h] at hb; simp at hb
      simp only [cond_false, heapOf]
      rw [hset_swap _ hne, hset_heapOf l k e]
theorem unkH_heapOf (k : Nat) : ∀ l : List (Nat × Ent), unkH k (heapOf l) = heapOf (l.map fun x => (x.1, unkE k x.2))
  | [] => by funext j; rfl
  | (j, x) :: l => by
    simp only [List.map_cons, heapOf, ← unkH_heapOf k l]
    funext i
    by_cases hi : i = j
    · subst hi; simp only [unkH, hset_same]
    · simp only [unkH, hset_ne _ _ hi]
theorem LE_eq {E : Env} {J : Jt} {s : Slots} {h h' : Heap} (e : h = h') : LE E ⟨J, s, h⟩ ⟨J, s, h'⟩ := by subst e; exact LE.refl _ _
theorem DoesM.args {P : Program} {f : Nat} {l0 l1 : List (Nat × Ent)} {L L' : List AV} {R : AV} {kept : List Nat} (h : DoesM P f l0 L R l1 kept) (hin : inHs (heapOf l0) L' = true) (hle : AVles L' L) : DoesM P f l0 L' R l1 kept := by
  obtain ⟨⟨h1, h2, h3, h4, h5, h6⟩, h7⟩ := h
  exact ⟨⟨h1, h2, h3, hin, h5, h6⟩, fun n Z w ι vs hZ ho hv => h7 n Z w ι vs hZ ho (hle _ _ hv)⟩
theorem RAs_setAt {C : Cx} {x : AV} : ∀ {cs : List AV} {vs : List Value} {i : Nat}, RAs C cs vs → (∀ v, vs[i]? = some v → RA C x v) → RAs C (cs.set i x) vs
  | [], vs, i, h, _ => by simpa [RAs] using h
  | c :: cs, vs, i, h, hx => by
    simp only [RAs] at h
    obtain ⟨v, t, rfl, h1, h2⟩ := h
    cases i with
    | zero => simp only [List.set_cons_zero, RAs]; exact ⟨v, t, rfl, hx v rfl, h2⟩
    | succ i => simp only [List.set_cons_succ, RAs]; exact ⟨v, t, rfl, h1, RAs_setAt h2 fun u hu => hx u (by simpa using hu)⟩
theorem LE_nilBox {E : Env} {J : Jt} {s : Slots} {h : Heap} (kb key : Nat) (e : TypeId) (sz : Nat) {bt : TypeId} {cs : List AV} {i : Nat} (hb : h kb = some (.box bt cs)) (hi : cs[i]? = some (.d (.lit (.slice none 0 0)))) (hkey : h key = none) :
    LE E ⟨J, s, h⟩ ⟨J, s, hset (hset h key (some (.row e sz []))) kb (some (.box bt (cs.set i (.row key))))⟩ := fun ι a w ⟨Z, K, Y, hZ, r⟩ => by
  obtain ⟨m1, kc⟩ := r.mem.add (Grew.refl w) hkey (e := .row e sz []) (v := .slice none 0 0) (fun b hb => by simp [blk] at hb) ⟨[], .inl ⟨none, rfl, rfl, rfl⟩, by simp [RDs], by simp, by simp⟩
  have hne : kb ≠ key := fun e => by rw [e, hkey] at hb; cases hb
  have hb1 : hset h key (some (.row e sz [])) kb = some (.box bt cs) := by rw [hset_ne _ _ hne]; exact hb
  have hdom : dom (hset (hset h key (some (.row e sz []))) kb (some (.box bt (cs.set i (.row key))))) = dom (hset h key (some (.row e sz []))) := by
    funext j
    by_cases hj : j = kb
    · subst hj; simp [dom, hset_same, hb1]
    · simp [dom, hset_ne _ _ hj]
  refine ⟨_, Z, K, Y, hZ, ⟨fun j e' hj => ?_, fun j b hj hb => m1.own j b (by rw [← hdom]; exact hj) hb, fun j j' b hj hj' => m1.apart j j' b (by rw [← hdom]; exact hj) (by rw [← hdom]; exact hj'), m1.Zlt, m1.Klt, m1.Jw, m1.Jc⟩, r.size, fun j => ?_, r.ds⟩
  · rw [hdom]
    by_cases hjk : j = kb
    · subst hjk
      have hj : hset (hset h key (some (.row e sz []))) j (some (.box bt (cs.set i (.row key)))) j = some e' := hj
      rw [hset_same] at hj
      cases hj
      obtain ⟨bl, vs, f1, f2, f3⟩ := m1.ent j _ hb1
      refine ⟨bl, vs, f1, f2, RAs_setAt f3 fun v hv => ?_⟩
      obtain ⟨v', g1, g2⟩ := RAs_get f3 hi
      obtain ⟨e0, _⟩ := RA_lit.1 g2
      rw [hv] at g1
      cases g1
      rw [e0]
      exact key_row
    · have hj : hset (hset h key (some (.row e sz []))) kb (some (.box bt (cs.set i (.row key)))) j = some e' := hj
      rw [hset_ne _ _ hjk] at hj
      exact m1.ent j _ hj
  · show RA (cx Z (hset (hset h key (some (.row e sz []))) kb (some (.box bt (cs.set i (.row key))))) _ w) _ _
    simp only [cx, hdom]
    exact RA_keeps kc _ _ (r.slot j)
end Go.AL
namespace Go.AL
open Go.RowKit
set_option linter.unusedVariables false
set_option linter.unusedSimpArgs false
theorem run_copy_sized {P : Program} (w : World) (dT sT ty elem : TypeId) (g o dLen dCap : Nat) (a : Addr) (sLen sCap sz : Nat) (cur : Array Value) (t : TypeId) (cs : List Value)
    (hu : P.underlying dT = some (.slice elem)) (hs : ∀ w, (sizeOf elem).run P w = .ok sz w)
    (hg : w.heap[g]? = some (.cells cur t (0, 0))) (hn : cs.length = Nat.min sLen dLen * sz)
    (hsrc : ∀ j v, cs[j]? = some v → w.cell? (a.add j) = some v) (hfit : o + cs.length ≤ cur.size) (h1 : ∀ v ∈ cs, v.oneCell' = true) :
    (Builtin.copy_ #[dT, sT] ty #[.slice (some ⟨g, o, none⟩) dLen dCap, .slice (some a) sLen sCap]).run P w =
      .ok (goInt (Nat.min sLen dLen)) (w.setRow g (cur.toList.take o ++ cs ++ cur.toList.drop (o + cs.length)).toArray) := by
  have hl := run_loadCells_list (P := P) w a cs hsrc
  have hst := run_storeCells_at (P := P) g o t cs 0 cur w hg (by simpa using hfit) h1
  have hn' : min sLen dLen * sz = cs.length := hn.symm
  have hf : (Builtin.firstCells sz (min sLen dLen) (.slice (some a) sLen sCap)).run P w = .ok cs.toArray w := by
    simp [Builtin.firstCells, hn', hl]
  simp [Builtin.copy_, run_underlying hu, Builtin.lenOf, hs, hf, hst]
  first | rfl | skip
end Go.AL
namespace Go.AL
set_option linter.unusedVariables false
set_option linter.unusedSimpArgs false
section
variable {E : Env} {ops : List Oper} {J : Jt} {s : Slots} {h : Heap}
theorem equalIn_ptrNil {P : Program} (w : World) (d : Nat) {t e : TypeId} (a : Addr) (hu : P.underlying t = some (.pointer e)) : (Op.equalIn (d + 1) t (.pointer (some a)) (.pointer none)).run P w = .ok false w := by
  simp [Op.equalIn, run_underlying hu]
theorem eql_ptrNil {P : Program} (w : World) {t e : TypeId} (a : Addr) (hu : P.underlying t = some (.pointer e)) : (binOp .eql t (.pointer (some a)) (.pointer none)).run P w = .ok (.bool false) w := by
  simp only [binOp]
  simp [Op.equal, Op.maxDepth, equalIn_ptrNil w 9999 a hu]
theorem loc_ptrNil (hE : E.Good) {o : Oper} {t yt : TypeId} {xo : Operand} (hop : o.op = .binOp .eql t xo (.const (.pointer none)) yt) {e : TypeId} {z1 z2 : Nat} {z3 : List Value} (ht : E.T t = some ⟨.ptr e, z1, z2, z3⟩) {k off : Nat} (hx : ev s xo = .ptr k off) : Loc E ops J h o s (.d (.lit (.bool false))) := by
  refine ⟨(by rw [hop]; intro c hc; cases hc), fun Z K Y ι ac w m hl => ?_⟩
  obtain ⟨dst, op, ty, pos, af, gd⟩ := o
  simp only at hop
  subst hop
  have h1 := hl xo (by simp [Op.operands])
  rw [hx] at h1
  simp only [RA] at h1
  obtain ⟨_, b, _, e1⟩ := h1
  have hu := (hE.ok.T t _ ht).2
  simp only [TK.fits] at hu
  have hg : (eqGuard .eql t xo (.const (.pointer none)) (.pointer (some ⟨b, off, none⟩)) (.pointer none)).run E.P w = .ok () w := by
    unfold eqGuard; split <;> simp
  refine ⟨.bool false, w, ?_, Grew.refl w, RA_lit_mk trivial⟩
  have e2 : ac.eval (.const (.pointer none)) = .pointer none := rfl
  simp only [execOp, e1, e2, Sem.run_bind, hg, Result.andThen_ok, eql_ptrNil w _ hu]
  simp
end
end Go.AL
