/- Parts of an abstract logic over the kit's walks, and walks in it: D8h. -/
import Derived.Test.YtjiknbjkbakegaaDoorD8g
import Derived.Test.YtjiknbjkbakegaaDoorD8xc
namespace Go.Proofs.YtjiknbjkbakegaaDoor
open Go Go.AL
set_option linter.unusedVariables false
set_option linter.unusedSimpArgs false
set_option maxHeartbeats 4000000
theorem mapX (l : List Exp) (k : Nat) (first cap : List D) (g : Exp → Exp) (hc : ∀ a ∈ l, Does Tryd.prog k (first.map .d ++ [.agg ((encX a).map .d)] ++ cap.map .d) noHeap (.agg ((encX (g a)).map .d))) : Does Tryd.prog 54 [.d (.sl 7 96 (encXs l)), .d (.fn (.func k) first cap)] noHeap (.d (.sl 7 96 (encXs (l.map g)))) := by
  refine Does_of T_ok mixed (N := 22) Tryd.func54 rfl rfl rfl (by rfl) fun F n Z hE hF J => ?_
  refine CW_know (know_sl (d := 0) rfl) fun hlen => ?_
  rw [show (encXs l).length = l.length by simp [encXs_eq]] at hlen
  refine CW_seq ?_
  refine CW_region ?_
  refine OW_run' hE.ok 1 rfl ?_
  refine OW_end rfl ?_
  refine CW_seq ?_
  refine CW_region ?_
  refine OW_run' hE.ok 1 rfl ?_
  refine OW.le (LE_nilSlot 5 50 41 7 rfl rfl) ?_
  refine OW_end rfl ?_
  refine CW_seq ?_
  refine CW_seq ?_
  refine CW_region ?_
  refine OW_run' hE.ok 3 rfl ?_
  refine OW_end rfl ?_
  refine CW_block ?_
  refine CW_loop (σ := {i : Nat // i ≤ l.length}) (fun i => ⟨J, (sset (sset (sset (sset (sset noSlots 1 (.d (.fn (.func k) first cap))) 5 (.row 50)) 8 (.d (.sl 7 96 (encXs l)))) 9 (.d (int ((l.length : Nat) : Int)))) 10 (.d (int ((i.1 : Nat) : Int)))), (hset noHeap 50 (some (.row 41 7 (encXs ((l.take i.1).map g)))))⟩) (fun i => l.length - i.1) ⟨0, Nat.zero_le _⟩ (LE_sh (slh_set (slh_set (slh_set (slh_set (slh_set (slh_no _ _) rfl rfl) rfl rfl) rfl rfl) (by show AV.d (.lit (.int .i64 ((encXs l).length : Int))) = _; rw [show (encXs l).length = l.length by simp [encXs_eq]]; rfl) rfl) rfl rfl) (hlh_set (hlh_no _ _) rfl rfl)) fun ⟨i, hi⟩ => ?_
  refine CW_seq ?_
  refine CW_region ?_
  refine OW_run' hE.ok 1 rfl ?_
  refine OW_end rfl ?_
  refine CW_seq ?_
  refine CW_cond _ rfl (fun h1 => ?_) (fun h1 => ?_)
  · skip
    have hlt : i < l.length := by have := h1; simp at this; omega
    obtain ⟨a, ha⟩ : ∃ a, l[i]? = some a := ⟨_, List.getElem?_eq_getElem hlt⟩
    have hcall := hc a (List.mem_of_getElem? ha)
    have ha0 := ha
    obtain ⟨o3, v3, a3, f3, k3, hN⟩ := Exp.shape (g a)
    rw [hN] at hcall
    obtain ⟨o1, v1, a1, f1, k1, rfl⟩ := Exp.shape a
    refine CW_skip ?_
    refine CW_seq ?_
    refine CW_block ?_
    refine CW_seq ?_
    refine CW_region ?_
    refine OW_loc' hE (loc_indexAddr hE rfl rfl rfl rfl rfl (by omega) (x := encX (.mk o1 v1 a1 f1 k1)) (by simp [ha, encXs_eq])) rfl rfl rfl ?_
    refine OW_run' hE.ok 1 rfl ?_
    refine OW_alloc' hE 1 rfl rfl rfl rfl rfl rfl rfl ?_
    refine OW_store' hE rfl rfl rfl rfl rfl rfl rfl rfl rfl rfl rfl rfl ?_
    refine OW_end rfl ?_
    refine CW_region ?_
    refine OW_run' hE.ok 3 rfl ?_
    refine OW_call' hE (hcall) rfl rfl rfl rfl (kfs_fn rfl) rfl rfl ?_
    refine OW_lits' hE rfl rfl rfl rfl rfl rfl rfl rfl rfl rfl rfl rfl ?_
    refine OW_append' hE (key := 50) rfl rfl rfl rfl rfl rfl rfl rfl (.inl rfl) (by simp [encXs_eq]; omega) (by simp [encXs_eq]; omega) rfl ?_
    refine OW_run' hE.ok 1 rfl ?_
    refine OW_end rfl ?_
    refine CW_region ?_
    refine OW_run' hE.ok 2 rfl ?_
    refine OW_end rfl ?_
    exact ⟨⟨i + 1, by omega⟩, LE_sh (slh_set (v := .d (int ((i + 1 : Nat) : Int))) (slh_set (v := .d (int ((l.length : Nat) : Int))) (slh_set (v := .d (.sl 7 96 (encXs l))) (slh_set (v := .row 50) (slh_set (v := .d (.fn (.func k) first cap)) (slh_no _ _) (by rfl) rfl) (by rfl) rfl) (by rfl) rfl) (by rfl) rfl) (by show AV.d (.lit (.int .i64 (IntKind.i64.wrap ((i : Int) + 1)))) = _; rw [wrap_succ (by omega)]; rfl) rfl) (hlh_set (hlh_no _ _) (congrArg (fun z => some (Ent.row 41 7 z)) (by rw [List.take_add_one, ha0, Option.toList_some, List.map_append, List.map_singleton, hN, encXs_eq, encXs_eq, encXs_eq, List.map_append]; show _ = _ ++ [encX _]; first | rfl | (rw [← encXs_eq k3]; rfl))) rfl), by show l.length - (i + 1) < l.length - i; omega⟩
  · skip
    have hge : l.length ≤ i := by have := h1; simp at this; omega
    refine CW_exit ?_
    show CW _ _ _ _
    refine CW_seq ?_
    refine CW.le (LE_freeze 50 96 rfl (by rw [List.take_of_length_le hge]; simp [encXs_eq]; omega)) ?_
    refine CW_region ?_
    refine OW_run' hE.ok 2 rfl ?_
    refine OW_end rfl ?_
    refine CW_ret ?_
    refine ⟨.inr rfl, rfl, ⟨_, rfl, rfl, ?_⟩, rfl⟩
    exact AVle.of (congrArg (fun z => AV.d (.sl 7 96 (encXs (List.map g z)))) (by rw [List.take_of_length_le hge]))

theorem mapL (l : List El) (k : Nat) (first cap : List D) (g : El → El) (hc : ∀ a ∈ l, Does Tryd.prog k (first.map .d ++ [.agg ((encL a).map .d)] ++ cap.map .d) noHeap (.agg ((encL (g a)).map .d))) : Does Tryd.prog 35 [.d (.sl 11 144 (l.map encL)), .d (.fn (.func k) first cap)] noHeap (.d (.sl 11 144 ((l.map g).map encL))) := by
  refine Does_of T_ok mixed (N := 22) Tryd.func35 rfl rfl rfl (by rfl) fun F n Z hE hF J => ?_
  refine CW_know (know_sl (d := 0) rfl) fun hlen => ?_
  rw [show (l.map encL).length = l.length by simp [encXs_eq]] at hlen
  refine CW_seq ?_
  refine CW_region ?_
  refine OW_run' hE.ok 1 rfl ?_
  refine OW_end rfl ?_
  refine CW_seq ?_
  refine CW_region ?_
  refine OW_run' hE.ok 1 rfl ?_
  refine OW.le (LE_nilSlot 5 50 43 11 rfl rfl) ?_
  refine OW_end rfl ?_
  refine CW_seq ?_
  refine CW_seq ?_
  refine CW_region ?_
  refine OW_run' hE.ok 3 rfl ?_
  refine OW_end rfl ?_
  refine CW_block ?_
  refine CW_loop (σ := {i : Nat // i ≤ l.length}) (fun i => ⟨J, (sset (sset (sset (sset (sset noSlots 1 (.d (.fn (.func k) first cap))) 5 (.row 50)) 8 (.d (.sl 11 144 (l.map encL)))) 9 (.d (int ((l.length : Nat) : Int)))) 10 (.d (int ((i.1 : Nat) : Int)))), (hset noHeap 50 (some (.row 43 11 (((l.take i.1).map g).map encL))))⟩) (fun i => l.length - i.1) ⟨0, Nat.zero_le _⟩ (LE_sh (slh_set (slh_set (slh_set (slh_set (slh_set (slh_no _ _) rfl rfl) rfl rfl) rfl rfl) (by show AV.d (.lit (.int .i64 ((l.map encL).length : Int))) = _; rw [show (l.map encL).length = l.length by simp [encXs_eq]]; rfl) rfl) rfl rfl) (hlh_set (hlh_no _ _) rfl rfl)) fun ⟨i, hi⟩ => ?_
  refine CW_seq ?_
  refine CW_region ?_
  refine OW_run' hE.ok 1 rfl ?_
  refine OW_end rfl ?_
  refine CW_seq ?_
  refine CW_cond _ rfl (fun h1 => ?_) (fun h1 => ?_)
  · skip
    have hlt : i < l.length := by have := h1; simp at this; omega
    obtain ⟨a, ha⟩ : ∃ a, l[i]? = some a := ⟨_, List.getElem?_eq_getElem hlt⟩
    have hcall := hc a (List.mem_of_getElem? ha)
    have ha0 := ha
    obtain ⟨z1, z2, z3, z4, z5, z6, z7, z8, z9, hN⟩ := El.shape (g a)
    rw [hN] at hcall
    obtain ⟨y1, y2, y3, y4, y5, y6, y7, y8, y9, rfl⟩ := El.shape a
    refine CW_skip ?_
    refine CW_seq ?_
    refine CW_block ?_
    refine CW_seq ?_
    refine CW_region ?_
    refine OW_loc' hE (loc_indexAddr hE rfl rfl rfl rfl rfl (by omega) (x := encL ⟨y1, y2, y3, y4, .mk y5 y6 y7 y8 y9⟩) (by simp [ha, encXs_eq])) rfl rfl rfl ?_
    refine OW_run' hE.ok 1 rfl ?_
    refine OW_alloc' hE 1 rfl rfl rfl rfl rfl rfl rfl ?_
    refine OW_store' hE rfl rfl rfl rfl rfl rfl rfl rfl rfl rfl rfl rfl ?_
    refine OW_end rfl ?_
    refine CW_region ?_
    refine OW_run' hE.ok 3 rfl ?_
    refine OW_call' hE (hcall) rfl rfl rfl rfl (kfs_fn rfl) rfl rfl ?_
    refine OW_lits' hE rfl rfl rfl rfl rfl rfl rfl rfl rfl rfl rfl rfl ?_
    refine OW_append' hE (key := 50) rfl rfl rfl rfl rfl rfl rfl rfl (.inl rfl) (by simp [encXs_eq]; omega) (by simp [encXs_eq]; omega) rfl ?_
    refine OW_run' hE.ok 1 rfl ?_
    refine OW_end rfl ?_
    refine CW_region ?_
    refine OW_run' hE.ok 2 rfl ?_
    refine OW_end rfl ?_
    exact ⟨⟨i + 1, by omega⟩, LE_sh (slh_set (v := .d (int ((i + 1 : Nat) : Int))) (slh_set (v := .d (int ((l.length : Nat) : Int))) (slh_set (v := .d (.sl 11 144 (l.map encL))) (slh_set (v := .row 50) (slh_set (v := .d (.fn (.func k) first cap)) (slh_no _ _) (by rfl) rfl) (by rfl) rfl) (by rfl) rfl) (by rfl) rfl) (by show AV.d (.lit (.int .i64 (IntKind.i64.wrap ((i : Int) + 1)))) = _; rw [wrap_succ (by omega)]; rfl) rfl) (hlh_set (hlh_no _ _) (congrArg (fun z => some (Ent.row 43 11 z)) (by rw [List.take_add_one, ha0, Option.toList_some, List.map_append, List.map_singleton, hN, List.map_append]; rfl)) rfl), by show l.length - (i + 1) < l.length - i; omega⟩
  · skip
    have hge : l.length ≤ i := by have := h1; simp at this; omega
    refine CW_exit ?_
    show CW _ _ _ _
    refine CW_seq ?_
    refine CW.le (LE_freeze 50 144 rfl (by rw [List.take_of_length_le hge]; simp [encXs_eq]; omega)) ?_
    refine CW_region ?_
    refine OW_run' hE.ok 2 rfl ?_
    refine OW_end rfl ?_
    refine CW_ret ?_
    refine ⟨.inr rfl, rfl, ⟨_, rfl, rfl, ?_⟩, rfl⟩
    exact AVle.of (congrArg (fun z => AV.d (.sl 11 144 ((List.map g z).map encL))) (by rw [List.take_of_length_le hge]))

theorem turnOk (c o1 : Int) (v1 : Vl) (a1 f1 : ByteArray) (pp qq : Exp) : Does Tryd.prog 55 [.d (int c), .d (.iptr (encX (.mk o1 v1 a1 f1 [pp, qq])))] noHeap (argX (.mk c zV nul nul [qq, pp])) := by
  refine Does_of T_ok mixed (N := 15) Tryd.func55 rfl rfl rfl (by rfl) fun F n Z hE hF J => ?_
  obtain ⟨o4, v4, a4, f4, k4, rfl⟩ := Exp.shape pp
  obtain ⟨o5, v5, a5, f5, k5, rfl⟩ := Exp.shape qq
  refine CW_seq ?_
  refine CW_region ?_
  refine OW_alloc' hE 1 rfl rfl rfl rfl rfl rfl rfl ?_
  refine OW_end rfl ?_
  refine CW_seq ?_
  refine CW_drawn' hE 10 (by decide +kernel) ?_
  refine HW_run hE 3 rfl rfl ?_
  refine HW_loc hE (loc_indexAddr hE rfl rfl rfl rfl rfl (by omega) (x := encX (.mk o5 v5 a5 f5 k5)) rfl) rfl rfl rfl rfl ?_
  refine HW_run hE 3 rfl rfl ?_
  refine HW_loc hE (loc_indexAddr hE rfl rfl rfl rfl rfl (by omega) (x := encX (.mk o4 v4 a4 f4 k4)) rfl) rfl rfl rfl rfl ?_
  refine HW_run hE 1 rfl rfl ?_
  refine HW_loc hE (loc_lits hE (t := 39) (len := 2) (parts := #[(0, .tmp 8), (1, .tmp 12)]) rfl rfl rfl rfl rfl rfl rfl rfl (xs := [encX (.mk o5 v5 a5 f5 k5), encX (.mk o4 v4 a4 f4 k4)]) rfl) rfl rfl rfl rfl ?_
  refine HW_end ?_
  refine OW_build' hE rfl rfl rfl rfl rfl ?_
  refine OW_store' hE rfl rfl rfl rfl rfl rfl rfl rfl rfl rfl rfl rfl ?_
  refine OW_end rfl ?_
  refine CW_ret ?_
  refine ⟨.inr rfl, rfl, ⟨_, rfl, rfl, ?_⟩, rfl⟩
  exact AVle.refl _

theorem rightStep (op : Int) (v : Vl) (al fi : ByteArray) (ks : List Exp) (hw : arX (.mk op v al fi ks) = true) (ih : ∀ k ∈ ks, Does Tryd.prog 46 [argX k] noHeap (argX (normX k))) : Does Tryd.prog 46 [argX (.mk op v al fi ks)] noHeap (argX (normX (.mk op v al fi ks))) := by
  refine Does_of T_ok mixed (N := 45) Tryd.func46 rfl rfl rfl (by rfl) fun F n Z hE hF J => ?_
  have hm := mapX ks 46 [] [] normX (fun a ha => ih a ha)
  rw [← normXs_eq] at hm
  refine CW_seq ?_
  refine CW_region ?_
  refine OW_box' hE 1 rfl rfl rfl rfl rfl rfl ?_
  refine OW_alloc' hE 2 rfl rfl rfl rfl rfl rfl rfl ?_
  refine OW_end rfl ?_
  refine CW_seq ?_
  refine CW_region ?_
  refine OW_run' hE.ok 2 rfl ?_
  refine OW_call' hE (hm) rfl rfl rfl rfl rfl rfl rfl ?_
  refine OW_run' hE.ok 1 rfl ?_
  refine OW_store' hE rfl rfl rfl rfl rfl rfl rfl rfl rfl rfl rfl rfl ?_
  refine OW_end rfl ?_
  refine CW_seq ?_
  refine CW_seq ?_
  refine CW_region ?_
  refine OW_run' hE.ok 3 rfl ?_
  refine OW_end rfl ?_
  refine CW_cond _ rfl (fun h1 => ?_) (fun h1 => ?_)
  · skip
    have g1 : (op == 12) = false := by have := h1; revert this; show (!(op == 12)) = true → _; cases (op == 12) <;> simp
    refine CW_seq ?_
    refine CW_region ?_
    refine OW_run' hE.ok 1 rfl ?_
    refine OW_store' hE rfl rfl rfl rfl rfl rfl rfl rfl rfl rfl rfl rfl ?_
    refine OW_end rfl ?_
    refine CW_ret ?_
    refine ⟨.inr rfl, rfl, ⟨_, rfl, rfl, ?_⟩, rfl⟩
    rw [show normX (.mk op v al fi ks) = .mk op v al fi (normXs ks) by unfold normX turnX; rw [g1]; rfl]
    exact AVle.refl _
  · skip
    have e12 : op = 12 := by have := h1; simpa using this
    subst e12
    obtain ⟨y, hy⟩ := len1 (ks := normXs ks) (by rw [normXs_len]; have := ar_len hw; rwa [kids12] at this)
    have hwy : arX y = true := ars_norm ks (fun k hk => ar_mem hw hk) y (by rw [hy]; simp)
    obtain ⟨o1, v1, a1, f1, k1, rfl⟩ := Exp.shape y
    have hl1 := ar_len hwy
    refine CW_skip ?_
    refine CW_seq ?_
    refine CW_region ?_
    refine OW_run' hE.ok 2 rfl ?_
    refine OW_loc' hE (loc_indexAddr hE rfl rfl rfl rfl rfl (by omega) (x := encX (.mk o1 v1 a1 f1 k1)) (by rw [hy]; rfl)) rfl rfl rfl ?_
    refine OW_run' hE.ok 1 rfl ?_
    refine OW_alloc' hE 3 rfl rfl rfl rfl rfl rfl rfl ?_
    refine OW_store' hE rfl rfl rfl rfl rfl rfl rfl rfl rfl rfl rfl rfl ?_
    refine OW_end rfl ?_
    refine CW_seq ?_
    refine CW.le (LE_freezeBox 3 (ds := encX (.mk o1 v1 a1 f1 k1)) rfl rfl) ?_
    refine CW.le (show LE _ _ ⟨J, (sset (sset (sset noSlots 1 (.ptr 1 0)) 2 (.ptr 2 0)) 3 (.d (.iptr (encX (.mk o1 v1 a1 f1 k1))))), (hset (hset noHeap 2 (some (.box 41 [.d (int 0), .d (int 0), .d (int 0), .d (str nul), .d (str nul), .d (str nul), .d (.lit (.slice none 0 0))]))) 1 (some (.box 41 [.d (int 12), .d (int v.k), .d (int v.n), .d (str v.s), .d (str al), .d (str fi), .d (.sl 7 96 (encXs (normXs ks)))])))⟩ from LE_sh (slh_set (v := .d (.iptr (encX (.mk o1 v1 a1 f1 k1)))) (slh_set (v := .ptr 2 0) (slh_set (v := .ptr 1 0) (slh_no _ _) (by rfl) rfl) (by rfl) rfl) (by rfl) rfl) (hlh_set (hlh_set (hlh_no _ _) rfl rfl) rfl rfl)) ?_
    refine CW_region ?_
    refine OW_run' hE.ok 2 rfl ?_
    refine OW_end rfl ?_
    refine CW_seq ?_
    refine CW_seq ?_
    refine CW_region ?_
    refine OW_run' hE.ok 2 rfl ?_
    refine OW_end rfl ?_
    refine CW_block ?_
    refine CW_seq ?_
    refine CW_region ?_
    refine OW_run' hE.ok 2 rfl ?_
    refine OW_end rfl ?_
    refine CW_cond _ rfl (fun h2 => ?_) (fun h2 => ?_)
    · skip
      have g2 : (o1 == 12) = true := h2
      have eo : o1 = 12 := by simpa using g2
      subst eo
      rw [kids12] at hl1
      obtain ⟨zz, rfl⟩ := len1 hl1
      obtain ⟨o4, v4, a4, f4, k4, rfl⟩ := Exp.shape zz
      refine CW_seq ?_
      refine CW_region ?_
      refine OW_run' hE.ok 2 rfl ?_
      refine OW_loc' hE (loc_indexAddr hE rfl rfl rfl rfl rfl (by omega) (x := encX (.mk o4 v4 a4 f4 k4)) rfl) rfl rfl rfl ?_
      refine OW_run' hE.ok 1 rfl ?_
      refine OW_store' hE rfl rfl rfl rfl rfl rfl rfl rfl rfl rfl rfl rfl ?_
      refine OW_end rfl ?_
      refine CW_ret ?_
      refine ⟨.inr rfl, rfl, ⟨_, rfl, rfl, ?_⟩, rfl⟩
      rw [show normX (.mk 12 v al fi ks) = (.mk o4 v4 a4 f4 k4) by unfold normX turnX; rw [hy]; rfl]
      exact AVle.refl _
    · skip
      have g2 : (o1 == 12) = false := h2
      refine CW_seq ?_
      refine CW_region ?_
      refine OW_run' hE.ok 2 rfl ?_
      refine OW_end rfl ?_
      refine CW_cond _ rfl (fun h3 => ?_) (fun h3 => ?_)
      · skip
        have g3 : (o1 == 6) = true := h3
        refine CW_seq ?_
        refine CW_region ?_
        refine OW_run' hE.ok 2 rfl ?_
        refine OW_build' hE rfl rfl rfl rfl rfl ?_
        refine OW_store' hE rfl rfl rfl rfl rfl rfl rfl rfl rfl rfl rfl rfl ?_
        refine OW_end rfl ?_
        refine CW_ret ?_
        refine ⟨.inr rfl, rfl, ⟨_, rfl, rfl, ?_⟩, rfl⟩
        rw [show normX (.mk 12 v al fi ks) = (.mk 7 zV nul nul k1) by unfold normX turnX; rw [hy]; show (bif o1 == 12 then _ else bif o1 == 6 then _ else bif o1 == 7 then _ else bif o1 == 8 then _ else bif o1 == 9 then _ else _) = _; rw [g2, g3]; rfl]
        exact AVle.refl _
      · skip
        have g3 : (o1 == 6) = false := h3
        refine CW_seq ?_
        refine CW_region ?_
        refine OW_run' hE.ok 2 rfl ?_
        refine OW_end rfl ?_
        refine CW_cond _ rfl (fun h4 => ?_) (fun h4 => ?_)
        · skip
          have g4 : (o1 == 7) = true := h4
          refine CW_seq ?_
          refine CW_region ?_
          refine OW_run' hE.ok 2 rfl ?_
          refine OW_build' hE rfl rfl rfl rfl rfl ?_
          refine OW_store' hE rfl rfl rfl rfl rfl rfl rfl rfl rfl rfl rfl rfl ?_
          refine OW_end rfl ?_
          refine CW_ret ?_
          refine ⟨.inr rfl, rfl, ⟨_, rfl, rfl, ?_⟩, rfl⟩
          rw [show normX (.mk 12 v al fi ks) = (.mk 6 zV nul nul k1) by unfold normX turnX; rw [hy]; show (bif o1 == 12 then _ else bif o1 == 6 then _ else bif o1 == 7 then _ else bif o1 == 8 then _ else bif o1 == 9 then _ else _) = _; rw [g2, g3, g4]; rfl]
          exact AVle.refl _
        · skip
          have g4 : (o1 == 7) = false := h4
          refine CW_seq ?_
          refine CW_region ?_
          refine OW_run' hE.ok 2 rfl ?_
          refine OW_end rfl ?_
          refine CW_cond _ rfl (fun h5 => ?_) (fun h5 => ?_)
          · skip
            have g5 : (o1 == 8) = true := h5
            have eo : o1 = 8 := by simpa using g5
            subst eo
            rw [kids8] at hl1
            obtain ⟨pp, qq, rfl⟩ := len2 hl1
            refine CW_seq ?_
            refine CW_region ?_
            refine OW_run' hE.ok 1 rfl ?_
            refine OW_call' hE (turnOk 9 8 v1 a1 f1 pp qq) rfl rfl rfl rfl rfl rfl rfl ?_
            refine OW_store' hE rfl rfl rfl rfl rfl rfl rfl rfl rfl rfl rfl rfl ?_
            refine OW_end rfl ?_
            refine CW_ret ?_
            refine ⟨.inr rfl, rfl, ⟨_, rfl, rfl, ?_⟩, rfl⟩
            rw [show normX (.mk 12 v al fi ks) = (.mk 9 zV nul nul [qq, pp]) by unfold normX turnX; rw [hy]; rfl]
            exact AVle.refl _
          · skip
            have g5 : (o1 == 8) = false := h5
            refine CW_seq ?_
            refine CW_region ?_
            refine OW_run' hE.ok 2 rfl ?_
            refine OW_end rfl ?_
            refine CW_cond _ rfl (fun h6 => ?_) (fun h6 => ?_)
            · skip
              have g6 : (o1 == 9) = true := h6
              have eo : o1 = 9 := by simpa using g6
              subst eo
              rw [kids9] at hl1
              obtain ⟨pp, qq, rfl⟩ := len2 hl1
              refine CW_seq ?_
              refine CW_region ?_
              refine OW_run' hE.ok 1 rfl ?_
              refine OW_call' hE (turnOk 8 9 v1 a1 f1 pp qq) rfl rfl rfl rfl rfl rfl rfl ?_
              refine OW_store' hE rfl rfl rfl rfl rfl rfl rfl rfl rfl rfl rfl rfl ?_
              refine OW_end rfl ?_
              refine CW_ret ?_
              refine ⟨.inr rfl, rfl, ⟨_, rfl, rfl, ?_⟩, rfl⟩
              rw [show normX (.mk 12 v al fi ks) = (.mk 8 zV nul nul [qq, pp]) by unfold normX turnX; rw [hy]; rfl]
              exact AVle.refl _
            · skip
              have g6 : (o1 == 9) = false := h6
              refine CW_skip ?_
              refine CW_seq ?_
              refine CW_region ?_
              refine OW_run' hE.ok 1 rfl ?_
              refine OW_store' hE rfl rfl rfl rfl rfl rfl rfl rfl rfl rfl rfl rfl ?_
              refine OW_end rfl ?_
              refine CW_ret ?_
              refine ⟨.inr rfl, rfl, ⟨_, rfl, rfl, ?_⟩, rfl⟩
              rw [show normX (.mk 12 v al fi ks) = .mk 12 v al fi (normXs ks) by unfold normX turnX; rw [show (normXs ks).headD zeroX = (.mk o1 v1 a1 f1 k1) by rw [hy]; rfl]; show (bif o1 == 12 then _ else bif o1 == 6 then _ else bif o1 == 7 then _ else bif o1 == 8 then _ else bif o1 == 9 then _ else _) = _; rw [g2, g3, g4, g5, g6]; rfl]
              exact AVle.refl _

theorem rightAll : ∀ (n : Nat) (x : Exp), SizeOf.sizeOf x < n → arX x = true → Does Tryd.prog 46 [argX x] noHeap (argX (normX x))
  | 0, x, h => by omega
  | n + 1, .mk op v al fi ks, h => fun hw => rightStep op v al fi ks hw fun k hk => rightAll n k (by have := List.sizeOf_lt_of_mem hk; simp at h; omega) (ar_mem hw hk)

theorem normEOk (x : Exp) : Does Tryd.prog 38 [argX x] noHeap (argX (normE x)) := by
  refine Does_of T_ok mixed (N := 9) Tryd.func38 rfl rfl rfl (by rfl) fun F n Z hE hF J => ?_
  have q := fun h => rightAll _ x (Nat.lt_succ_self _) (isX_ar h)
  have q2 := isXOk x
  have hn : normE x = bif isX x then normX x else x := rfl
  obtain ⟨o3, v3, a3, f3, k3, hN⟩ := Exp.shape (normX x)
  rw [hN] at q hn
  obtain ⟨o1, v1, a1, f1, k1, rfl⟩ := Exp.shape x
  refine CW_seq ?_
  refine CW_region ?_
  refine OW_run' hE.ok 1 rfl ?_
  refine OW_alloc' hE 1 rfl rfl rfl rfl rfl rfl rfl ?_
  refine OW_end rfl ?_
  refine CW_seq ?_
  refine CW_seq ?_
  refine CW_region ?_
  refine OW_run' hE.ok 1 rfl ?_
  refine OW_call' hE (q2) rfl rfl rfl rfl rfl rfl rfl ?_
  refine OW_run' hE.ok 1 rfl ?_
  refine OW_end rfl ?_
  refine CW_cond _ rfl (fun h1 => ?_) (fun h1 => ?_)
  · skip
    have g1 : isX (.mk o1 v1 a1 f1 k1) = false := by simpa using h1
    refine CW_seq ?_
    refine CW_region ?_
    refine OW_run' hE.ok 1 rfl ?_
    refine OW_store' hE rfl rfl rfl rfl rfl rfl rfl rfl rfl rfl rfl rfl ?_
    refine OW_end rfl ?_
    refine CW_ret ?_
    refine ⟨.inr rfl, rfl, ⟨_, rfl, rfl, ?_⟩, rfl⟩
    rw [hn, g1]
    exact AVle.refl _
  · skip
    have g1 : isX (.mk o1 v1 a1 f1 k1) = true := by simpa using h1
    refine CW_skip ?_
    refine CW_seq ?_
    refine CW_region ?_
    refine OW_run' hE.ok 1 rfl ?_
    refine OW_call' hE (q g1) rfl rfl rfl rfl rfl rfl rfl ?_
    refine OW_store' hE rfl rfl rfl rfl rfl rfl rfl rfl rfl rfl rfl rfl ?_
    refine OW_end rfl ?_
    refine CW_ret ?_
    refine ⟨.inr rfl, rfl, ⟨_, rfl, rfl, ?_⟩, rfl⟩
    rw [hn, g1]
    exact AVle.refl _
end Go.Proofs.YtjiknbjkbakegaaDoor
