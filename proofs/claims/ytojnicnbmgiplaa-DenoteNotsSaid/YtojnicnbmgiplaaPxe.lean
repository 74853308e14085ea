/- Parts of an abstract logic over the kit's walks, and walks in it: P4st, P4mm. -/
import Derived.Test.YtojnicnbmgiplaaPxd
import Derived.Test.YtojnicnbmgiplaaAg
/- slices.SortFunc at rows of bounds, by their order. -/
namespace Go.Proofs.Ytojnicnbmgiplaa
open Go Go.AL Go.RowKit Go.Shelf Go.Proofs
def sortLays_ren : Go.Shelf.Ren := ⟨fun | 6 => 66 | 14 => 101 | 15 => 102 | 20 => 122 | 21 => 123 | 22 => 124 | 23 => 125 | 24 => 126 | 25 => 127 | 26 => 128 | 27 => 129 | 28 => 130 | 29 => 131 | 46 => 152 | 47 => 153 | 48 => 154 | 49 => 155 | 50 => 156 | 57 => 169 | n => n, fun | 22 => 112 | 24 => 105 | 25 => 116 | 39 => 69 | 45 => 173 | 46 => 174 | 50 => 161 | 53 => 180 | 55 => 182 | 66 => 196 | 70 => 200 | 76 => 210 | 77 => 88 | n => n, fun | n => n⟩
theorem sortLays : SlLaysF.n6 Try.prog sortLays_ren := {
  mixed := by kernel_rfl,
  f6 := ⟨Try.f66.name, by decide, Try.func66.trans (congrArg some (by kernel_rfl))⟩,
  f14 := ⟨Try.f101.name, by decide, Try.func101.trans (congrArg some (by kernel_rfl))⟩,
  f15 := Try.func102.trans (congrArg some (by kernel_rfl)),
  f20 := ⟨Try.f122.name, by decide, Try.func122.trans (congrArg some (by kernel_rfl))⟩,
  f21 := ⟨Try.f123.name, by decide, Try.func123.trans (congrArg some (by kernel_rfl))⟩,
  f22 := ⟨Try.f124.name, by decide, Try.func124.trans (congrArg some (by kernel_rfl))⟩,
  f23 := ⟨Try.f125.name, by decide, Try.func125.trans (congrArg some (by kernel_rfl))⟩,
  f24 := ⟨Try.f126.name, by decide, Try.func126.trans (congrArg some (by kernel_rfl))⟩,
  f25 := ⟨Try.f127.name, by decide, Try.func127.trans (congrArg some (by kernel_rfl))⟩,
  f26 := ⟨Try.f128.name, by decide, Try.func128.trans (congrArg some (by kernel_rfl))⟩,
  f27 := ⟨Try.f129.name, by decide, Try.func129.trans (congrArg some (by kernel_rfl))⟩,
  f28 := Try.func130.trans (congrArg some (by kernel_rfl)),
  f29 := Try.func131.trans (congrArg some (by kernel_rfl)),
  f46 := ⟨Try.f152.name, by decide, Try.func152.trans (congrArg some (by kernel_rfl))⟩,
  f47 := Try.func153.trans (congrArg some (by kernel_rfl)),
  f48 := Try.func154.trans (congrArg some (by kernel_rfl)),
  f49 := ⟨Try.f155.name, by decide, Try.func155.trans (congrArg some (by kernel_rfl))⟩,
  f50 := ⟨Try.f156.name, by decide, Try.func156.trans (congrArg some (by kernel_rfl))⟩,
  f57 := ⟨Try.f169.name, by decide, Try.func169.trans (congrArg some (by kernel_rfl))⟩,
  t0 := Try.underlying0,
  a0 := Try.isAgg0,
  z0 := Try.sizeOf0,
  v0 := Try.zeroValue0,
  t3 := Try.underlying3,
  a3 := Try.isAgg3,
  z3 := Try.sizeOf3,
  v3 := Try.zeroValue3,
  t4 := Try.underlying4,
  a4 := Try.isAgg4,
  z4 := Try.sizeOf4,
  v4 := Try.zeroValue4,
  t5 := Try.underlying5,
  a5 := Try.isAgg5,
  z5 := Try.sizeOf5,
  v5 := Try.zeroValue5,
  t9 := Try.underlying9,
  a9 := Try.isAgg9,
  z9 := Try.sizeOf9,
  v9 := Try.zeroValue9,
  t22 := Try.underlying112,
  a22 := Try.isAgg112,
  z22 := Try.sizeOf112,
  v22 := Try.zeroValue112,
  a24 := Try.isAgg105,
  z24 := Try.sizeOf105,
  t25 := Try.underlying116,
  a25 := Try.isAgg116,
  z25 := Try.sizeOf116,
  v25 := Try.zeroValue116,
  t39 := Try.underlying69,
  a39 := Try.isAgg69,
  z39 := Try.sizeOf69,
  v39 := Try.zeroValue69,
  t45 := Try.underlying173,
  a45 := Try.isAgg173,
  z45 := Try.sizeOf173,
  v45 := Try.zeroValue173,
  t46 := Try.underlying174,
  a46 := Try.isAgg174,
  z46 := Try.sizeOf174,
  v46 := Try.zeroValue174,
  t50 := Try.underlying161,
  a50 := Try.isAgg161,
  z50 := Try.sizeOf161,
  v50 := Try.zeroValue161,
  t53 := Try.underlying180,
  a53 := Try.isAgg180,
  z53 := Try.sizeOf180,
  v53 := Try.zeroValue180,
  t55 := Try.underlying182,
  a55 := Try.isAgg182,
  z55 := Try.sizeOf182,
  v55 := Try.zeroValue182,
  t66 := Try.underlying196,
  a66 := Try.isAgg196,
  z66 := Try.sizeOf196,
  v66 := Try.zeroValue196,
  t70 := Try.underlying200,
  a70 := Try.isAgg200,
  z70 := Try.sizeOf200,
  v70 := Try.zeroValue200,
  t76 := Try.underlying210,
  a76 := Try.isAgg210,
  z76 := Try.sizeOf210,
  v76 := Try.zeroValue210,
  t77 := Try.underlying88,
  a77 := Try.isAgg88,
  z77 := Try.sizeOf88,
  v77 := Try.zeroValue88 }
theorem sortBd (xs : List (List Bd)) (hok : ∀ x ∈ xs, x.length ≤ 100000) : Turns Try.prog 66 105 1 (xs.map encR) (.fn (.func 67) [] []) ((sortX orderX xs).map encR) :=
  sort1_turns (ρ := sortLays_ren) sortLays ⟨Try.f66, Try.func66, by kernel_rfl, by kernel_rfl⟩ SBd orderX order_swo order_total (fun x => x.length ≤ 100000) ⟨Try.f67, Try.func67, by kernel_rfl, by kernel_rfl⟩ (fun x y hx hy => orderOk x y hx hy) xs hok
end Go.Proofs.Ytojnicnbmgiplaa
namespace Go.Proofs.Ytojnicnbmgiplaa
open Go Go.AL
set_option linter.unusedVariables false
set_option linter.unusedSimpArgs false
set_option maxHeartbeats 4000000
theorem matchesOk (s : List Ty) (p : Pat) (l : List Kp) (hr : Rises l) (hl : l.length ≤ 12) (hp : p.els.length ≤ 1000) : Does Try.prog 28 [argS s, argP p, .d (SK l)] (oneRow 107 1 ((matchesX s p l).map encR)) (.row 0) := by
  refine Does_ofRow T_ok mixed (N := 99) Try.func28 rfl rfl rfl (by rfl) fun F n Z hE hF J => ?_
  refine CW_seq ?_
  refine CW_region ?_
  refine OW_run' hE.ok 3 rfl ?_
  refine OW_end rfl ?_
  refine CW_seq ?_
  refine CW_region ?_
  refine OW_run' hE.ok 1 rfl ?_
  refine OW.le (LE_nilSlot 7 50 107 1 rfl rfl) ?_
  refine OW_end rfl ?_
  refine CW_seq ?_
  refine CW_region ?_
  refine OW_run' hE.ok 1 rfl ?_
  refine OW.le (LE_slotLe 8 rfl (AVle.nilSl 1 24)) ?_
  refine OW_end rfl ?_
  refine CW_seq ?_
  refine CW_seq ?_
  refine CW_region ?_
  refine OW_run' hE.ok 3 rfl ?_
  refine OW_end rfl ?_
  refine CW_block ?_
  refine CW_loop (σ := {q : Nat // q ≤ l.length}) (fun q => ⟨J, (sset (sset (sset (sset (sset (sset (sset (sset noSlots 2 (.d (SK l))) 3 (.d (.iptr [encS s]))) 4 (.d (.iptr (encP p)))) 7 (.row 50)) 8 (.d (.sl 1 24 ((rowsX s p l q.1).map encR)))) 19 (.d (SK l))) 20 (.d (int ((l.length : Nat) : Int)))) 21 (.d (int ((q.1 : Nat) : Int)))), (hset noHeap 50 (some (.row 107 1 ((outX s p l q.1).map encR))))⟩) (fun q => l.length - q.1) ⟨0, Nat.zero_le _⟩ (LE_sh (slh_set (slh_set (slh_set (slh_set (slh_set (slh_set (slh_set (slh_set (slh_no _ _) rfl rfl) rfl rfl) rfl rfl) rfl rfl) rfl rfl) rfl rfl) (by show AV.d (.lit (.int .i64 ((l.map encK).length : Int))) = _; rw [List.length_map]; rfl) rfl) rfl rfl) (hlh_set (hlh_no _ _) rfl rfl)) fun ⟨q, hq⟩ => ?_
  refine CW_seq ?_
  refine CW_region ?_
  refine OW_run' hE.ok 1 rfl ?_
  refine OW_end rfl ?_
  refine CW_seq ?_
  refine CW_cond _ rfl (fun h1 => ?_) (fun h1 => ?_)
  · skip
    have hlt : q < l.length := by have := h1; simp at this; omega
    obtain ⟨x, hx⟩ : ∃ x, l[q]? = some x := ⟨_, List.getElem?_eq_getElem hlt⟩
    have hpow : 4 ^ q ≤ 4194304 := Nat.le_trans (Nat.pow_le_pow_right (by decide) (show q ≤ 11 by omega)) (by decide)
    have hrl := rows_len (s := s) (p := p) (l := l) q
    have hol := out_len (s := s) (p := p) (l := l) q
    have hri := rows_in (s := s) (p := p) (l := l) q
    have hml := made_len (s := s) (p := p) (l := l) (rows := (rowsX s p l q)) (k := x.at_)
    have hmi := made_in (s := s) (p := p) (l := l) (k := x.at_) hri
    have hsl := sortX_len orderX (madeX s p l (rowsX s p l q) x.at_)
    refine CW_skip ?_
    refine CW_seq ?_
    refine CW_block ?_
    refine CW_seq ?_
    refine CW_region ?_
    refine OW_loc' hE (loc_indexAddr hE rfl rfl rfl rfl rfl (by omega) (x := encK x) (by simp [hx])) rfl rfl rfl ?_
    refine OW_run' hE.ok 1 rfl ?_
    refine OW_alloc' hE 1 rfl rfl rfl rfl rfl rfl rfl ?_
    refine OW_store' hE rfl rfl rfl rfl rfl rfl rfl rfl rfl rfl rfl rfl ?_
    refine OW.le (LE_freezeBox 1 (ds := encK x) rfl rfl) ?_
    refine OW_end rfl ?_
    refine CW_seq ?_
    refine CW_region ?_
    refine OW_run' hE.ok 2 rfl ?_
    refine OW.le (LE_nilSlot 11 51 105 1 rfl rfl) ?_
    refine OW.le (LE_nilSlot 12 52 105 1 rfl rfl) ?_
    refine OW_end rfl ?_
    refine CW_seq ?_
    refine CW_seq ?_
    refine CW_region ?_
    refine OW_run' hE.ok 3 rfl ?_
    refine OW_end rfl ?_
    refine CW_block ?_
    refine CW_loop (σ := {j : Nat // j ≤ (rowsX s p l q).length}) (fun j => ⟨J, (sset (sset (sset (sset (sset (sset (sset (sset (sset (sset (sset (sset (sset noSlots 2 (.d (SK l))) 3 (.d (.iptr [encS s]))) 4 (.d (.iptr (encP p)))) 7 (.row 50)) 10 (.d (.iptr (encK x)))) 11 (.row 51)) 12 (.row 52)) 19 (.d (SK l))) 20 (.d (int ((l.length : Nat) : Int)))) 21 (.d (int ((q : Nat) : Int)))) 25 (.d (.sl 1 24 ((rowsX s p l q).map encR)))) 26 (.d (int (((rowsX s p l q).length : Nat) : Int)))) 27 (.d (int ((j.1 : Nat) : Int)))), (hset (hset (hset noHeap 50 (some (.row 107 1 ((outX s p l q).map encR)))) 51 (some (.row 105 1 ((((rowsX s p l q).take j.1).filter (stays s p l x.at_)).map encR)))) 52 (some (.row 105 1 ((((rowsX s p l q).take j.1).flatMap (fun b => furX s p l b x.at_)).map encR))))⟩) (fun j => (rowsX s p l q).length - j.1) ⟨0, Nat.zero_le _⟩ (LE_sh (slh_set (slh_set (slh_set (slh_set (slh_set (slh_set (slh_set (slh_set (slh_set (slh_set (slh_set (slh_set (slh_set (slh_no _ _) rfl rfl) rfl rfl) rfl rfl) rfl rfl) rfl rfl) rfl rfl) rfl rfl) rfl rfl) rfl rfl) rfl rfl) rfl rfl) (by show AV.d (.lit (.int .i64 (((rowsX s p l q).map encR).length : Int))) = _; rw [List.length_map]; rfl) rfl) rfl rfl) (hlh_set (hlh_set (hlh_set (hlh_no _ _) rfl rfl) rfl rfl) rfl rfl)) fun ⟨j, hj⟩ => ?_
    refine CW_seq ?_
    refine CW_region ?_
    refine OW_run' hE.ok 1 rfl ?_
    refine OW_end rfl ?_
    refine CW_seq ?_
    refine CW_cond _ rfl (fun h2 => ?_) (fun h2 => ?_)
    · skip
      have hjl : j < (rowsX s p l q).length := by have := h2; simp at this; omega
      obtain ⟨b, hb⟩ : ∃ b, (rowsX s p l q)[j]? = some b := ⟨_, List.getElem?_eq_getElem hjl⟩
      have hbi := hri b (List.mem_of_getElem? hb)
      have hbl := hbi.2.2
      have hf1 := List.length_filter_le (stays s p l x.at_) ((rowsX s p l q).take j)
      have hf2 := flatM_len (fun b => furX s p l b x.at_) (fun b => fur_len) ((rowsX s p l q).take j)
      rw [List.length_take] at hf1 hf2
      have hf3 := fur_len (s := s) (p := p) (l := l) (b := b) (k := x.at_)
      refine CW_skip ?_
      refine CW_seq ?_
      refine CW_block ?_
      refine CW_seq ?_
      refine CW_region ?_
      refine OW_loc' hE (loc_indexAddr hE rfl rfl rfl rfl rfl (by omega) (x := encR b) (by simp [hb])) rfl rfl rfl ?_
      refine OW_run' hE.ok 2 rfl ?_
      refine OW_end rfl ?_
      refine CW_seq ?_
      refine CW_region ?_
      refine OW_run' hE.ok 6 rfl ?_
      refine OW_callRow' hE 60 (furtherOk s p l b x.at_ hr hbi.2.1 (by omega) hbi.1 hp) rfl rfl rfl rfl rfl rfl rfl ?_
      refine OW_run' hE.ok 1 rfl ?_
      refine OW.le (LE_freeze 60 24 rfl (by rw [List.length_map]; omega)) ?_
      refine OW_end rfl ?_
      refine CW_seq ?_
      refine CW_region ?_
      refine OW_run' hE.ok 2 rfl ?_
      refine OW_append' hE (key := 52) rfl rfl rfl rfl rfl rfl rfl rfl (.inl rfl) (by simp only [List.length_map]; omega) (by simp only [List.length_map]; omega) rfl ?_
      refine OW_run' hE.ok 1 rfl ?_
      refine OW_end rfl ?_
      refine CW_seq ?_
      refine CW_region ?_
      refine OW_run' hE.ok 3 rfl ?_
      refine OW_split' 43 rfl (fun h3 => ?_) (fun h3 => ?_)
      · skip
        have g1 : p.any = true := h3
        refine OW_run' hE.ok 4 rfl ?_
        refine OW_end rfl ?_
        refine CW_true rfl ?_
        refine CW_region ?_
        refine OW_run' hE.ok 2 rfl ?_
        refine OW_loc' hE (loc_lits hE (t := 112) (len := 1) (parts := #[(0, .tmp 49)]) rfl rfl rfl rfl rfl rfl rfl rfl (xs := [encR b]) rfl) rfl rfl rfl ?_
        refine OW_append' hE (key := 51) rfl rfl rfl rfl rfl rfl rfl rfl (.inl rfl) (by simp; omega) (by simp; omega) rfl ?_
        refine OW_run' hE.ok 1 rfl ?_
        refine OW_end rfl ?_
        refine CW_region ?_
        refine OW_run' hE.ok 2 rfl ?_
        refine OW_end rfl ?_
        have hst : stays s p l x.at_ b = true := by unfold stays; rw [g1]; rfl
        exact ⟨⟨j + 1, by omega⟩, LE_sh (slh_set (v := .d (int ((j + 1 : Nat) : Int))) (slh_set (v := .d (int (((rowsX s p l q).length : Nat) : Int))) (slh_set (v := .d (.sl 1 24 ((rowsX s p l q).map encR))) (slh_set (v := .d (int ((q : Nat) : Int))) (slh_set (v := .d (int ((l.length : Nat) : Int))) (slh_set (v := .d (SK l)) (slh_set (v := .row 52) (slh_set (v := .row 51) (slh_set (v := .d (.iptr (encK x))) (slh_set (v := .row 50) (slh_set (v := .d (.iptr (encP p))) (slh_set (v := .d (.iptr [encS s])) (slh_set (v := .d (SK l)) (slh_no _ _) (by rfl) rfl) (by rfl) rfl) (by rfl) rfl) (by rfl) rfl) (by rfl) rfl) (by rfl) rfl) (by rfl) rfl) (by rfl) rfl) (by rfl) rfl) (by rfl) rfl) (by rfl) rfl) (by rfl) rfl) (by show AV.d (.lit (.int .i64 (IntKind.i64.wrap ((j : Int) + 1)))) = _; rw [wrap_succ (by omega)]; rfl) rfl) (hlh_set (hlh_set (hlh_set (hlh_no _ _) rfl rfl) (congrArg (fun z => some (Ent.row 105 1 z)) (by rw [filt_snoc_t hb hst, List.map_append]; rfl)) rfl) (congrArg (fun z => some (Ent.row 105 1 z)) (by rw [flat_snoc hb, List.map_append])) rfl), by show (rowsX s p l q).length - (j + 1) < (rowsX s p l q).length - j; omega⟩
      · skip
        have g1 : p.any = false := h3
        refine OW_run' hE.ok 4 rfl ?_
        refine OW_end rfl ?_
        refine CW_cond _ rfl (fun h4 => ?_) (fun h4 => ?_)
        · skip
          have g2 : (furX s p l b x.at_).isEmpty = true := by have := h4; rw [List.length_map] at this; simpa [List.isEmpty_iff_length_eq_zero] using this
          refine CW_region ?_
          refine OW_run' hE.ok 2 rfl ?_
          refine OW_loc' hE (loc_lits hE (t := 112) (len := 1) (parts := #[(0, .tmp 49)]) rfl rfl rfl rfl rfl rfl rfl rfl (xs := [encR b]) rfl) rfl rfl rfl ?_
          refine OW_append' hE (key := 51) rfl rfl rfl rfl rfl rfl rfl rfl (.inl rfl) (by simp; omega) (by simp; omega) rfl ?_
          refine OW_run' hE.ok 1 rfl ?_
          refine OW_end rfl ?_
          refine CW_region ?_
          refine OW_run' hE.ok 2 rfl ?_
          refine OW_end rfl ?_
          have hst : stays s p l x.at_ b = true := by unfold stays; rw [g1, g2]; rfl
          exact ⟨⟨j + 1, by omega⟩, LE_sh (slh_set (v := .d (int ((j + 1 : Nat) : Int))) (slh_set (v := .d (int (((rowsX s p l q).length : Nat) : Int))) (slh_set (v := .d (.sl 1 24 ((rowsX s p l q).map encR))) (slh_set (v := .d (int ((q : Nat) : Int))) (slh_set (v := .d (int ((l.length : Nat) : Int))) (slh_set (v := .d (SK l)) (slh_set (v := .row 52) (slh_set (v := .row 51) (slh_set (v := .d (.iptr (encK x))) (slh_set (v := .row 50) (slh_set (v := .d (.iptr (encP p))) (slh_set (v := .d (.iptr [encS s])) (slh_set (v := .d (SK l)) (slh_no _ _) (by rfl) rfl) (by rfl) rfl) (by rfl) rfl) (by rfl) rfl) (by rfl) rfl) (by rfl) rfl) (by rfl) rfl) (by rfl) rfl) (by rfl) rfl) (by rfl) rfl) (by rfl) rfl) (by rfl) rfl) (by show AV.d (.lit (.int .i64 (IntKind.i64.wrap ((j : Int) + 1)))) = _; rw [wrap_succ (by omega)]; rfl) rfl) (hlh_set (hlh_set (hlh_set (hlh_no _ _) rfl rfl) (congrArg (fun z => some (Ent.row 105 1 z)) (by rw [filt_snoc_t hb hst, List.map_append]; rfl)) rfl) (congrArg (fun z => some (Ent.row 105 1 z)) (by rw [flat_snoc hb, List.map_append])) rfl), by show (rowsX s p l q).length - (j + 1) < (rowsX s p l q).length - j; omega⟩
        · skip
          have g2 : (furX s p l b x.at_).isEmpty = false := by have := h4; rw [List.length_map] at this; cases hh : furX s p l b x.at_ with | nil => rw [hh] at this; simp at this | cons _ _ => rfl
          refine CW_skip ?_
          refine CW_region ?_
          refine OW_run' hE.ok 2 rfl ?_
          refine OW_end rfl ?_
          have hst : stays s p l x.at_ b = false := by unfold stays; rw [g1, g2]; rfl
          exact ⟨⟨j + 1, by omega⟩, LE_sh (slh_set (v := .d (int ((j + 1 : Nat) : Int))) (slh_set (v := .d (int (((rowsX s p l q).length : Nat) : Int))) (slh_set (v := .d (.sl 1 24 ((rowsX s p l q).map encR))) (slh_set (v := .d (int ((q : Nat) : Int))) (slh_set (v := .d (int ((l.length : Nat) : Int))) (slh_set (v := .d (SK l)) (slh_set (v := .row 52) (slh_set (v := .row 51) (slh_set (v := .d (.iptr (encK x))) (slh_set (v := .row 50) (slh_set (v := .d (.iptr (encP p))) (slh_set (v := .d (.iptr [encS s])) (slh_set (v := .d (SK l)) (slh_no _ _) (by rfl) rfl) (by rfl) rfl) (by rfl) rfl) (by rfl) rfl) (by rfl) rfl) (by rfl) rfl) (by rfl) rfl) (by rfl) rfl) (by rfl) rfl) (by rfl) rfl) (by rfl) rfl) (by rfl) rfl) (by show AV.d (.lit (.int .i64 (IntKind.i64.wrap ((j : Int) + 1)))) = _; rw [wrap_succ (by omega)]; rfl) rfl) (hlh_set (hlh_set (hlh_set (hlh_no _ _) rfl rfl) (congrArg (fun z => some (Ent.row 105 1 z)) (by rw [filt_snoc_f hb hst])) rfl) (congrArg (fun z => some (Ent.row 105 1 z)) (by rw [flat_snoc hb, List.map_append])) rfl), by show (rowsX s p l q).length - (j + 1) < (rowsX s p l q).length - j; omega⟩
    · skip
      have hjg : (rowsX s p l q).length ≤ j := by have := h2; simp at this; omega
      have htk : (rowsX s p l q).take j = (rowsX s p l q) := List.take_of_length_le hjg
      refine CW_exit ?_
      show CW _ _ _ _
      refine CW_cutE (fun _ : Unit => ⟨J, (sset (sset (sset (sset (sset (sset (sset (sset (sset (sset noSlots 2 (.d (SK l))) 3 (.d (.iptr [encS s]))) 4 (.d (.iptr (encP p)))) 7 (.row 50)) 10 (.d (.iptr (encK x)))) 11 (.row 51)) 12 (.row 52)) 19 (.d (SK l))) 20 (.d (int ((l.length : Nat) : Int)))) 21 (.d (int ((q : Nat) : Int)))), (hset (hset (hset noHeap 50 (some (.row 107 1 ((outX s p l q).map encR)))) 51 (some (.row 105 1 (((rowsX s p l q).filter (stays s p l x.at_)).map encR)))) 52 (some (.row 105 1 ((madeX s p l (rowsX s p l q) x.at_).map encR))))⟩) (fun _ => True) ?_ ?_
      · skip
        refine CW_seq ?_
        refine CW.le (show LE _ _ ⟨J, (sset (sset (sset (sset (sset (sset (sset (sset (sset (sset noSlots 2 (.d (SK l))) 3 (.d (.iptr [encS s]))) 4 (.d (.iptr (encP p)))) 7 (.row 50)) 10 (.d (.iptr (encK x)))) 11 (.row 51)) 12 (.row 52)) 19 (.d (SK l))) 20 (.d (int ((l.length : Nat) : Int)))) 21 (.d (int ((q : Nat) : Int)))), (hset (hset (hset noHeap 50 (some (.row 107 1 ((outX s p l q).map encR)))) 51 (some (.row 105 1 (((rowsX s p l q).filter (stays s p l x.at_)).map encR)))) 52 (some (.row 105 1 (((rowsX s p l q).flatMap (fun b => furX s p l b x.at_)).map encR))))⟩ from LE_sh (slh_set (v := .d (int ((q : Nat) : Int))) (slh_set (v := .d (int ((l.length : Nat) : Int))) (slh_set (v := .d (SK l)) (slh_set (v := .row 52) (slh_set (v := .row 51) (slh_set (v := .d (.iptr (encK x))) (slh_set (v := .row 50) (slh_set (v := .d (.iptr (encP p))) (slh_set (v := .d (.iptr [encS s])) (slh_set (v := .d (SK l)) (slh_no _ _) (by rfl) rfl) (by rfl) rfl) (by rfl) rfl) (by rfl) rfl) (by rfl) rfl) (by rfl) rfl) (by rfl) rfl) (by rfl) rfl) (by rfl) rfl) (by rfl) rfl) (hlh_set (hlh_set (hlh_set (hlh_no _ _) rfl rfl) (congrArg (fun z : List (List Bd) => some (Ent.row 105 1 ((z.filter (stays s p l x.at_)).map encR))) htk) rfl) (congrArg (fun z : List (List Bd) => some (Ent.row 105 1 ((z.flatMap (fun b => furX s p l b x.at_)).map encR))) htk) rfl)) ?_
        have hf4 := flatM_len (fun b => furX s p l b x.at_) (fun b => fur_len (s := s) (p := p) (l := l) (b := b) (k := x.at_)) (rowsX s p l q)
        have hf5 := List.length_filter_le (stays s p l x.at_) (rowsX s p l q)
        refine CW_region ?_
        refine OW_run' hE.ok 2 rfl ?_
        refine OW_build' hE rfl rfl rfl rfl rfl ?_
        refine OW_loc' hE (loc_lits hE (t := 105) (len := 1) (parts := #[(0, .tmp 55)]) rfl rfl rfl rfl rfl rfl rfl rfl (xs := [encBd ⟨0, x.at_⟩]) rfl) rfl rfl rfl ?_
        refine OW_run' hE.ok 1 rfl ?_
        refine OW_end rfl ?_
        refine CW_seq ?_
        refine CW_drawn' hE 6 (by decide +kernel) ?_
        refine HW_run hE 4 rfl rfl ?_
        refine HW_loc hE (loc_indexAddr hE rfl rfl rfl rfl rfl (by omega) (x := encBd ⟨0, x.at_⟩) rfl) rfl rfl rfl rfl ?_
        refine HW_run hE 1 rfl rfl ?_
        refine HW_end ?_
        refine OW_call' hE ((Does_le (AVles.cons (AVle.refl _) (AVles.cons (AVle.refl _) (AVles.cons (AVle.refl _) (AVles.cons (AVle.nilSl 2 16) (AVles.cons (AVle.refl _) AVles.nil))))) (goesOk s p l [] ⟨0, x.at_⟩ hr (fun _ h => by cases h) (by simp) hp))) rfl rfl rfl rfl rfl rfl rfl ?_
        refine OW_end rfl ?_
        refine CW_cond _ rfl (fun h5 => ?_) (fun h5 => ?_)
        · skip
          have g3 : goesX s p l [] ⟨0, x.at_⟩ = true := h5
          refine CW_region ?_
          refine OW_run' hE.ok 2 rfl ?_
          refine OW_loc' hE (loc_lits hE (t := 112) (len := 1) (parts := #[(0, .tmp 65)]) rfl rfl rfl rfl rfl rfl rfl rfl (xs := [encR [⟨0, x.at_⟩]]) rfl) rfl rfl rfl ?_
          refine OW_append' hE (key := 52) rfl rfl rfl rfl rfl rfl rfl rfl (.inl rfl) (by simp only [List.length_map, List.length_cons, List.length_nil]; omega) (by simp only [List.length_map, List.length_cons, List.length_nil]; omega) rfl ?_
          refine OW_run' hE.ok 1 rfl ?_
          refine OW_end rfl ?_
          exact ⟨(), trivial, LE_sh (slh_set (v := .d (int ((q : Nat) : Int))) (slh_set (v := .d (int ((l.length : Nat) : Int))) (slh_set (v := .d (SK l)) (slh_set (v := .row 52) (slh_set (v := .row 51) (slh_set (v := .d (.iptr (encK x))) (slh_set (v := .row 50) (slh_set (v := .d (.iptr (encP p))) (slh_set (v := .d (.iptr [encS s])) (slh_set (v := .d (SK l)) (slh_no _ _) (by rfl) rfl) (by rfl) rfl) (by rfl) rfl) (by rfl) rfl) (by rfl) rfl) (by rfl) rfl) (by rfl) rfl) (by rfl) rfl) (by rfl) rfl) (by rfl) rfl) (hlh_set (hlh_set (hlh_set (hlh_no _ _) rfl rfl) rfl rfl) (congrArg (fun z => some (Ent.row 105 1 z)) (by unfold madeX oneX; rw [g3, List.map_append]; rfl)) rfl)⟩
        · skip
          have g3 : goesX s p l [] ⟨0, x.at_⟩ = false := h5
          refine CW_skip ?_
          exact ⟨(), trivial, LE_sh (slh_set (v := .d (int ((q : Nat) : Int))) (slh_set (v := .d (int ((l.length : Nat) : Int))) (slh_set (v := .d (SK l)) (slh_set (v := .row 52) (slh_set (v := .row 51) (slh_set (v := .d (.iptr (encK x))) (slh_set (v := .row 50) (slh_set (v := .d (.iptr (encP p))) (slh_set (v := .d (.iptr [encS s])) (slh_set (v := .d (SK l)) (slh_no _ _) (by rfl) rfl) (by rfl) rfl) (by rfl) rfl) (by rfl) rfl) (by rfl) rfl) (by rfl) rfl) (by rfl) rfl) (by rfl) rfl) (by rfl) rfl) (by rfl) rfl) (hlh_set (hlh_set (hlh_set (hlh_no _ _) rfl rfl) rfl rfl) (congrArg (fun z => some (Ent.row 105 1 z)) (by unfold madeX oneX; rw [g3]; exact congrArg (List.map encR) (List.append_nil _).symm)) rfl)⟩
      · skip
        rintro _ _
        have hf5 := List.length_filter_le (stays s p l x.at_) (rowsX s p l q)
        refine CW_seq ?_
        refine CW_region ?_
        refine OW_run' hE.ok 2 rfl ?_
        refine OW.le (LE_rowA 51 rfl (List.length_map ..) rfl) ?_
        refine OW.le (LE_rowA 52 rfl (List.length_map ..) rfl) ?_
        refine OW_appendA' hE (key := 51) (key2 := 52) rfl rfl rfl rfl rfl rfl rfl rfl rfl rfl (one_rows (f := SBd) (fun _ => rfl) _) (flat_len1 (f := SBd) _) (flat_len1 (f := SBd) _) (by omega) (by omega) rfl rfl ?_
        refine OW_run' hE.ok 1 rfl ?_
        refine OW.le (LE_rowD 51 (xs := ((rowsX s p l q).filter (stays s p l x.at_) ++ (madeX s p l (rowsX s p l q) x.at_)).map encR) rfl (by rw [List.length_map, List.length_append]) (unk_rows _ _ _) (fun y hy => by obtain ⟨z, _, rfl⟩ := List.mem_map.1 hy; rfl)) ?_
        refine OW.le (LE_rowD 52 (xs := (madeX s p l (rowsX s p l q) x.at_).map encR) rfl (List.length_map ..) (unk_rowsE _ _) (fun y hy => by obtain ⟨z, _, rfl⟩ := List.mem_map.1 hy; rfl)) ?_
        refine OW.le (show LE _ _ ⟨J, (sset (sset (sset (sset (sset (sset (sset (sset (sset noSlots 2 (.d (SK l))) 3 (.d (.iptr [encS s]))) 4 (.d (.iptr (encP p)))) 7 (.row 50)) 8 (.row 51)) 12 (.row 52)) 19 (.d (SK l))) 20 (.d (int ((l.length : Nat) : Int)))) 21 (.d (int ((q : Nat) : Int)))), (hset (hset (hset noHeap 50 (some (.row 107 1 ((outX s p l q).map encR)))) 51 (some (.row 105 1 (((rowsX s p l q).filter (stays s p l x.at_) ++ (madeX s p l (rowsX s p l q) x.at_)).map encR)))) 52 (some (.row 105 1 ((madeX s p l (rowsX s p l q) x.at_).map encR))))⟩ from LE_sh (slh_set (v := .d (int ((q : Nat) : Int))) (slh_set (v := .d (int ((l.length : Nat) : Int))) (slh_set (v := .d (SK l)) (slh_set (v := .row 52) (slh_set (v := .row 51) (slh_set (v := .row 50) (slh_set (v := .d (.iptr (encP p))) (slh_set (v := .d (.iptr [encS s])) (slh_set (v := .d (SK l)) (slh_no _ _) (by rfl) rfl) (by rfl) rfl) (by rfl) rfl) (by rfl) rfl) (by rfl) rfl) (by rfl) rfl) (by rfl) rfl) (by rfl) rfl) (by rfl) rfl) (hlh_set (hlh_set (hlh_set (hlh_no _ _) rfl rfl) rfl rfl) rfl rfl)) ?_
        refine OW_end rfl ?_
        refine CW_seq ?_
        refine CW_region ?_
        refine OW_run' hE.ok 1 rfl ?_
        refine OW_callTurn' hE (sortBd (madeX s p l (rowsX s p l q) x.at_) (fun c hc => by have := (hmi c hc).2.2; omega)) rfl rfl rfl rfl rfl rfl rfl rfl ?_
        refine OW.le (LE_freeze 51 24 rfl (by rw [List.length_map, List.length_append]; omega)) ?_
        refine OW.le (LE_freeze 52 24 rfl (by rw [List.length_map]; omega)) ?_
        refine OW.le (show LE _ _ ⟨J, (sset (sset (sset (sset (sset (sset (sset (sset (sset noSlots 2 (.d (SK l))) 3 (.d (.iptr [encS s]))) 4 (.d (.iptr (encP p)))) 7 (.row 50)) 8 (.d (.sl 1 24 (((rowsX s p l q).filter (stays s p l x.at_) ++ (madeX s p l (rowsX s p l q) x.at_)).map encR)))) 12 (.d (.sl 1 24 ((sortX orderX (madeX s p l (rowsX s p l q) x.at_)).map encR)))) 19 (.d (SK l))) 20 (.d (int ((l.length : Nat) : Int)))) 21 (.d (int ((q : Nat) : Int)))), (hset noHeap 50 (some (.row 107 1 ((outX s p l q).map encR))))⟩ from LE_sh (slh_set (v := .d (int ((q : Nat) : Int))) (slh_set (v := .d (int ((l.length : Nat) : Int))) (slh_set (v := .d (SK l)) (slh_set (v := .d (.sl 1 24 ((sortX orderX (madeX s p l (rowsX s p l q) x.at_)).map encR))) (slh_set (v := .d (.sl 1 24 (((rowsX s p l q).filter (stays s p l x.at_) ++ (madeX s p l (rowsX s p l q) x.at_)).map encR))) (slh_set (v := .row 50) (slh_set (v := .d (.iptr (encP p))) (slh_set (v := .d (.iptr [encS s])) (slh_set (v := .d (SK l)) (slh_no _ _) (by rfl) rfl) (by rfl) rfl) (by rfl) rfl) (by rfl) rfl) (by rfl) rfl) (by rfl) rfl) (by rfl) rfl) (by rfl) rfl) (by rfl) rfl) (hlh_set (hlh_no _ _) rfl rfl)) ?_
        refine OW_end rfl ?_
        refine CW_seq ?_
        refine CW_region ?_
        refine OW_run' hE.ok 3 rfl ?_
        refine OW_end rfl ?_
        refine CW_block ?_
        refine CW_loop (σ := {j : Nat // j ≤ (sortX orderX (madeX s p l (rowsX s p l q) x.at_)).length}) (fun j => ⟨J, (sset (sset (sset (sset (sset (sset (sset (sset (sset (sset (sset noSlots 2 (.d (SK l))) 3 (.d (.iptr [encS s]))) 4 (.d (.iptr (encP p)))) 7 (.row 50)) 8 (.d (.sl 1 24 (((rowsX s p l q).filter (stays s p l x.at_) ++ (madeX s p l (rowsX s p l q) x.at_)).map encR)))) 19 (.d (SK l))) 20 (.d (int ((l.length : Nat) : Int)))) 21 (.d (int ((q : Nat) : Int)))) 73 (.d (.sl 1 24 ((sortX orderX (madeX s p l (rowsX s p l q) x.at_)).map encR)))) 74 (.d (int (((sortX orderX (madeX s p l (rowsX s p l q) x.at_)).length : Nat) : Int)))) 75 (.d (int ((j.1 : Nat) : Int)))), (hset noHeap 50 (some (.row 107 1 ((outX s p l q ++ ((sortX orderX (madeX s p l (rowsX s p l q) x.at_)).take j.1).filter (lastIs p)).map encR))))⟩) (fun j => (sortX orderX (madeX s p l (rowsX s p l q) x.at_)).length - j.1) ⟨0, Nat.zero_le _⟩ (LE_sh (slh_set (slh_set (slh_set (slh_set (slh_set (slh_set (slh_set (slh_set (slh_set (slh_set (slh_set (slh_no _ _) rfl rfl) rfl rfl) rfl rfl) rfl rfl) rfl rfl) rfl rfl) rfl rfl) rfl rfl) rfl rfl) (by show AV.d (.lit (.int .i64 (((sortX orderX (madeX s p l (rowsX s p l q) x.at_)).map encR).length : Int))) = _; rw [List.length_map]; rfl) rfl) rfl rfl) (hlh_set (hlh_no _ _) (congrArg (fun z => some (Ent.row 107 1 z)) (congrArg (List.map encR) (List.append_nil _).symm)) rfl)) fun ⟨j, hj⟩ => ?_
        refine CW_seq ?_
        refine CW_region ?_
        refine OW_run' hE.ok 1 rfl ?_
        refine OW_end rfl ?_
        refine CW_seq ?_
        refine CW_cond _ rfl (fun h6 => ?_) (fun h6 => ?_)
        · skip
          have hjl : j < (sortX orderX (madeX s p l (rowsX s p l q) x.at_)).length := by have := h6; simp at this; omega
          obtain ⟨b, hb⟩ : ∃ b, (sortX orderX (madeX s p l (rowsX s p l q) x.at_))[j]? = some b := ⟨_, List.getElem?_eq_getElem hjl⟩
          have hbi := hmi b ((List.mergeSort_perm _ _).mem_iff.1 (List.mem_of_getElem? hb))
          have hbl := hbi.2.2
          have hb0 := hbi.1
          obtain ⟨lst, hlst⟩ : ∃ z, b[b.length - 1]? = some z := ⟨_, List.getElem?_eq_getElem (by omega)⟩
          have hla := lastBd_at hlst
          have hf6 := List.length_filter_le (lastIs p) ((sortX orderX (madeX s p l (rowsX s p l q) x.at_)).take j)
          rw [List.length_take] at hf6
          refine CW_skip ?_
          refine CW_seq ?_
          refine CW_block ?_
          refine CW_seq ?_
          refine CW_region ?_
          refine OW_loc' hE (loc_indexAddr hE rfl rfl rfl rfl rfl (by omega) (x := encR b) (by simp [hb])) rfl rfl rfl ?_
          refine OW_run' hE.ok 2 rfl ?_
          refine OW_end rfl ?_
          refine CW_seq ?_
          refine CW_drawn' hE 11 (by decide +kernel) ?_
          refine HW_run hE 4 rfl rfl ?_
          refine HW_as 82 (.d (int ((b.length - 1 : Nat) : Int))) (by show AV.d (.lit (.int .i64 (IntKind.i64.wrap (((b.map encBd).length : Int) - 1)))) = _; rw [List.length_map, show ((b.length : Int) - 1) = ((b.length - 1 : Nat) : Int) by omega, wrapN (by omega)]; rfl) ?_
          refine HW_loc hE (loc_indexAddr hE rfl rfl rfl rfl rfl (by omega) (x := encBd lst) (by rw [Int.toNat_natCast, List.getElem?_map, hlst]; rfl)) rfl rfl rfl rfl ?_
          refine HW_run hE 6 rfl rfl ?_
          refine HW_end ?_
          refine OW_as' 89 (.d (int ((p.els.length : Int) - 1))) (by show AV.d (.lit (.int .i64 (IntKind.i64.wrap (((p.els.map encL).length : Int) - 1)))) = _; rw [List.length_map, wrap_id _ _ (by simp [IntKind.min, IntKind.signed, IntKind.bits]; omega) (by simp [IntKind.max, IntKind.signed, IntKind.bits]; omega)]; rfl) ?_
          refine OW_run' hE.ok 1 rfl ?_
          refine OW_end rfl ?_
          refine CW_cond _ rfl (fun h7 => ?_) (fun h7 => ?_)
          · skip
            have g4 : lastIs p b = true := by unfold lastIs; rw [hla]; exact h7
            refine CW_region ?_
            refine OW_run' hE.ok 2 rfl ?_
            refine OW_build' hE rfl rfl rfl rfl rfl ?_
            refine OW_loc' hE (loc_lits hE (t := 50) (len := 1) (parts := #[(0, .tmp 93)]) rfl rfl rfl rfl rfl rfl rfl rfl (xs := [encR b]) rfl) rfl rfl rfl ?_
            refine OW_append' hE (key := 50) rfl rfl rfl rfl rfl rfl rfl rfl (.inl rfl) (by simp; omega) (by simp; omega) rfl ?_
            refine OW_run' hE.ok 1 rfl ?_
            refine OW_end rfl ?_
            refine CW_region ?_
            refine OW_run' hE.ok 2 rfl ?_
            refine OW_end rfl ?_
            exact ⟨⟨j + 1, by omega⟩, LE_sh (slh_set (v := .d (int ((j + 1 : Nat) : Int))) (slh_set (v := .d (int (((sortX orderX (madeX s p l (rowsX s p l q) x.at_)).length : Nat) : Int))) (slh_set (v := .d (.sl 1 24 ((sortX orderX (madeX s p l (rowsX s p l q) x.at_)).map encR))) (slh_set (v := .d (int ((q : Nat) : Int))) (slh_set (v := .d (int ((l.length : Nat) : Int))) (slh_set (v := .d (SK l)) (slh_set (v := .d (.sl 1 24 (((rowsX s p l q).filter (stays s p l x.at_) ++ (madeX s p l (rowsX s p l q) x.at_)).map encR))) (slh_set (v := .row 50) (slh_set (v := .d (.iptr (encP p))) (slh_set (v := .d (.iptr [encS s])) (slh_set (v := .d (SK l)) (slh_no _ _) (by rfl) rfl) (by rfl) rfl) (by rfl) rfl) (by rfl) rfl) (by rfl) rfl) (by rfl) rfl) (by rfl) rfl) (by rfl) rfl) (by rfl) rfl) (by rfl) rfl) (by show AV.d (.lit (.int .i64 (IntKind.i64.wrap ((j : Int) + 1)))) = _; rw [wrap_succ (by omega)]; rfl) rfl) (hlh_set (hlh_no _ _) (congrArg (fun z => some (Ent.row 107 1 z)) (by rw [filt_snoc_t hb g4, ← List.append_assoc]; exact (List.map_append (f := encR) (l₂ := [b])).symm)) rfl), by show (sortX orderX (madeX s p l (rowsX s p l q) x.at_)).length - (j + 1) < (sortX orderX (madeX s p l (rowsX s p l q) x.at_)).length - j; omega⟩
          · skip
            have g4 : lastIs p b = false := by unfold lastIs; rw [hla]; exact h7
            refine CW_skip ?_
            refine CW_region ?_
            refine OW_run' hE.ok 2 rfl ?_
            refine OW_end rfl ?_
            exact ⟨⟨j + 1, by omega⟩, LE_sh (slh_set (v := .d (int ((j + 1 : Nat) : Int))) (slh_set (v := .d (int (((sortX orderX (madeX s p l (rowsX s p l q) x.at_)).length : Nat) : Int))) (slh_set (v := .d (.sl 1 24 ((sortX orderX (madeX s p l (rowsX s p l q) x.at_)).map encR))) (slh_set (v := .d (int ((q : Nat) : Int))) (slh_set (v := .d (int ((l.length : Nat) : Int))) (slh_set (v := .d (SK l)) (slh_set (v := .d (.sl 1 24 (((rowsX s p l q).filter (stays s p l x.at_) ++ (madeX s p l (rowsX s p l q) x.at_)).map encR))) (slh_set (v := .row 50) (slh_set (v := .d (.iptr (encP p))) (slh_set (v := .d (.iptr [encS s])) (slh_set (v := .d (SK l)) (slh_no _ _) (by rfl) rfl) (by rfl) rfl) (by rfl) rfl) (by rfl) rfl) (by rfl) rfl) (by rfl) rfl) (by rfl) rfl) (by rfl) rfl) (by rfl) rfl) (by rfl) rfl) (by show AV.d (.lit (.int .i64 (IntKind.i64.wrap ((j : Int) + 1)))) = _; rw [wrap_succ (by omega)]; rfl) rfl) (hlh_set (hlh_no _ _) (congrArg (fun z => some (Ent.row 107 1 z)) (by rw [filt_snoc_f hb g4])) rfl), by show (sortX orderX (madeX s p l (rowsX s p l q) x.at_)).length - (j + 1) < (sortX orderX (madeX s p l (rowsX s p l q) x.at_)).length - j; omega⟩
        · skip
          have hjg : (sortX orderX (madeX s p l (rowsX s p l q) x.at_)).length ≤ j := by have := h6; simp at this; omega
          have htk2 : (sortX orderX (madeX s p l (rowsX s p l q) x.at_)).take j = (sortX orderX (madeX s p l (rowsX s p l q) x.at_)) := List.take_of_length_le hjg
          refine CW_exit ?_
          show CW _ _ _ _
          refine CW_region ?_
          refine OW_run' hE.ok 2 rfl ?_
          refine OW_end rfl ?_
          refine ⟨⟨q + 1, by omega⟩, LE_sh (slh_set (v := .d (int (((q + 1) : Nat) : Int))) (slh_set (v := .d (int ((l.length : Nat) : Int))) (slh_set (v := .d (SK l)) (slh_set (v := .d (.sl 1 24 ((rowsX s p l (q + 1)).map encR))) (slh_set (v := .row 50) (slh_set (v := .d (.iptr (encP p))) (slh_set (v := .d (.iptr [encS s])) (slh_set (v := .d (SK l)) (slh_no _ _) (by rfl) rfl) (by rfl) rfl) (by rfl) rfl) (by rfl) rfl) (by exact (congrArg (fun z => AV.d (.sl 1 24 (List.map encR z))) (rows_at hx).symm)) rfl) (by rfl) rfl) (by rfl) rfl) (by show AV.d (.lit (.int .i64 (IntKind.i64.wrap ((q : Int) + 1)))) = _; rw [wrap_succ (by omega)]; rfl) rfl) (hlh_set (hlh_no _ _) (congrArg (fun z => some (Ent.row 107 1 z)) (by rw [out_at hx]; unfold foundX; rw [htk2])) rfl), by show l.length - (q + 1) < l.length - q; omega⟩
  · skip
    have hge : l.length ≤ q := by have := h1; simp at this; omega
    refine CW_exit ?_
    show CW _ _ _ _
    refine CW_seq ?_
    refine CW_region ?_
    refine OW_run' hE.ok 2 rfl ?_
    refine OW_end rfl ?_
    have hh : q = l.length := by omega
    subst hh
    exact CW_ret ⟨.inr rfl, rfl, 50, rfl, rfl⟩
end Go.Proofs.Ytojnicnbmgiplaa
