/- Parts of an abstract logic over the kit's walks, and walks in it: D7s, D7c, D7d, D7o, D7b. -/
import Derived.Test.YtchpllgeahnmmaaDoorDxa
import Derived.Test.YtchpllgeahnmmaaDoorBa
import Derived.Test.YtchpllgeahnmmaaDoorEz
import Derived.Test.YtchpllgeahnmmaaDoorCp
namespace Go.Proofs.YtchpllgeahnmmaaDoor
open Go Go.AL
set_option linter.unusedVariables false
set_option linter.unusedSimpArgs false
set_option maxHeartbeats 4000000
theorem refSameEOk (a b : Ev) : Does Tryd.prog 15 [argE a, argE b] noHeap (.d (boo (sameEv a b))) := by
 refine Does_of T_ok mixed (N := 45) Tryd.func15 rfl rfl rfl (by rfl) fun F n Z hE hF J => ?_
 refine CW_seq ?_
 refine CW_region ?_
 refine OW_run' hE.ok 3 rfl ?_
 refine OW_end rfl ?_
 refine CW_seq ?_
 refine CW_seq ?_
 refine CW_region ?_
 refine OW_run' hE.ok 6 rfl ?_
 refine OW_split' 11 rfl (fun h1 => ?_) (fun h1 => ?_)
 ·
  have g1 : (!(a.ty.toList == b.ty.toList)) = true := h1
  refine OW_run' hE.ok 15 rfl ?_
  refine OW_end rfl ?_
  refine CW_true rfl ?_
  refine CW_seq ?_
  refine CW_region ?_
  refine OW_run' hE.ok 1 rfl ?_
  refine OW_end rfl ?_
  refine CW_ret ?_
  refine ⟨.inr rfl, rfl, ⟨_, rfl, rfl, ?_⟩, rfl⟩
  exact AVle.of (congrArg (fun b => AV.d (boo b)) (by rw [evS_ty g1]))
 ·
  have g1 : (!(a.ty.toList == b.ty.toList)) = false := h1
  refine OW_run' hE.ok 7 rfl ?_
  refine OW_split' 18 rfl (fun h2 => ?_) (fun h2 => ?_)
  ·
   have g2 : (a.ts != b.ts) = true := h2
   refine OW_run' hE.ok 8 rfl ?_
   refine OW_end rfl ?_
   refine CW_true rfl ?_
   refine CW_seq ?_
   refine CW_region ?_
   refine OW_run' hE.ok 1 rfl ?_
   refine OW_end rfl ?_
   refine CW_ret ?_
   refine ⟨.inr rfl, rfl, ⟨_, rfl, rfl, ?_⟩, rfl⟩
   exact AVle.of (congrArg (fun b => AV.d (boo b)) (by rw [evS_ts g2]))
  ·
   have g2 : (a.ts != b.ts) = false := h2
   refine OW_run' hE.ok 8 rfl ?_
   refine OW_end rfl ?_
   refine CW_cond _ rfl (fun h3 => ?_) (fun h3 => ?_)
   ·
    have g3 : a.vals.length ≠ b.vals.length := by have := h3; simp at this; omega
    refine CW_seq ?_
    refine CW_region ?_
    refine OW_run' hE.ok 1 rfl ?_
    refine OW_end rfl ?_
    refine CW_ret ?_
    refine ⟨.inr rfl, rfl, ⟨_, rfl, rfl, ?_⟩, rfl⟩
    exact AVle.of (congrArg (fun b => AV.d (boo b)) (by rw [evS_len g3]))
   ·
    have g3 : a.vals.length = b.vals.length := by have := h3; simp at this; omega
    refine CW_skip ?_
    refine CW_seq ?_
    refine CW_seq ?_
    refine CW_region ?_
    refine OW_run' hE.ok 1 rfl ?_
    refine OW_end rfl ?_
    refine CW_block ?_
    skip
    refine CW_loop (σ := {i : Nat // i ≤ a.vals.length ∧ ∀ (j : Nat) (x y : Vl), j < i → a.vals[j]? = some x → b.vals[j]? = some y → sameV x y = true}) (fun i => ⟨J, (sset (sset (sset noSlots 2 (.d (.iptr (encE a)))) 3 (.d (.iptr (encE b)))) 5 (.d (int ((i.1 : Nat) : Int)))), noHeap⟩) (fun i => a.vals.length - i.1) ⟨0, Nat.zero_le _, fun j x y hj => by omega⟩ (LE_sh (slh_set (slh_set (slh_set (slh_no _ _) rfl rfl) rfl rfl) rfl rfl) (hlh_no _ _)) fun ⟨i, hi, hp⟩ => ?_
    refine CW_seq ?_
    refine CW_seq ?_
    refine CW_region ?_
    refine OW_run' hE.ok 5 rfl ?_
    refine OW_end rfl ?_
    refine CW_cond _ rfl (fun h4 => ?_) (fun h4 => ?_)
    ·
     refine CW_know (know_sl (d := 29) rfl) fun hlen => ?_
     simp only [List.length_map] at hlen
     have hlt : i < a.vals.length := by have := h4; simp at this; omega
     obtain ⟨x, hx⟩ : ∃ x, a.vals[i]? = some x := ⟨_, List.getElem?_eq_getElem hlt⟩
     obtain ⟨y, hy⟩ : ∃ y, b.vals[i]? = some y := ⟨_, List.getElem?_eq_getElem (by omega)⟩
     refine CW_skip ?_
     refine CW_seq ?_
     refine CW_block ?_
     refine CW_seq ?_
     refine CW_drawn' hE 10 (by decide +kernel) ?_
     refine HW_run hE 3 rfl rfl ?_
     refine HW_loc hE (loc_indexAddr hE rfl rfl rfl rfl rfl (by omega) (x := encV x) (by simp [hx])) rfl rfl rfl rfl ?_
     refine HW_run hE 4 rfl rfl ?_
     refine HW_loc hE (loc_indexAddr hE rfl rfl rfl rfl rfl (by omega) (x := encV y) (by simp [hy])) rfl rfl rfl rfl ?_
     refine HW_run hE 1 rfl rfl ?_
     refine HW_end ?_
     refine OW_loc' hE (loc_neq rfl rfl rfl (r := sameV x y) (eqLaw_flat T_ok (t := 31) rfl (by decide +kernel) rfl (X := encV x) (Y := encV y) rfl rfl rfl)) rfl rfl rfl ?_
     refine OW_end rfl ?_
     refine CW_cond _ rfl (fun h5 => ?_) (fun h5 => ?_)
     ·
      have hdiff : sameV x y = false := by simpa using h5
      refine CW_seq ?_
      refine CW_region ?_
      refine OW_run' hE.ok 1 rfl ?_
      refine OW_end rfl ?_
      refine CW_ret ?_
      refine ⟨.inr rfl, rfl, ⟨_, rfl, rfl, ?_⟩, rfl⟩
      exact AVle.of (congrArg (fun b => AV.d (boo b)) (by rw [evS_val hx hy hdiff]))
     ·
      have hsame : sameV x y = true := by simpa using h5
      refine CW_skip ?_
      refine CW_region ?_
      refine OW_run' hE.ok 3 rfl ?_
      refine OW_end rfl ?_
      refine ⟨⟨i + 1, by omega, fun j u v hj hu hv => ?_⟩, LE_sh (slh_set (v := .d (int ((i + 1 : Nat) : Int))) (slh_set (v := .d (.iptr (encE b))) (slh_set (v := .d (.iptr (encE a))) (slh_no _ _) (by rfl) rfl) (by rfl) rfl) (by show AV.d (.lit (.int .i64 (IntKind.i64.wrap ((i : Int) + 1)))) = _; rw [wrap_succ (by omega)]; rfl) rfl) (hlh_no _ _), by show a.vals.length - (i + 1) < a.vals.length - i; omega⟩
      by_cases hji : j = i
      · subst hji; rw [hx] at hu; rw [hy] at hv; cases hu; cases hv; exact hsame
      · exact hp j u v (by omega) hu hv
    ·
     have hge : a.vals.length ≤ i := by have := h4; simp at this; omega
     refine CW_exit ?_
     show CW _ _ _ _
     refine CW_seq ?_
     refine CW_region ?_
     refine OW_run' hE.ok 1 rfl ?_
     refine OW_end rfl ?_
     refine CW_ret ?_
     refine ⟨.inr rfl, rfl, ⟨_, rfl, rfl, ?_⟩, rfl⟩
     exact AVle.of (congrArg (fun b => AV.d (boo b)) (by rw [evS_ok g1 g2 g3 (fun j u v hj => hp j u v (by have := (List.getElem?_eq_some_iff.1 hj).1; omega) hj)]))
end Go.Proofs.YtchpllgeahnmmaaDoor
namespace Go.Proofs.YtchpllgeahnmmaaDoor
open Go Go.AL
set_option linter.unusedVariables false
set_option linter.unusedSimpArgs false
set_option maxHeartbeats 4000000
theorem cloneT (l : List Ty) : Does Tryd.prog 82 [.d (.sl 2 40 (l.map encT))] (oneRow 72 2 (l.map encT)) (.row 0) := by
 refine Does_ofRow T_ok mixed (N := 8) Tryd.func82 rfl rfl rfl (by rfl) fun F n Z hE hF J => ?_
 refine CW_know (know_sl (d := 0) rfl) fun hlen => ?_
 rw [List.length_map] at hlen
 refine CW_seq ?_
 refine CW_region ?_
 refine OW_run' hE.ok 1 rfl ?_
 refine OW_end rfl ?_
 refine CW_seq ?_
 refine CW_seq ?_
 refine CW_region ?_
 refine OW_run' hE.ok 1 rfl ?_
 refine OW_eqNil' hE rfl rfl rfl rfl rfl rfl rfl rfl (fun b hb => ?_)
 refine OW_end rfl ?_
 refine CW_cond _ rfl (fun h1 => ?_) (fun h1 => ?_)
 ·
  refine CW_seq ?_
  refine CW_region ?_
  refine OW_run' hE.ok 1 rfl ?_
  refine OW.le (LE_nilSlot 2 7 72 2 rfl rfl) ?_
  refine OW_end rfl ?_
  refine CW_ret ⟨.inr rfl, rfl, 7, rfl, ?_⟩
  rw [hb h1]
  rfl
 ·
  refine CW_skip ?_
  refine CW_seq ?_
  refine CW_region ?_
  refine OW_litsOwn' hE 7 rfl rfl rfl rfl rfl rfl rfl rfl rfl rfl rfl rfl ?_
  refine OW_run' hE.ok 1 rfl ?_
  refine OW_append' hE (key := 7) rfl rfl rfl rfl rfl rfl rfl rfl (.inl rfl) (by simp; omega) (by simp; omega) rfl ?_
  refine OW_run' hE.ok 1 rfl ?_
  refine OW_end rfl ?_
  exact CW_ret ⟨.inr rfl, rfl, 7, rfl, rfl⟩
theorem cloneF (l : List Fld) : Does Tryd.prog 84 [.d (.sl 2 24 (l.map encF))] (oneRow 69 2 (l.map encF)) (.row 0) := by
 refine Does_ofRow T_ok mixed (N := 8) Tryd.func84 rfl rfl rfl (by rfl) fun F n Z hE hF J => ?_
 refine CW_know (know_sl (d := 0) rfl) fun hlen => ?_
 rw [List.length_map] at hlen
 refine CW_seq ?_
 refine CW_region ?_
 refine OW_run' hE.ok 1 rfl ?_
 refine OW_end rfl ?_
 refine CW_seq ?_
 refine CW_seq ?_
 refine CW_region ?_
 refine OW_run' hE.ok 1 rfl ?_
 refine OW_eqNil' hE rfl rfl rfl rfl rfl rfl rfl rfl (fun b hb => ?_)
 refine OW_end rfl ?_
 refine CW_cond _ rfl (fun h1 => ?_) (fun h1 => ?_)
 ·
  refine CW_seq ?_
  refine CW_region ?_
  refine OW_run' hE.ok 1 rfl ?_
  refine OW.le (LE_nilSlot 2 7 69 2 rfl rfl) ?_
  refine OW_end rfl ?_
  refine CW_ret ⟨.inr rfl, rfl, 7, rfl, ?_⟩
  rw [hb h1]
  rfl
 ·
  refine CW_skip ?_
  refine CW_seq ?_
  refine CW_region ?_
  refine OW_litsOwn' hE 7 rfl rfl rfl rfl rfl rfl rfl rfl rfl rfl rfl rfl ?_
  refine OW_run' hE.ok 1 rfl ?_
  refine OW_append' hE (key := 7) rfl rfl rfl rfl rfl rfl rfl rfl (.inl rfl) (by simp; omega) (by simp; omega) rfl ?_
  refine OW_run' hE.ok 1 rfl ?_
  refine OW_end rfl ?_
  exact CW_ret ⟨.inr rfl, rfl, 7, rfl, rfl⟩
theorem cloneFd (l : List Fld) : Does Tryd.prog 84 [.d (.sl 2 24 (l.map encF))] noHeap (.d (.sl 2 24 (l.map encF))) := by
 refine Does_of T_ok mixed (N := 8) Tryd.func84 rfl rfl rfl (by rfl) fun F n Z hE hF J => ?_
 refine CW_know (know_sl (d := 0) rfl) fun hlen => ?_
 rw [List.length_map] at hlen
 refine CW_seq ?_
 refine CW_region ?_
 refine OW_run' hE.ok 1 rfl ?_
 refine OW_end rfl ?_
 refine CW_seq ?_
 refine CW_seq ?_
 refine CW_region ?_
 refine OW_run' hE.ok 1 rfl ?_
 refine OW_eqNil' hE rfl rfl rfl rfl rfl rfl rfl rfl (fun b hb => ?_)
 refine OW_end rfl ?_
 refine CW_cond _ rfl (fun h1 => ?_) (fun h1 => ?_)
 ·
  refine CW_seq ?_
  refine CW_region ?_
  refine OW_run' hE.ok 1 rfl ?_
  refine OW_end rfl ?_
  refine CW_ret ⟨.inr rfl, rfl, ⟨_, rfl, rfl, ?_⟩, rfl⟩
  rw [hb h1]
  exact AVle.nilSl 2 24
 ·
  refine CW_skip ?_
  refine CW_seq ?_
  refine CW_region ?_
  refine OW_litsOwn' hE 7 rfl rfl rfl rfl rfl rfl rfl rfl rfl rfl rfl rfl ?_
  refine OW_run' hE.ok 1 rfl ?_
  refine OW_append' hE (key := 7) rfl rfl rfl rfl rfl rfl rfl rfl (.inl rfl) (by simp; omega) (by simp; omega) rfl ?_
  refine OW_run' hE.ok 1 rfl ?_
  refine OW_end rfl ?_
  refine CW.le (LE_freeze 7 24 rfl (by simp; omega)) ?_
  exact CW_ret ⟨.inr rfl, rfl, ⟨_, rfl, rfl, AVle.refl _⟩, rfl⟩
theorem see_at {g n cap sz : Nat} {vs : List Value} {i : Nat} {w : World} (h : SeeRow (.slice (some ⟨g, 0, none⟩) n cap) sz vs i w) {j : Nat} {u : Value} (hj : i * sz ≤ j) (hu : vs[j]? = some u) : w.cell? ⟨g, j, none⟩ = some u := by
 obtain ⟨g', n', cap', e, hc⟩ := h j u hj hu
 cases e
 exact hc
theorem allTS1 (xs : List Ty) (v : Value) (vs : List Value) (hv : Handle v xs.length) : IterS Tryd.prog 96 [] [.d (.iptr [.lit v])] (ysI encT xs) (SeeRow v 2 vs) ((xs.map encT).flatten.map .d) vs := by
 refine IterS_of T_ok mixed (N := 18) Tryd.func96 rfl rfl rfl (by rfl) 90 fun F n Z hE hF l C X hC hX hy hsee => ?_
 obtain ⟨hn, a0, cap, rfl, ha⟩ := hv
 refine CW.le (show LE _ _ ⟨C 0, argSlots ([] ++ .d (.fn (.yield l) [] []) :: [.d (.iptr [.lit (.slice a0 xs.length cap)])]) 0, (hset noHeap 90 (some (.ghost ((xs.map encT).flatten.map .d) vs)))⟩ from LE.refl _ _) ?_
 refine CW_seq ?_
 refine CW_region ?_
 refine OW_run' hE.ok 3 rfl ?_
 refine OW_end rfl ?_
 refine CW_block ?_
 refine CW_loop (σ := {i : Nat // i ≤ xs.length}) (fun i => ⟨C i.1, (sset (sset (sset (sset (sset noSlots 0 (.d (.fn (.yield l) [] []))) 1 (.d (.iptr [.lit (.slice a0 xs.length cap)]))) 5 (.d (.lit (.slice a0 xs.length cap)))) 6 (.d (int ((xs.length : Nat) : Int)))) 7 (.d (int ((i.1 : Nat) : Int)))), (hset noHeap 90 (some (.ghost ((xs.map encT).flatten.map .d) vs)))⟩) (fun i => xs.length - i.1) ⟨0, Nat.zero_le _⟩ (LE_sh (slh_set (slh_set (slh_set (slh_set (slh_set (slh_no _ _) rfl rfl) rfl rfl) rfl rfl) rfl rfl) rfl rfl) (hlh_set (hlh_no _ _) rfl (inHs_dd _ _))) fun ⟨i, hi⟩ => ?_
 refine CW_seq ?_
 refine CW_region ?_
 refine OW_run' hE.ok 1 rfl ?_
 refine OW_end rfl ?_
 refine CW_seq ?_
 refine CW_cond _ rfl (fun h1 => ?_) (fun h1 => ?_)
 ·
  have hlt : i < xs.length := by have := h1; simp at this; omega
  obtain ⟨a, hax⟩ : ∃ a, xs[i]? = some a := ⟨_, List.getElem?_eq_getElem hlt⟩
  obtain ⟨g, rfl⟩ := ha (by omega)
  refine CW_skip ?_
  refine CW_seq ?_
  refine CW_block ?_
  refine CW_seq ?_
  refine CW_region ?_
  refine OW_run' hE.ok 1 rfl ?_
  refine OW_loc' hE (loc_idxLit hE rfl rfl rfl rfl rfl hlt) rfl rfl rfl ?_
  refine OW_loc' hE (loc_loadSee hE rfl rfl rfl (G := 90) rfl (fun K Y Z w hw j u hj hu => see_at (hsee i K Y Z w hw) hj hu) (by exact ofCells_enc hax)) rfl rfl rfl ?_
  refine OW_alloc' hE 1 rfl rfl rfl rfl rfl rfl rfl ?_
  refine OW_run' hE.ok 1 rfl ?_
  refine OW_store' hE rfl rfl rfl rfl rfl rfl rfl rfl rfl rfl rfl rfl ?_
  refine OW_end rfl ?_
  refine CW_seq ?_
  refine CW_region ?_
  refine OW_run' hE.ok 3 rfl ?_
  refine OW_yield' hE hy hC hX (Wrap.id _) (i) rfl rfl rfl rfl rfl rfl (ysI_get hax) rfl rfl rfl ?_ ?_
  ·
   refine OW_run' hE.ok 1 rfl ?_
   refine OW_end rfl ?_
   refine CW_false rfl ?_
   refine CW_skip ?_
   refine CW_region ?_
   refine OW_run' hE.ok 2 rfl ?_
   refine OW_end rfl ?_
   exact ⟨⟨i + 1, hlt⟩, LE_sh (slh_set (slh_set (slh_set (slh_set (slh_set (slh_no _ _) rfl rfl) rfl rfl) rfl rfl) rfl rfl) (by show AV.d (.lit (.int .i64 (IntKind.i64.wrap ((i : Int) + 1)))) = _; rw [wrap_succ (by omega)]; rfl) rfl) (hlh_set (hlh_no _ _) rfl (inHs_dd _ _)), by show xs.length - (i + 1) < xs.length - i; omega⟩
  ·
   refine OW_run' hE.ok 1 rfl ?_
   refine OW_end rfl ?_
   refine CW_true rfl ?_
   exact CW_ret ⟨.inr rfl, .inr rfl, _, rfl⟩
 ·
  have hge : ¬ i < xs.length := by have := h1; simp at this; omega
  refine CW_exit ?_
  have hN : i = (ysI encT xs).length := by rw [ysI_length]; omega
  show RetI _ _ _ _ .normal _
  exact ⟨.inl rfl, .inl (by show C i = _; rw [← hN]), _, rfl⟩
theorem allTS (v : Value) : Does Tryd.prog 83 [.d (.lit v)] noHeap (.d (.fn (.func 96) [] [.iptr [.lit v]])) := by
 refine Does_of T_ok mixed (N := 4) Tryd.func83 rfl rfl rfl (by rfl) fun F n Z hE hF J => ?_
 refine CW_seq ?_
 refine CW_region ?_
 refine OW_run' hE.ok 2 rfl ?_
 refine OW_end rfl ?_
 refine CW_seq ?_
 refine CW_region ?_
 refine OW_run' hE.ok 2 rfl ?_
 refine OW_end rfl ?_
 refine CW_ret ?_
 refine ⟨.inr rfl, rfl, ⟨_, rfl, rfl, ?_⟩, rfl⟩
 exact AVle.refl _
theorem copiedOk (s : List Ty) (q : Nat) : DoesM Tryd.prog 56 [] [argS s] (.agg [.row 50]) (copL 72 69 s q) [] := by
 refine DoesM_of T_ok mixed (N := 24) Tryd.func56 rfl rfl rfl (by rfl) rfl rfl (copL_closed _ _ _ _) rfl (copL_in _ _ _ _) rfl fun F n Z hE hF J V => ?_
 refine CW_seq ?_
 refine CW_region ?_
 refine OW_run' hE.ok 1 rfl ?_
 refine OW_alloc' hE 1 rfl rfl rfl rfl rfl rfl rfl ?_
 refine OW_end rfl ?_
 refine CW_seq ?_
 refine CW_region ?_
 refine OW_run' hE.ok 2 rfl ?_
 refine OW_callRow' hE 50 (cloneT s) rfl rfl rfl rfl rfl rfl rfl ?_
 refine OW_build' hE rfl rfl rfl rfl rfl ?_
 refine OW_alloc' hE 2 rfl rfl rfl rfl rfl rfl rfl ?_
 refine OW_store' hE rfl rfl rfl rfl rfl rfl rfl rfl rfl rfl rfl rfl ?_
 refine OW_end rfl ?_
 refine CW_seq ?_
 refine CW_seq ?_
 refine CW.le (LE_rowA 50 (n := s.length) (cs := (s.map encT).flatten.map .d) rfl (by simp) rfl) ?_
 refine CW_nameRow 50 60 rfl rfl (names_ok s) fun v vs hv hvl hvo hvi => ?_
 obtain ⟨fl, hfl, rfl⟩ := ilv_of hvi hvl
 rw [ccC_zero (q := q) (j := 0) hfl]
 refine CW_region ?_
 refine OW_run' hE.ok 2 rfl ?_
 refine OW.le (LE_slotLit 11 (k := 50) (G := 60) rfl rfl hv.ok) ?_
 refine OW_call' hE (allTS v) rfl rfl rfl rfl rfl rfl rfl ?_
 refine OW_end rfl ?_
 refine CW_block ?_
 refine CW.le (show LE _ _ ⟨J, (sset (sset (sset noSlots 2 (.ptr 1 0)) 3 (.ptr 2 0)) 12 (.d (.fn (.func 96) [] [.iptr [.lit v]]))), (hC 24 72 69 s fl v V q (0))⟩ from LE_sh (slh_set (v := .d (.fn (.func 96) [] [.iptr [.lit v]])) (slh_set (v := .ptr 2 0) (slh_set (v := .ptr 1 0) (slh_no _ _) (by rfl) rfl) (by rfl) rfl) (by rfl) rfl) (hC_hlh rfl rfl rfl rfl (o70_no (Nat.zero_le _)).symm rfl (Nat.zero_le _) rfl (.inl (Nat.zero_le _)))) ?_
 refine CW_rangeHS hE hF (allTS1 s v _ hv) rfl rfl rfl (ysI_kf encT s) rfl 9 (G2 := 60) rfl (kfs_dd _) (fun i => (hC 24 72 69 s fl v V q (i))) (fun i => i ≤ s.length) rfl (fun _ => rfl) (Nat.zero_le _) (fun F' n' Z' Br Bb hE hB vs i args hargs hp => ?_) (fun vs i hp Z K J' ι w mm => see_row mm (k := 50) (G := 60) (cs' := ccC q i 0 s fl) rfl rfl (fun j u hj hu => ccC_see j u hfl (by omega) hu)) (fun hp vs => ?_)
 ·
  obtain ⟨t, ht, rfl⟩ := ysI_of hargs
  have hlt := (List.getElem?_eq_some_iff.1 ht).1
  by_cases hiq : i = q
  ·
   subst hiq
   refine CW_seq ?_
   refine CW_region ?_
   refine OW_run' hE.ok 1 rfl ?_
   refine OW_end rfl ?_
   refine CW_region ?_
   refine OW_alloc' hE 3 rfl rfl rfl rfl rfl rfl rfl ?_
   refine OW_store' hE rfl rfl rfl rfl rfl rfl rfl rfl rfl rfl rfl rfl ?_
   refine OW_end rfl ?_
   refine ⟨rfl, rfl, ?_⟩
   refine CW_block ?_
   refine CW.le (show LE _ _ ⟨Bb J, (sset (sset (sset noSlots 3 (.ptr 2 0)) 4 (.d (int ((i : Nat) : Int)))) 5 (.ptr 3 0)), hset (hset (hCn 24 72 s fl v V i i) 9 (some (.ghost _ vs))) 3 (some (.box 72 ((encT t).map .d)))⟩ from LE_sh (slh_set (v := .ptr 3 0) (slh_set (v := .d (int ((i : Nat) : Int))) (slh_set (v := .ptr 2 0) (slh_no _ _) (by rfl) rfl) (by rfl) rfl) (by rfl) rfl) (hlh_set (hlh_set (hCn_hlh rfl rfl rfl rfl rfl rfl (Nat.le_refl _)) rfl rfl) rfl rfl)) ?_
   refine CW_drawnG hE 6 [(5, 70, .row 69 2 (t.fields.map encF))] (by decide +kernel) rfl ?_
   refine HG_run hE 5 rfl rfl rfl rfl ?_
   refine HG_own hE (cloneF t.fields) rfl rfl rfl rfl rfl rfl rfl rfl ?_
   refine HG_end ?_
   refine OW_loc' hE (loc_idxRowA hE rfl rfl rfl rfl rfl (j := i) rfl hlt) rfl rfl rfl ?_
   refine OW_run' hE.ok 1 rfl ?_
   refine OW_storeRowA' hE rfl rfl rfl rfl rfl (q := i * 2 + 1) rfl rfl rfl rfl rfl rfl (by rw [ccC_len hfl]; show i * 2 + 1 + 1 ≤ _; omega) (ccC_put0 hfl ht (by rw [if_pos rfl]; rfl)) ?_
   refine OW_end rfl ?_
   exact ⟨⟨Bb J, noSlots, hset (hC 24 72 69 s fl v V i (i + 1)) 9 (some (.ghost _ vs))⟩, LE_sh (slh_no _ _) (hlh_set (hC_hlh rfl rfl rfl rfl ((o70_at ht).symm) rfl hlt rfl (hC9_70 hlt)) rfl rfl), J, rfl, rfl, rfl, hlt⟩
  ·
   -- i ≠ q
   refine CW_seq ?_
   refine CW_region ?_
   refine OW_run' hE.ok 1 rfl ?_
   refine OW_end rfl ?_
   refine CW_region ?_
   refine OW_alloc' hE 3 rfl rfl rfl rfl rfl rfl rfl ?_
   refine OW_store' hE rfl rfl rfl rfl rfl rfl rfl rfl rfl rfl rfl rfl ?_
   refine OW_end rfl ?_
   refine ⟨rfl, rfl, ?_⟩
   refine CW_block ?_
   refine CW_drawn' hE 6 (by decide +kernel) ?_
   refine HW_run hE 5 rfl rfl ?_
   refine HW_call hE (cloneFd t.fields) rfl rfl rfl rfl rfl rfl rfl rfl ?_
   refine HW_end ?_
   refine OW_loc' hE (loc_idxRowA hE rfl rfl rfl rfl rfl (j := i) rfl hlt) rfl rfl rfl ?_
   refine OW_run' hE.ok 1 rfl ?_
   refine OW_storeRowA' hE rfl rfl rfl rfl rfl (q := i * 2 + 1) rfl rfl rfl rfl rfl rfl (by rw [ccC_len hfl]; show i * 2 + 1 + 1 ≤ _; omega) (ccC_put0 hfl ht (by rw [if_neg hiq]; rfl)) ?_
   refine OW_end rfl ?_
   exact ⟨⟨Bb J, noSlots, hset (hC 24 72 69 s fl v V q (i + 1)) 9 (some (.ghost _ vs))⟩, LE_sh (slh_no _ _) (hlh_set (hC_hlh rfl rfl rfl rfl ((o70_ne hiq).symm) rfl hlt rfl (hC9_70 hlt)) rfl rfl), J, rfl, rfl, rfl, hlt⟩
 ·
  refine CW_seq ?_
  refine CW_region ?_
  refine OW_run' hE.ok 1 rfl ?_
  refine OW_store' hE rfl rfl rfl rfl rfl rfl rfl rfl rfl rfl rfl rfl ?_
  refine OW_end rfl ?_
  exact CW_ret ⟨.inr rfl, rfl, ⟨_, rfl, AVle.refl _⟩, copL_all (i := (ysI encT s).length) (ysI_length encT s) hfl rfl rfl, rfl⟩
end Go.Proofs.YtchpllgeahnmmaaDoor
namespace Go.Proofs.YtchpllgeahnmmaaDoor
open Go Go.AL
set_option linter.unusedVariables false
set_option linter.unusedSimpArgs false
set_option maxHeartbeats 4000000
theorem delF (l : List Fld) (k : Nat) (hk : k < l.length) (hl : l.length ≤ 140737488355328) : DoesM Tryd.prog 85 [(7, .row 69 2 (l.map encF))] [.row 7, .d (int ((k : Nat) : Int)), .d (int ((k + 1 : Nat) : Int))] (.row 7) [(7, .row 69 2 ((l.eraseIdx k).map encF))] [] := by
 refine DoesM_of T_ok mixed (N := 33) Tryd.func85 rfl rfl rfl (by rfl) rfl rfl rfl rfl rfl rfl fun F n Z hE hF J V => ?_
 obtain ⟨m, hm⟩ : ∃ m, l.length = m + 1 := ⟨l.length - 1, by omega⟩
 obtain ⟨xs, hxs⟩ : ∃ xs, l.map encF = xs := ⟨_, rfl⟩
 have hxl : xs.length = m + 1 := by rw [← hxs, List.length_map, hm]
 have hfin : (delX xs k (k + 1)).take m = (l.eraseIdx k).map encF := by rw [← hxs]; exact del_take hm hk
 rw [hxs]
 refine CW_seq ?_
 refine CW_region ?_
 refine OW_run' hE.ok 1 rfl ?_
 refine OW_end rfl ?_
 refine CW_seq ?_
 refine CW_region ?_
 refine OW_run' hE.ok 4 rfl ?_
 refine OW_run' hE.ok 1 rfl ?_
 refine OW_loc' hE (loc_checkRow hE rfl rfl rfl rfl rfl rfl rfl rfl (Nat.le_succ k) (by omega)) rfl rfl rfl ?_
 refine OW_end rfl ?_
 refine CW_seq ?_
 refine CW_seq ?_
 refine CW_region ?_
 refine OW_run' hE.ok 3 rfl ?_
 refine OW_as' 16 (.d (boo false)) (by refine congrArg (fun b => AV.d (boo b)) ?_; show (((k : Nat) : Int) == ((k + 1 : Nat) : Int)) = false; rw [beq_eq_false_iff_ne]; omega) ?_
 refine OW_end rfl ?_
 refine CW_false rfl ?_
 refine CW_skip ?_
 refine CW_seq ?_
 refine CW_region ?_
 refine OW_run' hE.ok 3 rfl ?_
 refine OW_as' 7 (.d (int ((m + 1 : Nat) : Int))) (by show AV.d (.lit (.int .i64 (xs.length : Int))) = _; rw [hxl]; rfl) ?_
 refine OW_end rfl ?_
 refine CW_seq ?_
 refine CW_drawn' hE 6 (by decide +kernel) ?_
 refine HW_run hE 2 rfl rfl ?_
 refine HW_loc hE (loc_headRow hE rfl rfl rfl rfl rfl rfl (by omega) (by omega)) rfl rfl rfl rfl ?_
 refine HW_run hE 2 rfl rfl ?_
 refine HW_loc hE (loc_tailRow hE rfl rfl rfl rfl rfl rfl rfl (by omega)) rfl rfl rfl rfl ?_
 refine HW_end ?_
 refine OW_appendTail' hE rfl rfl rfl rfl rfl rfl rfl rfl (Nat.le_succ k) (by omega) (by omega) rfl ?_
 refine OW_as' 26 (.view 7 0 m) (congrArg (fun z => AV.view 7 0 z) (by omega)) ?_
 refine OW_run' hE.ok 1 rfl ?_
 refine OW_end rfl ?_
 refine CW_seq ?_
 refine CW_region ?_
 refine OW_run' hE.ok 2 rfl ?_
 refine OW_loc' hE (loc_lenView hE rfl rfl rfl (by omega)) rfl rfl rfl ?_
 refine OW_run' hE.ok 1 rfl ?_
 have hdl : (delX xs k (k + 1)).length = m + 1 := by rw [delX_len (Nat.le_succ k) (by omega), hxl]
 refine OW_loc' hE (loc_partView hE rfl rfl rfl rfl rfl rfl rfl rfl (l := m) (u := m + 1) (Nat.lt_succ_self m) (by omega)) rfl rfl rfl ?_
 refine OW_as' 31 (.view 7 (m * 2) 1) (congrArg (fun z => AV.view 7 (m * 2) z) (by omega)) ?_
 refine OW_clearView' hE (zs := [str nul, int 0]) rfl rfl rfl rfl rfl rfl rfl rfl rfl rfl (by omega) (by omega) ?_
 refine OW_end rfl ?_
 refine CW_seq ?_
 refine CW_region ?_
 refine OW_run' hE.ok 2 rfl ?_
 refine OW_end rfl ?_
 refine CW.le (LE_viewRow 6 rfl rfl (by simp; omega) (by simp; omega) (xs' := (l.eraseIdx k).map encF) (by rw [← hfin, List.append_assoc, List.take_append_of_le_length (by simp; omega), List.take_take, Nat.min_self])) ?_
 exact CW_ret ⟨.inr rfl, rfl, ⟨_, rfl, AVle.refl _⟩, ⟨rfl, trivial⟩, rfl⟩
theorem delV (l : List Vl) (k : Nat) (hk : k < l.length) (hl : l.length ≤ 140737488355328) : DoesM Tryd.prog 60 [(7, .row 31 3 (l.map encV))] [.row 7, .d (int ((k : Nat) : Int)), .d (int ((k + 1 : Nat) : Int))] (.row 7) [(7, .row 31 3 ((l.eraseIdx k).map encV))] [] := by
 refine DoesM_of T_ok mixed (N := 33) Tryd.func60 rfl rfl rfl (by rfl) rfl rfl rfl rfl rfl rfl fun F n Z hE hF J V => ?_
 obtain ⟨m, hm⟩ : ∃ m, l.length = m + 1 := ⟨l.length - 1, by omega⟩
 obtain ⟨xs, hxs⟩ : ∃ xs, l.map encV = xs := ⟨_, rfl⟩
 have hxl : xs.length = m + 1 := by rw [← hxs, List.length_map, hm]
 have hfin : (delX xs k (k + 1)).take m = (l.eraseIdx k).map encV := by rw [← hxs]; exact del_take hm hk
 rw [hxs]
 refine CW_seq ?_
 refine CW_region ?_
 refine OW_run' hE.ok 1 rfl ?_
 refine OW_end rfl ?_
 refine CW_seq ?_
 refine CW_region ?_
 refine OW_run' hE.ok 4 rfl ?_
 refine OW_run' hE.ok 1 rfl ?_
 refine OW_loc' hE (loc_checkRow hE rfl rfl rfl rfl rfl rfl rfl rfl (Nat.le_succ k) (by omega)) rfl rfl rfl ?_
 refine OW_end rfl ?_
 refine CW_seq ?_
 refine CW_seq ?_
 refine CW_region ?_
 refine OW_run' hE.ok 3 rfl ?_
 refine OW_as' 16 (.d (boo false)) (by refine congrArg (fun b => AV.d (boo b)) ?_; show (((k : Nat) : Int) == ((k + 1 : Nat) : Int)) = false; rw [beq_eq_false_iff_ne]; omega) ?_
 refine OW_end rfl ?_
 refine CW_false rfl ?_
 refine CW_skip ?_
 refine CW_seq ?_
 refine CW_region ?_
 refine OW_run' hE.ok 3 rfl ?_
 refine OW_as' 7 (.d (int ((m + 1 : Nat) : Int))) (by show AV.d (.lit (.int .i64 (xs.length : Int))) = _; rw [hxl]; rfl) ?_
 refine OW_end rfl ?_
 refine CW_seq ?_
 refine CW_drawn' hE 6 (by decide +kernel) ?_
 refine HW_run hE 2 rfl rfl ?_
 refine HW_loc hE (loc_headRow hE rfl rfl rfl rfl rfl rfl (by omega) (by omega)) rfl rfl rfl rfl ?_
 refine HW_run hE 2 rfl rfl ?_
 refine HW_loc hE (loc_tailRow hE rfl rfl rfl rfl rfl rfl rfl (by omega)) rfl rfl rfl rfl ?_
 refine HW_end ?_
 refine OW_appendTail' hE rfl rfl rfl rfl rfl rfl rfl rfl (Nat.le_succ k) (by omega) (by omega) rfl ?_
 refine OW_as' 26 (.view 7 0 m) (congrArg (fun z => AV.view 7 0 z) (by omega)) ?_
 refine OW_run' hE.ok 1 rfl ?_
 refine OW_end rfl ?_
 refine CW_seq ?_
 refine CW_region ?_
 refine OW_run' hE.ok 2 rfl ?_
 refine OW_loc' hE (loc_lenView hE rfl rfl rfl (by omega)) rfl rfl rfl ?_
 refine OW_run' hE.ok 1 rfl ?_
 have hdl : (delX xs k (k + 1)).length = m + 1 := by rw [delX_len (Nat.le_succ k) (by omega), hxl]
 refine OW_loc' hE (loc_partView hE rfl rfl rfl rfl rfl rfl rfl rfl (l := m) (u := m + 1) (Nat.lt_succ_self m) (by omega)) rfl rfl rfl ?_
 refine OW_as' 31 (.view 7 (m * 3) 1) (congrArg (fun z => AV.view 7 (m * 3) z) (by omega)) ?_
 refine OW_clearView' hE (zs := [int 0, int 0, str nul]) rfl rfl rfl rfl rfl rfl rfl rfl rfl rfl (by omega) (by omega) ?_
 refine OW_end rfl ?_
 refine CW_seq ?_
 refine CW_region ?_
 refine OW_run' hE.ok 2 rfl ?_
 refine OW_end rfl ?_
 refine CW.le (LE_viewRow 6 rfl rfl (by simp; omega) (by simp; omega) (xs' := (l.eraseIdx k).map encV) (by rw [← hfin, List.append_assoc, List.take_append_of_le_length (by simp; omega), List.take_take, Nat.min_self])) ?_
 exact CW_ret ⟨.inr rfl, rfl, ⟨_, rfl, AVle.refl _⟩, ⟨rfl, trivial⟩, rfl⟩
end Go.Proofs.YtchpllgeahnmmaaDoor
namespace Go.Proofs.YtchpllgeahnmmaaDoor
open Go Go.AL
set_option linter.unusedVariables false
set_option linter.unusedSimpArgs false
set_option maxHeartbeats 4000000
theorem ownOk (c : Chg) : Does Tryd.prog 52 [argC c] noHeap (argC (ownC c)) := by
 refine Does_of T_ok mixed (N := 34) Tryd.func52 rfl rfl rfl (by rfl) fun F n Z hE hF J => ?_
 refine CW_seq ?_
 refine CW_region ?_
 refine OW_run' hE.ok 1 rfl ?_
 refine OW_alloc' hE 1 rfl rfl rfl rfl rfl rfl rfl ?_
 refine OW_end rfl ?_
 refine CW_seq ?_
 refine CW_region ?_
 refine OW_run' hE.ok 4 rfl ?_
 refine OW_build' hE rfl rfl rfl rfl rfl ?_
 refine OW_alloc' hE 2 rfl rfl rfl rfl rfl rfl rfl ?_
 refine OW_store' hE rfl rfl rfl rfl rfl rfl rfl rfl rfl rfl rfl rfl ?_
 refine OW_end rfl ?_
 refine CW_cutE (fun _ : Unit => ⟨J, (sset (sset noSlots 2 (.ptr 1 0)) 3 (.ptr 2 0)), (hset (hset noHeap 1 (some (.box 43 [.d (int 0), .d (str nul), .d (str nul), .d (str nul), .d (int 0), .d (int 0), .d (str nul)]))) 2 (some (.box 43 ((encC (ownC c)).map .d))))⟩) (fun _ => True) ?_ ?_
 ·
  refine CW_seq ?_
  refine CW_region ?_
  refine OW_run' hE.ok 2 rfl ?_
  refine OW_end rfl ?_
  refine CW_block ?_
  refine CW_seq ?_
  refine CW_region ?_
  refine OW_run' hE.ok 2 rfl ?_
  refine OW_end rfl ?_
  refine CW_cond _ rfl (fun h1 => ?_) (fun h1 => ?_)
  ·
   have a1 : (c.kind == 1) = true := h1
   refine CW.le (show LE _ _ ⟨J, (sset (sset (sset noSlots 1 (.d (.iptr (encC c)))) 2 (.ptr 1 0)) 3 (.ptr 2 0)), (hset (hset noHeap 1 (some (.box 43 [.d (int 0), .d (str nul), .d (str nul), .d (str nul), .d (int 0), .d (int 0), .d (str nul)]))) 2 (some (.box 43 [.d (int c.kind), .d (str c.ty), .d (str nul), .d (str nul), .d (int 0), .d (int 0), .d (str nul)])))⟩ from LE_sh (slh_set (v := .ptr 2 0) (slh_set (v := .ptr 1 0) (slh_set (v := .d (.iptr (encC c))) (slh_no _ _) (by rfl) rfl) (by rfl) rfl) (by rfl) rfl) (hlh_set (hlh_set (hlh_no _ _) rfl rfl) rfl rfl)) ?_
   refine CW_drawnR hE 6 5 1000 (h1 := hset (hset (hset noHeap 1 (some (.box 43 [.d (int 0), .d (str nul), .d (str nul), .d (str nul), .d (int 0), .d (int 0), .d (str nul)]))) 2 (some (.box 43 [.d (int c.kind), .d (str c.ty), .d (str nul), .d (str nul), .d (int 0), .d (int 0), .d (str nul)]))) 2 (some (.box 43 [.d (int c.kind), .d (str c.ty), .d (str c.fld), .d (str nul), .d (int 0), .d (int 0), .d (str nul)]))) (by decide +kernel) rfl (by repeat (first | exact nokeyS_no _ | refine nokeyS_set ?_ rfl)) ?_
   refine HR_run hE 5 (h0 := noHeap) noHeap_no noHeap_no rfl rfl rfl ?_
   refine HR_store hE rfl rfl rfl rfl rfl rfl rfl rfl rfl rfl rfl rfl rfl rfl rfl ?_
   refine HR_end ?_
   refine OW_run' hE.ok 1 rfl ?_
   refine OW_store' hE rfl rfl rfl rfl rfl rfl rfl rfl rfl rfl rfl rfl ?_
   refine OW_end rfl ?_
   exact ⟨(), trivial, LE_sh (slh_set (v := .ptr 2 0) (slh_set (v := .ptr 1 0) (slh_no _ _) (by rfl) rfl) (by rfl) rfl) (hlh_set (hlh_set (hlh_no _ _) rfl rfl) (by exact congrArg (fun z : List D => some (Ent.box 43 (z.map AV.d))) (own_1 a1)) rfl)⟩
  ·
   have a1 : (c.kind == 1) = false := h1
   refine CW_seq ?_
   refine CW_seq ?_
   refine CW_region ?_
   refine OW_run' hE.ok 2 rfl ?_
   refine OW_end rfl ?_
   refine CW_cond _ rfl (fun h2 => ?_) (fun h2 => ?_)
   ·
    first | have a2 : (c.kind == 2) = true := h2 | have a4 : (c.kind == 4) = true := h2
    refine CW_as' 19 (.d (boo true)) (congrArg (fun b => AV.d (boo b)) h2) ?_
    refine CW_skip ?_
    refine CW_true rfl ?_
    refine CW_region ?_
    refine OW_run' hE.ok 3 rfl ?_
    refine OW_store' hE rfl rfl rfl rfl rfl rfl rfl rfl rfl rfl rfl rfl ?_
    refine OW_end rfl ?_
    exact ⟨(), trivial, LE_sh (slh_set (v := .ptr 2 0) (slh_set (v := .ptr 1 0) (slh_no _ _) (by rfl) rfl) (by rfl) rfl) (hlh_set (hlh_set (hlh_no _ _) rfl rfl) (by exact congrArg (fun z : List D => some (Ent.box 43 (z.map AV.d))) (own_2 a1 a2)) rfl)⟩
   ·
    first | have a2 : (c.kind == 2) = false := h2 | have a4 : (c.kind == 4) = false := h2
    refine CW_region ?_
    refine OW_run' hE.ok 2 rfl ?_
    refine OW_end rfl ?_
    refine CW_cond _ rfl (fun h3 => ?_) (fun h3 => ?_)
    ·
     first | have a2 : (c.kind == 2) = true := h3 | have a4 : (c.kind == 4) = true := h3
     refine CW_as' 19 (.d (boo true)) (congrArg (fun b => AV.d (boo b)) h3) ?_
     refine CW_region ?_
     refine OW_run' hE.ok 3 rfl ?_
     refine OW_store' hE rfl rfl rfl rfl rfl rfl rfl rfl rfl rfl rfl rfl ?_
     refine OW_end rfl ?_
     exact ⟨(), trivial, LE_sh (slh_set (v := .ptr 2 0) (slh_set (v := .ptr 1 0) (slh_no _ _) (by rfl) rfl) (by rfl) rfl) (hlh_set (hlh_set (hlh_no _ _) rfl rfl) (by exact congrArg (fun z : List D => some (Ent.box 43 (z.map AV.d))) (own_4 a1 a2 a4)) rfl)⟩
    ·
     first | have a2 : (c.kind == 2) = false := h3 | have a4 : (c.kind == 4) = false := h3
     refine CW_seq ?_
     refine CW_region ?_
     refine OW_run' hE.ok 2 rfl ?_
     refine OW_end rfl ?_
     refine CW_cond _ rfl (fun h4 => ?_) (fun h4 => ?_)
     ·
      have a3 : (c.kind == 3) = true := h4
      refine CW.le (show LE _ _ ⟨J, (sset (sset (sset noSlots 1 (.d (.iptr (encC c)))) 2 (.ptr 1 0)) 3 (.ptr 2 0)), (hset (hset noHeap 1 (some (.box 43 [.d (int 0), .d (str nul), .d (str nul), .d (str nul), .d (int 0), .d (int 0), .d (str nul)]))) 2 (some (.box 43 [.d (int c.kind), .d (str c.ty), .d (str nul), .d (str nul), .d (int 0), .d (int 0), .d (str nul)])))⟩ from LE_sh (slh_set (v := .ptr 2 0) (slh_set (v := .ptr 1 0) (slh_set (v := .d (.iptr (encC c))) (slh_no _ _) (by rfl) rfl) (by rfl) rfl) (by rfl) rfl) (hlh_set (hlh_set (hlh_no _ _) rfl rfl) rfl rfl)) ?_
      refine CW_drawnR hE 6 5 1000 (h1 := hset (hset (hset noHeap 1 (some (.box 43 [.d (int 0), .d (str nul), .d (str nul), .d (str nul), .d (int 0), .d (int 0), .d (str nul)]))) 2 (some (.box 43 [.d (int c.kind), .d (str c.ty), .d (str nul), .d (str nul), .d (int 0), .d (int 0), .d (str nul)]))) 2 (some (.box 43 [.d (int c.kind), .d (str c.ty), .d (str c.fld), .d (str nul), .d (int 0), .d (int 0), .d (str nul)]))) (by decide +kernel) rfl (by repeat (first | exact nokeyS_no _ | refine nokeyS_set ?_ rfl)) ?_
      refine HR_run hE 5 (h0 := noHeap) noHeap_no noHeap_no rfl rfl rfl ?_
      refine HR_store hE rfl rfl rfl rfl rfl rfl rfl rfl rfl rfl rfl rfl rfl rfl rfl ?_
      refine HR_end ?_
      refine OW_run' hE.ok 1 rfl ?_
      refine OW_store' hE rfl rfl rfl rfl rfl rfl rfl rfl rfl rfl rfl rfl ?_
      refine OW_end rfl ?_
      exact ⟨(), trivial, LE_sh (slh_set (v := .ptr 2 0) (slh_set (v := .ptr 1 0) (slh_no _ _) (by rfl) rfl) (by rfl) rfl) (hlh_set (hlh_set (hlh_no _ _) rfl rfl) (by exact congrArg (fun z : List D => some (Ent.box 43 (z.map AV.d))) (own_3 a1 a2 a4 a3)) rfl)⟩
     ·
      have a3 : (c.kind == 3) = false := h4
      refine CW_skip ?_
      exact ⟨(), trivial, LE_sh (slh_set (v := .ptr 2 0) (slh_set (v := .ptr 1 0) (slh_no _ _) (by rfl) rfl) (by rfl) rfl) (hlh_set (hlh_set (hlh_no _ _) rfl rfl) (by exact congrArg (fun z : List D => some (Ent.box 43 (z.map AV.d))) (own_0 a1 a2 a4 a3)) rfl)⟩
 ·
  rintro _ _
  refine CW_seq ?_
  refine CW_region ?_
  refine OW_run' hE.ok 1 rfl ?_
  refine OW_store' hE rfl rfl rfl rfl rfl rfl rfl rfl rfl rfl rfl rfl ?_
  refine OW_end rfl ?_
  refine CW_ret ?_
  refine ⟨.inr rfl, rfl, ⟨_, rfl, rfl, ?_⟩, rfl⟩
  exact AVle.refl _
end Go.Proofs.YtchpllgeahnmmaaDoor
namespace Go.Proofs.YtchpllgeahnmmaaDoor
open Go Go.AL
set_option linter.unusedVariables false
set_option linter.unusedSimpArgs false
set_option maxHeartbeats 4000000
theorem backOk (c : Chg) (f : ByteArray) : Does Tryd.prog 22 [argC c, .d (str f)] noHeap (.tup [.d (str (backX c f).1), .d (boo (backX c f).2)]) := by
 refine Does_of T_ok mixed (N := 29) Tryd.func22 rfl rfl rfl (by rfl) fun F n Z hE hF J => ?_
 refine CW_seq ?_
 refine CW_region ?_
 refine OW_run' hE.ok 3 rfl ?_
 refine OW_end rfl ?_
 refine CW_seq ?_
 refine CW_block ?_
 refine CW_seq ?_
 refine CW_region ?_
 refine OW_run' hE.ok 4 rfl ?_
 refine OW_split' 10 rfl (fun h1 => ?_) (fun h1 => ?_)
 ·
  have a1 : (c.kind == 3) = true := h1
  refine OW_run' hE.ok 6 rfl ?_
  refine OW_end rfl ?_
  refine CW_cond _ rfl (fun h2 => ?_) (fun h2 => ?_)
  ·
   have a2 : same f c.to = true := h2
   refine CW_seq ?_
   refine CW_region ?_
   refine OW_run' hE.ok 4 rfl ?_
   refine OW_end rfl ?_
   refine CW_ret ?_
   refine ⟨.inr rfl, rfl, ⟨_, rfl, rfl, ?_⟩, rfl⟩
   rw [back_1 a1 a2]
   exact AVle.refl _
  ·
   have a2 : same f c.to = false := h2
   refine CW_seq ?_
   refine CW_region ?_
   refine OW_run' hE.ok 4 rfl ?_
   refine OW_split' 22 rfl (fun h3 => ?_) (fun h3 => ?_)
   ·
    have a3 : (c.kind == 1) = true := h3
    refine OW_run' hE.ok 6 rfl ?_
    refine OW_end rfl ?_
    refine CW_cond _ rfl (fun h4 => ?_) (fun h4 => ?_)
    ·
     have a4 : same f c.fld = true := h4
     refine CW_seq ?_
     refine CW_region ?_
     refine OW_run' hE.ok 2 rfl ?_
     refine OW_end rfl ?_
     refine CW_ret ?_
     refine ⟨.inr rfl, rfl, ⟨_, rfl, rfl, ?_⟩, rfl⟩
     rw [back_2 (.inr a2) a3 a4]
     exact AVle.refl _
    ·
     have a4 : same f c.fld = false := h4
     refine CW_skip ?_
     refine CW_seq ?_
     refine CW_region ?_
     refine OW_run' hE.ok 3 rfl ?_
     refine OW_end rfl ?_
     refine CW_ret ?_
     refine ⟨.inr rfl, rfl, ⟨_, rfl, rfl, ?_⟩, rfl⟩
     rw [back_3 (.inr a2) (.inr a4)]
     exact AVle.refl _
   ·
    have a3 : (c.kind == 1) = false := h3
    refine OW_run' hE.ok 6 rfl ?_
    refine OW_end rfl ?_
    refine CW_false rfl ?_
    refine CW_skip ?_
    refine CW_seq ?_
    refine CW_region ?_
    refine OW_run' hE.ok 3 rfl ?_
    refine OW_end rfl ?_
    refine CW_ret ?_
    refine ⟨.inr rfl, rfl, ⟨_, rfl, rfl, ?_⟩, rfl⟩
    rw [back_3 (.inr a2) (.inl a3)]
    exact AVle.refl _
 ·
  have a1 : (c.kind == 3) = false := h1
  refine OW_run' hE.ok 6 rfl ?_
  refine OW_end rfl ?_
  refine CW_false rfl ?_
  refine CW_seq ?_
  refine CW_region ?_
  refine OW_run' hE.ok 4 rfl ?_
  refine OW_split' 22 rfl (fun h5 => ?_) (fun h5 => ?_)
  ·
   have a3 : (c.kind == 1) = true := h5
   refine OW_run' hE.ok 6 rfl ?_
   refine OW_end rfl ?_
   refine CW_cond _ rfl (fun h6 => ?_) (fun h6 => ?_)
   ·
    have a4 : same f c.fld = true := h6
    refine CW_seq ?_
    refine CW_region ?_
    refine OW_run' hE.ok 2 rfl ?_
    refine OW_end rfl ?_
    refine CW_ret ?_
    refine ⟨.inr rfl, rfl, ⟨_, rfl, rfl, ?_⟩, rfl⟩
    rw [back_2 (.inl a1) a3 a4]
    exact AVle.refl _
   ·
    have a4 : same f c.fld = false := h6
    refine CW_skip ?_
    refine CW_seq ?_
    refine CW_region ?_
    refine OW_run' hE.ok 3 rfl ?_
    refine OW_end rfl ?_
    refine CW_ret ?_
    refine ⟨.inr rfl, rfl, ⟨_, rfl, rfl, ?_⟩, rfl⟩
    rw [back_3 (.inl a1) (.inr a4)]
    exact AVle.refl _
  ·
   have a3 : (c.kind == 1) = false := h5
   refine OW_run' hE.ok 6 rfl ?_
   refine OW_end rfl ?_
   refine CW_false rfl ?_
   refine CW_skip ?_
   refine CW_seq ?_
   refine CW_region ?_
   refine OW_run' hE.ok 3 rfl ?_
   refine OW_end rfl ?_
   refine CW_ret ?_
   refine ⟨.inr rfl, rfl, ⟨_, rfl, rfl, ?_⟩, rfl⟩
   rw [back_3 (.inl a1) (.inl a3)]
   exact AVle.refl _
theorem refBackOk (c : Chg) (f : ByteArray) : Does Tryd.prog 23 [argC c, .d (str f)] noHeap (.tup [.d (str (backX c f).1), .d (boo (backX c f).2)]) := by
 refine Does_of T_ok mixed (N := 29) Tryd.func23 rfl rfl rfl (by rfl) fun F n Z hE hF J => ?_
 refine CW_seq ?_
 refine CW_region ?_
 refine OW_run' hE.ok 3 rfl ?_
 refine OW_end rfl ?_
 refine CW_seq ?_
 refine CW_block ?_
 refine CW_seq ?_
 refine CW_region ?_
 refine OW_run' hE.ok 4 rfl ?_
 refine OW_split' 10 rfl (fun h1 => ?_) (fun h1 => ?_)
 ·
  have a1 : (c.kind == 3) = true := h1
  refine OW_run' hE.ok 6 rfl ?_
  refine OW_end rfl ?_
  refine CW_cond _ rfl (fun h2 => ?_) (fun h2 => ?_)
  ·
   have a2 : same f c.to = true := h2
   refine CW_seq ?_
   refine CW_region ?_
   refine OW_run' hE.ok 4 rfl ?_
   refine OW_end rfl ?_
   refine CW_ret ?_
   refine ⟨.inr rfl, rfl, ⟨_, rfl, rfl, ?_⟩, rfl⟩
   rw [back_1 a1 a2]
   exact AVle.refl _
  ·
   have a2 : same f c.to = false := h2
   refine CW_seq ?_
   refine CW_region ?_
   refine OW_run' hE.ok 4 rfl ?_
   refine OW_split' 22 rfl (fun h3 => ?_) (fun h3 => ?_)
   ·
    have a3 : (c.kind == 1) = true := h3
    refine OW_run' hE.ok 6 rfl ?_
    refine OW_end rfl ?_
    refine CW_cond _ rfl (fun h4 => ?_) (fun h4 => ?_)
    ·
     have a4 : same f c.fld = true := h4
     refine CW_seq ?_
     refine CW_region ?_
     refine OW_run' hE.ok 2 rfl ?_
     refine OW_end rfl ?_
     refine CW_ret ?_
     refine ⟨.inr rfl, rfl, ⟨_, rfl, rfl, ?_⟩, rfl⟩
     rw [back_2 (.inr a2) a3 a4]
     exact AVle.refl _
    ·
     have a4 : same f c.fld = false := h4
     refine CW_skip ?_
     refine CW_seq ?_
     refine CW_region ?_
     refine OW_run' hE.ok 3 rfl ?_
     refine OW_end rfl ?_
     refine CW_ret ?_
     refine ⟨.inr rfl, rfl, ⟨_, rfl, rfl, ?_⟩, rfl⟩
     rw [back_3 (.inr a2) (.inr a4)]
     exact AVle.refl _
   ·
    have a3 : (c.kind == 1) = false := h3
    refine OW_run' hE.ok 6 rfl ?_
    refine OW_end rfl ?_
    refine CW_false rfl ?_
    refine CW_skip ?_
    refine CW_seq ?_
    refine CW_region ?_
    refine OW_run' hE.ok 3 rfl ?_
    refine OW_end rfl ?_
    refine CW_ret ?_
    refine ⟨.inr rfl, rfl, ⟨_, rfl, rfl, ?_⟩, rfl⟩
    rw [back_3 (.inr a2) (.inl a3)]
    exact AVle.refl _
 ·
  have a1 : (c.kind == 3) = false := h1
  refine OW_run' hE.ok 6 rfl ?_
  refine OW_end rfl ?_
  refine CW_false rfl ?_
  refine CW_seq ?_
  refine CW_region ?_
  refine OW_run' hE.ok 4 rfl ?_
  refine OW_split' 22 rfl (fun h5 => ?_) (fun h5 => ?_)
  ·
   have a3 : (c.kind == 1) = true := h5
   refine OW_run' hE.ok 6 rfl ?_
   refine OW_end rfl ?_
   refine CW_cond _ rfl (fun h6 => ?_) (fun h6 => ?_)
   ·
    have a4 : same f c.fld = true := h6
    refine CW_seq ?_
    refine CW_region ?_
    refine OW_run' hE.ok 2 rfl ?_
    refine OW_end rfl ?_
    refine CW_ret ?_
    refine ⟨.inr rfl, rfl, ⟨_, rfl, rfl, ?_⟩, rfl⟩
    rw [back_2 (.inl a1) a3 a4]
    exact AVle.refl _
   ·
    have a4 : same f c.fld = false := h6
    refine CW_skip ?_
    refine CW_seq ?_
    refine CW_region ?_
    refine OW_run' hE.ok 3 rfl ?_
    refine OW_end rfl ?_
    refine CW_ret ?_
    refine ⟨.inr rfl, rfl, ⟨_, rfl, rfl, ?_⟩, rfl⟩
    rw [back_3 (.inl a1) (.inr a4)]
    exact AVle.refl _
  ·
   have a3 : (c.kind == 1) = false := h5
   refine OW_run' hE.ok 6 rfl ?_
   refine OW_end rfl ?_
   refine CW_false rfl ?_
   refine CW_skip ?_
   refine CW_seq ?_
   refine CW_region ?_
   refine OW_run' hE.ok 3 rfl ?_
   refine OW_end rfl ?_
   refine CW_ret ?_
   refine ⟨.inr rfl, rfl, ⟨_, rfl, rfl, ?_⟩, rfl⟩
   rw [back_3 (.inl a1) (.inl a3)]
   exact AVle.refl _
end Go.Proofs.YtchpllgeahnmmaaDoor
