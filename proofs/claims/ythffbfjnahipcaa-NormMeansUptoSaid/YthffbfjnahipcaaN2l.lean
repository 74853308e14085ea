/- Parts of an abstract logic over the kit's walks, and walks in it: N2l. -/
import Derived.Test.YthffbfjnahipcaaN2i
import Derived.Test.YthffbfjnahipcaaAe
import Derived.Test.YthffbfjnahipcaaX2p
namespace Go.Proofs.Ythffbfjnahipcaa
open Go Go.AL
set_option linter.unusedVariables false
set_option linter.unusedSimpArgs false
set_option maxHeartbeats 4000000
theorem mapLrow (l : List El) (k : Nat) (first cap : List D) (g : El → El) (hc : ∀ a ∈ l, Does Try.prog k (first.map .d ++ [.agg ((encL a).map .d)] ++ cap.map .d) noHeap (.agg ((encL (g a)).map .d))) : Does Try.prog 61 [.d (.sl 11 144 (l.map encL)), .d (.fn (.func k) first cap)] (oneRow 41 11 ((l.map g).map encL)) (.row 0) := by
  refine Does_ofRow T_ok mixed (N := 22) Try.func61 rfl rfl rfl (by rfl) fun F n Z hE hF J => ?_
  refine CW_know (know_sl (d := 0) rfl) fun hlen => ?_
  rw [List.length_map] at hlen
  refine CW_seq ?_
  refine CW_region ?_
  refine OW_run' hE.ok 1 rfl ?_
  refine OW_end rfl ?_
  refine CW_seq ?_
  refine CW_region ?_
  refine OW_run' hE.ok 1 rfl ?_
  refine OW.le (LE_nilSlot 5 50 41 11 rfl rfl) ?_
  refine OW_end rfl ?_
  refine CW_seq ?_
  refine CW_seq ?_
  refine CW_region ?_
  refine OW_run' hE.ok 3 rfl ?_
  refine OW_end rfl ?_
  refine CW_block ?_
  refine CW_loop (σ := {i : Nat // i ≤ l.length}) (fun i => ⟨J, (sset (sset (sset (sset (sset noSlots 1 (.d (.fn (.func k) first cap))) 5 (.row 50)) 8 (.d (.sl 11 144 (l.map encL)))) 9 (.d (int ((l.length : Nat) : Int)))) 10 (.d (int ((i.1 : Nat) : Int)))), (hset noHeap 50 (some (.row 41 11 (((l.take i.1).map g).map encL))))⟩) (fun i => l.length - i.1) ⟨0, Nat.zero_le _⟩ (LE_sh (slh_set (slh_set (slh_set (slh_set (slh_set (slh_no _ _) rfl rfl) rfl rfl) rfl rfl) (by show AV.d (.lit (.int .i64 ((l.map encL).length : Int))) = _; rw [List.length_map]; rfl) rfl) rfl rfl) (hlh_set (hlh_no _ _) rfl rfl)) fun ⟨i, hi⟩ => ?_
  refine CW_seq ?_
  refine CW_region ?_
  refine OW_run' hE.ok 1 rfl ?_
  refine OW_end rfl ?_
  refine CW_seq ?_
  refine CW_cond _ rfl (fun h1 => ?_) (fun h1 => ?_)
  · skip
    have hlt : i < l.length := by have := h1; simp at this; omega
    obtain ⟨a, ha⟩ : ∃ a, l[i]? = some a := ⟨_, List.getElem?_eq_getElem hlt⟩
    have hcall := hc a (List.mem_of_getElem? ha)
    have ha0 := ha
    obtain ⟨z1, z2, z3, z4, z5, z6, z7, z8, z9, hN⟩ := El.shape (g a)
    rw [hN] at hcall
    obtain ⟨y1, y2, y3, y4, y5, y6, y7, y8, y9, rfl⟩ := El.shape a
    refine CW_skip ?_
    refine CW_seq ?_
    refine CW_block ?_
    refine CW_seq ?_
    refine CW_region ?_
    refine OW_loc' hE (loc_indexAddr hE rfl rfl rfl rfl rfl (by omega) (x := encL ⟨y1, y2, y3, y4, .mk y5 y6 y7 y8 y9⟩) (by simp [ha])) rfl rfl rfl ?_
    refine OW_run' hE.ok 1 rfl ?_
    refine OW_alloc' hE 1 rfl rfl rfl rfl rfl rfl rfl ?_
    refine OW_store' hE rfl rfl rfl rfl rfl rfl rfl rfl rfl rfl rfl rfl ?_
    refine OW_end rfl ?_
    refine CW_region ?_
    refine OW_run' hE.ok 3 rfl ?_
    refine OW_call' hE (hcall) rfl rfl rfl rfl (kfs_fn rfl) rfl rfl ?_
    refine OW_lits' hE rfl rfl rfl rfl rfl rfl rfl rfl rfl rfl rfl rfl ?_
    refine OW_append' hE (key := 50) rfl rfl rfl rfl rfl rfl rfl rfl (.inl rfl) (by simp; omega) (by simp; omega) rfl ?_
    refine OW_run' hE.ok 1 rfl ?_
    refine OW_end rfl ?_
    refine CW_region ?_
    refine OW_run' hE.ok 2 rfl ?_
    refine OW_end rfl ?_
    exact ⟨⟨i + 1, by omega⟩, LE_sh (slh_set (v := .d (int ((i + 1 : Nat) : Int))) (slh_set (v := .d (int ((l.length : Nat) : Int))) (slh_set (v := .d (.sl 11 144 (l.map encL))) (slh_set (v := .row 50) (slh_set (v := .d (.fn (.func k) first cap)) (slh_no _ _) (by rfl) rfl) (by rfl) rfl) (by rfl) rfl) (by rfl) rfl) (by show AV.d (.lit (.int .i64 (IntKind.i64.wrap ((i : Int) + 1)))) = _; rw [wrap_succ (by omega)]; rfl) rfl) (hlh_set (hlh_no _ _) (congrArg (fun z => some (Ent.row 41 11 z)) (by rw [List.take_add_one, ha0, Option.toList_some, List.map_append, List.map_singleton, hN, List.map_append]; rfl)) rfl), by show l.length - (i + 1) < l.length - i; omega⟩
  · skip
    have hge : l.length ≤ i := by have := h1; simp at this; omega
    refine CW_exit ?_
    show CW _ _ _ _
    refine CW_seq ?_
    refine CW_region ?_
    refine OW_run' hE.ok 2 rfl ?_
    refine OW_end rfl ?_
    refine CW_ret ⟨.inr rfl, rfl, 50, rfl, ?_⟩
    show some (Ent.row 41 11 (((l.take i).map g).map encL)) = _
    rw [List.take_of_length_le hge]

theorem eq68 (a : El) (al : ByteArray) : Does Try.prog 68 [argL a, .d (.iptr [str al])] noHeap (.d (boo (same a.al al))) := by
  refine Does_of T_ok mixed (N := 8) Try.func68 rfl rfl rfl (by rfl) fun F n Z hE hF J => ?_
  obtain ⟨y1, y2, y3, y4, y5, y6, y7, y8, y9, rfl⟩ := El.shape a
  refine CW_seq ?_
  refine CW_region ?_
  refine OW_run' hE.ok 2 rfl ?_
  refine OW_end rfl ?_
  refine CW_seq ?_
  refine CW_region ?_
  refine OW_run' hE.ok 5 rfl ?_
  refine OW_end rfl ?_
  refine CW_ret ?_
  refine ⟨.inr rfl, rfl, ⟨_, rfl, rfl, ?_⟩, rfl⟩
  exact AVle.refl _

theorem nameE (al : ByteArray) (p q : Pat) (hll : p.els.length = q.els.length) : Does Try.prog 66 [.d (str al), .d (.iptr (encP p)), .d (.iptr (encP q))] noHeap (.d (str (nm p.els q.els al))) := by
  refine Does_of T_ok mixed (N := 19) Try.func66 rfl rfl rfl (by rfl) fun F n Z hE hF J => ?_
  have hi := indexL p.els 68 [] [.iptr [str al]] (fun e => same e.al al) (fun a _ => eq68 a al)
  refine CW_seq ?_
  refine CW_region ?_
  refine OW_run' hE.ok 2 rfl ?_
  refine OW_end rfl ?_
  refine CW_seq ?_
  refine CW_region ?_
  refine OW_run' hE.ok 3 rfl ?_
  refine OW_call' hE (hi) rfl rfl rfl rfl rfl rfl rfl ?_
  refine OW_run' hE.ok 1 rfl ?_
  refine OW_end rfl ?_
  refine CW_seq ?_
  refine CW_seq ?_
  refine CW_region ?_
  refine OW_run' hE.ok 2 rfl ?_
  refine OW_end rfl ?_
  refine CW_cond _ rfl (fun h1 => ?_) (fun h1 => ?_)
  · skip
    have hn : nm p.els q.els al = al := nm_none (.inl (by simpa using h1))
    refine CW_seq ?_
    refine CW_region ?_
    refine OW_run' hE.ok 2 rfl ?_
    refine OW_end rfl ?_
    refine CW_ret ?_
    refine ⟨.inr rfl, rfl, ⟨_, rfl, rfl, ?_⟩, rfl⟩
    rw [hn]
    exact AVle.refl _
  · skip
    have g : 0 ≤ idx (fun e => same e.al al) p.els := by have := h1; simp at this; omega
    rcases idx_cases (fun e => same e.al al) p.els with ⟨j, b, hj, hb, _, _⟩ | ⟨hj, _⟩
    case inr => omega
    obtain ⟨e, he⟩ : ∃ e, q.els[j]? = some e := ⟨_, List.getElem?_eq_getElem (by have := (List.getElem?_eq_some_iff.1 hb).1; omega)⟩
    have hn := nm_some hj he
    refine CW_skip ?_
    refine CW_seq ?_
    refine CW_region ?_
    refine OW_run' hE.ok 3 rfl ?_
    refine OW_as' 15 (.d (int ((j : Nat) : Int))) (by show AV.d (int (idx (fun e => same e.al al) p.els)) = _; rw [hj]) ?_
    refine OW_loc' hE (loc_indexAddr hE rfl rfl rfl rfl rfl (by omega) (x := encL e) (by simp [he])) rfl rfl rfl ?_
    refine OW_run' hE.ok 3 rfl ?_
    refine OW_end rfl ?_
    refine CW_ret ?_
    refine ⟨.inr rfl, rfl, ⟨_, rfl, rfl, ?_⟩, rfl⟩
    rw [hn]
    exact AVle.refl _

theorem renStep (p q : Pat) (hll : p.els.length = q.els.length) (op : Int) (v : Vl) (al fi : ByteArray) (ks : List Exp) (ZZ : D) (ih : ∀ k ∈ ks, Does Try.prog 69 [argX k, .d (.iptr [(.fn (.func 66) [] [.iptr (encP p), .iptr (encP q)])]), .d ZZ] noHeap (argX (renX (nm p.els q.els) k))) : Does Try.prog 69 [argX (.mk op v al fi ks), .d (.iptr [(.fn (.func 66) [] [.iptr (encP p), .iptr (encP q)])]), .d (.iptr [.fn (.func 69) [] [.iptr [(.fn (.func 66) [] [.iptr (encP p), .iptr (encP q)])], ZZ]])] noHeap (argX (renX (nm p.els q.els) (.mk op v al fi ks))) := by
  refine Does_of T_ok mixed (N := 19) Try.func69 rfl rfl rfl (by rfl) fun F n Z hE hF J => ?_
  have hm := mapX ks 69 [] [.iptr [(.fn (.func 66) [] [.iptr (encP p), .iptr (encP q)])], ZZ] (renX (nm p.els q.els)) (fun a ha => ih a ha)
  rw [← renXs_eq] at hm
  refine CW_seq ?_
  refine CW_region ?_
  refine OW_box' hE 1 rfl rfl rfl rfl rfl rfl ?_
  refine OW_alloc' hE 2 rfl rfl rfl rfl rfl rfl rfl ?_
  refine OW_end rfl ?_
  refine CW_cutE (fun _ : Unit => ⟨J, (sset (sset (sset (sset noSlots 1 (.d (.iptr [(.fn (.func 66) [] [.iptr (encP p), .iptr (encP q)])]))) 2 (.d (.iptr [.fn (.func 69) [] [.iptr [(.fn (.func 66) [] [.iptr (encP p), .iptr (encP q)])], ZZ]]))) 3 (.ptr 1 0)) 4 (.ptr 2 0)), (hset (hset noHeap 2 (some (.box 27 [.d (int 0), .d (int 0), .d (int 0), .d (str nul), .d (str nul), .d (str nul), .d (.lit (.slice none 0 0))]))) 1 (some (.box 27 [.d (int op), .d (int v.k), .d (int v.n), .d (str v.s), .d (str (bif op == 2 then nm p.els q.els al else al)), .d (str fi), .d (.sl 7 96 (encXs ks))])))⟩) (fun _ => True) ?_ ?_
  · skip
    refine CW_seq ?_
    refine CW_region ?_
    refine OW_run' hE.ok 3 rfl ?_
    refine OW_end rfl ?_
    refine CW_cond _ rfl (fun h1 => ?_) (fun h1 => ?_)
    · skip
      have g1 : (op == 2) = true := h1
      refine CW_region ?_
      refine OW_run' hE.ok 3 rfl ?_
      refine OW_call' hE (nameE al p q hll) rfl rfl rfl rfl rfl rfl rfl ?_
      refine OW_run' hE.ok 1 rfl ?_
      refine OW_store' hE rfl rfl rfl rfl rfl rfl rfl rfl rfl rfl rfl rfl ?_
      refine OW_end rfl ?_
      exact ⟨(), trivial, LE_sh (slh_set (v := .ptr 2 0) (slh_set (v := .ptr 1 0) (slh_set (v := .d (.iptr [.fn (.func 69) [] [.iptr [(.fn (.func 66) [] [.iptr (encP p), .iptr (encP q)])], ZZ]])) (slh_set (v := .d (.iptr [(.fn (.func 66) [] [.iptr (encP p), .iptr (encP q)])])) (slh_no _ _) (by rfl) rfl) (by rfl) rfl) (by rfl) rfl) (by rfl) rfl) (hlh_set (hlh_set (hlh_no _ _) rfl rfl) (congrArg (fun z => some (Ent.box 27 [.d (int op), .d (int v.k), .d (int v.n), .d (str v.s), .d (str z), .d (str fi), .d (.sl 7 96 (encXs ks))])) (by rw [g1]; rfl)) rfl)⟩
    · skip
      have g1 : (op == 2) = false := h1
      refine CW_skip ?_
      exact ⟨(), trivial, LE_sh (slh_set (v := .ptr 2 0) (slh_set (v := .ptr 1 0) (slh_set (v := .d (.iptr [.fn (.func 69) [] [.iptr [(.fn (.func 66) [] [.iptr (encP p), .iptr (encP q)])], ZZ]])) (slh_set (v := .d (.iptr [(.fn (.func 66) [] [.iptr (encP p), .iptr (encP q)])])) (slh_no _ _) (by rfl) rfl) (by rfl) rfl) (by rfl) rfl) (by rfl) rfl) (hlh_set (hlh_set (hlh_no _ _) rfl rfl) (congrArg (fun z => some (Ent.box 27 [.d (int op), .d (int v.k), .d (int v.n), .d (str v.s), .d (str z), .d (str fi), .d (.sl 7 96 (encXs ks))])) (by rw [g1]; rfl)) rfl)⟩
  · skip
    rintro _ _
    refine CW_seq ?_
    refine CW_region ?_
    refine OW_run' hE.ok 3 rfl ?_
    refine OW_call' hE (hm) rfl rfl rfl rfl rfl rfl rfl ?_
    refine OW_run' hE.ok 1 rfl ?_
    refine OW_store' hE rfl rfl rfl rfl rfl rfl rfl rfl rfl rfl rfl rfl ?_
    refine OW_end rfl ?_
    refine CW_seq ?_
    refine CW_region ?_
    refine OW_run' hE.ok 1 rfl ?_
    refine OW_store' hE rfl rfl rfl rfl rfl rfl rfl rfl rfl rfl rfl rfl ?_
    refine OW_end rfl ?_
    refine CW_ret ?_
    refine ⟨.inr rfl, rfl, ⟨_, rfl, rfl, ?_⟩, rfl⟩
    rw [show renX (nm p.els q.els) (.mk op v al fi ks) = .mk op v (bif op == 2 then nm p.els q.els al else al) fi (renXs (nm p.els q.els) ks) by unfold renX; rfl]
    exact AVle.refl _

theorem renAll (p q : Pat) (hll : p.els.length = q.els.length) : ∀ (n : Nat) (x : Exp), SizeOf.sizeOf x ≤ n → Does Try.prog 69 [argX x, .d (.iptr [(.fn (.func 66) [] [.iptr (encP p), .iptr (encP q)])]), .d (.iptr [(unroll (.func 69) [] [.iptr [(.fn (.func 66) [] [.iptr (encP p), .iptr (encP q)])]] n)])] noHeap (argX (renX (nm p.els q.els) x))
  | 0, .mk op v al fi ks, h => by simp at h
  | n + 1, .mk op v al fi ks, h => renStep p q hll op v al fi ks (.iptr [(unroll (.func 69) [] [.iptr [(.fn (.func 66) [] [.iptr (encP p), .iptr (encP q)])]] n)]) fun k hk => renAll p q hll n k (by have := List.sizeOf_lt_of_mem hk; simp at h; omega)

theorem renLOk (p q : Pat) (hll : p.els.length = q.els.length) (n0 : Nat) (e : El) (hs : SizeOf.sizeOf e.cond ≤ n0) : Does Try.prog 71 [argL e, .d (.iptr [(unroll (.func 69) [] [.iptr [(.fn (.func 66) [] [.iptr (encP p), .iptr (encP q)])]] (n0 + 1))])] noHeap (argL (renL (nm p.els q.els) e)) := by
  refine Does_of T_ok mixed (N := 10) Try.func71 rfl rfl rfl (by rfl) fun F n Z hE hF J => ?_
  have hr := renAll p q hll n0 e.cond hs
  have hn : renL (nm p.els q.els) e = { e with cond := renX (nm p.els q.els) e.cond } := rfl
  obtain ⟨o3, v3, a3, f3, k3, hN⟩ := Exp.shape (renX (nm p.els q.els) e.cond)
  rw [hN] at hr hn
  rw [hn]
  clear hs
  obtain ⟨y1, y2, y3, y4, y5, y6, y7, y8, y9, rfl⟩ := El.shape e
  refine CW_seq ?_
  refine CW_region ?_
  refine OW_box' hE 1 rfl rfl rfl rfl rfl rfl ?_
  refine OW_alloc' hE 2 rfl rfl rfl rfl rfl rfl rfl ?_
  refine OW_end rfl ?_
  refine CW_seq ?_
  refine CW_region ?_
  refine OW_run' hE.ok 3 rfl ?_
  refine OW_call' hE (hr) rfl rfl rfl rfl rfl rfl rfl ?_
  refine OW_run' hE.ok 1 rfl ?_
  refine OW_store' hE rfl rfl rfl rfl rfl rfl rfl rfl rfl rfl rfl rfl ?_
  refine OW_end rfl ?_
  refine CW_seq ?_
  refine CW_region ?_
  refine OW_run' hE.ok 1 rfl ?_
  refine OW_store' hE rfl rfl rfl rfl rfl rfl rfl rfl rfl rfl rfl rfl ?_
  refine OW_end rfl ?_
  refine CW_ret ?_
  refine ⟨.inr rfl, rfl, ⟨_, rfl, rfl, ?_⟩, rfl⟩
  exact AVle.refl _

theorem equalOk (p q : Pat) (hp : p.els.length ≤ 1000) : Does Try.prog 29 [argP p, argP q] noHeap (.d (boo (eqP p q))) := by
  refine Does_of T_ok mixed (N := 49) Try.func29 rfl rfl rfl (by rfl) fun F n Z hE hF J => ?_
  refine CW_seq ?_
  refine CW_region ?_
  refine OW_box' hE 1 rfl rfl rfl rfl rfl rfl ?_
  refine OW_box' hE 2 rfl rfl rfl rfl rfl rfl ?_
  refine OW_run' hE.ok 1 rfl ?_
  refine OW_end rfl ?_
  refine CW_seq ?_
  refine CW_drawn' hE 3 (by decide +kernel) ?_
  refine HW_run hE 1 rfl rfl ?_
  refine HW_call hE (normPOk p) rfl rfl rfl rfl rfl rfl rfl rfl ?_
  refine HW_run hE 1 rfl rfl ?_
  refine HW_end ?_
  refine OW_call' hE (normPOk q) rfl rfl rfl rfl rfl rfl rfl ?_
  refine OW_store' hE rfl rfl rfl rfl rfl rfl rfl rfl rfl rfl rfl rfl ?_
  refine OW_store' hE rfl rfl rfl rfl rfl rfl rfl rfl rfl rfl rfl rfl ?_
  refine OW_end rfl ?_
  refine CW_seq ?_
  refine CW_seq ?_
  refine CW_region ?_
  refine OW_run' hE.ok 7 rfl ?_
  refine OW_end rfl ?_
  refine CW_cond _ rfl (fun h1 => ?_) (fun h1 => ?_)
  · skip
    have hne : ¬ p.els.length = q.els.length := by have := h1; simp [normP] at this; omega
    refine CW_seq ?_
    refine CW_region ?_
    refine OW_run' hE.ok 1 rfl ?_
    refine OW_end rfl ?_
    refine CW_ret ?_
    refine ⟨.inr rfl, rfl, ⟨_, rfl, rfl, ?_⟩, rfl⟩
    exact AVle.of (congrArg (fun b => AV.d (boo b)) (by unfold eqP; rw [decide_eq_false hne]; rfl))
  · skip
    have hll : p.els.length = q.els.length := by have := h1; simp [normP] at this; omega
    have hlm : ((p.els.map normL).map (renL (nm p.els q.els))).length = (q.els.map normL).length := by simp; exact hll
    have hll2 : (normP p).els.length = (normP q).els.length := by simp [normP]; exact hll
    have hmr := mapLrow (normP p).els 71 [] [.iptr [(unroll (.func 69) [] [.iptr [(.fn (.func 66) [] [.iptr (encP (normP p)), .iptr (encP (normP q))])]] (bigE (normP p).els + 1))]] (renL (nm (normP p).els (normP q).els)) (fun e he => renLOk (normP p) (normP q) hll2 (bigE (normP p).els) e (bigE_le he))
    rw [show nm (normP p).els (normP q).els = nm p.els q.els from nm_norm p.els q.els] at hmr
    refine CW_skip ?_
    refine CW_seq ?_
    refine CW.le (LE_freezeBox 1 (ds := encP (normP p)) rfl rfl) ?_
    refine CW.le (LE_freezeBox 2 (ds := encP (normP q)) rfl rfl) ?_
    refine CW.le (show LE _ _ ⟨J, (sset (sset noSlots 2 (.d (.iptr (encP (normP p))))) 3 (.d (.iptr (encP (normP q))))), noHeap⟩ from LE_sh (slh_set (v := .d (.iptr (encP (normP q)))) (slh_set (v := .d (.iptr (encP (normP p)))) (slh_no _ _) (by rfl) rfl) (by rfl) rfl) (hlh_no _ _)) ?_
    refine CW_region ?_
    refine OW_run' hE.ok 1 rfl ?_
    refine OW_alloc' hE 3 rfl rfl rfl rfl rfl rfl rfl ?_
    refine OW_store' hE rfl rfl rfl rfl rfl rfl rfl rfl rfl rfl rfl rfl ?_
    refine OW_end rfl ?_
    refine CW_seq ?_
    refine CW.le (LE_freezeBox 3 (ds := [(.fn (.func 66) [] [.iptr (encP (normP p)), .iptr (encP (normP q))])]) rfl rfl) ?_
    refine CW.le (show LE _ _ ⟨J, (sset (sset (sset noSlots 2 (.d (.iptr (encP (normP p))))) 3 (.d (.iptr (encP (normP q))))) 5 (.d (.iptr [(.fn (.func 66) [] [.iptr (encP (normP p)), .iptr (encP (normP q))])]))), noHeap⟩ from LE_sh (slh_set (v := .d (.iptr [(.fn (.func 66) [] [.iptr (encP (normP p)), .iptr (encP (normP q))])])) (slh_set (v := .d (.iptr (encP (normP q)))) (slh_set (v := .d (.iptr (encP (normP p)))) (slh_no _ _) (by rfl) rfl) (by rfl) rfl) (by rfl) rfl) (hlh_no _ _)) ?_
    refine CW_region ?_
    refine OW_alloc' hE 4 rfl rfl rfl rfl rfl rfl rfl ?_
    refine OW_end rfl ?_
    refine CW_seq ?_
    refine CW_region ?_
    refine OW_run' hE.ok 1 rfl ?_
    refine OW_store' hE rfl rfl rfl rfl rfl rfl rfl rfl rfl rfl rfl rfl ?_
    refine OW_end rfl ?_
    refine CW_seq ?_
    refine CW.le (LE_freezeCyc 4 (bigE (normP p).els + 1) (F := .func 69) (first := []) (cap := [.iptr [(.fn (.func 66) [] [.iptr (encP (normP p)), .iptr (encP (normP q))])]]) rfl) ?_
    refine CW.le (show LE _ _ ⟨J, (sset (sset (sset noSlots 2 (.d (.iptr (encP (normP p))))) 3 (.d (.iptr (encP (normP q))))) 6 (.d (.iptr [(unroll (.func 69) [] [.iptr [(.fn (.func 66) [] [.iptr (encP (normP p)), .iptr (encP (normP q))])]] (bigE (normP p).els + 1))]))), noHeap⟩ from LE_sh (slh_set (v := .d (.iptr [(unroll (.func 69) [] [.iptr [(.fn (.func 66) [] [.iptr (encP (normP p)), .iptr (encP (normP q))])]] (bigE (normP p).els + 1))])) (slh_set (v := .d (.iptr (encP (normP q)))) (slh_set (v := .d (.iptr (encP (normP p)))) (slh_no _ _) (by rfl) rfl) (by rfl) rfl) (by rfl) rfl) (hlh_no _ _)) ?_
    refine CW_region ?_
    refine OW_run' hE.ok 1 rfl ?_
    refine OW_alloc' hE 5 rfl rfl rfl rfl rfl rfl rfl ?_
    refine OW_store' hE rfl rfl rfl rfl rfl rfl rfl rfl rfl rfl rfl rfl ?_
    refine OW_end rfl ?_
    refine CW_seq ?_
    refine CW_region ?_
    refine OW_run' hE.ok 3 rfl ?_
    refine OW_callRow' hE 50 hmr rfl rfl rfl rfl rfl rfl rfl ?_
    refine OW_run' hE.ok 1 rfl ?_
    refine OW_store' hE rfl rfl rfl rfl rfl rfl rfl rfl rfl rfl rfl rfl ?_
    refine OW_end rfl ?_
    refine CW_seq ?_
    refine CW_seq ?_
    refine CW.le (show LE _ _ ⟨J, (sset (sset noSlots 3 (.d (.iptr (encP (normP q))))) 7 (.ptr 5 0)), (hset (hset noHeap 5 (some (.box 37 [.row 50, .d (int p.within), .d (str p.byf), .d (boo p.any)]))) 50 (some (.row 41 11 (((p.els.map normL).map (renL (nm p.els q.els))).map encL))))⟩ from LE_sh (slh_set (v := .ptr 5 0) (slh_set (v := .d (.iptr (encP (normP q)))) (slh_no _ _) (by rfl) rfl) (by rfl) rfl) (hlh_set (hlh_set (hlh_no _ _) rfl rfl) rfl rfl)) ?_
    refine CW_region ?_
    refine OW_run' hE.ok 4 rfl ?_
    refine OW_end rfl ?_
    refine CW_block ?_
    refine CW_loop (σ := {i : Nat // i ≤ p.els.length}) (fun i => ⟨J, (sset (sset (sset (sset noSlots 3 (.d (.iptr (encP (normP q))))) 7 (.ptr 5 0)) 30 (.d (int ((p.els.length : Nat) : Int)))) 31 (.d (int ((i.1 : Nat) : Int)))), (hset (hset noHeap 5 (some (.box 37 [.row 50, .d (int p.within), .d (str p.byf), .d (boo p.any)]))) 50 (some (.row 41 11 ((partZ ((p.els.map normL).map (renL (nm p.els q.els))) (q.els.map normL) i.1).map encL))))⟩) (fun i => p.els.length - i.1) ⟨0, Nat.zero_le _⟩ (LE_sh (slh_set (slh_set (slh_set (slh_set (slh_no _ _) rfl rfl) rfl rfl) (by show AV.d (.lit (.int .i64 (((((p.els.map normL).map (renL (nm p.els q.els))).map encL).length : Nat) : Int))) = _; simp only [List.length_map]; rfl) rfl) rfl rfl) (hlh_set (hlh_set (hlh_no _ _) rfl rfl) rfl rfl)) fun ⟨i, hi⟩ => ?_
    refine CW_seq ?_
    refine CW_region ?_
    refine OW_run' hE.ok 1 rfl ?_
    refine OW_end rfl ?_
    refine CW_seq ?_
    refine CW_cond _ rfl (fun h2 => ?_) (fun h2 => ?_)
    · skip
      have hlt : i < p.els.length := by have := h2; simp at this; omega
      obtain ⟨e, he⟩ : ∃ e, ((p.els.map normL).map (renL (nm p.els q.els)))[i]? = some e := ⟨_, List.getElem?_eq_getElem (by simp; exact hlt)⟩
      obtain ⟨b, hb⟩ : ∃ b, (q.els.map normL)[i]? = some b := ⟨_, List.getElem?_eq_getElem (by simp; omega)⟩
      have hst := partZ_set hlm he hb
      have hgt := partZ_get hlm he
      obtain ⟨y1, y2, y3, y4, y5, y6, y7, y8, y9, rfl⟩ := El.shape e
      refine CW_skip ?_
      refine CW_seq ?_
      refine CW_block ?_
      refine CW_seq ?_
      refine CW_region ?_
      refine OW_run' hE.ok 2 rfl ?_
      refine OW_end rfl ?_
      refine CW_drawn' hE 9 (by decide +kernel) ?_
      refine HW_run hE 6 rfl rfl ?_
      refine HW_loc hE (loc_indexAddr hE rfl rfl rfl rfl rfl (by omega) (x := encL b) (by show (List.map encL (q.els.map normL))[_]? = _; rw [Int.toNat_natCast, List.getElem?_map, hb]; rfl)) rfl rfl rfl rfl ?_
      refine HW_run hE 2 rfl rfl ?_
      refine HW_end ?_
      refine OW_loc' hE (loc_idxRow hE rfl rfl rfl rfl rfl (j := i) rfl (by simp only [List.length_map, partZ_len hlm]; omega)) rfl rfl rfl ?_
      refine OW_run' hE.ok 1 rfl ?_
      refine OW_storeRow' hE rfl rfl rfl rfl rfl (j := i) (off := 0) rfl (by omega) rfl (x := encL ⟨y1, y2, y3, y4, .mk y5 y6 y7 y8 y9⟩) (by rw [List.getElem?_map, hgt]; rfl) (y := [str b.al]) rfl rfl rfl (by simp) (xs' := (partZ ((p.els.map normL).map (renL (nm p.els q.els))) (q.els.map normL) (i + 1)).map encL) (by rw [← hst, List.map_set]; rfl) ?_
      refine OW_end rfl ?_
      refine CW_region ?_
      refine OW_run' hE.ok 2 rfl ?_
      refine OW_end rfl ?_
      exact ⟨⟨i + 1, by omega⟩, LE_sh (slh_set (v := .d (int ((i + 1 : Nat) : Int))) (slh_set (v := .d (int ((p.els.length : Nat) : Int))) (slh_set (v := .ptr 5 0) (slh_set (v := .d (.iptr (encP (normP q)))) (slh_no _ _) (by rfl) rfl) (by rfl) rfl) (by rfl) rfl) (by show AV.d (.lit (.int .i64 (IntKind.i64.wrap ((i : Int) + 1)))) = _; rw [wrap_succ (by omega)]; rfl) rfl) (hlh_set (hlh_set (hlh_no _ _) rfl rfl) rfl rfl), by show p.els.length - (i + 1) < p.els.length - i; omega⟩
    · skip
      have hgz : p.els.length ≤ i := by have := h2; simp at this; omega
      refine CW_exit ?_
      show CW _ _ _ _
      refine CW_seq ?_
      refine CW.le (show LE _ _ ⟨J, (sset (sset noSlots 3 (.d (.iptr (encP (normP q))))) 7 (.ptr 5 0)), (hset (hset noHeap 5 (some (.box 37 [.row 50, .d (int p.within), .d (str p.byf), .d (boo p.any)]))) 50 (some (.row 41 11 ((List.zipWith callAs ((p.els.map normL).map (renL (nm p.els q.els))) (q.els.map normL)).map encL))))⟩ from LE_sh (slh_set (v := .ptr 5 0) (slh_set (v := .d (.iptr (encP (normP q)))) (slh_no _ _) (by rfl) rfl) (by rfl) rfl) (hlh_set (hlh_set (hlh_no _ _) rfl rfl) (congrArg (fun z : List El => some (Ent.row 41 11 (z.map encL))) (partZ_all hlm (by simp; exact hgz))) rfl)) ?_
      refine CW.le (LE_freeze 50 144 rfl (by simp; omega)) ?_
      refine CW_region ?_
      refine OW_run' hE.ok 2 rfl ?_
      refine OW_call' hE (samePOk (asP p q) (normP q)) rfl rfl rfl rfl rfl rfl rfl ?_
      refine OW_run' hE.ok 1 rfl ?_
      refine OW_end rfl ?_
      refine CW_ret ?_
      refine ⟨.inr rfl, rfl, ⟨_, rfl, rfl, ?_⟩, rfl⟩
      exact AVle.of (congrArg (fun b => AV.d (boo b)) (by unfold eqP; rw [decide_eq_true hll]; rfl))
end Go.Proofs.Ythffbfjnahipcaa
