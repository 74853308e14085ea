/- Parts of an abstract logic over the kit's walks, and walks in it: L1t. -/
import Derived.Test.YtencfmpapdnnaaaLa
import Derived.Test.YtencfmpapdnnaaaELa
namespace Go.Proofs.Ytencfmpapdnnaaa
open Go Go.AL
set_option linter.unusedVariables false
set_option linter.unusedSimpArgs false
set_option maxHeartbeats 4000000
theorem textsOk (a b : ByteArray) (m k : Int) (kd : UInt8) : Does Try.prog 9 [.d (str a), .d (str b), .d (int m), .d (int k), .d (.lit (.int .u8 (kd.toNat : Int)))] noHeap (.d (boo true)) := by
  refine Does_of T_ok mixed (N := 147) Try.func9 rfl rfl rfl (by rfl) fun F n Z hE hF J => ?_
  refine CW_seq ?_
  refine CW_region ?_
  refine OW_run' hE.ok 1 rfl ?_
  refine OW_end rfl ?_
  refine CW_seq ?_
  refine CW_seq ?_
  refine CW_region ?_
  refine OW_call' hE (known11) rfl rfl rfl rfl rfl rfl rfl ?_
  refine OW_run' hE.ok 1 rfl ?_
  refine OW_end rfl ?_
  refine CW_false rfl ?_
  refine CW_skip ?_
  refine CW_seq ?_
  refine CW_seq ?_
  refine CW_region ?_
  refine OW_run' hE.ok 4 rfl ?_
  refine OW_split' 24 rfl (fun h1 => ?_) (fun h1 => ?_)
  · skip
    refine OW_run' hE.ok 4 rfl ?_
    refine OW_end rfl ?_
    refine CW_true rfl ?_
    refine CW_seq ?_
    refine CW_region ?_
    refine OW_run' hE.ok 1 rfl ?_
    refine OW_end rfl ?_
    refine CW_ret ?_
    refine ⟨.inr rfl, rfl, ⟨[.d (boo true)], rfl, rfl, ?_⟩, rfl⟩
    exact AVle.refl _
  · skip
    have h1 : a.size ≤ 10 := by have := h1; simp at this; omega
    refine OW_run' hE.ok 4 rfl ?_
    refine OW_end rfl ?_
    refine CW_cond _ rfl (fun h2 => ?_) (fun h2 => ?_)
    · skip
      refine CW_seq ?_
      refine CW_region ?_
      refine OW_run' hE.ok 1 rfl ?_
      refine OW_end rfl ?_
      refine CW_ret ?_
      refine ⟨.inr rfl, rfl, ⟨[.d (boo true)], rfl, rfl, ?_⟩, rfl⟩
      exact AVle.refl _
    · skip
      have h2 : b.size ≤ 10 := by have := h2; simp at this; omega
      refine CW_skip ?_
      refine CW_seq ?_
      refine CW_seq ?_
      refine CW_region ?_
      refine OW_run' hE.ok 1 rfl ?_
      refine OW_end rfl ?_
      refine CW_block ?_
      refine CW_loop (σ := {i : Nat // i ≤ a.size + b.size ∧ ∀ j c, j < i → (a ++ b).data.toList[j]? = some c → shownC c = true}) (fun i => ⟨J, (sset (sset (sset (sset (sset (sset noSlots 0 (.d (str a))) 1 (.d (str b))) 2 (.d (int m))) 3 (.d (int k))) 4 (.d (.lit (.int .u8 (kd.toNat : Int))))) 11 (.d (int ((i.1 : Nat) : Int)))), noHeap⟩) (fun i => a.size + b.size - i.1) ⟨0, Nat.zero_le _, fun j c hj => by omega⟩ (LE_sh (slh_set (slh_set (slh_set (slh_set (slh_set (slh_set (slh_no _ _) rfl rfl) rfl rfl) rfl rfl) rfl rfl) rfl rfl) rfl rfl) (hlh_no _ _)) fun ⟨i, hi, hp⟩ => ?_
      refine CW_seq ?_
      refine CW_seq ?_
      refine CW_region ?_
      refine OW_run' hE.ok 6 rfl ?_
      refine OW_as' 34 (.d (int ((a.size + b.size : Nat) : Int))) (by show AV.d (.lit (.int .i64 (IntKind.i64.wrap ((a.size : Int) + (b.size : Int))))) = _; rw [show ((a.size : Int) + (b.size : Int)) = ((a.size + b.size : Nat) : Int) by omega, wrapN (by omega)]; rfl) ?_
      refine OW_run' hE.ok 1 rfl ?_
      refine OW_end rfl ?_
      refine CW_cond _ rfl (fun h3 => ?_) (fun h3 => ?_)
      · skip
        have hlt : i < a.size + b.size := by have := h3; simp at this; omega
        obtain ⟨c, hc⟩ : ∃ c, (a ++ b).data.toList[i]? = some c := ⟨_, List.getElem?_eq_getElem (by rw [data_app, List.length_append]; exact hlt)⟩
        refine CW_skip ?_
        refine CW_seq ?_
        refine CW_block ?_
        refine CW_seq ?_
        refine CW_region ?_
        refine OW_run' hE.ok 2 rfl ?_
        refine OW_loc' hE (loc_concat hE rfl rfl rfl (by omega)) rfl rfl rfl ?_
        refine OW_run' hE.ok 1 rfl ?_
        refine OW_loc' hE (loc_index hE rfl rfl rfl rfl (by omega) (x := c) (by simpa using hc)) rfl rfl rfl ?_
        refine OW_run' hE.ok 1 rfl ?_
        refine OW_end rfl ?_
        refine CW_seq ?_
        refine CW_region ?_
        refine OW_run' hE.ok 3 rfl ?_
        refine OW_split' 45 rfl (fun h4 => ?_) (fun h4 => ?_)
        · skip
          refine OW_run' hE.ok 3 rfl ?_
          refine OW_end rfl ?_
          refine CW_true rfl ?_
          refine CW_seq ?_
          refine CW_region ?_
          refine OW_run' hE.ok 1 rfl ?_
          refine OW_end rfl ?_
          refine CW_ret ?_
          refine ⟨.inr rfl, rfl, ⟨[.d (boo true)], rfl, rfl, ?_⟩, rfl⟩
          exact AVle.refl _
        · skip
          have q1 := h4
          refine OW_run' hE.ok 3 rfl ?_
          refine OW_end rfl ?_
          refine CW_cond _ rfl (fun h5 => ?_) (fun h5 => ?_)
          · skip
            refine CW_seq ?_
            refine CW_region ?_
            refine OW_run' hE.ok 1 rfl ?_
            refine OW_end rfl ?_
            refine CW_ret ?_
            refine ⟨.inr rfl, rfl, ⟨[.d (boo true)], rfl, rfl, ?_⟩, rfl⟩
            exact AVle.refl _
          · skip
            have q2 := h5
            have hok := shown_ok q1 q2
            refine CW_skip ?_
            refine CW_region ?_
            refine OW_run' hE.ok 3 rfl ?_
            refine OW_end rfl ?_
            refine ⟨⟨i + 1, by omega, fun j x hj hx => ?_⟩, LE_sh (slh_set (v := .d (int ((i + 1 : Nat) : Int))) (slh_set (v := .d (.lit (.int .u8 (kd.toNat : Int)))) (slh_set (v := .d (int k)) (slh_set (v := .d (int m)) (slh_set (v := .d (str b)) (slh_set (v := .d (str a)) (slh_no _ _) (by rfl) rfl) (by rfl) rfl) (by rfl) rfl) (by rfl) rfl) (by rfl) rfl) (by show AV.d (.lit (.int .i64 (IntKind.i64.wrap ((i : Int) + 1)))) = _; rw [wrap_succ (by omega)]; rfl) rfl) (hlh_no _ _), by show a.size + b.size - (i + 1) < a.size + b.size - i; omega⟩
            by_cases hji : j = i
            · subst hji; rw [hc] at hx; cases hx; exact hok
            · exact hp j x (by omega) hx
      · skip
        have hge : a.size + b.size ≤ i := by have := h3; simp at this; omega
        obtain ⟨ta, tb⟩ := tx_text h1 h2 (fun j c hj hc => hp j c (by omega) hc)
        refine CW_exit ?_
        show CW _ _ _ _
        refine CW_seq ?_
        refine CW.le (show LE _ _ ⟨J, (sset (sset (sset (sset (sset noSlots 0 (.d (str a))) 1 (.d (str b))) 2 (.d (int m))) 3 (.d (int k))) 4 (.d (.lit (.int .u8 (kd.toNat : Int))))), noHeap⟩ from LE_sh (slh_set (v := .d (.lit (.int .u8 (kd.toNat : Int)))) (slh_set (v := .d (int k)) (slh_set (v := .d (int m)) (slh_set (v := .d (str b)) (slh_set (v := .d (str a)) (slh_no _ _) (by rfl) rfl) (by rfl) rfl) (by rfl) rfl) (by rfl) rfl) (by rfl) rfl) (hlh_no _ _)) ?_
        obtain ⟨c, hcd⟩ : ∃ c, (((kd.toNat % 3 : Nat) : Int) == 1) = c := ⟨_, rfl⟩
        refine CW_region ?_
        refine OW_run' hE.ok 1 rfl ?_
        refine OW_build' hE rfl rfl rfl rfl rfl ?_
        refine OW_build' hE rfl rfl rfl rfl rfl ?_
        refine OW_run' hE.ok 1 rfl ?_
        refine OW_build' hE rfl rfl rfl rfl rfl ?_
        refine OW_build' hE rfl rfl rfl rfl rfl ?_
        refine OW_alloc' hE 1 rfl rfl rfl rfl rfl rfl rfl ?_
        refine OW_alloc' hE 2 rfl rfl rfl rfl rfl rfl rfl ?_
        refine OW.le (LE_slot 51 (argX (vE ⟨2, 0, a⟩)) (AVle.agg (.cons (.refl _) (.cons (.refl _) (.cons (.refl _) (.cons (.refl _) (.cons (.refl _) (.cons (.refl _) (.cons (.nilSl 7 96) .nil))))))))) ?_
        refine OW.le (LE_slot 54 (argX (vE ⟨2, 0, b⟩)) (AVle.agg (.cons (.refl _) (.cons (.refl _) (.cons (.refl _) (.cons (.refl _) (.cons (.refl _) (.cons (.refl _) (.cons (.nilSl 7 96) .nil))))))))) ?_
        refine OW_store' hE rfl rfl rfl rfl rfl rfl rfl rfl rfl rfl rfl rfl ?_
        refine OW_store' hE rfl rfl rfl rfl rfl rfl rfl rfl rfl rfl rfl rfl ?_
        refine OW_end rfl ?_
        refine CW_seq ?_
        refine CW_region ?_
        refine OW_run' hE.ok 8 rfl ?_
        refine OW_end rfl ?_
        refine CW_cutE (fun _ : Unit => ⟨J, (sset (sset (sset (sset (sset (sset (sset noSlots 2 (.d (int m))) 3 (.d (int k))) 4 (.d (.lit (.int .u8 (kd.toNat : Int))))) 13 (.ptr 1 0)) 14 (.ptr 2 0)) 15 (.d (boo (txL c m k a b)))) 16 (.d (boo (txS c m k a b)))), (hset (hset noHeap 1 (some (.box 28 [.d (int 1), .d (int (txV c m a).k), .d (int (txV c m a).n), .d (str (txV c m a).s), .d (str nul), .d (str nul), .d (.sl 7 96 [])]))) 2 (some (.box 28 [.d (int 1), .d (int (txV c k b).k), .d (int (txV c k b).n), .d (str (txV c k b).s), .d (str nul), .d (str nul), .d (.sl 7 96 [])])))⟩) (fun _ => True) ?_ ?_
        · skip
          refine CW_seq ?_
          refine CW_region ?_
          refine OW_run' hE.ok 2 rfl ?_
          refine OW_run' hE.ok 1 rfl ?_
          refine OW_as' 63 (.d (boo c)) (by rw [← hcd]; rfl) ?_
          refine OW_end rfl ?_
          refine CW_cond _ rfl (fun h6 => ?_) (fun h6 => ?_)
          · skip
            have g1 : c = true := h6
            refine CW_region ?_
            refine OW_run' hE.ok 1 rfl ?_
            refine OW_call' hE (lit11 m) rfl rfl rfl rfl rfl rfl rfl ?_
            refine OW_run' hE.ok 1 rfl ?_
            refine OW_call' hE (lit11 k) rfl rfl rfl rfl rfl rfl rfl ?_
            refine OW_run' hE.ok 6 rfl ?_
            refine OW_store' hE rfl rfl rfl rfl rfl rfl rfl rfl rfl rfl rfl rfl ?_
            refine OW_store' hE rfl rfl rfl rfl rfl rfl rfl rfl rfl rfl rfl rfl ?_
            refine OW_run' hE.ok 2 rfl ?_
            refine OW_end rfl ?_
            exact ⟨(), trivial, LE_sh (slh_set (v := .d (boo (txS c m k a b))) (slh_set (v := .d (boo (txL c m k a b))) (slh_set (v := .ptr 2 0) (slh_set (v := .ptr 1 0) (slh_set (v := .d (.lit (.int .u8 (kd.toNat : Int)))) (slh_set (v := .d (int k)) (slh_set (v := .d (int m)) (slh_no _ _) (by rfl) rfl) (by rfl) rfl) (by rfl) rfl) (by rfl) rfl) (by rfl) rfl) (by exact (congrArg (fun z => AV.d (boo z)) (by rw [g1]; rfl))) rfl) (by exact (congrArg (fun z => AV.d (boo z)) (by rw [g1]; rfl))) rfl) (hlh_set (hlh_set (hlh_no _ _) (by rw [g1]; rfl) rfl) (by rw [g1]; rfl) rfl)⟩
          · skip
            have g1 : c = false := h6
            refine CW_skip ?_
            exact ⟨(), trivial, LE_sh (slh_set (v := .d (boo (txS c m k a b))) (slh_set (v := .d (boo (txL c m k a b))) (slh_set (v := .ptr 2 0) (slh_set (v := .ptr 1 0) (slh_set (v := .d (.lit (.int .u8 (kd.toNat : Int)))) (slh_set (v := .d (int k)) (slh_set (v := .d (int m)) (slh_no _ _) (by rfl) rfl) (by rfl) rfl) (by rfl) rfl) (by rfl) rfl) (by rfl) rfl) (by exact (congrArg (fun z => AV.d (boo z)) (by rw [g1]; rfl))) rfl) (by exact (congrArg (fun z => AV.d (boo z)) (by rw [g1]; rfl))) rfl) (hlh_set (hlh_set (hlh_no _ _) (by rw [g1]; rfl) rfl) (by rw [g1]; rfl) rfl)⟩
        · skip
          rintro _ _
          obtain ⟨va, hva⟩ : ∃ va, txV c m a = va := ⟨_, rfl⟩
          obtain ⟨vb, hvb⟩ : ∃ vb, txV c k b = vb := ⟨_, rfl⟩
          have hx8 := Does_le (AVles.cons (AVle.refl _) (AVles.cons (AVle.refl _) (AVles.cons nilB_le AVles.nil))) (holdsOk bS (twoX 8 (vE (txV c m a)) (vE (txV c k b))) [])
          rw [tx_8 ta tb] at hx8
          have hx9 := Does_le (AVles.cons (AVle.refl _) (AVles.cons (AVle.refl _) (AVles.cons nilB_le AVles.nil))) (holdsOk bS (twoX 9 (vE (txV c m a)) (vE (txV c k b))) [])
          rw [tx_9 ta tb] at hx9
          have hx6 := Does_le (AVles.cons (AVle.refl _) (AVles.cons (AVle.refl _) (AVles.cons nilB_le AVles.nil))) (holdsOk bS (twoX 6 (vE (txV c m a)) (vE (txV c k b))) [])
          rw [tx_6 ta tb] at hx6
          have hx7 := Does_le (AVles.cons (AVle.refl _) (AVles.cons (AVle.refl _) (AVles.cons nilB_le AVles.nil))) (holdsOk bS (twoX 7 (vE (txV c m a)) (vE (txV c k b))) [])
          rw [tx_7 ta tb] at hx7
          rw [hva, hvb] at hx8 hx9 hx6 hx7
          rw [hva, hvb]
          obtain ⟨tl, htl⟩ : ∃ tl, txL c m k a b = tl := ⟨_, rfl⟩
          obtain ⟨ts, hts⟩ : ∃ ts, txS c m k a b = ts := ⟨_, rfl⟩
          rw [htl] at hx8 hx9
          rw [hts] at hx9 hx6 hx7
          rw [htl, hts]
          have hb8 := Does_le (AVles.cons (AVle.refl _) (AVles.cons (AVle.refl _) (AVles.cons nilB_le AVles.nil))) (evalOk bS (twoX 8 (vE ⟨3, m % 2, nul⟩) (vE ⟨3, k % 2, nul⟩)) [])
          rw [tx_b8] at hb8
          have hb6 := Does_le (AVles.cons (AVle.refl _) (AVles.cons (AVle.refl _) (AVles.cons nilB_le AVles.nil))) (holdsOk bS (twoX 6 (vE ⟨3, m % 2, nul⟩) (vE ⟨3, k % 2, nul⟩)) [])
          rw [tx_b6] at hb6
          refine CW_seq ?_
          refine CW_seq ?_
          refine CW_region ?_
          refine OW_run' hE.ok 3 rfl ?_
          refine OW_end rfl ?_
          refine CW_cond _ rfl (fun h7 => ?_) (fun h7 => ?_)
          · skip
            refine CW_seq ?_
            refine CW_region ?_
            refine OW_run' hE.ok 1 rfl ?_
            refine OW_loc' hE (loc_and1 hE rfl rfl rfl) rfl rfl rfl ?_
            refine OW_as' 78 (.d (int (m % 2))) (by rfl) ?_
            refine OW_build' hE rfl rfl rfl rfl rfl ?_
            refine OW_run' hE.ok 1 rfl ?_
            refine OW_loc' hE (loc_and1 hE rfl rfl rfl) rfl rfl rfl ?_
            refine OW_as' 81 (.d (int (k % 2))) (by rfl) ?_
            refine OW_build' hE rfl rfl rfl rfl rfl ?_
            refine OW_run' hE.ok 1 rfl ?_
            refine OW_store' hE rfl rfl rfl rfl rfl rfl rfl rfl rfl rfl rfl rfl ?_
            refine OW_run' hE.ok 1 rfl ?_
            refine OW_store' hE rfl rfl rfl rfl rfl rfl rfl rfl rfl rfl rfl rfl ?_
            refine OW_end rfl ?_
            refine CW_seq ?_
            refine CW.le (show LE _ _ ⟨J, (sset (sset (sset (sset noSlots 2 (.d (int m))) 3 (.d (int k))) 13 (.ptr 1 0)) 14 (.ptr 2 0)), (hset (hset noHeap 1 (some (.box 28 ((encX (vE ⟨3, m % 2, nul⟩)).map .d)))) 2 (some (.box 28 ((encX (vE ⟨3, k % 2, nul⟩)).map .d))))⟩ from LE_sh (slh_set (v := .ptr 2 0) (slh_set (v := .ptr 1 0) (slh_set (v := .d (int k)) (slh_set (v := .d (int m)) (slh_no _ _) (by rfl) rfl) (by rfl) rfl) (by rfl) rfl) (by rfl) rfl) (hlh_set (hlh_set (hlh_no _ _) rfl rfl) rfl rfl)) ?_
            refine CW_drawn2 hE 10 8 9 3 (by decide +kernel) (V := (encV nulV).map .d) rfl rfl rfl rfl rfl rfl rfl rfl rfl (by decide +kernel) rfl rfl rfl rfl rfl ?_
            refine H2_call hE (base11) rfl rfl rfl rfl rfl rfl rfl rfl rfl ?_
            refine H2_run hE 2 rfl rfl rfl rfl rfl ?_
            refine H2_call hE (two11 8 (vE ⟨3, m % 2, nul⟩) (vE ⟨3, k % 2, nul⟩)) rfl rfl rfl rfl rfl rfl rfl rfl rfl ?_
            refine H2_call hE (hb8) rfl rfl rfl rfl rfl rfl rfl rfl rfl ?_
            refine H2_run hE 3 rfl rfl rfl rfl rfl ?_
            refine H2_alloc rfl rfl rfl ?_
            refine H2_store rfl rfl rfl rfl rfl rfl rfl rfl ?_
            refine H2_end ?_
            refine OW_run' hE.ok 1 rfl ?_
            refine OW_end rfl ?_
            refine CW_seq ?_
            refine CW_drawn' hE 14 (by decide +kernel) ?_
            refine HW_run hE 2 rfl rfl ?_
            refine HW_call hE (errIs 14 14) rfl rfl rfl rfl rfl rfl rfl rfl ?_
            refine HW_run hE 1 rfl rfl ?_
            refine HW_call hE (base11) rfl rfl rfl rfl rfl rfl rfl rfl ?_
            refine HW_run hE 2 rfl rfl ?_
            refine HW_call hE (two11 6 (vE ⟨3, m % 2, nul⟩) (vE ⟨3, k % 2, nul⟩)) rfl rfl rfl rfl rfl rfl rfl rfl ?_
            refine HW_call hE (hb6) rfl rfl rfl rfl rfl rfl rfl rfl ?_
            refine HW_run hE 1 rfl rfl ?_
            refine HW_loc hE (loc_and1 hE rfl rfl rfl) rfl rfl rfl rfl ?_
            refine HW_as 103 (.d (int (m % 2))) (by rfl) ?_
            refine HW_run hE 1 rfl rfl ?_
            refine HW_loc hE (loc_and1 hE rfl rfl rfl) rfl rfl rfl rfl ?_
            refine HW_as 105 (.d (int (k % 2))) (by rfl) ?_
            refine HW_run hE 1 rfl rfl ?_
            refine HW_end ?_
            refine OW_run' hE.ok 1 rfl ?_
            refine OW_as' 107 (.d (boo true)) (by refine congrArg (fun b => AV.d (boo b)) ?_; simp) ?_
            refine OW_run' hE.ok 2 rfl ?_
            refine OW_end rfl ?_
            refine CW_ret ?_
            refine ⟨.inr rfl, rfl, ⟨[.d (boo true)], rfl, rfl, ?_⟩, rfl⟩
            exact AVle.refl _
          · skip
            refine CW_skip ?_
            refine CW_seq ?_
            refine CW_drawn' hE 36 (by decide +kernel) ?_
            refine HW_call hE (base11) rfl rfl rfl rfl rfl rfl rfl rfl ?_
            refine HW_run hE 2 rfl rfl ?_
            refine HW_call hE (two11 8 (vE va) (vE vb)) rfl rfl rfl rfl rfl rfl rfl rfl ?_
            refine HW_call hE (hx8) rfl rfl rfl rfl rfl rfl rfl rfl ?_
            refine HW_run hE 1 rfl rfl ?_
            refine HW_run hE 1 rfl rfl ?_
            refine HW_as 115 (.d (boo true)) (by refine congrArg (fun b => AV.d (boo b)) ?_; simp) ?_
            refine HW_run hE 1 rfl rfl ?_
            refine HW_call hE (base11) rfl rfl rfl rfl rfl rfl rfl rfl ?_
            refine HW_run hE 2 rfl rfl ?_
            refine HW_call hE (two11 9 (vE va) (vE vb)) rfl rfl rfl rfl rfl rfl rfl rfl ?_
            refine HW_call hE (hx9) rfl rfl rfl rfl rfl rfl rfl rfl ?_
            refine HW_run hE 2 rfl rfl ?_
            refine HW_split 123 rfl (fun h8 => ?_) (fun h8 => ?_)
            · skip
              have e1 : tl = true := h8
              refine HW_run hE 2 rfl rfl ?_
              refine HW_run hE 1 rfl rfl ?_
              refine HW_as 126 (.d (boo true)) (by refine congrArg (fun b => AV.d (boo b)) ?_; simp_all) ?_
              refine HW_run hE 2 rfl rfl ?_
              refine HW_call hE (base11) rfl rfl rfl rfl rfl rfl rfl rfl ?_
              refine HW_run hE 2 rfl rfl ?_
              refine HW_call hE (two11 6 (vE va) (vE vb)) rfl rfl rfl rfl rfl rfl rfl rfl ?_
              refine HW_call hE (hx6) rfl rfl rfl rfl rfl rfl rfl rfl ?_
              refine HW_run hE 1 rfl rfl ?_
              refine HW_run hE 1 rfl rfl ?_
              refine HW_as 135 (.d (boo true)) (by refine congrArg (fun b => AV.d (boo b)) ?_; simp) ?_
              refine HW_run hE 2 rfl rfl ?_
              refine HW_call hE (base11) rfl rfl rfl rfl rfl rfl rfl rfl ?_
              refine HW_run hE 2 rfl rfl ?_
              refine HW_call hE (two11 7 (vE va) (vE vb)) rfl rfl rfl rfl rfl rfl rfl rfl ?_
              refine HW_call hE (hx7) rfl rfl rfl rfl rfl rfl rfl rfl ?_
              refine HW_run hE 2 rfl rfl ?_
              refine HW_end ?_
              refine OW_run' hE.ok 1 rfl ?_
              refine OW_as' 145 (.d (boo true)) (by refine congrArg (fun b => AV.d (boo b)) ?_; simp) ?_
              refine OW_run' hE.ok 2 rfl ?_
              refine OW_end rfl ?_
              refine CW_ret ?_
              refine ⟨.inr rfl, rfl, ⟨[.d (boo true)], rfl, rfl, ?_⟩, rfl⟩
              exact AVle.refl _
            · skip
              have e1 : tl = false := h8
              refine HW_run hE 2 rfl rfl ?_
              refine HW_run hE 1 rfl rfl ?_
              refine HW_as 126 (.d (boo true)) (by refine congrArg (fun b => AV.d (boo b)) ?_; simp_all) ?_
              refine HW_run hE 2 rfl rfl ?_
              refine HW_call hE (base11) rfl rfl rfl rfl rfl rfl rfl rfl ?_
              refine HW_run hE 2 rfl rfl ?_
              refine HW_call hE (two11 6 (vE va) (vE vb)) rfl rfl rfl rfl rfl rfl rfl rfl ?_
              refine HW_call hE (hx6) rfl rfl rfl rfl rfl rfl rfl rfl ?_
              refine HW_run hE 1 rfl rfl ?_
              refine HW_run hE 1 rfl rfl ?_
              refine HW_as 135 (.d (boo true)) (by refine congrArg (fun b => AV.d (boo b)) ?_; simp) ?_
              refine HW_run hE 2 rfl rfl ?_
              refine HW_call hE (base11) rfl rfl rfl rfl rfl rfl rfl rfl ?_
              refine HW_run hE 2 rfl rfl ?_
              refine HW_call hE (two11 7 (vE va) (vE vb)) rfl rfl rfl rfl rfl rfl rfl rfl ?_
              refine HW_call hE (hx7) rfl rfl rfl rfl rfl rfl rfl rfl ?_
              refine HW_run hE 2 rfl rfl ?_
              refine HW_end ?_
              refine OW_run' hE.ok 1 rfl ?_
              refine OW_as' 145 (.d (boo true)) (by refine congrArg (fun b => AV.d (boo b)) ?_; simp) ?_
              refine OW_run' hE.ok 2 rfl ?_
              refine OW_end rfl ?_
              refine CW_ret ?_
              refine ⟨.inr rfl, rfl, ⟨[.d (boo true)], rfl, rfl, ?_⟩, rfl⟩
              exact AVle.refl _
end Go.Proofs.Ytencfmpapdnnaaa
