/- Parts of an abstract logic over the kit's walks, and walks in it: D7cf. -/
import Derived.Test.YtchpllgeahnmmaaDoorD7ce
import Derived.Test.YtchpllgeahnmmaaDoorD7b
namespace Go.Proofs.YtchpllgeahnmmaaDoor
open Go Go.AL
set_option linter.unusedVariables false
set_option linter.unusedSimpArgs false
set_option maxHeartbeats 4000000
theorem backD (ss : List (List Ty)) (cs : List Chg) (ty f : ByteArray) (i j : Int) (hok : ChainOk ss cs) : Does Tryd.prog 61 [argCh ss cs, .d (str ty), .d (str f), .d (int i), .d (int j)] noHeap (.tup [.d (str (backAt ss cs ty f i j).1), .d (boo (backAt ss cs ty f i j).2)]) := by
  refine Does_of T_ok mixed (N := 71) Tryd.func61 rfl rfl rfl (by rfl) fun F n Z hE hF J => ?_
  refine CW_seq ?_
  refine CW_region ?_
  refine OW_run' hE.ok 1 rfl ?_
  refine OW_box' hE 1 rfl rfl rfl rfl rfl rfl ?_
  refine OW_alloc' hE 2 rfl rfl rfl rfl rfl rfl rfl ?_
  refine OW_alloc' hE 3 rfl rfl rfl rfl rfl rfl rfl ?_
  refine OW_end rfl ?_
  refine CW_seq ?_
  refine CW_seq ?_
  refine CW_region ?_
  refine OW_run' hE.ok 2 rfl ?_
  refine OW_call' hE (isD ss cs i) rfl rfl rfl rfl rfl rfl rfl ?_
  refine OW_run' hE.ok 2 rfl ?_
  refine OW_split' 21 rfl (fun h1 => ?_) (fun h1 => ?_)
  · skip
    have g1 : (!isIn cs i) = true := h1
    refine OW_run' hE.ok 10 rfl ?_
    refine OW_end rfl ?_
    refine CW_true rfl ?_
    refine CW_seq ?_
    refine CW_region ?_
    refine OW_store' hE rfl rfl rfl rfl rfl rfl rfl rfl rfl rfl rfl rfl ?_
    refine OW_store' hE rfl rfl rfl rfl rfl rfl rfl rfl rfl rfl rfl rfl ?_
    refine OW_end rfl ?_
    refine CW_ret ?_
    refine ⟨.inr rfl, rfl, ⟨_, rfl, rfl, ?_⟩, rfl⟩
    rw [ba_bad (bad_1 (by simpa using g1))]
    exact AVle.refl _
  · skip
    have g1 : (!isIn cs i) = false := h1
    refine OW_run' hE.ok 2 rfl ?_
    refine OW_call' hE (isD ss cs j) rfl rfl rfl rfl rfl rfl rfl ?_
    refine OW_run' hE.ok 3 rfl ?_
    refine OW_split' 27 rfl (fun h2 => ?_) (fun h2 => ?_)
    · skip
      have g2 : (!isIn cs j) = true := h2
      refine OW_run' hE.ok 4 rfl ?_
      refine OW_end rfl ?_
      refine CW_true rfl ?_
      refine CW_seq ?_
      refine CW_region ?_
      refine OW_store' hE rfl rfl rfl rfl rfl rfl rfl rfl rfl rfl rfl rfl ?_
      refine OW_store' hE rfl rfl rfl rfl rfl rfl rfl rfl rfl rfl rfl rfl ?_
      refine OW_end rfl ?_
      refine CW_ret ?_
      refine ⟨.inr rfl, rfl, ⟨_, rfl, rfl, ?_⟩, rfl⟩
      rw [ba_bad (bad_2 (by simpa using g2))]
      exact AVle.refl _
    · skip
      have g2 : (!isIn cs j) = false := h2
      refine OW_run' hE.ok 4 rfl ?_
      refine OW_end rfl ?_
      refine CW_cond _ rfl (fun h3 => ?_) (fun h3 => ?_)
      · skip
        have g3 : decide (i > j) = true := h3
        refine CW_seq ?_
        refine CW_region ?_
        refine OW_store' hE rfl rfl rfl rfl rfl rfl rfl rfl rfl rfl rfl rfl ?_
        refine OW_store' hE rfl rfl rfl rfl rfl rfl rfl rfl rfl rfl rfl rfl ?_
        refine OW_end rfl ?_
        refine CW_ret ?_
        refine ⟨.inr rfl, rfl, ⟨_, rfl, rfl, ?_⟩, rfl⟩
        rw [ba_bad (bad_3 g3)]
        exact AVle.refl _
      · skip
        have g3 : decide (i > j) = false := h3
        refine CW_skip ?_
        refine CW_seq ?_
        have b1 : isIn cs i = true := by simpa using g1
        have b2 : isIn cs j = true := by simpa using g2
        have hgood := good_3 b1 b2 g3
        obtain ⟨a, rfl, ha⟩ := isIn_at b1
        obtain ⟨b, rfl, hb⟩ := isIn_at b2
        have hab : a ≤ b := by have := g3; simp at this; omega
        obtain ⟨s, hs, hsr⟩ := hok.at hb
        have hlen := hok.len
        have hfew := hok.few
        refine CW_drawn2 hE 14 12 13 4 (by decide +kernel) (V := (encT (findT s ty).1).map .d) rfl rfl rfl rfl rfl rfl rfl rfl rfl (by decide +kernel) rfl rfl rfl rfl rfl ?_
        refine H2_run hE 5 rfl rfl rfl rfl rfl ?_
        refine H2_loc hE (fun b => loc_indexAddr hE rfl rfl rfl rfl rfl (by omega) (x := encS1 s) (by simp [hs])) rfl rfl rfl rfl rfl ?_
        refine H2_run hE 2 rfl rfl rfl rfl rfl ?_
        refine H2_call hE (findOk s ty) rfl rfl rfl rfl rfl rfl rfl rfl rfl ?_
        refine H2_run hE 3 rfl rfl rfl rfl rfl ?_
        refine H2_alloc rfl rfl rfl ?_
        refine H2_store rfl rfl rfl rfl rfl rfl rfl rfl ?_
        refine H2_end ?_
        refine OW_run' hE.ok 1 rfl ?_
        refine OW_end rfl ?_
        refine CW_seq ?_
        refine CW_seq ?_
        refine CW_region ?_
        refine OW_run' hE.ok 3 rfl ?_
        refine OW_split' 46 rfl (fun h4 => ?_) (fun h4 => ?_)
        · skip
          have k1 : (!(findT s ty).2) = true := h4
          refine OW_run' hE.ok 5 rfl ?_
          refine OW_end rfl ?_
          refine CW_true rfl ?_
          refine CW_seq ?_
          refine CW_region ?_
          refine OW_store' hE rfl rfl rfl rfl rfl rfl rfl rfl rfl rfl rfl rfl ?_
          refine OW_store' hE rfl rfl rfl rfl rfl rfl rfl rfl rfl rfl rfl rfl ?_
          refine OW_end rfl ?_
          refine CW_ret ?_
          refine ⟨.inr rfl, rfl, ⟨_, rfl, rfl, ?_⟩, rfl⟩
          rw [ba_no hgood hs (by rw [k1]; rfl)]
          exact AVle.refl _
        · skip
          have k1 : (!(findT s ty).2) = false := h4
          refine OW_run' hE.ok 2 rfl ?_
          refine OW_call' hE (fieldOk (findT s ty).1 f) rfl rfl rfl rfl rfl rfl rfl ?_
          refine OW_run' hE.ok 2 rfl ?_
          refine OW_end rfl ?_
          refine CW_cond _ rfl (fun h5 => ?_) (fun h5 => ?_)
          · skip
            have k2 : decide (fieldAt (findT s ty).1 f < 0) = true := h5
            refine CW_seq ?_
            refine CW_region ?_
            refine OW_store' hE rfl rfl rfl rfl rfl rfl rfl rfl rfl rfl rfl rfl ?_
            refine OW_store' hE rfl rfl rfl rfl rfl rfl rfl rfl rfl rfl rfl rfl ?_
            refine OW_end rfl ?_
            refine CW_ret ?_
            refine ⟨.inr rfl, rfl, ⟨_, rfl, rfl, ?_⟩, rfl⟩
            rw [ba_no hgood hs (by rw [k1, k2]; rfl)]
            exact AVle.refl _
          · skip
            have k2 : decide (fieldAt (findT s ty).1 f < 0) = false := h5
            refine CW_skip ?_
            refine CW_seq ?_
            refine CW_seq ?_
            refine CW_region ?_
            refine OW_run' hE.ok 3 rfl ?_
            refine OW_call' hE (lastD ss cs a b) rfl rfl rfl rfl rfl rfl rfl ?_
            refine OW_end rfl ?_
            refine CW_block ?_
            refine CW.le (show LE _ _ ⟨J, (sset (sset (sset (sset (sset noSlots 6 (.d (.iptr [str ty]))) 7 (.ptr 1 0)) 10 (.ptr 2 0)) 11 (.ptr 3 0)) 55 (.d (.fn (.func 97) [] [.iptr [int ((b : Nat) : Int)], .iptr [int ((a : Nat) : Int)], .iptr [.iptr (encCh ss cs)]]))), (hset (hset (hset noHeap 1 (some (.box 9 [.d (str (bkAt ty (lastX cs a b) f (0)))]))) 2 (some (.box 9 [.d (str nul)]))) 3 (some (.box 4 [.d (boo false)])))⟩ from LE_sh (slh_set (v := .d (.fn (.func 97) [] [.iptr [int ((b : Nat) : Int)], .iptr [int ((a : Nat) : Int)], .iptr [.iptr (encCh ss cs)]])) (slh_set (v := .ptr 3 0) (slh_set (v := .ptr 2 0) (slh_set (v := .ptr 1 0) (slh_set (v := .d (.iptr [str ty])) (slh_no _ _) (by rfl) rfl) (by rfl) rfl) (by rfl) rfl) (by rfl) rfl) (by rfl) rfl) (hlh_set (hlh_set (hlh_set (hlh_no _ _) rfl rfl) rfl rfl) rfl rfl)) ?_
            refine CW_rangeH hE hF (last1 ss cs a b hab hb hfew) rfl rfl rfl (ysL_kf (lastX cs a b)) rfl 9 (fun i => (hset (hset (hset noHeap 1 (some (.box 9 [.d (str (bkAt ty (lastX cs a b) f (i)))]))) 2 (some (.box 9 [.d (str nul)]))) 3 (some (.box 4 [.d (boo false)])))) (fun i => ∃ g, bkX ty ((lastX cs a b).take i) f = some g) rfl (fun _ => rfl) ⟨f, rfl⟩ (fun F' n' Z' Br Bb hE hB vs i args hargs hp => ?_) (fun hp vs => ?_)
            · skip
              obtain ⟨c, hc, rfl⟩ := ysL_of hargs
              obtain ⟨g, hg⟩ := hp
              have hgi : bkAt ty (lastX cs a b) f i = g := bkAt_some hg
              refine CW_region ?_
              refine OW_alloc' hE 5 rfl rfl rfl rfl rfl rfl rfl ?_
              refine OW_store' hE rfl rfl rfl rfl rfl rfl rfl rfl rfl rfl rfl rfl ?_
              refine OW_end rfl ?_
              refine ⟨rfl, rfl, ?_⟩
              refine CW_block ?_
              refine CW_seq ?_
              refine CW_seq ?_
              refine CW_region ?_
              refine OW_run' hE.ok 4 rfl ?_
              refine OW_end rfl ?_
              refine CW_cond _ rfl (fun h6 => ?_) (fun h6 => ?_)
              · skip
                have m1 : (!(c.ty.toList == ty.toList)) = true := h6
                have hnx : bkX ty ((lastX cs a b).take (i + 1)) f = some g := by rw [bkX_succ hc hg]; exact bk_off m1
                have hcur : bkAt ty (lastX cs a b) f i = bkAt ty (lastX cs a b) f (i + 1) := hgi.trans (bkAt_some hnx).symm
                refine CW_exit ?_
                exact ⟨⟨Bb J, noSlots, (hset (hset (hset (hset noHeap 1 (some (.box 9 [.d (str (bkAt ty (lastX cs a b) f (i + 1)))]))) 2 (some (.box 9 [.d (str nul)]))) 3 (some (.box 4 [.d (boo false)]))) 9 (some (.ghost _ vs)))⟩, LE_sh (slh_no _ _) (hlh_set (hlh_set (hlh_set (hlh_set (hlh_no _ _) (by exact congrArg (fun z => some (Ent.box 9 [.d (str z)])) hcur) rfl) rfl rfl) rfl rfl) rfl rfl), J, rfl, rfl, rfl, ⟨_, hnx⟩⟩
              · skip
                have m1 : (!(c.ty.toList == ty.toList)) = false := h6
                refine CW_skip ?_
                refine CW_seq ?_
                refine CW_region ?_
                refine OW_run' hE.ok 2 rfl ?_
                refine OW_call' hE (backOk c (bkAt ty (lastX cs a b) f i)) rfl rfl rfl rfl rfl rfl rfl ?_
                refine OW_run' hE.ok 5 rfl ?_
                refine OW_end rfl ?_
                refine CW_seq ?_
                refine CW_seq ?_
                refine CW_region ?_
                refine OW_run' hE.ok 2 rfl ?_
                refine OW_end rfl ?_
                refine CW_cond _ rfl (fun h7 => ?_) (fun h7 => ?_)
                · skip
                  have m2 : (!(backX c (bkAt ty (lastX cs a b) f i)).2) = true := h7
                  refine CW_seq ?_
                  refine CW_region ?_
                  refine OW_store' hE rfl rfl rfl rfl rfl rfl rfl rfl rfl rfl rfl rfl ?_
                  refine OW_store' hE rfl rfl rfl rfl rfl rfl rfl rfl rfl rfl rfl rfl ?_
                  refine OW_end rfl ?_
                  refine CW_ret ⟨_, LE.refl _ _, J, _, fun h => h, rfl, rfl, ?_⟩
                  refine ⟨.inr rfl, rfl, ⟨_, rfl, rfl, ?_⟩, rfl⟩
                  rw [ba_none hgood hs (by rw [k1, k2]; rfl) (bkX_none (l := lastX cs a b) (i + 1) (by rw [bkX_succ hc hg]; exact bk_gone m1 (by rw [← hgi]; exact m2)))]; exact AVle.refl _
                · skip
                  have m2 : (!(backX c (bkAt ty (lastX cs a b) f i)).2) = false := h7
                  have hnx : bkX ty ((lastX cs a b).take (i + 1)) f = some (backX c g).1 := by rw [bkX_succ hc hg]; exact bk_on m1 (by rw [← hgi]; exact m2)
                  have hcur : (backX c (bkAt ty (lastX cs a b) f i)).1 = bkAt ty (lastX cs a b) f (i + 1) := by rw [hgi]; exact (bkAt_some hnx).symm
                  refine CW_skip ?_
                  refine CW_region ?_
                  refine OW_run' hE.ok 1 rfl ?_
                  refine OW_store' hE rfl rfl rfl rfl rfl rfl rfl rfl rfl rfl rfl rfl ?_
                  refine OW_end rfl ?_
                  exact ⟨⟨Bb J, noSlots, (hset (hset (hset (hset noHeap 1 (some (.box 9 [.d (str (bkAt ty (lastX cs a b) f (i + 1)))]))) 2 (some (.box 9 [.d (str nul)]))) 3 (some (.box 4 [.d (boo false)]))) 9 (some (.ghost _ vs)))⟩, LE_sh (slh_no _ _) (hlh_set (hlh_set (hlh_set (hlh_set (hlh_no _ _) (by exact congrArg (fun z => some (Ent.box 9 [.d (str z)])) hcur) rfl) rfl rfl) rfl rfl) rfl rfl), J, rfl, rfl, rfl, ⟨_, hnx⟩⟩
            · skip
              obtain ⟨g, hg⟩ := hp
              have hbk := bkAt_some hg
              have hgl : bkX ty (lastX cs a b) f = some g := by rw [ysL_length, List.take_length] at hg; exact hg
              refine CW_seq ?_
              refine CW_region ?_
              refine OW_run' hE.ok 1 rfl ?_
              refine OW_store' hE rfl rfl rfl rfl rfl rfl rfl rfl rfl rfl rfl rfl ?_
              refine OW_store' hE rfl rfl rfl rfl rfl rfl rfl rfl rfl rfl rfl rfl ?_
              refine OW_end rfl ?_
              refine CW_ret ?_
              refine ⟨.inr rfl, rfl, ⟨_, rfl, rfl, ?_⟩, rfl⟩
              rw [ba_some hgood hs (by rw [k1, k2]; rfl) hgl]
              show AVle (.tup [.d (str (bkAt ty (lastX cs a b) f (ysL (lastX cs a b)).length)), .d (boo true)]) _
              rw [hbk]
              exact AVle.refl _
end Go.Proofs.YtchpllgeahnmmaaDoor
