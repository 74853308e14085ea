/- Parts of an abstract logic over the kit's walks, and walks in it: A61. -/
import Derived.Test.YtchpllgeahnmmaaDoorA60
/- AL, part 61: 'append(nil, data...)' gives data. -/
namespace Go.AL
set_option linter.unusedVariables false
set_option linter.unusedSimpArgs false
section
variable {E : Env} {ops : List Oper} {J : Jt} {s : Slots} {h : Heap}
theorem loc_appendNil (hE : E.Good) {o : Oper} {t e : TypeId} {so xo : Operand} (hop : o.op = .call ⟨.builtin .append, #[so, xo], #[t, t]⟩) {z1 z2 : Nat} {z3 : List Value} (ht : E.T t = some ⟨.slice e, z1, z2, z3⟩)
    {k : TK} {sz bts : Nat} {z6 : List Value} (hte : E.T e = some ⟨k, sz, bts, z6⟩) (hpos : Nat.ble 1 sz = true) (hso : ev s so = .d (.lit (.slice none 0 0))) {ys : List (List D)} (hxo : ev s xo = .d (.sl sz bts ys))
    (hn : ys.length ≤ 140737488355328) (hb : ys.length * bts ≤ 140737488355328) (hsz : ∀ y ∈ ys, y.length = sz) : Loc E ops J h o s (.d (.sl sz bts ys)) := by
  refine ⟨(by rw [hop]; intro c hc; cases hc), fun Z K Y ι a w m hl => ?_⟩
  obtain ⟨dst, op, ty, pos, af, gd⟩ := o
  simp only at hop
  subst hop
  have h1 := hl so (by simp [Op.operands, Call.operands])
  have h2 := hl xo (by simp [Op.operands, Call.operands])
  rw [hso] at h1
  rw [hxo] at h2
  obtain ⟨e1, _⟩ := RA_lit.1 h1
  obtain ⟨news, g1, g2, g3⟩ := Src_of h2
  obtain ⟨v', w', hr, q1, q2, q3⟩ := run_append_any hE.ok.T ht (ty := ty) hte hpos (n := 0) (m := ys.length) (v := .slice none 0 0) (vs := []) (.inl ⟨none, rfl, rfl, rfl⟩) (by simp) g1 g3 (RDs_one g2) (by omega) (by simpa using hb)
  have hgr : Grew w w' := ⟨q2.os, q2.tape, q2.output, q2.size, fun b hb => q2.block b ⟨hb, by simp [blk]⟩⟩
  refine ⟨v', w', exec_append (by rw [e1]; exact hr), hgr, ?_⟩
  have kk : KeepsC (cx Z h ι w) (cx Z h ι w') := keepsC_grew (K := K) (J := J K Y Z) hgr
  have g2' := RDs_keeps kk.d _ _ g2
  simp only [RA, RD]
  rcases q1 with ⟨a0, e0, hz, hv⟩ | ⟨g, cap, cur, e0, hc0, hg, hnc, hcm, hcs, htk⟩
  · have hy : ys = [] := List.eq_nil_of_length_eq_zero (by omega)
    subst hy
    exact ⟨a0, 0, by rw [e0]; rfl, by simp, by simp, by simp, .inl rfl⟩
  · have hbk : blk v' = some g := by rw [e0]; simp [blk]; omega
    have hnew : w.heap.size ≤ g := by
      rcases (q3 g hbk).2 with h | h
      · simp [blk] at h
      · exact h
    refine ⟨some ⟨g, 0, none⟩, cap, by rw [e0, Nat.zero_add], by omega, hb, hn, .inr ⟨g, 0, rfl, fun hm => ?_, ⟨_, _, _, hg⟩, RCs_of_flat hsz (RC_of_list g2' fun j v hj => ?_)⟩⟩
    · rcases hm with hz | ⟨j, hj, hjb⟩
      · have := m.Zlt g hz; omega
      · have := (m.own j g hj hjb).2.2; omega
    · rw [cell_of_row w' g _ cur e (0, 0) hg]
      have htk' : cur.toList.take ((0 + ys.length) * sz) = news := by simpa using htk
      rw [← htk', List.getElem?_take] at hj
      split at hj
      · simpa using hj
      · cases hj
end
end Go.AL
