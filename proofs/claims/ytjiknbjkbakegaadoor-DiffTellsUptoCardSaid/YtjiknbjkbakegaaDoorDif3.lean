/- Parts of an abstract logic over the kit's walks, and walks in it: Dif3. -/
import Derived.Test.YtjiknbjkbakegaaDoorDif2
/- One thing changed: what the walk wants. -/
namespace Go.AL
set_option linter.unusedVariables false
theorem name_small {s : ByteArray} (h : isName s = true) : s.size ≤ 8 := by
  unfold isName at h
  simp only [Bool.and_eq_true, decide_eq_true_eq] at h
  exact h.2
theorem isPat_small {p : Pat} (h : isPat p = true) {i : Nat} {e : El} (he : p.els[i]? = some e) : e.al.size ≤ 8 ∧ e.tys.length ≤ 3 := by
  refine ⟨name_small (isPat_name h he), ?_⟩
  have := isPat_els h he
  unfold elOk isElemX headL at this
  simp only [Bool.and_eq_true, Bool.not_eq_true', decide_eq_false_iff_not] at this
  omega
theorem isPat_by {p : Pat} (h : isPat p = true) : p.byf.size ≤ 8 := by
  unfold isPat headP at h
  simp only [Bool.and_eq_true, Bool.not_eq_true', decide_eq_false_iff_not, Bool.and_eq_false_iff, Bool.not_eq_false'] at h
  obtain ⟨⟨_, _, _, _, _, _, h⟩, _⟩ := h
  cases g : same p.byf nul with
  | true => rw [same_eq g]; decide
  | false =>
    rcases h with h | h
    · rw [g] at h; cases h
    · exact name_small (by simpa using h)
theorem oneP_len {p : Pat} {c k : Nat} {x : El} : (oneP p c k x).els.length ≤ p.els.length + 1 := by
  unfold oneP
  cases (c == 1) <;> cases (c == 2) <;> cases (c == 3) <;> cases (c == 4) <;> simp
theorem c1N (c : Nat) : (((c : Nat) : Int) == 1) = (c == 1) := by
  by_cases h : c = 1
  · subst h; rfl
  · have h1 : (c == 1) = false := by simpa using h
    have h2 : (((c : Nat) : Int) == 1) = false := by simp; omega
    rw [h1, h2]
end Go.AL
