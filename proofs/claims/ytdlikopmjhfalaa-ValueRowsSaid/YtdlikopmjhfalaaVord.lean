/- Texts in order: what '>' tells. -/
import Derived.Test.YtdlikopmjhfalaaVal
namespace Go.AL
theorem gtr_less {a s : ByteArray} (h : (!(Op.bytesLess a.toList s.toList || a.toList == s.toList)) = true) : less s a = true := by
  simp only [Bool.not_eq_true', Bool.or_eq_false_iff] at h
  exact less_total (by simpa [same] using h.2) h.1
theorem gtr_not {a s : ByteArray} (h : (!(Op.bytesLess a.toList s.toList || a.toList == s.toList)) = false) (hs : same a s = false) : less s a = false := by
  simp only [Bool.not_eq_false', Bool.or_eq_true] at h
  rcases h with h | h
  · exact less_asymm h
  · unfold same at hs; rw [hs] at h; cases h
end Go.AL
