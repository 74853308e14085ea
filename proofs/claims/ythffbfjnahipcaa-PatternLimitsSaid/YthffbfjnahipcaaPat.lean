/- Patterns as plain data. Nothing of a program. -/
import Derived.Test.YthffbfjnahipcaaEx
namespace Go.AL
set_option linter.unusedVariables false
set_option linter.unusedSimpArgs false

structure El where
  al : ByteArray
  tys : List ByteArray
  plus : Bool
  neg : Bool
  cond : Exp
def encL (e : El) : List D := str e.al :: .sl 1 16 (e.tys.map encB) :: boo e.plus :: boo e.neg :: encX e.cond
def argL (e : El) : AV := .agg ((encL e).map .d)
structure Pat where
  els : List El
  within : Int
  byf : ByteArray
  any : Bool
def encP (p : Pat) : List D := [.sl 11 144 (p.els.map encL), int p.within, str p.byf, boo p.any]
def argP (p : Pat) : AV := .agg ((encP p).map .d)
theorem El.shape (e : El) : ∃ al tys p n o v a f k, e = ⟨al, tys, p, n, .mk o v a f k⟩ := by
  obtain ⟨al, tys, p, n, c⟩ := e
  cases c
  exact ⟨_, _, _, _, _, _, _, _, _, rfl⟩
def sameL (a b : El) : Bool := same a.al b.al && (allSame same a.tys b.tys && ((a.plus == b.plus) && ((a.neg == b.neg) && sameX a.cond b.cond)))
def sameP (a b : Pat) : Bool := allSame sameL a.els b.els && ((a.within == b.within) && (same a.byf b.byf && (a.any == b.any)))
def headL (e : El) : Bool := isName e.al && (!(decide ((e.tys.length : Int) < 1)) && (!(decide ((e.tys.length : Int) > 3)) && (rise e.tys && !(e.plus && e.neg))))
def isElemX (e : El) : Bool := headL e && (e.tys.all isName && (sameX e.cond zeroX || isX e.cond))
def negAt (p : Pat) (i : Nat) : Bool := match p.els[i]? with
  | some e => e.neg
  | none => false
def headP (p : Pat) : Bool := !(decide ((p.els.length : Int) < 1)) && (!(decide ((p.els.length : Int) > 5)) && (!(negAt p 0) && (!(negAt p (p.els.length - 1)) && (!(decide (p.within < 0)) && (!(decide (p.within > 1000)) && !(!(same p.byf nul) && !(isName p.byf)))))))
def elOk (p : Pat) (i : Nat) (e : El) : Bool := isElemX e && (!((p.els.take i).any fun x => same x.al e.al) && !(e.neg && negAt p (i - 1)))
def elsOk (p : Pat) : Bool := (List.range p.els.length).all fun i => match p.els[i]? with
  | some e => elOk p i e
  | none => false
def isPat (p : Pat) : Bool := headP p && elsOk p
theorem elsOk_bad {p : Pat} {i : Nat} {e : El} (h : p.els[i]? = some e) (hb : elOk p i e = false) : elsOk p = false := by
  unfold elsOk
  rw [List.all_eq_false]
  exact ⟨i, by simpa using (List.getElem?_eq_some_iff.1 h).1, by simp [h, hb]⟩
theorem elsOk_all {p : Pat} (h : ∀ i e, i < p.els.length → p.els[i]? = some e → elOk p i e = true) : elsOk p = true := by
  unfold elsOk
  rw [List.all_eq_true]
  intro i hi
  have hi : i < p.els.length := by simpa using hi
  rw [List.getElem?_eq_getElem hi]
  exact h i _ hi (List.getElem?_eq_getElem hi)
theorem isPat_bad {p : Pat} {i : Nat} {e : El} (hh : headP p = true) (h : p.els[i]? = some e) (hb : elOk p i e = false) : isPat p = false := by
  unfold isPat; rw [hh, elsOk_bad h hb]; rfl
theorem negAt_of {p : Pat} {i : Nat} {e : El} (h : p.els[i]? = some e) : negAt p i = e.neg := by unfold negAt; rw [h]
theorem isElem_bad {e : El} {i : Nat} {t : ByteArray} (hh : headL e = true) (h : e.tys[i]? = some t) (hb : isName t = false) : isElemX e = false := by
  have : e.tys.all isName = false := by rw [List.all_eq_false]; exact ⟨t, List.mem_of_getElem? h, by simp [hb]⟩
  unfold isElemX; rw [hh, this]; rfl
theorem headP_first {p : Pat} (h : headP p = true) : negAt p 0 = false := by
  unfold headP at h
  simp only [Bool.and_eq_true, Bool.not_eq_true'] at h
  exact h.2.2.1
theorem wrapS {n : Nat} (h : n ≤ 140737488355328) : IntKind.i64.wrap (n : Int) = (n : Int) :=
  wrap_id _ _ (by have : IntKind.i64.min = -9223372036854775808 := rfl; omega) (by have : IntKind.i64.max = 9223372036854775807 := rfl; omega)

theorem Does_le {P : Program} {f : Nat} {A A' : List AV} {h : Heap} {R : AV} (hA : AVles A' A) (d : Does P f A h R) : Does P f A' h R :=
  ⟨d.1, fun n Z w vs hZ hv => d.2 n Z w vs hZ (hA _ _ hv)⟩
def nilX : AV := .agg [.d (int 0), .d (int 0), .d (int 0), .d (str nul), .d (str nul), .d (str nul), .d (.lit (.slice none 0 0))]
theorem nilX_le : AVle nilX (argX zeroX) := AVle.agg (.cons (.refl _) (.cons (.refl _) (.cons (.refl _) (.cons (.refl _) (.cons (.refl _) (.cons (.refl _) (.cons (.nilSl 7 96) .nil)))))))
def zeroP : Pat := ⟨[], 0, nul, false⟩
def nilP : AV := .agg [.d (.lit (.slice none 0 0)), .d (int 0), .d (str nul), .d (boo false)]
theorem nilP_le : AVle nilP (argP zeroP) := AVle.agg (.cons (.nilSl 11 144) (.cons (.refl _) (.cons (.refl _) (.cons (.refl _) .nil))))
/-! what 'known' asks -/
def kTt : ByteArray := ⟨#[116]⟩
def x6a : Exp := .mk 2 ⟨0, 0, nul⟩ kA kX []
def x6b : Exp := .mk 1 ⟨1, 3, nul⟩ nul nul []
def x6e : Exp := .mk 8 ⟨0, 0, nul⟩ nul nul [x6a, x6b]
def kP : Pat := ⟨[⟨kA, [kTt], false, false, x6e⟩], 5, nul, false⟩
theorem z1 : kidsN 12 = 1 := rfl
theorem z2 : kidsN 11 = 2 := rfl
theorem z3 : kidsN 1 = 0 := rfl
theorem z4 : isX x6e = true := by decide +kernel
theorem z5 : isX zeroX = false := by decide +kernel
theorem z6 : depthX x6e 1 = 2 := by decide +kernel
theorem z7 : nodesX x6e 1 = [x6e, x6a, x6b] := rfl
theorem z8 : sameX x6e x6e = true := by decide +kernel
theorem z9 : sameX x6e x6b = false := by decide +kernel
theorem z10 : isPat kP = true := by decide +kernel
theorem z11 : isPat zeroP = false := by decide +kernel
theorem z12 : sameP kP kP = true := by decide +kernel
theorem z13 : sameP kP zeroP = false := by decide +kernel
end Go.AL
