/- AL, part 21: '==' of structs of plain cells. -/
import Derived.Test.YthffbfjnahipcaaA20
import Derived.Laws.StructEq
namespace Go.AL
set_option linter.unusedVariables false
set_option linter.unusedSimpArgs false

def eqD : D → D → Option Bool
  | .lit (.int k a), .lit (.int k' b) => if k = k' then some (a == b) else none
  | .lit (.string a), .lit (.string b) => some (a.toList == b.toList)
  | .lit (.bool a), .lit (.bool b) => some (a == b)
  | _, _ => none
def eqDs : List D → List D → Option Bool
  | [], [] => some true
  | [x], [y] => eqD x y
  | x :: xs, y :: ys => match eqD x y, eqDs xs ys with
    | some a, some b => some (a && b)
    | _, _ => none
  | _, _ => none
def TK.basic : TK → Bool
  | .bool | .int _ | .str => true
  | _ => false
def flatK (T : Nat → Option TI) : List (TypeId × Nat) → Nat → Bool
  | [], _ => true
  | (t, o) :: fs, i => Nat.beq o i && (match T t with | some ti => ti.k.basic && Nat.beq ti.size 1 | none => false) && flatK T fs (i + 1)
def eqOkB (P : Program) (t : TypeId) : Bool := (match P.underlying t with
  | some (.struct fields) => fields.toList.all (fun f => !(f.name == "_"))
  | _ => false) && !P.stoodInHeld t && !P.eqGuardType P.depth t

section
variable {P : Program} {T : Nat → Option TI} (hT : TOk P T)
include hT
theorem run_eqD {d : Nat} {t : TypeId} {ti : TI} (ht : T t = some ti) (hb : ti.k.basic = true) {w' : World} {M : Nat → Prop} {x y : D} {a b : Value} (hx : RD w' M x a) (hy : RD w' M y b) {r : Bool} (he : eqD x y = some r)
    (hfx : ∃ u, x = .lit u) {w : World} (hk : ∀ k n, x = .lit (.int k n) → ti.k = .int k) (hs : ∀ n, x = .lit (.string n) → ti.k = .str) (hbb : ∀ n, x = .lit (.bool n) → ti.k = .bool) : (Op.equalIn (d + 1) t a b).run P w = .ok r w := by
  have hfit := (hT t _ ht).2
  unfold eqD at he
  split at he
  · rename_i k m k' n
    split at he
    · rename_i e
      subst e
      cases he
      obtain ⟨rfl, _⟩ := hx
      obtain ⟨rfl, _⟩ := hy
      rw [hk _ _ rfl] at hfit
      simp only [TK.fits] at hfit
      simp [Op.equalIn, run_underlying hfit]
    · cases he
  · cases he
    obtain ⟨rfl, _⟩ := hx
    obtain ⟨rfl, _⟩ := hy
    rw [hs _ rfl] at hfit
    simp only [TK.fits] at hfit
    exact run_equalIn_string w d t _ _ hfit
  · cases he
    obtain ⟨rfl, _⟩ := hx
    obtain ⟨rfl, _⟩ := hy
    rw [hbb _ rfl] at hfit
    simp only [TK.fits] at hfit
    simp [Op.equalIn, run_underlying hfit]
  · cases he
end

/-- The data are of the fields' kinds. -/
def kindD : TK → D → Bool
  | .bool, .lit (.bool _) => true
  | .int k, .lit (.int k' _) => decide (k = k')
  | .str, .lit (.string _) => true
  | _, _ => false
def kindsD (T : Nat → Option TI) : List (TypeId × Nat) → List D → Bool
  | [], [] => true
  | (t, _) :: fs, x :: xs => (match T t with | some ti => kindD ti.k x | none => false) && kindsD T fs xs
  | _, _ => false

section
variable {P : Program} {T : Nat → Option TI} (hT : TOk P T)
include hT
theorem run_eqFields {d : Nat} {w w' : World} {M : Nat → Prop} {xs ys : Array Value} : ∀ (fields : List Field) (i : Nat) (X Y : List D) (r : Bool), flatK T (fields.map fun f => (f.type, f.offset)) i = true → (fields.all fun f => !(f.name == "_")) = true →
    kindsD T (fields.map fun f => (f.type, f.offset)) X = true → (∀ j x v, X[j]? = some x → xs[i + j]? = some v → RD w' M x v) → (∀ j y v, Y[j]? = some y → ys[i + j]? = some v → RD w' M y v) → i + X.length = xs.size → i + Y.length = ys.size → X.length = Y.length →
    eqDs X Y = some r → (Op.eqFields (d + 1) xs ys fields).run P w = .ok r w
  | [], i, X, Y, r, _, _, hk, _, _, _, _, hl, he => by
    cases X with
    | nil =>
      cases Y with
      | nil => simp [eqDs] at he; subst he; simp [Op.eqFields]
      | cons y ys => simp at hl
    | cons x xs => simp [kindsD] at hk
  | f :: fields, i, [], Y, r, _, _, hk, _, _, _, _, hl, he => by simp [kindsD] at hk
  | f :: fields, i, x :: X, [], r, _, _, hk, _, _, _, _, hl, he => by simp at hl
  | f :: fields, i, x :: X, y :: Y, r, hf, hn, hk, hx, hy, hxs, hys, hl, he => by
    simp only [List.map_cons, flatK, Bool.and_eq_true] at hf
    obtain ⟨⟨ho, hti⟩, hf⟩ := hf
    have ho : f.offset = i := Nat.eq_of_beq_eq_true ho
    cases ht : T f.type with
    | none => rw [ht] at hti; cases hti
    | some ti =>
      rw [ht] at hti
      simp only [Bool.and_eq_true] at hti
      have hsz : ti.size = 1 := Nat.eq_of_beq_eq_true hti.2
      simp only [List.all_cons, Bool.and_eq_true, Bool.not_eq_true', beq_eq_false_iff_ne, ne_eq] at hn
      simp only [List.map_cons, kindsD, ht, Bool.and_eq_true] at hk
      have hagg : ti.k.isAgg = false := by
        have := hti.1
        cases h : ti.k <;> simp [TK.basic, h] at this <;> rfl
      simp only [List.length_cons] at hxs hys hl
      have hxi : i < xs.size := by omega
      have hyi : i < ys.size := by omega
      have px : (part f.type xs f.offset).run P w = .ok xs[i] w := by
        have ha := run_agg hT ht w
        rw [hagg] at ha
        simp [part, ha, ho, hxi]
      have py : (part f.type ys f.offset).run P w = .ok ys[i] w := by
        have ha := run_agg hT ht w
        rw [hagg] at ha
        simp [part, ha, ho, hyi]
      have hrx := hx 0 x xs[i] rfl (by simp [hxi])
      have hry := hy 0 y ys[i] rfl (by simp [hyi])
      have one : ∀ q, eqD x y = some q → (Op.equalIn (d + 1) f.type xs[i] ys[i]).run P w = .ok q w := fun q hq => by
        have hkd := hk.1
        refine run_eqD hT ht hti.1 hrx hry hq ?_ ?_ ?_ ?_
        · unfold eqD at hq
          split at hq <;> first | exact ⟨_, rfl⟩ | cases hq
        · rintro k n rfl; cases h : ti.k <;> simp [kindD, h] at hkd; simp [hkd]
        · rintro n rfl; cases h : ti.k <;> simp [kindD, h] at hkd; rfl
        · rintro n rfl; cases h : ti.k <;> simp [kindD, h] at hkd; rfl
      have ih := run_eqFields (d := d) (w := w) (w' := w') (M := M) (xs := xs) (ys := ys) fields (i + 1) X Y
      have step : ∀ q s, eqD x y = some q → (Op.eqFields (d + 1) xs ys fields).run P w = .ok s w → (Op.eqFields (d + 1) xs ys (f :: fields)).run P w = .ok (q && s) w := fun q s hq hs => by
        simp only [Op.eqFields, if_pos hn.1, Sem.run_bind, px, py, one q hq, Result.andThen_ok]
        cases q
        · simp
        · simpa using hs
      have hx' : ∀ j x v, X[j]? = some x → xs[i + 1 + j]? = some v → RD w' M x v := fun j x v h1 h2 => hx (j + 1) x v (by simpa using h1) (by rw [← h2]; congr 1; omega)
      have hy' : ∀ j y v, Y[j]? = some y → ys[i + 1 + j]? = some v → RD w' M y v := fun j y v h1 h2 => hy (j + 1) y v (by simpa using h1) (by rw [← h2]; congr 1; omega)
      have ihr : ∀ s, eqDs X Y = some s → (Op.eqFields (d + 1) xs ys fields).run P w = .ok s w := fun s hs => ih s hf (by simpa using hn.2) hk.2 hx' hy' (by omega) (by omega) (by omega) hs
      cases X with
      | nil =>
        cases Y with
        | nil =>
          simp only [eqDs] at he
          have := step r true he (ihr true rfl)
          rwa [Bool.and_true] at this
        | cons y2 Y => simp at hl
      | cons x2 X =>
        simp only [eqDs] at he
        split at he
        · rename_i q s hq hs
          cases he
          exact step q s hq (ihr s hs)
        · cases he

/-- '==' of structs whose fields are plain. -/
theorem eqLaw_flat {t : TypeId} {fs : List (TypeId × Nat)} {z1 z2 : Nat} {z3 : List Value} (ht : T t = some ⟨.struct fs, z1, z2, z3⟩) (hok : eqOkB P t = true) (hfl : flatK T fs 0 = true) {X Y : List D} (hk : kindsD T fs X = true) (hl : X.length = Y.length) {r : Bool} (he : eqDs X Y = some r) :
    EqLaw P t (X.map .d) (Y.map .d) r := by
  intro C xs ys w xo yo hx hy
  obtain ⟨fields, hu, hfs⟩ := (hT t _ ht).2
  unfold eqOkB at hok
  rw [hu] at hok
  simp only [Bool.and_eq_true, Bool.not_eq_true'] at hok
  obtain ⟨⟨hn, hsh⟩, hg⟩ := hok
  have hx' := RAs_map_d.1 hx
  have hy' := RAs_map_d.1 hy
  have get : ∀ {Z : List D} {zs : Array Value}, RDs C.w C.M Z zs.toList → ∀ j x v, Z[j]? = some x → zs[0 + j]? = some v → RD C.w C.M x v := fun {Z zs} hz j x v h1 h2 => by
    obtain ⟨v', e, h3⟩ := RAs_get (C := C) (RAs_map_d.2 hz) (i := j) (x := .d x) (by simp [h1])
    rw [Nat.zero_add] at h2
    have : v' = v := by
      have e' : zs[j]? = some v' := by simpa using e
      rw [h2] at e'; exact (Option.some.inj e').symm
    subst this
    exact h3
  have hlx := RDs_length hx'
  have hly := RDs_length hy'
  have hfd : P.fieldsOf t = fields := by simp [Program.fieldsOf, hu]
  have run : (Op.equalIn 10000 t (.agg xs) (.agg ys)).run P w = .ok r w := by
    rw [run_equalIn_struct (P := P) w 9999 t xs ys (by rw [hfd]; exact hu) hsh, hfd]
    exact run_eqFields hT (w' := C.w) (M := C.M) fields.toList 0 X Y r (by rw [hfs]; exact hfl) hn (by rw [hfs]; exact hk) (get hx') (get hy') (by simpa using hlx.symm) (by simpa using hly.symm) hl he
  have run' : (Op.equal t (.agg xs) (.agg ys)).run P w = .ok r w := run
  constructor
  · simp only [Sem.run_bind, run_eqGuard_agg w .eql t xo yo xs ys hg, Result.andThen_ok]
    simp [binOp, run']
  · simp only [Sem.run_bind, run_eqGuard_agg w .neq t xo yo xs ys hg, Result.andThen_ok]
    simp [binOp, run']
end
end Go.AL
