/- slices.Insert at texts, of this program. -/
import Derived.Test.YtdlikopmjhfalaaV1a
namespace Go.Proofs.Ytdlikopmjhfalaa
open Go Go.AL Go.Proofs Go.Shelf
def ρi : Ren := ⟨fun x => bif Nat.beq x 22 then 63 else bif Nat.beq x 17 then 71 else bif Nat.beq x 29 then 67 else bif Nat.beq x 30 then 68 else bif Nat.beq x 36 then 70 else x, fun x => bif Nat.beq x 24 then 57 else x, fun x => x⟩
theorem zv {t : TypeId} {v : Value} (h : (Try.prog.info? t).bind (fun i => i.zero) = some v) (w : World) : (zeroValue t).run Try.prog w = .ok v w := by
  cases hi : Try.prog.info? t with
  | none => rw [hi] at h; cases h
  | some i => rw [hi] at h; simp at h; simp [zeroValue, typeInfo, hi, h]
theorem lays22 : Lays2.n22 Try.prog ρi where
  mixed := mixed
  f17 := by kernel_rfl
  f22 := by kernel_rfl
  f29 := by kernel_rfl
  f30 := by kernel_rfl
  f36 := by kernel_rfl
  t0 := by kernel_rfl
  a0 := fun w => by kernel_rfl
  z0 := fun w => by kernel_rfl
  v0 := fun w => zv (by kernel_rfl) w
  t3 := by kernel_rfl
  a3 := run_agg T_ok (t := 3) rfl
  z3 := run_size T_ok (t := 3) rfl
  v3 := zv (by kernel_rfl)
  t4 := by kernel_rfl
  a4 := run_agg T_ok (t := 4) rfl
  z4 := run_size T_ok (t := 4) rfl
  v4 := zv (by kernel_rfl)
  t9 := by kernel_rfl
  a9 := run_agg T_ok (t := 9) rfl
  z9 := run_size T_ok (t := 9) rfl
  v9 := zv (by kernel_rfl)
  t24 := by kernel_rfl
  a24 := run_agg T_ok (t := 57) rfl
  z24 := run_size T_ok (t := 57) rfl
  v24 := zv (by kernel_rfl)
  i9 := by kernel_rfl
theorem insOk : Ins Try.prog 63 9 1 16 := Ins_string lays22 ⟨Try.f63, Try.func63, by kernel_rfl, by kernel_rfl⟩
end Go.Proofs.Ytdlikopmjhfalaa
