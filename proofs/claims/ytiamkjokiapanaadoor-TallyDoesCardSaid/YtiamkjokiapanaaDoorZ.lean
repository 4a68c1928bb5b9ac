/- math/bits.TrailingZeros by the shelf's contract, at this program's numbers. -/
import Derived.Shelf.Spec.TrailingZeros
import Derived.Test.YtiamkjokiapanaaDoorC
namespace Go.Proofs.YtiamkjokiapanaaDoor
open Go.RowKit Go.Shelf Go.Proofs.YtiamkjokiapanaaDoorW.PrintWords

def zren : Ren := ⟨fun | 27 => 37 | 28 => 40 | 29 => 41 | n => n,
  fun | 0 => 0 | 3 => 3 | 4 => 4 | 5 => 5 | 22 => 48 | 25 => 40 | 27 => 46 | 53 => 57 | 54 => 58 | n => n,
  fun | 0 => 0 | 1 => 1 | n => n⟩
theorem zlays : Lays7.n27 Tryd.prog zren := {
  mixed := by kernel_rfl
  f27 := Tryd.func37.trans (congrArg some (by kernel_rfl))
  f28 := Tryd.func40.trans (congrArg some (by kernel_rfl))
  f29 := Tryd.func41.trans (congrArg some (by kernel_rfl))
  t0 := by kernel_rfl
  a0 := fun _ => by kernel_rfl
  z0 := fun _ => by kernel_rfl
  v0 := fun _ => by kernel_rfl
  i0 := by kernel_rfl
  t3 := by kernel_rfl
  a3 := fun _ => by kernel_rfl
  z3 := fun _ => by kernel_rfl
  v3 := fun _ => by kernel_rfl
  i3 := by kernel_rfl
  t4 := by kernel_rfl
  a4 := fun _ => by kernel_rfl
  z4 := fun _ => by kernel_rfl
  v4 := fun _ => by kernel_rfl
  i4 := by kernel_rfl
  t5 := by kernel_rfl
  a5 := fun _ => by kernel_rfl
  z5 := fun _ => by kernel_rfl
  v5 := fun _ => by kernel_rfl
  i5 := by kernel_rfl
  t22 := by kernel_rfl
  a22 := fun _ => by kernel_rfl
  z22 := fun _ => by kernel_rfl
  v22 := fun _ => by kernel_rfl
  i22 := by kernel_rfl
  t25 := by kernel_rfl
  a25 := fun _ => by kernel_rfl
  z25 := fun _ => by kernel_rfl
  v25 := fun _ => by kernel_rfl
  i25 := by kernel_rfl
  t27 := by kernel_rfl
  a27 := fun _ => by kernel_rfl
  z27 := fun _ => by kernel_rfl
  v27 := fun _ => by kernel_rfl
  i27 := by kernel_rfl
  t53 := by kernel_rfl
  a53 := fun _ => by kernel_rfl
  z53 := fun _ => by kernel_rfl
  v53 := fun _ => by kernel_rfl
  i53 := by kernel_rfl
  t54 := by kernel_rfl
  a54 := fun _ => by kernel_rfl
  z54 := fun _ => by kernel_rfl
  g0 := by kernel_rfl
  g1 := by kernel_rfl }
theorem tz_any (x : Nat) (hx : x < 128) (w : World) (hT : TabAt 1 Lib.deBruijn64tab w) :
    Calls Tryd.prog 37 #[.int .u64 x] w fun e w' => e = .returned (.int .i64 (Lib.ctz 64 x)) ∧ w' = w :=
  Any7.bits_TrailingZeros zlays x (by omega) w (fun _ => hT)
end Go.Proofs.YtiamkjokiapanaaDoor
