/-
  DERIVED: THE SHELF's CONTRACTS AT THIS DUMP, IN PLAIN WORDS (tools/lay-plain.mjs out of 'YtmocmkfpblakbaaGreatDoorTz0.lean', which tools/lay-shelf.mjs wrote): THE SAME DECLARATIONS UNDER THE SAME NAMES: 'import', 'namespace', 'open', 'def', 'theorem' AND NOTHING ELSE: no command of the shelf's: FOR A HAND-IN. Each laying: the table of numbers ('.._ren') and one theorem, a field a fact of the dump's own or the kernel's comparison; each contract: ONE APPLICATION.
-/
import Derived.Shelf.Spec.TrailingZeros
import Derived.Ground.Names7Prog
import Derived.Test.YtmocmkfpblakbaaGreatDoorProg
namespace Go.Proofs
open Go.Shelf
def Tryz.lays7x29_ren : Go.Shelf.Ren := ⟨fun | 29 => 75 | n => n, fun | 22 => 40 | 3 => 3 | 4 => 4 | 25 => 44 | 54 => 133 | 0 => 0 | 5 => 5 | n => n, fun | 1 => 1 | n => n⟩
theorem Tryz.lays7x29 : Go.Proofs.Lays7.n29 Tryz.prog Tryz.lays7x29_ren := {
  mixed := by kernel_rfl
  f29 := Tryz.func75.trans (congrArg some (by kernel_rfl))
  t0 := Tryz.underlying0
  a0 := Tryz.isAgg0
  z0 := Tryz.sizeOf0
  v0 := Tryz.zeroValue0
  i0 := by kernel_rfl
  t3 := Tryz.underlying3
  a3 := Tryz.isAgg3
  z3 := Tryz.sizeOf3
  v3 := Tryz.zeroValue3
  i3 := by kernel_rfl
  t4 := Tryz.underlying4
  a4 := Tryz.isAgg4
  z4 := Tryz.sizeOf4
  v4 := Tryz.zeroValue4
  i4 := by kernel_rfl
  t5 := Tryz.underlying5
  a5 := Tryz.isAgg5
  z5 := Tryz.sizeOf5
  v5 := Tryz.zeroValue5
  i5 := by kernel_rfl
  t22 := Tryz.underlying40
  a22 := Tryz.isAgg40
  z22 := Tryz.sizeOf40
  v22 := Tryz.zeroValue40
  i22 := by kernel_rfl
  t25 := Tryz.underlying44
  a25 := Tryz.isAgg44
  z25 := Tryz.sizeOf44
  v25 := Tryz.zeroValue44
  i25 := by kernel_rfl
  t54 := Tryz.underlying133
  a54 := Tryz.isAgg133
  z54 := Tryz.sizeOf133
  g1 := by kernel_rfl }
open Go.RowKit in
/-- The noughts at a word's low end, under its table. -/
theorem Tryz.bits_TrailingZeros64 (x : Nat) (hx : x < 18446744073709551616) (w : World) (hT : x ≠ 0 → TabAt 1 Lib.deBruijn64tab w) :
    Calls Tryz.prog 75 #[.int .u64 x] w fun e w' => e = .returned (.int .i64 (Lib.ctz 64 x)) ∧ w' = w := Any7.bits_TrailingZeros64 Tryz.lays7x29 x hx w hT
end Go.Proofs
