/-
  DERIVED: THE SHELF's CONTRACTS AT THIS DUMP, IN PLAIN WORDS (tools/lay-plain.mjs out of 'YtopnhplacdbkdaaGreatShelf0.lean', which tools/lay-shelf.mjs wrote): THE SAME DECLARATIONS UNDER THE SAME NAMES: 'import', 'namespace', 'open', 'def', 'theorem' AND NOTHING ELSE: no command of the shelf's: FOR A HAND-IN. Each laying: the table of numbers ('.._ren') and one theorem, a field a fact of the dump's own or the kernel's comparison; each contract: ONE APPLICATION.
-/
import Derived.Shelf.SlGeneric
import Derived.Shelf.SlIter.Nil
import Derived.Shelf.SortM.Plain
import Derived.Shelf.SortM.SortNone
import Derived.Ground.GgzProg
import Derived.Ground.SlgmProg
import Derived.Test.YtopnhplacdbkdaaGreatProg
namespace Go.Proofs
open Go.Shelf
def Tryz.keysDisk_ren : Go.Shelf.Ren := ⟨fun | 7 => 49 | 10 => 82 | n => n, fun | 23 => 44 | 26 => 9 | 3 => 70 | 28 => 74 | 0 => 0 | 27 => 73 | 33 => 63 | 4 => 4 | n => n, fun | n => n⟩
theorem Tryz.keysDisk : Go.Proofs.SlLaysZ.n7 Tryz.prog Tryz.keysDisk_ren := {
  mixed := by kernel_rfl
  f7 := ⟨Tryz.f49.name, by decide, Tryz.func49.trans (congrArg some (by kernel_rfl))⟩
  f10 := ⟨Tryz.f82.name, by decide, Tryz.func82.trans (congrArg some (by kernel_rfl))⟩
  t0 := Tryz.underlying0
  a0 := Tryz.isAgg0
  z0 := Tryz.sizeOf0
  v0 := Tryz.zeroValue0
  t4 := Tryz.underlying4
  a4 := Tryz.isAgg4
  z4 := Tryz.sizeOf4
  v4 := Tryz.zeroValue4
  t23 := Tryz.underlying44
  a23 := Tryz.isAgg44
  z23 := Tryz.sizeOf44
  v23 := Tryz.zeroValue44
  t26 := Tryz.underlying9
  a26 := Tryz.isAgg9
  z26 := Tryz.sizeOf9
  v26 := Tryz.zeroValue9
  t27 := Tryz.underlying73
  a27 := Tryz.isAgg73
  z27 := Tryz.sizeOf73
  v27 := Tryz.zeroValue73
  t28 := Tryz.underlying74
  a28 := Tryz.isAgg74
  z28 := Tryz.sizeOf74
  v28 := Tryz.zeroValue74
  t33 := Tryz.underlying63
  a33 := Tryz.isAgg63
  z33 := Tryz.sizeOf63
  v33 := Tryz.zeroValue63 }
def Tryz.sortedStr_ren : Go.Shelf.Ren := ⟨fun | 6 => 48 | 8 => 80 | 9 => 81 | 11 => 94 | 13 => 96 | 12 => 95 | 23 => 107 | 24 => 108 | 14 => 98 | 15 => 99 | 16 => 100 | 17 => 101 | 18 => 102 | 19 => 103 | 20 => 104 | 21 => 105 | 22 => 106 | 25 => 109 | 26 => 110 | 27 => 111 | 28 => 112 | 29 => 113 | 30 => 114 | 31 => 115 | n => n, fun | 26 => 9 | 28 => 74 | 24 => 41 | 0 => 0 | 3 => 3 | 37 => 93 | 48 => 85 | 50 => 112 | 4 => 4 | 40 => 104 | 39 => 103 | 45 => 108 | 5 => 5 | 9 => 9 | 51 => 113 | 55 => 117 | 57 => 119 | 58 => 120 | 33 => 63 | n => n, fun | n => n⟩
theorem Tryz.sortedStr : Go.Proofs.SlLaysZ.n6 Tryz.prog Tryz.sortedStr_ren := {
  mixed := by kernel_rfl
  f6 := ⟨Tryz.f48.name, by decide, Tryz.func48.trans (congrArg some (by kernel_rfl))⟩
  f8 := ⟨Tryz.f80.name, by decide, Tryz.func80.trans (congrArg some (by kernel_rfl))⟩
  f11 := ⟨Tryz.f94.name, by decide, Tryz.func94.trans (congrArg some (by kernel_rfl))⟩
  t0 := Tryz.underlying0
  a0 := Tryz.isAgg0
  z0 := Tryz.sizeOf0
  v0 := Tryz.zeroValue0
  t24 := Tryz.underlying41
  a24 := Tryz.isAgg41
  z24 := Tryz.sizeOf41
  v24 := Tryz.zeroValue41
  t26 := Tryz.underlying9
  a26 := Tryz.isAgg9
  z26 := Tryz.sizeOf9
  v26 := Tryz.zeroValue9
  t28 := Tryz.underlying74
  a28 := Tryz.isAgg74
  z28 := Tryz.sizeOf74
  v28 := Tryz.zeroValue74
  i26 := by kernel_rfl }
def Tryz.sortStr_ren : Go.Shelf.Ren := ⟨fun | 6 => 81 | 8 => 96 | 9 => 95 | 19 => 107 | 20 => 108 | 21 => 98 | 22 => 99 | 23 => 100 | 24 => 101 | 25 => 102 | 26 => 103 | 27 => 104 | 28 => 105 | 29 => 106 | 36 => 109 | 31 => 110 | 32 => 111 | 37 => 112 | 38 => 113 | 39 => 114 | 41 => 115 | n => n, fun | 27 => 41 | 29 => 9 | 3 => 3 | 32 => 93 | 26 => 41 | 0 => 0 | 44 => 85 | 46 => 112 | 4 => 4 | 36 => 104 | 35 => 103 | 41 => 108 | 5 => 5 | 9 => 9 | 53 => 113 | 57 => 117 | 63 => 119 | 64 => 120 | n => n, fun | n => n⟩
theorem Tryz.sortStr : Go.Proofs.SlLaysM.n6 Tryz.prog Tryz.sortStr_ren := {
  mixed := by kernel_rfl
  f6 := ⟨Tryz.f81.name, by decide, Tryz.func81.trans (congrArg some (by kernel_rfl))⟩
  f8 := Tryz.func96.trans (congrArg some (by kernel_rfl))
  f9 := ⟨Tryz.f95.name, by decide, Tryz.func95.trans (congrArg some (by kernel_rfl))⟩
  f19 := Tryz.func107.trans (congrArg some (by kernel_rfl))
  f20 := Tryz.func108.trans (congrArg some (by kernel_rfl))
  f21 := ⟨Tryz.f98.name, by decide, Tryz.func98.trans (congrArg some (by kernel_rfl))⟩
  f22 := ⟨Tryz.f99.name, by decide, Tryz.func99.trans (congrArg some (by kernel_rfl))⟩
  f23 := ⟨Tryz.f100.name, by decide, Tryz.func100.trans (congrArg some (by kernel_rfl))⟩
  f24 := ⟨Tryz.f101.name, by decide, Tryz.func101.trans (congrArg some (by kernel_rfl))⟩
  f25 := ⟨Tryz.f102.name, by decide, Tryz.func102.trans (congrArg some (by kernel_rfl))⟩
  f26 := ⟨Tryz.f103.name, by decide, Tryz.func103.trans (congrArg some (by kernel_rfl))⟩
  f27 := ⟨Tryz.f104.name, by decide, Tryz.func104.trans (congrArg some (by kernel_rfl))⟩
  f28 := ⟨Tryz.f105.name, by decide, Tryz.func105.trans (congrArg some (by kernel_rfl))⟩
  f29 := ⟨Tryz.f106.name, by decide, Tryz.func106.trans (congrArg some (by kernel_rfl))⟩
  f31 := Tryz.func110.trans (congrArg some (by kernel_rfl))
  f32 := Tryz.func111.trans (congrArg some (by kernel_rfl))
  f36 := ⟨Tryz.f109.name, by decide, Tryz.func109.trans (congrArg some (by kernel_rfl))⟩
  f37 := ⟨Tryz.f112.name, by decide, Tryz.func112.trans (congrArg some (by kernel_rfl))⟩
  f38 := ⟨Tryz.f113.name, by decide, Tryz.func113.trans (congrArg some (by kernel_rfl))⟩
  f39 := ⟨Tryz.f114.name, by decide, Tryz.func114.trans (congrArg some (by kernel_rfl))⟩
  f41 := ⟨Tryz.f115.name, by decide, Tryz.func115.trans (congrArg some (by kernel_rfl))⟩
  t0 := Tryz.underlying0
  a0 := Tryz.isAgg0
  z0 := Tryz.sizeOf0
  v0 := Tryz.zeroValue0
  t3 := Tryz.underlying3
  a3 := Tryz.isAgg3
  z3 := Tryz.sizeOf3
  v3 := Tryz.zeroValue3
  t4 := Tryz.underlying4
  a4 := Tryz.isAgg4
  z4 := Tryz.sizeOf4
  v4 := Tryz.zeroValue4
  t5 := Tryz.underlying5
  a5 := Tryz.isAgg5
  z5 := Tryz.sizeOf5
  v5 := Tryz.zeroValue5
  t9 := Tryz.underlying9
  a9 := Tryz.isAgg9
  z9 := Tryz.sizeOf9
  v9 := Tryz.zeroValue9
  t26 := Tryz.underlying41
  a26 := Tryz.isAgg41
  z26 := Tryz.sizeOf41
  v26 := Tryz.zeroValue41
  t27 := Tryz.underlying41
  a27 := Tryz.isAgg41
  z27 := Tryz.sizeOf41
  v27 := Tryz.zeroValue41
  t29 := Tryz.underlying9
  a29 := Tryz.isAgg9
  z29 := Tryz.sizeOf9
  v29 := Tryz.zeroValue9
  t32 := Tryz.underlying93
  a32 := Tryz.isAgg93
  z32 := Tryz.sizeOf93
  v32 := Tryz.zeroValue93
  t35 := Tryz.underlying103
  a35 := Tryz.isAgg103
  z35 := Tryz.sizeOf103
  v35 := Tryz.zeroValue103
  t36 := Tryz.underlying104
  a36 := Tryz.isAgg104
  z36 := Tryz.sizeOf104
  v36 := Tryz.zeroValue104
  t41 := Tryz.underlying108
  a41 := Tryz.isAgg108
  z41 := Tryz.sizeOf108
  v41 := Tryz.zeroValue108
  t44 := Tryz.underlying85
  a44 := Tryz.isAgg85
  z44 := Tryz.sizeOf85
  v44 := Tryz.zeroValue85
  t46 := Tryz.underlying112
  a46 := Tryz.isAgg112
  z46 := Tryz.sizeOf112
  v46 := Tryz.zeroValue112
  t53 := Tryz.underlying113
  a53 := Tryz.isAgg113
  z53 := Tryz.sizeOf113
  v53 := Tryz.zeroValue113
  t57 := Tryz.underlying117
  a57 := Tryz.isAgg117
  z57 := Tryz.sizeOf117
  v57 := Tryz.zeroValue117
  t63 := Tryz.underlying119
  a63 := Tryz.isAgg119
  z63 := Tryz.sizeOf119
  v63 := Tryz.zeroValue119
  t64 := Tryz.underlying120
  a64 := Tryz.isAgg120
  z64 := Tryz.sizeOf120
  v64 := Tryz.zeroValue120 }
end Go.Proofs
