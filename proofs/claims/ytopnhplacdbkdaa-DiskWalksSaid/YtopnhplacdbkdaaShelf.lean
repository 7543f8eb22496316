/-
  DERIVED: THE SHELF's CONTRACTS AT THIS DUMP, IN PLAIN WORDS (tools/lay-plain.mjs out of 'YtopnhplacdbkdaaShelf0.lean', which tools/lay-shelf.mjs wrote): THE SAME DECLARATIONS UNDER THE SAME NAMES: 'import', 'namespace', 'open', 'def', 'theorem' AND NOTHING ELSE: no command of the shelf's: FOR A HAND-IN. Each laying: the table of numbers ('.._ren') and one theorem, a field a fact of the dump's own or the kernel's comparison; each contract: ONE APPLICATION.
-/
import Derived.Shelf.SlGeneric
import Derived.Shelf.SlIter.Nil
import Derived.Shelf.SortM.Plain
import Derived.Shelf.SortM.SortNone
import Derived.Ground.GgzProg
import Derived.Ground.SlgmProg
import Derived.Test.YtopnhplacdbkdaaProg
namespace Go.Proofs
open Go.Shelf
def Try.keysDisk_ren : Go.Shelf.Ren := ⟨fun | 7 => 83 | 10 => 106 | n => n, fun | 23 => 97 | 26 => 9 | 3 => 102 | 28 => 106 | 0 => 0 | 27 => 105 | 33 => 100 | 4 => 4 | n => n, fun | n => n⟩
theorem Try.keysDisk : Go.Proofs.SlLaysZ.n7 Try.prog Try.keysDisk_ren := {
  mixed := by kernel_rfl
  f7 := ⟨Try.f83.name, by decide, Try.func83.trans (congrArg some (by kernel_rfl))⟩
  f10 := ⟨Try.f106.name, by decide, Try.func106.trans (congrArg some (by kernel_rfl))⟩
  t0 := Try.underlying0
  a0 := Try.isAgg0
  z0 := Try.sizeOf0
  v0 := Try.zeroValue0
  t4 := Try.underlying4
  a4 := Try.isAgg4
  z4 := Try.sizeOf4
  v4 := Try.zeroValue4
  t23 := Try.underlying97
  a23 := Try.isAgg97
  z23 := Try.sizeOf97
  v23 := Try.zeroValue97
  t26 := Try.underlying9
  a26 := Try.isAgg9
  z26 := Try.sizeOf9
  v26 := Try.zeroValue9
  t27 := Try.underlying105
  a27 := Try.isAgg105
  z27 := Try.sizeOf105
  v27 := Try.zeroValue105
  t28 := Try.underlying106
  a28 := Try.isAgg106
  z28 := Try.sizeOf106
  v28 := Try.zeroValue106
  t33 := Try.underlying100
  a33 := Try.isAgg100
  z33 := Try.sizeOf100
  v33 := Try.zeroValue100 }
def Try.sortedStr_ren : Go.Shelf.Ren := ⟨fun | 6 => 82 | 8 => 104 | 9 => 105 | 11 => 118 | 13 => 120 | 12 => 119 | 23 => 130 | 24 => 131 | 14 => 121 | 15 => 122 | 16 => 123 | 17 => 124 | 18 => 125 | 19 => 126 | 20 => 127 | 21 => 128 | 22 => 129 | 25 => 132 | 26 => 133 | 27 => 134 | 28 => 135 | 29 => 136 | 30 => 137 | 31 => 138 | n => n, fun | 26 => 9 | 28 => 106 | 24 => 62 | 0 => 0 | 3 => 3 | 37 => 53 | 48 => 22 | 50 => 140 | 4 => 4 | 40 => 132 | 39 => 131 | 45 => 136 | 5 => 5 | 9 => 9 | 51 => 141 | 55 => 145 | 57 => 147 | 58 => 148 | 33 => 100 | n => n, fun | n => n⟩
theorem Try.sortedStr : Go.Proofs.SlLaysZ.n6 Try.prog Try.sortedStr_ren := {
  mixed := by kernel_rfl
  f6 := ⟨Try.f82.name, by decide, Try.func82.trans (congrArg some (by kernel_rfl))⟩
  f8 := ⟨Try.f104.name, by decide, Try.func104.trans (congrArg some (by kernel_rfl))⟩
  f11 := ⟨Try.f118.name, by decide, Try.func118.trans (congrArg some (by kernel_rfl))⟩
  t0 := Try.underlying0
  a0 := Try.isAgg0
  z0 := Try.sizeOf0
  v0 := Try.zeroValue0
  t24 := Try.underlying62
  a24 := Try.isAgg62
  z24 := Try.sizeOf62
  v24 := Try.zeroValue62
  t26 := Try.underlying9
  a26 := Try.isAgg9
  z26 := Try.sizeOf9
  v26 := Try.zeroValue9
  t28 := Try.underlying106
  a28 := Try.isAgg106
  z28 := Try.sizeOf106
  v28 := Try.zeroValue106
  i26 := by kernel_rfl }
def Try.sortStr_ren : Go.Shelf.Ren := ⟨fun | 6 => 105 | 8 => 120 | 9 => 119 | 19 => 130 | 20 => 131 | 21 => 121 | 22 => 122 | 23 => 123 | 24 => 124 | 25 => 125 | 26 => 126 | 27 => 127 | 28 => 128 | 29 => 129 | 36 => 132 | 31 => 133 | 32 => 134 | 37 => 135 | 38 => 136 | 39 => 137 | 41 => 138 | n => n, fun | 27 => 62 | 29 => 9 | 3 => 3 | 32 => 53 | 26 => 62 | 0 => 0 | 44 => 22 | 46 => 140 | 4 => 4 | 36 => 132 | 35 => 131 | 41 => 136 | 5 => 5 | 9 => 9 | 53 => 141 | 57 => 145 | 63 => 147 | 64 => 148 | n => n, fun | n => n⟩
theorem Try.sortStr : Go.Proofs.SlLaysM.n6 Try.prog Try.sortStr_ren := {
  mixed := by kernel_rfl
  f6 := ⟨Try.f105.name, by decide, Try.func105.trans (congrArg some (by kernel_rfl))⟩
  f8 := Try.func120.trans (congrArg some (by kernel_rfl))
  f9 := ⟨Try.f119.name, by decide, Try.func119.trans (congrArg some (by kernel_rfl))⟩
  f19 := Try.func130.trans (congrArg some (by kernel_rfl))
  f20 := Try.func131.trans (congrArg some (by kernel_rfl))
  f21 := ⟨Try.f121.name, by decide, Try.func121.trans (congrArg some (by kernel_rfl))⟩
  f22 := ⟨Try.f122.name, by decide, Try.func122.trans (congrArg some (by kernel_rfl))⟩
  f23 := ⟨Try.f123.name, by decide, Try.func123.trans (congrArg some (by kernel_rfl))⟩
  f24 := ⟨Try.f124.name, by decide, Try.func124.trans (congrArg some (by kernel_rfl))⟩
  f25 := ⟨Try.f125.name, by decide, Try.func125.trans (congrArg some (by kernel_rfl))⟩
  f26 := ⟨Try.f126.name, by decide, Try.func126.trans (congrArg some (by kernel_rfl))⟩
  f27 := ⟨Try.f127.name, by decide, Try.func127.trans (congrArg some (by kernel_rfl))⟩
  f28 := ⟨Try.f128.name, by decide, Try.func128.trans (congrArg some (by kernel_rfl))⟩
  f29 := ⟨Try.f129.name, by decide, Try.func129.trans (congrArg some (by kernel_rfl))⟩
  f31 := Try.func133.trans (congrArg some (by kernel_rfl))
  f32 := Try.func134.trans (congrArg some (by kernel_rfl))
  f36 := ⟨Try.f132.name, by decide, Try.func132.trans (congrArg some (by kernel_rfl))⟩
  f37 := ⟨Try.f135.name, by decide, Try.func135.trans (congrArg some (by kernel_rfl))⟩
  f38 := ⟨Try.f136.name, by decide, Try.func136.trans (congrArg some (by kernel_rfl))⟩
  f39 := ⟨Try.f137.name, by decide, Try.func137.trans (congrArg some (by kernel_rfl))⟩
  f41 := ⟨Try.f138.name, by decide, Try.func138.trans (congrArg some (by kernel_rfl))⟩
  t0 := Try.underlying0
  a0 := Try.isAgg0
  z0 := Try.sizeOf0
  v0 := Try.zeroValue0
  t3 := Try.underlying3
  a3 := Try.isAgg3
  z3 := Try.sizeOf3
  v3 := Try.zeroValue3
  t4 := Try.underlying4
  a4 := Try.isAgg4
  z4 := Try.sizeOf4
  v4 := Try.zeroValue4
  t5 := Try.underlying5
  a5 := Try.isAgg5
  z5 := Try.sizeOf5
  v5 := Try.zeroValue5
  t9 := Try.underlying9
  a9 := Try.isAgg9
  z9 := Try.sizeOf9
  v9 := Try.zeroValue9
  t26 := Try.underlying62
  a26 := Try.isAgg62
  z26 := Try.sizeOf62
  v26 := Try.zeroValue62
  t27 := Try.underlying62
  a27 := Try.isAgg62
  z27 := Try.sizeOf62
  v27 := Try.zeroValue62
  t29 := Try.underlying9
  a29 := Try.isAgg9
  z29 := Try.sizeOf9
  v29 := Try.zeroValue9
  t32 := Try.underlying53
  a32 := Try.isAgg53
  z32 := Try.sizeOf53
  v32 := Try.zeroValue53
  t35 := Try.underlying131
  a35 := Try.isAgg131
  z35 := Try.sizeOf131
  v35 := Try.zeroValue131
  t36 := Try.underlying132
  a36 := Try.isAgg132
  z36 := Try.sizeOf132
  v36 := Try.zeroValue132
  t41 := Try.underlying136
  a41 := Try.isAgg136
  z41 := Try.sizeOf136
  v41 := Try.zeroValue136
  t44 := Try.underlying22
  a44 := Try.isAgg22
  z44 := Try.sizeOf22
  v44 := Try.zeroValue22
  t46 := Try.underlying140
  a46 := Try.isAgg140
  z46 := Try.sizeOf140
  v46 := Try.zeroValue140
  t53 := Try.underlying141
  a53 := Try.isAgg141
  z53 := Try.sizeOf141
  v53 := Try.zeroValue141
  t57 := Try.underlying145
  a57 := Try.isAgg145
  z57 := Try.sizeOf145
  v57 := Try.zeroValue145
  t63 := Try.underlying147
  a63 := Try.isAgg147
  z63 := Try.sizeOf147
  v63 := Try.zeroValue147
  t64 := Try.underlying148
  a64 := Try.isAgg148
  z64 := Try.sizeOf148
  v64 := Try.zeroValue148 }
end Go.Proofs
