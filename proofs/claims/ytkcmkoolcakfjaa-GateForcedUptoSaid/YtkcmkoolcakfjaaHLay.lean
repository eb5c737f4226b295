/-
  DERIVED: THE SHELF's CONTRACTS AT THIS DUMP, IN PLAIN WORDS (tools/lay-plain.mjs out of 'YtkcmkoolcakfjaaTLay.lean', which tools/lay-shelf.mjs wrote): THE SAME DECLARATIONS UNDER THE SAME NAMES: 'import', 'namespace', 'open', 'def', 'theorem' AND NOTHING ELSE: no command of the shelf's: FOR A HAND-IN. Each laying: the table of numbers ('.._ren') and one theorem, a field a fact of the dump's own or the kernel's comparison; each contract: ONE APPLICATION.
-/
import Derived.Shelf.SlIterI.Nil
import Derived.Shelf.SortM.Plain
import Derived.Shelf.SortM.SortNone
import Derived.Ground.GgzProg
import Derived.Ground.SlgmProg
import Derived.Shelf.SlGeneric
import Derived.Test.YtkcmkoolcakfjaaChecked
namespace Go.Proofs
open Go.Shelf
def Try.keysA_ren : Go.Shelf.Ren := ⟨fun | 7 => 64 | 10 => 77 | n => n, fun | 23 => 91 | 26 => 3 | 3 => 93 | 28 => 100 | 0 => 0 | 27 => 99 | 33 => 64 | 4 => 4 | n => n, fun | n => n⟩
theorem Try.keysA : Go.Proofs.SlLaysZI.n7 Try.prog Try.keysA_ren := {
  mixed := by kernel_rfl
  f7 := ⟨Try.f64.name, by decide, Try.func64.trans (congrArg some (by kernel_rfl))⟩
  f10 := ⟨Try.f77.name, by decide, Try.func77.trans (congrArg some (by kernel_rfl))⟩
  t0 := Try.underlying0
  a0 := Try.isAgg0
  z0 := Try.sizeOf0
  v0 := Try.zeroValue0
  t4 := Try.underlying4
  a4 := Try.isAgg4
  z4 := Try.sizeOf4
  v4 := Try.zeroValue4
  t23 := Try.underlying91
  a23 := Try.isAgg91
  z23 := Try.sizeOf91
  v23 := Try.zeroValue91
  t26 := Try.underlying3
  a26 := Try.isAgg3
  z26 := Try.sizeOf3
  v26 := Try.zeroValue3
  t27 := Try.underlying99
  a27 := Try.isAgg99
  z27 := Try.sizeOf99
  v27 := Try.zeroValue99
  t28 := Try.underlying100
  a28 := Try.isAgg100
  z28 := Try.sizeOf100
  v28 := Try.zeroValue100
  t33 := Try.underlying64
  a33 := Try.isAgg64
  z33 := Try.sizeOf64
  v33 := Try.zeroValue64 }
def Try.sortedA_ren : Go.Shelf.Ren := ⟨fun | 6 => 63 | 8 => 75 | 9 => 76 | 11 => 82 | 13 => 84 | 12 => 83 | 23 => 94 | 24 => 95 | 14 => 85 | 15 => 86 | 16 => 87 | 17 => 88 | 18 => 89 | 19 => 90 | 20 => 91 | 21 => 92 | 22 => 93 | 25 => 96 | 26 => 97 | 27 => 98 | 28 => 99 | 29 => 100 | 30 => 78 | 31 => 101 | n => n, fun | 26 => 3 | 28 => 100 | 24 => 34 | 0 => 0 | 3 => 3 | 37 => 113 | 48 => 123 | 50 => 125 | 4 => 4 | 40 => 116 | 39 => 115 | 45 => 74 | 5 => 5 | 9 => 9 | 51 => 126 | 55 => 130 | 57 => 132 | 58 => 133 | 33 => 64 | n => n, fun | n => n⟩
theorem Try.sortedA : Go.Proofs.SlLaysZI.n6 Try.prog Try.sortedA_ren := {
  mixed := by kernel_rfl
  f6 := ⟨Try.f63.name, by decide, Try.func63.trans (congrArg some (by kernel_rfl))⟩
  f8 := ⟨Try.f75.name, by decide, Try.func75.trans (congrArg some (by kernel_rfl))⟩
  f11 := ⟨Try.f82.name, by decide, Try.func82.trans (congrArg some (by kernel_rfl))⟩
  t0 := Try.underlying0
  a0 := Try.isAgg0
  z0 := Try.sizeOf0
  v0 := Try.zeroValue0
  t24 := Try.underlying34
  a24 := Try.isAgg34
  z24 := Try.sizeOf34
  v24 := Try.zeroValue34
  t26 := Try.underlying3
  a26 := Try.isAgg3
  z26 := Try.sizeOf3
  v26 := Try.zeroValue3
  t28 := Try.underlying100
  a28 := Try.isAgg100
  z28 := Try.sizeOf100
  v28 := Try.zeroValue100
  i26 := by kernel_rfl }
def Try.sortA_ren : Go.Shelf.Ren := ⟨fun | 5 => 76 | 8 => 84 | 7 => 83 | 19 => 94 | 20 => 95 | 10 => 85 | 11 => 86 | 12 => 87 | 13 => 88 | 14 => 89 | 15 => 90 | 16 => 91 | 17 => 92 | 18 => 93 | 30 => 96 | 31 => 97 | 32 => 98 | 33 => 99 | 34 => 100 | 35 => 78 | 40 => 101 | n => n, fun | 23 => 34 | 25 => 3 | 3 => 3 | 32 => 113 | 22 => 34 | 0 => 0 | 44 => 123 | 46 => 125 | 4 => 4 | 36 => 116 | 35 => 115 | 41 => 74 | 5 => 5 | 9 => 9 | 53 => 126 | 57 => 130 | 63 => 132 | 64 => 133 | n => n, fun | n => n⟩
theorem Try.sortA : Go.Proofs.SlLaysM.n5 Try.prog Try.sortA_ren := {
  mixed := by kernel_rfl
  f5 := ⟨Try.f76.name, by decide, Try.func76.trans (congrArg some (by kernel_rfl))⟩
  f7 := ⟨Try.f83.name, by decide, Try.func83.trans (congrArg some (by kernel_rfl))⟩
  f8 := Try.func84.trans (congrArg some (by kernel_rfl))
  f10 := ⟨Try.f85.name, by decide, Try.func85.trans (congrArg some (by kernel_rfl))⟩
  f11 := ⟨Try.f86.name, by decide, Try.func86.trans (congrArg some (by kernel_rfl))⟩
  f12 := ⟨Try.f87.name, by decide, Try.func87.trans (congrArg some (by kernel_rfl))⟩
  f13 := ⟨Try.f88.name, by decide, Try.func88.trans (congrArg some (by kernel_rfl))⟩
  f14 := ⟨Try.f89.name, by decide, Try.func89.trans (congrArg some (by kernel_rfl))⟩
  f15 := ⟨Try.f90.name, by decide, Try.func90.trans (congrArg some (by kernel_rfl))⟩
  f16 := ⟨Try.f91.name, by decide, Try.func91.trans (congrArg some (by kernel_rfl))⟩
  f17 := ⟨Try.f92.name, by decide, Try.func92.trans (congrArg some (by kernel_rfl))⟩
  f18 := ⟨Try.f93.name, by decide, Try.func93.trans (congrArg some (by kernel_rfl))⟩
  f19 := Try.func94.trans (congrArg some (by kernel_rfl))
  f20 := Try.func95.trans (congrArg some (by kernel_rfl))
  f30 := ⟨Try.f96.name, by decide, Try.func96.trans (congrArg some (by kernel_rfl))⟩
  f31 := Try.func97.trans (congrArg some (by kernel_rfl))
  f32 := Try.func98.trans (congrArg some (by kernel_rfl))
  f33 := ⟨Try.f99.name, by decide, Try.func99.trans (congrArg some (by kernel_rfl))⟩
  f34 := ⟨Try.f100.name, by decide, Try.func100.trans (congrArg some (by kernel_rfl))⟩
  f35 := ⟨Try.f78.name, by decide, Try.func78.trans (congrArg some (by kernel_rfl))⟩
  f40 := ⟨Try.f101.name, by decide, Try.func101.trans (congrArg some (by kernel_rfl))⟩
  t0 := Try.underlying0
  a0 := Try.isAgg0
  z0 := Try.sizeOf0
  v0 := Try.zeroValue0
  t3 := Try.underlying3
  a3 := Try.isAgg3
  z3 := Try.sizeOf3
  v3 := Try.zeroValue3
  t4 := Try.underlying4
  a4 := Try.isAgg4
  z4 := Try.sizeOf4
  v4 := Try.zeroValue4
  t5 := Try.underlying5
  a5 := Try.isAgg5
  z5 := Try.sizeOf5
  v5 := Try.zeroValue5
  t9 := Try.underlying9
  a9 := Try.isAgg9
  z9 := Try.sizeOf9
  v9 := Try.zeroValue9
  t22 := Try.underlying34
  a22 := Try.isAgg34
  z22 := Try.sizeOf34
  v22 := Try.zeroValue34
  t23 := Try.underlying34
  a23 := Try.isAgg34
  z23 := Try.sizeOf34
  v23 := Try.zeroValue34
  t25 := Try.underlying3
  a25 := Try.isAgg3
  z25 := Try.sizeOf3
  v25 := Try.zeroValue3
  t32 := Try.underlying113
  a32 := Try.isAgg113
  z32 := Try.sizeOf113
  v32 := Try.zeroValue113
  t35 := Try.underlying115
  a35 := Try.isAgg115
  z35 := Try.sizeOf115
  v35 := Try.zeroValue115
  t36 := Try.underlying116
  a36 := Try.isAgg116
  z36 := Try.sizeOf116
  v36 := Try.zeroValue116
  t41 := Try.underlying74
  a41 := Try.isAgg74
  z41 := Try.sizeOf74
  v41 := Try.zeroValue74
  t44 := Try.underlying123
  a44 := Try.isAgg123
  z44 := Try.sizeOf123
  v44 := Try.zeroValue123
  t46 := Try.underlying125
  a46 := Try.isAgg125
  z46 := Try.sizeOf125
  v46 := Try.zeroValue125
  t53 := Try.underlying126
  a53 := Try.isAgg126
  z53 := Try.sizeOf126
  v53 := Try.zeroValue126
  t57 := Try.underlying130
  a57 := Try.isAgg130
  z57 := Try.sizeOf130
  v57 := Try.zeroValue130
  t63 := Try.underlying132
  a63 := Try.isAgg132
  z63 := Try.sizeOf132
  v63 := Try.zeroValue132
  t64 := Try.underlying133
  a64 := Try.isAgg133
  z64 := Try.sizeOf133
  v64 := Try.zeroValue133 }
end Go.Proofs
