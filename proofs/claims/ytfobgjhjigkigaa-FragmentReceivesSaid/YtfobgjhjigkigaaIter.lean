/-
  DERIVED: THE SHELF's CONTRACTS AT THIS DUMP, IN PLAIN WORDS (tools/lay-plain.mjs out of 'TryIter.lean', which tools/lay-shelf.mjs wrote): THE SAME DECLARATIONS UNDER THE SAME NAMES: 'import', 'namespace', 'open', 'def', 'theorem' AND NOTHING ELSE: no command of the shelf's: FOR A HAND-IN. Each laying: the table of numbers ('.._ren') and one theorem, a field a fact of the dump's own or the kernel's comparison; each contract: ONE APPLICATION.
-/
import Derived.Shelf.SlGeneric
import Derived.Shelf.SlIterI.Nil
import Derived.Ground.GgzProg
import Derived.Test.YtfobgjhjigkigaaProg
namespace Go.Proofs
open Go.Shelf
def Try.keysA_ren : Go.Shelf.Ren := ⟨fun | 7 => 62 | 10 => 81 | n => n, fun | 23 => 77 | 26 => 3 | 3 => 81 | 28 => 110 | 0 => 0 | 27 => 109 | 33 => 49 | 4 => 4 | n => n, fun | n => n⟩
theorem Try.keysA : Go.Proofs.SlLaysZI.n7 Try.prog Try.keysA_ren := {
  mixed := by kernel_rfl
  f7 := ⟨Try.f62.name, by decide, Try.func62.trans (congrArg some (by kernel_rfl))⟩
  f10 := ⟨Try.f81.name, by decide, Try.func81.trans (congrArg some (by kernel_rfl))⟩
  t0 := Try.underlying0
  a0 := Try.isAgg0
  z0 := Try.sizeOf0
  v0 := Try.zeroValue0
  t4 := Try.underlying4
  a4 := Try.isAgg4
  z4 := Try.sizeOf4
  v4 := Try.zeroValue4
  t23 := Try.underlying77
  a23 := Try.isAgg77
  z23 := Try.sizeOf77
  v23 := Try.zeroValue77
  t26 := Try.underlying3
  a26 := Try.isAgg3
  z26 := Try.sizeOf3
  v26 := Try.zeroValue3
  t27 := Try.underlying109
  a27 := Try.isAgg109
  z27 := Try.sizeOf109
  v27 := Try.zeroValue109
  t28 := Try.underlying110
  a28 := Try.isAgg110
  z28 := Try.sizeOf110
  v28 := Try.zeroValue110
  t33 := Try.underlying49
  a33 := Try.isAgg49
  z33 := Try.sizeOf49
  v33 := Try.zeroValue49 }
def Try.sortedA_ren : Go.Shelf.Ren := ⟨fun | 6 => 61 | 8 => 80 | 9 => 35 | 11 => 97 | 13 => 65 | 12 => 64 | 23 => 91 | 24 => 92 | 14 => 82 | 15 => 83 | 16 => 84 | 17 => 85 | 18 => 86 | 19 => 87 | 20 => 88 | 21 => 89 | 22 => 90 | 25 => 98 | 26 => 99 | 27 => 100 | 28 => 101 | 29 => 102 | 30 => 103 | 31 => 106 | n => n, fun | 26 => 3 | 28 => 110 | 24 => 32 | 0 => 0 | 3 => 3 | 37 => 115 | 48 => 150 | 50 => 132 | 4 => 4 | 40 => 142 | 39 => 141 | 45 => 147 | 5 => 5 | 9 => 9 | 51 => 155 | 55 => 159 | 57 => 164 | 58 => 165 | 33 => 49 | n => n, fun | n => n⟩
theorem Try.sortedA : Go.Proofs.SlLaysZI.n6 Try.prog Try.sortedA_ren := {
  mixed := by kernel_rfl
  f6 := ⟨Try.f61.name, by decide, Try.func61.trans (congrArg some (by kernel_rfl))⟩
  f8 := ⟨Try.f80.name, by decide, Try.func80.trans (congrArg some (by kernel_rfl))⟩
  f11 := ⟨Try.f97.name, by decide, Try.func97.trans (congrArg some (by kernel_rfl))⟩
  t0 := Try.underlying0
  a0 := Try.isAgg0
  z0 := Try.sizeOf0
  v0 := Try.zeroValue0
  t24 := Try.underlying32
  a24 := Try.isAgg32
  z24 := Try.sizeOf32
  v24 := Try.zeroValue32
  t26 := Try.underlying3
  a26 := Try.isAgg3
  z26 := Try.sizeOf3
  v26 := Try.zeroValue3
  t28 := Try.underlying110
  a28 := Try.isAgg110
  z28 := Try.sizeOf110
  v28 := Try.zeroValue110
  i26 := by kernel_rfl }
end Go.Proofs
