/-
  DERIVED: THE SHELF's CONTRACTS AT THIS DUMP, IN PLAIN WORDS (tools/lay-plain.mjs out of 'YtdjldmpfginkdaaGreatDoorShelf.lean', which tools/lay-shelf.mjs wrote): THE SAME DECLARATIONS UNDER THE SAME NAMES: 'import', 'namespace', 'open', 'def', 'theorem' AND NOTHING ELSE: no command of the shelf's: FOR A HAND-IN. Each laying: the table of numbers ('.._ren') and one theorem, a field a fact of the dump's own or the kernel's comparison; each contract: ONE APPLICATION.
-/
import Derived.Ground.Names2Prog
import Derived.Shelf.Slices.SearchI
import Derived.Shelf.Slices.Empties
import Derived.Shelf.Spec.SlicesInsert
import Derived.Shelf.Spec.SlicesInsertGrow
import Derived.Shelf.Spec.SearchS
import Derived.Shelf.SortG.Plain
import Derived.Shelf.SortG.SortNone
import Derived.Ground.SlgnProg
import Derived.Test.YtdjldmpfginkdaaGreatDoorProg
namespace Go.Proofs
open Go.Shelf
def Tryz.laysInsI_ren : Go.Shelf.Ren := ⟨fun | 21 => 111 | 27 => 129 | 28 => 130 | 35 => 133 | 39 => 134 | n => n, fun | 22 => 22 | 3 => 3 | 4 => 4 | 0 => 0 | n => n, fun | n => n⟩
theorem Tryz.laysInsI : Go.Proofs.Lays2.n21 Tryz.prog Tryz.laysInsI_ren := {
  mixed := by kernel_rfl
  f21 := Tryz.func111.trans (congrArg some (by kernel_rfl))
  f27 := Tryz.func129.trans (congrArg some (by kernel_rfl))
  f28 := Tryz.func130.trans (congrArg some (by kernel_rfl))
  f35 := Tryz.func133.trans (congrArg some (by kernel_rfl))
  f39 := Tryz.func134.trans (congrArg some (by kernel_rfl))
  t0 := Tryz.underlying0
  a0 := Tryz.isAgg0
  z0 := Tryz.sizeOf0
  v0 := Tryz.zeroValue0
  t3 := Tryz.underlying3
  a3 := Tryz.isAgg3
  z3 := Tryz.sizeOf3
  v3 := Tryz.zeroValue3
  t4 := Tryz.underlying4
  a4 := Tryz.isAgg4
  z4 := Tryz.sizeOf4
  v4 := Tryz.zeroValue4
  t22 := Tryz.underlying22
  a22 := Tryz.isAgg22
  z22 := Tryz.sizeOf22
  v22 := Tryz.zeroValue22
  i3 := by kernel_rfl }
def Tryz.laysBsI_ren : Go.Shelf.Ren := ⟨fun | 25 => 110 | 31 => 100 | 32 => 128 | 37 => 112 | n => n, fun | 22 => 22 | 3 => 3 | 4 => 4 | 40 => 101 | 0 => 0 | n => n, fun | n => n⟩
theorem Tryz.laysBsI : Go.Proofs.Lays2.n25 Tryz.prog Tryz.laysBsI_ren := {
  mixed := by kernel_rfl
  f25 := Tryz.func110.trans (congrArg some (by kernel_rfl))
  f31 := Tryz.func100.trans (congrArg some (by kernel_rfl))
  f32 := Tryz.func128.trans (congrArg some (by kernel_rfl))
  f37 := Tryz.func112.trans (congrArg some (by kernel_rfl))
  t0 := Tryz.underlying0
  a0 := Tryz.isAgg0
  z0 := Tryz.sizeOf0
  v0 := Tryz.zeroValue0
  t3 := Tryz.underlying3
  a3 := Tryz.isAgg3
  z3 := Tryz.sizeOf3
  v3 := Tryz.zeroValue3
  t4 := Tryz.underlying4
  a4 := Tryz.isAgg4
  z4 := Tryz.sizeOf4
  v4 := Tryz.zeroValue4
  t22 := Tryz.underlying22
  a22 := Tryz.isAgg22
  z22 := Tryz.sizeOf22
  v22 := Tryz.zeroValue22
  t40 := Tryz.underlying101
  a40 := Tryz.isAgg101
  z40 := Tryz.sizeOf101
  v40 := Tryz.zeroValue101 }
def Tryz.laysSort_ren : Go.Shelf.Ren := ⟨fun | 53 => 58 | 64 => 81 | 63 => 80 | 78 => 103 | 79 => 104 | 70 => 94 | 71 => 95 | 72 => 96 | 73 => 97 | 74 => 98 | 75 => 99 | 59 => 100 | 76 => 101 | 77 => 102 | 88 => 116 | 89 => 117 | 90 => 118 | 91 => 119 | 92 => 120 | 68 => 112 | 96 => 131 | n => n, fun | 22 => 22 | 23 => 3 | 3 => 3 | 51 => 101 | 0 => 0 | 67 => 117 | 69 => 119 | 4 => 4 | 61 => 110 | 60 => 109 | 44 => 45 | 5 => 5 | 9 => 9 | 75 => 126 | 79 => 130 | 83 => 135 | 84 => 136 | n => n, fun | n => n⟩
theorem Tryz.laysSort : Go.Proofs.SlLaysN.n53 Tryz.prog Tryz.laysSort_ren := {
  mixed := by kernel_rfl
  f53 := ⟨Tryz.f58.name, by decide, Tryz.func58.trans (congrArg some (by kernel_rfl))⟩
  f59 := ⟨Tryz.f100.name, by decide, Tryz.func100.trans (congrArg some (by kernel_rfl))⟩
  f63 := ⟨Tryz.f80.name, by decide, Tryz.func80.trans (congrArg some (by kernel_rfl))⟩
  f64 := Tryz.func81.trans (congrArg some (by kernel_rfl))
  f68 := ⟨Tryz.f112.name, by decide, Tryz.func112.trans (congrArg some (by kernel_rfl))⟩
  f70 := ⟨Tryz.f94.name, by decide, Tryz.func94.trans (congrArg some (by kernel_rfl))⟩
  f71 := ⟨Tryz.f95.name, by decide, Tryz.func95.trans (congrArg some (by kernel_rfl))⟩
  f72 := ⟨Tryz.f96.name, by decide, Tryz.func96.trans (congrArg some (by kernel_rfl))⟩
  f73 := ⟨Tryz.f97.name, by decide, Tryz.func97.trans (congrArg some (by kernel_rfl))⟩
  f74 := ⟨Tryz.f98.name, by decide, Tryz.func98.trans (congrArg some (by kernel_rfl))⟩
  f75 := ⟨Tryz.f99.name, by decide, Tryz.func99.trans (congrArg some (by kernel_rfl))⟩
  f76 := ⟨Tryz.f101.name, by decide, Tryz.func101.trans (congrArg some (by kernel_rfl))⟩
  f77 := ⟨Tryz.f102.name, by decide, Tryz.func102.trans (congrArg some (by kernel_rfl))⟩
  f78 := Tryz.func103.trans (congrArg some (by kernel_rfl))
  f79 := Tryz.func104.trans (congrArg some (by kernel_rfl))
  f88 := ⟨Tryz.f116.name, by decide, Tryz.func116.trans (congrArg some (by kernel_rfl))⟩
  f89 := Tryz.func117.trans (congrArg some (by kernel_rfl))
  f90 := Tryz.func118.trans (congrArg some (by kernel_rfl))
  f91 := ⟨Tryz.f119.name, by decide, Tryz.func119.trans (congrArg some (by kernel_rfl))⟩
  f92 := ⟨Tryz.f120.name, by decide, Tryz.func120.trans (congrArg some (by kernel_rfl))⟩
  f96 := ⟨Tryz.f131.name, by decide, Tryz.func131.trans (congrArg some (by kernel_rfl))⟩
  t0 := Tryz.underlying0
  a0 := Tryz.isAgg0
  z0 := Tryz.sizeOf0
  v0 := Tryz.zeroValue0
  t3 := Tryz.underlying3
  a3 := Tryz.isAgg3
  z3 := Tryz.sizeOf3
  v3 := Tryz.zeroValue3
  t4 := Tryz.underlying4
  a4 := Tryz.isAgg4
  z4 := Tryz.sizeOf4
  v4 := Tryz.zeroValue4
  t5 := Tryz.underlying5
  a5 := Tryz.isAgg5
  z5 := Tryz.sizeOf5
  v5 := Tryz.zeroValue5
  t9 := Tryz.underlying9
  a9 := Tryz.isAgg9
  z9 := Tryz.sizeOf9
  v9 := Tryz.zeroValue9
  t22 := Tryz.underlying22
  a22 := Tryz.isAgg22
  z22 := Tryz.sizeOf22
  v22 := Tryz.zeroValue22
  t23 := Tryz.underlying3
  a23 := Tryz.isAgg3
  z23 := Tryz.sizeOf3
  v23 := Tryz.zeroValue3
  t44 := Tryz.underlying45
  a44 := Tryz.isAgg45
  z44 := Tryz.sizeOf45
  v44 := Tryz.zeroValue45
  t51 := Tryz.underlying101
  a51 := Tryz.isAgg101
  z51 := Tryz.sizeOf101
  v51 := Tryz.zeroValue101
  t60 := Tryz.underlying109
  a60 := Tryz.isAgg109
  z60 := Tryz.sizeOf109
  v60 := Tryz.zeroValue109
  t61 := Tryz.underlying110
  a61 := Tryz.isAgg110
  z61 := Tryz.sizeOf110
  v61 := Tryz.zeroValue110
  t67 := Tryz.underlying117
  a67 := Tryz.isAgg117
  z67 := Tryz.sizeOf117
  v67 := Tryz.zeroValue117
  t69 := Tryz.underlying119
  a69 := Tryz.isAgg119
  z69 := Tryz.sizeOf119
  v69 := Tryz.zeroValue119
  t75 := Tryz.underlying126
  a75 := Tryz.isAgg126
  z75 := Tryz.sizeOf126
  v75 := Tryz.zeroValue126
  t79 := Tryz.underlying130
  a79 := Tryz.isAgg130
  z79 := Tryz.sizeOf130
  v79 := Tryz.zeroValue130
  t83 := Tryz.underlying135
  a83 := Tryz.isAgg135
  z83 := Tryz.sizeOf135
  v83 := Tryz.zeroValue135
  t84 := Tryz.underlying136
  a84 := Tryz.isAgg136
  z84 := Tryz.sizeOf136
  v84 := Tryz.zeroValue136 }
end Go.Proofs
