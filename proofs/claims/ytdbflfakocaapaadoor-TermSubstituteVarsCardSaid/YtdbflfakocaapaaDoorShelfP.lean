/-
  DERIVED: THE SHELF's CONTRACTS AT THIS DUMP, IN PLAIN WORDS (tools/lay-plain.mjs out of 'YtdbflfakocaapaaDoorShelf.lean', which tools/lay-shelf.mjs wrote): THE SAME DECLARATIONS UNDER THE SAME NAMES: 'import', 'namespace', 'open', 'def', 'theorem' AND NOTHING ELSE: no command of the shelf's: FOR A HAND-IN. Each laying: the table of numbers ('.._ren') and one theorem, a field a fact of the dump's own or the kernel's comparison; each contract: ONE APPLICATION.
-/
import Derived.Ground.Names2Prog
import Derived.Shelf.Slices.SearchI
import Derived.Shelf.Slices.Empties
import Derived.Shelf.Spec.SlicesInsert
import Derived.Shelf.Spec.SlicesInsertGrow
import Derived.Shelf.Spec.SearchS
import Derived.Test.YtdbflfakocaapaaDoorProg
namespace Go.Proofs
open Go.Shelf
def Tryd.laysInsI_ren : Go.Shelf.Ren := ⟨fun | 21 => 93 | 27 => 104 | 28 => 105 | 35 => 111 | 39 => 113 | n => n, fun | 22 => 22 | 3 => 3 | 4 => 4 | 0 => 0 | n => n, fun | n => n⟩
theorem Tryd.laysInsI : Go.Proofs.Lays2.n21 Tryd.prog Tryd.laysInsI_ren := {
  mixed := by kernel_rfl
  f21 := Tryd.func93.trans (congrArg some (by kernel_rfl))
  f27 := Tryd.func104.trans (congrArg some (by kernel_rfl))
  f28 := Tryd.func105.trans (congrArg some (by kernel_rfl))
  f35 := Tryd.func111.trans (congrArg some (by kernel_rfl))
  f39 := Tryd.func113.trans (congrArg some (by kernel_rfl))
  t0 := Tryd.underlying0
  a0 := Tryd.isAgg0
  z0 := Tryd.sizeOf0
  v0 := Tryd.zeroValue0
  t3 := Tryd.underlying3
  a3 := Tryd.isAgg3
  z3 := Tryd.sizeOf3
  v3 := Tryd.zeroValue3
  t4 := Tryd.underlying4
  a4 := Tryd.isAgg4
  z4 := Tryd.sizeOf4
  v4 := Tryd.zeroValue4
  t22 := Tryd.underlying22
  a22 := Tryd.isAgg22
  z22 := Tryd.sizeOf22
  v22 := Tryd.zeroValue22
  i3 := by kernel_rfl }
def Tryd.laysInsS_ren : Go.Shelf.Ren := ⟨fun | 22 => 95 | 29 => 108 | 30 => 109 | 36 => 112 | 17 => 114 | n => n, fun | 24 => 44 | 9 => 9 | 3 => 3 | 4 => 4 | 0 => 0 | n => n, fun | n => n⟩
theorem Tryd.laysInsS : Go.Proofs.Lays2.n22 Tryd.prog Tryd.laysInsS_ren := {
  mixed := by kernel_rfl
  f17 := Tryd.func114.trans (congrArg some (by kernel_rfl))
  f22 := Tryd.func95.trans (congrArg some (by kernel_rfl))
  f29 := Tryd.func108.trans (congrArg some (by kernel_rfl))
  f30 := Tryd.func109.trans (congrArg some (by kernel_rfl))
  f36 := Tryd.func112.trans (congrArg some (by kernel_rfl))
  t0 := Tryd.underlying0
  a0 := Tryd.isAgg0
  z0 := Tryd.sizeOf0
  v0 := Tryd.zeroValue0
  t3 := Tryd.underlying3
  a3 := Tryd.isAgg3
  z3 := Tryd.sizeOf3
  v3 := Tryd.zeroValue3
  t4 := Tryd.underlying4
  a4 := Tryd.isAgg4
  z4 := Tryd.sizeOf4
  v4 := Tryd.zeroValue4
  t9 := Tryd.underlying9
  a9 := Tryd.isAgg9
  z9 := Tryd.sizeOf9
  v9 := Tryd.zeroValue9
  t24 := Tryd.underlying44
  a24 := Tryd.isAgg44
  z24 := Tryd.sizeOf44
  v24 := Tryd.zeroValue44
  i9 := by kernel_rfl }
def Tryd.laysBsI_ren : Go.Shelf.Ren := ⟨fun | 25 => 92 | 31 => 102 | 32 => 103 | 37 => 83 | n => n, fun | 22 => 22 | 3 => 3 | 4 => 4 | 40 => 107 | 0 => 0 | n => n, fun | n => n⟩
theorem Tryd.laysBsI : Go.Proofs.Lays2.n25 Tryd.prog Tryd.laysBsI_ren := {
  mixed := by kernel_rfl
  f25 := Tryd.func92.trans (congrArg some (by kernel_rfl))
  f31 := Tryd.func102.trans (congrArg some (by kernel_rfl))
  f32 := Tryd.func103.trans (congrArg some (by kernel_rfl))
  f37 := Tryd.func83.trans (congrArg some (by kernel_rfl))
  t0 := Tryd.underlying0
  a0 := Tryd.isAgg0
  z0 := Tryd.sizeOf0
  v0 := Tryd.zeroValue0
  t3 := Tryd.underlying3
  a3 := Tryd.isAgg3
  z3 := Tryd.sizeOf3
  v3 := Tryd.zeroValue3
  t4 := Tryd.underlying4
  a4 := Tryd.isAgg4
  z4 := Tryd.sizeOf4
  v4 := Tryd.zeroValue4
  t22 := Tryd.underlying22
  a22 := Tryd.isAgg22
  z22 := Tryd.sizeOf22
  v22 := Tryd.zeroValue22
  t40 := Tryd.underlying107
  a40 := Tryd.isAgg107
  z40 := Tryd.sizeOf107
  v40 := Tryd.zeroValue107 }
def Tryd.laysBsS_ren : Go.Shelf.Ren := ⟨fun | 26 => 94 | 33 => 106 | 34 => 107 | 38 => 84 | n => n, fun | 24 => 44 | 9 => 9 | 3 => 3 | 4 => 4 | 40 => 107 | 0 => 0 | n => n, fun | n => n⟩
theorem Tryd.laysBsS : Go.Proofs.Lays2.n26 Tryd.prog Tryd.laysBsS_ren := {
  mixed := by kernel_rfl
  f26 := Tryd.func94.trans (congrArg some (by kernel_rfl))
  f33 := Tryd.func106.trans (congrArg some (by kernel_rfl))
  f34 := Tryd.func107.trans (congrArg some (by kernel_rfl))
  f38 := Tryd.func84.trans (congrArg some (by kernel_rfl))
  t0 := Tryd.underlying0
  a0 := Tryd.isAgg0
  z0 := Tryd.sizeOf0
  v0 := Tryd.zeroValue0
  t3 := Tryd.underlying3
  a3 := Tryd.isAgg3
  z3 := Tryd.sizeOf3
  v3 := Tryd.zeroValue3
  t4 := Tryd.underlying4
  a4 := Tryd.isAgg4
  z4 := Tryd.sizeOf4
  v4 := Tryd.zeroValue4
  t9 := Tryd.underlying9
  a9 := Tryd.isAgg9
  z9 := Tryd.sizeOf9
  v9 := Tryd.zeroValue9
  t24 := Tryd.underlying44
  a24 := Tryd.isAgg44
  z24 := Tryd.sizeOf44
  v24 := Tryd.zeroValue44
  t40 := Tryd.underlying107
  a40 := Tryd.isAgg107
  z40 := Tryd.sizeOf107
  v40 := Tryd.zeroValue107 }
end Go.Proofs
