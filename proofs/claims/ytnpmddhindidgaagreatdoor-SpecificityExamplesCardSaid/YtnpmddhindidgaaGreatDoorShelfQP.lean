/-
  DERIVED: THE SHELF's CONTRACTS AT THIS DUMP, IN PLAIN WORDS (tools/lay-plain.mjs out of 'YtnpmddhindidgaaGreatDoorShelfQ.lean', which tools/lay-shelf.mjs wrote): THE SAME DECLARATIONS UNDER THE SAME NAMES: 'import', 'namespace', 'open', 'def', 'theorem' AND NOTHING ELSE: no command of the shelf's: FOR A HAND-IN. Each laying: the table of numbers ('.._ren') and one theorem, a field a fact of the dump's own or the kernel's comparison; each contract: ONE APPLICATION.
-/
import Derived.Shelf.SlIterI.Nil
import Derived.Shelf.SortM.Plain
import Derived.Shelf.SortM.SortNone
import Derived.Ground.GgzProg
import Derived.Ground.SlgmProg
import Derived.Test.YtnpmddhindidgaaGreatDoorProg
namespace Go.Proofs
open Go.Shelf
def Tryz.laysSortedI_ren : Go.Shelf.Ren := ⟨fun | 6 => 67 | 8 => 131 | 9 => 132 | 11 => 186 | 13 => 141 | 12 => 187 | 23 => 201 | 24 => 202 | 14 => 245 | 15 => 246 | 16 => 247 | 17 => 248 | 18 => 249 | 19 => 250 | 20 => 251 | 21 => 252 | 22 => 253 | 25 => 296 | 26 => 260 | 27 => 261 | 28 => 297 | 29 => 298 | 30 => 171 | 31 => 328 | n => n, fun | 26 => 3 | 28 => 99 | 24 => 22 | 0 => 0 | 3 => 3 | 37 => 161 | 48 => 210 | 50 => 212 | 4 => 4 | 40 => 204 | 39 => 203 | 45 => 166 | 5 => 5 | 9 => 9 | 51 => 253 | 55 => 257 | 57 => 287 | 58 => 288 | 33 => 101 | n => n, fun | n => n⟩
theorem Tryz.laysSortedI : Go.Proofs.SlLaysZI.n6 Tryz.prog Tryz.laysSortedI_ren := {
  mixed := by kernel_rfl
  f6 := ⟨Tryz.f67.name, by decide, Tryz.func67.trans (congrArg some (by kernel_rfl))⟩
  f8 := ⟨Tryz.f131.name, by decide, Tryz.func131.trans (congrArg some (by kernel_rfl))⟩
  f11 := ⟨Tryz.f186.name, by decide, Tryz.func186.trans (congrArg some (by kernel_rfl))⟩
  t0 := Tryz.underlying0
  a0 := Tryz.isAgg0
  z0 := Tryz.sizeOf0
  v0 := Tryz.zeroValue0
  t24 := Tryz.underlying22
  a24 := Tryz.isAgg22
  z24 := Tryz.sizeOf22
  v24 := Tryz.zeroValue22
  t26 := Tryz.underlying3
  a26 := Tryz.isAgg3
  z26 := Tryz.sizeOf3
  v26 := Tryz.zeroValue3
  t28 := Tryz.underlying99
  a28 := Tryz.isAgg99
  z28 := Tryz.sizeOf99
  v28 := Tryz.zeroValue99
  i26 := by kernel_rfl }
def Tryz.laysSortI_ren : Go.Shelf.Ren := ⟨fun | 5 => 132 | 8 => 141 | 7 => 187 | 19 => 201 | 20 => 202 | 10 => 245 | 11 => 246 | 12 => 247 | 13 => 248 | 14 => 249 | 15 => 250 | 16 => 251 | 17 => 252 | 18 => 253 | 30 => 296 | 31 => 260 | 32 => 261 | 33 => 297 | 34 => 298 | 35 => 171 | 40 => 328 | n => n, fun | 23 => 22 | 25 => 3 | 3 => 3 | 32 => 161 | 22 => 22 | 0 => 0 | 44 => 210 | 46 => 212 | 4 => 4 | 36 => 204 | 35 => 203 | 41 => 166 | 5 => 5 | 9 => 9 | 53 => 253 | 57 => 257 | 63 => 287 | 64 => 288 | n => n, fun | n => n⟩
theorem Tryz.laysSortI : Go.Proofs.SlLaysM.n5 Tryz.prog Tryz.laysSortI_ren := {
  mixed := by kernel_rfl
  f5 := ⟨Tryz.f132.name, by decide, Tryz.func132.trans (congrArg some (by kernel_rfl))⟩
  f7 := ⟨Tryz.f187.name, by decide, Tryz.func187.trans (congrArg some (by kernel_rfl))⟩
  f8 := Tryz.func141.trans (congrArg some (by kernel_rfl))
  f10 := ⟨Tryz.f245.name, by decide, Tryz.func245.trans (congrArg some (by kernel_rfl))⟩
  f11 := ⟨Tryz.f246.name, by decide, Tryz.func246.trans (congrArg some (by kernel_rfl))⟩
  f12 := ⟨Tryz.f247.name, by decide, Tryz.func247.trans (congrArg some (by kernel_rfl))⟩
  f13 := ⟨Tryz.f248.name, by decide, Tryz.func248.trans (congrArg some (by kernel_rfl))⟩
  f14 := ⟨Tryz.f249.name, by decide, Tryz.func249.trans (congrArg some (by kernel_rfl))⟩
  f15 := ⟨Tryz.f250.name, by decide, Tryz.func250.trans (congrArg some (by kernel_rfl))⟩
  f16 := ⟨Tryz.f251.name, by decide, Tryz.func251.trans (congrArg some (by kernel_rfl))⟩
  f17 := ⟨Tryz.f252.name, by decide, Tryz.func252.trans (congrArg some (by kernel_rfl))⟩
  f18 := ⟨Tryz.f253.name, by decide, Tryz.func253.trans (congrArg some (by kernel_rfl))⟩
  f19 := Tryz.func201.trans (congrArg some (by kernel_rfl))
  f20 := Tryz.func202.trans (congrArg some (by kernel_rfl))
  f30 := ⟨Tryz.f296.name, by decide, Tryz.func296.trans (congrArg some (by kernel_rfl))⟩
  f31 := Tryz.func260.trans (congrArg some (by kernel_rfl))
  f32 := Tryz.func261.trans (congrArg some (by kernel_rfl))
  f33 := ⟨Tryz.f297.name, by decide, Tryz.func297.trans (congrArg some (by kernel_rfl))⟩
  f34 := ⟨Tryz.f298.name, by decide, Tryz.func298.trans (congrArg some (by kernel_rfl))⟩
  f35 := ⟨Tryz.f171.name, by decide, Tryz.func171.trans (congrArg some (by kernel_rfl))⟩
  f40 := ⟨Tryz.f328.name, by decide, Tryz.func328.trans (congrArg some (by kernel_rfl))⟩
  t0 := Tryz.underlying0
  a0 := Tryz.isAgg0
  z0 := Tryz.sizeOf0
  v0 := Tryz.zeroValue0
  t3 := Tryz.underlying3
  a3 := Tryz.isAgg3
  z3 := Tryz.sizeOf3
  v3 := Tryz.zeroValue3
  t4 := Tryz.underlying4
  a4 := Tryz.isAgg4
  z4 := Tryz.sizeOf4
  v4 := Tryz.zeroValue4
  t5 := Tryz.underlying5
  a5 := Tryz.isAgg5
  z5 := Tryz.sizeOf5
  v5 := Tryz.zeroValue5
  t9 := Tryz.underlying9
  a9 := Tryz.isAgg9
  z9 := Tryz.sizeOf9
  v9 := Tryz.zeroValue9
  t22 := Tryz.underlying22
  a22 := Tryz.isAgg22
  z22 := Tryz.sizeOf22
  v22 := Tryz.zeroValue22
  t23 := Tryz.underlying22
  a23 := Tryz.isAgg22
  z23 := Tryz.sizeOf22
  v23 := Tryz.zeroValue22
  t25 := Tryz.underlying3
  a25 := Tryz.isAgg3
  z25 := Tryz.sizeOf3
  v25 := Tryz.zeroValue3
  t32 := Tryz.underlying161
  a32 := Tryz.isAgg161
  z32 := Tryz.sizeOf161
  v32 := Tryz.zeroValue161
  t35 := Tryz.underlying203
  a35 := Tryz.isAgg203
  z35 := Tryz.sizeOf203
  v35 := Tryz.zeroValue203
  t36 := Tryz.underlying204
  a36 := Tryz.isAgg204
  z36 := Tryz.sizeOf204
  v36 := Tryz.zeroValue204
  t41 := Tryz.underlying166
  a41 := Tryz.isAgg166
  z41 := Tryz.sizeOf166
  v41 := Tryz.zeroValue166
  t44 := Tryz.underlying210
  a44 := Tryz.isAgg210
  z44 := Tryz.sizeOf210
  v44 := Tryz.zeroValue210
  t46 := Tryz.underlying212
  a46 := Tryz.isAgg212
  z46 := Tryz.sizeOf212
  v46 := Tryz.zeroValue212
  t53 := Tryz.underlying253
  a53 := Tryz.isAgg253
  z53 := Tryz.sizeOf253
  v53 := Tryz.zeroValue253
  t57 := Tryz.underlying257
  a57 := Tryz.isAgg257
  z57 := Tryz.sizeOf257
  v57 := Tryz.zeroValue257
  t63 := Tryz.underlying287
  a63 := Tryz.isAgg287
  z63 := Tryz.sizeOf287
  v63 := Tryz.zeroValue287
  t64 := Tryz.underlying288
  a64 := Tryz.isAgg288
  z64 := Tryz.sizeOf288
  v64 := Tryz.zeroValue288 }
end Go.Proofs
