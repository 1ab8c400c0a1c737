/- Each function of the table is the program's function, translated; the five of Go's library and the range over a function by their own proofs. The law's call. No statement of the seat is proved here. -/
import Derived.Test.YtnpmddhindidgaaGreatDoorFx4
import Derived.Test.YtnpmddhindidgaaGreatDoorTmJ
import Derived.Test.YtnpmddhindidgaaGreatDoorGlobT
import Derived.Test.YtnpmddhindidgaaGreatDoorShelfIP
import Derived.Test.YtnpmddhindidgaaGreatDoorTmM
import Derived.Test.YtnpmddhindidgaaGreatDoorTmN
import Derived.Test.YtnpmddhindidgaaGreatDoorShelfQP
import Derived.Test.YtnpmddhindidgaaGreatDoorValI
set_option linter.unusedVariables false
set_option linter.constructorNameAsVariable false
namespace Tm.L4
open Go Tm
set_option maxRecDepth 100000
noncomputable abbrev P : Program := Go.Proofs.Tryz.prog
def G : Nat → Option AV := fun g => match g with
  | 2 | 3 => some (.pe [.d (.sl [.s ⟨#[65, 110, 121]⟩, .s ⟨#[78, 101, 118, 101, 114]⟩, .s ⟨#[116, 117, 112, 108, 101]⟩, .s ⟨#[117, 110, 105, 111, 110]⟩, .s ⟨#[101, 120, 105, 115, 116, 115]⟩])] 0)
  | _ => none
theorem glob : ∀ g av, G g = some av → (g = 2 ∨ g = 3) ∧ av = .pe [.d (.sl (resW.map fun l => .s ⟨l.toArray⟩))] 0 := fun g av h => by
  unfold G at h
  split at h
  · exact ⟨.inl rfl, (Option.some.inj h).symm.trans rfl⟩
  · exact ⟨.inr rfl, (Option.some.inj h).symm.trans rfl⟩
  · cases h
abbrev pu : Nat → Bool := puOf tbl
theorem mixed : P.follows .mixedOrders = true := by kernel_rfl
theorem ok4 : FnGood P G pu F 4 cf4 := good_of Go.Proofs.Tryz.func4 (by kernel_rfl) (show compF P G pu Go.Proofs.Tryz.f4 true false false false = some cf4 by kernel_rfl)
theorem ok6 : FnGood P G pu F 6 cf6 := good_of Go.Proofs.Tryz.func6 (by kernel_rfl) (show compF P G pu Go.Proofs.Tryz.f6 false false false false = some cf6 by kernel_rfl)
theorem ok13 : FnGood P G pu F 13 cf13 := good_of Go.Proofs.Tryz.func13 (by kernel_rfl) (show compF P G pu Go.Proofs.Tryz.f13 true false false false = some cf13 by kernel_rfl)
theorem ok16 : FnGood P G pu F 16 cf16 := good_of Go.Proofs.Tryz.func16 (by kernel_rfl) (show compF P G pu Go.Proofs.Tryz.f16 true false false false = some cf16 by kernel_rfl)
theorem ok19 : FnGood P G pu F 19 cf19 := good_of Go.Proofs.Tryz.func19 (by kernel_rfl) (show compF P G pu Go.Proofs.Tryz.f19 true false false false = some cf19 by kernel_rfl)
theorem ok20 : FnGood P G pu F 20 cf20 := good_of Go.Proofs.Tryz.func20 (by kernel_rfl) (show compF P G pu Go.Proofs.Tryz.f20 true false false false = some cf20 by kernel_rfl)
theorem ok21 : FnGood P G pu F 21 cf21 := good_of Go.Proofs.Tryz.func21 (by kernel_rfl) (show compF P G pu Go.Proofs.Tryz.f21 true false false false = some cf21 by kernel_rfl)
theorem ok22 : FnGood P G pu F 22 cf22 := good_of Go.Proofs.Tryz.func22 (by kernel_rfl) (show compF P G pu Go.Proofs.Tryz.f22 true false false false = some cf22 by kernel_rfl)
theorem ok23 : FnGood P G pu F 23 cf23 := good_of Go.Proofs.Tryz.func23 (by kernel_rfl) (show compF P G pu Go.Proofs.Tryz.f23 true false false false = some cf23 by kernel_rfl)
theorem ok24 : FnGood P G pu F 24 cf24 := good_of Go.Proofs.Tryz.func24 (by kernel_rfl) (show compF P G pu Go.Proofs.Tryz.f24 true false false false = some cf24 by kernel_rfl)
theorem ok25 : FnGood P G pu F 25 cf25 := good_of Go.Proofs.Tryz.func25 (by kernel_rfl) (show compF P G pu Go.Proofs.Tryz.f25 true false false false = some cf25 by kernel_rfl)
theorem ok26 : FnGood P G pu F 26 cf26 := good_of Go.Proofs.Tryz.func26 (by kernel_rfl) (show compF P G pu Go.Proofs.Tryz.f26 true false false false = some cf26 by kernel_rfl)
theorem ok27 : FnGood P G pu F 27 cf27 := good_of Go.Proofs.Tryz.func27 (by kernel_rfl) (show compF P G pu Go.Proofs.Tryz.f27 true false false false = some cf27 by kernel_rfl)
theorem ok32 : FnGood P G pu F 32 cf32 := good_of Go.Proofs.Tryz.func32 (by kernel_rfl) (show compF P G pu Go.Proofs.Tryz.f32 true false false false = some cf32 by kernel_rfl)
theorem ok35 : FnGood P G pu F 35 cf35 := good_of Go.Proofs.Tryz.func35 (by kernel_rfl) (show compF P G pu Go.Proofs.Tryz.f35 false false false false = some cf35 by kernel_rfl)
theorem ok36 : FnGood P G pu F 36 cf36 := good_of Go.Proofs.Tryz.func36 (by kernel_rfl) (show compF P G pu Go.Proofs.Tryz.f36 false false false false = some cf36 by kernel_rfl)
theorem ok37 : FnGood P G pu F 37 cf37 := good_of Go.Proofs.Tryz.func37 (by kernel_rfl) (show compF P G pu Go.Proofs.Tryz.f37 false false false false = some cf37 by kernel_rfl)
theorem ok38 : FnGood P G pu F 38 cf38 := good_of Go.Proofs.Tryz.func38 (by kernel_rfl) (show compF P G pu Go.Proofs.Tryz.f38 false false false false = some cf38 by kernel_rfl)
theorem ok39 : FnGood P G pu F 39 cf39 := good_of Go.Proofs.Tryz.func39 (by kernel_rfl) (show compF P G pu Go.Proofs.Tryz.f39 true false false false = some cf39 by kernel_rfl)
theorem ok40 : FnGood P G pu F 40 cf40 := good_of Go.Proofs.Tryz.func40 (by kernel_rfl) (show compF P G pu Go.Proofs.Tryz.f40 true false false false = some cf40 by kernel_rfl)
theorem ok41 : FnGood P G pu F 41 cf41 := good_of Go.Proofs.Tryz.func41 (by kernel_rfl) (show compF P G pu Go.Proofs.Tryz.f41 true false false true = some cf41 by kernel_rfl)
theorem ok45 : FnGood P G pu F 45 cf45 := good_of Go.Proofs.Tryz.func45 (by kernel_rfl) (show compF P G pu Go.Proofs.Tryz.f45 true false false false = some cf45 by kernel_rfl)
theorem ok46 : FnGood P G pu F 46 cf46 := good_of Go.Proofs.Tryz.func46 (by kernel_rfl) (show compF P G pu Go.Proofs.Tryz.f46 true false false false = some cf46 by kernel_rfl)
theorem ok47 : FnGood P G pu F 47 cf47 := good_of Go.Proofs.Tryz.func47 (by kernel_rfl) (show compF P G pu Go.Proofs.Tryz.f47 true false false false = some cf47 by kernel_rfl)
theorem ok48 : FnGood P G pu F 48 cf48 := good_of Go.Proofs.Tryz.func48 (by kernel_rfl) (show compF P G pu Go.Proofs.Tryz.f48 true false false false = some cf48 by kernel_rfl)
theorem ok49 : FnGood P G pu F 49 cf49 := good_of Go.Proofs.Tryz.func49 (by kernel_rfl) (show compF P G pu Go.Proofs.Tryz.f49 true false false true = some cf49 by kernel_rfl)
theorem ok50 : FnGood P G pu F 50 cf50 := good_of Go.Proofs.Tryz.func50 (by kernel_rfl) (show compF P G pu Go.Proofs.Tryz.f50 true true false false = some cf50 by kernel_rfl)
theorem ok51 : FnGood P G pu F 51 cf51 := good_of Go.Proofs.Tryz.func51 (by kernel_rfl) (show compF P G pu Go.Proofs.Tryz.f51 false false false false = some cf51 by kernel_rfl)
theorem ok52 : FnGood P G pu F 52 cf52 := good_of Go.Proofs.Tryz.func52 (by kernel_rfl) (show compF P G pu Go.Proofs.Tryz.f52 false false false false = some cf52 by kernel_rfl)
theorem ok56 : FnGood P G pu F 56 cf56 := good_of Go.Proofs.Tryz.func56 (by kernel_rfl) (show compF P G pu Go.Proofs.Tryz.f56 true false false false = some cf56 by kernel_rfl)
theorem ok57 : FnGood P G pu F 57 cf57 := good_of Go.Proofs.Tryz.func57 (by kernel_rfl) (show compF P G pu Go.Proofs.Tryz.f57 true false false false = some cf57 by kernel_rfl)
theorem ok58 : FnGood P G pu F 58 cf58 := good_of Go.Proofs.Tryz.func58 (by kernel_rfl) (show compF P G pu Go.Proofs.Tryz.f58 true false false false = some cf58 by kernel_rfl)
theorem ok62 : FnGood P G pu F 62 cf62 := good_of Go.Proofs.Tryz.func62 (by kernel_rfl) (show compF P G pu Go.Proofs.Tryz.f62 true false false false = some cf62 by kernel_rfl)
theorem ok63 : FnGood P G pu F 63 cf63 := good_of Go.Proofs.Tryz.func63 (by kernel_rfl) (show compF P G pu Go.Proofs.Tryz.f63 true false false false = some cf63 by kernel_rfl)
theorem ok65 : FnGood P G pu F 65 cf65 := good_of Go.Proofs.Tryz.func65 (by kernel_rfl) (show compF P G pu Go.Proofs.Tryz.f65 true false false false = some cf65 by kernel_rfl)
theorem ok66 : FnGood P G pu F 66 cf66 := good_of Go.Proofs.Tryz.func66 (by kernel_rfl) (show compF P G pu Go.Proofs.Tryz.f66 false false false false = some cf66 by kernel_rfl)
theorem ok68 : FnGood P G pu F 68 cf68 := good_of Go.Proofs.Tryz.func68 (by kernel_rfl) (show compF P G pu Go.Proofs.Tryz.f68 false false false false = some cf68 by kernel_rfl)
theorem ok69 : FnGood P G pu F 69 cf69 := good_of Go.Proofs.Tryz.func69 (by kernel_rfl) (show compF P G pu Go.Proofs.Tryz.f69 true false false false = some cf69 by kernel_rfl)
theorem ok70 : FnGood P G pu F 70 cf70 := good_of Go.Proofs.Tryz.func70 (by kernel_rfl) (show compF P G pu Go.Proofs.Tryz.f70 false false false false = some cf70 by kernel_rfl)
theorem ok71 : FnGood P G pu F 71 cf71 := good_of Go.Proofs.Tryz.func71 (by kernel_rfl) (show compF P G pu Go.Proofs.Tryz.f71 true false false false = some cf71 by kernel_rfl)
theorem ok72 : FnGood P G pu F 72 cf72 := good_of Go.Proofs.Tryz.func72 (by kernel_rfl) (show compF P G pu Go.Proofs.Tryz.f72 true false false false = some cf72 by kernel_rfl)
theorem ok73 : FnGood P G pu F 73 cf73 := good_of Go.Proofs.Tryz.func73 (by kernel_rfl) (show compF P G pu Go.Proofs.Tryz.f73 true false false false = some cf73 by kernel_rfl)
theorem ok74 : FnGood P G pu F 74 cf74 := good_of Go.Proofs.Tryz.func74 (by kernel_rfl) (show compF P G pu Go.Proofs.Tryz.f74 false false false false = some cf74 by kernel_rfl)
theorem ok79 : FnGood P G pu F 79 cf79 := good_of Go.Proofs.Tryz.func79 (by kernel_rfl) (show compF P G pu Go.Proofs.Tryz.f79 true false false false = some cf79 by kernel_rfl)
theorem ok81 : FnGood P G pu F 81 cf81 := good_of Go.Proofs.Tryz.func81 (by kernel_rfl) (show compF P G pu Go.Proofs.Tryz.f81 false false false false = some cf81 by kernel_rfl)
theorem ok82 : FnGood P G pu F 82 cf82 := good_of Go.Proofs.Tryz.func82 (by kernel_rfl) (show compF P G pu Go.Proofs.Tryz.f82 true false false false = some cf82 by kernel_rfl)
theorem ok83 : FnGood P G pu F 83 cf83 := good_of Go.Proofs.Tryz.func83 (by kernel_rfl) (show compF P G pu Go.Proofs.Tryz.f83 false false false false = some cf83 by kernel_rfl)
theorem ok85 : FnGood P G pu F 85 cf85 := good_of Go.Proofs.Tryz.func85 (by kernel_rfl) (show compF P G pu Go.Proofs.Tryz.f85 false false false false = some cf85 by kernel_rfl)
theorem ok86 : FnGood P G pu F 86 cf86 := good_of Go.Proofs.Tryz.func86 (by kernel_rfl) (show compF P G pu Go.Proofs.Tryz.f86 true false false false = some cf86 by kernel_rfl)
theorem ok87 : FnGood P G pu F 87 cf87 := good_of Go.Proofs.Tryz.func87 (by kernel_rfl) (show compF P G pu Go.Proofs.Tryz.f87 true false false false = some cf87 by kernel_rfl)
theorem ok88 : FnGood P G pu F 88 (cNo true) := good_no Go.Proofs.Tryz.func88 (by kernel_rfl) (by kernel_rfl)
theorem ok89 : FnGood P G pu F 89 cf89 := good_of Go.Proofs.Tryz.func89 (by kernel_rfl) (show compF P G pu Go.Proofs.Tryz.f89 true false false false = some cf89 by kernel_rfl)
theorem ok90 : FnGood P G pu F 90 cf90 := good_of Go.Proofs.Tryz.func90 (by kernel_rfl) (show compF P G pu Go.Proofs.Tryz.f90 false false false false = some cf90 by kernel_rfl)
theorem ok91 : FnGood P G pu F 91 cf91 := good_of Go.Proofs.Tryz.func91 (by kernel_rfl) (show compF P G pu Go.Proofs.Tryz.f91 true false false false = some cf91 by kernel_rfl)
theorem ok92 : FnGood P G pu F 92 (cNo false) := good_no Go.Proofs.Tryz.func92 (by kernel_rfl) (by kernel_rfl)
theorem ok93 : FnGood P G pu F 93 cf93 := good_of Go.Proofs.Tryz.func93 (by kernel_rfl) (show compF P G pu Go.Proofs.Tryz.f93 true false false false = some cf93 by kernel_rfl)
theorem ok94 : FnGood P G pu F 94 cf94 := good_of Go.Proofs.Tryz.func94 (by kernel_rfl) (show compF P G pu Go.Proofs.Tryz.f94 true false false false = some cf94 by kernel_rfl)
theorem ok95 : FnGood P G pu F 95 cf95 := good_of Go.Proofs.Tryz.func95 (by kernel_rfl) (show compF P G pu Go.Proofs.Tryz.f95 true false false false = some cf95 by kernel_rfl)
theorem ok98 : FnGood P G pu F 98 cf98 := good_of Go.Proofs.Tryz.func98 (by kernel_rfl) (show compF P G pu Go.Proofs.Tryz.f98 true false false false = some cf98 by kernel_rfl)
theorem ok99 : FnGood P G pu F 99 cf99 := good_of Go.Proofs.Tryz.func99 (by kernel_rfl) (show compF P G pu Go.Proofs.Tryz.f99 true false false false = some cf99 by kernel_rfl)
theorem ok100 : FnGood P G pu F 100 cf100 := good_of Go.Proofs.Tryz.func100 (by kernel_rfl) (show compF P G pu Go.Proofs.Tryz.f100 true false false false = some cf100 by kernel_rfl)
theorem ok101 : FnGood P G pu F 101 cf101 := good_of Go.Proofs.Tryz.func101 (by kernel_rfl) (show compF P G pu Go.Proofs.Tryz.f101 true false false false = some cf101 by kernel_rfl)
theorem ok102 : FnGood P G pu F 102 cf102 := good_of Go.Proofs.Tryz.func102 (by kernel_rfl) (show compF P G pu Go.Proofs.Tryz.f102 true false false false = some cf102 by kernel_rfl)
theorem ok103 : FnGood P G pu F 103 cf103 := good_of Go.Proofs.Tryz.func103 (by kernel_rfl) (show compF P G pu Go.Proofs.Tryz.f103 false false false false = some cf103 by kernel_rfl)
theorem ok104 : FnGood P G pu F 104 cf104 := good_of Go.Proofs.Tryz.func104 (by kernel_rfl) (show compF P G pu Go.Proofs.Tryz.f104 true false false false = some cf104 by kernel_rfl)
theorem ok105 : FnGood P G pu F 105 cf105 := good_of Go.Proofs.Tryz.func105 (by kernel_rfl) (show compF P G pu Go.Proofs.Tryz.f105 false false true false = some cf105 by kernel_rfl)
theorem ok106 : FnGood P G pu F 106 cf106 := good_of Go.Proofs.Tryz.func106 (by kernel_rfl) (show compF P G pu Go.Proofs.Tryz.f106 true false false false = some cf106 by kernel_rfl)
theorem ok107 : FnGood P G pu F 107 cf107 := good_of Go.Proofs.Tryz.func107 (by kernel_rfl) (show compF P G pu Go.Proofs.Tryz.f107 true false false false = some cf107 by kernel_rfl)
theorem ok108 : FnGood P G pu F 108 cf108 := good_of Go.Proofs.Tryz.func108 (by kernel_rfl) (show compF P G pu Go.Proofs.Tryz.f108 true false false false = some cf108 by kernel_rfl)
theorem ok109 : FnGood P G pu F 109 cf109 := good_of Go.Proofs.Tryz.func109 (by kernel_rfl) (show compF P G pu Go.Proofs.Tryz.f109 false false false false = some cf109 by kernel_rfl)
theorem ok111 : FnGood P G pu F 111 cf111 := good_of Go.Proofs.Tryz.func111 (by kernel_rfl) (show compF P G pu Go.Proofs.Tryz.f111 true false false false = some cf111 by kernel_rfl)
theorem ok112 : FnGood P G pu F 112 cf112 := good_of Go.Proofs.Tryz.func112 (by kernel_rfl) (show compF P G pu Go.Proofs.Tryz.f112 false false false false = some cf112 by kernel_rfl)
theorem ok116 : FnGood P G pu F 116 cf116 := good_of Go.Proofs.Tryz.func116 (by kernel_rfl) (show compF P G pu Go.Proofs.Tryz.f116 true false false false = some cf116 by kernel_rfl)
theorem ok119 : FnGood P G pu F 119 cf119 := good_of Go.Proofs.Tryz.func119 (by kernel_rfl) (show compF P G pu Go.Proofs.Tryz.f119 true false false false = some cf119 by kernel_rfl)
theorem ok120 : FnGood P G pu F 120 cf120 := good_of Go.Proofs.Tryz.func120 (by kernel_rfl) (show compF P G pu Go.Proofs.Tryz.f120 true false false false = some cf120 by kernel_rfl)
theorem ok121 : FnGood P G pu F 121 cf121 := good_of Go.Proofs.Tryz.func121 (by kernel_rfl) (show compF P G pu Go.Proofs.Tryz.f121 true false false false = some cf121 by kernel_rfl)
theorem ok122 : FnGood P G pu F 122 cf122 := good_of Go.Proofs.Tryz.func122 (by kernel_rfl) (show compF P G pu Go.Proofs.Tryz.f122 true false false false = some cf122 by kernel_rfl)
theorem ok123 : FnGood P G pu F 123 cf123 := good_of Go.Proofs.Tryz.func123 (by kernel_rfl) (show compF P G pu Go.Proofs.Tryz.f123 true false false false = some cf123 by kernel_rfl)
theorem ok129 : FnGood P G pu F 129 (cNo true) := good_no Go.Proofs.Tryz.func129 (by kernel_rfl) (by kernel_rfl)
theorem ok130 : FnGood P G pu F 130 cf130 := good_of Go.Proofs.Tryz.func130 (by kernel_rfl) (show compF P G pu Go.Proofs.Tryz.f130 true false false false = some cf130 by kernel_rfl)
theorem ok134 : FnGood P G pu F 134 cf134 := good_of Go.Proofs.Tryz.func134 (by kernel_rfl) (show compF P G pu Go.Proofs.Tryz.f134 false false false false = some cf134 by kernel_rfl)
theorem ok135 : FnGood P G pu F 135 cf135 := good_of Go.Proofs.Tryz.func135 (by kernel_rfl) (show compF P G pu Go.Proofs.Tryz.f135 true false false false = some cf135 by kernel_rfl)
theorem ok136 : FnGood P G pu F 136 cf136 := good_of Go.Proofs.Tryz.func136 (by kernel_rfl) (show compF P G pu Go.Proofs.Tryz.f136 true false false false = some cf136 by kernel_rfl)
theorem ok137 : FnGood P G pu F 137 cf137 := good_of Go.Proofs.Tryz.func137 (by kernel_rfl) (show compF P G pu Go.Proofs.Tryz.f137 true false false false = some cf137 by kernel_rfl)
theorem ok138 : FnGood P G pu F 138 cf138 := good_of Go.Proofs.Tryz.func138 (by kernel_rfl) (show compF P G pu Go.Proofs.Tryz.f138 true false false false = some cf138 by kernel_rfl)
theorem ok139 : FnGood P G pu F 139 cf139 := good_of Go.Proofs.Tryz.func139 (by kernel_rfl) (show compF P G pu Go.Proofs.Tryz.f139 true false false false = some cf139 by kernel_rfl)
theorem ok140 : FnGood P G pu F 140 cf140 := good_of Go.Proofs.Tryz.func140 (by kernel_rfl) (show compF P G pu Go.Proofs.Tryz.f140 false false false false = some cf140 by kernel_rfl)
theorem ok141 : FnGood P G pu F 141 cf141 := good_of Go.Proofs.Tryz.func141 (by kernel_rfl) (show compF P G pu Go.Proofs.Tryz.f141 true false false false = some cf141 by kernel_rfl)
theorem ok148 : FnGood P G pu F 148 cf148 := good_of Go.Proofs.Tryz.func148 (by kernel_rfl) (show compF P G pu Go.Proofs.Tryz.f148 true false false false = some cf148 by kernel_rfl)
theorem ok149 : FnGood P G pu F 149 cf149 := good_of Go.Proofs.Tryz.func149 (by kernel_rfl) (show compF P G pu Go.Proofs.Tryz.f149 true false false false = some cf149 by kernel_rfl)
theorem ok150 : FnGood P G pu F 150 cf150 := good_of Go.Proofs.Tryz.func150 (by kernel_rfl) (show compF P G pu Go.Proofs.Tryz.f150 true false false false = some cf150 by kernel_rfl)
theorem ok153 : FnGood P G pu F 153 cf153 := good_of Go.Proofs.Tryz.func153 (by kernel_rfl) (show compF P G pu Go.Proofs.Tryz.f153 true false false false = some cf153 by kernel_rfl)
theorem ok154 : FnGood P G pu F 154 cf154 := good_of Go.Proofs.Tryz.func154 (by kernel_rfl) (show compF P G pu Go.Proofs.Tryz.f154 false false false false = some cf154 by kernel_rfl)
theorem ok155 : FnGood P G pu F 155 cf155 := good_of Go.Proofs.Tryz.func155 (by kernel_rfl) (show compF P G pu Go.Proofs.Tryz.f155 true false false false = some cf155 by kernel_rfl)
theorem ok156 : FnGood P G pu F 156 cf156 := good_of Go.Proofs.Tryz.func156 (by kernel_rfl) (show compF P G pu Go.Proofs.Tryz.f156 true false false false = some cf156 by kernel_rfl)
theorem ok157 : FnGood P G pu F 157 cf157 := good_of Go.Proofs.Tryz.func157 (by kernel_rfl) (show compF P G pu Go.Proofs.Tryz.f157 true false false false = some cf157 by kernel_rfl)
theorem ok158 : FnGood P G pu F 158 cf158 := good_of Go.Proofs.Tryz.func158 (by kernel_rfl) (show compF P G pu Go.Proofs.Tryz.f158 false false false false = some cf158 by kernel_rfl)
theorem ok159 : FnGood P G pu F 159 cf159 := good_of Go.Proofs.Tryz.func159 (by kernel_rfl) (show compF P G pu Go.Proofs.Tryz.f159 false false false false = some cf159 by kernel_rfl)
theorem ok160 : FnGood P G pu F 160 cf160 := good_of Go.Proofs.Tryz.func160 (by kernel_rfl) (show compF P G pu Go.Proofs.Tryz.f160 false false true false = some cf160 by kernel_rfl)
theorem ok161 : FnGood P G pu F 161 (cNo true) := good_no Go.Proofs.Tryz.func161 (by kernel_rfl) (by kernel_rfl)
theorem ok162 : FnGood P G pu F 162 (cNo true) := good_no Go.Proofs.Tryz.func162 (by kernel_rfl) (by kernel_rfl)
theorem ok163 : FnGood P G pu F 163 (cNo false) := good_no Go.Proofs.Tryz.func163 (by kernel_rfl) (by kernel_rfl)
theorem ok164 : FnGood P G pu F 164 cf164 := good_of Go.Proofs.Tryz.func164 (by kernel_rfl) (show compF P G pu Go.Proofs.Tryz.f164 false false false false = some cf164 by kernel_rfl)
theorem ok165 : FnGood P G pu F 165 cf165 := good_of Go.Proofs.Tryz.func165 (by kernel_rfl) (show compF P G pu Go.Proofs.Tryz.f165 true false false false = some cf165 by kernel_rfl)
theorem ok166 : FnGood P G pu F 166 (cNo true) := good_no Go.Proofs.Tryz.func166 (by kernel_rfl) (by kernel_rfl)
theorem ok167 : FnGood P G pu F 167 cf167 := good_of Go.Proofs.Tryz.func167 (by kernel_rfl) (show compF P G pu Go.Proofs.Tryz.f167 true false false false = some cf167 by kernel_rfl)
theorem ok169 : FnGood P G pu F 169 cf169 := good_of Go.Proofs.Tryz.func169 (by kernel_rfl) (show compF P G pu Go.Proofs.Tryz.f169 false false false false = some cf169 by kernel_rfl)
theorem ok170 : FnGood P G pu F 170 (cNo false) := good_no Go.Proofs.Tryz.func170 (by kernel_rfl) (by kernel_rfl)
theorem ok174 : FnGood P G pu F 174 cf174 := good_of Go.Proofs.Tryz.func174 (by kernel_rfl) (show compF P G pu Go.Proofs.Tryz.f174 true false false false = some cf174 by kernel_rfl)
theorem ok175 : FnGood P G pu F 175 cf175 := good_of Go.Proofs.Tryz.func175 (by kernel_rfl) (show compF P G pu Go.Proofs.Tryz.f175 true false false false = some cf175 by kernel_rfl)
theorem ok176 : FnGood P G pu F 176 cf176 := good_of Go.Proofs.Tryz.func176 (by kernel_rfl) (show compF P G pu Go.Proofs.Tryz.f176 true false false false = some cf176 by kernel_rfl)
theorem ok177 : FnGood P G pu F 177 cf177 := good_of Go.Proofs.Tryz.func177 (by kernel_rfl) (show compF P G pu Go.Proofs.Tryz.f177 true false false false = some cf177 by kernel_rfl)
theorem ok178 : FnGood P G pu F 178 cf178 := good_of Go.Proofs.Tryz.func178 (by kernel_rfl) (show compF P G pu Go.Proofs.Tryz.f178 true false false false = some cf178 by kernel_rfl)
theorem ok183 : FnGood P G pu F 183 cf183 := good_of Go.Proofs.Tryz.func183 (by kernel_rfl) (show compF P G pu Go.Proofs.Tryz.f183 false false false false = some cf183 by kernel_rfl)
theorem ok184 : FnGood P G pu F 184 cf184 := good_of Go.Proofs.Tryz.func184 (by kernel_rfl) (show compF P G pu Go.Proofs.Tryz.f184 true false false false = some cf184 by kernel_rfl)
theorem ok185 : FnGood P G pu F 185 cf185 := good_of Go.Proofs.Tryz.func185 (by kernel_rfl) (show compF P G pu Go.Proofs.Tryz.f185 true false false false = some cf185 by kernel_rfl)
theorem ok188 : FnGood P G pu F 188 (cNo true) := good_no Go.Proofs.Tryz.func188 (by kernel_rfl) (by kernel_rfl)
theorem ok189 : FnGood P G pu F 189 cf189 := good_of Go.Proofs.Tryz.func189 (by kernel_rfl) (show compF P G pu Go.Proofs.Tryz.f189 true false false false = some cf189 by kernel_rfl)
theorem ok190 : FnGood P G pu F 190 cf190 := good_of Go.Proofs.Tryz.func190 (by kernel_rfl) (show compF P G pu Go.Proofs.Tryz.f190 true false false false = some cf190 by kernel_rfl)
theorem ok191 : FnGood P G pu F 191 cf191 := good_of Go.Proofs.Tryz.func191 (by kernel_rfl) (show compF P G pu Go.Proofs.Tryz.f191 true false false false = some cf191 by kernel_rfl)
theorem ok192 : FnGood P G pu F 192 cf192 := good_of Go.Proofs.Tryz.func192 (by kernel_rfl) (show compF P G pu Go.Proofs.Tryz.f192 true false false false = some cf192 by kernel_rfl)
theorem ok193 : FnGood P G pu F 193 cf193 := good_of Go.Proofs.Tryz.func193 (by kernel_rfl) (show compF P G pu Go.Proofs.Tryz.f193 false false false false = some cf193 by kernel_rfl)
theorem ok194 : FnGood P G pu F 194 (cNo false) := good_no Go.Proofs.Tryz.func194 (by kernel_rfl) (by kernel_rfl)
theorem ok195 : FnGood P G pu F 195 (cNo false) := good_no Go.Proofs.Tryz.func195 (by kernel_rfl) (by kernel_rfl)
theorem ok196 : FnGood P G pu F 196 (cNo false) := good_no Go.Proofs.Tryz.func196 (by kernel_rfl) (by kernel_rfl)
theorem ok197 : FnGood P G pu F 197 (cNo false) := good_no Go.Proofs.Tryz.func197 (by kernel_rfl) (by kernel_rfl)
theorem ok198 : FnGood P G pu F 198 (cNo false) := good_no Go.Proofs.Tryz.func198 (by kernel_rfl) (by kernel_rfl)
theorem ok199 : FnGood P G pu F 199 (cNo false) := good_no Go.Proofs.Tryz.func199 (by kernel_rfl) (by kernel_rfl)
theorem ok200 : FnGood P G pu F 200 (cNo false) := good_no Go.Proofs.Tryz.func200 (by kernel_rfl) (by kernel_rfl)
theorem ok201 : FnGood P G pu F 201 (cNo true) := good_no Go.Proofs.Tryz.func201 (by kernel_rfl) (by kernel_rfl)
theorem ok202 : FnGood P G pu F 202 cf202 := good_of Go.Proofs.Tryz.func202 (by kernel_rfl) (show compF P G pu Go.Proofs.Tryz.f202 true false false false = some cf202 by kernel_rfl)
theorem ok207 : FnGood P G pu F 207 cf207 := good_of Go.Proofs.Tryz.func207 (by kernel_rfl) (show compF P G pu Go.Proofs.Tryz.f207 true false false false = some cf207 by kernel_rfl)
theorem ok208 : FnGood P G pu F 208 cf208 := good_of Go.Proofs.Tryz.func208 (by kernel_rfl) (show compF P G pu Go.Proofs.Tryz.f208 true false false false = some cf208 by kernel_rfl)
theorem ok209 : FnGood P G pu F 209 cf209 := good_of Go.Proofs.Tryz.func209 (by kernel_rfl) (show compF P G pu Go.Proofs.Tryz.f209 true false false false = some cf209 by kernel_rfl)
theorem ok210 : FnGood P G pu F 210 cf210 := good_of Go.Proofs.Tryz.func210 (by kernel_rfl) (show compF P G pu Go.Proofs.Tryz.f210 true false false false = some cf210 by kernel_rfl)
theorem ok211 : FnGood P G pu F 211 cf211 := good_of Go.Proofs.Tryz.func211 (by kernel_rfl) (show compF P G pu Go.Proofs.Tryz.f211 true false false false = some cf211 by kernel_rfl)
theorem ok212 : FnGood P G pu F 212 cf212 := good_of Go.Proofs.Tryz.func212 (by kernel_rfl) (show compF P G pu Go.Proofs.Tryz.f212 true false false false = some cf212 by kernel_rfl)
theorem ok213 : FnGood P G pu F 213 cf213 := good_of Go.Proofs.Tryz.func213 (by kernel_rfl) (show compF P G pu Go.Proofs.Tryz.f213 true false false false = some cf213 by kernel_rfl)
theorem ok214 : FnGood P G pu F 214 cf214 := good_of Go.Proofs.Tryz.func214 (by kernel_rfl) (show compF P G pu Go.Proofs.Tryz.f214 true false false false = some cf214 by kernel_rfl)
theorem ok215 : FnGood P G pu F 215 cf215 := good_of Go.Proofs.Tryz.func215 (by kernel_rfl) (show compF P G pu Go.Proofs.Tryz.f215 true false false false = some cf215 by kernel_rfl)
theorem ok216 : FnGood P G pu F 216 cf216 := good_of Go.Proofs.Tryz.func216 (by kernel_rfl) (show compF P G pu Go.Proofs.Tryz.f216 true false false false = some cf216 by kernel_rfl)
theorem ok217 : FnGood P G pu F 217 cf217 := good_of Go.Proofs.Tryz.func217 (by kernel_rfl) (show compF P G pu Go.Proofs.Tryz.f217 false false false false = some cf217 by kernel_rfl)
theorem ok218 : FnGood P G pu F 218 cf218 := good_of Go.Proofs.Tryz.func218 (by kernel_rfl) (show compF P G pu Go.Proofs.Tryz.f218 true false false false = some cf218 by kernel_rfl)
theorem ok219 : FnGood P G pu F 219 cf219 := good_of Go.Proofs.Tryz.func219 (by kernel_rfl) (show compF P G pu Go.Proofs.Tryz.f219 true false false false = some cf219 by kernel_rfl)
theorem ok220 : FnGood P G pu F 220 cf220 := good_of Go.Proofs.Tryz.func220 (by kernel_rfl) (show compF P G pu Go.Proofs.Tryz.f220 false false false false = some cf220 by kernel_rfl)
theorem ok225 : FnGood P G pu F 225 (cNo true) := good_no Go.Proofs.Tryz.func225 (by kernel_rfl) (by kernel_rfl)
theorem ok226 : FnGood P G pu F 226 cf226 := good_of Go.Proofs.Tryz.func226 (by kernel_rfl) (show compF P G pu Go.Proofs.Tryz.f226 false false false false = some cf226 by kernel_rfl)
theorem ok228 : FnGood P G pu F 228 cf228 := good_of Go.Proofs.Tryz.func228 (by kernel_rfl) (show compF P G pu Go.Proofs.Tryz.f228 false false false false = some cf228 by kernel_rfl)
theorem ok229 : FnGood P G pu F 229 cf229 := good_of Go.Proofs.Tryz.func229 (by kernel_rfl) (show compF P G pu Go.Proofs.Tryz.f229 true false false false = some cf229 by kernel_rfl)
theorem ok230 : FnGood P G pu F 230 cf230 := good_of Go.Proofs.Tryz.func230 (by kernel_rfl) (show compF P G pu Go.Proofs.Tryz.f230 true false false false = some cf230 by kernel_rfl)
theorem ok231 : FnGood P G pu F 231 cf231 := good_of Go.Proofs.Tryz.func231 (by kernel_rfl) (show compF P G pu Go.Proofs.Tryz.f231 true false false false = some cf231 by kernel_rfl)
theorem ok241 : FnGood P G pu F 241 cf241 := good_of Go.Proofs.Tryz.func241 (by kernel_rfl) (show compF P G pu Go.Proofs.Tryz.f241 false false false false = some cf241 by kernel_rfl)
theorem ok242 : FnGood P G pu F 242 cf242 := good_of Go.Proofs.Tryz.func242 (by kernel_rfl) (show compF P G pu Go.Proofs.Tryz.f242 true false false false = some cf242 by kernel_rfl)
theorem ok243 : FnGood P G pu F 243 (cNo true) := good_no Go.Proofs.Tryz.func243 (by kernel_rfl) (by kernel_rfl)
theorem ok251 : FnGood P G pu F 251 (cNo true) := good_no Go.Proofs.Tryz.func251 (by kernel_rfl) (by kernel_rfl)
theorem ok256 : FnGood P G pu F 256 cf256 := good_of Go.Proofs.Tryz.func256 (by kernel_rfl) (show compF P G pu Go.Proofs.Tryz.f256 true false false false = some cf256 by kernel_rfl)
theorem ok257 : FnGood P G pu F 257 cf257 := good_of Go.Proofs.Tryz.func257 (by kernel_rfl) (show compF P G pu Go.Proofs.Tryz.f257 true true false false = some cf257 by kernel_rfl)
theorem ok258 : FnGood P G pu F 258 cf258 := good_of Go.Proofs.Tryz.func258 (by kernel_rfl) (show compF P G pu Go.Proofs.Tryz.f258 true false false false = some cf258 by kernel_rfl)
theorem ok265 : FnGood P G pu F 265 (cNo true) := good_no Go.Proofs.Tryz.func265 (by kernel_rfl) (by kernel_rfl)
theorem ok266 : FnGood P G pu F 266 cf266 := good_of Go.Proofs.Tryz.func266 (by kernel_rfl) (show compF P G pu Go.Proofs.Tryz.f266 true false false false = some cf266 by kernel_rfl)
theorem ok267 : FnGood P G pu F 267 cf267 := good_of Go.Proofs.Tryz.func267 (by kernel_rfl) (show compF P G pu Go.Proofs.Tryz.f267 true false false false = some cf267 by kernel_rfl)
theorem ok269 : FnGood P G pu F 269 cf269 := good_of Go.Proofs.Tryz.func269 (by kernel_rfl) (show compF P G pu Go.Proofs.Tryz.f269 false false false false = some cf269 by kernel_rfl)
theorem ok270 : FnGood P G pu F 270 cf270 := good_of Go.Proofs.Tryz.func270 (by kernel_rfl) (show compF P G pu Go.Proofs.Tryz.f270 true false false false = some cf270 by kernel_rfl)
theorem ok272 : FnGood P G pu F 272 (cNo false) := good_no Go.Proofs.Tryz.func272 (by kernel_rfl) (by kernel_rfl)
theorem ok280 : FnGood P G pu F 280 (cNo true) := good_no Go.Proofs.Tryz.func280 (by kernel_rfl) (by kernel_rfl)
theorem ok291 : FnGood P G pu F 291 cf291 := good_of Go.Proofs.Tryz.func291 (by kernel_rfl) (show compF P G pu Go.Proofs.Tryz.f291 false false false false = some cf291 by kernel_rfl)
theorem ok292 : FnGood P G pu F 292 cf292 := good_of Go.Proofs.Tryz.func292 (by kernel_rfl) (show compF P G pu Go.Proofs.Tryz.f292 true false false false = some cf292 by kernel_rfl)
theorem ok293 : FnGood P G pu F 293 (cNo true) := good_no Go.Proofs.Tryz.func293 (by kernel_rfl) (by kernel_rfl)
theorem ok304 : FnGood P G pu F 304 (cNo true) := good_no Go.Proofs.Tryz.func304 (by kernel_rfl) (by kernel_rfl)
theorem ok307 : FnGood P G pu F 307 cf307 := good_of Go.Proofs.Tryz.func307 (by kernel_rfl) (show compF P G pu Go.Proofs.Tryz.f307 false false false false = some cf307 by kernel_rfl)
theorem ok320 : FnGood P G pu F 320 cf320 := good_of Go.Proofs.Tryz.func320 (by kernel_rfl) (show compF P G pu Go.Proofs.Tryz.f320 false false false false = some cf320 by kernel_rfl)
theorem ok322 : FnGood P G pu F 322 cf322 := good_of Go.Proofs.Tryz.func322 (by kernel_rfl) (show compF P G pu Go.Proofs.Tryz.f322 true false false false = some cf322 by kernel_rfl)
theorem ok329 : FnGood P G pu F 329 (cNo true) := good_no Go.Proofs.Tryz.func329 (by kernel_rfl) (by kernel_rfl)
theorem ok330 : FnGood P G pu F 330 (cNo false) := good_no Go.Proofs.Tryz.func330 (by kernel_rfl) (by kernel_rfl)
theorem ok268 : FnGood P G pu F 268 cf268 := .inr fun k _ _ => spec_ins Go.Proofs.Tryz.laysInsI
noncomputable def k110 : Code := bodyOf Go.Proofs.Tryz.f110
theorem ok110 : FnGood P G pu F 110 cf110 := .inr fun k _ _ => spec_clone (N := 0) (i0 := regI (sa k110)) (i1 := regI (sa (sa (sb k110)))) (i2 := regI (sa (condA (sb (sa (sb k110)))))) (o0 := opAt (regO (sa k110)) 0) (o1 := opAt (regO (sa (sa (sb k110)))) 0) (o2 := opAt (regO (sa (sa (sb k110)))) 1) (o3 := opAt (regO (sa (condA (sb (sa (sb k110)))))) 0) (Dc := sb (sb k110)) (t := cT (opAt (regO (sa (sa (sb k110)))) 1).op) (el := elT P (cT (opAt (regO (sa (sa (sb k110)))) 1).op)) (ty := cTy (opAt (regO (sa (sa (sb k110)))) 1).op) (zs := bsZ (comp P G (fun _ => false) Go.Proofs.Tryz.f110.ntmps (sb (sb k110)))) (frz := true) mixed Go.Proofs.Tryz.func110 (by kernel_rfl) (by kernel_rfl) (by kernel_rfl) (by decide) (by kernel_rfl) (by kernel_rfl) (by kernel_rfl) (by kernel_rfl) (by kernel_rfl) (by kernel_rfl) (by kernel_rfl) (by kernel_rfl) (by kernel_rfl) (by kernel_rfl) (by kernel_rfl) (by kernel_rfl) (by kernel_rfl) (by kernel_rfl) (by kernel_rfl)
noncomputable def k271 : Code := bodyOf Go.Proofs.Tryz.f271
theorem ok271 : FnGood P G pu F 271 cf271 := .inr fun k _ _ => spec_clone (N := 0) (i0 := regI (sa k271)) (i1 := regI (sa (sa (sb k271)))) (i2 := regI (sa (condA (sb (sa (sb k271)))))) (o0 := opAt (regO (sa k271)) 0) (o1 := opAt (regO (sa (sa (sb k271)))) 0) (o2 := opAt (regO (sa (sa (sb k271)))) 1) (o3 := opAt (regO (sa (condA (sb (sa (sb k271)))))) 0) (Dc := sb (sb k271)) (t := cT (opAt (regO (sa (sa (sb k271)))) 1).op) (el := elT P (cT (opAt (regO (sa (sa (sb k271)))) 1).op)) (ty := cTy (opAt (regO (sa (sa (sb k271)))) 1).op) (zs := bsZ (comp P G (fun _ => false) Go.Proofs.Tryz.f271.ntmps (sb (sb k271)))) (frz := true) mixed Go.Proofs.Tryz.func271 (by kernel_rfl) (by kernel_rfl) (by kernel_rfl) (by decide) (by kernel_rfl) (by kernel_rfl) (by kernel_rfl) (by kernel_rfl) (by kernel_rfl) (by kernel_rfl) (by kernel_rfl) (by kernel_rfl) (by kernel_rfl) (by kernel_rfl) (by kernel_rfl) (by kernel_rfl) (by kernel_rfl) (by kernel_rfl) (by kernel_rfl)
noncomputable def kb : Code := bodyOf Go.Proofs.Tryz.f55
noncomputable def kx : Code := sb (sb (sb kb))
noncomputable def ky : Code := sa kx
noncomputable def kr : Code := blkC (sb ky)
noncomputable def r0 : Array Oper := regO (sa kb)
noncomputable def r1 : Array Oper := regO (sa (sb kb))
noncomputable def r2 : Array Oper := regO (sa (sb (sb kb)))
noncomputable def r3 : Array Oper := regO (sa ky)
noncomputable def o4 : Array Oper := regO (rfA kr)
noncomputable def o5 : Array Oper := regO (blkC (rfB kr))
noncomputable def r6 : Array Oper := regO (sa (sb kx))
def q0 : List (Nat × COper) := [(0, ⟨(.some 1), .none, (.box (.t 0)), [], .none⟩), (1, ⟨(.some 2), .none, (.alloc zV), [], .none⟩)]
def q1 : List (Nat × COper) := [(0, ⟨(.some 7), .none, (.fld 0 (.t 1)), [], .none⟩), (1, ⟨(.some 8), .none, (.load .none (.t 7)), [], .none⟩), (2, ⟨(.some 9), .none, (.len false (.t 8)), [], .none⟩), (3, ⟨(.some 3), .none, (.alloc [(.d (.i .i64 (.ofNat 0)))]), [], .none⟩), (4, ⟨.none, .none, (.store 1 (.t 3) (.t 9)), [], .none⟩)]
def q2 : List (Nat × COper) := [(0, ⟨(.some 10), .none, (.fld 1 (.t 1)), [], .none⟩), (1, ⟨(.some 11), .none, (.load (.some 4) (.t 10)), [], .none⟩), (2, ⟨(.some 12), .none, (.mkf 117 [] [(.t 3)]), [], .none⟩), (3, ⟨(.some 13), .none, (.call 116 [(.t 11), (.c (.d (.b false))), (.t 12)]), [], .none⟩), (4, ⟨(.some 4), .none, (.alloc zV), [], .none⟩), (5, ⟨.none, .none, (.store 4 (.t 4) (.t 13)), [], .none⟩)]
theorem btc : BtC P G pu 55 118 173 119 25 r0 r1 r2 r3 o4 o5 r6 q0 q1 q2 where
  fn := ⟨Go.Proofs.Tryz.f55, regI (sa kb), regI (sa (sb kb)), regI (sa (sb (sb kb))), regI (sa ky), regI (rfA kr), regI (blkC (rfB kr)), regI (sa (sb kx)), Go.Proofs.Tryz.func55, by kernel_rfl, by kernel_rfl, by kernel_rfl, by kernel_rfl⟩
  hN := by decide
  p0 := by kernel_rfl
  p1 := by kernel_rfl
  p2 := by kernel_rfl
  p4 := by kernel_rfl
  p5 := by kernel_rfl
  p6 := by kernel_rfl
  z3 := by kernel_rfl
  z4 := by kernel_rfl
  z5 := by kernel_rfl
  z6 := by kernel_rfl
  d4 := all_of (by kernel_rfl)
  d5 := all_of (by kernel_rfl)
  i0 := ⟨(List.range 60), by kernel_rfl, List.contains_iff_mem.1 (by kernel_rfl)⟩
  i1 := ⟨(List.range 60), by kernel_rfl⟩
  i2 := ⟨(List.range 60), by kernel_rfl, List.contains_iff_mem.1 (by kernel_rfl)⟩
  a0 := ⟨opAt r3 0, true, by kernel_rfl, by kernel_rfl, by kernel_rfl, by kernel_rfl, by kernel_rfl⟩
  a1 := ⟨opAt r3 1, true, by kernel_rfl, by kernel_rfl, by kernel_rfl, by kernel_rfl, by kernel_rfl⟩
  a2 := ⟨opAt r3 2, by kernel_rfl, by kernel_rfl, by kernel_rfl, by kernel_rfl, by kernel_rfl⟩
  bk := fnOK_of (a := false) (b := false) (c := false) (d := false) Go.Proofs.Tryz.func118 (by kernel_rfl) (by kernel_rfl)
noncomputable def ki : Code := bodyOf Go.Proofs.Tryz.f173
noncomputable def kl : Code := loopC (blkC (sb ki))
noncomputable def i0 : Array Oper := regO (sa ki)
noncomputable def i1 : Array Oper := regO (sa (sa kl))
noncomputable def i3 : Array Oper := regO (sa (blkC (sa (sb kl))))
noncomputable def i2 : Array Oper := regO (sb (sb kl))
theorem itc : ItC P G 173 i0 i1 i2 i3 (opAt i3 0) (opAt i3 6) where
  fn := ⟨Go.Proofs.Tryz.f173, regI (sa ki), regI (sa (sa kl)), regI (sb (sb kl)), regI (sa (blkC (sa (sb kl)))), Go.Proofs.Tryz.func173, by kernel_rfl, by kernel_rfl, by kernel_rfl, by kernel_rfl⟩
  z0 := by kernel_rfl
  z1 := by kernel_rfl
  z2 := by kernel_rfl
  z3 := by kernel_rfl
  a0 := ⟨opAt i0 0, true, by kernel_rfl, by kernel_rfl, by kernel_rfl, by kernel_rfl, by kernel_rfl⟩
  a1 := ⟨opAt i0 1, true, by kernel_rfl, by kernel_rfl, by kernel_rfl, by kernel_rfl, by kernel_rfl⟩
  a2 := ⟨opAt i0 2, true, by kernel_rfl, by kernel_rfl, by kernel_rfl, by kernel_rfl, by kernel_rfl⟩
  a3 := ⟨opAt i0 3, true, by kernel_rfl, by kernel_rfl, by kernel_rfl, by kernel_rfl, by kernel_rfl⟩
  b0 := ⟨opAt i1 0, true, by kernel_rfl, by kernel_rfl, by kernel_rfl, by kernel_rfl, by kernel_rfl⟩
  b1 := ⟨opAt i1 1, true, by kernel_rfl, by kernel_rfl, by kernel_rfl, by kernel_rfl, by kernel_rfl⟩
  c1 := ⟨opAt i3 1, true, by kernel_rfl, by kernel_rfl, by kernel_rfl, by kernel_rfl, by kernel_rfl⟩
  c2 := ⟨opAt i3 2, true, by kernel_rfl, by kernel_rfl, by kernel_rfl, by kernel_rfl, by kernel_rfl⟩
  c3 := ⟨opAt i3 3, true, by kernel_rfl, by kernel_rfl, by kernel_rfl, by kernel_rfl, by kernel_rfl⟩
  c4 := ⟨opAt i3 4, true, by kernel_rfl, by kernel_rfl, by kernel_rfl, by kernel_rfl, by kernel_rfl⟩
  c5 := ⟨opAt i3 5, true, by kernel_rfl, by kernel_rfl, by kernel_rfl, by kernel_rfl, by kernel_rfl⟩
  c7 := ⟨opAt i3 7, true, by kernel_rfl, by kernel_rfl, by kernel_rfl, by kernel_rfl, by kernel_rfl⟩
  d0 := ⟨opAt i2 0, true, by kernel_rfl, by kernel_rfl, by kernel_rfl, by kernel_rfl, by kernel_rfl⟩
  d1 := ⟨opAt i2 1, true, by kernel_rfl, by kernel_rfl, by kernel_rfl, by kernel_rfl, by kernel_rfl⟩
  d2 := ⟨opAt i2 2, true, by kernel_rfl, by kernel_rfl, by kernel_rfl, by kernel_rfl, by kernel_rfl⟩
  c0 := ⟨by kernel_rfl, by kernel_rfl, by kernel_rfl, by kernel_rfl⟩
  c6 := ⟨by kernel_rfl, by kernel_rfl, by kernel_rfl, cArgs (opAt i3 6).op, cTs (opAt i3 6).op, by kernel_rfl, by kernel_rfl⟩
theorem cf_bt : cf55 = cBt r0.size r1.size r2.size 119 q0 q1 q2 := by kernel_rfl
theorem ok55 : FnGood P G pu F 55 cf55 := .inr fun k hC hcode => by
  rw [cf_bt]
  exact spec_bt mixed btc itc hC hcode fun j g args h n v h' n' hp hc => by
    obtain ⟨cf, h1, h2⟩ := puOf_spec hp
    exact pure_soft h1 h2 hc
noncomputable def kc : Code := bodyOf Go.Proofs.Tryz.f299
noncomputable def kcx : Code := sa (sb (sb (sb kc)))
noncomputable def kcl : Code := loopC (blkC (sb kcx))
noncomputable def kcy : Code := blkC (sb (sb kcl))
noncomputable def rc3 : Array Oper := regO (sa kcx)
noncomputable def rcn : Array Oper := regO (sa kcl)
noncomputable def rce : Array Oper := regO (sa kcy)
theorem cfx : CfX P G Go.Proofs.Tryz.f299.ntmps rc3 rcn rce where
  hN := of_decide_eq_true (by kernel_rfl)
  z3 := by kernel_rfl
  zn := by kernel_rfl
  ze := by kernel_rfl
  m0 := ⟨opAt rc3 0, true, by kernel_rfl, by kernel_rfl, by kernel_rfl, by kernel_rfl, by kernel_rfl⟩
  n1 := ⟨opAt rcn 1, true, by kernel_rfl, by kernel_rfl, by kernel_rfl, by kernel_rfl, by kernel_rfl⟩
  e1 := ⟨opAt rce 1, true, by kernel_rfl, by kernel_rfl, by kernel_rfl, by kernel_rfl, by kernel_rfl⟩
  e2 := ⟨opAt rce 2, true, by kernel_rfl, by kernel_rfl, by kernel_rfl, by kernel_rfl, by kernel_rfl⟩
  e3 := ⟨opAt rce 3, true, by kernel_rfl, by kernel_rfl, by kernel_rfl, by kernel_rfl, by kernel_rfl⟩
  e4 := ⟨opAt rce 4, true, by kernel_rfl, by kernel_rfl, by kernel_rfl, by kernel_rfl, by kernel_rfl⟩
  e5 := ⟨opAt rce 5, true, by kernel_rfl, by kernel_rfl, by kernel_rfl, by kernel_rfl, by kernel_rfl⟩
  m1 := ⟨opAt rc3 1, rgT (opAt rc3 1).op, mpK P (rgT (opAt rc3 1).op), mpE P (rgT (opAt rc3 1).op), by kernel_rfl, by kernel_rfl, by kernel_rfl, by kernel_rfl, by kernel_rfl⟩
  n0 := ⟨opAt rcn 0, by kernel_rfl, by kernel_rfl, by kernel_rfl, by kernel_rfl⟩
  e0 := ⟨opAt rce 0, by kernel_rfl, by kernel_rfl, by kernel_rfl, by kernel_rfl⟩
theorem cf_cf : cf299 = ⟨[(.t 8, none)], .seq (comp P G pu Go.Proofs.Tryz.f299.ntmps (sa kc)) (.seq (comp P G pu Go.Proofs.Tryz.f299.ntmps (sa (sb kc))) (.seq (comp P G pu Go.Proofs.Tryz.f299.ntmps (sa (sb (sb kc)))) (.seq (cfX (comp P G pu Go.Proofs.Tryz.f299.ntmps (sb kcy))) (comp P G pu Go.Proofs.Tryz.f299.ntmps (sb (sb (sb (sb kc)))))))), true, false, false, false⟩ := by kernel_rfl
theorem ok299 : FnGood P G pu F 299 cf299 := .inr fun k _ hcode => by
  rw [cf_cf]
  exact spec_cf (j3 := regI (sa kcx)) (jn := regI (sa kcl)) (je := regI (sa kcy)) (a0 := sa kc) (a1 := sa (sb kc)) (al := sa (sb (sb kc))) (B := sb kcy) (a4 := sb (sb (sb (sb kc)))) hcode Go.Proofs.Tryz.func299 (by kernel_rfl) (by kernel_rfl) (by kernel_rfl) cfx (by kernel_rfl) (by kernel_rfl) (by kernel_rfl) (by kernel_rfl)
theorem ok67 : FnGood P G pu F 67 cf67 := .inr fun k _ _ => spec_soI Go.Proofs.Tryz.laysSortedI Go.Proofs.Tryz.values_give (sortsI_of Go.Proofs.Tryz.laysSortI rfl) Go.Proofs.Tryz.func67 (by kernel_rfl) (by kernel_rfl) (Go.Proofs.enters_of Go.Proofs.Tryz.func132 (by kernel_rfl) rfl) (Go.Proofs.enters_of Go.Proofs.Tryz.func133 (by kernel_rfl) rfl)
theorem all : tbl.All (FnGood P G pu F) id := (T.All.no (T.All.no (T.All.no (T.All.no (T.All.no (T.All.no (T.All.nd ok63 T.All.lf (T.All.nd ok191 T.All.lf T.All.lf)) (T.All.nd ok95 (T.All.nd ok159 T.All.lf T.All.lf) T.All.lf)) (T.All.nd ok47 (T.All.nd ok79 (T.All.no (T.All.nd ok271 T.All.lf T.All.lf) T.All.lf) (T.All.nd ok207 T.All.lf T.All.lf)) (T.All.nd ok111 (T.All.nd ok175 T.All.lf T.All.lf) T.All.lf))) (T.All.nd ok23 (T.All.nd ok39 (T.All.nd ok71 (T.All.nd ok135 T.All.lf T.All.lf) (T.All.nd ok199 T.All.lf T.All.lf)) (T.All.nd ok103 (T.All.nd ok167 T.All.lf T.All.lf) (T.All.nd ok231 T.All.lf T.All.lf))) (T.All.nd ok55 (T.All.nd ok87 T.All.lf (T.All.nd ok215 T.All.lf T.All.lf)) (T.All.nd ok119 (T.All.nd ok183 T.All.lf T.All.lf) T.All.lf)))) (T.All.no (T.All.nd ok19 (T.All.nd ok35 (T.All.nd ok67 T.All.lf (T.All.nd ok195 T.All.lf T.All.lf)) (T.All.nd ok99 (T.All.nd ok163 (T.All.nd ok291 T.All.lf T.All.lf) T.All.lf) T.All.lf)) (T.All.nd ok51 (T.All.nd ok83 T.All.lf (T.All.nd ok211 T.All.lf T.All.lf)) (T.All.no (T.All.no (T.All.nd ok307 T.All.lf T.All.lf) T.All.lf) (T.All.nd ok243 T.All.lf T.All.lf)))) (T.All.nd ok27 (T.All.no (T.All.no (T.All.nd ok139 (T.All.nd ok267 T.All.lf T.All.lf) T.All.lf) T.All.lf) (T.All.nd ok107 (T.All.no (T.All.nd ok299 T.All.lf T.All.lf) T.All.lf) T.All.lf)) (T.All.no (T.All.nd ok91 (T.All.nd ok155 T.All.lf T.All.lf) (T.All.nd ok219 T.All.lf T.All.lf)) (T.All.nd ok123 T.All.lf (T.All.nd ok251 T.All.lf T.All.lf)))))) (T.All.no (T.All.no (T.All.no (T.All.no (T.All.nd ok65 (T.All.nd ok129 (T.All.nd ok257 T.All.lf T.All.lf) T.All.lf) (T.All.nd ok193 T.All.lf T.All.lf)) (T.All.no (T.All.nd ok161 T.All.lf T.All.lf) (T.All.nd ok225 T.All.lf T.All.lf))) (T.All.nd ok49 (T.All.nd ok81 T.All.lf (T.All.nd ok209 T.All.lf T.All.lf)) (T.All.no (T.All.nd ok177 T.All.lf T.All.lf) (T.All.nd ok241 T.All.lf T.All.lf)))) (T.All.nd ok25 (T.All.nd ok41 (T.All.nd ok73 (T.All.nd ok137 (T.All.nd ok265 T.All.lf T.All.lf) T.All.lf) (T.All.nd ok201 (T.All.nd ok329 T.All.lf T.All.lf) T.All.lf)) (T.All.nd ok105 (T.All.nd ok169 T.All.lf T.All.lf) T.All.lf)) (T.All.nd ok57 (T.All.nd ok89 (T.All.nd ok153 T.All.lf T.All.lf) (T.All.nd ok217 T.All.lf T.All.lf)) (T.All.nd ok121 (T.All.nd ok185 T.All.lf T.All.lf) T.All.lf)))) (T.All.nd ok13 (T.All.nd ok21 (T.All.nd ok37 (T.All.nd ok69 T.All.lf (T.All.nd ok197 T.All.lf T.All.lf)) (T.All.nd ok101 (T.All.nd ok165 (T.All.nd ok293 T.All.lf T.All.lf) T.All.lf) (T.All.nd ok229 T.All.lf T.All.lf))) (T.All.no (T.All.nd ok85 (T.All.nd ok149 T.All.lf T.All.lf) (T.All.nd ok213 T.All.lf T.All.lf)) T.All.lf)) (T.All.no (T.All.nd ok45 (T.All.no (T.All.nd ok141 (T.All.nd ok269 T.All.lf T.All.lf) T.All.lf) T.All.lf) (T.All.nd ok109 T.All.lf T.All.lf)) (T.All.no (T.All.nd ok93 (T.All.nd ok157 T.All.lf T.All.lf) T.All.lf) (T.All.no (T.All.nd ok189 T.All.lf T.All.lf) T.All.lf)))))) (T.All.no (T.All.nd ok4 (T.All.no (T.All.nd ok16 (T.All.nd ok32 (T.All.no (T.All.no (T.All.nd ok256 T.All.lf T.All.lf) T.All.lf) (T.All.nd ok192 (T.All.nd ok320 T.All.lf T.All.lf) T.All.lf)) (T.All.no (T.All.nd ok160 T.All.lf T.All.lf) T.All.lf)) (T.All.nd ok48 (T.All.no (T.All.no (T.All.nd ok272 T.All.lf T.All.lf) T.All.lf) (T.All.nd ok208 T.All.lf T.All.lf)) (T.All.nd ok112 (T.All.nd ok176 (T.All.nd ok304 T.All.lf T.All.lf) T.All.lf) T.All.lf))) (T.All.nd ok24 (T.All.nd ok40 (T.All.nd ok72 (T.All.nd ok136 T.All.lf T.All.lf) (T.All.nd ok200 T.All.lf T.All.lf)) (T.All.nd ok104 T.All.lf T.All.lf)) (T.All.nd ok56 (T.All.nd ok88 (T.All.no (T.All.nd ok280 T.All.lf T.All.lf) T.All.lf) (T.All.nd ok216 T.All.lf T.All.lf)) (T.All.nd ok120 (T.All.nd ok184 T.All.lf T.All.lf) T.All.lf)))) (T.All.no (T.All.nd ok20 (T.All.nd ok36 (T.All.nd ok68 T.All.lf (T.All.nd ok196 T.All.lf T.All.lf)) (T.All.nd ok100 (T.All.nd ok164 (T.All.nd ok292 T.All.lf T.All.lf) T.All.lf) (T.All.nd ok228 T.All.lf T.All.lf))) (T.All.nd ok52 (T.All.no (T.All.nd ok148 T.All.lf T.All.lf) (T.All.nd ok212 T.All.lf T.All.lf)) (T.All.nd ok116 T.All.lf T.All.lf))) (T.All.no (T.All.no (T.All.no (T.All.nd ok140 (T.All.nd ok268 T.All.lf T.All.lf) T.All.lf) T.All.lf) (T.All.nd ok108 T.All.lf T.All.lf)) (T.All.no (T.All.nd ok92 (T.All.nd ok156 T.All.lf T.All.lf) (T.All.nd ok220 T.All.lf T.All.lf)) (T.All.no (T.All.nd ok188 T.All.lf T.All.lf) T.All.lf))))) (T.All.nd ok6 (T.All.no (T.All.no (T.All.no (T.All.nd ok66 (T.All.nd ok130 (T.All.nd ok258 T.All.lf T.All.lf) T.All.lf) (T.All.nd ok194 (T.All.nd ok322 T.All.lf T.All.lf) T.All.lf)) (T.All.nd ok98 (T.All.nd ok162 T.All.lf T.All.lf) (T.All.nd ok226 T.All.lf T.All.lf))) (T.All.nd ok50 (T.All.nd ok82 T.All.lf (T.All.nd ok210 T.All.lf T.All.lf)) (T.All.no (T.All.nd ok178 T.All.lf T.All.lf) (T.All.nd ok242 T.All.lf T.All.lf)))) (T.All.nd ok26 (T.All.no (T.All.nd ok74 (T.All.nd ok138 (T.All.nd ok266 T.All.lf T.All.lf) T.All.lf) (T.All.nd ok202 (T.All.nd ok330 T.All.lf T.All.lf) T.All.lf)) (T.All.nd ok106 (T.All.nd ok170 T.All.lf T.All.lf) T.All.lf)) (T.All.nd ok58 (T.All.nd ok90 (T.All.nd ok154 T.All.lf T.All.lf) (T.All.nd ok218 T.All.lf T.All.lf)) (T.All.nd ok122 T.All.lf T.All.lf)))) (T.All.no (T.All.nd ok22 (T.All.nd ok38 (T.All.nd ok70 (T.All.nd ok134 T.All.lf T.All.lf) (T.All.nd ok198 T.All.lf T.All.lf)) (T.All.nd ok102 (T.All.nd ok166 T.All.lf T.All.lf) (T.All.nd ok230 T.All.lf T.All.lf))) (T.All.no (T.All.nd ok86 (T.All.nd ok150 T.All.lf T.All.lf) (T.All.nd ok214 T.All.lf T.All.lf)) T.All.lf)) (T.All.no (T.All.nd ok46 (T.All.no (T.All.no (T.All.nd ok270 T.All.lf T.All.lf) T.All.lf) T.All.lf) (T.All.nd ok110 (T.All.nd ok174 T.All.lf T.All.lf) T.All.lf)) (T.All.nd ok62 (T.All.nd ok94 (T.All.nd ok158 T.All.lf T.All.lf) T.All.lf) (T.All.no (T.All.nd ok190 T.All.lf T.All.lf) T.All.lf)))))))
theorem law {W : World} (hG : GOk G (oldMem W)) : Calls P 4 #[] W fun e W' => e = .returned (.bool true) ∧ RowKit.Below W.heap.size W W' := call_true (table_ok mixed all) f906 hG
end Tm.L4
