/- Each function of the table is the program's function, translated; the five of Go's library and the range over a function by their own proofs. The law's call. No statement of the seat is proved here. -/
import Derived.Test.YtfddmifhggnldaaGreatDoorFx6
import Derived.Test.YtfddmifhggnldaaGreatDoorTmJ
import Derived.Test.YtfddmifhggnldaaGreatDoorGlobT
import Derived.Test.YtfddmifhggnldaaGreatDoorShelfIP
import Derived.Test.YtfddmifhggnldaaGreatDoorTmL
import Derived.Test.YtfddmifhggnldaaGreatDoorShelfOP
set_option linter.unusedVariables false
set_option linter.constructorNameAsVariable false
namespace Tm.L6
open Go Tm
set_option maxRecDepth 100000
noncomputable abbrev P : Program := Go.Proofs.Tryz.prog
def G : Nat → Option AV := fun g => match g with
  | 0 | 1 => some (.pe [.d (.sl [.s ⟨#[65, 110, 121]⟩, .s ⟨#[78, 101, 118, 101, 114]⟩, .s ⟨#[116, 117, 112, 108, 101]⟩, .s ⟨#[117, 110, 105, 111, 110]⟩, .s ⟨#[101, 120, 105, 115, 116, 115]⟩])] 0)
  | _ => none
theorem glob : ∀ g av, G g = some av → (g = 0 ∨ g = 1) ∧ av = .pe [.d (.sl (resW.map fun l => .s ⟨l.toArray⟩))] 0 := fun g av h => by
  unfold G at h
  split at h
  · exact ⟨.inl rfl, (Option.some.inj h).symm.trans rfl⟩
  · exact ⟨.inr rfl, (Option.some.inj h).symm.trans rfl⟩
  · cases h
abbrev pu : Nat → Bool := puOf tbl
theorem mixed : P.follows .mixedOrders = true := by kernel_rfl
theorem ok6 : FnGood P G pu F 6 cf6 := good_of Go.Proofs.Tryz.func6 (by kernel_rfl) (show compF P G pu Go.Proofs.Tryz.f6 true false false false = some cf6 by kernel_rfl)
theorem ok8 : FnGood P G pu F 8 cf8 := good_of Go.Proofs.Tryz.func8 (by kernel_rfl) (show compF P G pu Go.Proofs.Tryz.f8 false false false false = some cf8 by kernel_rfl)
theorem ok9 : FnGood P G pu F 9 cf9 := good_of Go.Proofs.Tryz.func9 (by kernel_rfl) (show compF P G pu Go.Proofs.Tryz.f9 true false false false = some cf9 by kernel_rfl)
theorem ok10 : FnGood P G pu F 10 cf10 := good_of Go.Proofs.Tryz.func10 (by kernel_rfl) (show compF P G pu Go.Proofs.Tryz.f10 true false false false = some cf10 by kernel_rfl)
theorem ok11 : FnGood P G pu F 11 cf11 := good_of Go.Proofs.Tryz.func11 (by kernel_rfl) (show compF P G pu Go.Proofs.Tryz.f11 true false false false = some cf11 by kernel_rfl)
theorem ok12 : FnGood P G pu F 12 cf12 := good_of Go.Proofs.Tryz.func12 (by kernel_rfl) (show compF P G pu Go.Proofs.Tryz.f12 true false false false = some cf12 by kernel_rfl)
theorem ok14 : FnGood P G pu F 14 cf14 := good_of Go.Proofs.Tryz.func14 (by kernel_rfl) (show compF P G pu Go.Proofs.Tryz.f14 true false false false = some cf14 by kernel_rfl)
theorem ok15 : FnGood P G pu F 15 cf15 := good_of Go.Proofs.Tryz.func15 (by kernel_rfl) (show compF P G pu Go.Proofs.Tryz.f15 true false false false = some cf15 by kernel_rfl)
theorem ok16 : FnGood P G pu F 16 cf16 := good_of Go.Proofs.Tryz.func16 (by kernel_rfl) (show compF P G pu Go.Proofs.Tryz.f16 true false false false = some cf16 by kernel_rfl)
theorem ok19 : FnGood P G pu F 19 cf19 := good_of Go.Proofs.Tryz.func19 (by kernel_rfl) (show compF P G pu Go.Proofs.Tryz.f19 true false false false = some cf19 by kernel_rfl)
theorem ok21 : FnGood P G pu F 21 cf21 := good_of Go.Proofs.Tryz.func21 (by kernel_rfl) (show compF P G pu Go.Proofs.Tryz.f21 true false false false = some cf21 by kernel_rfl)
theorem ok22 : FnGood P G pu F 22 cf22 := good_of Go.Proofs.Tryz.func22 (by kernel_rfl) (show compF P G pu Go.Proofs.Tryz.f22 true false false false = some cf22 by kernel_rfl)
theorem ok31 : FnGood P G pu F 31 cf31 := good_of Go.Proofs.Tryz.func31 (by kernel_rfl) (show compF P G pu Go.Proofs.Tryz.f31 true false false false = some cf31 by kernel_rfl)
theorem ok32 : FnGood P G pu F 32 cf32 := good_of Go.Proofs.Tryz.func32 (by kernel_rfl) (show compF P G pu Go.Proofs.Tryz.f32 true false false false = some cf32 by kernel_rfl)
theorem ok33 : FnGood P G pu F 33 cf33 := good_of Go.Proofs.Tryz.func33 (by kernel_rfl) (show compF P G pu Go.Proofs.Tryz.f33 true false false false = some cf33 by kernel_rfl)
theorem ok34 : FnGood P G pu F 34 cf34 := good_of Go.Proofs.Tryz.func34 (by kernel_rfl) (show compF P G pu Go.Proofs.Tryz.f34 true false false false = some cf34 by kernel_rfl)
theorem ok40 : FnGood P G pu F 40 cf40 := good_of Go.Proofs.Tryz.func40 (by kernel_rfl) (show compF P G pu Go.Proofs.Tryz.f40 false false false false = some cf40 by kernel_rfl)
theorem ok41 : FnGood P G pu F 41 cf41 := good_of Go.Proofs.Tryz.func41 (by kernel_rfl) (show compF P G pu Go.Proofs.Tryz.f41 false false false false = some cf41 by kernel_rfl)
theorem ok42 : FnGood P G pu F 42 cf42 := good_of Go.Proofs.Tryz.func42 (by kernel_rfl) (show compF P G pu Go.Proofs.Tryz.f42 false false false false = some cf42 by kernel_rfl)
theorem ok43 : FnGood P G pu F 43 cf43 := good_of Go.Proofs.Tryz.func43 (by kernel_rfl) (show compF P G pu Go.Proofs.Tryz.f43 false false false false = some cf43 by kernel_rfl)
theorem ok44 : FnGood P G pu F 44 cf44 := good_of Go.Proofs.Tryz.func44 (by kernel_rfl) (show compF P G pu Go.Proofs.Tryz.f44 true false false false = some cf44 by kernel_rfl)
theorem ok45 : FnGood P G pu F 45 cf45 := good_of Go.Proofs.Tryz.func45 (by kernel_rfl) (show compF P G pu Go.Proofs.Tryz.f45 true false false false = some cf45 by kernel_rfl)
theorem ok46 : FnGood P G pu F 46 cf46 := good_of Go.Proofs.Tryz.func46 (by kernel_rfl) (show compF P G pu Go.Proofs.Tryz.f46 true false false true = some cf46 by kernel_rfl)
theorem ok47 : FnGood P G pu F 47 cf47 := good_of Go.Proofs.Tryz.func47 (by kernel_rfl) (show compF P G pu Go.Proofs.Tryz.f47 true false false false = some cf47 by kernel_rfl)
theorem ok48 : FnGood P G pu F 48 cf48 := good_of Go.Proofs.Tryz.func48 (by kernel_rfl) (show compF P G pu Go.Proofs.Tryz.f48 true false false false = some cf48 by kernel_rfl)
theorem ok49 : FnGood P G pu F 49 cf49 := good_of Go.Proofs.Tryz.func49 (by kernel_rfl) (show compF P G pu Go.Proofs.Tryz.f49 true false false false = some cf49 by kernel_rfl)
theorem ok50 : FnGood P G pu F 50 cf50 := good_of Go.Proofs.Tryz.func50 (by kernel_rfl) (show compF P G pu Go.Proofs.Tryz.f50 true false false false = some cf50 by kernel_rfl)
theorem ok51 : FnGood P G pu F 51 cf51 := good_of Go.Proofs.Tryz.func51 (by kernel_rfl) (show compF P G pu Go.Proofs.Tryz.f51 true false false true = some cf51 by kernel_rfl)
theorem ok52 : FnGood P G pu F 52 cf52 := good_of Go.Proofs.Tryz.func52 (by kernel_rfl) (show compF P G pu Go.Proofs.Tryz.f52 true true false false = some cf52 by kernel_rfl)
theorem ok53 : FnGood P G pu F 53 cf53 := good_of Go.Proofs.Tryz.func53 (by kernel_rfl) (show compF P G pu Go.Proofs.Tryz.f53 false false false false = some cf53 by kernel_rfl)
theorem ok54 : FnGood P G pu F 54 cf54 := good_of Go.Proofs.Tryz.func54 (by kernel_rfl) (show compF P G pu Go.Proofs.Tryz.f54 false false false false = some cf54 by kernel_rfl)
theorem ok56 : FnGood P G pu F 56 cf56 := good_of Go.Proofs.Tryz.func56 (by kernel_rfl) (show compF P G pu Go.Proofs.Tryz.f56 true false false false = some cf56 by kernel_rfl)
theorem ok59 : FnGood P G pu F 59 cf59 := good_of Go.Proofs.Tryz.func59 (by kernel_rfl) (show compF P G pu Go.Proofs.Tryz.f59 true false false false = some cf59 by kernel_rfl)
theorem ok60 : FnGood P G pu F 60 cf60 := good_of Go.Proofs.Tryz.func60 (by kernel_rfl) (show compF P G pu Go.Proofs.Tryz.f60 true false false false = some cf60 by kernel_rfl)
theorem ok61 : FnGood P G pu F 61 cf61 := good_of Go.Proofs.Tryz.func61 (by kernel_rfl) (show compF P G pu Go.Proofs.Tryz.f61 true false false false = some cf61 by kernel_rfl)
theorem ok66 : FnGood P G pu F 66 cf66 := good_of Go.Proofs.Tryz.func66 (by kernel_rfl) (show compF P G pu Go.Proofs.Tryz.f66 true false false false = some cf66 by kernel_rfl)
theorem ok67 : FnGood P G pu F 67 cf67 := good_of Go.Proofs.Tryz.func67 (by kernel_rfl) (show compF P G pu Go.Proofs.Tryz.f67 true false false false = some cf67 by kernel_rfl)
theorem ok76 : FnGood P G pu F 76 cf76 := good_of Go.Proofs.Tryz.func76 (by kernel_rfl) (show compF P G pu Go.Proofs.Tryz.f76 false false false false = some cf76 by kernel_rfl)
theorem ok77 : FnGood P G pu F 77 cf77 := good_of Go.Proofs.Tryz.func77 (by kernel_rfl) (show compF P G pu Go.Proofs.Tryz.f77 true false false false = some cf77 by kernel_rfl)
theorem ok79 : FnGood P G pu F 79 cf79 := good_of Go.Proofs.Tryz.func79 (by kernel_rfl) (show compF P G pu Go.Proofs.Tryz.f79 true false false false = some cf79 by kernel_rfl)
theorem ok80 : FnGood P G pu F 80 cf80 := good_of Go.Proofs.Tryz.func80 (by kernel_rfl) (show compF P G pu Go.Proofs.Tryz.f80 true false false false = some cf80 by kernel_rfl)
theorem ok81 : FnGood P G pu F 81 cf81 := good_of Go.Proofs.Tryz.func81 (by kernel_rfl) (show compF P G pu Go.Proofs.Tryz.f81 true false false false = some cf81 by kernel_rfl)
theorem ok82 : FnGood P G pu F 82 cf82 := good_of Go.Proofs.Tryz.func82 (by kernel_rfl) (show compF P G pu Go.Proofs.Tryz.f82 true false false false = some cf82 by kernel_rfl)
theorem ok94 : FnGood P G pu F 94 cf94 := good_of Go.Proofs.Tryz.func94 (by kernel_rfl) (show compF P G pu Go.Proofs.Tryz.f94 false false false false = some cf94 by kernel_rfl)
theorem ok95 : FnGood P G pu F 95 cf95 := good_of Go.Proofs.Tryz.func95 (by kernel_rfl) (show compF P G pu Go.Proofs.Tryz.f95 true false false false = some cf95 by kernel_rfl)
theorem ok96 : FnGood P G pu F 96 cf96 := good_of Go.Proofs.Tryz.func96 (by kernel_rfl) (show compF P G pu Go.Proofs.Tryz.f96 true false false false = some cf96 by kernel_rfl)
theorem ok97 : FnGood P G pu F 97 (cNo true) := good_no Go.Proofs.Tryz.func97 (by kernel_rfl) (by kernel_rfl)
theorem ok98 : FnGood P G pu F 98 cf98 := good_of Go.Proofs.Tryz.func98 (by kernel_rfl) (show compF P G pu Go.Proofs.Tryz.f98 true false false false = some cf98 by kernel_rfl)
theorem ok99 : FnGood P G pu F 99 cf99 := good_of Go.Proofs.Tryz.func99 (by kernel_rfl) (show compF P G pu Go.Proofs.Tryz.f99 false false false false = some cf99 by kernel_rfl)
theorem ok100 : FnGood P G pu F 100 cf100 := good_of Go.Proofs.Tryz.func100 (by kernel_rfl) (show compF P G pu Go.Proofs.Tryz.f100 true false false false = some cf100 by kernel_rfl)
theorem ok101 : FnGood P G pu F 101 (cNo false) := good_no Go.Proofs.Tryz.func101 (by kernel_rfl) (by kernel_rfl)
theorem ok102 : FnGood P G pu F 102 cf102 := good_of Go.Proofs.Tryz.func102 (by kernel_rfl) (show compF P G pu Go.Proofs.Tryz.f102 true false false false = some cf102 by kernel_rfl)
theorem ok103 : FnGood P G pu F 103 cf103 := good_of Go.Proofs.Tryz.func103 (by kernel_rfl) (show compF P G pu Go.Proofs.Tryz.f103 true false false false = some cf103 by kernel_rfl)
theorem ok104 : FnGood P G pu F 104 cf104 := good_of Go.Proofs.Tryz.func104 (by kernel_rfl) (show compF P G pu Go.Proofs.Tryz.f104 true false false false = some cf104 by kernel_rfl)
theorem ok105 : FnGood P G pu F 105 cf105 := good_of Go.Proofs.Tryz.func105 (by kernel_rfl) (show compF P G pu Go.Proofs.Tryz.f105 true false false false = some cf105 by kernel_rfl)
theorem ok106 : FnGood P G pu F 106 cf106 := good_of Go.Proofs.Tryz.func106 (by kernel_rfl) (show compF P G pu Go.Proofs.Tryz.f106 true false false false = some cf106 by kernel_rfl)
theorem ok107 : FnGood P G pu F 107 cf107 := good_of Go.Proofs.Tryz.func107 (by kernel_rfl) (show compF P G pu Go.Proofs.Tryz.f107 true false false false = some cf107 by kernel_rfl)
theorem ok108 : FnGood P G pu F 108 cf108 := good_of Go.Proofs.Tryz.func108 (by kernel_rfl) (show compF P G pu Go.Proofs.Tryz.f108 true false false false = some cf108 by kernel_rfl)
theorem ok109 : FnGood P G pu F 109 cf109 := good_of Go.Proofs.Tryz.func109 (by kernel_rfl) (show compF P G pu Go.Proofs.Tryz.f109 true false false false = some cf109 by kernel_rfl)
theorem ok110 : FnGood P G pu F 110 cf110 := good_of Go.Proofs.Tryz.func110 (by kernel_rfl) (show compF P G pu Go.Proofs.Tryz.f110 true false false false = some cf110 by kernel_rfl)
theorem ok111 : FnGood P G pu F 111 cf111 := good_of Go.Proofs.Tryz.func111 (by kernel_rfl) (show compF P G pu Go.Proofs.Tryz.f111 false false false false = some cf111 by kernel_rfl)
theorem ok112 : FnGood P G pu F 112 cf112 := good_of Go.Proofs.Tryz.func112 (by kernel_rfl) (show compF P G pu Go.Proofs.Tryz.f112 true false false false = some cf112 by kernel_rfl)
theorem ok113 : FnGood P G pu F 113 cf113 := good_of Go.Proofs.Tryz.func113 (by kernel_rfl) (show compF P G pu Go.Proofs.Tryz.f113 false false true false = some cf113 by kernel_rfl)
theorem ok114 : FnGood P G pu F 114 cf114 := good_of Go.Proofs.Tryz.func114 (by kernel_rfl) (show compF P G pu Go.Proofs.Tryz.f114 true false false false = some cf114 by kernel_rfl)
theorem ok115 : FnGood P G pu F 115 cf115 := good_of Go.Proofs.Tryz.func115 (by kernel_rfl) (show compF P G pu Go.Proofs.Tryz.f115 true false false false = some cf115 by kernel_rfl)
theorem ok116 : FnGood P G pu F 116 cf116 := good_of Go.Proofs.Tryz.func116 (by kernel_rfl) (show compF P G pu Go.Proofs.Tryz.f116 true false false false = some cf116 by kernel_rfl)
theorem ok117 : FnGood P G pu F 117 cf117 := good_of Go.Proofs.Tryz.func117 (by kernel_rfl) (show compF P G pu Go.Proofs.Tryz.f117 false false false false = some cf117 by kernel_rfl)
theorem ok119 : FnGood P G pu F 119 cf119 := good_of Go.Proofs.Tryz.func119 (by kernel_rfl) (show compF P G pu Go.Proofs.Tryz.f119 false false false false = some cf119 by kernel_rfl)
theorem ok120 : FnGood P G pu F 120 cf120 := good_of Go.Proofs.Tryz.func120 (by kernel_rfl) (show compF P G pu Go.Proofs.Tryz.f120 true false false false = some cf120 by kernel_rfl)
theorem ok121 : FnGood P G pu F 121 cf121 := good_of Go.Proofs.Tryz.func121 (by kernel_rfl) (show compF P G pu Go.Proofs.Tryz.f121 true false false false = some cf121 by kernel_rfl)
theorem ok122 : FnGood P G pu F 122 cf122 := good_of Go.Proofs.Tryz.func122 (by kernel_rfl) (show compF P G pu Go.Proofs.Tryz.f122 true false false false = some cf122 by kernel_rfl)
theorem ok123 : FnGood P G pu F 123 cf123 := good_of Go.Proofs.Tryz.func123 (by kernel_rfl) (show compF P G pu Go.Proofs.Tryz.f123 true false false false = some cf123 by kernel_rfl)
theorem ok126 : FnGood P G pu F 126 cf126 := good_of Go.Proofs.Tryz.func126 (by kernel_rfl) (show compF P G pu Go.Proofs.Tryz.f126 true false false false = some cf126 by kernel_rfl)
theorem ok129 : FnGood P G pu F 129 cf129 := good_of Go.Proofs.Tryz.func129 (by kernel_rfl) (show compF P G pu Go.Proofs.Tryz.f129 true false false false = some cf129 by kernel_rfl)
theorem ok130 : FnGood P G pu F 130 cf130 := good_of Go.Proofs.Tryz.func130 (by kernel_rfl) (show compF P G pu Go.Proofs.Tryz.f130 false false true false = some cf130 by kernel_rfl)
theorem ok131 : FnGood P G pu F 131 (cNo true) := good_no Go.Proofs.Tryz.func131 (by kernel_rfl) (by kernel_rfl)
theorem ok132 : FnGood P G pu F 132 cf132 := good_of Go.Proofs.Tryz.func132 (by kernel_rfl) (show compF P G pu Go.Proofs.Tryz.f132 true false false false = some cf132 by kernel_rfl)
theorem ok136 : FnGood P G pu F 136 cf136 := good_of Go.Proofs.Tryz.func136 (by kernel_rfl) (show compF P G pu Go.Proofs.Tryz.f136 false false false false = some cf136 by kernel_rfl)
theorem ok137 : FnGood P G pu F 137 cf137 := good_of Go.Proofs.Tryz.func137 (by kernel_rfl) (show compF P G pu Go.Proofs.Tryz.f137 false false false false = some cf137 by kernel_rfl)
theorem ok148 : FnGood P G pu F 148 cf148 := good_of Go.Proofs.Tryz.func148 (by kernel_rfl) (show compF P G pu Go.Proofs.Tryz.f148 true false false false = some cf148 by kernel_rfl)
theorem ok149 : FnGood P G pu F 149 (cNo true) := good_no Go.Proofs.Tryz.func149 (by kernel_rfl) (by kernel_rfl)
theorem ok151 : FnGood P G pu F 151 cf151 := good_of Go.Proofs.Tryz.func151 (by kernel_rfl) (show compF P G pu Go.Proofs.Tryz.f151 false false false false = some cf151 by kernel_rfl)
theorem ok152 : FnGood P G pu F 152 cf152 := good_of Go.Proofs.Tryz.func152 (by kernel_rfl) (show compF P G pu Go.Proofs.Tryz.f152 true false false false = some cf152 by kernel_rfl)
theorem ok154 : FnGood P G pu F 154 cf154 := good_of Go.Proofs.Tryz.func154 (by kernel_rfl) (show compF P G pu Go.Proofs.Tryz.f154 false false false false = some cf154 by kernel_rfl)
theorem ok160 : FnGood P G pu F 160 cf160 := good_of Go.Proofs.Tryz.func160 (by kernel_rfl) (show compF P G pu Go.Proofs.Tryz.f160 false false false false = some cf160 by kernel_rfl)
theorem ok165 : FnGood P G pu F 165 cf165 := good_of Go.Proofs.Tryz.func165 (by kernel_rfl) (show compF P G pu Go.Proofs.Tryz.f165 true false false false = some cf165 by kernel_rfl)
theorem ok166 : FnGood P G pu F 166 cf166 := good_of Go.Proofs.Tryz.func166 (by kernel_rfl) (show compF P G pu Go.Proofs.Tryz.f166 true false false false = some cf166 by kernel_rfl)
theorem ok167 : FnGood P G pu F 167 cf167 := good_of Go.Proofs.Tryz.func167 (by kernel_rfl) (show compF P G pu Go.Proofs.Tryz.f167 true false false false = some cf167 by kernel_rfl)
theorem ok170 : FnGood P G pu F 170 cf170 := good_of Go.Proofs.Tryz.func170 (by kernel_rfl) (show compF P G pu Go.Proofs.Tryz.f170 true false false false = some cf170 by kernel_rfl)
theorem ok171 : FnGood P G pu F 171 cf171 := good_of Go.Proofs.Tryz.func171 (by kernel_rfl) (show compF P G pu Go.Proofs.Tryz.f171 false false false false = some cf171 by kernel_rfl)
theorem ok172 : FnGood P G pu F 172 cf172 := good_of Go.Proofs.Tryz.func172 (by kernel_rfl) (show compF P G pu Go.Proofs.Tryz.f172 true false false false = some cf172 by kernel_rfl)
theorem ok173 : FnGood P G pu F 173 cf173 := good_of Go.Proofs.Tryz.func173 (by kernel_rfl) (show compF P G pu Go.Proofs.Tryz.f173 true false false false = some cf173 by kernel_rfl)
theorem ok174 : FnGood P G pu F 174 cf174 := good_of Go.Proofs.Tryz.func174 (by kernel_rfl) (show compF P G pu Go.Proofs.Tryz.f174 true false false false = some cf174 by kernel_rfl)
theorem ok175 : FnGood P G pu F 175 cf175 := good_of Go.Proofs.Tryz.func175 (by kernel_rfl) (show compF P G pu Go.Proofs.Tryz.f175 false false false false = some cf175 by kernel_rfl)
theorem ok176 : FnGood P G pu F 176 cf176 := good_of Go.Proofs.Tryz.func176 (by kernel_rfl) (show compF P G pu Go.Proofs.Tryz.f176 false false false false = some cf176 by kernel_rfl)
theorem ok177 : FnGood P G pu F 177 cf177 := good_of Go.Proofs.Tryz.func177 (by kernel_rfl) (show compF P G pu Go.Proofs.Tryz.f177 false false true false = some cf177 by kernel_rfl)
theorem ok178 : FnGood P G pu F 178 cf178 := good_of Go.Proofs.Tryz.func178 (by kernel_rfl) (show compF P G pu Go.Proofs.Tryz.f178 true false false false = some cf178 by kernel_rfl)
theorem ok179 : FnGood P G pu F 179 cf179 := good_of Go.Proofs.Tryz.func179 (by kernel_rfl) (show compF P G pu Go.Proofs.Tryz.f179 true false false false = some cf179 by kernel_rfl)
theorem ok180 : FnGood P G pu F 180 cf180 := good_of Go.Proofs.Tryz.func180 (by kernel_rfl) (show compF P G pu Go.Proofs.Tryz.f180 false false false false = some cf180 by kernel_rfl)
theorem ok181 : FnGood P G pu F 181 cf181 := good_of Go.Proofs.Tryz.func181 (by kernel_rfl) (show compF P G pu Go.Proofs.Tryz.f181 true false false false = some cf181 by kernel_rfl)
theorem ok182 : FnGood P G pu F 182 cf182 := good_of Go.Proofs.Tryz.func182 (by kernel_rfl) (show compF P G pu Go.Proofs.Tryz.f182 true false false false = some cf182 by kernel_rfl)
theorem ok183 : FnGood P G pu F 183 cf183 := good_of Go.Proofs.Tryz.func183 (by kernel_rfl) (show compF P G pu Go.Proofs.Tryz.f183 true false false false = some cf183 by kernel_rfl)
theorem ok185 : FnGood P G pu F 185 cf185 := good_of Go.Proofs.Tryz.func185 (by kernel_rfl) (show compF P G pu Go.Proofs.Tryz.f185 false false false false = some cf185 by kernel_rfl)
theorem ok186 : FnGood P G pu F 186 (cNo false) := good_no Go.Proofs.Tryz.func186 (by kernel_rfl) (by kernel_rfl)
theorem ok187 : FnGood P G pu F 187 cf187 := good_of Go.Proofs.Tryz.func187 (by kernel_rfl) (show compF P G pu Go.Proofs.Tryz.f187 true false false false = some cf187 by kernel_rfl)
theorem ok188 : FnGood P G pu F 188 cf188 := good_of Go.Proofs.Tryz.func188 (by kernel_rfl) (show compF P G pu Go.Proofs.Tryz.f188 true false false false = some cf188 by kernel_rfl)
theorem ok191 : FnGood P G pu F 191 cf191 := good_of Go.Proofs.Tryz.func191 (by kernel_rfl) (show compF P G pu Go.Proofs.Tryz.f191 true false false false = some cf191 by kernel_rfl)
theorem ok192 : FnGood P G pu F 192 (cNo false) := good_no Go.Proofs.Tryz.func192 (by kernel_rfl) (by kernel_rfl)
theorem ok193 : FnGood P G pu F 193 cf193 := good_of Go.Proofs.Tryz.func193 (by kernel_rfl) (show compF P G pu Go.Proofs.Tryz.f193 false false false false = some cf193 by kernel_rfl)
theorem ok194 : FnGood P G pu F 194 cf194 := good_of Go.Proofs.Tryz.func194 (by kernel_rfl) (show compF P G pu Go.Proofs.Tryz.f194 true false false false = some cf194 by kernel_rfl)
theorem ok195 : FnGood P G pu F 195 cf195 := good_of Go.Proofs.Tryz.func195 (by kernel_rfl) (show compF P G pu Go.Proofs.Tryz.f195 true false false false = some cf195 by kernel_rfl)
theorem ok199 : FnGood P G pu F 199 cf199 := good_of Go.Proofs.Tryz.func199 (by kernel_rfl) (show compF P G pu Go.Proofs.Tryz.f199 true true false false = some cf199 by kernel_rfl)
theorem ok201 : FnGood P G pu F 201 cf201 := good_of Go.Proofs.Tryz.func201 (by kernel_rfl) (show compF P G pu Go.Proofs.Tryz.f201 false false false false = some cf201 by kernel_rfl)
theorem ok202 : FnGood P G pu F 202 cf202 := good_of Go.Proofs.Tryz.func202 (by kernel_rfl) (show compF P G pu Go.Proofs.Tryz.f202 true false false false = some cf202 by kernel_rfl)
theorem ok203 : FnGood P G pu F 203 cf203 := good_of Go.Proofs.Tryz.func203 (by kernel_rfl) (show compF P G pu Go.Proofs.Tryz.f203 true false false false = some cf203 by kernel_rfl)
theorem ok205 : FnGood P G pu F 205 (cNo true) := good_no Go.Proofs.Tryz.func205 (by kernel_rfl) (by kernel_rfl)
theorem ok210 : FnGood P G pu F 210 cf210 := good_of Go.Proofs.Tryz.func210 (by kernel_rfl) (show compF P G pu Go.Proofs.Tryz.f210 true false false false = some cf210 by kernel_rfl)
theorem ok211 : FnGood P G pu F 211 cf211 := good_of Go.Proofs.Tryz.func211 (by kernel_rfl) (show compF P G pu Go.Proofs.Tryz.f211 false false false false = some cf211 by kernel_rfl)
theorem ok227 : FnGood P G pu F 227 cf227 := good_of Go.Proofs.Tryz.func227 (by kernel_rfl) (show compF P G pu Go.Proofs.Tryz.f227 true false false false = some cf227 by kernel_rfl)
theorem ok228 : FnGood P G pu F 228 cf228 := good_of Go.Proofs.Tryz.func228 (by kernel_rfl) (show compF P G pu Go.Proofs.Tryz.f228 true false false false = some cf228 by kernel_rfl)
theorem ok229 : FnGood P G pu F 229 cf229 := good_of Go.Proofs.Tryz.func229 (by kernel_rfl) (show compF P G pu Go.Proofs.Tryz.f229 true false false false = some cf229 by kernel_rfl)
theorem ok230 : FnGood P G pu F 230 cf230 := good_of Go.Proofs.Tryz.func230 (by kernel_rfl) (show compF P G pu Go.Proofs.Tryz.f230 true false false false = some cf230 by kernel_rfl)
theorem ok231 : FnGood P G pu F 231 cf231 := good_of Go.Proofs.Tryz.func231 (by kernel_rfl) (show compF P G pu Go.Proofs.Tryz.f231 true false false false = some cf231 by kernel_rfl)
theorem ok232 : FnGood P G pu F 232 cf232 := good_of Go.Proofs.Tryz.func232 (by kernel_rfl) (show compF P G pu Go.Proofs.Tryz.f232 true false false false = some cf232 by kernel_rfl)
theorem ok233 : FnGood P G pu F 233 cf233 := good_of Go.Proofs.Tryz.func233 (by kernel_rfl) (show compF P G pu Go.Proofs.Tryz.f233 true false false false = some cf233 by kernel_rfl)
theorem ok234 : FnGood P G pu F 234 cf234 := good_of Go.Proofs.Tryz.func234 (by kernel_rfl) (show compF P G pu Go.Proofs.Tryz.f234 true false false false = some cf234 by kernel_rfl)
theorem ok235 : FnGood P G pu F 235 cf235 := good_of Go.Proofs.Tryz.func235 (by kernel_rfl) (show compF P G pu Go.Proofs.Tryz.f235 true false false false = some cf235 by kernel_rfl)
theorem ok236 : FnGood P G pu F 236 cf236 := good_of Go.Proofs.Tryz.func236 (by kernel_rfl) (show compF P G pu Go.Proofs.Tryz.f236 true false false false = some cf236 by kernel_rfl)
theorem ok237 : FnGood P G pu F 237 cf237 := good_of Go.Proofs.Tryz.func237 (by kernel_rfl) (show compF P G pu Go.Proofs.Tryz.f237 true false false false = some cf237 by kernel_rfl)
theorem ok238 : FnGood P G pu F 238 cf238 := good_of Go.Proofs.Tryz.func238 (by kernel_rfl) (show compF P G pu Go.Proofs.Tryz.f238 true false false false = some cf238 by kernel_rfl)
theorem ok239 : FnGood P G pu F 239 cf239 := good_of Go.Proofs.Tryz.func239 (by kernel_rfl) (show compF P G pu Go.Proofs.Tryz.f239 false false false false = some cf239 by kernel_rfl)
theorem ok240 : FnGood P G pu F 240 cf240 := good_of Go.Proofs.Tryz.func240 (by kernel_rfl) (show compF P G pu Go.Proofs.Tryz.f240 true false false false = some cf240 by kernel_rfl)
theorem ok241 : FnGood P G pu F 241 cf241 := good_of Go.Proofs.Tryz.func241 (by kernel_rfl) (show compF P G pu Go.Proofs.Tryz.f241 false false false false = some cf241 by kernel_rfl)
theorem ok242 : FnGood P G pu F 242 cf242 := good_of Go.Proofs.Tryz.func242 (by kernel_rfl) (show compF P G pu Go.Proofs.Tryz.f242 true false false false = some cf242 by kernel_rfl)
theorem ok243 : FnGood P G pu F 243 cf243 := good_of Go.Proofs.Tryz.func243 (by kernel_rfl) (show compF P G pu Go.Proofs.Tryz.f243 true false false false = some cf243 by kernel_rfl)
theorem ok244 : FnGood P G pu F 244 cf244 := good_of Go.Proofs.Tryz.func244 (by kernel_rfl) (show compF P G pu Go.Proofs.Tryz.f244 false false false false = some cf244 by kernel_rfl)
theorem ok246 : FnGood P G pu F 246 cf246 := good_of Go.Proofs.Tryz.func246 (by kernel_rfl) (show compF P G pu Go.Proofs.Tryz.f246 true false false false = some cf246 by kernel_rfl)
theorem ok249 : FnGood P G pu F 249 cf249 := good_of Go.Proofs.Tryz.func249 (by kernel_rfl) (show compF P G pu Go.Proofs.Tryz.f249 false false false false = some cf249 by kernel_rfl)
theorem ok253 : FnGood P G pu F 253 cf253 := good_of Go.Proofs.Tryz.func253 (by kernel_rfl) (show compF P G pu Go.Proofs.Tryz.f253 false false false false = some cf253 by kernel_rfl)
theorem ok254 : FnGood P G pu F 254 cf254 := good_of Go.Proofs.Tryz.func254 (by kernel_rfl) (show compF P G pu Go.Proofs.Tryz.f254 true false false false = some cf254 by kernel_rfl)
theorem ok255 : FnGood P G pu F 255 cf255 := good_of Go.Proofs.Tryz.func255 (by kernel_rfl) (show compF P G pu Go.Proofs.Tryz.f255 true false false false = some cf255 by kernel_rfl)
theorem ok260 : FnGood P G pu F 260 cf260 := good_of Go.Proofs.Tryz.func260 (by kernel_rfl) (show compF P G pu Go.Proofs.Tryz.f260 true false false false = some cf260 by kernel_rfl)
theorem ok261 : FnGood P G pu F 261 cf261 := good_of Go.Proofs.Tryz.func261 (by kernel_rfl) (show compF P G pu Go.Proofs.Tryz.f261 true false false false = some cf261 by kernel_rfl)
theorem ok262 : FnGood P G pu F 262 (cNo true) := good_no Go.Proofs.Tryz.func262 (by kernel_rfl) (by kernel_rfl)
theorem ok271 : FnGood P G pu F 271 (cNo true) := good_no Go.Proofs.Tryz.func271 (by kernel_rfl) (by kernel_rfl)
theorem ok279 : FnGood P G pu F 279 (cNo true) := good_no Go.Proofs.Tryz.func279 (by kernel_rfl) (by kernel_rfl)
theorem ok280 : FnGood P G pu F 280 cf280 := good_of Go.Proofs.Tryz.func280 (by kernel_rfl) (show compF P G pu Go.Proofs.Tryz.f280 true false false false = some cf280 by kernel_rfl)
theorem ok281 : FnGood P G pu F 281 cf281 := good_of Go.Proofs.Tryz.func281 (by kernel_rfl) (show compF P G pu Go.Proofs.Tryz.f281 true false false false = some cf281 by kernel_rfl)
theorem ok282 : FnGood P G pu F 282 cf282 := good_of Go.Proofs.Tryz.func282 (by kernel_rfl) (show compF P G pu Go.Proofs.Tryz.f282 true false false false = some cf282 by kernel_rfl)
theorem ok283 : FnGood P G pu F 283 cf283 := good_of Go.Proofs.Tryz.func283 (by kernel_rfl) (show compF P G pu Go.Proofs.Tryz.f283 true false false false = some cf283 by kernel_rfl)
theorem ok284 : FnGood P G pu F 284 cf284 := good_of Go.Proofs.Tryz.func284 (by kernel_rfl) (show compF P G pu Go.Proofs.Tryz.f284 true false false false = some cf284 by kernel_rfl)
theorem ok285 : FnGood P G pu F 285 cf285 := good_of Go.Proofs.Tryz.func285 (by kernel_rfl) (show compF P G pu Go.Proofs.Tryz.f285 true false false false = some cf285 by kernel_rfl)
theorem ok286 : FnGood P G pu F 286 cf286 := good_of Go.Proofs.Tryz.func286 (by kernel_rfl) (show compF P G pu Go.Proofs.Tryz.f286 true false false false = some cf286 by kernel_rfl)
theorem ok288 : FnGood P G pu F 288 cf288 := good_of Go.Proofs.Tryz.func288 (by kernel_rfl) (show compF P G pu Go.Proofs.Tryz.f288 false false false false = some cf288 by kernel_rfl)
theorem ok289 : FnGood P G pu F 289 cf289 := good_of Go.Proofs.Tryz.func289 (by kernel_rfl) (show compF P G pu Go.Proofs.Tryz.f289 true false false false = some cf289 by kernel_rfl)
theorem ok290 : FnGood P G pu F 290 cf290 := good_of Go.Proofs.Tryz.func290 (by kernel_rfl) (show compF P G pu Go.Proofs.Tryz.f290 true false false false = some cf290 by kernel_rfl)
theorem ok291 : FnGood P G pu F 291 cf291 := good_of Go.Proofs.Tryz.func291 (by kernel_rfl) (show compF P G pu Go.Proofs.Tryz.f291 true false false false = some cf291 by kernel_rfl)
theorem ok292 : FnGood P G pu F 292 (cNo true) := good_no Go.Proofs.Tryz.func292 (by kernel_rfl) (by kernel_rfl)
theorem ok296 : FnGood P G pu F 296 cf296 := good_of Go.Proofs.Tryz.func296 (by kernel_rfl) (show compF P G pu Go.Proofs.Tryz.f296 false false false false = some cf296 by kernel_rfl)
theorem ok297 : FnGood P G pu F 297 cf297 := good_of Go.Proofs.Tryz.func297 (by kernel_rfl) (show compF P G pu Go.Proofs.Tryz.f297 true false false false = some cf297 by kernel_rfl)
theorem ok298 : FnGood P G pu F 298 cf298 := good_of Go.Proofs.Tryz.func298 (by kernel_rfl) (show compF P G pu Go.Proofs.Tryz.f298 true false false false = some cf298 by kernel_rfl)
theorem ok299 : FnGood P G pu F 299 cf299 := good_of Go.Proofs.Tryz.func299 (by kernel_rfl) (show compF P G pu Go.Proofs.Tryz.f299 true false false false = some cf299 by kernel_rfl)
theorem ok300 : FnGood P G pu F 300 (cNo true) := good_no Go.Proofs.Tryz.func300 (by kernel_rfl) (by kernel_rfl)
theorem ok319 : FnGood P G pu F 319 (cNo true) := good_no Go.Proofs.Tryz.func319 (by kernel_rfl) (by kernel_rfl)
theorem ok320 : FnGood P G pu F 320 cf320 := good_of Go.Proofs.Tryz.func320 (by kernel_rfl) (show compF P G pu Go.Proofs.Tryz.f320 true false false false = some cf320 by kernel_rfl)
theorem ok321 : FnGood P G pu F 321 cf321 := good_of Go.Proofs.Tryz.func321 (by kernel_rfl) (show compF P G pu Go.Proofs.Tryz.f321 true false false false = some cf321 by kernel_rfl)
theorem ok322 : FnGood P G pu F 322 cf322 := good_of Go.Proofs.Tryz.func322 (by kernel_rfl) (show compF P G pu Go.Proofs.Tryz.f322 true false false false = some cf322 by kernel_rfl)
theorem ok323 : FnGood P G pu F 323 cf323 := good_of Go.Proofs.Tryz.func323 (by kernel_rfl) (show compF P G pu Go.Proofs.Tryz.f323 true false false false = some cf323 by kernel_rfl)
theorem ok324 : FnGood P G pu F 324 cf324 := good_of Go.Proofs.Tryz.func324 (by kernel_rfl) (show compF P G pu Go.Proofs.Tryz.f324 true false false false = some cf324 by kernel_rfl)
theorem ok325 : FnGood P G pu F 325 (cNo true) := good_no Go.Proofs.Tryz.func325 (by kernel_rfl) (by kernel_rfl)
theorem ok328 : FnGood P G pu F 328 cf328 := good_of Go.Proofs.Tryz.func328 (by kernel_rfl) (show compF P G pu Go.Proofs.Tryz.f328 false false false false = some cf328 by kernel_rfl)
theorem ok329 : FnGood P G pu F 329 cf329 := good_of Go.Proofs.Tryz.func329 (by kernel_rfl) (show compF P G pu Go.Proofs.Tryz.f329 true false false false = some cf329 by kernel_rfl)
theorem ok330 : FnGood P G pu F 330 (cNo true) := good_no Go.Proofs.Tryz.func330 (by kernel_rfl) (by kernel_rfl)
theorem ok341 : FnGood P G pu F 341 cf341 := good_of Go.Proofs.Tryz.func341 (by kernel_rfl) (show compF P G pu Go.Proofs.Tryz.f341 true false false false = some cf341 by kernel_rfl)
theorem ok342 : FnGood P G pu F 342 cf342 := good_of Go.Proofs.Tryz.func342 (by kernel_rfl) (show compF P G pu Go.Proofs.Tryz.f342 true false false false = some cf342 by kernel_rfl)
theorem ok344 : FnGood P G pu F 344 cf344 := good_of Go.Proofs.Tryz.func344 (by kernel_rfl) (show compF P G pu Go.Proofs.Tryz.f344 true false false false = some cf344 by kernel_rfl)
theorem ok345 : FnGood P G pu F 345 (cNo true) := good_no Go.Proofs.Tryz.func345 (by kernel_rfl) (by kernel_rfl)
theorem ok347 : FnGood P G pu F 347 (cNo true) := good_no Go.Proofs.Tryz.func347 (by kernel_rfl) (by kernel_rfl)
theorem ok287 : FnGood P G pu F 287 cf287 := .inr fun k _ _ => spec_ins Go.Proofs.Tryz.laysInsI
noncomputable def k118 : Code := bodyOf Go.Proofs.Tryz.f118
theorem ok118 : FnGood P G pu F 118 cf118 := .inr fun k _ _ => spec_clone (N := 0) (i0 := regI (sa k118)) (i1 := regI (sa (sa (sb k118)))) (i2 := regI (sa (condA (sb (sa (sb k118)))))) (o0 := opAt (regO (sa k118)) 0) (o1 := opAt (regO (sa (sa (sb k118)))) 0) (o2 := opAt (regO (sa (sa (sb k118)))) 1) (o3 := opAt (regO (sa (condA (sb (sa (sb k118)))))) 0) (Dc := sb (sb k118)) (t := cT (opAt (regO (sa (sa (sb k118)))) 1).op) (el := elT P (cT (opAt (regO (sa (sa (sb k118)))) 1).op)) (ty := cTy (opAt (regO (sa (sa (sb k118)))) 1).op) (zs := bsZ (comp P G (fun _ => false) Go.Proofs.Tryz.f118.ntmps (sb (sb k118)))) (frz := true) mixed Go.Proofs.Tryz.func118 (by kernel_rfl) (by kernel_rfl) (by kernel_rfl) (by decide) (by kernel_rfl) (by kernel_rfl) (by kernel_rfl) (by kernel_rfl) (by kernel_rfl) (by kernel_rfl) (by kernel_rfl) (by kernel_rfl) (by kernel_rfl) (by kernel_rfl) (by kernel_rfl) (by kernel_rfl) (by kernel_rfl) (by kernel_rfl) (by kernel_rfl)
noncomputable def k128 : Code := bodyOf Go.Proofs.Tryz.f128
theorem ok128 : FnGood P G pu F 128 cf128 := .inr fun k _ _ => spec_clone (N := 0) (i0 := regI (sa k128)) (i1 := regI (sa (sa (sb k128)))) (i2 := regI (sa (condA (sb (sa (sb k128)))))) (o0 := opAt (regO (sa k128)) 0) (o1 := opAt (regO (sa (sa (sb k128)))) 0) (o2 := opAt (regO (sa (sa (sb k128)))) 1) (o3 := opAt (regO (sa (condA (sb (sa (sb k128)))))) 0) (Dc := sb (sb k128)) (t := cT (opAt (regO (sa (sa (sb k128)))) 1).op) (el := elT P (cT (opAt (regO (sa (sa (sb k128)))) 1).op)) (ty := cTy (opAt (regO (sa (sa (sb k128)))) 1).op) (zs := bsZ (comp P G (fun _ => false) Go.Proofs.Tryz.f128.ntmps (sb (sb k128)))) (frz := true) mixed Go.Proofs.Tryz.func128 (by kernel_rfl) (by kernel_rfl) (by kernel_rfl) (by decide) (by kernel_rfl) (by kernel_rfl) (by kernel_rfl) (by kernel_rfl) (by kernel_rfl) (by kernel_rfl) (by kernel_rfl) (by kernel_rfl) (by kernel_rfl) (by kernel_rfl) (by kernel_rfl) (by kernel_rfl) (by kernel_rfl) (by kernel_rfl) (by kernel_rfl)
noncomputable def kb : Code := bodyOf Go.Proofs.Tryz.f57
noncomputable def kx : Code := sb (sb (sb kb))
noncomputable def ky : Code := sa kx
noncomputable def kr : Code := blkC (sb ky)
noncomputable def r0 : Array Oper := regO (sa kb)
noncomputable def r1 : Array Oper := regO (sa (sb kb))
noncomputable def r2 : Array Oper := regO (sa (sb (sb kb)))
noncomputable def r3 : Array Oper := regO (sa ky)
noncomputable def o4 : Array Oper := regO (rfA kr)
noncomputable def o5 : Array Oper := regO (blkC (rfB kr))
noncomputable def r6 : Array Oper := regO (sa (sb kx))
def q0 : List (Nat × COper) := [(0, ⟨(.some 1), .none, (.box (.t 0)), [], .none⟩), (1, ⟨(.some 2), .none, (.alloc zV), [], .none⟩)]
def q1 : List (Nat × COper) := [(0, ⟨(.some 7), .none, (.fld 0 (.t 1)), [], .none⟩), (1, ⟨(.some 8), .none, (.load .none (.t 7)), [], .none⟩), (2, ⟨(.some 9), .none, (.len false (.t 8)), [], .none⟩), (3, ⟨(.some 3), .none, (.alloc [(.d (.i .i64 (.ofNat 0)))]), [], .none⟩), (4, ⟨.none, .none, (.store 1 (.t 3) (.t 9)), [], .none⟩)]
def q2 : List (Nat × COper) := [(0, ⟨(.some 10), .none, (.fld 1 (.t 1)), [], .none⟩), (1, ⟨(.some 11), .none, (.load (.some 4) (.t 10)), [], .none⟩), (2, ⟨(.some 12), .none, (.mkf 124 [] [(.t 3)]), [], .none⟩), (3, ⟨(.some 13), .none, (.call 123 [(.t 11), (.c (.d (.b false))), (.t 12)]), [], .none⟩), (4, ⟨(.some 4), .none, (.alloc zV), [], .none⟩), (5, ⟨.none, .none, (.store 4 (.t 4) (.t 13)), [], .none⟩)]
theorem btc : BtC P G pu 57 125 189 126 25 r0 r1 r2 r3 o4 o5 r6 q0 q1 q2 where
  fn := ⟨Go.Proofs.Tryz.f57, regI (sa kb), regI (sa (sb kb)), regI (sa (sb (sb kb))), regI (sa ky), regI (rfA kr), regI (blkC (rfB kr)), regI (sa (sb kx)), Go.Proofs.Tryz.func57, by kernel_rfl, by kernel_rfl, by kernel_rfl, by kernel_rfl⟩
  hN := by decide
  p0 := by kernel_rfl
  p1 := by kernel_rfl
  p2 := by kernel_rfl
  p4 := by kernel_rfl
  p5 := by kernel_rfl
  p6 := by kernel_rfl
  z3 := by kernel_rfl
  z4 := by kernel_rfl
  z5 := by kernel_rfl
  z6 := by kernel_rfl
  d4 := all_of (by kernel_rfl)
  d5 := all_of (by kernel_rfl)
  i0 := ⟨(List.range 60), by kernel_rfl, List.contains_iff_mem.1 (by kernel_rfl)⟩
  i1 := ⟨(List.range 60), by kernel_rfl⟩
  i2 := ⟨(List.range 60), by kernel_rfl, List.contains_iff_mem.1 (by kernel_rfl)⟩
  a0 := ⟨opAt r3 0, true, by kernel_rfl, by kernel_rfl, by kernel_rfl, by kernel_rfl, by kernel_rfl⟩
  a1 := ⟨opAt r3 1, true, by kernel_rfl, by kernel_rfl, by kernel_rfl, by kernel_rfl, by kernel_rfl⟩
  a2 := ⟨opAt r3 2, by kernel_rfl, by kernel_rfl, by kernel_rfl, by kernel_rfl, by kernel_rfl⟩
  bk := fnOK_of (a := false) (b := false) (c := false) (d := false) Go.Proofs.Tryz.func125 (by kernel_rfl) (by kernel_rfl)
noncomputable def ki : Code := bodyOf Go.Proofs.Tryz.f189
noncomputable def kl : Code := loopC (blkC (sb ki))
noncomputable def i0 : Array Oper := regO (sa ki)
noncomputable def i1 : Array Oper := regO (sa (sa kl))
noncomputable def i3 : Array Oper := regO (sa (blkC (sa (sb kl))))
noncomputable def i2 : Array Oper := regO (sb (sb kl))
theorem itc : ItC P G 189 i0 i1 i2 i3 (opAt i3 0) (opAt i3 6) where
  fn := ⟨Go.Proofs.Tryz.f189, regI (sa ki), regI (sa (sa kl)), regI (sb (sb kl)), regI (sa (blkC (sa (sb kl)))), Go.Proofs.Tryz.func189, by kernel_rfl, by kernel_rfl, by kernel_rfl, by kernel_rfl⟩
  z0 := by kernel_rfl
  z1 := by kernel_rfl
  z2 := by kernel_rfl
  z3 := by kernel_rfl
  a0 := ⟨opAt i0 0, true, by kernel_rfl, by kernel_rfl, by kernel_rfl, by kernel_rfl, by kernel_rfl⟩
  a1 := ⟨opAt i0 1, true, by kernel_rfl, by kernel_rfl, by kernel_rfl, by kernel_rfl, by kernel_rfl⟩
  a2 := ⟨opAt i0 2, true, by kernel_rfl, by kernel_rfl, by kernel_rfl, by kernel_rfl, by kernel_rfl⟩
  a3 := ⟨opAt i0 3, true, by kernel_rfl, by kernel_rfl, by kernel_rfl, by kernel_rfl, by kernel_rfl⟩
  b0 := ⟨opAt i1 0, true, by kernel_rfl, by kernel_rfl, by kernel_rfl, by kernel_rfl, by kernel_rfl⟩
  b1 := ⟨opAt i1 1, true, by kernel_rfl, by kernel_rfl, by kernel_rfl, by kernel_rfl, by kernel_rfl⟩
  c1 := ⟨opAt i3 1, true, by kernel_rfl, by kernel_rfl, by kernel_rfl, by kernel_rfl, by kernel_rfl⟩
  c2 := ⟨opAt i3 2, true, by kernel_rfl, by kernel_rfl, by kernel_rfl, by kernel_rfl, by kernel_rfl⟩
  c3 := ⟨opAt i3 3, true, by kernel_rfl, by kernel_rfl, by kernel_rfl, by kernel_rfl, by kernel_rfl⟩
  c4 := ⟨opAt i3 4, true, by kernel_rfl, by kernel_rfl, by kernel_rfl, by kernel_rfl, by kernel_rfl⟩
  c5 := ⟨opAt i3 5, true, by kernel_rfl, by kernel_rfl, by kernel_rfl, by kernel_rfl, by kernel_rfl⟩
  c7 := ⟨opAt i3 7, true, by kernel_rfl, by kernel_rfl, by kernel_rfl, by kernel_rfl, by kernel_rfl⟩
  d0 := ⟨opAt i2 0, true, by kernel_rfl, by kernel_rfl, by kernel_rfl, by kernel_rfl, by kernel_rfl⟩
  d1 := ⟨opAt i2 1, true, by kernel_rfl, by kernel_rfl, by kernel_rfl, by kernel_rfl, by kernel_rfl⟩
  d2 := ⟨opAt i2 2, true, by kernel_rfl, by kernel_rfl, by kernel_rfl, by kernel_rfl, by kernel_rfl⟩
  c0 := ⟨by kernel_rfl, by kernel_rfl, by kernel_rfl, by kernel_rfl⟩
  c6 := ⟨by kernel_rfl, by kernel_rfl, by kernel_rfl, cArgs (opAt i3 6).op, cTs (opAt i3 6).op, by kernel_rfl, by kernel_rfl⟩
theorem cf_bt : cf57 = cBt r0.size r1.size r2.size 126 q0 q1 q2 := by kernel_rfl
theorem ok57 : FnGood P G pu F 57 cf57 := .inr fun k hC hcode => by
  rw [cf_bt]
  exact spec_bt mixed btc itc hC hcode fun j g args h n v h' n' hp hc => by
    obtain ⟨cf, h1, h2⟩ := puOf_spec hp
    exact pure_soft h1 h2 hc
theorem ok150 : FnGood P G pu F 150 cf150 := .inr fun k _ _ => spec_so Go.Proofs.Tryz.laysSortedS { Go.Proofs.Tryz.laysKeysS with } (sorts_of Go.Proofs.Tryz.laysSortS rfl) Go.Proofs.Tryz.func150 (by kernel_rfl) (by kernel_rfl) (Go.Proofs.enters_of Go.Proofs.Tryz.func213 (by kernel_rfl) rfl) (Go.Proofs.enters_of Go.Proofs.Tryz.func214 (by kernel_rfl) rfl)
theorem all : tbl.All (FnGood P G pu F) id := (T.All.no (T.All.no (T.All.no (T.All.no (T.All.nd ok15 (T.All.nd ok31 (T.All.no (T.All.no (T.All.nd ok255 T.All.lf T.All.lf) T.All.lf) (T.All.nd ok191 (T.All.nd ok319 T.All.lf T.All.lf) T.All.lf)) (T.All.nd ok95 (T.All.no (T.All.nd ok287 T.All.lf T.All.lf) T.All.lf) T.All.lf)) (T.All.nd ok47 (T.All.nd ok79 (T.All.no (T.All.nd ok271 T.All.lf T.All.lf) T.All.lf) T.All.lf) (T.All.nd ok111 (T.All.nd ok175 T.All.lf T.All.lf) (T.All.nd ok239 T.All.lf T.All.lf)))) (T.All.no (T.All.no (T.All.no T.All.lf (T.All.nd ok199 T.All.lf T.All.lf)) (T.All.nd ok103 (T.All.nd ok167 T.All.lf T.All.lf) (T.All.nd ok231 T.All.lf T.All.lf))) (T.All.no (T.All.no (T.All.nd ok151 (T.All.nd ok279 T.All.lf T.All.lf) T.All.lf) T.All.lf) (T.All.nd ok119 (T.All.nd ok183 T.All.lf T.All.lf) T.All.lf)))) (T.All.nd ok11 (T.All.nd ok19 (T.All.no (T.All.nd ok67 (T.All.nd ok131 T.All.lf T.All.lf) (T.All.nd ok195 (T.All.nd ok323 T.All.lf T.All.lf) T.All.lf)) (T.All.nd ok99 (T.All.no (T.All.nd ok291 T.All.lf T.All.lf) T.All.lf) (T.All.nd ok227 T.All.lf T.All.lf))) (T.All.nd ok51 (T.All.no T.All.lf (T.All.nd ok211 T.All.lf T.All.lf)) (T.All.nd ok115 (T.All.nd ok179 T.All.lf T.All.lf) (T.All.nd ok243 T.All.lf T.All.lf)))) (T.All.no (T.All.nd ok43 (T.All.no T.All.lf (T.All.nd ok203 T.All.lf T.All.lf)) (T.All.nd ok107 (T.All.nd ok171 (T.All.nd ok299 T.All.lf T.All.lf) T.All.lf) (T.All.nd ok235 T.All.lf T.All.lf))) (T.All.nd ok59 (T.All.no (T.All.no (T.All.nd ok283 T.All.lf T.All.lf) T.All.lf) (T.All.no (T.All.nd ok347 T.All.lf T.All.lf) T.All.lf)) (T.All.nd ok123 (T.All.nd ok187 T.All.lf T.All.lf) T.All.lf))))) (T.All.no (T.All.nd ok9 (T.All.no (T.All.nd ok33 (T.All.no (T.All.nd ok129 T.All.lf T.All.lf) (T.All.nd ok193 (T.All.nd ok321 T.All.lf T.All.lf) T.All.lf)) (T.All.nd ok97 (T.All.no (T.All.nd ok289 T.All.lf T.All.lf) T.All.lf) T.All.lf)) (T.All.nd ok49 (T.All.nd ok81 T.All.lf T.All.lf) (T.All.nd ok113 (T.All.nd ok177 T.All.lf T.All.lf) (T.All.nd ok241 T.All.lf T.All.lf)))) (T.All.no (T.All.nd ok41 (T.All.no (T.All.nd ok137 T.All.lf T.All.lf) (T.All.nd ok201 (T.All.nd ok329 T.All.lf T.All.lf) T.All.lf)) (T.All.nd ok105 (T.All.no (T.All.nd ok297 T.All.lf T.All.lf) T.All.lf) (T.All.nd ok233 T.All.lf T.All.lf))) (T.All.nd ok57 (T.All.no (T.All.no (T.All.nd ok281 T.All.lf T.All.lf) T.All.lf) (T.All.no (T.All.nd ok345 T.All.lf T.All.lf) T.All.lf)) (T.All.nd ok121 (T.All.nd ok185 T.All.lf T.All.lf) (T.All.nd ok249 T.All.lf T.All.lf))))) (T.All.no (T.All.nd ok21 (T.All.no (T.All.no (T.All.no (T.All.nd ok261 T.All.lf T.All.lf) T.All.lf) (T.All.no (T.All.nd ok325 T.All.lf T.All.lf) T.All.lf)) (T.All.nd ok101 (T.All.nd ok165 T.All.lf T.All.lf) (T.All.nd ok229 T.All.lf T.All.lf))) (T.All.nd ok53 (T.All.no (T.All.nd ok149 T.All.lf T.All.lf) (T.All.no (T.All.nd ok341 T.All.lf T.All.lf) T.All.lf)) (T.All.nd ok117 (T.All.nd ok181 T.All.lf T.All.lf) T.All.lf))) (T.All.no (T.All.nd ok45 (T.All.nd ok77 T.All.lf (T.All.nd ok205 T.All.lf T.All.lf)) (T.All.nd ok109 (T.All.nd ok173 T.All.lf T.All.lf) (T.All.nd ok237 T.All.lf T.All.lf))) (T.All.nd ok61 (T.All.no (T.All.no (T.All.nd ok285 T.All.lf T.All.lf) T.All.lf) T.All.lf) (T.All.no T.All.lf (T.All.nd ok253 T.All.lf T.All.lf))))))) (T.All.no (T.All.no (T.All.nd ok8 (T.All.nd ok16 (T.All.nd ok32 (T.All.no (T.All.nd ok128 T.All.lf T.All.lf) (T.All.nd ok192 (T.All.nd ok320 T.All.lf T.All.lf) T.All.lf)) (T.All.nd ok96 (T.All.nd ok160 (T.All.nd ok288 T.All.lf T.All.lf) T.All.lf) T.All.lf)) (T.All.nd ok48 (T.All.nd ok80 T.All.lf T.All.lf) (T.All.nd ok112 (T.All.nd ok176 T.All.lf T.All.lf) (T.All.nd ok240 T.All.lf T.All.lf)))) (T.All.no (T.All.nd ok40 (T.All.no (T.All.nd ok136 T.All.lf T.All.lf) (T.All.no (T.All.nd ok328 T.All.lf T.All.lf) T.All.lf)) (T.All.nd ok104 (T.All.no (T.All.nd ok296 T.All.lf T.All.lf) T.All.lf) (T.All.nd ok232 T.All.lf T.All.lf))) (T.All.nd ok56 (T.All.no (T.All.nd ok152 (T.All.nd ok280 T.All.lf T.All.lf) T.All.lf) (T.All.no (T.All.nd ok344 T.All.lf T.All.lf) T.All.lf)) (T.All.nd ok120 T.All.lf T.All.lf)))) (T.All.nd ok12 (T.All.no (T.All.no (T.All.no (T.All.nd ok132 (T.All.nd ok260 T.All.lf T.All.lf) T.All.lf) (T.All.no (T.All.nd ok324 T.All.lf T.All.lf) T.All.lf)) (T.All.nd ok100 (T.All.no (T.All.nd ok292 T.All.lf T.All.lf) T.All.lf) (T.All.nd ok228 T.All.lf T.All.lf))) (T.All.nd ok52 (T.All.no (T.All.nd ok148 T.All.lf T.All.lf) T.All.lf) (T.All.nd ok116 (T.All.nd ok180 T.All.lf T.All.lf) (T.All.nd ok244 T.All.lf T.All.lf)))) (T.All.no (T.All.nd ok44 (T.All.nd ok76 T.All.lf T.All.lf) (T.All.nd ok108 (T.All.nd ok172 (T.All.nd ok300 T.All.lf T.All.lf) T.All.lf) (T.All.nd ok236 T.All.lf T.All.lf))) (T.All.nd ok60 (T.All.no (T.All.no (T.All.nd ok284 T.All.lf T.All.lf) T.All.lf) T.All.lf) (T.All.no (T.All.nd ok188 T.All.lf T.All.lf) T.All.lf))))) (T.All.nd ok6 (T.All.nd ok10 (T.All.no (T.All.nd ok34 (T.All.nd ok66 (T.All.nd ok130 T.All.lf T.All.lf) (T.All.nd ok194 (T.All.nd ok322 T.All.lf T.All.lf) T.All.lf)) (T.All.nd ok98 (T.All.no (T.All.nd ok290 T.All.lf T.All.lf) T.All.lf) T.All.lf)) (T.All.nd ok50 (T.All.nd ok82 T.All.lf (T.All.nd ok210 T.All.lf T.All.lf)) (T.All.nd ok114 (T.All.nd ok178 T.All.lf T.All.lf) (T.All.nd ok242 T.All.lf T.All.lf)))) (T.All.no (T.All.nd ok42 (T.All.no T.All.lf (T.All.nd ok202 (T.All.nd ok330 T.All.lf T.All.lf) T.All.lf)) (T.All.nd ok106 (T.All.nd ok170 (T.All.nd ok298 T.All.lf T.All.lf) T.All.lf) (T.All.nd ok234 T.All.lf T.All.lf))) (T.All.no (T.All.no (T.All.nd ok154 (T.All.nd ok282 T.All.lf T.All.lf) T.All.lf) T.All.lf) (T.All.nd ok122 (T.All.nd ok186 T.All.lf T.All.lf) T.All.lf)))) (T.All.nd ok14 (T.All.nd ok22 (T.All.no (T.All.no (T.All.no (T.All.nd ok262 T.All.lf T.All.lf) T.All.lf) T.All.lf) (T.All.nd ok102 (T.All.nd ok166 T.All.lf T.All.lf) (T.All.nd ok230 T.All.lf T.All.lf))) (T.All.nd ok54 (T.All.no (T.All.nd ok150 T.All.lf T.All.lf) (T.All.no (T.All.nd ok342 T.All.lf T.All.lf) T.All.lf)) (T.All.nd ok118 (T.All.nd ok182 T.All.lf T.All.lf) (T.All.nd ok246 T.All.lf T.All.lf)))) (T.All.no (T.All.nd ok46 T.All.lf (T.All.nd ok110 (T.All.nd ok174 T.All.lf T.All.lf) (T.All.nd ok238 T.All.lf T.All.lf))) (T.All.no (T.All.nd ok94 (T.All.no (T.All.nd ok286 T.All.lf T.All.lf) T.All.lf) T.All.lf) (T.All.nd ok126 T.All.lf (T.All.nd ok254 T.All.lf T.All.lf))))))))
theorem law {W : World} (hG : GOk G (oldMem W)) : Calls P 6 #[] W fun e W' => e = .returned (.bool true) ∧ RowKit.Below W.heap.size W W' := call_true (table_ok mixed all) f1148 hG
end Tm.L6
