/- Each function of the table is the program's function, translated; the five of Go's library and the range over a function by their own proofs. The law's call. No statement of the seat is proved here. -/
import Derived.Test.YtmciehdmmnkdhaaGreatDoorFx5
import Derived.Test.YtmciehdmmnkdhaaGreatDoorTmJ
import Derived.Test.YtmciehdmmnkdhaaGreatDoorGlobT
import Derived.Test.YtmciehdmmnkdhaaGreatDoorShelfIP
import Derived.Test.YtmciehdmmnkdhaaGreatDoorCx5
set_option linter.unusedVariables false
set_option linter.constructorNameAsVariable false
namespace Tm.L5
open Go Tm
set_option maxRecDepth 100000
noncomputable abbrev P : Program := Go.Proofs.Tryz.prog
def G : Nat → Option AV := fun g => match g with
  | 3 | 4 => some (.pe [.d (.sl [.s ⟨#[65, 110, 121]⟩, .s ⟨#[78, 101, 118, 101, 114]⟩, .s ⟨#[116, 117, 112, 108, 101]⟩, .s ⟨#[117, 110, 105, 111, 110]⟩, .s ⟨#[101, 120, 105, 115, 116, 115]⟩])] 0)
  | _ => none
theorem glob : ∀ g av, G g = some av → (g = 3 ∨ g = 4) ∧ av = .pe [.d (.sl (resW.map fun l => .s ⟨l.toArray⟩))] 0 := fun g av h => by
  unfold G at h
  split at h
  · exact ⟨.inl rfl, (Option.some.inj h).symm.trans rfl⟩
  · exact ⟨.inr rfl, (Option.some.inj h).symm.trans rfl⟩
  · cases h
abbrev pu : Nat → Bool := puOf tbl
theorem mixed : P.follows .mixedOrders = true := by kernel_rfl
theorem ok5 : FnGood P G pu F 5 cf5 := good_of Go.Proofs.Tryz.func5 (by kernel_rfl) (show compF P G pu Go.Proofs.Tryz.f5 true false false false = some cf5 by kernel_rfl)
theorem ok9 : FnGood P G pu F 9 cf9 := good_of Go.Proofs.Tryz.func9 (by kernel_rfl) (show compF P G pu Go.Proofs.Tryz.f9 true false false false = some cf9 by kernel_rfl)
theorem ok10 : FnGood P G pu F 10 cf10 := good_of Go.Proofs.Tryz.func10 (by kernel_rfl) (show compF P G pu Go.Proofs.Tryz.f10 true false false false = some cf10 by kernel_rfl)
theorem ok12 : FnGood P G pu F 12 cf12 := good_of Go.Proofs.Tryz.func12 (by kernel_rfl) (show compF P G pu Go.Proofs.Tryz.f12 true false false false = some cf12 by kernel_rfl)
theorem ok16 : FnGood P G pu F 16 cf16 := good_of Go.Proofs.Tryz.func16 (by kernel_rfl) (show compF P G pu Go.Proofs.Tryz.f16 true false false false = some cf16 by kernel_rfl)
theorem ok17 : FnGood P G pu F 17 cf17 := good_of Go.Proofs.Tryz.func17 (by kernel_rfl) (show compF P G pu Go.Proofs.Tryz.f17 true false false false = some cf17 by kernel_rfl)
theorem ok27 : FnGood P G pu F 27 cf27 := good_of Go.Proofs.Tryz.func27 (by kernel_rfl) (show compF P G pu Go.Proofs.Tryz.f27 false false false false = some cf27 by kernel_rfl)
theorem ok28 : FnGood P G pu F 28 cf28 := good_of Go.Proofs.Tryz.func28 (by kernel_rfl) (show compF P G pu Go.Proofs.Tryz.f28 false false false false = some cf28 by kernel_rfl)
theorem ok31 : FnGood P G pu F 31 cf31 := good_of Go.Proofs.Tryz.func31 (by kernel_rfl) (show compF P G pu Go.Proofs.Tryz.f31 false false false false = some cf31 by kernel_rfl)
theorem ok32 : FnGood P G pu F 32 cf32 := good_of Go.Proofs.Tryz.func32 (by kernel_rfl) (show compF P G pu Go.Proofs.Tryz.f32 false false false false = some cf32 by kernel_rfl)
theorem ok33 : FnGood P G pu F 33 cf33 := good_of Go.Proofs.Tryz.func33 (by kernel_rfl) (show compF P G pu Go.Proofs.Tryz.f33 true false false false = some cf33 by kernel_rfl)
theorem ok34 : FnGood P G pu F 34 cf34 := good_of Go.Proofs.Tryz.func34 (by kernel_rfl) (show compF P G pu Go.Proofs.Tryz.f34 true false false false = some cf34 by kernel_rfl)
theorem ok35 : FnGood P G pu F 35 cf35 := good_of Go.Proofs.Tryz.func35 (by kernel_rfl) (show compF P G pu Go.Proofs.Tryz.f35 true false false false = some cf35 by kernel_rfl)
theorem ok36 : FnGood P G pu F 36 cf36 := good_of Go.Proofs.Tryz.func36 (by kernel_rfl) (show compF P G pu Go.Proofs.Tryz.f36 true false false false = some cf36 by kernel_rfl)
theorem ok41 : FnGood P G pu F 41 cf41 := good_of Go.Proofs.Tryz.func41 (by kernel_rfl) (show compF P G pu Go.Proofs.Tryz.f41 true false false false = some cf41 by kernel_rfl)
theorem ok42 : FnGood P G pu F 42 cf42 := good_of Go.Proofs.Tryz.func42 (by kernel_rfl) (show compF P G pu Go.Proofs.Tryz.f42 true false false false = some cf42 by kernel_rfl)
theorem ok43 : FnGood P G pu F 43 cf43 := good_of Go.Proofs.Tryz.func43 (by kernel_rfl) (show compF P G pu Go.Proofs.Tryz.f43 false false false false = some cf43 by kernel_rfl)
theorem ok53 : FnGood P G pu F 53 cf53 := good_of Go.Proofs.Tryz.func53 (by kernel_rfl) (show compF P G pu Go.Proofs.Tryz.f53 true false false false = some cf53 by kernel_rfl)
theorem ok54 : FnGood P G pu F 54 cf54 := good_of Go.Proofs.Tryz.func54 (by kernel_rfl) (show compF P G pu Go.Proofs.Tryz.f54 true false false false = some cf54 by kernel_rfl)
theorem ok61 : FnGood P G pu F 61 cf61 := good_of Go.Proofs.Tryz.func61 (by kernel_rfl) (show compF P G pu Go.Proofs.Tryz.f61 false false false false = some cf61 by kernel_rfl)
theorem ok62 : FnGood P G pu F 62 (cNo false) := good_no Go.Proofs.Tryz.func62 (by kernel_rfl) (by kernel_rfl)
theorem ok63 : FnGood P G pu F 63 cf63 := good_of Go.Proofs.Tryz.func63 (by kernel_rfl) (show compF P G pu Go.Proofs.Tryz.f63 true false false false = some cf63 by kernel_rfl)
theorem ok66 : FnGood P G pu F 66 cf66 := good_of Go.Proofs.Tryz.func66 (by kernel_rfl) (show compF P G pu Go.Proofs.Tryz.f66 false false false false = some cf66 by kernel_rfl)
theorem ok67 : FnGood P G pu F 67 cf67 := good_of Go.Proofs.Tryz.func67 (by kernel_rfl) (show compF P G pu Go.Proofs.Tryz.f67 false false false false = some cf67 by kernel_rfl)
theorem ok68 : FnGood P G pu F 68 cf68 := good_of Go.Proofs.Tryz.func68 (by kernel_rfl) (show compF P G pu Go.Proofs.Tryz.f68 false false false false = some cf68 by kernel_rfl)
theorem ok69 : FnGood P G pu F 69 cf69 := good_of Go.Proofs.Tryz.func69 (by kernel_rfl) (show compF P G pu Go.Proofs.Tryz.f69 false false false false = some cf69 by kernel_rfl)
theorem ok70 : FnGood P G pu F 70 cf70 := good_of Go.Proofs.Tryz.func70 (by kernel_rfl) (show compF P G pu Go.Proofs.Tryz.f70 true false false false = some cf70 by kernel_rfl)
theorem ok71 : FnGood P G pu F 71 cf71 := good_of Go.Proofs.Tryz.func71 (by kernel_rfl) (show compF P G pu Go.Proofs.Tryz.f71 true false false false = some cf71 by kernel_rfl)
theorem ok72 : FnGood P G pu F 72 cf72 := good_of Go.Proofs.Tryz.func72 (by kernel_rfl) (show compF P G pu Go.Proofs.Tryz.f72 true false false true = some cf72 by kernel_rfl)
theorem ok73 : FnGood P G pu F 73 cf73 := good_of Go.Proofs.Tryz.func73 (by kernel_rfl) (show compF P G pu Go.Proofs.Tryz.f73 true false false false = some cf73 by kernel_rfl)
theorem ok74 : FnGood P G pu F 74 cf74 := good_of Go.Proofs.Tryz.func74 (by kernel_rfl) (show compF P G pu Go.Proofs.Tryz.f74 true false false false = some cf74 by kernel_rfl)
theorem ok75 : FnGood P G pu F 75 cf75 := good_of Go.Proofs.Tryz.func75 (by kernel_rfl) (show compF P G pu Go.Proofs.Tryz.f75 true false false true = some cf75 by kernel_rfl)
theorem ok76 : FnGood P G pu F 76 cf76 := good_of Go.Proofs.Tryz.func76 (by kernel_rfl) (show compF P G pu Go.Proofs.Tryz.f76 true false false false = some cf76 by kernel_rfl)
theorem ok77 : FnGood P G pu F 77 cf77 := good_of Go.Proofs.Tryz.func77 (by kernel_rfl) (show compF P G pu Go.Proofs.Tryz.f77 true false false false = some cf77 by kernel_rfl)
theorem ok78 : FnGood P G pu F 78 cf78 := good_of Go.Proofs.Tryz.func78 (by kernel_rfl) (show compF P G pu Go.Proofs.Tryz.f78 true false false false = some cf78 by kernel_rfl)
theorem ok79 : FnGood P G pu F 79 cf79 := good_of Go.Proofs.Tryz.func79 (by kernel_rfl) (show compF P G pu Go.Proofs.Tryz.f79 true false false false = some cf79 by kernel_rfl)
theorem ok80 : FnGood P G pu F 80 cf80 := good_of Go.Proofs.Tryz.func80 (by kernel_rfl) (show compF P G pu Go.Proofs.Tryz.f80 true false false false = some cf80 by kernel_rfl)
theorem ok82 : FnGood P G pu F 82 cf82 := good_of Go.Proofs.Tryz.func82 (by kernel_rfl) (show compF P G pu Go.Proofs.Tryz.f82 false false false false = some cf82 by kernel_rfl)
theorem ok83 : FnGood P G pu F 83 cf83 := good_of Go.Proofs.Tryz.func83 (by kernel_rfl) (show compF P G pu Go.Proofs.Tryz.f83 false false false false = some cf83 by kernel_rfl)
theorem ok84 : FnGood P G pu F 84 cf84 := good_of Go.Proofs.Tryz.func84 (by kernel_rfl) (show compF P G pu Go.Proofs.Tryz.f84 true false false false = some cf84 by kernel_rfl)
theorem ok85 : FnGood P G pu F 85 cf85 := good_of Go.Proofs.Tryz.func85 (by kernel_rfl) (show compF P G pu Go.Proofs.Tryz.f85 false false false false = some cf85 by kernel_rfl)
theorem ok86 : FnGood P G pu F 86 (cNo false) := good_no Go.Proofs.Tryz.func86 (by kernel_rfl) (by kernel_rfl)
theorem ok91 : FnGood P G pu F 91 cf91 := good_of Go.Proofs.Tryz.func91 (by kernel_rfl) (show compF P G pu Go.Proofs.Tryz.f91 true false false false = some cf91 by kernel_rfl)
theorem ok94 : FnGood P G pu F 94 cf94 := good_of Go.Proofs.Tryz.func94 (by kernel_rfl) (show compF P G pu Go.Proofs.Tryz.f94 true false false false = some cf94 by kernel_rfl)
theorem ok95 : FnGood P G pu F 95 cf95 := good_of Go.Proofs.Tryz.func95 (by kernel_rfl) (show compF P G pu Go.Proofs.Tryz.f95 true false false false = some cf95 by kernel_rfl)
theorem ok96 : FnGood P G pu F 96 cf96 := good_of Go.Proofs.Tryz.func96 (by kernel_rfl) (show compF P G pu Go.Proofs.Tryz.f96 true false false false = some cf96 by kernel_rfl)
theorem ok97 : FnGood P G pu F 97 cf97 := good_of Go.Proofs.Tryz.func97 (by kernel_rfl) (show compF P G pu Go.Proofs.Tryz.f97 true false false false = some cf97 by kernel_rfl)
theorem ok109 : FnGood P G pu F 109 cf109 := good_of Go.Proofs.Tryz.func109 (by kernel_rfl) (show compF P G pu Go.Proofs.Tryz.f109 true false false false = some cf109 by kernel_rfl)
theorem ok110 : FnGood P G pu F 110 cf110 := good_of Go.Proofs.Tryz.func110 (by kernel_rfl) (show compF P G pu Go.Proofs.Tryz.f110 true false false false = some cf110 by kernel_rfl)
theorem ok111 : FnGood P G pu F 111 cf111 := good_of Go.Proofs.Tryz.func111 (by kernel_rfl) (show compF P G pu Go.Proofs.Tryz.f111 true false false false = some cf111 by kernel_rfl)
theorem ok112 : FnGood P G pu F 112 cf112 := good_of Go.Proofs.Tryz.func112 (by kernel_rfl) (show compF P G pu Go.Proofs.Tryz.f112 false false false false = some cf112 by kernel_rfl)
theorem ok113 : FnGood P G pu F 113 cf113 := good_of Go.Proofs.Tryz.func113 (by kernel_rfl) (show compF P G pu Go.Proofs.Tryz.f113 true false false false = some cf113 by kernel_rfl)
theorem ok114 : FnGood P G pu F 114 cf114 := good_of Go.Proofs.Tryz.func114 (by kernel_rfl) (show compF P G pu Go.Proofs.Tryz.f114 true false false false = some cf114 by kernel_rfl)
theorem ok115 : FnGood P G pu F 115 (cNo true) := good_no Go.Proofs.Tryz.func115 (by kernel_rfl) (by kernel_rfl)
theorem ok116 : FnGood P G pu F 116 cf116 := good_of Go.Proofs.Tryz.func116 (by kernel_rfl) (show compF P G pu Go.Proofs.Tryz.f116 true false false false = some cf116 by kernel_rfl)
theorem ok117 : FnGood P G pu F 117 cf117 := good_of Go.Proofs.Tryz.func117 (by kernel_rfl) (show compF P G pu Go.Proofs.Tryz.f117 true false false false = some cf117 by kernel_rfl)
theorem ok118 : FnGood P G pu F 118 cf118 := good_of Go.Proofs.Tryz.func118 (by kernel_rfl) (show compF P G pu Go.Proofs.Tryz.f118 false false false false = some cf118 by kernel_rfl)
theorem ok119 : FnGood P G pu F 119 cf119 := good_of Go.Proofs.Tryz.func119 (by kernel_rfl) (show compF P G pu Go.Proofs.Tryz.f119 true false false false = some cf119 by kernel_rfl)
theorem ok120 : FnGood P G pu F 120 (cNo false) := good_no Go.Proofs.Tryz.func120 (by kernel_rfl) (by kernel_rfl)
theorem ok121 : FnGood P G pu F 121 cf121 := good_of Go.Proofs.Tryz.func121 (by kernel_rfl) (show compF P G pu Go.Proofs.Tryz.f121 true false false false = some cf121 by kernel_rfl)
theorem ok122 : FnGood P G pu F 122 cf122 := good_of Go.Proofs.Tryz.func122 (by kernel_rfl) (show compF P G pu Go.Proofs.Tryz.f122 true false false false = some cf122 by kernel_rfl)
theorem ok123 : FnGood P G pu F 123 cf123 := good_of Go.Proofs.Tryz.func123 (by kernel_rfl) (show compF P G pu Go.Proofs.Tryz.f123 true false false false = some cf123 by kernel_rfl)
theorem ok124 : FnGood P G pu F 124 cf124 := good_of Go.Proofs.Tryz.func124 (by kernel_rfl) (show compF P G pu Go.Proofs.Tryz.f124 true false false false = some cf124 by kernel_rfl)
theorem ok125 : FnGood P G pu F 125 cf125 := good_of Go.Proofs.Tryz.func125 (by kernel_rfl) (show compF P G pu Go.Proofs.Tryz.f125 true false false false = some cf125 by kernel_rfl)
theorem ok126 : FnGood P G pu F 126 cf126 := good_of Go.Proofs.Tryz.func126 (by kernel_rfl) (show compF P G pu Go.Proofs.Tryz.f126 false false true false = some cf126 by kernel_rfl)
theorem ok127 : FnGood P G pu F 127 cf127 := good_of Go.Proofs.Tryz.func127 (by kernel_rfl) (show compF P G pu Go.Proofs.Tryz.f127 true false false false = some cf127 by kernel_rfl)
theorem ok128 : FnGood P G pu F 128 cf128 := good_of Go.Proofs.Tryz.func128 (by kernel_rfl) (show compF P G pu Go.Proofs.Tryz.f128 true false false false = some cf128 by kernel_rfl)
theorem ok129 : FnGood P G pu F 129 cf129 := good_of Go.Proofs.Tryz.func129 (by kernel_rfl) (show compF P G pu Go.Proofs.Tryz.f129 true false false false = some cf129 by kernel_rfl)
theorem ok130 : FnGood P G pu F 130 cf130 := good_of Go.Proofs.Tryz.func130 (by kernel_rfl) (show compF P G pu Go.Proofs.Tryz.f130 true false false false = some cf130 by kernel_rfl)
theorem ok131 : FnGood P G pu F 131 cf131 := good_of Go.Proofs.Tryz.func131 (by kernel_rfl) (show compF P G pu Go.Proofs.Tryz.f131 true false false false = some cf131 by kernel_rfl)
theorem ok132 : FnGood P G pu F 132 cf132 := good_of Go.Proofs.Tryz.func132 (by kernel_rfl) (show compF P G pu Go.Proofs.Tryz.f132 true false false false = some cf132 by kernel_rfl)
theorem ok133 : FnGood P G pu F 133 cf133 := good_of Go.Proofs.Tryz.func133 (by kernel_rfl) (show compF P G pu Go.Proofs.Tryz.f133 true false false false = some cf133 by kernel_rfl)
theorem ok134 : FnGood P G pu F 134 cf134 := good_of Go.Proofs.Tryz.func134 (by kernel_rfl) (show compF P G pu Go.Proofs.Tryz.f134 true false false false = some cf134 by kernel_rfl)
theorem ok135 : FnGood P G pu F 135 cf135 := good_of Go.Proofs.Tryz.func135 (by kernel_rfl) (show compF P G pu Go.Proofs.Tryz.f135 false false false false = some cf135 by kernel_rfl)
theorem ok136 : FnGood P G pu F 136 cf136 := good_of Go.Proofs.Tryz.func136 (by kernel_rfl) (show compF P G pu Go.Proofs.Tryz.f136 false false false false = some cf136 by kernel_rfl)
theorem ok144 : FnGood P G pu F 144 cf144 := good_of Go.Proofs.Tryz.func144 (by kernel_rfl) (show compF P G pu Go.Proofs.Tryz.f144 true false false false = some cf144 by kernel_rfl)
theorem ok145 : FnGood P G pu F 145 cf145 := good_of Go.Proofs.Tryz.func145 (by kernel_rfl) (show compF P G pu Go.Proofs.Tryz.f145 true false false false = some cf145 by kernel_rfl)
theorem ok146 : FnGood P G pu F 146 cf146 := good_of Go.Proofs.Tryz.func146 (by kernel_rfl) (show compF P G pu Go.Proofs.Tryz.f146 true false false false = some cf146 by kernel_rfl)
theorem ok147 : FnGood P G pu F 147 cf147 := good_of Go.Proofs.Tryz.func147 (by kernel_rfl) (show compF P G pu Go.Proofs.Tryz.f147 true false false false = some cf147 by kernel_rfl)
theorem ok160 : FnGood P G pu F 160 cf160 := good_of Go.Proofs.Tryz.func160 (by kernel_rfl) (show compF P G pu Go.Proofs.Tryz.f160 true false false false = some cf160 by kernel_rfl)
theorem ok161 : FnGood P G pu F 161 cf161 := good_of Go.Proofs.Tryz.func161 (by kernel_rfl) (show compF P G pu Go.Proofs.Tryz.f161 true false false false = some cf161 by kernel_rfl)
theorem ok162 : FnGood P G pu F 162 cf162 := good_of Go.Proofs.Tryz.func162 (by kernel_rfl) (show compF P G pu Go.Proofs.Tryz.f162 true false false false = some cf162 by kernel_rfl)
theorem ok163 : FnGood P G pu F 163 cf163 := good_of Go.Proofs.Tryz.func163 (by kernel_rfl) (show compF P G pu Go.Proofs.Tryz.f163 true false false false = some cf163 by kernel_rfl)
theorem ok164 : FnGood P G pu F 164 cf164 := good_of Go.Proofs.Tryz.func164 (by kernel_rfl) (show compF P G pu Go.Proofs.Tryz.f164 true false false false = some cf164 by kernel_rfl)
theorem ok167 : FnGood P G pu F 167 cf167 := good_of Go.Proofs.Tryz.func167 (by kernel_rfl) (show compF P G pu Go.Proofs.Tryz.f167 true false false false = some cf167 by kernel_rfl)
theorem ok168 : FnGood P G pu F 168 cf168 := good_of Go.Proofs.Tryz.func168 (by kernel_rfl) (show compF P G pu Go.Proofs.Tryz.f168 true false false false = some cf168 by kernel_rfl)
theorem ok169 : FnGood P G pu F 169 cf169 := good_of Go.Proofs.Tryz.func169 (by kernel_rfl) (show compF P G pu Go.Proofs.Tryz.f169 true false false false = some cf169 by kernel_rfl)
theorem ok170 : FnGood P G pu F 170 cf170 := good_of Go.Proofs.Tryz.func170 (by kernel_rfl) (show compF P G pu Go.Proofs.Tryz.f170 false false false false = some cf170 by kernel_rfl)
theorem ok171 : FnGood P G pu F 171 cf171 := good_of Go.Proofs.Tryz.func171 (by kernel_rfl) (show compF P G pu Go.Proofs.Tryz.f171 true false false false = some cf171 by kernel_rfl)
theorem ok172 : FnGood P G pu F 172 cf172 := good_of Go.Proofs.Tryz.func172 (by kernel_rfl) (show compF P G pu Go.Proofs.Tryz.f172 false false false false = some cf172 by kernel_rfl)
theorem ok173 : FnGood P G pu F 173 cf173 := good_of Go.Proofs.Tryz.func173 (by kernel_rfl) (show compF P G pu Go.Proofs.Tryz.f173 true false false false = some cf173 by kernel_rfl)
theorem ok174 : FnGood P G pu F 174 cf174 := good_of Go.Proofs.Tryz.func174 (by kernel_rfl) (show compF P G pu Go.Proofs.Tryz.f174 true false false false = some cf174 by kernel_rfl)
theorem ok175 : FnGood P G pu F 175 cf175 := good_of Go.Proofs.Tryz.func175 (by kernel_rfl) (show compF P G pu Go.Proofs.Tryz.f175 false false false false = some cf175 by kernel_rfl)
theorem ok176 : FnGood P G pu F 176 (cNo false) := good_no Go.Proofs.Tryz.func176 (by kernel_rfl) (by kernel_rfl)
theorem ok177 : FnGood P G pu F 177 (cNo true) := good_no Go.Proofs.Tryz.func177 (by kernel_rfl) (by kernel_rfl)
theorem ok178 : FnGood P G pu F 178 (cNo true) := good_no Go.Proofs.Tryz.func178 (by kernel_rfl) (by kernel_rfl)
theorem ok179 : FnGood P G pu F 179 (cNo false) := good_no Go.Proofs.Tryz.func179 (by kernel_rfl) (by kernel_rfl)
theorem ok180 : FnGood P G pu F 180 cf180 := good_of Go.Proofs.Tryz.func180 (by kernel_rfl) (show compF P G pu Go.Proofs.Tryz.f180 false false false false = some cf180 by kernel_rfl)
theorem ok181 : FnGood P G pu F 181 cf181 := good_of Go.Proofs.Tryz.func181 (by kernel_rfl) (show compF P G pu Go.Proofs.Tryz.f181 true false false false = some cf181 by kernel_rfl)
theorem ok182 : FnGood P G pu F 182 (cNo true) := good_no Go.Proofs.Tryz.func182 (by kernel_rfl) (by kernel_rfl)
theorem ok183 : FnGood P G pu F 183 cf183 := good_of Go.Proofs.Tryz.func183 (by kernel_rfl) (show compF P G pu Go.Proofs.Tryz.f183 true false false false = some cf183 by kernel_rfl)
theorem ok184 : FnGood P G pu F 184 cf184 := good_of Go.Proofs.Tryz.func184 (by kernel_rfl) (show compF P G pu Go.Proofs.Tryz.f184 true false false false = some cf184 by kernel_rfl)
theorem ok186 : FnGood P G pu F 186 cf186 := good_of Go.Proofs.Tryz.func186 (by kernel_rfl) (show compF P G pu Go.Proofs.Tryz.f186 true false false false = some cf186 by kernel_rfl)
theorem ok187 : FnGood P G pu F 187 cf187 := good_of Go.Proofs.Tryz.func187 (by kernel_rfl) (show compF P G pu Go.Proofs.Tryz.f187 true false false false = some cf187 by kernel_rfl)
theorem ok188 : FnGood P G pu F 188 (cNo true) := good_no Go.Proofs.Tryz.func188 (by kernel_rfl) (by kernel_rfl)
theorem ok190 : FnGood P G pu F 190 cf190 := good_of Go.Proofs.Tryz.func190 (by kernel_rfl) (show compF P G pu Go.Proofs.Tryz.f190 true false false false = some cf190 by kernel_rfl)
theorem ok191 : FnGood P G pu F 191 cf191 := good_of Go.Proofs.Tryz.func191 (by kernel_rfl) (show compF P G pu Go.Proofs.Tryz.f191 true false false false = some cf191 by kernel_rfl)
theorem ok192 : FnGood P G pu F 192 cf192 := good_of Go.Proofs.Tryz.func192 (by kernel_rfl) (show compF P G pu Go.Proofs.Tryz.f192 true false false false = some cf192 by kernel_rfl)
theorem ok193 : FnGood P G pu F 193 cf193 := good_of Go.Proofs.Tryz.func193 (by kernel_rfl) (show compF P G pu Go.Proofs.Tryz.f193 true true false false = some cf193 by kernel_rfl)
theorem ok194 : FnGood P G pu F 194 cf194 := good_of Go.Proofs.Tryz.func194 (by kernel_rfl) (show compF P G pu Go.Proofs.Tryz.f194 false false false false = some cf194 by kernel_rfl)
theorem ok195 : FnGood P G pu F 195 cf195 := good_of Go.Proofs.Tryz.func195 (by kernel_rfl) (show compF P G pu Go.Proofs.Tryz.f195 false false false false = some cf195 by kernel_rfl)
theorem ok197 : FnGood P G pu F 197 cf197 := good_of Go.Proofs.Tryz.func197 (by kernel_rfl) (show compF P G pu Go.Proofs.Tryz.f197 true false false false = some cf197 by kernel_rfl)
theorem ok199 : FnGood P G pu F 199 (cNo true) := good_no Go.Proofs.Tryz.func199 (by kernel_rfl) (by kernel_rfl)
theorem ok200 : FnGood P G pu F 200 cf200 := good_of Go.Proofs.Tryz.func200 (by kernel_rfl) (show compF P G pu Go.Proofs.Tryz.f200 false false false false = some cf200 by kernel_rfl)
theorem ok201 : FnGood P G pu F 201 (cNo true) := good_no Go.Proofs.Tryz.func201 (by kernel_rfl) (by kernel_rfl)
theorem ok202 : FnGood P G pu F 202 cf202 := good_of Go.Proofs.Tryz.func202 (by kernel_rfl) (show compF P G pu Go.Proofs.Tryz.f202 true false false false = some cf202 by kernel_rfl)
theorem ok203 : FnGood P G pu F 203 cf203 := good_of Go.Proofs.Tryz.func203 (by kernel_rfl) (show compF P G pu Go.Proofs.Tryz.f203 true false false false = some cf203 by kernel_rfl)
theorem ok204 : FnGood P G pu F 204 cf204 := good_of Go.Proofs.Tryz.func204 (by kernel_rfl) (show compF P G pu Go.Proofs.Tryz.f204 true false false false = some cf204 by kernel_rfl)
theorem ok205 : FnGood P G pu F 205 cf205 := good_of Go.Proofs.Tryz.func205 (by kernel_rfl) (show compF P G pu Go.Proofs.Tryz.f205 true false false false = some cf205 by kernel_rfl)
theorem ok216 : FnGood P G pu F 216 cf216 := good_of Go.Proofs.Tryz.func216 (by kernel_rfl) (show compF P G pu Go.Proofs.Tryz.f216 true false false false = some cf216 by kernel_rfl)
theorem ok217 : FnGood P G pu F 217 cf217 := good_of Go.Proofs.Tryz.func217 (by kernel_rfl) (show compF P G pu Go.Proofs.Tryz.f217 true false false false = some cf217 by kernel_rfl)
theorem ok218 : FnGood P G pu F 218 cf218 := good_of Go.Proofs.Tryz.func218 (by kernel_rfl) (show compF P G pu Go.Proofs.Tryz.f218 true false false false = some cf218 by kernel_rfl)
theorem ok219 : FnGood P G pu F 219 cf219 := good_of Go.Proofs.Tryz.func219 (by kernel_rfl) (show compF P G pu Go.Proofs.Tryz.f219 true false false false = some cf219 by kernel_rfl)
theorem ok220 : FnGood P G pu F 220 cf220 := good_of Go.Proofs.Tryz.func220 (by kernel_rfl) (show compF P G pu Go.Proofs.Tryz.f220 true false false false = some cf220 by kernel_rfl)
theorem ok221 : FnGood P G pu F 221 cf221 := good_of Go.Proofs.Tryz.func221 (by kernel_rfl) (show compF P G pu Go.Proofs.Tryz.f221 true false false false = some cf221 by kernel_rfl)
theorem ok222 : FnGood P G pu F 222 cf222 := good_of Go.Proofs.Tryz.func222 (by kernel_rfl) (show compF P G pu Go.Proofs.Tryz.f222 true false false false = some cf222 by kernel_rfl)
theorem ok223 : FnGood P G pu F 223 cf223 := good_of Go.Proofs.Tryz.func223 (by kernel_rfl) (show compF P G pu Go.Proofs.Tryz.f223 true false false false = some cf223 by kernel_rfl)
theorem ok224 : FnGood P G pu F 224 cf224 := good_of Go.Proofs.Tryz.func224 (by kernel_rfl) (show compF P G pu Go.Proofs.Tryz.f224 false false false false = some cf224 by kernel_rfl)
theorem ok225 : FnGood P G pu F 225 cf225 := good_of Go.Proofs.Tryz.func225 (by kernel_rfl) (show compF P G pu Go.Proofs.Tryz.f225 true false false false = some cf225 by kernel_rfl)
theorem ok226 : FnGood P G pu F 226 cf226 := good_of Go.Proofs.Tryz.func226 (by kernel_rfl) (show compF P G pu Go.Proofs.Tryz.f226 true false false false = some cf226 by kernel_rfl)
theorem ok227 : FnGood P G pu F 227 cf227 := good_of Go.Proofs.Tryz.func227 (by kernel_rfl) (show compF P G pu Go.Proofs.Tryz.f227 true false false false = some cf227 by kernel_rfl)
theorem ok228 : FnGood P G pu F 228 cf228 := good_of Go.Proofs.Tryz.func228 (by kernel_rfl) (show compF P G pu Go.Proofs.Tryz.f228 false false false false = some cf228 by kernel_rfl)
theorem ok230 : FnGood P G pu F 230 cf230 := good_of Go.Proofs.Tryz.func230 (by kernel_rfl) (show compF P G pu Go.Proofs.Tryz.f230 false false false false = some cf230 by kernel_rfl)
theorem ok231 : FnGood P G pu F 231 cf231 := good_of Go.Proofs.Tryz.func231 (by kernel_rfl) (show compF P G pu Go.Proofs.Tryz.f231 true false false false = some cf231 by kernel_rfl)
theorem ok233 : FnGood P G pu F 233 cf233 := good_of Go.Proofs.Tryz.func233 (by kernel_rfl) (show compF P G pu Go.Proofs.Tryz.f233 false false false false = some cf233 by kernel_rfl)
theorem ok238 : FnGood P G pu F 238 (cNo true) := good_no Go.Proofs.Tryz.func238 (by kernel_rfl) (by kernel_rfl)
theorem ok239 : FnGood P G pu F 239 cf239 := good_of Go.Proofs.Tryz.func239 (by kernel_rfl) (show compF P G pu Go.Proofs.Tryz.f239 false false false false = some cf239 by kernel_rfl)
theorem ok240 : FnGood P G pu F 240 cf240 := good_of Go.Proofs.Tryz.func240 (by kernel_rfl) (show compF P G pu Go.Proofs.Tryz.f240 false false false false = some cf240 by kernel_rfl)
theorem ok241 : FnGood P G pu F 241 cf241 := good_of Go.Proofs.Tryz.func241 (by kernel_rfl) (show compF P G pu Go.Proofs.Tryz.f241 true false false false = some cf241 by kernel_rfl)
theorem ok242 : FnGood P G pu F 242 (cNo true) := good_no Go.Proofs.Tryz.func242 (by kernel_rfl) (by kernel_rfl)
theorem ok243 : FnGood P G pu F 243 cf243 := good_of Go.Proofs.Tryz.func243 (by kernel_rfl) (show compF P G pu Go.Proofs.Tryz.f243 false false false false = some cf243 by kernel_rfl)
theorem ok244 : FnGood P G pu F 244 (cNo false) := good_no Go.Proofs.Tryz.func244 (by kernel_rfl) (by kernel_rfl)
theorem ok249 : FnGood P G pu F 249 cf249 := good_of Go.Proofs.Tryz.func249 (by kernel_rfl) (show compF P G pu Go.Proofs.Tryz.f249 false false false false = some cf249 by kernel_rfl)
theorem ok251 : FnGood P G pu F 251 cf251 := good_of Go.Proofs.Tryz.func251 (by kernel_rfl) (show compF P G pu Go.Proofs.Tryz.f251 false false false false = some cf251 by kernel_rfl)
theorem ok252 : FnGood P G pu F 252 cf252 := good_of Go.Proofs.Tryz.func252 (by kernel_rfl) (show compF P G pu Go.Proofs.Tryz.f252 true false false false = some cf252 by kernel_rfl)
theorem ok253 : FnGood P G pu F 253 cf253 := good_of Go.Proofs.Tryz.func253 (by kernel_rfl) (show compF P G pu Go.Proofs.Tryz.f253 true false false false = some cf253 by kernel_rfl)
theorem ok254 : FnGood P G pu F 254 cf254 := good_of Go.Proofs.Tryz.func254 (by kernel_rfl) (show compF P G pu Go.Proofs.Tryz.f254 true false false false = some cf254 by kernel_rfl)
theorem ok255 : FnGood P G pu F 255 cf255 := good_of Go.Proofs.Tryz.func255 (by kernel_rfl) (show compF P G pu Go.Proofs.Tryz.f255 true false false false = some cf255 by kernel_rfl)
theorem ok260 : FnGood P G pu F 260 (cNo true) := good_no Go.Proofs.Tryz.func260 (by kernel_rfl) (by kernel_rfl)
theorem ok264 : FnGood P G pu F 264 cf264 := good_of Go.Proofs.Tryz.func264 (by kernel_rfl) (show compF P G pu Go.Proofs.Tryz.f264 true false false false = some cf264 by kernel_rfl)
theorem ok265 : FnGood P G pu F 265 (cNo true) := good_no Go.Proofs.Tryz.func265 (by kernel_rfl) (by kernel_rfl)
theorem ok266 : FnGood P G pu F 266 cf266 := good_of Go.Proofs.Tryz.func266 (by kernel_rfl) (show compF P G pu Go.Proofs.Tryz.f266 false false false false = some cf266 by kernel_rfl)
theorem ok267 : FnGood P G pu F 267 cf267 := good_of Go.Proofs.Tryz.func267 (by kernel_rfl) (show compF P G pu Go.Proofs.Tryz.f267 false false false false = some cf267 by kernel_rfl)
theorem ok268 : FnGood P G pu F 268 cf268 := good_of Go.Proofs.Tryz.func268 (by kernel_rfl) (show compF P G pu Go.Proofs.Tryz.f268 true false false false = some cf268 by kernel_rfl)
theorem ok272 : FnGood P G pu F 272 (cNo false) := good_no Go.Proofs.Tryz.func272 (by kernel_rfl) (by kernel_rfl)
theorem ok278 : FnGood P G pu F 278 (cNo true) := good_no Go.Proofs.Tryz.func278 (by kernel_rfl) (by kernel_rfl)
theorem ok280 : FnGood P G pu F 280 cf280 := good_of Go.Proofs.Tryz.func280 (by kernel_rfl) (show compF P G pu Go.Proofs.Tryz.f280 true false false false = some cf280 by kernel_rfl)
theorem ok289 : FnGood P G pu F 289 cf289 := good_of Go.Proofs.Tryz.func289 (by kernel_rfl) (show compF P G pu Go.Proofs.Tryz.f289 false false false false = some cf289 by kernel_rfl)
theorem ok290 : FnGood P G pu F 290 (cNo false) := good_no Go.Proofs.Tryz.func290 (by kernel_rfl) (by kernel_rfl)
theorem ok291 : FnGood P G pu F 291 cf291 := good_of Go.Proofs.Tryz.func291 (by kernel_rfl) (show compF P G pu Go.Proofs.Tryz.f291 true false false false = some cf291 by kernel_rfl)
theorem ok292 : FnGood P G pu F 292 cf292 := good_of Go.Proofs.Tryz.func292 (by kernel_rfl) (show compF P G pu Go.Proofs.Tryz.f292 true false false false = some cf292 by kernel_rfl)
theorem ok295 : FnGood P G pu F 295 (cNo true) := good_no Go.Proofs.Tryz.func295 (by kernel_rfl) (by kernel_rfl)
theorem ok296 : FnGood P G pu F 296 (cNo true) := good_no Go.Proofs.Tryz.func296 (by kernel_rfl) (by kernel_rfl)
theorem ok269 : FnGood P G pu F 269 cf269 := .inr fun k _ _ => spec_ins Go.Proofs.Tryz.laysInsI
noncomputable def k250 : Code := bodyOf Go.Proofs.Tryz.f250
theorem ok250 : FnGood P G pu F 250 cf250 := .inr fun k _ _ => spec_clone (N := 0) (i0 := regI (sa k250)) (i1 := regI (sa (sa (sb k250)))) (i2 := regI (sa (condA (sb (sa (sb k250)))))) (o0 := opAt (regO (sa k250)) 0) (o1 := opAt (regO (sa (sa (sb k250)))) 0) (o2 := opAt (regO (sa (sa (sb k250)))) 1) (o3 := opAt (regO (sa (condA (sb (sa (sb k250)))))) 0) (Dc := sb (sb k250)) (t := cT (opAt (regO (sa (sa (sb k250)))) 1).op) (el := elT P (cT (opAt (regO (sa (sa (sb k250)))) 1).op)) (ty := cTy (opAt (regO (sa (sa (sb k250)))) 1).op) (zs := bsZ (comp P G (fun _ => false) Go.Proofs.Tryz.f250.ntmps (sb (sb k250)))) (frz := true) mixed Go.Proofs.Tryz.func250 (by kernel_rfl) (by kernel_rfl) (by kernel_rfl) (by decide) (by kernel_rfl) (by kernel_rfl) (by kernel_rfl) (by kernel_rfl) (by kernel_rfl) (by kernel_rfl) (by kernel_rfl) (by kernel_rfl) (by kernel_rfl) (by kernel_rfl) (by kernel_rfl) (by kernel_rfl) (by kernel_rfl) (by kernel_rfl) (by kernel_rfl)
noncomputable def kb : Code := bodyOf Go.Proofs.Tryz.f198
noncomputable def kx : Code := sb (sb (sb kb))
noncomputable def ky : Code := sa kx
noncomputable def kr : Code := blkC (sb ky)
noncomputable def r0 : Array Oper := regO (sa kb)
noncomputable def r1 : Array Oper := regO (sa (sb kb))
noncomputable def r2 : Array Oper := regO (sa (sb (sb kb)))
noncomputable def r3 : Array Oper := regO (sa ky)
noncomputable def o4 : Array Oper := regO (rfA kr)
noncomputable def o5 : Array Oper := regO (blkC (rfB kr))
noncomputable def r6 : Array Oper := regO (sa (sb kx))
def q0 : List (Nat × COper) := [(0, ⟨(.some 1), .none, (.box (.t 0)), [], .none⟩), (1, ⟨(.some 2), .none, (.alloc zV), [], .none⟩)]
def q1 : List (Nat × COper) := [(0, ⟨(.some 7), .none, (.fld 0 (.t 1)), [], .none⟩), (1, ⟨(.some 8), .none, (.load .none (.t 7)), [], .none⟩), (2, ⟨(.some 9), .none, (.len false (.t 8)), [], .none⟩), (3, ⟨(.some 3), .none, (.alloc [(.d (.i .i64 (.ofNat 0)))]), [], .none⟩), (4, ⟨.none, .none, (.store 1 (.t 3) (.t 9)), [], .none⟩)]
def q2 : List (Nat × COper) := [(0, ⟨(.some 10), .none, (.fld 1 (.t 1)), [], .none⟩), (1, ⟨(.some 11), .none, (.load (.some 4) (.t 10)), [], .none⟩), (2, ⟨(.some 12), .none, (.mkf 256 [] [(.t 3)]), [], .none⟩), (3, ⟨(.some 13), .none, (.call 255 [(.t 11), (.c (.d (.b false))), (.t 12)]), [], .none⟩), (4, ⟨(.some 4), .none, (.alloc zV), [], .none⟩), (5, ⟨.none, .none, (.store 4 (.t 4) (.t 13)), [], .none⟩)]
theorem btc : BtC P G pu 198 257 293 183 25 r0 r1 r2 r3 o4 o5 r6 q0 q1 q2 where
  fn := ⟨Go.Proofs.Tryz.f198, regI (sa kb), regI (sa (sb kb)), regI (sa (sb (sb kb))), regI (sa ky), regI (rfA kr), regI (blkC (rfB kr)), regI (sa (sb kx)), Go.Proofs.Tryz.func198, by kernel_rfl, by kernel_rfl, by kernel_rfl, by kernel_rfl⟩
  hN := by decide
  p0 := by kernel_rfl
  p1 := by kernel_rfl
  p2 := by kernel_rfl
  p4 := by kernel_rfl
  p5 := by kernel_rfl
  p6 := by kernel_rfl
  z3 := by kernel_rfl
  z4 := by kernel_rfl
  z5 := by kernel_rfl
  z6 := by kernel_rfl
  d4 := all_of (by kernel_rfl)
  d5 := all_of (by kernel_rfl)
  i0 := ⟨(List.range 60), by kernel_rfl, List.contains_iff_mem.1 (by kernel_rfl)⟩
  i1 := ⟨(List.range 60), by kernel_rfl⟩
  i2 := ⟨(List.range 60), by kernel_rfl, List.contains_iff_mem.1 (by kernel_rfl)⟩
  a0 := ⟨opAt r3 0, true, by kernel_rfl, by kernel_rfl, by kernel_rfl, by kernel_rfl, by kernel_rfl⟩
  a1 := ⟨opAt r3 1, true, by kernel_rfl, by kernel_rfl, by kernel_rfl, by kernel_rfl, by kernel_rfl⟩
  a2 := ⟨opAt r3 2, by kernel_rfl, by kernel_rfl, by kernel_rfl, by kernel_rfl, by kernel_rfl⟩
  bk := fnOK_of (a := false) (b := false) (c := false) (d := false) Go.Proofs.Tryz.func257 (by kernel_rfl) (by kernel_rfl)
noncomputable def ki : Code := bodyOf Go.Proofs.Tryz.f293
noncomputable def kl : Code := loopC (blkC (sb ki))
noncomputable def i0 : Array Oper := regO (sa ki)
noncomputable def i1 : Array Oper := regO (sa (sa kl))
noncomputable def i3 : Array Oper := regO (sa (blkC (sa (sb kl))))
noncomputable def i2 : Array Oper := regO (sb (sb kl))
theorem itc : ItC P G 293 i0 i1 i2 i3 (opAt i3 0) (opAt i3 6) where
  fn := ⟨Go.Proofs.Tryz.f293, regI (sa ki), regI (sa (sa kl)), regI (sb (sb kl)), regI (sa (blkC (sa (sb kl)))), Go.Proofs.Tryz.func293, by kernel_rfl, by kernel_rfl, by kernel_rfl, by kernel_rfl⟩
  z0 := by kernel_rfl
  z1 := by kernel_rfl
  z2 := by kernel_rfl
  z3 := by kernel_rfl
  a0 := ⟨opAt i0 0, true, by kernel_rfl, by kernel_rfl, by kernel_rfl, by kernel_rfl, by kernel_rfl⟩
  a1 := ⟨opAt i0 1, true, by kernel_rfl, by kernel_rfl, by kernel_rfl, by kernel_rfl, by kernel_rfl⟩
  a2 := ⟨opAt i0 2, true, by kernel_rfl, by kernel_rfl, by kernel_rfl, by kernel_rfl, by kernel_rfl⟩
  a3 := ⟨opAt i0 3, true, by kernel_rfl, by kernel_rfl, by kernel_rfl, by kernel_rfl, by kernel_rfl⟩
  b0 := ⟨opAt i1 0, true, by kernel_rfl, by kernel_rfl, by kernel_rfl, by kernel_rfl, by kernel_rfl⟩
  b1 := ⟨opAt i1 1, true, by kernel_rfl, by kernel_rfl, by kernel_rfl, by kernel_rfl, by kernel_rfl⟩
  c1 := ⟨opAt i3 1, true, by kernel_rfl, by kernel_rfl, by kernel_rfl, by kernel_rfl, by kernel_rfl⟩
  c2 := ⟨opAt i3 2, true, by kernel_rfl, by kernel_rfl, by kernel_rfl, by kernel_rfl, by kernel_rfl⟩
  c3 := ⟨opAt i3 3, true, by kernel_rfl, by kernel_rfl, by kernel_rfl, by kernel_rfl, by kernel_rfl⟩
  c4 := ⟨opAt i3 4, true, by kernel_rfl, by kernel_rfl, by kernel_rfl, by kernel_rfl, by kernel_rfl⟩
  c5 := ⟨opAt i3 5, true, by kernel_rfl, by kernel_rfl, by kernel_rfl, by kernel_rfl, by kernel_rfl⟩
  c7 := ⟨opAt i3 7, true, by kernel_rfl, by kernel_rfl, by kernel_rfl, by kernel_rfl, by kernel_rfl⟩
  d0 := ⟨opAt i2 0, true, by kernel_rfl, by kernel_rfl, by kernel_rfl, by kernel_rfl, by kernel_rfl⟩
  d1 := ⟨opAt i2 1, true, by kernel_rfl, by kernel_rfl, by kernel_rfl, by kernel_rfl, by kernel_rfl⟩
  d2 := ⟨opAt i2 2, true, by kernel_rfl, by kernel_rfl, by kernel_rfl, by kernel_rfl, by kernel_rfl⟩
  c0 := ⟨by kernel_rfl, by kernel_rfl, by kernel_rfl, by kernel_rfl⟩
  c6 := ⟨by kernel_rfl, by kernel_rfl, by kernel_rfl, cArgs (opAt i3 6).op, cTs (opAt i3 6).op, by kernel_rfl, by kernel_rfl⟩
theorem cf_bt : cf198 = cBt r0.size r1.size r2.size 183 q0 q1 q2 := by kernel_rfl
theorem ok198 : FnGood P G pu F 198 cf198 := .inr fun k hC hcode => by
  rw [cf_bt]
  exact spec_bt mixed btc itc hC hcode fun j g args h n v h' n' hp hc => by
    obtain ⟨cf, h1, h2⟩ := puOf_spec hp
    exact pure_soft h1 h2 hc
theorem all : tbl.All (FnGood P G pu F) id := (T.All.no (T.All.no (T.All.no (T.All.no (T.All.no (T.All.nd ok31 (T.All.nd ok63 (T.All.nd ok127 (T.All.nd ok255 T.All.lf T.All.lf) T.All.lf) (T.All.nd ok191 T.All.lf T.All.lf)) (T.All.nd ok95 T.All.lf (T.All.nd ok223 T.All.lf T.All.lf))) (T.All.no (T.All.nd ok79 T.All.lf T.All.lf) (T.All.nd ok111 (T.All.nd ok175 T.All.lf T.All.lf) (T.All.nd ok239 T.All.lf T.All.lf)))) (T.All.no (T.All.no (T.All.nd ok71 (T.All.nd ok135 T.All.lf T.All.lf) (T.All.nd ok199 T.All.lf T.All.lf)) (T.All.no (T.All.nd ok167 (T.All.nd ok295 T.All.lf T.All.lf) T.All.lf) (T.All.nd ok231 T.All.lf T.All.lf))) (T.All.no T.All.lf (T.All.nd ok119 (T.All.nd ok183 T.All.lf T.All.lf) T.All.lf)))) (T.All.no (T.All.no (T.All.nd ok35 (T.All.nd ok67 (T.All.nd ok131 T.All.lf T.All.lf) (T.All.nd ok195 T.All.lf T.All.lf)) (T.All.no (T.All.nd ok163 (T.All.nd ok291 T.All.lf T.All.lf) T.All.lf) (T.All.nd ok227 T.All.lf T.All.lf))) (T.All.no (T.All.nd ok83 (T.All.nd ok147 T.All.lf T.All.lf) T.All.lf) (T.All.nd ok115 (T.All.nd ok179 T.All.lf T.All.lf) (T.All.nd ok243 T.All.lf T.All.lf)))) (T.All.nd ok27 (T.All.nd ok43 (T.All.nd ok75 (T.All.no (T.All.nd ok267 T.All.lf T.All.lf) T.All.lf) (T.All.nd ok203 T.All.lf T.All.lf)) (T.All.no (T.All.nd ok171 T.All.lf T.All.lf) T.All.lf)) (T.All.no (T.All.nd ok91 T.All.lf (T.All.nd ok219 T.All.lf T.All.lf)) (T.All.nd ok123 (T.All.nd ok187 T.All.lf T.All.lf) (T.All.nd ok251 T.All.lf T.All.lf)))))) (T.All.nd ok5 (T.All.nd ok9 (T.All.nd ok17 (T.All.nd ok33 (T.All.no (T.All.nd ok129 T.All.lf T.All.lf) (T.All.nd ok193 T.All.lf T.All.lf)) (T.All.nd ok97 (T.All.nd ok161 (T.All.nd ok289 T.All.lf T.All.lf) T.All.lf) (T.All.nd ok225 T.All.lf T.All.lf))) (T.All.no (T.All.no (T.All.nd ok145 T.All.lf T.All.lf) T.All.lf) (T.All.nd ok113 (T.All.nd ok177 T.All.lf T.All.lf) (T.All.nd ok241 T.All.lf T.All.lf)))) (T.All.no (T.All.nd ok41 (T.All.nd ok73 (T.All.no (T.All.nd ok265 T.All.lf T.All.lf) T.All.lf) (T.All.nd ok201 T.All.lf T.All.lf)) (T.All.no (T.All.nd ok169 T.All.lf T.All.lf) (T.All.nd ok233 T.All.lf T.All.lf))) (T.All.no (T.All.no T.All.lf (T.All.nd ok217 T.All.lf T.All.lf)) (T.All.nd ok121 T.All.lf (T.All.nd ok249 T.All.lf T.All.lf))))) (T.All.no (T.All.no (T.All.no (T.All.nd ok69 (T.All.nd ok133 T.All.lf T.All.lf) (T.All.nd ok197 T.All.lf T.All.lf)) T.All.lf) (T.All.nd ok53 (T.All.nd ok85 T.All.lf T.All.lf) (T.All.nd ok117 (T.All.nd ok181 T.All.lf T.All.lf) T.All.lf))) (T.All.no (T.All.no (T.All.nd ok77 (T.All.no (T.All.nd ok269 T.All.lf T.All.lf) T.All.lf) (T.All.nd ok205 T.All.lf T.All.lf)) (T.All.nd ok109 (T.All.nd ok173 T.All.lf T.All.lf) T.All.lf)) (T.All.nd ok61 (T.All.no T.All.lf (T.All.nd ok221 T.All.lf T.All.lf)) (T.All.nd ok125 T.All.lf (T.All.nd ok253 T.All.lf T.All.lf))))))) (T.All.no (T.All.no (T.All.no (T.All.nd ok16 (T.All.nd ok32 (T.All.no (T.All.nd ok128 T.All.lf T.All.lf) (T.All.nd ok192 T.All.lf T.All.lf)) (T.All.nd ok96 (T.All.nd ok160 T.All.lf T.All.lf) (T.All.nd ok224 T.All.lf T.All.lf))) (T.All.no (T.All.nd ok80 (T.All.nd ok144 (T.All.nd ok272 T.All.lf T.All.lf) T.All.lf) T.All.lf) (T.All.nd ok112 (T.All.nd ok176 T.All.lf T.All.lf) (T.All.nd ok240 T.All.lf T.All.lf)))) (T.All.no (T.All.no (T.All.nd ok72 (T.All.nd ok136 (T.All.nd ok264 T.All.lf T.All.lf) T.All.lf) (T.All.nd ok200 T.All.lf T.All.lf)) (T.All.no (T.All.nd ok168 (T.All.nd ok296 T.All.lf T.All.lf) T.All.lf) T.All.lf)) (T.All.no (T.All.no (T.All.no (T.All.nd ok280 T.All.lf T.All.lf) T.All.lf) (T.All.nd ok216 T.All.lf T.All.lf)) (T.All.nd ok120 (T.All.nd ok184 T.All.lf T.All.lf) T.All.lf)))) (T.All.nd ok12 (T.All.no (T.All.nd ok36 (T.All.nd ok68 (T.All.nd ok132 (T.All.nd ok260 T.All.lf T.All.lf) T.All.lf) T.All.lf) (T.All.no (T.All.nd ok164 (T.All.nd ok292 T.All.lf T.All.lf) T.All.lf) (T.All.nd ok228 T.All.lf T.All.lf))) (T.All.no (T.All.nd ok84 T.All.lf T.All.lf) (T.All.nd ok116 (T.All.nd ok180 T.All.lf T.All.lf) (T.All.nd ok244 T.All.lf T.All.lf)))) (T.All.nd ok28 (T.All.no (T.All.nd ok76 (T.All.no (T.All.nd ok268 T.All.lf T.All.lf) T.All.lf) (T.All.nd ok204 T.All.lf T.All.lf)) (T.All.no (T.All.nd ok172 T.All.lf T.All.lf) T.All.lf)) (T.All.no (T.All.no T.All.lf (T.All.nd ok220 T.All.lf T.All.lf)) (T.All.nd ok124 (T.All.nd ok188 T.All.lf T.All.lf) (T.All.nd ok252 T.All.lf T.All.lf)))))) (T.All.no (T.All.nd ok10 (T.All.no (T.All.nd ok34 (T.All.nd ok66 (T.All.nd ok130 T.All.lf T.All.lf) (T.All.nd ok194 T.All.lf T.All.lf)) (T.All.no (T.All.nd ok162 (T.All.nd ok290 T.All.lf T.All.lf) T.All.lf) (T.All.nd ok226 T.All.lf T.All.lf))) (T.All.no (T.All.nd ok82 (T.All.nd ok146 T.All.lf T.All.lf) T.All.lf) (T.All.nd ok114 (T.All.nd ok178 T.All.lf T.All.lf) (T.All.nd ok242 T.All.lf T.All.lf)))) (T.All.no (T.All.nd ok42 (T.All.nd ok74 (T.All.no (T.All.nd ok266 T.All.lf T.All.lf) T.All.lf) (T.All.nd ok202 T.All.lf T.All.lf)) (T.All.no (T.All.nd ok170 T.All.lf T.All.lf) T.All.lf)) (T.All.no (T.All.no T.All.lf (T.All.nd ok218 T.All.lf T.All.lf)) (T.All.nd ok122 (T.All.nd ok186 T.All.lf T.All.lf) (T.All.nd ok250 T.All.lf T.All.lf))))) (T.All.no (T.All.no (T.All.no (T.All.nd ok70 (T.All.nd ok134 T.All.lf T.All.lf) (T.All.nd ok198 T.All.lf T.All.lf)) (T.All.no T.All.lf (T.All.nd ok230 T.All.lf T.All.lf))) (T.All.nd ok54 (T.All.nd ok86 (T.All.no (T.All.nd ok278 T.All.lf T.All.lf) T.All.lf) T.All.lf) (T.All.nd ok118 (T.All.nd ok182 T.All.lf T.All.lf) T.All.lf))) (T.All.no (T.All.no (T.All.nd ok78 T.All.lf T.All.lf) (T.All.nd ok110 (T.All.nd ok174 T.All.lf T.All.lf) (T.All.nd ok238 T.All.lf T.All.lf))) (T.All.nd ok62 (T.All.nd ok94 T.All.lf (T.All.nd ok222 T.All.lf T.All.lf)) (T.All.nd ok126 (T.All.nd ok190 T.All.lf T.All.lf) (T.All.nd ok254 T.All.lf T.All.lf))))))))
theorem law {W : World} (n : Int) (hG : GOk G (oldMem W)) : Calls P 5 #[.int .i64 n] W fun e W' => e = .returned (.bool true) ∧ RowKit.Below W.heap.size W W' := call_true1 (table_ok mixed all) (a_Limits n ⟨f638, fun cf h => by cases h; rfl⟩ ⟨fDn, fun cf h => by cases h; rfl⟩) hG
end Tm.L5
