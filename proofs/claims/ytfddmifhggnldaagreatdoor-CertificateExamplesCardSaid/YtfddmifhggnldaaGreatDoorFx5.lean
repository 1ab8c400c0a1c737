/- The law's run, call by call: one theorem for each distinct call, checked by the kernel's own evaluation. No statement of the seat is proved here. -/
import Derived.Test.YtfddmifhggnldaaGreatDoorTab5b
import Derived.Test.YtfddmifhggnldaaGreatDoorTmH
import Derived.KernelRfl
set_option linter.unusedVariables false
set_option linter.constructorNameAsVariable false
namespace Tm.L5
open Go Tm
set_option maxRecDepth 100000
def tbl : T CFun := (.nd none (.nd none (.nd none (.nd none (.nd (some cf15) (.nd none (.nd none (.nd none (.nd (some cf255) .lf .lf) .lf) (.nd (some cf191) (.nd (some (cNo true)) .lf .lf) .lf)) (.nd (some cf95) (.nd none (.nd (some cf287) .lf .lf) .lf) .lf)) (.nd (some cf47) (.nd none (.nd (some cf143) (.nd (some (cNo true)) .lf .lf) .lf) (.nd (some cf207) .lf .lf)) (.nd (some cf111) (.nd (some cf175) (.nd (some (cNo false)) .lf .lf) .lf) (.nd (some cf239) .lf .lf)))) (.nd none (.nd none (.nd (some cf71) .lf (.nd (some cf199) .lf .lf)) (.nd (some cf103) (.nd (some cf167) .lf .lf) (.nd (some cf231) .lf .lf))) (.nd none (.nd none (.nd none (.nd (some (cNo true)) .lf .lf) .lf) .lf) (.nd (some cf119) (.nd (some cf183) .lf .lf) (.nd (some cf247) .lf .lf))))) (.nd (some cf11) (.nd (some cf19) (.nd none (.nd (some cf67) (.nd (some (cNo true)) (.nd (some (cNo true)) .lf .lf) .lf) (.nd (some cf195) (.nd (some cf323) .lf .lf) .lf)) (.nd (some cf99) (.nd none (.nd (some cf291) .lf .lf) .lf) (.nd (some cf227) .lf .lf))) (.nd (some cf51) (.nd none (.nd (some cf147) .lf .lf) .lf) (.nd (some cf115) (.nd (some cf179) .lf .lf) (.nd (some cf243) .lf .lf)))) (.nd (some cf27) (.nd (some cf43) (.nd (some cf75) (.nd (some cf139) .lf .lf) (.nd (some cf203) .lf .lf)) (.nd (some cf107) (.nd (some cf171) (.nd (some cf299) .lf .lf) .lf) (.nd (some cf235) .lf .lf))) (.nd (some cf59) (.nd none (.nd none (.nd (some cf283) .lf .lf) .lf) (.nd none (.nd (some (cNo true)) .lf .lf) .lf)) (.nd (some cf123) (.nd (some cf187) .lf .lf) .lf))))) (.nd (some cf5) (.nd (some cf9) (.nd none (.nd none (.nd none (.nd (some cf129) (.nd (some cf257) .lf .lf) .lf) (.nd (some cf193) (.nd (some cf321) .lf .lf) .lf)) (.nd (some (cNo true)) (.nd none (.nd (some cf289) .lf .lf) .lf) .lf)) (.nd (some cf49) (.nd none (.nd (some cf145) .lf .lf) (.nd (some cf209) .lf .lf)) (.nd (some cf113) (.nd (some cf177) .lf .lf) (.nd (some cf241) .lf .lf)))) (.nd (some cf25) (.nd (some cf41) (.nd (some cf73) (.nd (some cf137) .lf .lf) (.nd (some cf201) (.nd (some cf329) .lf .lf) .lf)) (.nd (some cf105) (.nd none (.nd (some cf297) .lf .lf) .lf) (.nd (some cf233) .lf .lf))) (.nd (some cf57) (.nd none (.nd none (.nd (some cf281) .lf .lf) .lf) (.nd none (.nd (some (cNo true)) .lf .lf) .lf)) (.nd (some cf121) (.nd (some cf185) .lf .lf) (.nd (some cf249) .lf .lf))))) (.nd none (.nd (some cf21) (.nd none (.nd (some cf69) (.nd none (.nd (some (cNo true)) .lf .lf) .lf) (.nd none (.nd (some (cNo true)) .lf .lf) .lf)) (.nd (some (cNo false)) (.nd (some cf165) .lf .lf) (.nd (some cf229) .lf .lf))) (.nd (some cf53) (.nd none .lf (.nd none (.nd (some cf341) .lf .lf) .lf)) (.nd (some cf117) (.nd (some cf181) .lf .lf) .lf))) (.nd (some cf29) (.nd (some cf45) (.nd (some cf77) (.nd (some cf141) .lf .lf) (.nd (some cf205) .lf .lf)) (.nd (some cf109) (.nd (some cf173) (.nd (some cf301) .lf .lf) .lf) (.nd (some cf237) .lf .lf))) (.nd (some cf61) (.nd none (.nd none (.nd (some cf285) .lf .lf) .lf) .lf) (.nd none .lf (.nd (some cf253) .lf .lf))))))) (.nd none (.nd none (.nd (some cf8) (.nd (some cf16) (.nd none (.nd none (.nd (some cf128) (.nd (some cf256) .lf .lf) .lf) (.nd (some cf192) (.nd (some cf320) .lf .lf) .lf)) (.nd (some cf96) (.nd (some cf160) (.nd (some cf288) .lf .lf) .lf) .lf)) (.nd (some cf48) (.nd none (.nd (some cf144) .lf .lf) (.nd (some cf208) (.nd (some (cNo false)) .lf .lf) .lf)) (.nd (some cf112) (.nd (some cf176) .lf .lf) (.nd (some cf240) .lf .lf)))) (.nd none (.nd (some cf40) (.nd (some cf72) (.nd (some cf136) .lf .lf) (.nd none (.nd (some cf328) .lf .lf) .lf)) (.nd (some cf104) (.nd none (.nd (some cf296) .lf .lf) .lf) (.nd (some cf232) .lf .lf))) (.nd (some cf56) (.nd none (.nd none (.nd (some cf280) .lf .lf) .lf) (.nd none (.nd (some cf344) .lf .lf) .lf)) (.nd (some cf120) (.nd (some cf184) .lf .lf) (.nd (some cf248) .lf .lf))))) (.nd (some cf12) (.nd none (.nd none (.nd (some cf68) (.nd (some cf132) .lf .lf) (.nd none (.nd (some cf324) .lf .lf) .lf)) (.nd (some cf100) (.nd none (.nd (some (cNo true)) .lf .lf) .lf) (.nd (some cf228) .lf .lf))) (.nd (some cf52) .lf (.nd (some cf116) (.nd (some cf180) .lf .lf) (.nd (some cf244) .lf .lf)))) (.nd (some cf28) (.nd (some cf44) (.nd (some cf76) (.nd (some cf140) .lf .lf) (.nd (some cf204) .lf .lf)) (.nd (some cf108) (.nd (some cf172) (.nd (some (cNo true)) .lf .lf) .lf) (.nd (some cf236) .lf .lf))) (.nd (some cf60) (.nd none (.nd none (.nd (some cf284) .lf .lf) .lf) .lf) (.nd none (.nd (some cf188) .lf .lf) .lf))))) (.nd none (.nd (some cf10) (.nd none (.nd none (.nd (some cf66) (.nd (some cf130) (.nd (some cf258) .lf .lf) .lf) (.nd (some cf194) (.nd (some cf322) .lf .lf) .lf)) (.nd (some cf98) (.nd none (.nd (some cf290) .lf .lf) .lf) .lf)) (.nd (some cf50) (.nd (some cf82) (.nd (some cf146) .lf .lf) .lf) (.nd (some cf114) (.nd (some cf178) .lf .lf) (.nd (some cf242) .lf .lf)))) (.nd (some cf26) (.nd (some cf42) (.nd (some cf74) (.nd (some cf138) .lf .lf) (.nd (some cf202) (.nd (some (cNo true)) .lf .lf) .lf)) (.nd (some cf106) (.nd (some cf170) (.nd (some cf298) .lf .lf) .lf) (.nd (some cf234) .lf .lf))) (.nd none (.nd none (.nd (some cf154) (.nd (some cf282) .lf .lf) .lf) .lf) (.nd (some cf122) (.nd (some (cNo false)) .lf .lf) (.nd (some cf250) .lf .lf))))) (.nd (some cf14) (.nd (some cf22) (.nd none (.nd (some cf70) .lf .lf) (.nd (some cf102) (.nd (some cf166) .lf .lf) (.nd (some cf230) .lf .lf))) (.nd (some cf54) (.nd none .lf (.nd none (.nd (some cf342) .lf .lf) .lf)) (.nd (some cf118) (.nd (some cf182) .lf .lf) (.nd (some cf246) .lf .lf)))) (.nd (some cf30) (.nd (some cf46) (.nd (some cf78) (.nd (some cf142) .lf .lf) (.nd (some cf206) .lf .lf)) (.nd (some cf110) (.nd (some cf174) (.nd (some cf302) .lf .lf) .lf) (.nd (some cf238) .lf .lf))) (.nd none (.nd (some cf94) (.nd none (.nd (some cf286) .lf .lf) .lf) .lf) (.nd (some cf126) (.nd (some cf190) .lf .lf) (.nd (some cf254) .lf .lf))))))))
abbrev F : Nat → Option CFun := tbl.get
def x0 : D := (.ag [(.i .i64 (.ofNat 5)), (.s ⟨#[]⟩), (.i .i64 (.ofNat 0)), (.sl [])])
def x1 : D := (.ag [(.i .i64 (.ofNat 2)), (.s ⟨#[66, 111, 120]⟩), (.i .i64 (.ofNat 0)), (.sl [x0])])
def x2 : D := (.ag [(.i .i64 (.ofNat 2)), (.s ⟨#[73, 110, 116]⟩), (.i .i64 (.ofNat 0)), (.sl [])])
def x3 : D := (.ag [(.i .i64 (.ofNat 2)), (.s ⟨#[66, 111, 120]⟩), (.i .i64 (.ofNat 0)), (.sl [x2])])
def x4 : D := (.ag [(.i .i64 (.ofNat 2)), (.s ⟨#[83, 104, 97, 112, 101]⟩), (.i .i64 (.ofNat 0)), (.sl [])])
def x5 : D := (.ag [(.i .i64 (.ofNat 5)), (.s ⟨#[]⟩), (.i .i64 (.ofNat 1)), (.sl [])])
def x6 : D := (.ag [(.i .i64 (.ofNat 2)), (.s ⟨#[66, 111, 120]⟩), (.i .i64 (.ofNat 0)), (.sl [x1])])
def x7 : D := (.ag [(.s ⟨#[66, 111, 120]⟩), (.i .i64 (.ofNat 1)), (.i .i64 (.ofNat 0)), (.s ⟨#[]⟩), (.i .i64 (.ofNat 0)), (.sl []), (.b false), (.sl [])])
def x8 : D := (.ag [(.s ⟨#[105, 116, 101, 109]⟩), (.i .i64 (.ofNat 5)), (.s ⟨#[]⟩), (.i .i64 (.ofNat 0)), (.sl [])])
def x9 : D := (.ag [(.s ⟨#[67, 101, 108, 108]⟩), (.i .i64 (.ofNat 1)), (.i .i64 (.ofNat 2)), (.s ⟨#[66, 111, 120]⟩), (.i .i64 (.ofNat 0)), (.sl [x0]), (.b true), (.sl [x8])])
def x10 : D := (.ag [(.s ⟨#[105, 116, 101, 109]⟩), (.i .i64 (.ofNat 2)), (.s ⟨#[73, 110, 116]⟩), (.i .i64 (.ofNat 0)), (.sl [])])
def x11 : D := (.ag [(.s ⟨#[73, 110, 116, 66, 111, 120]⟩), (.i .i64 (.ofNat 0)), (.i .i64 (.ofNat 2)), (.s ⟨#[66, 111, 120]⟩), (.i .i64 (.ofNat 0)), (.sl [x2]), (.b true), (.sl [x10])])
def x12 : D := (.ag [(.s ⟨#[83, 104, 97, 112, 101]⟩), (.i .i64 (.ofNat 0)), (.i .i64 (.ofNat 0)), (.s ⟨#[]⟩), (.i .i64 (.ofNat 0)), (.sl []), (.b false), (.sl [])])
def x13 : D := (.ag [(.s ⟨#[68, 111, 116]⟩), (.i .i64 (.ofNat 0)), (.i .i64 (.ofNat 2)), (.s ⟨#[83, 104, 97, 112, 101]⟩), (.i .i64 (.ofNat 0)), (.sl []), (.b true), (.sl [])])
def x14 : D := (.ag [(.s ⟨#[114, 97, 100, 105, 117, 115]⟩), (.i .i64 (.ofNat 2)), (.s ⟨#[73, 110, 116]⟩), (.i .i64 (.ofNat 0)), (.sl [])])
def x15 : D := (.ag [(.s ⟨#[68, 105, 115, 107]⟩), (.i .i64 (.ofNat 0)), (.i .i64 (.ofNat 2)), (.s ⟨#[83, 104, 97, 112, 101]⟩), (.i .i64 (.ofNat 0)), (.sl []), (.b true), (.sl [x14])])
def x16 : D := (.ag [(.s ⟨#[102, 105, 114, 115, 116]⟩), (.i .i64 (.ofNat 5)), (.s ⟨#[]⟩), (.i .i64 (.ofNat 0)), (.sl [])])
def x17 : D := (.ag [(.s ⟨#[115, 101, 99, 111, 110, 100]⟩), (.i .i64 (.ofNat 5)), (.s ⟨#[]⟩), (.i .i64 (.ofNat 1)), (.sl [])])
def x18 : D := (.ag [(.s ⟨#[80, 97, 105, 114]⟩), (.i .i64 (.ofNat 2)), (.i .i64 (.ofNat 0)), (.s ⟨#[]⟩), (.i .i64 (.ofNat 0)), (.sl []), (.b true), (.sl [x16, x17])])
def x19 : D := (.ag [(.s ⟨#[105, 110, 110, 101, 114]⟩), (.i .i64 (.ofNat 2)), (.s ⟨#[66, 111, 120]⟩), (.i .i64 (.ofNat 0)), (.sl [x0])])
def x20 : D := (.ag [(.s ⟨#[78, 101, 115, 116]⟩), (.i .i64 (.ofNat 1)), (.i .i64 (.ofNat 2)), (.s ⟨#[66, 111, 120]⟩), (.i .i64 (.ofNat 0)), (.sl [x1]), (.b true), (.sl [x19])])
def x21 : D := (.sl [x7, x9, x11, x12, x13, x15, x18, x20])
def x22 : D := (.ag [(.s ⟨#[73, 110, 116]⟩), (.i .i64 (.ofNat 0)), (.i .i64 (.ofNat 0)), (.s ⟨#[]⟩), (.i .i64 (.ofNat 0)), (.sl []), (.b true), (.sl [])])
def x23 : D := (.ag [(.s ⟨#[66, 111, 111, 108]⟩), (.i .i64 (.ofNat 0)), (.i .i64 (.ofNat 0)), (.s ⟨#[]⟩), (.i .i64 (.ofNat 0)), (.sl []), (.b true), (.sl [])])
def x24 : D := (.ag [(.s ⟨#[83, 116, 114, 105, 110, 103]⟩), (.i .i64 (.ofNat 0)), (.i .i64 (.ofNat 0)), (.s ⟨#[]⟩), (.i .i64 (.ofNat 0)), (.sl []), (.b true), (.sl [])])
def x25 : D := (.ag [(.s ⟨#[78, 105, 108]⟩), (.i .i64 (.ofNat 0)), (.i .i64 (.ofNat 0)), (.s ⟨#[]⟩), (.i .i64 (.ofNat 0)), (.sl []), (.b true), (.sl [])])
def x26 : AV := (.mp [(.s ⟨#[73, 110, 116]⟩), (.s ⟨#[66, 111, 111, 108]⟩), (.s ⟨#[83, 116, 114, 105, 110, 103]⟩), (.s ⟨#[78, 105, 108]⟩)] [(.d (.i .i64 (.ofNat 0))), (.d (.i .i64 (.ofNat 1))), (.d (.i .i64 (.ofNat 2))), (.d (.i .i64 (.ofNat 3)))])
def x27 : AV := (.pe [(.bs [x22, x23, x24, x25]), x26] 0)
def x28 : D := (.ag [(.s ⟨#[]⟩), (.i .i64 (.ofNat 0)), (.i .i64 (.ofNat 0)), (.s ⟨#[]⟩), (.i .i64 (.ofNat 0)), (.sl []), (.b false), (.sl [])])
def x29 : D := (.sl [(.s ⟨#[65, 110, 121]⟩), (.s ⟨#[78, 101, 118, 101, 114]⟩), (.s ⟨#[116, 117, 112, 108, 101]⟩), (.s ⟨#[117, 110, 105, 111, 110]⟩), (.s ⟨#[101, 120, 105, 115, 116, 115]⟩)])
def x30 : D := (.ag [(.i .i64 (.ofNat 0)), (.s ⟨#[]⟩), (.i .i64 (.ofNat 0)), (.sl [])])
def x31 : AV := (.mp [(.s ⟨#[73, 110, 116]⟩), (.s ⟨#[66, 111, 111, 108]⟩), (.s ⟨#[83, 116, 114, 105, 110, 103]⟩), (.s ⟨#[78, 105, 108]⟩), (.s ⟨#[66, 111, 120]⟩)] [(.d (.i .i64 (.ofNat 0))), (.d (.i .i64 (.ofNat 1))), (.d (.i .i64 (.ofNat 2))), (.d (.i .i64 (.ofNat 3))), (.d (.i .i64 (.ofNat 4)))])
def x32 : AV := (.pe [(.bs [x22, x23, x24, x25, x7]), x31] 0)
def x33 : AV := (.mp [(.s ⟨#[73, 110, 116]⟩), (.s ⟨#[66, 111, 111, 108]⟩), (.s ⟨#[83, 116, 114, 105, 110, 103]⟩), (.s ⟨#[78, 105, 108]⟩), (.s ⟨#[66, 111, 120]⟩), (.s ⟨#[67, 101, 108, 108]⟩)] [(.d (.i .i64 (.ofNat 0))), (.d (.i .i64 (.ofNat 1))), (.d (.i .i64 (.ofNat 2))), (.d (.i .i64 (.ofNat 3))), (.d (.i .i64 (.ofNat 4))), (.d (.i .i64 (.ofNat 5)))])
def x34 : AV := (.pe [(.bs [x22, x23, x24, x25, x7, x9]), x33] 0)
def x35 : AV := (.pe [(.bs [x22, x23, x24, x25, x7, x9])] 0)
def x36 : AV := (.mp [(.s ⟨#[73, 110, 116]⟩), (.s ⟨#[66, 111, 111, 108]⟩), (.s ⟨#[83, 116, 114, 105, 110, 103]⟩), (.s ⟨#[78, 105, 108]⟩), (.s ⟨#[66, 111, 120]⟩), (.s ⟨#[67, 101, 108, 108]⟩), (.s ⟨#[73, 110, 116, 66, 111, 120]⟩)] [(.d (.i .i64 (.ofNat 0))), (.d (.i .i64 (.ofNat 1))), (.d (.i .i64 (.ofNat 2))), (.d (.i .i64 (.ofNat 3))), (.d (.i .i64 (.ofNat 4))), (.d (.i .i64 (.ofNat 5))), (.d (.i .i64 (.ofNat 6)))])
def x37 : AV := (.pe [(.bs [x22, x23, x24, x25, x7, x9, x11]), x36] 0)
def x38 : AV := (.pe [(.bs [x22, x23, x24, x25, x7, x9, x11])] 0)
def x39 : AV := (.bs [x22, x23, x24, x25, x7, x9, x11, x12])
def x40 : AV := (.mp [(.s ⟨#[73, 110, 116]⟩), (.s ⟨#[66, 111, 111, 108]⟩), (.s ⟨#[83, 116, 114, 105, 110, 103]⟩), (.s ⟨#[78, 105, 108]⟩), (.s ⟨#[66, 111, 120]⟩), (.s ⟨#[67, 101, 108, 108]⟩), (.s ⟨#[73, 110, 116, 66, 111, 120]⟩), (.s ⟨#[83, 104, 97, 112, 101]⟩)] [(.d (.i .i64 (.ofNat 0))), (.d (.i .i64 (.ofNat 1))), (.d (.i .i64 (.ofNat 2))), (.d (.i .i64 (.ofNat 3))), (.d (.i .i64 (.ofNat 4))), (.d (.i .i64 (.ofNat 5))), (.d (.i .i64 (.ofNat 6))), (.d (.i .i64 (.ofNat 7)))])
def x41 : AV := (.bs [x22, x23, x24, x25, x7, x9, x11, x12, x13])
def x42 : AV := (.mp [(.s ⟨#[73, 110, 116]⟩), (.s ⟨#[66, 111, 111, 108]⟩), (.s ⟨#[83, 116, 114, 105, 110, 103]⟩), (.s ⟨#[78, 105, 108]⟩), (.s ⟨#[66, 111, 120]⟩), (.s ⟨#[67, 101, 108, 108]⟩), (.s ⟨#[73, 110, 116, 66, 111, 120]⟩), (.s ⟨#[83, 104, 97, 112, 101]⟩), (.s ⟨#[68, 111, 116]⟩)] [(.d (.i .i64 (.ofNat 0))), (.d (.i .i64 (.ofNat 1))), (.d (.i .i64 (.ofNat 2))), (.d (.i .i64 (.ofNat 3))), (.d (.i .i64 (.ofNat 4))), (.d (.i .i64 (.ofNat 5))), (.d (.i .i64 (.ofNat 6))), (.d (.i .i64 (.ofNat 7))), (.d (.i .i64 (.ofNat 8)))])
def x43 : AV := (.bs [x22, x23, x24, x25, x7, x9, x11, x12, x13, x15])
def x44 : AV := (.mp [(.s ⟨#[73, 110, 116]⟩), (.s ⟨#[66, 111, 111, 108]⟩), (.s ⟨#[83, 116, 114, 105, 110, 103]⟩), (.s ⟨#[78, 105, 108]⟩), (.s ⟨#[66, 111, 120]⟩), (.s ⟨#[67, 101, 108, 108]⟩), (.s ⟨#[73, 110, 116, 66, 111, 120]⟩), (.s ⟨#[83, 104, 97, 112, 101]⟩), (.s ⟨#[68, 111, 116]⟩), (.s ⟨#[68, 105, 115, 107]⟩)] [(.d (.i .i64 (.ofNat 0))), (.d (.i .i64 (.ofNat 1))), (.d (.i .i64 (.ofNat 2))), (.d (.i .i64 (.ofNat 3))), (.d (.i .i64 (.ofNat 4))), (.d (.i .i64 (.ofNat 5))), (.d (.i .i64 (.ofNat 6))), (.d (.i .i64 (.ofNat 7))), (.d (.i .i64 (.ofNat 8))), (.d (.i .i64 (.ofNat 9)))])
def x45 : AV := (.bs [x22, x23, x24, x25, x7, x9, x11, x12, x13, x15, x18])
def x46 : AV := (.mp [(.s ⟨#[73, 110, 116]⟩), (.s ⟨#[66, 111, 111, 108]⟩), (.s ⟨#[83, 116, 114, 105, 110, 103]⟩), (.s ⟨#[78, 105, 108]⟩), (.s ⟨#[66, 111, 120]⟩), (.s ⟨#[67, 101, 108, 108]⟩), (.s ⟨#[73, 110, 116, 66, 111, 120]⟩), (.s ⟨#[83, 104, 97, 112, 101]⟩), (.s ⟨#[68, 111, 116]⟩), (.s ⟨#[68, 105, 115, 107]⟩), (.s ⟨#[80, 97, 105, 114]⟩)] [(.d (.i .i64 (.ofNat 0))), (.d (.i .i64 (.ofNat 1))), (.d (.i .i64 (.ofNat 2))), (.d (.i .i64 (.ofNat 3))), (.d (.i .i64 (.ofNat 4))), (.d (.i .i64 (.ofNat 5))), (.d (.i .i64 (.ofNat 6))), (.d (.i .i64 (.ofNat 7))), (.d (.i .i64 (.ofNat 8))), (.d (.i .i64 (.ofNat 9))), (.d (.i .i64 (.ofNat 10)))])
def x47 : AV := (.bs [x22, x23, x24, x25, x7, x9, x11, x12, x13, x15, x18, x20])
def x48 : AV := (.mp [(.s ⟨#[73, 110, 116]⟩), (.s ⟨#[66, 111, 111, 108]⟩), (.s ⟨#[83, 116, 114, 105, 110, 103]⟩), (.s ⟨#[78, 105, 108]⟩), (.s ⟨#[66, 111, 120]⟩), (.s ⟨#[67, 101, 108, 108]⟩), (.s ⟨#[73, 110, 116, 66, 111, 120]⟩), (.s ⟨#[83, 104, 97, 112, 101]⟩), (.s ⟨#[68, 111, 116]⟩), (.s ⟨#[68, 105, 115, 107]⟩), (.s ⟨#[80, 97, 105, 114]⟩), (.s ⟨#[78, 101, 115, 116]⟩)] [(.d (.i .i64 (.ofNat 0))), (.d (.i .i64 (.ofNat 1))), (.d (.i .i64 (.ofNat 2))), (.d (.i .i64 (.ofNat 3))), (.d (.i .i64 (.ofNat 4))), (.d (.i .i64 (.ofNat 5))), (.d (.i .i64 (.ofNat 6))), (.d (.i .i64 (.ofNat 7))), (.d (.i .i64 (.ofNat 8))), (.d (.i .i64 (.ofNat 9))), (.d (.i .i64 (.ofNat 10))), (.d (.i .i64 (.ofNat 11)))])
def x49 : D := (.sl [x22, x23, x24, x25, x7, x9, x11, x12, x13, x15, x18, x20])
def x50 : D := (.ag [(.i .i64 (.ofNat 2)), (.s ⟨#[66, 111, 111, 108]⟩), (.i .i64 (.ofNat 0)), (.sl [])])
def x51 : D := (.ag [(.i .i64 (.ofNat 4)), (.s ⟨#[]⟩), (.i .i64 (.ofNat 0)), (.sl [x50, x2])])
def x52 : D := (.ag [(.i .i64 (.ofNat 3)), (.s ⟨#[]⟩), (.i .i64 (.ofNat 0)), (.sl [x0, x1])])
def x53 : D := (.ag [(.i .i64 (.ofNat 6)), (.s ⟨#[]⟩), (.i .i64 (.ofNat 0)), (.sl [x51, x52])])
def x54 : D := (.ag [(.i .i64 (.ofNat 3)), (.s ⟨#[]⟩), (.i .i64 (.ofNat 0)), (.sl [x50, x1])])
def x55 : D := (.ag [(.i .i64 (.ofNat 6)), (.s ⟨#[]⟩), (.i .i64 (.ofNat 0)), (.sl [x30, x54])])
def x56 : D := (.ag [(.i .i64 (.ofNat 3)), (.s ⟨#[]⟩), (.i .i64 (.ofNat 0)), (.sl [x2, x1])])
def x57 : D := (.ag [(.i .i64 (.ofNat 6)), (.s ⟨#[]⟩), (.i .i64 (.ofNat 0)), (.sl [x30, x56])])
def x58 : D := (.ag [(.i .i64 (.ofNat 4)), (.s ⟨#[]⟩), (.i .i64 (.ofNat 0)), (.sl [x55, x57])])
def x59 : D := (.ag [(.i .i64 (.ofNat 2)), (.s ⟨#[36, 48]⟩), (.i .i64 (.ofNat 0)), (.sl [])])
def x60 : D := (.ag [(.i .i64 (.ofNat 2)), (.s ⟨#[66, 111, 120]⟩), (.i .i64 (.ofNat 0)), (.sl [x59])])
def x61 : D := (.ag [(.i .i64 (.ofNat 3)), (.s ⟨#[]⟩), (.i .i64 (.ofNat 0)), (.sl [x59, x60])])
def x62 : AV := (.pe [(.bs [x51]), (.d (.i .i64 (.ofNat 32)))] 0)
def x63 : AV := (.pe [(.d (.i .i64 (.ofNat 3))), (.d (.s ⟨#[]⟩)), (.d (.i .i64 (.ofNat 0))), (.d (.sl [x59, x60]))] 0)
def x64 : AV := (.pe [(.d (.i .i64 (.ofNat 2))), (.d (.s ⟨#[66, 111, 120]⟩)), (.d (.i .i64 (.ofNat 0))), (.d (.sl [x59]))] 0)
def x65 : D := (.ag [(.sl [x51]), (.i .i64 (.ofNat 3)), (.s ⟨#[]⟩), (.i .i64 (.ofNat 0)), (.sl [x0, x1])])
def x66 : AV := (.pe [(.d (.sl [])), (.d (.i .i64 (.ofNat 32)))] 0)
def x67 : D := (.ag [(.sl []), (.i .i64 (.ofNat 2)), (.s ⟨#[66, 111, 111, 108]⟩), (.i .i64 (.ofNat 0)), (.sl [])])
def x68 : D := (.ag [(.sl []), (.i .i64 (.ofNat 2)), (.s ⟨#[73, 110, 116]⟩), (.i .i64 (.ofNat 0)), (.sl [])])
def x69 : D := (.ag [(.i .i64 (.ofNat 3)), (.s ⟨#[]⟩), (.i .i64 (.ofNat 0)), (.sl [x50, x60])])
def x70 : AV := (.pe [(.bs [x30]), (.d (.i .i64 (.ofNat 32)))] 0)
def x71 : AV := (.pe [(.d (.i .i64 (.ofNat 3))), (.d (.s ⟨#[]⟩)), (.d (.i .i64 (.ofNat 0))), (.d (.sl [x50, x60]))] 0)
def x72 : D := (.ag [(.i .i64 (.ofNat 2)), (.s ⟨#[36, 49]⟩), (.i .i64 (.ofNat 0)), (.sl [])])
def x73 : D := (.ag [(.i .i64 (.ofNat 2)), (.s ⟨#[66, 111, 120]⟩), (.i .i64 (.ofNat 0)), (.sl [x72])])
def x74 : D := (.ag [(.i .i64 (.ofNat 3)), (.s ⟨#[]⟩), (.i .i64 (.ofNat 0)), (.sl [x2, x73])])
def x75 : AV := (.pe [(.bs [x30, x30]), (.d (.i .i64 (.ofNat 32)))] 0)
def x76 : AV := (.pe [(.d (.i .i64 (.ofNat 3))), (.d (.s ⟨#[]⟩)), (.d (.i .i64 (.ofNat 0))), (.d (.sl [x2, x73]))] 0)
def x77 : AV := (.pe [(.d (.i .i64 (.ofNat 2))), (.d (.s ⟨#[66, 111, 120]⟩)), (.d (.i .i64 (.ofNat 0))), (.d (.sl [x72]))] 0)
def x78 : D := (.ag [(.sl [x30]), (.i .i64 (.ofNat 3)), (.s ⟨#[]⟩), (.i .i64 (.ofNat 0)), (.sl [x50, x1])])
def x79 : D := (.ag [(.sl [x30]), (.i .i64 (.ofNat 3)), (.s ⟨#[]⟩), (.i .i64 (.ofNat 0)), (.sl [x2, x1])])
def x80 : D := (.ag [(.sl []), (.i .i64 (.ofNat 0)), (.s ⟨#[]⟩), (.i .i64 (.ofNat 0)), (.sl [])])
def x81 : AV := (.pe [(.d (.i .i64 (.ofNat 0))), (.d (.s ⟨#[]⟩)), (.d (.i .i64 (.ofNat 0))), (.d (.sl []))] 0)
def x82 : D := (.sl [(.i .i64 (.ofNat 0)), (.i .i64 (.ofNat 0)), (.i .i64 (.ofNat 0)), (.i .i64 (.ofNat 0))])
def x83 : AV := (.ag [(.d (.i .i64 (.ofNat 5))), (.d (.s ⟨#[]⟩)), (.d (.i .i64 (.ofNat 0))), (.d (.sl []))])
def x84 : AV := (.pe [(.bs [x51]), (.d (.i .i64 (.ofNat 9223372036854775807)))] 0)
def x85 : D := (.ag [(.sl [x51]), (.i .i64 (.ofNat 3)), (.s ⟨#[]⟩), (.i .i64 (.ofNat 0)), (.sl [x50, x1])])
def x86 : D := (.ag [(.i .i64 (.ofNat 3)), (.s ⟨#[]⟩), (.i .i64 (.ofNat 0)), (.sl [x2, x60])])
def x87 : D := (.ag [(.sl [x51]), (.i .i64 (.ofNat 3)), (.s ⟨#[]⟩), (.i .i64 (.ofNat 0)), (.sl [x2, x1])])
def x88 : AV := (.ag [(.d (.i .i64 (.ofNat 2))), (.d (.s ⟨#[66, 111, 111, 108]⟩)), (.d (.i .i64 (.ofNat 0))), (.d (.sl []))])
def x89 : AV := (.ag [(.d (.i .i64 (.ofNat 2))), (.d (.s ⟨#[66, 111, 120]⟩)), (.d (.i .i64 (.ofNat 0))), (.d (.sl [x0]))])
def x90 : AV := (.pe [(.pe [x47, x48] 0), (.d (.sl [x51])), (.d (.i .i64 (.ofNat 3))), (.d (.s ⟨#[]⟩)), (.d (.i .i64 (.ofNat 0))), (.d (.sl [x50, x1])), (.bs [x0]), (.bs [(.b true)]), (.d (.sl []))] 0)
def x91 : AV := (.ag [(.d (.i .i64 (.ofNat 2))), (.d (.s ⟨#[73, 110, 116]⟩)), (.d (.i .i64 (.ofNat 0))), (.d (.sl []))])
def x92 : AV := (.pe [(.pe [x47, x48] 0), (.d (.sl [x51])), (.d (.i .i64 (.ofNat 3))), (.d (.s ⟨#[]⟩)), (.d (.i .i64 (.ofNat 0))), (.d (.sl [x2, x1])), (.bs [x0]), (.bs [(.b true)]), (.d (.sl []))] 0)
def x93 : D := (.ag [(.sl [x65]), (.i .i64 (.ofNat 4)), (.s ⟨#[]⟩), (.i .i64 (.ofNat 0)), (.sl [x55, x57])])
def x94 : AV := (.pe [(.d (.i .i64 (.ofNat 4))), (.d (.s ⟨#[]⟩)), (.d (.i .i64 (.ofNat 0))), (.d (.sl [x55, x57]))] 0)
def x95 : D := (.ag [(.sl [x67, x68]), (.i .i64 (.ofNat 0)), (.s ⟨#[]⟩), (.i .i64 (.ofNat 0)), (.sl [])])
def x96 : D := (.ag [(.i .i64 (.ofNat 1)), (.i .i64 (.ofNat 0)), (.sl []), (.sl [])])
def x97 : D := (.ag [(.i .i64 (.ofNat 0)), (.i .i64 (.ofNat 0)), (.sl []), (.sl [x96, x96])])
def x98 : D := (.ag [(.i .i64 (.ofNat 1)), (.i .i64 (.ofNat 0)), (.sl [x0]), (.sl [x97])])
def x99 : D := (.ag [(.i .i64 (.ofNat 2)), (.i .i64 (.ofNat 0)), (.sl [x0]), (.sl [x97])])
def x100 : D := (.ag [(.i .i64 (.ofNat 0)), (.i .i64 (.ofNat 1)), (.sl []), (.sl [x98, x99])])
def x101 : D := (.ag [(.i .i64 (.ofNat 0)), (.i .i64 (.ofNat 0)), (.sl []), (.sl [x100])])
def x102 : D := (.ag [(.i .i64 (.ofNat 2)), (.s ⟨#[66, 111, 111, 108]⟩), (.i .i64 (.ofNat 0)), (.sl []), (.i .i64 (.ofNat 0))])
def x103 : AV := (.pe [(.pe [x47, x48] 0), (.d (.sl [x30])), (.d (.i .i64 (.ofNat 3))), (.d (.s ⟨#[]⟩)), (.d (.i .i64 (.ofNat 0))), (.d (.sl [x50, x1])), (.bs [x0]), (.bs [(.b true)]), (.bs [x102])] 0)
def x104 : D := (.ag [(.i .i64 (.ofNat 0)), (.i .i64 (.ofNat 0)), (.sl []), (.sl [])])
def x105 : D := (.sl [(.i .u8 (.ofNat 0)), (.i .u8 (.ofNat 0)), (.i .u8 (.ofNat 0)), (.i .u8 (.ofNat 1)), (.i .u8 (.ofNat 0)), (.i .u8 (.ofNat 1)), (.i .u8 (.ofNat 0)), (.i .u8 (.ofNat 2)), (.i .u8 (.ofNat 1)), (.i .u8 (.ofNat 0)), (.i .u8 (.ofNat 1)), (.i .u8 (.ofNat 5)), (.i .u8 (.ofNat 0)), (.i .u8 (.ofNat 0)), (.i .u8 (.ofNat 0)), (.i .u8 (.ofNat 1)), (.i .u8 (.ofNat 0)), (.i .u8 (.ofNat 0)), (.i .u8 (.ofNat 0)), (.i .u8 (.ofNat 2)), (.i .u8 (.ofNat 1)), (.i .u8 (.ofNat 0)), (.i .u8 (.ofNat 0)), (.i .u8 (.ofNat 0)), (.i .u8 (.ofNat 1)), (.i .u8 (.ofNat 0)), (.i .u8 (.ofNat 0)), (.i .u8 (.ofNat 0)), (.i .u8 (.ofNat 2)), (.i .u8 (.ofNat 0)), (.i .u8 (.ofNat 1)), (.i .u8 (.ofNat 5)), (.i .u8 (.ofNat 0)), (.i .u8 (.ofNat 0)), (.i .u8 (.ofNat 0)), (.i .u8 (.ofNat 1)), (.i .u8 (.ofNat 0)), (.i .u8 (.ofNat 0)), (.i .u8 (.ofNat 0)), (.i .u8 (.ofNat 2)), (.i .u8 (.ofNat 1)), (.i .u8 (.ofNat 0)), (.i .u8 (.ofNat 0)), (.i .u8 (.ofNat 0)), (.i .u8 (.ofNat 1)), (.i .u8 (.ofNat 0)), (.i .u8 (.ofNat 0)), (.i .u8 (.ofNat 0))])
def x106 : D := (.sl [(.i .u8 (.ofNat 0)), (.i .u8 (.ofNat 0)), (.i .u8 (.ofNat 0)), (.i .u8 (.ofNat 0)), (.i .u8 (.ofNat 0))])
def x107 : D := (.sl [(.i .u8 (.ofNat 128)), (.i .u8 (.ofNat 0)), (.i .u8 (.ofNat 0)), (.i .u8 (.ofNat 0)), (.i .u8 (.ofNat 0))])
def x108 : D := (.ag [(.i .i64 (.ofNat 1)), (.s ⟨#[]⟩), (.i .i64 (.ofNat 0)), (.sl [])])
def x109 : D := (.ag [(.sl [x68]), (.i .i64 (.ofNat 0)), (.s ⟨#[]⟩), (.i .i64 (.ofNat 0)), (.sl [])])
def x110 : D := (.ag [(.i .i64 (.ofNat 0)), (.i .i64 (.ofNat 0)), (.sl []), (.sl [x96])])
def x111 : AV := (.f 124 [] [(.pe [(.d (.i .i64 (.ofNat 0)))] 0)])
theorem f0 : Fact F 10 [(.d (.i .i64 (.ofNat 0)))] [.v (.d x0)] := fact_of (k := 1000) _ (by kernel_rfl) fn
theorem f1 : Fact F 11 [(.d (.s ⟨#[66, 111, 120]⟩)), (.d (.sl [x0]))] [.v (.d x1)] := fact_of (k := 1000) _ (by kernel_rfl) fn
theorem f2 : Fact F 11 [(.d (.s ⟨#[73, 110, 116]⟩)), (.d (.sl []))] [.v (.d x2)] := fact_of (k := 1000) _ (by kernel_rfl) fn
theorem f3 : Fact F 11 [(.d (.s ⟨#[66, 111, 120]⟩)), (.d (.sl [x2]))] [.v (.d x3)] := fact_of (k := 1000) _ (by kernel_rfl) fn
theorem f4 : Fact F 11 [(.d (.s ⟨#[83, 104, 97, 112, 101]⟩)), (.d (.sl []))] [.v (.d x4)] := fact_of (k := 1000) _ (by kernel_rfl) fn
theorem f5 : Fact F 10 [(.d (.i .i64 (.ofNat 1)))] [.v (.d x5)] := fact_of (k := 1000) _ (by kernel_rfl) fn
theorem f6 : Fact F 11 [(.d (.s ⟨#[66, 111, 120]⟩)), (.d (.sl [x1]))] [.v (.d x6)] := fact_of (k := 1000) _ (by kernel_rfl) fn
theorem f7 : Fact F 9 [] [.v (.d x21)] := fact_of (k := 1000) _ (by kernel_rfl) (fc f0 (fc f1 (fc f2 (fc f3 (fc f2 (fc f4 (fc f4 (fc f2 (fc f5 (fc f1 (fc f6 (fc f1 fn))))))))))))
theorem f8 : Fact F 95 [x27, (.d (.s ⟨#[66, 111, 120]⟩))] [.v (.d x28), .v (.d (.b false))] := fact_of (k := 1000) _ (by kernel_rfl) fn
theorem f9 : Fact F 227 [(.d (.i .u8 (.ofNat 66)))] [.v (.d (.b true))] := fact_of (k := 1000) _ (by kernel_rfl) fn
theorem f10 : Fact F 230 [(.d (.i .u8 (.ofNat 66)))] [.v (.d (.b true))] := fact_of (k := 1000) _ (by kernel_rfl) (fc f9 fn)
theorem f11 : Fact F 229 [(.d (.i .u8 (.ofNat 66)))] [.v (.d (.b true))] := fact_of (k := 1000) _ (by kernel_rfl) (fc f10 fn)
theorem f12 : Fact F 227 [(.d (.i .u8 (.ofNat 111)))] [.v (.d (.b true))] := fact_of (k := 1000) _ (by kernel_rfl) fn
theorem f13 : Fact F 230 [(.d (.i .u8 (.ofNat 111)))] [.v (.d (.b true))] := fact_of (k := 1000) _ (by kernel_rfl) (fc f12 fn)
theorem f14 : Fact F 229 [(.d (.i .u8 (.ofNat 111)))] [.v (.d (.b true))] := fact_of (k := 1000) _ (by kernel_rfl) (fc f13 fn)
theorem f15 : Fact F 227 [(.d (.i .u8 (.ofNat 120)))] [.v (.d (.b true))] := fact_of (k := 1000) _ (by kernel_rfl) fn
theorem f16 : Fact F 230 [(.d (.i .u8 (.ofNat 120)))] [.v (.d (.b true))] := fact_of (k := 1000) _ (by kernel_rfl) (fc f15 fn)
theorem f17 : Fact F 229 [(.d (.i .u8 (.ofNat 120)))] [.v (.d (.b true))] := fact_of (k := 1000) _ (by kernel_rfl) (fc f16 fn)
theorem f18 : Fact F 228 [(.d (.s ⟨#[66, 111, 120]⟩)), (.f 229 [] [])] [.v (.d (.b true))] := fact_of (k := 1000) _ (by kernel_rfl) (fc f11 (fc f14 (fc f17 fn)))
theorem f19 : Fact F 165 [(.d (.s ⟨#[66, 111, 120]⟩))] [.v (.d (.b true))] := fact_of (k := 1000) _ (by kernel_rfl) (fc f9 (fc f18 fn))
theorem f20 : Fact F 231 [(.d x29), (.d (.s ⟨#[66, 111, 120]⟩))] [.v (.d (.i .i64 (.negSucc 0)))] := fact_of (k := 1000) _ (by kernel_rfl) fn
theorem f21 : Fact F 166 [(.d x29), (.d (.s ⟨#[66, 111, 120]⟩))] [.v (.d (.b false))] := fact_of (k := 1000) _ (by kernel_rfl) (fc f20 fn)
theorem f22 : Fact F 106 [(.d x30)] [.v (.d (.i .i64 (.ofNat 1)))] := fact_of (k := 1000) _ (by kernel_rfl) fn
theorem f23 : Fact F 107 [(.d x30)] [.v (.d (.i .i64 (.ofNat 1)))] := fact_of (k := 1000) _ (by kernel_rfl) fn
theorem f24 : Fact F 173 [(.d x30)] [.v (.d (.b true))] := fact_of (k := 1000) _ (by kernel_rfl) fn
theorem f25 : Fact F 108 [(.d x30)] [.v (.d (.b true))] := fact_of (k := 1000) _ (by kernel_rfl) (fc f24 fn)
theorem f26 : Fact F 47 [(.d x30)] [.v (.d (.i .i64 (.ofNat 0)))] := fact_of (k := 1000) _ (by kernel_rfl) (fc f22 (fc f23 (fc f25 fn)))
theorem f27 : Fact F 238 [(.d x30), (.d (.i .i64 (.ofNat 0)))] [.v (.d (.b true))] := fact_of (k := 1000) _ (by kernel_rfl) fn
theorem f28 : Fact F 232 [(.d x30)] [.v (.d (.b true))] := fact_of (k := 1000) _ (by kernel_rfl) (fc f27 fn)
theorem f29 : Fact F 109 [(.d x30)] [.v (.d (.sl []))] := fact_of (k := 1000) _ (by kernel_rfl) fn
theorem f30 : Fact F 167 [(.d x30), (.d (.i .i64 (.ofNat 1)))] [.v (.d (.b true))] := fact_of (k := 1000) _ (by kernel_rfl) (fc f26 (fc f28 (fc f29 fn)))
theorem f31 : Fact F 96 [(.d x7)] [.v (.d (.b true))] := fact_of (k := 1000) _ (by kernel_rfl) (fc f19 (fc f21 (fc f30 fn)))
theorem f32 : Fact F 49 [x27, (.d x30)] [.v (.d (.b true))] := fact_of (k := 1000) _ (by kernel_rfl) fn
theorem f33 : Fact F 66 [(.d x30), (.d (.sl []))] [.v (.d x30)] := fact_of (k := 1000) _ (by kernel_rfl) fn
theorem f34 : Fact F 170 [(.d x30)] [.v (.d x30)] := fact_of (k := 1000) _ (by kernel_rfl) (fc f33 fn)
theorem f35 : Fact F 98 [(.d x7)] [.v (.d x7)] := fact_of (k := 1000) _ (by kernel_rfl) (fc f34 fn)
theorem f36 : Fact F 95 [x32, (.d (.s ⟨#[]⟩))] [.v (.d x28), .v (.d (.b false))] := fact_of (k := 1000) _ (by kernel_rfl) fn
theorem f37 : Fact F 280 [(.d (.i .u8 (.ofNat 66)))] [.v (.d (.b true))] := fact_of (k := 1000) _ (by kernel_rfl) fn
theorem f38 : Fact F 281 [(.d (.i .u8 (.ofNat 66)))] [.v (.d (.b true))] := fact_of (k := 1000) _ (by kernel_rfl) (fc f37 fn)
theorem f39 : Fact F 280 [(.d (.i .u8 (.ofNat 111)))] [.v (.d (.b true))] := fact_of (k := 1000) _ (by kernel_rfl) fn
theorem f40 : Fact F 281 [(.d (.i .u8 (.ofNat 111)))] [.v (.d (.b true))] := fact_of (k := 1000) _ (by kernel_rfl) (fc f39 fn)
theorem f41 : Fact F 280 [(.d (.i .u8 (.ofNat 120)))] [.v (.d (.b true))] := fact_of (k := 1000) _ (by kernel_rfl) fn
theorem f42 : Fact F 281 [(.d (.i .u8 (.ofNat 120)))] [.v (.d (.b true))] := fact_of (k := 1000) _ (by kernel_rfl) (fc f41 fn)
theorem f43 : Fact F 234 [(.d (.s ⟨#[66, 111, 120]⟩))] [.v (.d (.b true))] := fact_of (k := 1000) _ (by kernel_rfl) (fc f37 (fc f38 (fc f40 (fc f42 fn))))
theorem f44 : Fact F 235 [(.d (.s ⟨#[66, 111, 120]⟩))] [.v (.d (.b false))] := fact_of (k := 1000) _ (by kernel_rfl) fn
theorem f45 : Fact F 21 [] [.v (.d x30)] := fact_of (k := 1000) _ (by kernel_rfl) fn
theorem f46 : Fact F 60 [(.d x30), (.d x30)] [.v (.d (.i .i64 (.ofNat 0)))] := fact_of (k := 1000) _ (by kernel_rfl) fn
theorem f47 : Fact F 19 [(.d x30), (.d x30)] [.v (.d (.b true))] := fact_of (k := 1000) _ (by kernel_rfl) (fc f46 fn)
theorem f48 : Fact F 320 [(.d x30), (.d (.i .i64 (.ofNat 0))), (.d (.sl []))] [.v (.d (.sl []))] := fact_of (k := 1000) _ (by kernel_rfl) fn
theorem f49 : Fact F 282 [(.d x30)] [.v (.d (.sl []))] := fact_of (k := 1000) _ (by kernel_rfl) (fc f48 fn)
theorem f50 : Fact F 321 [(.d x30)] [.v (.d (.i .i64 (.ofNat 1)))] := fact_of (k := 1000) _ (by kernel_rfl) fn
theorem f51 : Fact F 322 [(.d x30)] [.v (.d (.i .i64 (.ofNat 1)))] := fact_of (k := 1000) _ (by kernel_rfl) fn
theorem f52 : Fact F 323 [(.d x30)] [.v (.d (.b true))] := fact_of (k := 1000) _ (by kernel_rfl) fn
theorem f53 : Fact F 283 [(.d x30)] [.v (.d (.i .i64 (.ofNat 0)))] := fact_of (k := 1000) _ (by kernel_rfl) (fc f50 (fc f51 (fc f52 fn)))
theorem f54 : Fact F 324 [(.d x30)] [.v (.d (.b true))] := fact_of (k := 1000) _ (by kernel_rfl) (fc f49 fn)
theorem f55 : Fact F 284 [(.d x30)] [.v (.d (.b true))] := fact_of (k := 1000) _ (by kernel_rfl) (fc f54 fn)
theorem f56 : Fact F 236 [(.d x30), (.d (.i .i64 (.ofNat 1)))] [.v (.d (.b true))] := fact_of (k := 1000) _ (by kernel_rfl) (fc f49 (fc f53 (fc f55 fn)))
theorem f57 : Fact F 172 [(.d x7)] [.v (.d (.b true))] := fact_of (k := 1000) _ (by kernel_rfl) (fc f43 (fc f44 (fc f45 (fc f47 (fc f56 fn)))))
theorem f58 : Fact F 102 [(.d x7)] [.v (.d (.i .i64 (.ofNat 0)))] := fact_of (k := 1000) _ (by kernel_rfl) (fc f57 fn)
theorem f59 : Fact F 103 [(.pe [(.bs [x22, x23, x24, x25])] 0), (.d (.s ⟨#[66, 111, 120]⟩))] [.v (.d x28), .v (.d (.b false))] := fact_of (k := 1000) _ (by kernel_rfl) fn
theorem f60 : Fact F 46 [(.pe [(.bs [x22, x23, x24, x25])] 0)] [.row 8 [x22, x23, x24, x25] 0 4] := fact_of (k := 1000) _ (by kernel_rfl) fn
theorem f61 : Fact F 105 [(.pe [(.bs [x22, x23, x24, x25])] 0), (.d x30)] [.v (.d (.b true))] := fact_of (k := 1000) _ (by kernel_rfl) fn
theorem f62 : Fact F 103 [(.pe [(.bs [x22, x23, x24, x25])] 0), (.d (.s ⟨#[]⟩))] [.v (.d x28), .v (.d (.b false))] := fact_of (k := 1000) _ (by kernel_rfl) fn
theorem f63 : Fact F 95 [x32, (.d (.s ⟨#[67, 101, 108, 108]⟩))] [.v (.d x28), .v (.d (.b false))] := fact_of (k := 1000) _ (by kernel_rfl) fn
theorem f64 : Fact F 227 [(.d (.i .u8 (.ofNat 67)))] [.v (.d (.b true))] := fact_of (k := 1000) _ (by kernel_rfl) fn
theorem f65 : Fact F 230 [(.d (.i .u8 (.ofNat 67)))] [.v (.d (.b true))] := fact_of (k := 1000) _ (by kernel_rfl) (fc f64 fn)
theorem f66 : Fact F 229 [(.d (.i .u8 (.ofNat 67)))] [.v (.d (.b true))] := fact_of (k := 1000) _ (by kernel_rfl) (fc f65 fn)
theorem f67 : Fact F 227 [(.d (.i .u8 (.ofNat 101)))] [.v (.d (.b true))] := fact_of (k := 1000) _ (by kernel_rfl) fn
theorem f68 : Fact F 230 [(.d (.i .u8 (.ofNat 101)))] [.v (.d (.b true))] := fact_of (k := 1000) _ (by kernel_rfl) (fc f67 fn)
theorem f69 : Fact F 229 [(.d (.i .u8 (.ofNat 101)))] [.v (.d (.b true))] := fact_of (k := 1000) _ (by kernel_rfl) (fc f68 fn)
theorem f70 : Fact F 227 [(.d (.i .u8 (.ofNat 108)))] [.v (.d (.b true))] := fact_of (k := 1000) _ (by kernel_rfl) fn
theorem f71 : Fact F 230 [(.d (.i .u8 (.ofNat 108)))] [.v (.d (.b true))] := fact_of (k := 1000) _ (by kernel_rfl) (fc f70 fn)
theorem f72 : Fact F 229 [(.d (.i .u8 (.ofNat 108)))] [.v (.d (.b true))] := fact_of (k := 1000) _ (by kernel_rfl) (fc f71 fn)
theorem f73 : Fact F 228 [(.d (.s ⟨#[67, 101, 108, 108]⟩)), (.f 229 [] [])] [.v (.d (.b true))] := fact_of (k := 1000) _ (by kernel_rfl) (fc f66 (fc f69 (fc f72 (fc f72 fn))))
theorem f74 : Fact F 165 [(.d (.s ⟨#[67, 101, 108, 108]⟩))] [.v (.d (.b true))] := fact_of (k := 1000) _ (by kernel_rfl) (fc f64 (fc f73 fn))
theorem f75 : Fact F 231 [(.d x29), (.d (.s ⟨#[67, 101, 108, 108]⟩))] [.v (.d (.i .i64 (.negSucc 0)))] := fact_of (k := 1000) _ (by kernel_rfl) fn
theorem f76 : Fact F 166 [(.d x29), (.d (.s ⟨#[67, 101, 108, 108]⟩))] [.v (.d (.b false))] := fact_of (k := 1000) _ (by kernel_rfl) (fc f75 fn)
theorem f77 : Fact F 106 [(.d x0)] [.v (.d (.i .i64 (.ofNat 1)))] := fact_of (k := 1000) _ (by kernel_rfl) fn
theorem f78 : Fact F 106 [(.d x1)] [.v (.d (.i .i64 (.ofNat 2)))] := fact_of (k := 1000) _ (by kernel_rfl) (fc f77 fn)
theorem f79 : Fact F 107 [(.d x0)] [.v (.d (.i .i64 (.ofNat 1)))] := fact_of (k := 1000) _ (by kernel_rfl) fn
theorem f80 : Fact F 107 [(.d x1)] [.v (.d (.i .i64 (.ofNat 2)))] := fact_of (k := 1000) _ (by kernel_rfl) (fc f79 fn)
theorem f81 : Fact F 232 [(.d x0)] [.v (.d (.b true))] := fact_of (k := 1000) _ (by kernel_rfl) fn
theorem f82 : Fact F 285 [(.d x0)] [.v (.d (.b false))] := fact_of (k := 1000) _ (by kernel_rfl) (fc f81 fn)
theorem f83 : Fact F 237 [(.d x1)] [.v (.d (.b true))] := fact_of (k := 1000) _ (by kernel_rfl) (fc f82 fn)
theorem f84 : Fact F 173 [(.d x1)] [.v (.d (.b true))] := fact_of (k := 1000) _ (by kernel_rfl) (fc f19 (fc f21 (fc f83 fn)))
theorem f85 : Fact F 173 [(.d x0)] [.v (.d (.b true))] := fact_of (k := 1000) _ (by kernel_rfl) fn
theorem f86 : Fact F 108 [(.d x0)] [.v (.d (.b true))] := fact_of (k := 1000) _ (by kernel_rfl) (fc f85 fn)
theorem f87 : Fact F 174 [(.d x0)] [.v (.d (.b false))] := fact_of (k := 1000) _ (by kernel_rfl) (fc f86 fn)
theorem f88 : Fact F 108 [(.d x1)] [.v (.d (.b true))] := fact_of (k := 1000) _ (by kernel_rfl) (fc f84 (fc f87 fn))
theorem f89 : Fact F 47 [(.d x1)] [.v (.d (.i .i64 (.ofNat 0)))] := fact_of (k := 1000) _ (by kernel_rfl) (fc f78 (fc f80 (fc f88 fn)))
theorem f90 : Fact F 202 [(.d x1), (.d (.i .i64 (.ofNat 0)))] [.v (.d (.i .i64 (.ofNat 0)))] := fact_of (k := 1000) _ (by kernel_rfl) fn
theorem f91 : Fact F 238 [(.d x0), (.d (.i .i64 (.ofNat 0)))] [.v (.d (.b false))] := fact_of (k := 1000) _ (by kernel_rfl) fn
theorem f92 : Fact F 238 [(.d x1), (.d (.i .i64 (.ofNat 0)))] [.v (.d (.b false))] := fact_of (k := 1000) _ (by kernel_rfl) (fc f90 (fc f91 fn))
theorem f93 : Fact F 232 [(.d x1)] [.v (.d (.b true))] := fact_of (k := 1000) _ (by kernel_rfl) (fc f92 (fc f83 fn))
theorem f94 : Fact F 286 [(.d (.sl [])), (.d (.i .i64 (.ofNat 0)))] [.v (.d (.i .i64 (.ofNat 0))), .v (.d (.b false))] := fact_of (k := 1000) _ (by kernel_rfl) fn
theorem f95 : Fact F 109 [(.d x1)] [.v (.d (.sl [(.i .i64 (.ofNat 0))]))] := fact_of (k := 1000) _ (by kernel_rfl) (fc f90 (fc f94 fn))
theorem f96 : Fact F 233 [(.d (.i .i64 (.ofNat 0))), (.pe [(.d (.i .i64 (.ofNat 1)))] 0)] [.v (.d (.b false))] := fact_of (k := 1000) _ (by kernel_rfl) fn
theorem f97 : Fact F 167 [(.d x1), (.d (.i .i64 (.ofNat 1)))] [.v (.d (.b true))] := fact_of (k := 1000) _ (by kernel_rfl) (fc f89 (fc f93 (fc f95 (fc f96 fn))))
theorem f98 : Fact F 227 [(.d (.i .u8 (.ofNat 105)))] [.v (.d (.b true))] := fact_of (k := 1000) _ (by kernel_rfl) fn
theorem f99 : Fact F 230 [(.d (.i .u8 (.ofNat 105)))] [.v (.d (.b true))] := fact_of (k := 1000) _ (by kernel_rfl) (fc f98 fn)
theorem f100 : Fact F 229 [(.d (.i .u8 (.ofNat 105)))] [.v (.d (.b true))] := fact_of (k := 1000) _ (by kernel_rfl) (fc f99 fn)
theorem f101 : Fact F 227 [(.d (.i .u8 (.ofNat 116)))] [.v (.d (.b true))] := fact_of (k := 1000) _ (by kernel_rfl) fn
theorem f102 : Fact F 230 [(.d (.i .u8 (.ofNat 116)))] [.v (.d (.b true))] := fact_of (k := 1000) _ (by kernel_rfl) (fc f101 fn)
theorem f103 : Fact F 229 [(.d (.i .u8 (.ofNat 116)))] [.v (.d (.b true))] := fact_of (k := 1000) _ (by kernel_rfl) (fc f102 fn)
theorem f104 : Fact F 227 [(.d (.i .u8 (.ofNat 109)))] [.v (.d (.b true))] := fact_of (k := 1000) _ (by kernel_rfl) fn
theorem f105 : Fact F 230 [(.d (.i .u8 (.ofNat 109)))] [.v (.d (.b true))] := fact_of (k := 1000) _ (by kernel_rfl) (fc f104 fn)
theorem f106 : Fact F 229 [(.d (.i .u8 (.ofNat 109)))] [.v (.d (.b true))] := fact_of (k := 1000) _ (by kernel_rfl) (fc f105 fn)
theorem f107 : Fact F 228 [(.d (.s ⟨#[105, 116, 101, 109]⟩)), (.f 229 [] [])] [.v (.d (.b true))] := fact_of (k := 1000) _ (by kernel_rfl) (fc f100 (fc f103 (fc f69 (fc f106 fn))))
theorem f108 : Fact F 165 [(.d (.s ⟨#[105, 116, 101, 109]⟩))] [.v (.d (.b true))] := fact_of (k := 1000) _ (by kernel_rfl) (fc f98 (fc f107 fn))
theorem f109 : Fact F 47 [(.d x0)] [.v (.d (.i .i64 (.ofNat 0)))] := fact_of (k := 1000) _ (by kernel_rfl) (fc f77 (fc f79 (fc f86 fn)))
theorem f110 : Fact F 109 [(.d x0)] [.v (.d (.sl [(.i .i64 (.ofNat 0))]))] := fact_of (k := 1000) _ (by kernel_rfl) (fc f94 fn)
theorem f111 : Fact F 167 [(.d x0), (.d (.i .i64 (.ofNat 1)))] [.v (.d (.b true))] := fact_of (k := 1000) _ (by kernel_rfl) (fc f109 (fc f81 (fc f110 (fc f96 fn))))
theorem f112 : Fact F 96 [(.d x9)] [.v (.d (.b true))] := fact_of (k := 1000) _ (by kernel_rfl) (fc f74 (fc f76 (fc f97 (fc f108 (fc f111 fn)))))
theorem f113 : Fact F 95 [x32, (.d (.s ⟨#[66, 111, 120]⟩))] [.v (.d x7), .v (.d (.b true))] := fact_of (k := 1000) _ (by kernel_rfl) fn
theorem f114 : Fact F 110 [x32, (.d x1)] [.v (.d (.b true))] := fact_of (k := 1000) _ (by kernel_rfl) (fc f113 fn)
theorem f115 : Fact F 49 [x32, (.d x0)] [.v (.d (.b true))] := fact_of (k := 1000) _ (by kernel_rfl) fn
theorem f116 : Fact F 112 [(.d x0), (.pe [x32] 0)] [.v (.d (.b false))] := fact_of (k := 1000) _ (by kernel_rfl) (fc f115 fn)
theorem f117 : Fact F 49 [x32, (.d x1)] [.v (.d (.b true))] := fact_of (k := 1000) _ (by kernel_rfl) (fc f114 (fc f116 fn))
theorem f118 : Fact F 66 [(.d x1), (.d (.sl []))] [.v (.d x1)] := fact_of (k := 1000) _ (by kernel_rfl) (fc f90 fn)
theorem f119 : Fact F 170 [(.d x1)] [.v (.d x1)] := fact_of (k := 1000) _ (by kernel_rfl) (fc f118 fn)
theorem f120 : Fact F 66 [(.d x0), (.d (.sl []))] [.v (.d x0)] := fact_of (k := 1000) _ (by kernel_rfl) fn
theorem f121 : Fact F 170 [(.d x0)] [.v (.d x0)] := fact_of (k := 1000) _ (by kernel_rfl) (fc f120 fn)
theorem f122 : Fact F 98 [(.d x9)] [.v (.d x9)] := fact_of (k := 1000) _ (by kernel_rfl) (fc f119 (fc f121 fn))
theorem f123 : Fact F 49 [x34, (.d x0)] [.v (.d (.b true))] := fact_of (k := 1000) _ (by kernel_rfl) fn
theorem f124 : Fact F 100 [(.d x8), (.pe [x34] 0)] [.v (.d (.b false))] := fact_of (k := 1000) _ (by kernel_rfl) (fc f123 fn)
theorem f125 : Fact F 95 [x34, (.d (.s ⟨#[66, 111, 120]⟩))] [.v (.d x7), .v (.d (.b true))] := fact_of (k := 1000) _ (by kernel_rfl) fn
theorem f126 : Fact F 280 [(.d (.i .u8 (.ofNat 67)))] [.v (.d (.b true))] := fact_of (k := 1000) _ (by kernel_rfl) fn
theorem f127 : Fact F 281 [(.d (.i .u8 (.ofNat 67)))] [.v (.d (.b true))] := fact_of (k := 1000) _ (by kernel_rfl) (fc f126 fn)
theorem f128 : Fact F 280 [(.d (.i .u8 (.ofNat 101)))] [.v (.d (.b true))] := fact_of (k := 1000) _ (by kernel_rfl) fn
theorem f129 : Fact F 281 [(.d (.i .u8 (.ofNat 101)))] [.v (.d (.b true))] := fact_of (k := 1000) _ (by kernel_rfl) (fc f128 fn)
theorem f130 : Fact F 280 [(.d (.i .u8 (.ofNat 108)))] [.v (.d (.b true))] := fact_of (k := 1000) _ (by kernel_rfl) fn
theorem f131 : Fact F 281 [(.d (.i .u8 (.ofNat 108)))] [.v (.d (.b true))] := fact_of (k := 1000) _ (by kernel_rfl) (fc f130 fn)
theorem f132 : Fact F 234 [(.d (.s ⟨#[67, 101, 108, 108]⟩))] [.v (.d (.b true))] := fact_of (k := 1000) _ (by kernel_rfl) (fc f126 (fc f127 (fc f129 (fc f131 (fc f131 fn)))))
theorem f133 : Fact F 235 [(.d (.s ⟨#[67, 101, 108, 108]⟩))] [.v (.d (.b false))] := fact_of (k := 1000) _ (by kernel_rfl) fn
theorem f134 : Fact F 342 [(.d x1), (.d (.i .i64 (.ofNat 0)))] [.v (.d (.i .i64 (.ofNat 0)))] := fact_of (k := 1000) _ (by kernel_rfl) fn
theorem f135 : Fact F 341 [(.d (.sl [])), (.d (.i .i64 (.ofNat 0)))] [.v (.d (.sl [(.i .i64 (.ofNat 0))]))] := fact_of (k := 1000) _ (by kernel_rfl) fn
theorem f136 : Fact F 320 [(.d x0), (.d (.i .i64 (.ofNat 0))), (.d (.sl []))] [.v (.d (.sl [(.i .i64 (.ofNat 0))]))] := fact_of (k := 1000) _ (by kernel_rfl) (fc f135 fn)
theorem f137 : Fact F 320 [(.d x1), (.d (.i .i64 (.ofNat 0))), (.d (.sl []))] [.v (.d (.sl [(.i .i64 (.ofNat 0))]))] := fact_of (k := 1000) _ (by kernel_rfl) (fc f134 (fc f136 fn))
theorem f138 : Fact F 282 [(.d x1)] [.v (.d (.sl [(.i .i64 (.ofNat 0))]))] := fact_of (k := 1000) _ (by kernel_rfl) (fc f137 fn)
theorem f139 : Fact F 321 [(.d x0)] [.v (.d (.i .i64 (.ofNat 1)))] := fact_of (k := 1000) _ (by kernel_rfl) fn
theorem f140 : Fact F 321 [(.d x1)] [.v (.d (.i .i64 (.ofNat 2)))] := fact_of (k := 1000) _ (by kernel_rfl) (fc f139 fn)
theorem f141 : Fact F 322 [(.d x0)] [.v (.d (.i .i64 (.ofNat 1)))] := fact_of (k := 1000) _ (by kernel_rfl) fn
theorem f142 : Fact F 322 [(.d x1)] [.v (.d (.i .i64 (.ofNat 2)))] := fact_of (k := 1000) _ (by kernel_rfl) (fc f141 fn)
theorem f143 : Fact F 284 [(.d x0)] [.v (.d (.b true))] := fact_of (k := 1000) _ (by kernel_rfl) fn
theorem f144 : Fact F 323 [(.d x0)] [.v (.d (.b true))] := fact_of (k := 1000) _ (by kernel_rfl) fn
theorem f145 : Fact F 323 [(.d x1)] [.v (.d (.b true))] := fact_of (k := 1000) _ (by kernel_rfl) (fc f43 (fc f44 (fc f143 (fc f144 fn))))
theorem f146 : Fact F 283 [(.d x1)] [.v (.d (.i .i64 (.ofNat 0)))] := fact_of (k := 1000) _ (by kernel_rfl) (fc f140 (fc f142 (fc f145 fn)))
theorem f147 : Fact F 324 [(.d x1)] [.v (.d (.b false))] := fact_of (k := 1000) _ (by kernel_rfl) (fc f138 fn)
theorem f148 : Fact F 284 [(.d x1)] [.v (.d (.b true))] := fact_of (k := 1000) _ (by kernel_rfl) (fc f147 (fc f143 fn))
theorem f149 : Fact F 236 [(.d x1), (.d (.i .i64 (.ofNat 1)))] [.v (.d (.b true))] := fact_of (k := 1000) _ (by kernel_rfl) (fc f138 (fc f146 (fc f148 fn)))
theorem f150 : Fact F 280 [(.d (.i .u8 (.ofNat 105)))] [.v (.d (.b true))] := fact_of (k := 1000) _ (by kernel_rfl) fn
theorem f151 : Fact F 281 [(.d (.i .u8 (.ofNat 105)))] [.v (.d (.b true))] := fact_of (k := 1000) _ (by kernel_rfl) (fc f150 fn)
theorem f152 : Fact F 280 [(.d (.i .u8 (.ofNat 116)))] [.v (.d (.b true))] := fact_of (k := 1000) _ (by kernel_rfl) fn
theorem f153 : Fact F 281 [(.d (.i .u8 (.ofNat 116)))] [.v (.d (.b true))] := fact_of (k := 1000) _ (by kernel_rfl) (fc f152 fn)
theorem f154 : Fact F 280 [(.d (.i .u8 (.ofNat 109)))] [.v (.d (.b true))] := fact_of (k := 1000) _ (by kernel_rfl) fn
theorem f155 : Fact F 281 [(.d (.i .u8 (.ofNat 109)))] [.v (.d (.b true))] := fact_of (k := 1000) _ (by kernel_rfl) (fc f154 fn)
theorem f156 : Fact F 234 [(.d (.s ⟨#[105, 116, 101, 109]⟩))] [.v (.d (.b true))] := fact_of (k := 1000) _ (by kernel_rfl) (fc f150 (fc f151 (fc f153 (fc f129 (fc f155 fn)))))
theorem f157 : Fact F 282 [(.d x0)] [.v (.d (.sl [(.i .i64 (.ofNat 0))]))] := fact_of (k := 1000) _ (by kernel_rfl) (fc f136 fn)
theorem f158 : Fact F 283 [(.d x0)] [.v (.d (.i .i64 (.ofNat 0)))] := fact_of (k := 1000) _ (by kernel_rfl) (fc f139 (fc f141 (fc f144 fn)))
theorem f159 : Fact F 236 [(.d x0), (.d (.i .i64 (.ofNat 1)))] [.v (.d (.b true))] := fact_of (k := 1000) _ (by kernel_rfl) (fc f157 (fc f158 (fc f143 fn)))
theorem f160 : Fact F 172 [(.d x9)] [.v (.d (.b true))] := fact_of (k := 1000) _ (by kernel_rfl) (fc f132 (fc f133 (fc f149 (fc f156 (fc f159 fn)))))
theorem f161 : Fact F 102 [(.d x9)] [.v (.d (.i .i64 (.ofNat 0)))] := fact_of (k := 1000) _ (by kernel_rfl) (fc f160 fn)
theorem f162 : Fact F 103 [(.pe [(.bs [x22, x23, x24, x25, x7])] 0), (.d (.s ⟨#[67, 101, 108, 108]⟩))] [.v (.d x28), .v (.d (.b false))] := fact_of (k := 1000) _ (by kernel_rfl) fn
theorem f163 : Fact F 46 [(.pe [(.bs [x22, x23, x24, x25, x7])] 0)] [.row 8 [x22, x23, x24, x25, x7] 0 5] := fact_of (k := 1000) _ (by kernel_rfl) fn
theorem f164 : Fact F 103 [(.pe [(.bs [x22, x23, x24, x25, x7])] 0), (.d (.s ⟨#[66, 111, 120]⟩))] [.v (.d x7), .v (.d (.b true))] := fact_of (k := 1000) _ (by kernel_rfl) fn
theorem f165 : Fact F 105 [(.pe [(.bs [x22, x23, x24, x25, x7])] 0), (.d x0)] [.v (.d (.b true))] := fact_of (k := 1000) _ (by kernel_rfl) fn
theorem f166 : Fact F 105 [(.pe [(.bs [x22, x23, x24, x25, x7])] 0), (.d x1)] [.v (.d (.b true))] := fact_of (k := 1000) _ (by kernel_rfl) (fc f164 (fc f165 fn))
theorem f167 : Fact F 105 [x35, (.d x0)] [.v (.d (.b true))] := fact_of (k := 1000) _ (by kernel_rfl) fn
theorem f168 : Fact F 95 [x34, (.d (.s ⟨#[73, 110, 116, 66, 111, 120]⟩))] [.v (.d x28), .v (.d (.b false))] := fact_of (k := 1000) _ (by kernel_rfl) fn
theorem f169 : Fact F 227 [(.d (.i .u8 (.ofNat 73)))] [.v (.d (.b true))] := fact_of (k := 1000) _ (by kernel_rfl) fn
theorem f170 : Fact F 230 [(.d (.i .u8 (.ofNat 73)))] [.v (.d (.b true))] := fact_of (k := 1000) _ (by kernel_rfl) (fc f169 fn)
theorem f171 : Fact F 229 [(.d (.i .u8 (.ofNat 73)))] [.v (.d (.b true))] := fact_of (k := 1000) _ (by kernel_rfl) (fc f170 fn)
theorem f172 : Fact F 227 [(.d (.i .u8 (.ofNat 110)))] [.v (.d (.b true))] := fact_of (k := 1000) _ (by kernel_rfl) fn
theorem f173 : Fact F 230 [(.d (.i .u8 (.ofNat 110)))] [.v (.d (.b true))] := fact_of (k := 1000) _ (by kernel_rfl) (fc f172 fn)
theorem f174 : Fact F 229 [(.d (.i .u8 (.ofNat 110)))] [.v (.d (.b true))] := fact_of (k := 1000) _ (by kernel_rfl) (fc f173 fn)
theorem f175 : Fact F 228 [(.d (.s ⟨#[73, 110, 116, 66, 111, 120]⟩)), (.f 229 [] [])] [.v (.d (.b true))] := fact_of (k := 1000) _ (by kernel_rfl) (fc f171 (fc f174 (fc f103 (fc f11 (fc f14 (fc f17 fn))))))
theorem f176 : Fact F 165 [(.d (.s ⟨#[73, 110, 116, 66, 111, 120]⟩))] [.v (.d (.b true))] := fact_of (k := 1000) _ (by kernel_rfl) (fc f169 (fc f175 fn))
theorem f177 : Fact F 231 [(.d x29), (.d (.s ⟨#[73, 110, 116, 66, 111, 120]⟩))] [.v (.d (.i .i64 (.negSucc 0)))] := fact_of (k := 1000) _ (by kernel_rfl) fn
theorem f178 : Fact F 166 [(.d x29), (.d (.s ⟨#[73, 110, 116, 66, 111, 120]⟩))] [.v (.d (.b false))] := fact_of (k := 1000) _ (by kernel_rfl) (fc f177 fn)
theorem f179 : Fact F 106 [(.d x2)] [.v (.d (.i .i64 (.ofNat 1)))] := fact_of (k := 1000) _ (by kernel_rfl) fn
theorem f180 : Fact F 106 [(.d x3)] [.v (.d (.i .i64 (.ofNat 2)))] := fact_of (k := 1000) _ (by kernel_rfl) (fc f179 fn)
theorem f181 : Fact F 107 [(.d x2)] [.v (.d (.i .i64 (.ofNat 1)))] := fact_of (k := 1000) _ (by kernel_rfl) fn
theorem f182 : Fact F 107 [(.d x3)] [.v (.d (.i .i64 (.ofNat 2)))] := fact_of (k := 1000) _ (by kernel_rfl) (fc f181 fn)
theorem f183 : Fact F 238 [(.d x2), (.d (.i .i64 (.ofNat 0)))] [.v (.d (.b true))] := fact_of (k := 1000) _ (by kernel_rfl) fn
theorem f184 : Fact F 232 [(.d x2)] [.v (.d (.b true))] := fact_of (k := 1000) _ (by kernel_rfl) (fc f183 fn)
theorem f185 : Fact F 285 [(.d x2)] [.v (.d (.b false))] := fact_of (k := 1000) _ (by kernel_rfl) (fc f184 fn)
theorem f186 : Fact F 237 [(.d x3)] [.v (.d (.b true))] := fact_of (k := 1000) _ (by kernel_rfl) (fc f185 fn)
theorem f187 : Fact F 173 [(.d x3)] [.v (.d (.b true))] := fact_of (k := 1000) _ (by kernel_rfl) (fc f19 (fc f21 (fc f186 fn)))
theorem f188 : Fact F 228 [(.d (.s ⟨#[73, 110, 116]⟩)), (.f 229 [] [])] [.v (.d (.b true))] := fact_of (k := 1000) _ (by kernel_rfl) (fc f171 (fc f174 (fc f103 fn)))
theorem f189 : Fact F 165 [(.d (.s ⟨#[73, 110, 116]⟩))] [.v (.d (.b true))] := fact_of (k := 1000) _ (by kernel_rfl) (fc f169 (fc f188 fn))
theorem f190 : Fact F 231 [(.d x29), (.d (.s ⟨#[73, 110, 116]⟩))] [.v (.d (.i .i64 (.negSucc 0)))] := fact_of (k := 1000) _ (by kernel_rfl) fn
theorem f191 : Fact F 166 [(.d x29), (.d (.s ⟨#[73, 110, 116]⟩))] [.v (.d (.b false))] := fact_of (k := 1000) _ (by kernel_rfl) (fc f190 fn)
theorem f192 : Fact F 237 [(.d x2)] [.v (.d (.b true))] := fact_of (k := 1000) _ (by kernel_rfl) fn
theorem f193 : Fact F 173 [(.d x2)] [.v (.d (.b true))] := fact_of (k := 1000) _ (by kernel_rfl) (fc f189 (fc f191 (fc f192 fn)))
theorem f194 : Fact F 108 [(.d x2)] [.v (.d (.b true))] := fact_of (k := 1000) _ (by kernel_rfl) (fc f193 fn)
theorem f195 : Fact F 174 [(.d x2)] [.v (.d (.b false))] := fact_of (k := 1000) _ (by kernel_rfl) (fc f194 fn)
theorem f196 : Fact F 108 [(.d x3)] [.v (.d (.b true))] := fact_of (k := 1000) _ (by kernel_rfl) (fc f187 (fc f195 fn))
theorem f197 : Fact F 47 [(.d x3)] [.v (.d (.i .i64 (.ofNat 0)))] := fact_of (k := 1000) _ (by kernel_rfl) (fc f180 (fc f182 (fc f196 fn)))
theorem f198 : Fact F 202 [(.d x3), (.d (.i .i64 (.ofNat 0)))] [.v (.d (.i .i64 (.ofNat 0)))] := fact_of (k := 1000) _ (by kernel_rfl) fn
theorem f199 : Fact F 238 [(.d x3), (.d (.i .i64 (.ofNat 0)))] [.v (.d (.b true))] := fact_of (k := 1000) _ (by kernel_rfl) (fc f198 (fc f183 fn))
theorem f200 : Fact F 232 [(.d x3)] [.v (.d (.b true))] := fact_of (k := 1000) _ (by kernel_rfl) (fc f199 fn)
theorem f201 : Fact F 109 [(.d x3)] [.v (.d (.sl []))] := fact_of (k := 1000) _ (by kernel_rfl) (fc f198 fn)
theorem f202 : Fact F 167 [(.d x3), (.d (.i .i64 (.ofNat 0)))] [.v (.d (.b true))] := fact_of (k := 1000) _ (by kernel_rfl) (fc f197 (fc f200 (fc f201 fn)))
theorem f203 : Fact F 47 [(.d x2)] [.v (.d (.i .i64 (.ofNat 0)))] := fact_of (k := 1000) _ (by kernel_rfl) (fc f179 (fc f181 (fc f194 fn)))
theorem f204 : Fact F 109 [(.d x2)] [.v (.d (.sl []))] := fact_of (k := 1000) _ (by kernel_rfl) fn
theorem f205 : Fact F 167 [(.d x2), (.d (.i .i64 (.ofNat 0)))] [.v (.d (.b true))] := fact_of (k := 1000) _ (by kernel_rfl) (fc f203 (fc f184 (fc f204 fn)))
theorem f206 : Fact F 96 [(.d x11)] [.v (.d (.b true))] := fact_of (k := 1000) _ (by kernel_rfl) (fc f176 (fc f178 (fc f202 (fc f108 (fc f205 fn)))))
theorem f207 : Fact F 110 [x34, (.d x3)] [.v (.d (.b true))] := fact_of (k := 1000) _ (by kernel_rfl) (fc f125 fn)
theorem f208 : Fact F 95 [x34, (.d (.s ⟨#[73, 110, 116]⟩))] [.v (.d x22), .v (.d (.b true))] := fact_of (k := 1000) _ (by kernel_rfl) fn
theorem f209 : Fact F 110 [x34, (.d x2)] [.v (.d (.b true))] := fact_of (k := 1000) _ (by kernel_rfl) (fc f208 fn)
theorem f210 : Fact F 49 [x34, (.d x2)] [.v (.d (.b true))] := fact_of (k := 1000) _ (by kernel_rfl) (fc f209 fn)
theorem f211 : Fact F 112 [(.d x2), (.pe [x34] 0)] [.v (.d (.b false))] := fact_of (k := 1000) _ (by kernel_rfl) (fc f210 fn)
theorem f212 : Fact F 49 [x34, (.d x3)] [.v (.d (.b true))] := fact_of (k := 1000) _ (by kernel_rfl) (fc f207 (fc f211 fn))
theorem f213 : Fact F 66 [(.d x3), (.d (.sl []))] [.v (.d x3)] := fact_of (k := 1000) _ (by kernel_rfl) (fc f198 fn)
theorem f214 : Fact F 170 [(.d x3)] [.v (.d x3)] := fact_of (k := 1000) _ (by kernel_rfl) (fc f213 fn)
theorem f215 : Fact F 66 [(.d x2), (.d (.sl []))] [.v (.d x2)] := fact_of (k := 1000) _ (by kernel_rfl) fn
theorem f216 : Fact F 170 [(.d x2)] [.v (.d x2)] := fact_of (k := 1000) _ (by kernel_rfl) (fc f215 fn)
theorem f217 : Fact F 98 [(.d x11)] [.v (.d x11)] := fact_of (k := 1000) _ (by kernel_rfl) (fc f214 (fc f216 fn))
theorem f218 : Fact F 95 [x37, (.d (.s ⟨#[73, 110, 116]⟩))] [.v (.d x22), .v (.d (.b true))] := fact_of (k := 1000) _ (by kernel_rfl) fn
theorem f219 : Fact F 110 [x37, (.d x2)] [.v (.d (.b true))] := fact_of (k := 1000) _ (by kernel_rfl) (fc f218 fn)
theorem f220 : Fact F 49 [x37, (.d x2)] [.v (.d (.b true))] := fact_of (k := 1000) _ (by kernel_rfl) (fc f219 fn)
theorem f221 : Fact F 100 [(.d x10), (.pe [x37] 0)] [.v (.d (.b false))] := fact_of (k := 1000) _ (by kernel_rfl) (fc f220 fn)
theorem f222 : Fact F 95 [x37, (.d (.s ⟨#[66, 111, 120]⟩))] [.v (.d x7), .v (.d (.b true))] := fact_of (k := 1000) _ (by kernel_rfl) fn
theorem f223 : Fact F 280 [(.d (.i .u8 (.ofNat 73)))] [.v (.d (.b true))] := fact_of (k := 1000) _ (by kernel_rfl) fn
theorem f224 : Fact F 281 [(.d (.i .u8 (.ofNat 73)))] [.v (.d (.b true))] := fact_of (k := 1000) _ (by kernel_rfl) (fc f223 fn)
theorem f225 : Fact F 280 [(.d (.i .u8 (.ofNat 110)))] [.v (.d (.b true))] := fact_of (k := 1000) _ (by kernel_rfl) fn
theorem f226 : Fact F 281 [(.d (.i .u8 (.ofNat 110)))] [.v (.d (.b true))] := fact_of (k := 1000) _ (by kernel_rfl) (fc f225 fn)
theorem f227 : Fact F 234 [(.d (.s ⟨#[73, 110, 116, 66, 111, 120]⟩))] [.v (.d (.b true))] := fact_of (k := 1000) _ (by kernel_rfl) (fc f223 (fc f224 (fc f226 (fc f153 (fc f38 (fc f40 (fc f42 fn)))))))
theorem f228 : Fact F 235 [(.d (.s ⟨#[73, 110, 116, 66, 111, 120]⟩))] [.v (.d (.b false))] := fact_of (k := 1000) _ (by kernel_rfl) fn
theorem f229 : Fact F 342 [(.d x3), (.d (.i .i64 (.ofNat 0)))] [.v (.d (.i .i64 (.ofNat 0)))] := fact_of (k := 1000) _ (by kernel_rfl) fn
theorem f230 : Fact F 320 [(.d x2), (.d (.i .i64 (.ofNat 0))), (.d (.sl []))] [.v (.d (.sl []))] := fact_of (k := 1000) _ (by kernel_rfl) fn
theorem f231 : Fact F 320 [(.d x3), (.d (.i .i64 (.ofNat 0))), (.d (.sl []))] [.v (.d (.sl []))] := fact_of (k := 1000) _ (by kernel_rfl) (fc f229 (fc f230 fn))
theorem f232 : Fact F 282 [(.d x3)] [.v (.d (.sl []))] := fact_of (k := 1000) _ (by kernel_rfl) (fc f231 fn)
theorem f233 : Fact F 321 [(.d x2)] [.v (.d (.i .i64 (.ofNat 1)))] := fact_of (k := 1000) _ (by kernel_rfl) fn
theorem f234 : Fact F 321 [(.d x3)] [.v (.d (.i .i64 (.ofNat 2)))] := fact_of (k := 1000) _ (by kernel_rfl) (fc f233 fn)
theorem f235 : Fact F 322 [(.d x2)] [.v (.d (.i .i64 (.ofNat 1)))] := fact_of (k := 1000) _ (by kernel_rfl) fn
theorem f236 : Fact F 322 [(.d x3)] [.v (.d (.i .i64 (.ofNat 2)))] := fact_of (k := 1000) _ (by kernel_rfl) (fc f235 fn)
theorem f237 : Fact F 282 [(.d x2)] [.v (.d (.sl []))] := fact_of (k := 1000) _ (by kernel_rfl) (fc f230 fn)
theorem f238 : Fact F 324 [(.d x2)] [.v (.d (.b true))] := fact_of (k := 1000) _ (by kernel_rfl) (fc f237 fn)
theorem f239 : Fact F 284 [(.d x2)] [.v (.d (.b true))] := fact_of (k := 1000) _ (by kernel_rfl) (fc f238 fn)
theorem f240 : Fact F 234 [(.d (.s ⟨#[73, 110, 116]⟩))] [.v (.d (.b true))] := fact_of (k := 1000) _ (by kernel_rfl) (fc f223 (fc f224 (fc f226 (fc f153 fn))))
theorem f241 : Fact F 235 [(.d (.s ⟨#[73, 110, 116]⟩))] [.v (.d (.b false))] := fact_of (k := 1000) _ (by kernel_rfl) fn
theorem f242 : Fact F 323 [(.d x2)] [.v (.d (.b true))] := fact_of (k := 1000) _ (by kernel_rfl) (fc f240 (fc f241 fn))
theorem f243 : Fact F 323 [(.d x3)] [.v (.d (.b true))] := fact_of (k := 1000) _ (by kernel_rfl) (fc f43 (fc f44 (fc f239 (fc f242 fn))))
theorem f244 : Fact F 283 [(.d x3)] [.v (.d (.i .i64 (.ofNat 0)))] := fact_of (k := 1000) _ (by kernel_rfl) (fc f234 (fc f236 (fc f243 fn)))
theorem f245 : Fact F 324 [(.d x3)] [.v (.d (.b true))] := fact_of (k := 1000) _ (by kernel_rfl) (fc f232 fn)
theorem f246 : Fact F 284 [(.d x3)] [.v (.d (.b true))] := fact_of (k := 1000) _ (by kernel_rfl) (fc f245 fn)
theorem f247 : Fact F 236 [(.d x3), (.d (.i .i64 (.ofNat 0)))] [.v (.d (.b true))] := fact_of (k := 1000) _ (by kernel_rfl) (fc f232 (fc f244 (fc f246 fn)))
theorem f248 : Fact F 283 [(.d x2)] [.v (.d (.i .i64 (.ofNat 0)))] := fact_of (k := 1000) _ (by kernel_rfl) (fc f233 (fc f235 (fc f242 fn)))
theorem f249 : Fact F 236 [(.d x2), (.d (.i .i64 (.ofNat 0)))] [.v (.d (.b true))] := fact_of (k := 1000) _ (by kernel_rfl) (fc f237 (fc f248 (fc f239 fn)))
theorem f250 : Fact F 172 [(.d x11)] [.v (.d (.b true))] := fact_of (k := 1000) _ (by kernel_rfl) (fc f227 (fc f228 (fc f247 (fc f156 (fc f249 fn)))))
theorem f251 : Fact F 102 [(.d x11)] [.v (.d (.i .i64 (.ofNat 0)))] := fact_of (k := 1000) _ (by kernel_rfl) (fc f250 fn)
theorem f252 : Fact F 103 [x35, (.d (.s ⟨#[73, 110, 116, 66, 111, 120]⟩))] [.v (.d x28), .v (.d (.b false))] := fact_of (k := 1000) _ (by kernel_rfl) fn
theorem f253 : Fact F 46 [x35] [.row 8 [x22, x23, x24, x25, x7, x9] 0 6] := fact_of (k := 1000) _ (by kernel_rfl) fn
theorem f254 : Fact F 103 [x35, (.d (.s ⟨#[66, 111, 120]⟩))] [.v (.d x7), .v (.d (.b true))] := fact_of (k := 1000) _ (by kernel_rfl) fn
theorem f255 : Fact F 103 [x35, (.d (.s ⟨#[73, 110, 116]⟩))] [.v (.d x22), .v (.d (.b true))] := fact_of (k := 1000) _ (by kernel_rfl) fn
theorem f256 : Fact F 105 [x35, (.d x2)] [.v (.d (.b true))] := fact_of (k := 1000) _ (by kernel_rfl) (fc f255 fn)
theorem f257 : Fact F 105 [x35, (.d x3)] [.v (.d (.b true))] := fact_of (k := 1000) _ (by kernel_rfl) (fc f254 (fc f256 fn))
theorem f258 : Fact F 103 [x38, (.d (.s ⟨#[73, 110, 116]⟩))] [.v (.d x22), .v (.d (.b true))] := fact_of (k := 1000) _ (by kernel_rfl) fn
theorem f259 : Fact F 105 [x38, (.d x2)] [.v (.d (.b true))] := fact_of (k := 1000) _ (by kernel_rfl) (fc f258 fn)
theorem f260 : Fact F 95 [x37, (.d (.s ⟨#[83, 104, 97, 112, 101]⟩))] [.v (.d x28), .v (.d (.b false))] := fact_of (k := 1000) _ (by kernel_rfl) fn
theorem f261 : Fact F 227 [(.d (.i .u8 (.ofNat 83)))] [.v (.d (.b true))] := fact_of (k := 1000) _ (by kernel_rfl) fn
theorem f262 : Fact F 230 [(.d (.i .u8 (.ofNat 83)))] [.v (.d (.b true))] := fact_of (k := 1000) _ (by kernel_rfl) (fc f261 fn)
theorem f263 : Fact F 229 [(.d (.i .u8 (.ofNat 83)))] [.v (.d (.b true))] := fact_of (k := 1000) _ (by kernel_rfl) (fc f262 fn)
theorem f264 : Fact F 227 [(.d (.i .u8 (.ofNat 104)))] [.v (.d (.b true))] := fact_of (k := 1000) _ (by kernel_rfl) fn
theorem f265 : Fact F 230 [(.d (.i .u8 (.ofNat 104)))] [.v (.d (.b true))] := fact_of (k := 1000) _ (by kernel_rfl) (fc f264 fn)
theorem f266 : Fact F 229 [(.d (.i .u8 (.ofNat 104)))] [.v (.d (.b true))] := fact_of (k := 1000) _ (by kernel_rfl) (fc f265 fn)
theorem f267 : Fact F 227 [(.d (.i .u8 (.ofNat 97)))] [.v (.d (.b true))] := fact_of (k := 1000) _ (by kernel_rfl) fn
theorem f268 : Fact F 230 [(.d (.i .u8 (.ofNat 97)))] [.v (.d (.b true))] := fact_of (k := 1000) _ (by kernel_rfl) (fc f267 fn)
theorem f269 : Fact F 229 [(.d (.i .u8 (.ofNat 97)))] [.v (.d (.b true))] := fact_of (k := 1000) _ (by kernel_rfl) (fc f268 fn)
theorem f270 : Fact F 227 [(.d (.i .u8 (.ofNat 112)))] [.v (.d (.b true))] := fact_of (k := 1000) _ (by kernel_rfl) fn
theorem f271 : Fact F 230 [(.d (.i .u8 (.ofNat 112)))] [.v (.d (.b true))] := fact_of (k := 1000) _ (by kernel_rfl) (fc f270 fn)
theorem f272 : Fact F 229 [(.d (.i .u8 (.ofNat 112)))] [.v (.d (.b true))] := fact_of (k := 1000) _ (by kernel_rfl) (fc f271 fn)
theorem f273 : Fact F 228 [(.d (.s ⟨#[83, 104, 97, 112, 101]⟩)), (.f 229 [] [])] [.v (.d (.b true))] := fact_of (k := 1000) _ (by kernel_rfl) (fc f263 (fc f266 (fc f269 (fc f272 (fc f69 fn)))))
theorem f274 : Fact F 165 [(.d (.s ⟨#[83, 104, 97, 112, 101]⟩))] [.v (.d (.b true))] := fact_of (k := 1000) _ (by kernel_rfl) (fc f261 (fc f273 fn))
theorem f275 : Fact F 231 [(.d x29), (.d (.s ⟨#[83, 104, 97, 112, 101]⟩))] [.v (.d (.i .i64 (.negSucc 0)))] := fact_of (k := 1000) _ (by kernel_rfl) fn
theorem f276 : Fact F 166 [(.d x29), (.d (.s ⟨#[83, 104, 97, 112, 101]⟩))] [.v (.d (.b false))] := fact_of (k := 1000) _ (by kernel_rfl) (fc f275 fn)
theorem f277 : Fact F 167 [(.d x30), (.d (.i .i64 (.ofNat 0)))] [.v (.d (.b true))] := fact_of (k := 1000) _ (by kernel_rfl) (fc f26 (fc f28 (fc f29 fn)))
theorem f278 : Fact F 96 [(.d x12)] [.v (.d (.b true))] := fact_of (k := 1000) _ (by kernel_rfl) (fc f274 (fc f276 (fc f277 fn)))
theorem f279 : Fact F 49 [x37, (.d x30)] [.v (.d (.b true))] := fact_of (k := 1000) _ (by kernel_rfl) fn
theorem f280 : Fact F 98 [(.d x12)] [.v (.d x12)] := fact_of (k := 1000) _ (by kernel_rfl) (fc f34 fn)
theorem f281 : Fact F 95 [(.pe [x39, x40] 0), (.d (.s ⟨#[]⟩))] [.v (.d x28), .v (.d (.b false))] := fact_of (k := 1000) _ (by kernel_rfl) fn
theorem f282 : Fact F 280 [(.d (.i .u8 (.ofNat 83)))] [.v (.d (.b true))] := fact_of (k := 1000) _ (by kernel_rfl) fn
theorem f283 : Fact F 281 [(.d (.i .u8 (.ofNat 83)))] [.v (.d (.b true))] := fact_of (k := 1000) _ (by kernel_rfl) (fc f282 fn)
theorem f284 : Fact F 280 [(.d (.i .u8 (.ofNat 104)))] [.v (.d (.b true))] := fact_of (k := 1000) _ (by kernel_rfl) fn
theorem f285 : Fact F 281 [(.d (.i .u8 (.ofNat 104)))] [.v (.d (.b true))] := fact_of (k := 1000) _ (by kernel_rfl) (fc f284 fn)
theorem f286 : Fact F 280 [(.d (.i .u8 (.ofNat 97)))] [.v (.d (.b true))] := fact_of (k := 1000) _ (by kernel_rfl) fn
theorem f287 : Fact F 281 [(.d (.i .u8 (.ofNat 97)))] [.v (.d (.b true))] := fact_of (k := 1000) _ (by kernel_rfl) (fc f286 fn)
theorem f288 : Fact F 280 [(.d (.i .u8 (.ofNat 112)))] [.v (.d (.b true))] := fact_of (k := 1000) _ (by kernel_rfl) fn
theorem f289 : Fact F 281 [(.d (.i .u8 (.ofNat 112)))] [.v (.d (.b true))] := fact_of (k := 1000) _ (by kernel_rfl) (fc f288 fn)
theorem f290 : Fact F 234 [(.d (.s ⟨#[83, 104, 97, 112, 101]⟩))] [.v (.d (.b true))] := fact_of (k := 1000) _ (by kernel_rfl) (fc f282 (fc f283 (fc f285 (fc f287 (fc f289 (fc f129 fn))))))
theorem f291 : Fact F 235 [(.d (.s ⟨#[83, 104, 97, 112, 101]⟩))] [.v (.d (.b false))] := fact_of (k := 1000) _ (by kernel_rfl) fn
theorem f292 : Fact F 236 [(.d x30), (.d (.i .i64 (.ofNat 0)))] [.v (.d (.b true))] := fact_of (k := 1000) _ (by kernel_rfl) (fc f49 (fc f53 (fc f55 fn)))
theorem f293 : Fact F 172 [(.d x12)] [.v (.d (.b true))] := fact_of (k := 1000) _ (by kernel_rfl) (fc f290 (fc f291 (fc f45 (fc f47 (fc f292 fn)))))
theorem f294 : Fact F 102 [(.d x12)] [.v (.d (.i .i64 (.ofNat 0)))] := fact_of (k := 1000) _ (by kernel_rfl) (fc f293 fn)
theorem f295 : Fact F 103 [x38, (.d (.s ⟨#[83, 104, 97, 112, 101]⟩))] [.v (.d x28), .v (.d (.b false))] := fact_of (k := 1000) _ (by kernel_rfl) fn
theorem f296 : Fact F 46 [x38] [.row 8 [x22, x23, x24, x25, x7, x9, x11] 0 7] := fact_of (k := 1000) _ (by kernel_rfl) fn
theorem f297 : Fact F 105 [x38, (.d x30)] [.v (.d (.b true))] := fact_of (k := 1000) _ (by kernel_rfl) fn
theorem f298 : Fact F 103 [x38, (.d (.s ⟨#[]⟩))] [.v (.d x28), .v (.d (.b false))] := fact_of (k := 1000) _ (by kernel_rfl) fn
theorem f299 : Fact F 95 [(.pe [x39, x40] 0), (.d (.s ⟨#[68, 111, 116]⟩))] [.v (.d x28), .v (.d (.b false))] := fact_of (k := 1000) _ (by kernel_rfl) fn
theorem f300 : Fact F 227 [(.d (.i .u8 (.ofNat 68)))] [.v (.d (.b true))] := fact_of (k := 1000) _ (by kernel_rfl) fn
theorem f301 : Fact F 230 [(.d (.i .u8 (.ofNat 68)))] [.v (.d (.b true))] := fact_of (k := 1000) _ (by kernel_rfl) (fc f300 fn)
theorem f302 : Fact F 229 [(.d (.i .u8 (.ofNat 68)))] [.v (.d (.b true))] := fact_of (k := 1000) _ (by kernel_rfl) (fc f301 fn)
theorem f303 : Fact F 228 [(.d (.s ⟨#[68, 111, 116]⟩)), (.f 229 [] [])] [.v (.d (.b true))] := fact_of (k := 1000) _ (by kernel_rfl) (fc f302 (fc f14 (fc f103 fn)))
theorem f304 : Fact F 165 [(.d (.s ⟨#[68, 111, 116]⟩))] [.v (.d (.b true))] := fact_of (k := 1000) _ (by kernel_rfl) (fc f300 (fc f303 fn))
theorem f305 : Fact F 231 [(.d x29), (.d (.s ⟨#[68, 111, 116]⟩))] [.v (.d (.i .i64 (.negSucc 0)))] := fact_of (k := 1000) _ (by kernel_rfl) fn
theorem f306 : Fact F 166 [(.d x29), (.d (.s ⟨#[68, 111, 116]⟩))] [.v (.d (.b false))] := fact_of (k := 1000) _ (by kernel_rfl) (fc f305 fn)
theorem f307 : Fact F 106 [(.d x4)] [.v (.d (.i .i64 (.ofNat 1)))] := fact_of (k := 1000) _ (by kernel_rfl) fn
theorem f308 : Fact F 107 [(.d x4)] [.v (.d (.i .i64 (.ofNat 1)))] := fact_of (k := 1000) _ (by kernel_rfl) fn
theorem f309 : Fact F 237 [(.d x4)] [.v (.d (.b true))] := fact_of (k := 1000) _ (by kernel_rfl) fn
theorem f310 : Fact F 173 [(.d x4)] [.v (.d (.b true))] := fact_of (k := 1000) _ (by kernel_rfl) (fc f274 (fc f276 (fc f309 fn)))
theorem f311 : Fact F 108 [(.d x4)] [.v (.d (.b true))] := fact_of (k := 1000) _ (by kernel_rfl) (fc f310 fn)
theorem f312 : Fact F 47 [(.d x4)] [.v (.d (.i .i64 (.ofNat 0)))] := fact_of (k := 1000) _ (by kernel_rfl) (fc f307 (fc f308 (fc f311 fn)))
theorem f313 : Fact F 238 [(.d x4), (.d (.i .i64 (.ofNat 0)))] [.v (.d (.b true))] := fact_of (k := 1000) _ (by kernel_rfl) fn
theorem f314 : Fact F 232 [(.d x4)] [.v (.d (.b true))] := fact_of (k := 1000) _ (by kernel_rfl) (fc f313 fn)
theorem f315 : Fact F 109 [(.d x4)] [.v (.d (.sl []))] := fact_of (k := 1000) _ (by kernel_rfl) fn
theorem f316 : Fact F 167 [(.d x4), (.d (.i .i64 (.ofNat 0)))] [.v (.d (.b true))] := fact_of (k := 1000) _ (by kernel_rfl) (fc f312 (fc f314 (fc f315 fn)))
theorem f317 : Fact F 96 [(.d x13)] [.v (.d (.b true))] := fact_of (k := 1000) _ (by kernel_rfl) (fc f304 (fc f306 (fc f316 fn)))
theorem f318 : Fact F 95 [(.pe [x39, x40] 0), (.d (.s ⟨#[83, 104, 97, 112, 101]⟩))] [.v (.d x12), .v (.d (.b true))] := fact_of (k := 1000) _ (by kernel_rfl) fn
theorem f319 : Fact F 110 [(.pe [x39, x40] 0), (.d x4)] [.v (.d (.b true))] := fact_of (k := 1000) _ (by kernel_rfl) (fc f318 fn)
theorem f320 : Fact F 49 [(.pe [x39, x40] 0), (.d x4)] [.v (.d (.b true))] := fact_of (k := 1000) _ (by kernel_rfl) (fc f319 fn)
theorem f321 : Fact F 66 [(.d x4), (.d (.sl []))] [.v (.d x4)] := fact_of (k := 1000) _ (by kernel_rfl) fn
theorem f322 : Fact F 170 [(.d x4)] [.v (.d x4)] := fact_of (k := 1000) _ (by kernel_rfl) (fc f321 fn)
theorem f323 : Fact F 98 [(.d x13)] [.v (.d x13)] := fact_of (k := 1000) _ (by kernel_rfl) (fc f322 fn)
theorem f324 : Fact F 95 [(.pe [x41, x42] 0), (.d (.s ⟨#[83, 104, 97, 112, 101]⟩))] [.v (.d x12), .v (.d (.b true))] := fact_of (k := 1000) _ (by kernel_rfl) fn
theorem f325 : Fact F 280 [(.d (.i .u8 (.ofNat 68)))] [.v (.d (.b true))] := fact_of (k := 1000) _ (by kernel_rfl) fn
theorem f326 : Fact F 281 [(.d (.i .u8 (.ofNat 68)))] [.v (.d (.b true))] := fact_of (k := 1000) _ (by kernel_rfl) (fc f325 fn)
theorem f327 : Fact F 234 [(.d (.s ⟨#[68, 111, 116]⟩))] [.v (.d (.b true))] := fact_of (k := 1000) _ (by kernel_rfl) (fc f325 (fc f326 (fc f40 (fc f153 fn))))
theorem f328 : Fact F 235 [(.d (.s ⟨#[68, 111, 116]⟩))] [.v (.d (.b false))] := fact_of (k := 1000) _ (by kernel_rfl) fn
theorem f329 : Fact F 320 [(.d x4), (.d (.i .i64 (.ofNat 0))), (.d (.sl []))] [.v (.d (.sl []))] := fact_of (k := 1000) _ (by kernel_rfl) fn
theorem f330 : Fact F 282 [(.d x4)] [.v (.d (.sl []))] := fact_of (k := 1000) _ (by kernel_rfl) (fc f329 fn)
theorem f331 : Fact F 321 [(.d x4)] [.v (.d (.i .i64 (.ofNat 1)))] := fact_of (k := 1000) _ (by kernel_rfl) fn
theorem f332 : Fact F 322 [(.d x4)] [.v (.d (.i .i64 (.ofNat 1)))] := fact_of (k := 1000) _ (by kernel_rfl) fn
theorem f333 : Fact F 323 [(.d x4)] [.v (.d (.b true))] := fact_of (k := 1000) _ (by kernel_rfl) (fc f290 (fc f291 fn))
theorem f334 : Fact F 283 [(.d x4)] [.v (.d (.i .i64 (.ofNat 0)))] := fact_of (k := 1000) _ (by kernel_rfl) (fc f331 (fc f332 (fc f333 fn)))
theorem f335 : Fact F 324 [(.d x4)] [.v (.d (.b true))] := fact_of (k := 1000) _ (by kernel_rfl) (fc f330 fn)
theorem f336 : Fact F 284 [(.d x4)] [.v (.d (.b true))] := fact_of (k := 1000) _ (by kernel_rfl) (fc f335 fn)
theorem f337 : Fact F 236 [(.d x4), (.d (.i .i64 (.ofNat 0)))] [.v (.d (.b true))] := fact_of (k := 1000) _ (by kernel_rfl) (fc f330 (fc f334 (fc f336 fn)))
theorem f338 : Fact F 172 [(.d x13)] [.v (.d (.b true))] := fact_of (k := 1000) _ (by kernel_rfl) (fc f327 (fc f328 (fc f337 fn)))
theorem f339 : Fact F 102 [(.d x13)] [.v (.d (.i .i64 (.ofNat 0)))] := fact_of (k := 1000) _ (by kernel_rfl) (fc f338 fn)
theorem f340 : Fact F 103 [(.pe [x39] 0), (.d (.s ⟨#[68, 111, 116]⟩))] [.v (.d x28), .v (.d (.b false))] := fact_of (k := 1000) _ (by kernel_rfl) fn
theorem f341 : Fact F 46 [(.pe [x39] 0)] [.row 8 [x22, x23, x24, x25, x7, x9, x11, x12] 0 8] := fact_of (k := 1000) _ (by kernel_rfl) fn
theorem f342 : Fact F 103 [(.pe [x39] 0), (.d (.s ⟨#[83, 104, 97, 112, 101]⟩))] [.v (.d x12), .v (.d (.b true))] := fact_of (k := 1000) _ (by kernel_rfl) fn
theorem f343 : Fact F 105 [(.pe [x39] 0), (.d x4)] [.v (.d (.b true))] := fact_of (k := 1000) _ (by kernel_rfl) (fc f342 fn)
theorem f344 : Fact F 95 [(.pe [x41, x42] 0), (.d (.s ⟨#[68, 105, 115, 107]⟩))] [.v (.d x28), .v (.d (.b false))] := fact_of (k := 1000) _ (by kernel_rfl) fn
theorem f345 : Fact F 227 [(.d (.i .u8 (.ofNat 115)))] [.v (.d (.b true))] := fact_of (k := 1000) _ (by kernel_rfl) fn
theorem f346 : Fact F 230 [(.d (.i .u8 (.ofNat 115)))] [.v (.d (.b true))] := fact_of (k := 1000) _ (by kernel_rfl) (fc f345 fn)
theorem f347 : Fact F 229 [(.d (.i .u8 (.ofNat 115)))] [.v (.d (.b true))] := fact_of (k := 1000) _ (by kernel_rfl) (fc f346 fn)
theorem f348 : Fact F 227 [(.d (.i .u8 (.ofNat 107)))] [.v (.d (.b true))] := fact_of (k := 1000) _ (by kernel_rfl) fn
theorem f349 : Fact F 230 [(.d (.i .u8 (.ofNat 107)))] [.v (.d (.b true))] := fact_of (k := 1000) _ (by kernel_rfl) (fc f348 fn)
theorem f350 : Fact F 229 [(.d (.i .u8 (.ofNat 107)))] [.v (.d (.b true))] := fact_of (k := 1000) _ (by kernel_rfl) (fc f349 fn)
theorem f351 : Fact F 228 [(.d (.s ⟨#[68, 105, 115, 107]⟩)), (.f 229 [] [])] [.v (.d (.b true))] := fact_of (k := 1000) _ (by kernel_rfl) (fc f302 (fc f100 (fc f347 (fc f350 fn))))
theorem f352 : Fact F 165 [(.d (.s ⟨#[68, 105, 115, 107]⟩))] [.v (.d (.b true))] := fact_of (k := 1000) _ (by kernel_rfl) (fc f300 (fc f351 fn))
theorem f353 : Fact F 231 [(.d x29), (.d (.s ⟨#[68, 105, 115, 107]⟩))] [.v (.d (.i .i64 (.negSucc 0)))] := fact_of (k := 1000) _ (by kernel_rfl) fn
theorem f354 : Fact F 166 [(.d x29), (.d (.s ⟨#[68, 105, 115, 107]⟩))] [.v (.d (.b false))] := fact_of (k := 1000) _ (by kernel_rfl) (fc f353 fn)
theorem f355 : Fact F 227 [(.d (.i .u8 (.ofNat 114)))] [.v (.d (.b true))] := fact_of (k := 1000) _ (by kernel_rfl) fn
theorem f356 : Fact F 230 [(.d (.i .u8 (.ofNat 114)))] [.v (.d (.b true))] := fact_of (k := 1000) _ (by kernel_rfl) (fc f355 fn)
theorem f357 : Fact F 229 [(.d (.i .u8 (.ofNat 114)))] [.v (.d (.b true))] := fact_of (k := 1000) _ (by kernel_rfl) (fc f356 fn)
theorem f358 : Fact F 227 [(.d (.i .u8 (.ofNat 100)))] [.v (.d (.b true))] := fact_of (k := 1000) _ (by kernel_rfl) fn
theorem f359 : Fact F 230 [(.d (.i .u8 (.ofNat 100)))] [.v (.d (.b true))] := fact_of (k := 1000) _ (by kernel_rfl) (fc f358 fn)
theorem f360 : Fact F 229 [(.d (.i .u8 (.ofNat 100)))] [.v (.d (.b true))] := fact_of (k := 1000) _ (by kernel_rfl) (fc f359 fn)
theorem f361 : Fact F 227 [(.d (.i .u8 (.ofNat 117)))] [.v (.d (.b true))] := fact_of (k := 1000) _ (by kernel_rfl) fn
theorem f362 : Fact F 230 [(.d (.i .u8 (.ofNat 117)))] [.v (.d (.b true))] := fact_of (k := 1000) _ (by kernel_rfl) (fc f361 fn)
theorem f363 : Fact F 229 [(.d (.i .u8 (.ofNat 117)))] [.v (.d (.b true))] := fact_of (k := 1000) _ (by kernel_rfl) (fc f362 fn)
theorem f364 : Fact F 228 [(.d (.s ⟨#[114, 97, 100, 105, 117, 115]⟩)), (.f 229 [] [])] [.v (.d (.b true))] := fact_of (k := 1000) _ (by kernel_rfl) (fc f357 (fc f269 (fc f360 (fc f100 (fc f363 (fc f347 fn))))))
theorem f365 : Fact F 165 [(.d (.s ⟨#[114, 97, 100, 105, 117, 115]⟩))] [.v (.d (.b true))] := fact_of (k := 1000) _ (by kernel_rfl) (fc f355 (fc f364 fn))
theorem f366 : Fact F 96 [(.d x15)] [.v (.d (.b true))] := fact_of (k := 1000) _ (by kernel_rfl) (fc f352 (fc f354 (fc f316 (fc f365 (fc f205 fn)))))
theorem f367 : Fact F 110 [(.pe [x41, x42] 0), (.d x4)] [.v (.d (.b true))] := fact_of (k := 1000) _ (by kernel_rfl) (fc f324 fn)
theorem f368 : Fact F 49 [(.pe [x41, x42] 0), (.d x4)] [.v (.d (.b true))] := fact_of (k := 1000) _ (by kernel_rfl) (fc f367 fn)
theorem f369 : Fact F 98 [(.d x15)] [.v (.d x15)] := fact_of (k := 1000) _ (by kernel_rfl) (fc f322 (fc f216 fn))
theorem f370 : Fact F 95 [(.pe [x43, x44] 0), (.d (.s ⟨#[73, 110, 116]⟩))] [.v (.d x22), .v (.d (.b true))] := fact_of (k := 1000) _ (by kernel_rfl) fn
theorem f371 : Fact F 110 [(.pe [x43, x44] 0), (.d x2)] [.v (.d (.b true))] := fact_of (k := 1000) _ (by kernel_rfl) (fc f370 fn)
theorem f372 : Fact F 49 [(.pe [x43, x44] 0), (.d x2)] [.v (.d (.b true))] := fact_of (k := 1000) _ (by kernel_rfl) (fc f371 fn)
theorem f373 : Fact F 100 [(.d x14), (.pe [(.pe [x43, x44] 0)] 0)] [.v (.d (.b false))] := fact_of (k := 1000) _ (by kernel_rfl) (fc f372 fn)
theorem f374 : Fact F 95 [(.pe [x43, x44] 0), (.d (.s ⟨#[83, 104, 97, 112, 101]⟩))] [.v (.d x12), .v (.d (.b true))] := fact_of (k := 1000) _ (by kernel_rfl) fn
theorem f375 : Fact F 280 [(.d (.i .u8 (.ofNat 115)))] [.v (.d (.b true))] := fact_of (k := 1000) _ (by kernel_rfl) fn
theorem f376 : Fact F 281 [(.d (.i .u8 (.ofNat 115)))] [.v (.d (.b true))] := fact_of (k := 1000) _ (by kernel_rfl) (fc f375 fn)
theorem f377 : Fact F 280 [(.d (.i .u8 (.ofNat 107)))] [.v (.d (.b true))] := fact_of (k := 1000) _ (by kernel_rfl) fn
theorem f378 : Fact F 281 [(.d (.i .u8 (.ofNat 107)))] [.v (.d (.b true))] := fact_of (k := 1000) _ (by kernel_rfl) (fc f377 fn)
theorem f379 : Fact F 234 [(.d (.s ⟨#[68, 105, 115, 107]⟩))] [.v (.d (.b true))] := fact_of (k := 1000) _ (by kernel_rfl) (fc f325 (fc f326 (fc f151 (fc f376 (fc f378 fn)))))
theorem f380 : Fact F 235 [(.d (.s ⟨#[68, 105, 115, 107]⟩))] [.v (.d (.b false))] := fact_of (k := 1000) _ (by kernel_rfl) fn
theorem f381 : Fact F 280 [(.d (.i .u8 (.ofNat 114)))] [.v (.d (.b true))] := fact_of (k := 1000) _ (by kernel_rfl) fn
theorem f382 : Fact F 281 [(.d (.i .u8 (.ofNat 114)))] [.v (.d (.b true))] := fact_of (k := 1000) _ (by kernel_rfl) (fc f381 fn)
theorem f383 : Fact F 280 [(.d (.i .u8 (.ofNat 100)))] [.v (.d (.b true))] := fact_of (k := 1000) _ (by kernel_rfl) fn
theorem f384 : Fact F 281 [(.d (.i .u8 (.ofNat 100)))] [.v (.d (.b true))] := fact_of (k := 1000) _ (by kernel_rfl) (fc f383 fn)
theorem f385 : Fact F 280 [(.d (.i .u8 (.ofNat 117)))] [.v (.d (.b true))] := fact_of (k := 1000) _ (by kernel_rfl) fn
theorem f386 : Fact F 281 [(.d (.i .u8 (.ofNat 117)))] [.v (.d (.b true))] := fact_of (k := 1000) _ (by kernel_rfl) (fc f385 fn)
theorem f387 : Fact F 234 [(.d (.s ⟨#[114, 97, 100, 105, 117, 115]⟩))] [.v (.d (.b true))] := fact_of (k := 1000) _ (by kernel_rfl) (fc f381 (fc f382 (fc f287 (fc f384 (fc f151 (fc f386 (fc f376 fn)))))))
theorem f388 : Fact F 172 [(.d x15)] [.v (.d (.b true))] := fact_of (k := 1000) _ (by kernel_rfl) (fc f379 (fc f380 (fc f337 (fc f387 (fc f249 fn)))))
theorem f389 : Fact F 102 [(.d x15)] [.v (.d (.i .i64 (.ofNat 0)))] := fact_of (k := 1000) _ (by kernel_rfl) (fc f388 fn)
theorem f390 : Fact F 103 [(.pe [x41] 0), (.d (.s ⟨#[68, 105, 115, 107]⟩))] [.v (.d x28), .v (.d (.b false))] := fact_of (k := 1000) _ (by kernel_rfl) fn
theorem f391 : Fact F 46 [(.pe [x41] 0)] [.row 8 [x22, x23, x24, x25, x7, x9, x11, x12, x13] 0 9] := fact_of (k := 1000) _ (by kernel_rfl) fn
theorem f392 : Fact F 103 [(.pe [x41] 0), (.d (.s ⟨#[83, 104, 97, 112, 101]⟩))] [.v (.d x12), .v (.d (.b true))] := fact_of (k := 1000) _ (by kernel_rfl) fn
theorem f393 : Fact F 105 [(.pe [x41] 0), (.d x4)] [.v (.d (.b true))] := fact_of (k := 1000) _ (by kernel_rfl) (fc f392 fn)
theorem f394 : Fact F 103 [(.pe [x43] 0), (.d (.s ⟨#[73, 110, 116]⟩))] [.v (.d x22), .v (.d (.b true))] := fact_of (k := 1000) _ (by kernel_rfl) fn
theorem f395 : Fact F 105 [(.pe [x43] 0), (.d x2)] [.v (.d (.b true))] := fact_of (k := 1000) _ (by kernel_rfl) (fc f394 fn)
theorem f396 : Fact F 95 [(.pe [x43, x44] 0), (.d (.s ⟨#[80, 97, 105, 114]⟩))] [.v (.d x28), .v (.d (.b false))] := fact_of (k := 1000) _ (by kernel_rfl) fn
theorem f397 : Fact F 227 [(.d (.i .u8 (.ofNat 80)))] [.v (.d (.b true))] := fact_of (k := 1000) _ (by kernel_rfl) fn
theorem f398 : Fact F 230 [(.d (.i .u8 (.ofNat 80)))] [.v (.d (.b true))] := fact_of (k := 1000) _ (by kernel_rfl) (fc f397 fn)
theorem f399 : Fact F 229 [(.d (.i .u8 (.ofNat 80)))] [.v (.d (.b true))] := fact_of (k := 1000) _ (by kernel_rfl) (fc f398 fn)
theorem f400 : Fact F 228 [(.d (.s ⟨#[80, 97, 105, 114]⟩)), (.f 229 [] [])] [.v (.d (.b true))] := fact_of (k := 1000) _ (by kernel_rfl) (fc f399 (fc f269 (fc f100 (fc f357 fn))))
theorem f401 : Fact F 165 [(.d (.s ⟨#[80, 97, 105, 114]⟩))] [.v (.d (.b true))] := fact_of (k := 1000) _ (by kernel_rfl) (fc f397 (fc f400 fn))
theorem f402 : Fact F 231 [(.d x29), (.d (.s ⟨#[80, 97, 105, 114]⟩))] [.v (.d (.i .i64 (.negSucc 0)))] := fact_of (k := 1000) _ (by kernel_rfl) fn
theorem f403 : Fact F 166 [(.d x29), (.d (.s ⟨#[80, 97, 105, 114]⟩))] [.v (.d (.b false))] := fact_of (k := 1000) _ (by kernel_rfl) (fc f402 fn)
theorem f404 : Fact F 167 [(.d x30), (.d (.i .i64 (.ofNat 2)))] [.v (.d (.b true))] := fact_of (k := 1000) _ (by kernel_rfl) (fc f26 (fc f28 (fc f29 fn)))
theorem f405 : Fact F 227 [(.d (.i .u8 (.ofNat 102)))] [.v (.d (.b true))] := fact_of (k := 1000) _ (by kernel_rfl) fn
theorem f406 : Fact F 230 [(.d (.i .u8 (.ofNat 102)))] [.v (.d (.b true))] := fact_of (k := 1000) _ (by kernel_rfl) (fc f405 fn)
theorem f407 : Fact F 229 [(.d (.i .u8 (.ofNat 102)))] [.v (.d (.b true))] := fact_of (k := 1000) _ (by kernel_rfl) (fc f406 fn)
theorem f408 : Fact F 228 [(.d (.s ⟨#[102, 105, 114, 115, 116]⟩)), (.f 229 [] [])] [.v (.d (.b true))] := fact_of (k := 1000) _ (by kernel_rfl) (fc f407 (fc f100 (fc f357 (fc f347 (fc f103 fn)))))
theorem f409 : Fact F 165 [(.d (.s ⟨#[102, 105, 114, 115, 116]⟩))] [.v (.d (.b true))] := fact_of (k := 1000) _ (by kernel_rfl) (fc f405 (fc f408 fn))
theorem f410 : Fact F 233 [(.d (.i .i64 (.ofNat 0))), (.pe [(.d (.i .i64 (.ofNat 2)))] 0)] [.v (.d (.b false))] := fact_of (k := 1000) _ (by kernel_rfl) fn
theorem f411 : Fact F 167 [(.d x0), (.d (.i .i64 (.ofNat 2)))] [.v (.d (.b true))] := fact_of (k := 1000) _ (by kernel_rfl) (fc f109 (fc f81 (fc f110 (fc f410 fn))))
theorem f412 : Fact F 227 [(.d (.i .u8 (.ofNat 99)))] [.v (.d (.b true))] := fact_of (k := 1000) _ (by kernel_rfl) fn
theorem f413 : Fact F 230 [(.d (.i .u8 (.ofNat 99)))] [.v (.d (.b true))] := fact_of (k := 1000) _ (by kernel_rfl) (fc f412 fn)
theorem f414 : Fact F 229 [(.d (.i .u8 (.ofNat 99)))] [.v (.d (.b true))] := fact_of (k := 1000) _ (by kernel_rfl) (fc f413 fn)
theorem f415 : Fact F 228 [(.d (.s ⟨#[115, 101, 99, 111, 110, 100]⟩)), (.f 229 [] [])] [.v (.d (.b true))] := fact_of (k := 1000) _ (by kernel_rfl) (fc f347 (fc f69 (fc f414 (fc f14 (fc f174 (fc f360 fn))))))
theorem f416 : Fact F 165 [(.d (.s ⟨#[115, 101, 99, 111, 110, 100]⟩))] [.v (.d (.b true))] := fact_of (k := 1000) _ (by kernel_rfl) (fc f345 (fc f415 fn))
theorem f417 : Fact F 106 [(.d x5)] [.v (.d (.i .i64 (.ofNat 1)))] := fact_of (k := 1000) _ (by kernel_rfl) fn
theorem f418 : Fact F 107 [(.d x5)] [.v (.d (.i .i64 (.ofNat 1)))] := fact_of (k := 1000) _ (by kernel_rfl) fn
theorem f419 : Fact F 173 [(.d x5)] [.v (.d (.b true))] := fact_of (k := 1000) _ (by kernel_rfl) fn
theorem f420 : Fact F 108 [(.d x5)] [.v (.d (.b true))] := fact_of (k := 1000) _ (by kernel_rfl) (fc f419 fn)
theorem f421 : Fact F 47 [(.d x5)] [.v (.d (.i .i64 (.ofNat 0)))] := fact_of (k := 1000) _ (by kernel_rfl) (fc f417 (fc f418 (fc f420 fn)))
theorem f422 : Fact F 232 [(.d x5)] [.v (.d (.b true))] := fact_of (k := 1000) _ (by kernel_rfl) fn
theorem f423 : Fact F 286 [(.d (.sl [])), (.d (.i .i64 (.ofNat 1)))] [.v (.d (.i .i64 (.ofNat 0))), .v (.d (.b false))] := fact_of (k := 1000) _ (by kernel_rfl) fn
theorem f424 : Fact F 109 [(.d x5)] [.v (.d (.sl [(.i .i64 (.ofNat 1))]))] := fact_of (k := 1000) _ (by kernel_rfl) (fc f423 fn)
theorem f425 : Fact F 233 [(.d (.i .i64 (.ofNat 1))), (.pe [(.d (.i .i64 (.ofNat 2)))] 0)] [.v (.d (.b false))] := fact_of (k := 1000) _ (by kernel_rfl) fn
theorem f426 : Fact F 167 [(.d x5), (.d (.i .i64 (.ofNat 2)))] [.v (.d (.b true))] := fact_of (k := 1000) _ (by kernel_rfl) (fc f421 (fc f422 (fc f424 (fc f425 fn))))
theorem f427 : Fact F 96 [(.d x18)] [.v (.d (.b true))] := fact_of (k := 1000) _ (by kernel_rfl) (fc f401 (fc f403 (fc f404 (fc f409 (fc f411 (fc f416 (fc f426 fn)))))))
theorem f428 : Fact F 49 [(.pe [x43, x44] 0), (.d x30)] [.v (.d (.b true))] := fact_of (k := 1000) _ (by kernel_rfl) fn
theorem f429 : Fact F 66 [(.d x5), (.d (.sl []))] [.v (.d x5)] := fact_of (k := 1000) _ (by kernel_rfl) fn
theorem f430 : Fact F 170 [(.d x5)] [.v (.d x5)] := fact_of (k := 1000) _ (by kernel_rfl) (fc f429 fn)
theorem f431 : Fact F 98 [(.d x18)] [.v (.d x18)] := fact_of (k := 1000) _ (by kernel_rfl) (fc f34 (fc f121 (fc f430 fn)))
theorem f432 : Fact F 49 [(.pe [x45, x46] 0), (.d x0)] [.v (.d (.b true))] := fact_of (k := 1000) _ (by kernel_rfl) fn
theorem f433 : Fact F 100 [(.d x16), (.pe [(.pe [x45, x46] 0)] 0)] [.v (.d (.b false))] := fact_of (k := 1000) _ (by kernel_rfl) (fc f432 fn)
theorem f434 : Fact F 49 [(.pe [x45, x46] 0), (.d x5)] [.v (.d (.b true))] := fact_of (k := 1000) _ (by kernel_rfl) fn
theorem f435 : Fact F 100 [(.d x17), (.pe [(.pe [x45, x46] 0)] 0)] [.v (.d (.b false))] := fact_of (k := 1000) _ (by kernel_rfl) (fc f434 fn)
theorem f436 : Fact F 95 [(.pe [x45, x46] 0), (.d (.s ⟨#[]⟩))] [.v (.d x28), .v (.d (.b false))] := fact_of (k := 1000) _ (by kernel_rfl) fn
theorem f437 : Fact F 280 [(.d (.i .u8 (.ofNat 80)))] [.v (.d (.b true))] := fact_of (k := 1000) _ (by kernel_rfl) fn
theorem f438 : Fact F 281 [(.d (.i .u8 (.ofNat 80)))] [.v (.d (.b true))] := fact_of (k := 1000) _ (by kernel_rfl) (fc f437 fn)
theorem f439 : Fact F 234 [(.d (.s ⟨#[80, 97, 105, 114]⟩))] [.v (.d (.b true))] := fact_of (k := 1000) _ (by kernel_rfl) (fc f437 (fc f438 (fc f287 (fc f151 (fc f382 fn)))))
theorem f440 : Fact F 235 [(.d (.s ⟨#[80, 97, 105, 114]⟩))] [.v (.d (.b false))] := fact_of (k := 1000) _ (by kernel_rfl) fn
theorem f441 : Fact F 236 [(.d x30), (.d (.i .i64 (.ofNat 2)))] [.v (.d (.b true))] := fact_of (k := 1000) _ (by kernel_rfl) (fc f49 (fc f53 (fc f55 fn)))
theorem f442 : Fact F 280 [(.d (.i .u8 (.ofNat 102)))] [.v (.d (.b true))] := fact_of (k := 1000) _ (by kernel_rfl) fn
theorem f443 : Fact F 281 [(.d (.i .u8 (.ofNat 102)))] [.v (.d (.b true))] := fact_of (k := 1000) _ (by kernel_rfl) (fc f442 fn)
theorem f444 : Fact F 234 [(.d (.s ⟨#[102, 105, 114, 115, 116]⟩))] [.v (.d (.b true))] := fact_of (k := 1000) _ (by kernel_rfl) (fc f442 (fc f443 (fc f151 (fc f382 (fc f376 (fc f153 fn))))))
theorem f445 : Fact F 236 [(.d x0), (.d (.i .i64 (.ofNat 2)))] [.v (.d (.b true))] := fact_of (k := 1000) _ (by kernel_rfl) (fc f157 (fc f158 (fc f143 fn)))
theorem f446 : Fact F 280 [(.d (.i .u8 (.ofNat 99)))] [.v (.d (.b true))] := fact_of (k := 1000) _ (by kernel_rfl) fn
theorem f447 : Fact F 281 [(.d (.i .u8 (.ofNat 99)))] [.v (.d (.b true))] := fact_of (k := 1000) _ (by kernel_rfl) (fc f446 fn)
theorem f448 : Fact F 234 [(.d (.s ⟨#[115, 101, 99, 111, 110, 100]⟩))] [.v (.d (.b true))] := fact_of (k := 1000) _ (by kernel_rfl) (fc f375 (fc f376 (fc f129 (fc f447 (fc f40 (fc f226 (fc f384 fn)))))))
theorem f449 : Fact F 341 [(.d (.sl [])), (.d (.i .i64 (.ofNat 1)))] [.v (.d (.sl [(.i .i64 (.ofNat 1))]))] := fact_of (k := 1000) _ (by kernel_rfl) fn
theorem f450 : Fact F 320 [(.d x5), (.d (.i .i64 (.ofNat 0))), (.d (.sl []))] [.v (.d (.sl [(.i .i64 (.ofNat 1))]))] := fact_of (k := 1000) _ (by kernel_rfl) (fc f449 fn)
theorem f451 : Fact F 282 [(.d x5)] [.v (.d (.sl [(.i .i64 (.ofNat 1))]))] := fact_of (k := 1000) _ (by kernel_rfl) (fc f450 fn)
theorem f452 : Fact F 321 [(.d x5)] [.v (.d (.i .i64 (.ofNat 1)))] := fact_of (k := 1000) _ (by kernel_rfl) fn
theorem f453 : Fact F 322 [(.d x5)] [.v (.d (.i .i64 (.ofNat 1)))] := fact_of (k := 1000) _ (by kernel_rfl) fn
theorem f454 : Fact F 323 [(.d x5)] [.v (.d (.b true))] := fact_of (k := 1000) _ (by kernel_rfl) fn
theorem f455 : Fact F 283 [(.d x5)] [.v (.d (.i .i64 (.ofNat 0)))] := fact_of (k := 1000) _ (by kernel_rfl) (fc f452 (fc f453 (fc f454 fn)))
theorem f456 : Fact F 284 [(.d x5)] [.v (.d (.b true))] := fact_of (k := 1000) _ (by kernel_rfl) fn
theorem f457 : Fact F 236 [(.d x5), (.d (.i .i64 (.ofNat 2)))] [.v (.d (.b true))] := fact_of (k := 1000) _ (by kernel_rfl) (fc f451 (fc f455 (fc f456 fn)))
theorem f458 : Fact F 172 [(.d x18)] [.v (.d (.b true))] := fact_of (k := 1000) _ (by kernel_rfl) (fc f439 (fc f440 (fc f45 (fc f47 (fc f441 (fc f444 (fc f445 (fc f448 (fc f457 fn)))))))))
theorem f459 : Fact F 102 [(.d x18)] [.v (.d (.i .i64 (.ofNat 0)))] := fact_of (k := 1000) _ (by kernel_rfl) (fc f458 fn)
theorem f460 : Fact F 103 [(.pe [x43] 0), (.d (.s ⟨#[80, 97, 105, 114]⟩))] [.v (.d x28), .v (.d (.b false))] := fact_of (k := 1000) _ (by kernel_rfl) fn
theorem f461 : Fact F 46 [(.pe [x43] 0)] [.row 8 [x22, x23, x24, x25, x7, x9, x11, x12, x13, x15] 0 10] := fact_of (k := 1000) _ (by kernel_rfl) fn
theorem f462 : Fact F 105 [(.pe [x43] 0), (.d x30)] [.v (.d (.b true))] := fact_of (k := 1000) _ (by kernel_rfl) fn
theorem f463 : Fact F 105 [(.pe [x45] 0), (.d x0)] [.v (.d (.b true))] := fact_of (k := 1000) _ (by kernel_rfl) fn
theorem f464 : Fact F 105 [(.pe [x45] 0), (.d x5)] [.v (.d (.b true))] := fact_of (k := 1000) _ (by kernel_rfl) fn
theorem f465 : Fact F 103 [(.pe [x43] 0), (.d (.s ⟨#[]⟩))] [.v (.d x28), .v (.d (.b false))] := fact_of (k := 1000) _ (by kernel_rfl) fn
theorem f466 : Fact F 95 [(.pe [x45, x46] 0), (.d (.s ⟨#[78, 101, 115, 116]⟩))] [.v (.d x28), .v (.d (.b false))] := fact_of (k := 1000) _ (by kernel_rfl) fn
theorem f467 : Fact F 227 [(.d (.i .u8 (.ofNat 78)))] [.v (.d (.b true))] := fact_of (k := 1000) _ (by kernel_rfl) fn
theorem f468 : Fact F 230 [(.d (.i .u8 (.ofNat 78)))] [.v (.d (.b true))] := fact_of (k := 1000) _ (by kernel_rfl) (fc f467 fn)
theorem f469 : Fact F 229 [(.d (.i .u8 (.ofNat 78)))] [.v (.d (.b true))] := fact_of (k := 1000) _ (by kernel_rfl) (fc f468 fn)
theorem f470 : Fact F 228 [(.d (.s ⟨#[78, 101, 115, 116]⟩)), (.f 229 [] [])] [.v (.d (.b true))] := fact_of (k := 1000) _ (by kernel_rfl) (fc f469 (fc f69 (fc f347 (fc f103 fn))))
theorem f471 : Fact F 165 [(.d (.s ⟨#[78, 101, 115, 116]⟩))] [.v (.d (.b true))] := fact_of (k := 1000) _ (by kernel_rfl) (fc f467 (fc f470 fn))
theorem f472 : Fact F 231 [(.d x29), (.d (.s ⟨#[78, 101, 115, 116]⟩))] [.v (.d (.i .i64 (.negSucc 0)))] := fact_of (k := 1000) _ (by kernel_rfl) fn
theorem f473 : Fact F 166 [(.d x29), (.d (.s ⟨#[78, 101, 115, 116]⟩))] [.v (.d (.b false))] := fact_of (k := 1000) _ (by kernel_rfl) (fc f472 fn)
theorem f474 : Fact F 106 [(.d x6)] [.v (.d (.i .i64 (.ofNat 3)))] := fact_of (k := 1000) _ (by kernel_rfl) (fc f78 fn)
theorem f475 : Fact F 107 [(.d x6)] [.v (.d (.i .i64 (.ofNat 3)))] := fact_of (k := 1000) _ (by kernel_rfl) (fc f80 fn)
theorem f476 : Fact F 285 [(.d x1)] [.v (.d (.b false))] := fact_of (k := 1000) _ (by kernel_rfl) (fc f93 fn)
theorem f477 : Fact F 237 [(.d x6)] [.v (.d (.b true))] := fact_of (k := 1000) _ (by kernel_rfl) (fc f476 fn)
theorem f478 : Fact F 173 [(.d x6)] [.v (.d (.b true))] := fact_of (k := 1000) _ (by kernel_rfl) (fc f19 (fc f21 (fc f477 fn)))
theorem f479 : Fact F 174 [(.d x1)] [.v (.d (.b false))] := fact_of (k := 1000) _ (by kernel_rfl) (fc f88 fn)
theorem f480 : Fact F 108 [(.d x6)] [.v (.d (.b true))] := fact_of (k := 1000) _ (by kernel_rfl) (fc f478 (fc f479 fn))
theorem f481 : Fact F 47 [(.d x6)] [.v (.d (.i .i64 (.ofNat 0)))] := fact_of (k := 1000) _ (by kernel_rfl) (fc f474 (fc f475 (fc f480 fn)))
theorem f482 : Fact F 202 [(.d x6), (.d (.i .i64 (.ofNat 0)))] [.v (.d (.i .i64 (.ofNat 0)))] := fact_of (k := 1000) _ (by kernel_rfl) fn
theorem f483 : Fact F 238 [(.d x6), (.d (.i .i64 (.ofNat 0)))] [.v (.d (.b false))] := fact_of (k := 1000) _ (by kernel_rfl) (fc f482 (fc f92 fn))
theorem f484 : Fact F 232 [(.d x6)] [.v (.d (.b true))] := fact_of (k := 1000) _ (by kernel_rfl) (fc f483 (fc f477 fn))
theorem f485 : Fact F 109 [(.d x6)] [.v (.d (.sl [(.i .i64 (.ofNat 0))]))] := fact_of (k := 1000) _ (by kernel_rfl) (fc f482 (fc f90 (fc f94 fn)))
theorem f486 : Fact F 167 [(.d x6), (.d (.i .i64 (.ofNat 1)))] [.v (.d (.b true))] := fact_of (k := 1000) _ (by kernel_rfl) (fc f481 (fc f484 (fc f485 (fc f96 fn))))
theorem f487 : Fact F 228 [(.d (.s ⟨#[105, 110, 110, 101, 114]⟩)), (.f 229 [] [])] [.v (.d (.b true))] := fact_of (k := 1000) _ (by kernel_rfl) (fc f100 (fc f174 (fc f174 (fc f69 (fc f357 fn)))))
theorem f488 : Fact F 165 [(.d (.s ⟨#[105, 110, 110, 101, 114]⟩))] [.v (.d (.b true))] := fact_of (k := 1000) _ (by kernel_rfl) (fc f98 (fc f487 fn))
theorem f489 : Fact F 96 [(.d x20)] [.v (.d (.b true))] := fact_of (k := 1000) _ (by kernel_rfl) (fc f471 (fc f473 (fc f486 (fc f488 (fc f97 fn)))))
theorem f490 : Fact F 95 [(.pe [x45, x46] 0), (.d (.s ⟨#[66, 111, 120]⟩))] [.v (.d x7), .v (.d (.b true))] := fact_of (k := 1000) _ (by kernel_rfl) fn
theorem f491 : Fact F 110 [(.pe [x45, x46] 0), (.d x6)] [.v (.d (.b true))] := fact_of (k := 1000) _ (by kernel_rfl) (fc f490 fn)
theorem f492 : Fact F 110 [(.pe [x45, x46] 0), (.d x1)] [.v (.d (.b true))] := fact_of (k := 1000) _ (by kernel_rfl) (fc f490 fn)
theorem f493 : Fact F 112 [(.d x0), (.pe [(.pe [x45, x46] 0)] 0)] [.v (.d (.b false))] := fact_of (k := 1000) _ (by kernel_rfl) (fc f432 fn)
theorem f494 : Fact F 49 [(.pe [x45, x46] 0), (.d x1)] [.v (.d (.b true))] := fact_of (k := 1000) _ (by kernel_rfl) (fc f492 (fc f493 fn))
theorem f495 : Fact F 112 [(.d x1), (.pe [(.pe [x45, x46] 0)] 0)] [.v (.d (.b false))] := fact_of (k := 1000) _ (by kernel_rfl) (fc f494 fn)
theorem f496 : Fact F 49 [(.pe [x45, x46] 0), (.d x6)] [.v (.d (.b true))] := fact_of (k := 1000) _ (by kernel_rfl) (fc f491 (fc f495 fn))
theorem f497 : Fact F 66 [(.d x6), (.d (.sl []))] [.v (.d x6)] := fact_of (k := 1000) _ (by kernel_rfl) (fc f482 (fc f90 fn))
theorem f498 : Fact F 170 [(.d x6)] [.v (.d x6)] := fact_of (k := 1000) _ (by kernel_rfl) (fc f497 fn)
theorem f499 : Fact F 98 [(.d x20)] [.v (.d x20)] := fact_of (k := 1000) _ (by kernel_rfl) (fc f498 (fc f119 fn))
theorem f500 : Fact F 95 [(.pe [x47, x48] 0), (.d (.s ⟨#[66, 111, 120]⟩))] [.v (.d x7), .v (.d (.b true))] := fact_of (k := 1000) _ (by kernel_rfl) fn
theorem f501 : Fact F 110 [(.pe [x47, x48] 0), (.d x1)] [.v (.d (.b true))] := fact_of (k := 1000) _ (by kernel_rfl) (fc f500 fn)
theorem f502 : Fact F 49 [(.pe [x47, x48] 0), (.d x0)] [.v (.d (.b true))] := fact_of (k := 1000) _ (by kernel_rfl) fn
theorem f503 : Fact F 112 [(.d x0), (.pe [(.pe [x47, x48] 0)] 0)] [.v (.d (.b false))] := fact_of (k := 1000) _ (by kernel_rfl) (fc f502 fn)
theorem f504 : Fact F 49 [(.pe [x47, x48] 0), (.d x1)] [.v (.d (.b true))] := fact_of (k := 1000) _ (by kernel_rfl) (fc f501 (fc f503 fn))
theorem f505 : Fact F 100 [(.d x19), (.pe [(.pe [x47, x48] 0)] 0)] [.v (.d (.b false))] := fact_of (k := 1000) _ (by kernel_rfl) (fc f504 fn)
theorem f506 : Fact F 280 [(.d (.i .u8 (.ofNat 78)))] [.v (.d (.b true))] := fact_of (k := 1000) _ (by kernel_rfl) fn
theorem f507 : Fact F 281 [(.d (.i .u8 (.ofNat 78)))] [.v (.d (.b true))] := fact_of (k := 1000) _ (by kernel_rfl) (fc f506 fn)
theorem f508 : Fact F 234 [(.d (.s ⟨#[78, 101, 115, 116]⟩))] [.v (.d (.b true))] := fact_of (k := 1000) _ (by kernel_rfl) (fc f506 (fc f507 (fc f129 (fc f376 (fc f153 fn)))))
theorem f509 : Fact F 235 [(.d (.s ⟨#[78, 101, 115, 116]⟩))] [.v (.d (.b false))] := fact_of (k := 1000) _ (by kernel_rfl) fn
theorem f510 : Fact F 342 [(.d x6), (.d (.i .i64 (.ofNat 0)))] [.v (.d (.i .i64 (.ofNat 0)))] := fact_of (k := 1000) _ (by kernel_rfl) fn
theorem f511 : Fact F 320 [(.d x6), (.d (.i .i64 (.ofNat 0))), (.d (.sl []))] [.v (.d (.sl [(.i .i64 (.ofNat 0))]))] := fact_of (k := 1000) _ (by kernel_rfl) (fc f510 (fc f137 fn))
theorem f512 : Fact F 282 [(.d x6)] [.v (.d (.sl [(.i .i64 (.ofNat 0))]))] := fact_of (k := 1000) _ (by kernel_rfl) (fc f511 fn)
theorem f513 : Fact F 321 [(.d x6)] [.v (.d (.i .i64 (.ofNat 3)))] := fact_of (k := 1000) _ (by kernel_rfl) (fc f140 fn)
theorem f514 : Fact F 322 [(.d x6)] [.v (.d (.i .i64 (.ofNat 3)))] := fact_of (k := 1000) _ (by kernel_rfl) (fc f142 fn)
theorem f515 : Fact F 323 [(.d x6)] [.v (.d (.b true))] := fact_of (k := 1000) _ (by kernel_rfl) (fc f43 (fc f44 (fc f148 (fc f145 fn))))
theorem f516 : Fact F 283 [(.d x6)] [.v (.d (.i .i64 (.ofNat 0)))] := fact_of (k := 1000) _ (by kernel_rfl) (fc f513 (fc f514 (fc f515 fn)))
theorem f517 : Fact F 324 [(.d x6)] [.v (.d (.b false))] := fact_of (k := 1000) _ (by kernel_rfl) (fc f512 fn)
theorem f518 : Fact F 284 [(.d x6)] [.v (.d (.b true))] := fact_of (k := 1000) _ (by kernel_rfl) (fc f517 (fc f148 fn))
theorem f519 : Fact F 236 [(.d x6), (.d (.i .i64 (.ofNat 1)))] [.v (.d (.b true))] := fact_of (k := 1000) _ (by kernel_rfl) (fc f512 (fc f516 (fc f518 fn)))
theorem f520 : Fact F 234 [(.d (.s ⟨#[105, 110, 110, 101, 114]⟩))] [.v (.d (.b true))] := fact_of (k := 1000) _ (by kernel_rfl) (fc f150 (fc f151 (fc f226 (fc f226 (fc f129 (fc f382 fn))))))
theorem f521 : Fact F 172 [(.d x20)] [.v (.d (.b true))] := fact_of (k := 1000) _ (by kernel_rfl) (fc f508 (fc f509 (fc f519 (fc f520 (fc f149 fn)))))
theorem f522 : Fact F 102 [(.d x20)] [.v (.d (.i .i64 (.ofNat 0)))] := fact_of (k := 1000) _ (by kernel_rfl) (fc f521 fn)
theorem f523 : Fact F 103 [(.pe [x45] 0), (.d (.s ⟨#[78, 101, 115, 116]⟩))] [.v (.d x28), .v (.d (.b false))] := fact_of (k := 1000) _ (by kernel_rfl) fn
theorem f524 : Fact F 46 [(.pe [x45] 0)] [.row 8 [x22, x23, x24, x25, x7, x9, x11, x12, x13, x15, x18] 0 11] := fact_of (k := 1000) _ (by kernel_rfl) fn
theorem f525 : Fact F 103 [(.pe [x45] 0), (.d (.s ⟨#[66, 111, 120]⟩))] [.v (.d x7), .v (.d (.b true))] := fact_of (k := 1000) _ (by kernel_rfl) fn
theorem f526 : Fact F 105 [(.pe [x45] 0), (.d x1)] [.v (.d (.b true))] := fact_of (k := 1000) _ (by kernel_rfl) (fc f525 (fc f463 fn))
theorem f527 : Fact F 105 [(.pe [x45] 0), (.d x6)] [.v (.d (.b true))] := fact_of (k := 1000) _ (by kernel_rfl) (fc f525 (fc f526 fn))
theorem f528 : Fact F 103 [(.pe [x47] 0), (.d (.s ⟨#[66, 111, 120]⟩))] [.v (.d x7), .v (.d (.b true))] := fact_of (k := 1000) _ (by kernel_rfl) fn
theorem f529 : Fact F 105 [(.pe [x47] 0), (.d x0)] [.v (.d (.b true))] := fact_of (k := 1000) _ (by kernel_rfl) fn
theorem f530 : Fact F 105 [(.pe [x47] 0), (.d x1)] [.v (.d (.b true))] := fact_of (k := 1000) _ (by kernel_rfl) (fc f528 (fc f529 fn))
theorem f531 : Fact F 98 [(.d x22)] [.v (.d x22)] := fact_of (k := 1000) _ (by kernel_rfl) (fc f34 fn)
theorem f532 : Fact F 98 [(.d x23)] [.v (.d x23)] := fact_of (k := 1000) _ (by kernel_rfl) (fc f34 fn)
theorem f533 : Fact F 98 [(.d x24)] [.v (.d x24)] := fact_of (k := 1000) _ (by kernel_rfl) (fc f34 fn)
theorem f534 : Fact F 98 [(.d x25)] [.v (.d x25)] := fact_of (k := 1000) _ (by kernel_rfl) (fc f34 fn)
theorem f535 : Fact F 45 [(.pe [x47, x48] 0)] [.v (.d x49)] := fact_of (k := 1000) _ (by kernel_rfl) (fc f531 (fc f532 (fc f533 (fc f534 (fc f35 (fc f122 (fc f217 (fc f280 (fc f323 (fc f369 (fc f431 (fc f499 fn))))))))))))
theorem f536 : Fact F 46 [(.pe [x47] 0)] [.row 8 [x22, x23, x24, x25, x7, x9, x11, x12, x13, x15, x18, x20] 0 12] := fact_of (k := 1000) _ (by kernel_rfl) fn
theorem f537 : Fact F 104 [(.d x22), (.d x22)] [.v (.d (.b true))] := fact_of (k := 1000) _ (by kernel_rfl) (fc f47 fn)
theorem f538 : Fact F 104 [(.d x23), (.d x23)] [.v (.d (.b true))] := fact_of (k := 1000) _ (by kernel_rfl) (fc f47 fn)
theorem f539 : Fact F 104 [(.d x24), (.d x24)] [.v (.d (.b true))] := fact_of (k := 1000) _ (by kernel_rfl) (fc f47 fn)
theorem f540 : Fact F 104 [(.d x25), (.d x25)] [.v (.d (.b true))] := fact_of (k := 1000) _ (by kernel_rfl) (fc f47 fn)
theorem f541 : Fact F 104 [(.d x7), (.d x7)] [.v (.d (.b true))] := fact_of (k := 1000) _ (by kernel_rfl) (fc f47 fn)
theorem f542 : Fact F 60 [(.d x0), (.d x0)] [.v (.d (.i .i64 (.ofNat 0)))] := fact_of (k := 1000) _ (by kernel_rfl) fn
theorem f543 : Fact F 60 [(.d x1), (.d x1)] [.v (.d (.i .i64 (.ofNat 0)))] := fact_of (k := 1000) _ (by kernel_rfl) (fc f542 fn)
theorem f544 : Fact F 19 [(.d x1), (.d x1)] [.v (.d (.b true))] := fact_of (k := 1000) _ (by kernel_rfl) (fc f543 fn)
theorem f545 : Fact F 19 [(.d x0), (.d x0)] [.v (.d (.b true))] := fact_of (k := 1000) _ (by kernel_rfl) (fc f542 fn)
theorem f546 : Fact F 104 [(.d x9), (.d x9)] [.v (.d (.b true))] := fact_of (k := 1000) _ (by kernel_rfl) (fc f544 (fc f545 fn))
theorem f547 : Fact F 60 [(.d x2), (.d x2)] [.v (.d (.i .i64 (.ofNat 0)))] := fact_of (k := 1000) _ (by kernel_rfl) fn
theorem f548 : Fact F 60 [(.d x3), (.d x3)] [.v (.d (.i .i64 (.ofNat 0)))] := fact_of (k := 1000) _ (by kernel_rfl) (fc f547 fn)
theorem f549 : Fact F 19 [(.d x3), (.d x3)] [.v (.d (.b true))] := fact_of (k := 1000) _ (by kernel_rfl) (fc f548 fn)
theorem f550 : Fact F 19 [(.d x2), (.d x2)] [.v (.d (.b true))] := fact_of (k := 1000) _ (by kernel_rfl) (fc f547 fn)
theorem f551 : Fact F 104 [(.d x11), (.d x11)] [.v (.d (.b true))] := fact_of (k := 1000) _ (by kernel_rfl) (fc f549 (fc f550 fn))
theorem f552 : Fact F 104 [(.d x12), (.d x12)] [.v (.d (.b true))] := fact_of (k := 1000) _ (by kernel_rfl) (fc f47 fn)
theorem f553 : Fact F 60 [(.d x4), (.d x4)] [.v (.d (.i .i64 (.ofNat 0)))] := fact_of (k := 1000) _ (by kernel_rfl) fn
theorem f554 : Fact F 19 [(.d x4), (.d x4)] [.v (.d (.b true))] := fact_of (k := 1000) _ (by kernel_rfl) (fc f553 fn)
theorem f555 : Fact F 104 [(.d x13), (.d x13)] [.v (.d (.b true))] := fact_of (k := 1000) _ (by kernel_rfl) (fc f554 fn)
theorem f556 : Fact F 104 [(.d x15), (.d x15)] [.v (.d (.b true))] := fact_of (k := 1000) _ (by kernel_rfl) (fc f554 (fc f550 fn))
theorem f557 : Fact F 60 [(.d x5), (.d x5)] [.v (.d (.i .i64 (.ofNat 0)))] := fact_of (k := 1000) _ (by kernel_rfl) fn
theorem f558 : Fact F 19 [(.d x5), (.d x5)] [.v (.d (.b true))] := fact_of (k := 1000) _ (by kernel_rfl) (fc f557 fn)
theorem f559 : Fact F 104 [(.d x18), (.d x18)] [.v (.d (.b true))] := fact_of (k := 1000) _ (by kernel_rfl) (fc f47 (fc f545 (fc f558 fn)))
theorem f560 : Fact F 60 [(.d x6), (.d x6)] [.v (.d (.i .i64 (.ofNat 0)))] := fact_of (k := 1000) _ (by kernel_rfl) (fc f543 fn)
theorem f561 : Fact F 19 [(.d x6), (.d x6)] [.v (.d (.b true))] := fact_of (k := 1000) _ (by kernel_rfl) (fc f560 fn)
theorem f562 : Fact F 104 [(.d x20), (.d x20)] [.v (.d (.b true))] := fact_of (k := 1000) _ (by kernel_rfl) (fc f561 (fc f544 fn))
theorem f563 : Fact F 44 [(.d x49), (.d x49)] [.v (.d (.b true))] := fact_of (k := 1000) _ (by kernel_rfl) (fc f537 (fc f538 (fc f539 (fc f540 (fc f541 (fc f546 (fc f551 (fc f552 (fc f555 (fc f556 (fc f559 (fc f562 fn))))))))))))
theorem f564 : Fact F 11 [(.d (.s ⟨#[66, 111, 111, 108]⟩)), (.d (.sl []))] [.v (.d x50)] := fact_of (k := 1000) _ (by kernel_rfl) fn
theorem f565 : Fact F 22 [(.d (.sl [x50, x2]))] [.v (.d x51)] := fact_of (k := 1000) _ (by kernel_rfl) fn
theorem f566 : Fact F 16 [(.d (.sl [x0, x1]))] [.v (.d x52)] := fact_of (k := 1000) _ (by kernel_rfl) fn
theorem f567 : Fact F 14 [(.d x51), (.d x52)] [.v (.d x53)] := fact_of (k := 1000) _ (by kernel_rfl) fn
theorem f568 : Fact F 16 [(.d (.sl [x50, x1]))] [.v (.d x54)] := fact_of (k := 1000) _ (by kernel_rfl) fn
theorem f569 : Fact F 14 [(.d x30), (.d x54)] [.v (.d x55)] := fact_of (k := 1000) _ (by kernel_rfl) fn
theorem f570 : Fact F 16 [(.d (.sl [x2, x1]))] [.v (.d x56)] := fact_of (k := 1000) _ (by kernel_rfl) fn
theorem f571 : Fact F 14 [(.d x30), (.d x56)] [.v (.d x57)] := fact_of (k := 1000) _ (by kernel_rfl) fn
theorem f572 : Fact F 22 [(.d (.sl [x55, x57]))] [.v (.d x58)] := fact_of (k := 1000) _ (by kernel_rfl) fn
theorem f573 : Fact F 106 [(.d x50)] [.v (.d (.i .i64 (.ofNat 1)))] := fact_of (k := 1000) _ (by kernel_rfl) fn
theorem f574 : Fact F 106 [(.d x51)] [.v (.d (.i .i64 (.ofNat 3)))] := fact_of (k := 1000) _ (by kernel_rfl) (fc f573 (fc f179 fn))
theorem f575 : Fact F 106 [(.d x52)] [.v (.d (.i .i64 (.ofNat 4)))] := fact_of (k := 1000) _ (by kernel_rfl) (fc f77 (fc f78 fn))
theorem f576 : Fact F 106 [(.d x53)] [.v (.d (.i .i64 (.ofNat 8)))] := fact_of (k := 1000) _ (by kernel_rfl) (fc f574 (fc f575 fn))
theorem f577 : Fact F 107 [(.d x50)] [.v (.d (.i .i64 (.ofNat 1)))] := fact_of (k := 1000) _ (by kernel_rfl) fn
theorem f578 : Fact F 107 [(.d x51)] [.v (.d (.i .i64 (.ofNat 2)))] := fact_of (k := 1000) _ (by kernel_rfl) (fc f577 (fc f181 fn))
theorem f579 : Fact F 107 [(.d x52)] [.v (.d (.i .i64 (.ofNat 3)))] := fact_of (k := 1000) _ (by kernel_rfl) (fc f79 (fc f80 fn))
theorem f580 : Fact F 107 [(.d x53)] [.v (.d (.i .i64 (.ofNat 4)))] := fact_of (k := 1000) _ (by kernel_rfl) (fc f578 (fc f579 fn))
theorem f581 : Fact F 202 [(.d x51), (.d (.i .i64 (.ofNat 0)))] [.v (.d (.i .i64 (.ofNat 0)))] := fact_of (k := 1000) _ (by kernel_rfl) fn
theorem f582 : Fact F 238 [(.d x50), (.d (.i .i64 (.ofNat 0)))] [.v (.d (.b true))] := fact_of (k := 1000) _ (by kernel_rfl) fn
theorem f583 : Fact F 202 [(.d x51), (.d (.i .i64 (.ofNat 1)))] [.v (.d (.i .i64 (.ofNat 0)))] := fact_of (k := 1000) _ (by kernel_rfl) fn
theorem f584 : Fact F 238 [(.d x51), (.d (.i .i64 (.ofNat 0)))] [.v (.d (.b true))] := fact_of (k := 1000) _ (by kernel_rfl) (fc f581 (fc f582 (fc f583 (fc f183 fn))))
theorem f585 : Fact F 173 [(.d x53)] [.v (.d (.b true))] := fact_of (k := 1000) _ (by kernel_rfl) (fc f584 fn)
theorem f586 : Fact F 173 [(.d x51)] [.v (.d (.b true))] := fact_of (k := 1000) _ (by kernel_rfl) fn
theorem f587 : Fact F 228 [(.d (.s ⟨#[66, 111, 111, 108]⟩)), (.f 229 [] [])] [.v (.d (.b true))] := fact_of (k := 1000) _ (by kernel_rfl) (fc f11 (fc f14 (fc f14 (fc f72 fn))))
theorem f588 : Fact F 165 [(.d (.s ⟨#[66, 111, 111, 108]⟩))] [.v (.d (.b true))] := fact_of (k := 1000) _ (by kernel_rfl) (fc f9 (fc f587 fn))
theorem f589 : Fact F 231 [(.d x29), (.d (.s ⟨#[66, 111, 111, 108]⟩))] [.v (.d (.i .i64 (.negSucc 0)))] := fact_of (k := 1000) _ (by kernel_rfl) fn
theorem f590 : Fact F 166 [(.d x29), (.d (.s ⟨#[66, 111, 111, 108]⟩))] [.v (.d (.b false))] := fact_of (k := 1000) _ (by kernel_rfl) (fc f589 fn)
theorem f591 : Fact F 237 [(.d x50)] [.v (.d (.b true))] := fact_of (k := 1000) _ (by kernel_rfl) fn
theorem f592 : Fact F 173 [(.d x50)] [.v (.d (.b true))] := fact_of (k := 1000) _ (by kernel_rfl) (fc f588 (fc f590 (fc f591 fn)))
theorem f593 : Fact F 108 [(.d x50)] [.v (.d (.b true))] := fact_of (k := 1000) _ (by kernel_rfl) (fc f592 fn)
theorem f594 : Fact F 174 [(.d x50)] [.v (.d (.b false))] := fact_of (k := 1000) _ (by kernel_rfl) (fc f593 fn)
theorem f595 : Fact F 108 [(.d x51)] [.v (.d (.b true))] := fact_of (k := 1000) _ (by kernel_rfl) (fc f586 (fc f594 (fc f195 fn)))
theorem f596 : Fact F 174 [(.d x51)] [.v (.d (.b false))] := fact_of (k := 1000) _ (by kernel_rfl) (fc f595 fn)
theorem f597 : Fact F 173 [(.d x52)] [.v (.d (.b true))] := fact_of (k := 1000) _ (by kernel_rfl) fn
theorem f598 : Fact F 108 [(.d x52)] [.v (.d (.b true))] := fact_of (k := 1000) _ (by kernel_rfl) (fc f597 (fc f87 (fc f479 fn)))
theorem f599 : Fact F 174 [(.d x52)] [.v (.d (.b false))] := fact_of (k := 1000) _ (by kernel_rfl) (fc f598 fn)
theorem f600 : Fact F 108 [(.d x53)] [.v (.d (.b true))] := fact_of (k := 1000) _ (by kernel_rfl) (fc f585 (fc f596 (fc f599 fn)))
theorem f601 : Fact F 47 [(.d x53)] [.v (.d (.i .i64 (.ofNat 0)))] := fact_of (k := 1000) _ (by kernel_rfl) (fc f576 (fc f580 (fc f600 fn)))
theorem f602 : Fact F 202 [(.d x53), (.d (.i .i64 (.ofNat 0)))] [.v (.d (.i .i64 (.ofNat 0)))] := fact_of (k := 1000) _ (by kernel_rfl) fn
theorem f603 : Fact F 202 [(.d x53), (.d (.i .i64 (.ofNat 1)))] [.v (.d (.i .i64 (.ofNat 1)))] := fact_of (k := 1000) _ (by kernel_rfl) fn
theorem f604 : Fact F 202 [(.d x52), (.d (.i .i64 (.ofNat 0)))] [.v (.d (.i .i64 (.ofNat 0)))] := fact_of (k := 1000) _ (by kernel_rfl) fn
theorem f605 : Fact F 202 [(.d x52), (.d (.i .i64 (.ofNat 1)))] [.v (.d (.i .i64 (.ofNat 0)))] := fact_of (k := 1000) _ (by kernel_rfl) fn
theorem f606 : Fact F 109 [(.d x53)] [.v (.d (.sl []))] := fact_of (k := 1000) _ (by kernel_rfl) (fc f602 (fc f581 (fc f583 (fc f603 (fc f604 (fc f605 (fc f90 fn)))))))
theorem f607 : Fact F 344 [(.d (.i .i64 (.ofNat 0)))] [.v (.d (.s ⟨#[48]⟩))] := fact_of (k := 1000) _ (by kernel_rfl) fn
theorem f608 : Fact F 329 [(.d (.i .i64 (.ofNat 0))), (.d (.i .i64 (.ofNat 10)))] [.v (.d (.s ⟨#[48]⟩))] := fact_of (k := 1000) _ (by kernel_rfl) (fc f607 fn)
theorem f609 : Fact F 290 [(.d (.i .i64 (.ofNat 0)))] [.v (.d (.s ⟨#[48]⟩))] := fact_of (k := 1000) _ (by kernel_rfl) (fc f608 fn)
theorem f610 : Fact F 242 [(.d (.i .i64 (.ofNat 0)))] [.v (.d (.s ⟨#[48]⟩))] := fact_of (k := 1000) _ (by kernel_rfl) (fc f609 fn)
theorem f611 : Fact F 179 [(.d (.i .i64 (.ofNat 0)))] [.v (.d x59)] := fact_of (k := 1000) _ (by kernel_rfl) (fc f610 fn)
theorem f612 : Fact F 178 [(.d x52), (.d x59)] [.v (.d x61)] := fact_of (k := 1000) _ (by kernel_rfl) (fc f604 (fc f605 (fc f90 fn)))
theorem f613 : Fact F 289 [(.d (.sl [x59]))] [.v (.d (.b false))] := fact_of (k := 1000) _ (by kernel_rfl) fn
theorem f614 : Fact F 289 [(.d (.sl [x60]))] [.v (.d (.b false))] := fact_of (k := 1000) _ (by kernel_rfl) fn
theorem f615 : Fact F 240 [x62, (.d (.sl [(.sl [x59]), (.sl [x60])]))] [.v (.d (.sl [(.sl [x59, x60])])), .v (.d (.b true))] := fact_of (k := 1000) _ (by kernel_rfl) (fc f613 (fc f614 fn))
theorem f616 : Fact F 181 [(.d x61)] [.v (.d (.i .i64 (.ofNat 0))), .v (.d (.b false))] := fact_of (k := 1000) _ (by kernel_rfl) fn
theorem f617 : Fact F 291 [(.d (.s ⟨#[48]⟩))] [.v (.d (.i .i64 (.ofNat 0))), .v (.d .nif)] := fact_of (k := 1000) _ (by kernel_rfl) fn
theorem f618 : Fact F 243 [(.d (.s ⟨#[48]⟩))] [.v (.d (.i .i64 (.ofNat 0))), .v (.d .nif)] := fact_of (k := 1000) _ (by kernel_rfl) (fc f617 fn)
theorem f619 : Fact F 181 [(.d x59)] [.v (.d (.i .i64 (.ofNat 0))), .v (.d (.b true))] := fact_of (k := 1000) _ (by kernel_rfl) (fc f618 fn)
theorem f620 : Fact F 191 [(.d x59), (.d (.i .i64 (.ofNat 0))), (.d (.b true))] [.v (.d (.b false))] := fact_of (k := 1000) _ (by kernel_rfl) (fc f619 fn)
theorem f621 : Fact F 246 [(.d x59), (.pe [(.d (.i .i64 (.ofNat 0)))] 0), (.pe [(.d (.b true))] 0), x63] [.v (.d (.b false))] := fact_of (k := 1000) _ (by kernel_rfl) (fc f620 fn)
theorem f622 : Fact F 181 [(.d x60)] [.v (.d (.i .i64 (.ofNat 0))), .v (.d (.b false))] := fact_of (k := 1000) _ (by kernel_rfl) fn
theorem f623 : Fact F 191 [(.d x59), (.d (.i .i64 (.ofNat 0))), (.d (.b false))] [.v (.d (.b true))] := fact_of (k := 1000) _ (by kernel_rfl) (fc f619 fn)
theorem f624 : Fact F 246 [(.d x59), (.pe [(.d (.i .i64 (.ofNat 0)))] 0), (.pe [(.d (.b true))] 0), x64] [.v (.d (.b true))] := fact_of (k := 1000) _ (by kernel_rfl) (fc f623 fn)
theorem f625 : Fact F 191 [(.d x60), (.d (.i .i64 (.ofNat 0))), (.d (.b true))] [.v (.d (.b true))] := fact_of (k := 1000) _ (by kernel_rfl) (fc f622 (fc f624 fn))
theorem f626 : Fact F 246 [(.d x60), (.pe [(.d (.i .i64 (.ofNat 0)))] 0), (.pe [(.d (.b true))] 0), x63] [.v (.d (.b true))] := fact_of (k := 1000) _ (by kernel_rfl) (fc f625 fn)
theorem f627 : Fact F 191 [(.d x61), (.d (.i .i64 (.ofNat 0))), (.d (.b true))] [.v (.d (.b true))] := fact_of (k := 1000) _ (by kernel_rfl) (fc f616 (fc f621 (fc f626 fn)))
theorem f628 : Fact F 182 [(.d (.sl [])), (.d (.i .i64 (.ofNat 0)))] [.v (.d (.i .i64 (.negSucc 0)))] := fact_of (k := 1000) _ (by kernel_rfl) fn
theorem f629 : Fact F 182 [(.d (.sl [(.i .i64 (.ofNat 0))])), (.d (.i .i64 (.ofNat 0)))] [.v (.d (.i .i64 (.ofNat 0)))] := fact_of (k := 1000) _ (by kernel_rfl) fn
theorem f630 : Fact F 66 [(.d x51), (.d (.sl []))] [.v (.d x51)] := fact_of (k := 1000) _ (by kernel_rfl) (fc f581 (fc f583 fn))
theorem f631 : Fact F 126 [(.d x51)] [.v (.d x51)] := fact_of (k := 1000) _ (by kernel_rfl) (fc f630 fn)
theorem f632 : Fact F 114 [x62, (.d x61)] [.v (.d x65)] := fact_of (k := 1000) _ (by kernel_rfl) (fc f616 (fc f619 (fc f628 (fc f622 (fc f619 (fc f629 (fc f631 fn)))))))
theorem f633 : Fact F 183 [(.d x65)] [.v (.d (.sl [(.i .i64 (.ofNat 0))]))] := fact_of (k := 1000) _ (by kernel_rfl) fn
theorem f634 : Fact F 115 [(.d x65)] [.v (.d (.b true))] := fact_of (k := 1000) _ (by kernel_rfl) (fc f633 fn)
theorem f635 : Fact F 47 [(.d x51)] [.v (.d (.i .i64 (.ofNat 0)))] := fact_of (k := 1000) _ (by kernel_rfl) (fc f574 (fc f578 (fc f595 fn)))
theorem f636 : Fact F 109 [(.d x51)] [.v (.d (.sl []))] := fact_of (k := 1000) _ (by kernel_rfl) (fc f581 (fc f583 fn))
theorem f637 : Fact F 181 [(.d x50)] [.v (.d (.i .i64 (.ofNat 0))), .v (.d (.b false))] := fact_of (k := 1000) _ (by kernel_rfl) fn
theorem f638 : Fact F 114 [x66, (.d x50)] [.v (.d x67)] := fact_of (k := 1000) _ (by kernel_rfl) (fc f637 fn)
theorem f639 : Fact F 183 [(.d x67)] [.v (.d (.sl []))] := fact_of (k := 1000) _ (by kernel_rfl) fn
theorem f640 : Fact F 115 [(.d x67)] [.v (.d (.b true))] := fact_of (k := 1000) _ (by kernel_rfl) (fc f639 fn)
theorem f641 : Fact F 181 [(.d x2)] [.v (.d (.i .i64 (.ofNat 0))), .v (.d (.b false))] := fact_of (k := 1000) _ (by kernel_rfl) fn
theorem f642 : Fact F 114 [x66, (.d x2)] [.v (.d x68)] := fact_of (k := 1000) _ (by kernel_rfl) (fc f641 fn)
theorem f643 : Fact F 183 [(.d x68)] [.v (.d (.sl []))] := fact_of (k := 1000) _ (by kernel_rfl) fn
theorem f644 : Fact F 115 [(.d x68)] [.v (.d (.b true))] := fact_of (k := 1000) _ (by kernel_rfl) (fc f643 fn)
theorem f645 : Fact F 116 [(.d (.sl []))] [.v (.d (.b true))] := fact_of (k := 1000) _ (by kernel_rfl) fn
theorem f646 : Fact F 51 [(.d x51)] [.row 5 [x67, x68] 0 2, .v (.d (.i .i64 (.ofNat 0)))] := fact_of (k := 1000) _ (by kernel_rfl) (fc f635 (fc f636 (fc f638 (fc f640 (fc f642 (fc f644 (fc f645 fn)))))))
theorem f647 : Fact F 116 [(.d (.sl [x51]))] [.v (.d (.b true))] := fact_of (k := 1000) _ (by kernel_rfl) (fc f646 fn)
theorem f648 : Fact F 51 [(.d x53)] [.row 5 [x65] 0 1, .v (.d (.i .i64 (.ofNat 0)))] := fact_of (k := 1000) _ (by kernel_rfl) (fc f601 (fc f606 (fc f611 (fc f612 (fc f615 (fc f627 (fc f632 (fc f634 (fc f647 fn)))))))))
theorem f649 : Fact F 106 [(.d x54)] [.v (.d (.i .i64 (.ofNat 4)))] := fact_of (k := 1000) _ (by kernel_rfl) (fc f573 (fc f78 fn))
theorem f650 : Fact F 106 [(.d x55)] [.v (.d (.i .i64 (.ofNat 6)))] := fact_of (k := 1000) _ (by kernel_rfl) (fc f22 (fc f649 fn))
theorem f651 : Fact F 106 [(.d x56)] [.v (.d (.i .i64 (.ofNat 4)))] := fact_of (k := 1000) _ (by kernel_rfl) (fc f179 (fc f78 fn))
theorem f652 : Fact F 106 [(.d x57)] [.v (.d (.i .i64 (.ofNat 6)))] := fact_of (k := 1000) _ (by kernel_rfl) (fc f22 (fc f651 fn))
theorem f653 : Fact F 106 [(.d x58)] [.v (.d (.i .i64 (.ofNat 13)))] := fact_of (k := 1000) _ (by kernel_rfl) (fc f650 (fc f652 fn))
theorem f654 : Fact F 107 [(.d x54)] [.v (.d (.i .i64 (.ofNat 3)))] := fact_of (k := 1000) _ (by kernel_rfl) (fc f577 (fc f80 fn))
theorem f655 : Fact F 107 [(.d x55)] [.v (.d (.i .i64 (.ofNat 4)))] := fact_of (k := 1000) _ (by kernel_rfl) (fc f23 (fc f654 fn))
theorem f656 : Fact F 107 [(.d x56)] [.v (.d (.i .i64 (.ofNat 3)))] := fact_of (k := 1000) _ (by kernel_rfl) (fc f181 (fc f80 fn))
theorem f657 : Fact F 107 [(.d x57)] [.v (.d (.i .i64 (.ofNat 4)))] := fact_of (k := 1000) _ (by kernel_rfl) (fc f23 (fc f656 fn))
theorem f658 : Fact F 107 [(.d x58)] [.v (.d (.i .i64 (.ofNat 5)))] := fact_of (k := 1000) _ (by kernel_rfl) (fc f655 (fc f657 fn))
theorem f659 : Fact F 173 [(.d x58)] [.v (.d (.b true))] := fact_of (k := 1000) _ (by kernel_rfl) fn
theorem f660 : Fact F 173 [(.d x55)] [.v (.d (.b true))] := fact_of (k := 1000) _ (by kernel_rfl) (fc f27 fn)
theorem f661 : Fact F 174 [(.d x30)] [.v (.d (.b false))] := fact_of (k := 1000) _ (by kernel_rfl) (fc f25 fn)
theorem f662 : Fact F 173 [(.d x54)] [.v (.d (.b true))] := fact_of (k := 1000) _ (by kernel_rfl) fn
theorem f663 : Fact F 108 [(.d x54)] [.v (.d (.b true))] := fact_of (k := 1000) _ (by kernel_rfl) (fc f662 (fc f594 (fc f479 fn)))
theorem f664 : Fact F 174 [(.d x54)] [.v (.d (.b false))] := fact_of (k := 1000) _ (by kernel_rfl) (fc f663 fn)
theorem f665 : Fact F 108 [(.d x55)] [.v (.d (.b true))] := fact_of (k := 1000) _ (by kernel_rfl) (fc f660 (fc f661 (fc f664 fn)))
theorem f666 : Fact F 174 [(.d x55)] [.v (.d (.b false))] := fact_of (k := 1000) _ (by kernel_rfl) (fc f665 fn)
theorem f667 : Fact F 173 [(.d x57)] [.v (.d (.b true))] := fact_of (k := 1000) _ (by kernel_rfl) (fc f27 fn)
theorem f668 : Fact F 173 [(.d x56)] [.v (.d (.b true))] := fact_of (k := 1000) _ (by kernel_rfl) fn
theorem f669 : Fact F 108 [(.d x56)] [.v (.d (.b true))] := fact_of (k := 1000) _ (by kernel_rfl) (fc f668 (fc f195 (fc f479 fn)))
theorem f670 : Fact F 174 [(.d x56)] [.v (.d (.b false))] := fact_of (k := 1000) _ (by kernel_rfl) (fc f669 fn)
theorem f671 : Fact F 108 [(.d x57)] [.v (.d (.b true))] := fact_of (k := 1000) _ (by kernel_rfl) (fc f667 (fc f661 (fc f670 fn)))
theorem f672 : Fact F 174 [(.d x57)] [.v (.d (.b false))] := fact_of (k := 1000) _ (by kernel_rfl) (fc f671 fn)
theorem f673 : Fact F 108 [(.d x58)] [.v (.d (.b true))] := fact_of (k := 1000) _ (by kernel_rfl) (fc f659 (fc f666 (fc f672 fn)))
theorem f674 : Fact F 47 [(.d x58)] [.v (.d (.i .i64 (.ofNat 0)))] := fact_of (k := 1000) _ (by kernel_rfl) (fc f653 (fc f658 (fc f673 fn)))
theorem f675 : Fact F 202 [(.d x58), (.d (.i .i64 (.ofNat 0)))] [.v (.d (.i .i64 (.ofNat 0)))] := fact_of (k := 1000) _ (by kernel_rfl) fn
theorem f676 : Fact F 202 [(.d x55), (.d (.i .i64 (.ofNat 0)))] [.v (.d (.i .i64 (.ofNat 0)))] := fact_of (k := 1000) _ (by kernel_rfl) fn
theorem f677 : Fact F 202 [(.d x55), (.d (.i .i64 (.ofNat 1)))] [.v (.d (.i .i64 (.ofNat 1)))] := fact_of (k := 1000) _ (by kernel_rfl) fn
theorem f678 : Fact F 202 [(.d x54), (.d (.i .i64 (.ofNat 0)))] [.v (.d (.i .i64 (.ofNat 0)))] := fact_of (k := 1000) _ (by kernel_rfl) fn
theorem f679 : Fact F 202 [(.d x54), (.d (.i .i64 (.ofNat 1)))] [.v (.d (.i .i64 (.ofNat 0)))] := fact_of (k := 1000) _ (by kernel_rfl) fn
theorem f680 : Fact F 202 [(.d x58), (.d (.i .i64 (.ofNat 1)))] [.v (.d (.i .i64 (.ofNat 0)))] := fact_of (k := 1000) _ (by kernel_rfl) fn
theorem f681 : Fact F 202 [(.d x57), (.d (.i .i64 (.ofNat 0)))] [.v (.d (.i .i64 (.ofNat 0)))] := fact_of (k := 1000) _ (by kernel_rfl) fn
theorem f682 : Fact F 202 [(.d x57), (.d (.i .i64 (.ofNat 1)))] [.v (.d (.i .i64 (.ofNat 1)))] := fact_of (k := 1000) _ (by kernel_rfl) fn
theorem f683 : Fact F 202 [(.d x56), (.d (.i .i64 (.ofNat 0)))] [.v (.d (.i .i64 (.ofNat 0)))] := fact_of (k := 1000) _ (by kernel_rfl) fn
theorem f684 : Fact F 202 [(.d x56), (.d (.i .i64 (.ofNat 1)))] [.v (.d (.i .i64 (.ofNat 0)))] := fact_of (k := 1000) _ (by kernel_rfl) fn
theorem f685 : Fact F 109 [(.d x58)] [.v (.d (.sl []))] := fact_of (k := 1000) _ (by kernel_rfl) (fc f675 (fc f676 (fc f677 (fc f678 (fc f679 (fc f90 (fc f680 (fc f681 (fc f682 (fc f683 (fc f684 (fc f90 fn))))))))))))
theorem f686 : Fact F 178 [(.d x54), (.d x59)] [.v (.d x69)] := fact_of (k := 1000) _ (by kernel_rfl) (fc f678 (fc f679 (fc f90 fn)))
theorem f687 : Fact F 289 [(.d (.sl [x50]))] [.v (.d (.b false))] := fact_of (k := 1000) _ (by kernel_rfl) fn
theorem f688 : Fact F 240 [x70, (.d (.sl [(.sl [x50]), (.sl [x60])]))] [.v (.d (.sl [(.sl [x50, x60])])), .v (.d (.b true))] := fact_of (k := 1000) _ (by kernel_rfl) (fc f687 (fc f614 fn))
theorem f689 : Fact F 181 [(.d x69)] [.v (.d (.i .i64 (.ofNat 0))), .v (.d (.b false))] := fact_of (k := 1000) _ (by kernel_rfl) fn
theorem f690 : Fact F 191 [(.d x50), (.d (.i .i64 (.ofNat 0))), (.d (.b true))] [.v (.d (.b false))] := fact_of (k := 1000) _ (by kernel_rfl) (fc f637 fn)
theorem f691 : Fact F 246 [(.d x50), (.pe [(.d (.i .i64 (.ofNat 0)))] 0), (.pe [(.d (.b true))] 0), x71] [.v (.d (.b false))] := fact_of (k := 1000) _ (by kernel_rfl) (fc f690 fn)
theorem f692 : Fact F 246 [(.d x60), (.pe [(.d (.i .i64 (.ofNat 0)))] 0), (.pe [(.d (.b true))] 0), x71] [.v (.d (.b true))] := fact_of (k := 1000) _ (by kernel_rfl) (fc f625 fn)
theorem f693 : Fact F 191 [(.d x69), (.d (.i .i64 (.ofNat 0))), (.d (.b true))] [.v (.d (.b true))] := fact_of (k := 1000) _ (by kernel_rfl) (fc f689 (fc f691 (fc f692 fn)))
theorem f694 : Fact F 344 [(.d (.i .i64 (.ofNat 1)))] [.v (.d (.s ⟨#[49]⟩))] := fact_of (k := 1000) _ (by kernel_rfl) fn
theorem f695 : Fact F 329 [(.d (.i .i64 (.ofNat 1))), (.d (.i .i64 (.ofNat 10)))] [.v (.d (.s ⟨#[49]⟩))] := fact_of (k := 1000) _ (by kernel_rfl) (fc f694 fn)
theorem f696 : Fact F 290 [(.d (.i .i64 (.ofNat 1)))] [.v (.d (.s ⟨#[49]⟩))] := fact_of (k := 1000) _ (by kernel_rfl) (fc f695 fn)
theorem f697 : Fact F 242 [(.d (.i .i64 (.ofNat 1)))] [.v (.d (.s ⟨#[49]⟩))] := fact_of (k := 1000) _ (by kernel_rfl) (fc f696 fn)
theorem f698 : Fact F 179 [(.d (.i .i64 (.ofNat 1)))] [.v (.d x72)] := fact_of (k := 1000) _ (by kernel_rfl) (fc f697 fn)
theorem f699 : Fact F 178 [(.d x56), (.d x72)] [.v (.d x74)] := fact_of (k := 1000) _ (by kernel_rfl) (fc f683 (fc f684 (fc f90 fn)))
theorem f700 : Fact F 289 [(.d (.sl [x2]))] [.v (.d (.b false))] := fact_of (k := 1000) _ (by kernel_rfl) fn
theorem f701 : Fact F 289 [(.d (.sl [x73]))] [.v (.d (.b false))] := fact_of (k := 1000) _ (by kernel_rfl) fn
theorem f702 : Fact F 240 [x75, (.d (.sl [(.sl [x2]), (.sl [x73])]))] [.v (.d (.sl [(.sl [x2, x73])])), .v (.d (.b true))] := fact_of (k := 1000) _ (by kernel_rfl) (fc f700 (fc f701 fn))
theorem f703 : Fact F 181 [(.d x74)] [.v (.d (.i .i64 (.ofNat 0))), .v (.d (.b false))] := fact_of (k := 1000) _ (by kernel_rfl) fn
theorem f704 : Fact F 191 [(.d x2), (.d (.i .i64 (.ofNat 1))), (.d (.b true))] [.v (.d (.b false))] := fact_of (k := 1000) _ (by kernel_rfl) (fc f641 fn)
theorem f705 : Fact F 246 [(.d x2), (.pe [(.d (.i .i64 (.ofNat 1)))] 0), (.pe [(.d (.b true))] 0), x76] [.v (.d (.b false))] := fact_of (k := 1000) _ (by kernel_rfl) (fc f704 fn)
theorem f706 : Fact F 181 [(.d x73)] [.v (.d (.i .i64 (.ofNat 0))), .v (.d (.b false))] := fact_of (k := 1000) _ (by kernel_rfl) fn
theorem f707 : Fact F 291 [(.d (.s ⟨#[49]⟩))] [.v (.d (.i .i64 (.ofNat 1))), .v (.d .nif)] := fact_of (k := 1000) _ (by kernel_rfl) fn
theorem f708 : Fact F 243 [(.d (.s ⟨#[49]⟩))] [.v (.d (.i .i64 (.ofNat 1))), .v (.d .nif)] := fact_of (k := 1000) _ (by kernel_rfl) (fc f707 fn)
theorem f709 : Fact F 181 [(.d x72)] [.v (.d (.i .i64 (.ofNat 1))), .v (.d (.b true))] := fact_of (k := 1000) _ (by kernel_rfl) (fc f708 fn)
theorem f710 : Fact F 191 [(.d x72), (.d (.i .i64 (.ofNat 1))), (.d (.b false))] [.v (.d (.b true))] := fact_of (k := 1000) _ (by kernel_rfl) (fc f709 fn)
theorem f711 : Fact F 246 [(.d x72), (.pe [(.d (.i .i64 (.ofNat 1)))] 0), (.pe [(.d (.b true))] 0), x77] [.v (.d (.b true))] := fact_of (k := 1000) _ (by kernel_rfl) (fc f710 fn)
theorem f712 : Fact F 191 [(.d x73), (.d (.i .i64 (.ofNat 1))), (.d (.b true))] [.v (.d (.b true))] := fact_of (k := 1000) _ (by kernel_rfl) (fc f706 (fc f711 fn))
theorem f713 : Fact F 246 [(.d x73), (.pe [(.d (.i .i64 (.ofNat 1)))] 0), (.pe [(.d (.b true))] 0), x76] [.v (.d (.b true))] := fact_of (k := 1000) _ (by kernel_rfl) (fc f712 fn)
theorem f714 : Fact F 191 [(.d x74), (.d (.i .i64 (.ofNat 1))), (.d (.b true))] [.v (.d (.b true))] := fact_of (k := 1000) _ (by kernel_rfl) (fc f703 (fc f705 (fc f713 fn)))
theorem f715 : Fact F 126 [(.d x30)] [.v (.d x30)] := fact_of (k := 1000) _ (by kernel_rfl) (fc f33 fn)
theorem f716 : Fact F 114 [x75, (.d x69)] [.v (.d x78)] := fact_of (k := 1000) _ (by kernel_rfl) (fc f689 (fc f637 (fc f622 (fc f619 (fc f628 (fc f715 fn))))))
theorem f717 : Fact F 183 [(.d x78)] [.v (.d (.sl []))] := fact_of (k := 1000) _ (by kernel_rfl) fn
theorem f718 : Fact F 115 [(.d x78)] [.v (.d (.b true))] := fact_of (k := 1000) _ (by kernel_rfl) (fc f717 fn)
theorem f719 : Fact F 182 [(.d (.sl [])), (.d (.i .i64 (.ofNat 1)))] [.v (.d (.i .i64 (.negSucc 0)))] := fact_of (k := 1000) _ (by kernel_rfl) fn
theorem f720 : Fact F 114 [x75, (.d x74)] [.v (.d x79)] := fact_of (k := 1000) _ (by kernel_rfl) (fc f703 (fc f641 (fc f706 (fc f709 (fc f719 (fc f715 fn))))))
theorem f721 : Fact F 183 [(.d x79)] [.v (.d (.sl []))] := fact_of (k := 1000) _ (by kernel_rfl) fn
theorem f722 : Fact F 115 [(.d x79)] [.v (.d (.b true))] := fact_of (k := 1000) _ (by kernel_rfl) (fc f721 fn)
theorem f723 : Fact F 181 [(.d x30)] [.v (.d (.i .i64 (.ofNat 0))), .v (.d (.b false))] := fact_of (k := 1000) _ (by kernel_rfl) fn
theorem f724 : Fact F 114 [x66, (.d x30)] [.v (.d x80)] := fact_of (k := 1000) _ (by kernel_rfl) (fc f723 fn)
theorem f725 : Fact F 183 [(.d x80)] [.v (.d (.sl []))] := fact_of (k := 1000) _ (by kernel_rfl) fn
theorem f726 : Fact F 115 [(.d x80)] [.v (.d (.b true))] := fact_of (k := 1000) _ (by kernel_rfl) (fc f725 fn)
theorem f727 : Fact F 51 [(.d x30)] [.row 5 [x80] 0 1, .v (.d (.i .i64 (.ofNat 0)))] := fact_of (k := 1000) _ (by kernel_rfl) (fc f26 (fc f29 (fc f724 (fc f726 (fc f645 fn)))))
theorem f728 : Fact F 187 [(.d (.i .i64 (.ofNat 0)))] [.v (.d (.b false))] := fact_of (k := 1000) _ (by kernel_rfl) fn
theorem f729 : Fact F 121 [(.d (.i .i64 (.ofNat 0))), (.d (.i .i64 (.ofNat 0)))] [.v (.d (.i .i64 (.ofNat 0)))] := fact_of (k := 1000) _ (by kernel_rfl) (fc f728 (fc f728 fn))
theorem f730 : Fact F 188 [(.d (.s ⟨#[]⟩))] [.v (.d (.b false))] := fact_of (k := 1000) _ (by kernel_rfl) fn
theorem f731 : Fact F 122 [(.d (.s ⟨#[]⟩)), (.d (.s ⟨#[]⟩))] [.v (.d (.i .i64 (.ofNat 0)))] := fact_of (k := 1000) _ (by kernel_rfl) (fc f730 (fc f730 fn))
theorem f732 : Fact F 120 [(.d x82)] [.v (.d (.i .i64 (.ofNat 0)))] := fact_of (k := 1000) _ (by kernel_rfl) fn
theorem f733 : Fact F 56 [(.d x30), (.d x30)] [.v (.d (.i .i64 (.ofNat 0)))] := fact_of (k := 1000) _ (by kernel_rfl) (fc f729 (fc f731 (fc f729 (fc f729 (fc f732 fn)))))
theorem f734 : Fact F 77 [(.d x30), (.d x30)] [.v (.d (.b true))] := fact_of (k := 1000) _ (by kernel_rfl) (fc f733 fn)
theorem f735 : Fact F 184 [(.d x30), x81] [.v (.d (.b true))] := fact_of (k := 1000) _ (by kernel_rfl) (fc f734 fn)
theorem f736 : Fact F 116 [(.d (.sl [x30, x30]))] [.v (.d (.b true))] := fact_of (k := 1000) _ (by kernel_rfl) (fc f727 (fc f735 fn))
theorem f737 : Fact F 51 [(.d x58)] [.row 5 [x78, x79] 0 2, .v (.d (.i .i64 (.ofNat 0)))] := fact_of (k := 1000) _ (by kernel_rfl) (fc f674 (fc f685 (fc f611 (fc f686 (fc f688 (fc f693 (fc f698 (fc f699 (fc f702 (fc f714 (fc f716 (fc f718 (fc f720 (fc f722 (fc f736 fn)))))))))))))))
theorem f738 : Fact F 199 [(.pe [x47, x48] 0), x83, (.d (.s ⟨#[66, 111, 111, 108]⟩))] [.v (.d x30), .v (.d (.b false))] := fact_of (k := 1000) _ (by kernel_rfl) fn
theorem f739 : Fact F 203 [(.pe [x47, x48] 0), (.d x65), (.d x78)] [.v (.d (.sl [])), .v (.d (.b false))] := fact_of (k := 1000) _ (by kernel_rfl) (fc f738 fn)
theorem f740 : Fact F 199 [(.pe [x47, x48] 0), x83, (.d (.s ⟨#[73, 110, 116]⟩))] [.v (.d x30), .v (.d (.b false))] := fact_of (k := 1000) _ (by kernel_rfl) fn
theorem f741 : Fact F 203 [(.pe [x47, x48] 0), (.d x65), (.d x79)] [.v (.d (.sl [])), .v (.d (.b false))] := fact_of (k := 1000) _ (by kernel_rfl) (fc f740 fn)
theorem f742 : Fact F 190 [(.d x0), (.pe [x84] 0)] [.v (.d x59)] := fact_of (k := 1000) _ (by kernel_rfl) (fc f611 fn)
theorem f743 : Fact F 123 [(.d x0), (.d (.b false)), (.f 190 [] [(.pe [x84] 0)])] [.v (.d x59)] := fact_of (k := 1000) _ (by kernel_rfl) (fc f742 fn)
theorem f744 : Fact F 123 [(.d x0), (.d (.b true)), (.f 190 [] [(.pe [x84] 0)])] [.v (.d x59)] := fact_of (k := 1000) _ (by kernel_rfl) (fc f742 fn)
theorem f745 : Fact F 123 [(.d x1), (.d (.b false)), (.f 190 [] [(.pe [x84] 0)])] [.v (.d x60)] := fact_of (k := 1000) _ (by kernel_rfl) (fc f744 fn)
theorem f746 : Fact F 123 [(.d x52), (.d (.b false)), (.f 190 [] [(.pe [x84] 0)])] [.v (.d x61)] := fact_of (k := 1000) _ (by kernel_rfl) (fc f743 (fc f745 fn))
theorem f747 : Fact F 129 [x84, (.d x52)] [.v (.d x61)] := fact_of (k := 1000) _ (by kernel_rfl) (fc f746 fn)
theorem f748 : Fact F 258 [(.d (.i .i64 (.ofNat 0)))] [.v (.d (.b true))] := fact_of (k := 1000) _ (by kernel_rfl) fn
theorem f749 : Fact F 114 [x84, (.d x69)] [.v (.d x85)] := fact_of (k := 1000) _ (by kernel_rfl) (fc f689 (fc f637 (fc f622 (fc f619 (fc f628 (fc f631 fn))))))
theorem f750 : Fact F 181 [(.d x86)] [.v (.d (.i .i64 (.ofNat 0))), .v (.d (.b false))] := fact_of (k := 1000) _ (by kernel_rfl) fn
theorem f751 : Fact F 114 [x84, (.d x86)] [.v (.d x87)] := fact_of (k := 1000) _ (by kernel_rfl) (fc f750 (fc f641 (fc f622 (fc f619 (fc f628 (fc f631 fn))))))
theorem f752 : Fact F 205 [(.d x65), (.d (.i .i64 (.ofNat 0)))] [.v (.d (.sl [x85, x87])), .v (.d (.b true))] := fact_of (k := 1000) _ (by kernel_rfl) (fc f633 (fc f647 (fc f747 (fc f616 (fc f619 (fc f748 (fc f622 (fc f749 (fc f616 (fc f619 (fc f748 (fc f622 (fc f751 fn)))))))))))))
theorem f753 : Fact F 66 [(.d x50), (.d (.sl []))] [.v (.d x50)] := fact_of (k := 1000) _ (by kernel_rfl) fn
theorem f754 : Fact F 170 [(.d x50)] [.v (.d x50)] := fact_of (k := 1000) _ (by kernel_rfl) (fc f753 fn)
theorem f755 : Fact F 199 [(.pe [x47, x48] 0), x88, (.d (.s ⟨#[66, 111, 111, 108]⟩))] [.v (.d x50), .v (.d (.b true))] := fact_of (k := 1000) _ (by kernel_rfl) (fc f754 fn)
theorem f756 : Fact F 199 [(.pe [x47, x48] 0), x89, (.d (.s ⟨#[66, 111, 120]⟩))] [.v (.d x1), .v (.d (.b true))] := fact_of (k := 1000) _ (by kernel_rfl) (fc f119 fn)
theorem f757 : Fact F 297 [(.d (.sl [(.b true)])), (.d (.b false))] [.v (.d (.i .i64 (.negSucc 0)))] := fact_of (k := 1000) _ (by kernel_rfl) fn
theorem f758 : Fact F 254 [(.d (.sl [(.b true)])), (.d (.b false))] [.v (.d (.b false))] := fact_of (k := 1000) _ (by kernel_rfl) (fc f757 fn)
theorem f759 : Fact F 298 [(.d x30)] [.v (.d (.b true))] := fact_of (k := 1000) _ (by kernel_rfl) (fc f29 fn)
theorem f760 : Fact F 129 [x84, (.d x0)] [.v (.d x59)] := fact_of (k := 1000) _ (by kernel_rfl) (fc f743 fn)
theorem f761 : Fact F 248 [(.d (.i .i64 (.ofNat 0))), (.pe [(.d (.i .i64 (.ofNat 0)))] 0)] [.v (.d (.b true))] := fact_of (k := 1000) _ (by kernel_rfl) fn
theorem f762 : Fact F 191 [(.d x50), (.d (.i .i64 (.ofNat 0))), (.d (.b false))] [.v (.d (.b false))] := fact_of (k := 1000) _ (by kernel_rfl) (fc f637 fn)
theorem f763 : Fact F 191 [(.d x2), (.d (.i .i64 (.ofNat 0))), (.d (.b false))] [.v (.d (.b false))] := fact_of (k := 1000) _ (by kernel_rfl) (fc f641 fn)
theorem f764 : Fact F 114 [x84, (.d x50)] [.v (.d x67)] := fact_of (k := 1000) _ (by kernel_rfl) (fc f637 fn)
theorem f765 : Fact F 114 [x84, (.d x2)] [.v (.d x68)] := fact_of (k := 1000) _ (by kernel_rfl) (fc f641 fn)
theorem f766 : Fact F 59 [(.d x85), (.d x0)] [.v (.d (.sl [x67, x68]))] := fact_of (k := 1000) _ (by kernel_rfl) (fc f647 (fc f760 (fc f620 (fc f623 (fc f619 (fc f761 (fc f762 (fc f619 (fc f761 (fc f763 (fc f764 (fc f765 fn))))))))))))
theorem f767 : Fact F 297 [(.d (.sl [])), (.d (.b false))] [.v (.d (.i .i64 (.negSucc 0)))] := fact_of (k := 1000) _ (by kernel_rfl) fn
theorem f768 : Fact F 254 [(.d (.sl [])), (.d (.b false))] [.v (.d (.b false))] := fact_of (k := 1000) _ (by kernel_rfl) (fc f767 fn)
theorem f769 : Fact F 203 [(.pe [x47, x48] 0), (.d x67), (.d x80)] [.v (.d (.sl [])), .v (.d (.b true))] := fact_of (k := 1000) _ (by kernel_rfl) (fc f768 fn)
theorem f770 : Fact F 195 [(.pe [x47, x48] 0), (.d x67), (.bs [x80])] [.v (.d (.b true))] := fact_of (k := 1000) _ (by kernel_rfl) (fc f769 fn)
theorem f771 : Fact F 194 [(.d x67), (.pe [(.pe [x47, x48] 0)] 0), (.pe [(.bs [x80])] 0)] [.v (.d (.b false))] := fact_of (k := 1000) _ (by kernel_rfl) (fc f770 fn)
theorem f772 : Fact F 132 [(.pe [x47, x48] 0), (.d (.sl [x67])), (.d x30)] [.v (.d (.b true))] := fact_of (k := 1000) _ (by kernel_rfl) (fc f727 (fc f771 fn))
theorem f773 : Fact F 61 [(.pe [x47, x48] 0), (.d x67), (.d x30)] [.v (.d (.b true))] := fact_of (k := 1000) _ (by kernel_rfl) (fc f772 fn)
theorem f774 : Fact F 299 [(.d x67), (.pe [x90] 0), x81] [.v (.d (.b false))] := fact_of (k := 1000) _ (by kernel_rfl) (fc f773 fn)
theorem f775 : Fact F 203 [(.pe [x47, x48] 0), (.d x68), (.d x80)] [.v (.d (.sl [])), .v (.d (.b true))] := fact_of (k := 1000) _ (by kernel_rfl) (fc f768 fn)
theorem f776 : Fact F 195 [(.pe [x47, x48] 0), (.d x68), (.bs [x80])] [.v (.d (.b true))] := fact_of (k := 1000) _ (by kernel_rfl) (fc f775 fn)
theorem f777 : Fact F 194 [(.d x68), (.pe [(.pe [x47, x48] 0)] 0), (.pe [(.bs [x80])] 0)] [.v (.d (.b false))] := fact_of (k := 1000) _ (by kernel_rfl) (fc f776 fn)
theorem f778 : Fact F 132 [(.pe [x47, x48] 0), (.d (.sl [x68])), (.d x30)] [.v (.d (.b true))] := fact_of (k := 1000) _ (by kernel_rfl) (fc f727 (fc f777 fn))
theorem f779 : Fact F 61 [(.pe [x47, x48] 0), (.d x68), (.d x30)] [.v (.d (.b true))] := fact_of (k := 1000) _ (by kernel_rfl) (fc f778 fn)
theorem f780 : Fact F 299 [(.d x68), (.pe [x90] 0), x81] [.v (.d (.b false))] := fact_of (k := 1000) _ (by kernel_rfl) (fc f779 fn)
theorem f781 : Fact F 255 [x90, (.d x0), (.d x30)] [.v (.d (.b true))] := fact_of (k := 1000) _ (by kernel_rfl) (fc f759 (fc f766 (fc f774 (fc f780 fn))))
theorem f782 : Fact F 203 [(.pe [x47, x48] 0), (.d x85), (.d x78)] [.v (.d (.sl [x0])), .v (.d (.b true))] := fact_of (k := 1000) _ (by kernel_rfl) (fc f755 (fc f756 (fc f120 (fc f758 (fc f781 fn)))))
theorem f783 : Fact F 195 [(.pe [x47, x48] 0), (.d x85), (.bs [x78, x79])] [.v (.d (.b true))] := fact_of (k := 1000) _ (by kernel_rfl) (fc f782 fn)
theorem f784 : Fact F 250 [(.d x85), (.pe [(.pe [x47, x48] 0)] 0), (.pe [(.bs [x78, x79])] 0)] [.v (.d (.b false))] := fact_of (k := 1000) _ (by kernel_rfl) (fc f783 fn)
theorem f785 : Fact F 95 [(.pe [x47, x48] 0), (.d (.s ⟨#[73, 110, 116]⟩))] [.v (.d x22), .v (.d (.b true))] := fact_of (k := 1000) _ (by kernel_rfl) fn
theorem f786 : Fact F 110 [(.pe [x47, x48] 0), (.d x2)] [.v (.d (.b true))] := fact_of (k := 1000) _ (by kernel_rfl) (fc f785 fn)
theorem f787 : Fact F 199 [(.pe [x47, x48] 0), x91, (.d (.s ⟨#[66, 111, 111, 108]⟩))] [.v (.d x30), .v (.d (.b false))] := fact_of (k := 1000) _ (by kernel_rfl) (fc f786 (fc f785 (fc f33 fn)))
theorem f788 : Fact F 203 [(.pe [x47, x48] 0), (.d x87), (.d x78)] [.v (.d (.sl [])), .v (.d (.b false))] := fact_of (k := 1000) _ (by kernel_rfl) (fc f787 fn)
theorem f789 : Fact F 199 [(.pe [x47, x48] 0), x91, (.d (.s ⟨#[73, 110, 116]⟩))] [.v (.d x2), .v (.d (.b true))] := fact_of (k := 1000) _ (by kernel_rfl) (fc f216 fn)
theorem f790 : Fact F 59 [(.d x87), (.d x0)] [.v (.d (.sl [x67, x68]))] := fact_of (k := 1000) _ (by kernel_rfl) (fc f647 (fc f760 (fc f620 (fc f623 (fc f619 (fc f761 (fc f762 (fc f619 (fc f761 (fc f763 (fc f764 (fc f765 fn))))))))))))
theorem f791 : Fact F 299 [(.d x67), (.pe [x92] 0), x81] [.v (.d (.b false))] := fact_of (k := 1000) _ (by kernel_rfl) (fc f773 fn)
theorem f792 : Fact F 299 [(.d x68), (.pe [x92] 0), x81] [.v (.d (.b false))] := fact_of (k := 1000) _ (by kernel_rfl) (fc f779 fn)
theorem f793 : Fact F 255 [x92, (.d x0), (.d x30)] [.v (.d (.b true))] := fact_of (k := 1000) _ (by kernel_rfl) (fc f759 (fc f790 (fc f791 (fc f792 fn))))
theorem f794 : Fact F 203 [(.pe [x47, x48] 0), (.d x87), (.d x79)] [.v (.d (.sl [x0])), .v (.d (.b true))] := fact_of (k := 1000) _ (by kernel_rfl) (fc f789 (fc f756 (fc f120 (fc f758 (fc f793 fn)))))
theorem f795 : Fact F 195 [(.pe [x47, x48] 0), (.d x87), (.bs [x78, x79])] [.v (.d (.b true))] := fact_of (k := 1000) _ (by kernel_rfl) (fc f788 (fc f794 fn))
theorem f796 : Fact F 250 [(.d x87), (.pe [(.pe [x47, x48] 0)] 0), (.pe [(.bs [x78, x79])] 0)] [.v (.d (.b false))] := fact_of (k := 1000) _ (by kernel_rfl) (fc f795 fn)
theorem f797 : Fact F 195 [(.pe [x47, x48] 0), (.d x65), (.bs [x78, x79])] [.v (.d (.b true))] := fact_of (k := 1000) _ (by kernel_rfl) (fc f739 (fc f741 (fc f633 (fc f752 (fc f784 (fc f796 fn))))))
theorem f798 : Fact F 194 [(.d x65), (.pe [(.pe [x47, x48] 0)] 0), (.pe [(.bs [x78, x79])] 0)] [.v (.d (.b false))] := fact_of (k := 1000) _ (by kernel_rfl) (fc f797 fn)
theorem f799 : Fact F 132 [(.pe [x47, x48] 0), (.d (.sl [x65])), (.d x58)] [.v (.d (.b true))] := fact_of (k := 1000) _ (by kernel_rfl) (fc f737 (fc f798 fn))
theorem f800 : Fact F 67 [(.pe [x47, x48] 0), (.d x53), (.d x58)] [.v (.d (.b true))] := fact_of (k := 1000) _ (by kernel_rfl) (fc f648 (fc f799 fn))
theorem f801 : Fact F 194 [(.d x85), (.pe [(.pe [x47, x48] 0)] 0), (.pe [(.bs [x78, x79])] 0)] [.v (.d (.b false))] := fact_of (k := 1000) _ (by kernel_rfl) (fc f783 fn)
theorem f802 : Fact F 132 [(.pe [x47, x48] 0), (.d (.sl [x85])), (.d x58)] [.v (.d (.b true))] := fact_of (k := 1000) _ (by kernel_rfl) (fc f737 (fc f801 fn))
theorem f803 : Fact F 61 [(.pe [x47, x48] 0), (.d x85), (.d x58)] [.v (.d (.b true))] := fact_of (k := 1000) _ (by kernel_rfl) (fc f802 fn)
theorem f804 : Fact F 206 [(.d x85), (.pe [(.pe [x47, x48] 0)] 0), x94] [.v (.d (.b false))] := fact_of (k := 1000) _ (by kernel_rfl) (fc f803 fn)
theorem f805 : Fact F 194 [(.d x87), (.pe [(.pe [x47, x48] 0)] 0), (.pe [(.bs [x78, x79])] 0)] [.v (.d (.b false))] := fact_of (k := 1000) _ (by kernel_rfl) (fc f795 fn)
theorem f806 : Fact F 132 [(.pe [x47, x48] 0), (.d (.sl [x87])), (.d x58)] [.v (.d (.b true))] := fact_of (k := 1000) _ (by kernel_rfl) (fc f737 (fc f805 fn))
theorem f807 : Fact F 61 [(.pe [x47, x48] 0), (.d x87), (.d x58)] [.v (.d (.b true))] := fact_of (k := 1000) _ (by kernel_rfl) (fc f806 fn)
theorem f808 : Fact F 206 [(.d x87), (.pe [(.pe [x47, x48] 0)] 0), x94] [.v (.d (.b false))] := fact_of (k := 1000) _ (by kernel_rfl) (fc f807 fn)
theorem f809 : Fact F 302 [(.d x30)] [.v (.d (.b true))] := fact_of (k := 1000) _ (by kernel_rfl) (fc f29 fn)
theorem f810 : Fact F 204 [(.pe [x47, x48] 0), (.d x85), (.d x78)] [.v (.d (.sl [x0])), .v (.d (.sl [x95])), .v (.d (.b true))] := fact_of (k := 1000) _ (by kernel_rfl) (fc f755 (fc f756 (fc f120 (fc f758 (fc f809 (fc f766 fn))))))
theorem f811 : Fact F 204 [(.pe [x47, x48] 0), (.d x67), (.d x80)] [.v (.d (.sl [])), .v (.d (.sl [])), .v (.d (.b true))] := fact_of (k := 1000) _ (by kernel_rfl) (fc f768 fn)
theorem f812 : Fact F 138 [(.pe [x47, x48] 0), (.d x67), (.d x30), (.d (.sl [x80]))] [.v (.d x96)] := fact_of (k := 1000) _ (by kernel_rfl) (fc f769 (fc f811 fn))
theorem f813 : Fact F 204 [(.pe [x47, x48] 0), (.d x68), (.d x80)] [.v (.d (.sl [])), .v (.d (.sl [])), .v (.d (.b true))] := fact_of (k := 1000) _ (by kernel_rfl) (fc f768 fn)
theorem f814 : Fact F 138 [(.pe [x47, x48] 0), (.d x68), (.d x30), (.d (.sl [x80]))] [.v (.d x96)] := fact_of (k := 1000) _ (by kernel_rfl) (fc f775 (fc f813 fn))
theorem f815 : Fact F 68 [(.pe [x47, x48] 0), (.d x95)] [.v (.d x97)] := fact_of (k := 1000) _ (by kernel_rfl) (fc f727 (fc f812 (fc f814 fn)))
theorem f816 : Fact F 138 [(.pe [x47, x48] 0), (.d x85), (.d x58), (.d (.sl [x78, x79]))] [.v (.d x98)] := fact_of (k := 1000) _ (by kernel_rfl) (fc f782 (fc f810 (fc f815 fn)))
theorem f817 : Fact F 204 [(.pe [x47, x48] 0), (.d x87), (.d x79)] [.v (.d (.sl [x0])), .v (.d (.sl [x95])), .v (.d (.b true))] := fact_of (k := 1000) _ (by kernel_rfl) (fc f789 (fc f756 (fc f120 (fc f758 (fc f809 (fc f790 fn))))))
theorem f818 : Fact F 138 [(.pe [x47, x48] 0), (.d x87), (.d x58), (.d (.sl [x78, x79]))] [.v (.d x99)] := fact_of (k := 1000) _ (by kernel_rfl) (fc f788 (fc f794 (fc f817 (fc f815 fn))))
theorem f819 : Fact F 138 [(.pe [x47, x48] 0), (.d x65), (.d x58), (.d (.sl [x78, x79]))] [.v (.d x100)] := fact_of (k := 1000) _ (by kernel_rfl) (fc f739 (fc f741 (fc f633 (fc f752 (fc f804 (fc f808 (fc f816 (fc f818 fn))))))))
theorem f820 : Fact F 68 [(.pe [x47, x48] 0), (.d x93)] [.v (.d x101)] := fact_of (k := 1000) _ (by kernel_rfl) (fc f737 (fc f819 fn))
theorem f821 : Fact F 25 [(.pe [x47, x48] 0), (.d x53), (.d x58)] [.v (.d x101), .v (.d (.b true))] := fact_of (k := 1000) _ (by kernel_rfl) (fc f800 (fc f648 (fc f820 fn)))
theorem f822 : Fact F 298 [(.d x0)] [.v (.d (.b false))] := fact_of (k := 1000) _ (by kernel_rfl) (fc f110 fn)
theorem f823 : Fact F 255 [x103, (.d x50), (.d x0)] [.v (.d (.b false))] := fact_of (k := 1000) _ (by kernel_rfl) (fc f822 fn)
theorem f824 : Fact F 203 [(.pe [x47, x48] 0), (.d x78), (.d x65)] [.v (.d (.sl [])), .v (.d (.b false))] := fact_of (k := 1000) _ (by kernel_rfl) (fc f756 (fc f120 (fc f758 (fc f823 fn))))
theorem f825 : Fact F 195 [(.pe [x47, x48] 0), (.d x78), (.bs [x65])] [.v (.d (.b false))] := fact_of (k := 1000) _ (by kernel_rfl) (fc f824 (fc f717 fn))
theorem f826 : Fact F 194 [(.d x78), (.pe [(.pe [x47, x48] 0)] 0), (.pe [(.bs [x65])] 0)] [.v (.d (.b true))] := fact_of (k := 1000) _ (by kernel_rfl) (fc f825 fn)
theorem f827 : Fact F 132 [(.pe [x47, x48] 0), (.d (.sl [x78, x79])), (.d x53)] [.v (.d (.b false))] := fact_of (k := 1000) _ (by kernel_rfl) (fc f648 (fc f826 fn))
theorem f828 : Fact F 67 [(.pe [x47, x48] 0), (.d x58), (.d x53)] [.v (.d (.b false))] := fact_of (k := 1000) _ (by kernel_rfl) (fc f737 (fc f827 fn))
theorem f829 : Fact F 25 [(.pe [x47, x48] 0), (.d x58), (.d x53)] [.v (.d x104), .v (.d (.b false))] := fact_of (k := 1000) _ (by kernel_rfl) (fc f828 fn)
theorem f830 : Fact F 27 [(.d x96)] [.v (.d x96)] := fact_of (k := 1000) _ (by kernel_rfl) fn
theorem f831 : Fact F 27 [(.d x97)] [.v (.d x97)] := fact_of (k := 1000) _ (by kernel_rfl) (fc f830 (fc f830 fn))
theorem f832 : Fact F 27 [(.d x98)] [.v (.d x98)] := fact_of (k := 1000) _ (by kernel_rfl) (fc f831 fn)
theorem f833 : Fact F 27 [(.d x99)] [.v (.d x99)] := fact_of (k := 1000) _ (by kernel_rfl) (fc f831 fn)
theorem f834 : Fact F 27 [(.d x100)] [.v (.d x100)] := fact_of (k := 1000) _ (by kernel_rfl) (fc f832 (fc f833 fn))
theorem f835 : Fact F 27 [(.d x101)] [.v (.d x101)] := fact_of (k := 1000) _ (by kernel_rfl) (fc f834 fn)
theorem f836 : Fact F 69 [(.d x96)] [.v (.d (.i .i64 (.ofNat 1)))] := fact_of (k := 1000) _ (by kernel_rfl) fn
theorem f837 : Fact F 69 [(.d x97)] [.v (.d (.i .i64 (.ofNat 3)))] := fact_of (k := 1000) _ (by kernel_rfl) (fc f836 (fc f836 fn))
theorem f838 : Fact F 69 [(.d x98)] [.v (.d (.i .i64 (.ofNat 4)))] := fact_of (k := 1000) _ (by kernel_rfl) (fc f837 fn)
theorem f839 : Fact F 69 [(.d x99)] [.v (.d (.i .i64 (.ofNat 4)))] := fact_of (k := 1000) _ (by kernel_rfl) (fc f837 fn)
theorem f840 : Fact F 69 [(.d x100)] [.v (.d (.i .i64 (.ofNat 9)))] := fact_of (k := 1000) _ (by kernel_rfl) (fc f838 (fc f839 fn))
theorem f841 : Fact F 69 [(.d x101)] [.v (.d (.i .i64 (.ofNat 10)))] := fact_of (k := 1000) _ (by kernel_rfl) (fc f840 fn)
theorem f842 : Fact F 70 [(.d x96)] [.v (.d (.i .i64 (.ofNat 1)))] := fact_of (k := 1000) _ (by kernel_rfl) fn
theorem f843 : Fact F 70 [(.d x97)] [.v (.d (.i .i64 (.ofNat 2)))] := fact_of (k := 1000) _ (by kernel_rfl) (fc f842 (fc f842 fn))
theorem f844 : Fact F 70 [(.d x98)] [.v (.d (.i .i64 (.ofNat 3)))] := fact_of (k := 1000) _ (by kernel_rfl) (fc f843 fn)
theorem f845 : Fact F 70 [(.d x99)] [.v (.d (.i .i64 (.ofNat 3)))] := fact_of (k := 1000) _ (by kernel_rfl) (fc f843 fn)
theorem f846 : Fact F 70 [(.d x100)] [.v (.d (.i .i64 (.ofNat 4)))] := fact_of (k := 1000) _ (by kernel_rfl) (fc f844 (fc f845 fn))
theorem f847 : Fact F 70 [(.d x101)] [.v (.d (.i .i64 (.ofNat 5)))] := fact_of (k := 1000) _ (by kernel_rfl) (fc f846 fn)
theorem f848 : Fact F 139 [(.d (.i .i64 (.ofNat 0)))] [.v (.d (.b true))] := fact_of (k := 1000) _ (by kernel_rfl) fn
theorem f849 : Fact F 139 [(.d (.i .i64 (.ofNat 1)))] [.v (.d (.b true))] := fact_of (k := 1000) _ (by kernel_rfl) fn
theorem f850 : Fact F 140 [(.d x0)] [.v (.d (.b false))] := fact_of (k := 1000) _ (by kernel_rfl) (fc f109 fn)
theorem f851 : Fact F 71 [(.d x96)] [.v (.d (.b true))] := fact_of (k := 1000) _ (by kernel_rfl) (fc f849 (fc f848 fn))
theorem f852 : Fact F 142 [(.d x96)] [.v (.d (.b false))] := fact_of (k := 1000) _ (by kernel_rfl) (fc f851 fn)
theorem f853 : Fact F 71 [(.d x97)] [.v (.d (.b true))] := fact_of (k := 1000) _ (by kernel_rfl) (fc f848 (fc f848 (fc f852 (fc f852 fn))))
theorem f854 : Fact F 142 [(.d x97)] [.v (.d (.b false))] := fact_of (k := 1000) _ (by kernel_rfl) (fc f853 fn)
theorem f855 : Fact F 71 [(.d x98)] [.v (.d (.b true))] := fact_of (k := 1000) _ (by kernel_rfl) (fc f849 (fc f848 (fc f850 (fc f854 fn))))
theorem f856 : Fact F 142 [(.d x98)] [.v (.d (.b false))] := fact_of (k := 1000) _ (by kernel_rfl) (fc f855 fn)
theorem f857 : Fact F 139 [(.d (.i .i64 (.ofNat 2)))] [.v (.d (.b true))] := fact_of (k := 1000) _ (by kernel_rfl) fn
theorem f858 : Fact F 71 [(.d x99)] [.v (.d (.b true))] := fact_of (k := 1000) _ (by kernel_rfl) (fc f857 (fc f848 (fc f850 (fc f854 fn))))
theorem f859 : Fact F 142 [(.d x99)] [.v (.d (.b false))] := fact_of (k := 1000) _ (by kernel_rfl) (fc f858 fn)
theorem f860 : Fact F 71 [(.d x100)] [.v (.d (.b true))] := fact_of (k := 1000) _ (by kernel_rfl) (fc f848 (fc f849 (fc f856 (fc f859 fn))))
theorem f861 : Fact F 142 [(.d x100)] [.v (.d (.b false))] := fact_of (k := 1000) _ (by kernel_rfl) (fc f860 fn)
theorem f862 : Fact F 71 [(.d x101)] [.v (.d (.b true))] := fact_of (k := 1000) _ (by kernel_rfl) (fc f848 (fc f848 (fc f861 fn)))
theorem f863 : Fact F 26 [(.d x101)] [.v (.d x105), .v (.d (.i .i64 (.ofNat 0)))] := fact_of (k := 1000) _ (by kernel_rfl) (fc f841 (fc f847 (fc f862 fn)))
theorem f864 : Fact F 28 [(.d x105)] [.v (.d x101), .v (.d (.i .i64 (.ofNat 0)))] := fact_of (k := 1000) _ (by kernel_rfl) (fc f109 (fc f109 fn))
theorem f865 : Fact F 28 [(.d (.sl []))] [.v (.d x104), .v (.d (.i .i64 (.ofNat 3)))] := fact_of (k := 1000) _ (by kernel_rfl) fn
theorem f866 : Fact F 28 [(.d x106)] [.v (.d x104), .v (.d (.i .i64 (.ofNat 2)))] := fact_of (k := 1000) _ (by kernel_rfl) fn
theorem f867 : Fact F 28 [(.d x107)] [.v (.d x104), .v (.d (.i .i64 (.ofNat 2)))] := fact_of (k := 1000) _ (by kernel_rfl) fn
theorem f868 : Fact F 15 [] [.v (.d x108)] := fact_of (k := 1000) _ (by kernel_rfl) fn
theorem f869 : Fact F 106 [(.d x108)] [.v (.d (.i .i64 (.ofNat 1)))] := fact_of (k := 1000) _ (by kernel_rfl) fn
theorem f870 : Fact F 107 [(.d x108)] [.v (.d (.i .i64 (.ofNat 1)))] := fact_of (k := 1000) _ (by kernel_rfl) fn
theorem f871 : Fact F 173 [(.d x108)] [.v (.d (.b true))] := fact_of (k := 1000) _ (by kernel_rfl) fn
theorem f872 : Fact F 108 [(.d x108)] [.v (.d (.b true))] := fact_of (k := 1000) _ (by kernel_rfl) (fc f871 fn)
theorem f873 : Fact F 47 [(.d x108)] [.v (.d (.i .i64 (.ofNat 0)))] := fact_of (k := 1000) _ (by kernel_rfl) (fc f869 (fc f870 (fc f872 fn)))
theorem f874 : Fact F 109 [(.d x108)] [.v (.d (.sl []))] := fact_of (k := 1000) _ (by kernel_rfl) fn
theorem f875 : Fact F 51 [(.d x108)] [.v (.d (.sl [])), .v (.d (.i .i64 (.ofNat 0)))] := fact_of (k := 1000) _ (by kernel_rfl) (fc f873 (fc f874 (fc f645 fn)))
theorem f876 : Fact F 51 [(.d x2)] [.row 5 [x68] 0 1, .v (.d (.i .i64 (.ofNat 0)))] := fact_of (k := 1000) _ (by kernel_rfl) (fc f203 (fc f204 (fc f642 (fc f644 (fc f645 fn)))))
theorem f877 : Fact F 132 [(.pe [x47, x48] 0), (.d (.sl [])), (.d x2)] [.v (.d (.b true))] := fact_of (k := 1000) _ (by kernel_rfl) (fc f876 fn)
theorem f878 : Fact F 67 [(.pe [x47, x48] 0), (.d x108), (.d x2)] [.v (.d (.b true))] := fact_of (k := 1000) _ (by kernel_rfl) (fc f875 (fc f877 fn))
theorem f879 : Fact F 68 [(.pe [x47, x48] 0), (.d x68)] [.v (.d x104)] := fact_of (k := 1000) _ (by kernel_rfl) (fc f876 fn)
theorem f880 : Fact F 25 [(.pe [x47, x48] 0), (.d x108), (.d x2)] [.v (.d x104), .v (.d (.b true))] := fact_of (k := 1000) _ (by kernel_rfl) (fc f878 (fc f875 (fc f879 fn)))
theorem f881 : Fact F 67 [(.pe [x47, x48] 0), (.d x2), (.d x30)] [.v (.d (.b true))] := fact_of (k := 1000) _ (by kernel_rfl) (fc f876 (fc f778 fn))
theorem f882 : Fact F 68 [(.pe [x47, x48] 0), (.d x109)] [.v (.d x110)] := fact_of (k := 1000) _ (by kernel_rfl) (fc f727 (fc f814 fn))
theorem f883 : Fact F 25 [(.pe [x47, x48] 0), (.d x2), (.d x30)] [.v (.d x110), .v (.d (.b true))] := fact_of (k := 1000) _ (by kernel_rfl) (fc f881 (fc f876 (fc f882 fn)))
theorem f884 : Fact F 48 [(.d x2)] [.v (.d (.b true))] := fact_of (k := 1000) _ (by kernel_rfl) (fc f204 fn)
theorem f885 : Fact F 49 [(.pe [x47, x48] 0), (.d x2)] [.v (.d (.b true))] := fact_of (k := 1000) _ (by kernel_rfl) (fc f786 fn)
theorem f886 : Fact F 50 [(.pe [x47, x48] 0), (.d x2), (.d (.b false))] [.v (.d x2), .v (.d (.i .i64 (.ofNat 0)))] := fact_of (k := 1000) _ (by kernel_rfl) fn
theorem f887 : Fact F 123 [(.d x2), (.d (.b false)), x111] [.v (.d x2)] := fact_of (k := 1000) _ (by kernel_rfl) fn
theorem f888 : Fact F 57 [(.d x68)] [.v (.d x2)] := fact_of (k := 1000) _ (by kernel_rfl) (fc f887 fn)
theorem f889 : Fact F 52 [(.bs [x68])] [.v (.d x2)] := fact_of (k := 1000) _ (by kernel_rfl) (fc f888 fn)
theorem f890 : Fact F 52 [(.bs [])] [.v (.d x108)] := fact_of (k := 1000) _ (by kernel_rfl) fn
theorem f891 : Fact F 195 [(.pe [x47, x48] 0), (.d x68), (.d (.sl []))] [.v (.d (.b false))] := fact_of (k := 1000) _ (by kernel_rfl) (fc f643 fn)
theorem f892 : Fact F 194 [(.d x68), (.pe [(.pe [x47, x48] 0)] 0), (.pe [(.d (.sl []))] 0)] [.v (.d (.b true))] := fact_of (k := 1000) _ (by kernel_rfl) (fc f891 fn)
theorem f893 : Fact F 132 [(.pe [x47, x48] 0), (.d (.sl [x68])), (.d x108)] [.v (.d (.b false))] := fact_of (k := 1000) _ (by kernel_rfl) (fc f875 (fc f892 fn))
theorem f894 : Fact F 61 [(.pe [x47, x48] 0), (.d x68), (.d x108)] [.v (.d (.b false))] := fact_of (k := 1000) _ (by kernel_rfl) (fc f893 fn)
theorem f895 : Fact F 12 [(.pe [x47, x48] 0), (.d x2)] [.v (.d x2), .v (.d (.i .i64 (.ofNat 0)))] := fact_of (k := 1000) _ (by kernel_rfl) (fc f203 (fc f884 (fc f885 (fc f886 (fc f876 (fc f889 (fc f203 (fc f890 (fc f894 (fc f889 fn))))))))))
theorem f896 : Fact F 187 [(.d (.i .i64 (.ofNat 2)))] [.v (.d (.b false))] := fact_of (k := 1000) _ (by kernel_rfl) fn
theorem f897 : Fact F 121 [(.d (.i .i64 (.ofNat 2))), (.d (.i .i64 (.ofNat 2)))] [.v (.d (.i .i64 (.ofNat 0)))] := fact_of (k := 1000) _ (by kernel_rfl) (fc f896 (fc f896 fn))
theorem f898 : Fact F 188 [(.d (.s ⟨#[73, 110, 116]⟩))] [.v (.d (.b false))] := fact_of (k := 1000) _ (by kernel_rfl) fn
theorem f899 : Fact F 122 [(.d (.s ⟨#[73, 110, 116]⟩)), (.d (.s ⟨#[73, 110, 116]⟩))] [.v (.d (.i .i64 (.ofNat 0)))] := fact_of (k := 1000) _ (by kernel_rfl) (fc f898 (fc f898 fn))
theorem f900 : Fact F 56 [(.d x2), (.d x2)] [.v (.d (.i .i64 (.ofNat 0)))] := fact_of (k := 1000) _ (by kernel_rfl) (fc f897 (fc f899 (fc f729 (fc f729 (fc f732 fn)))))
theorem f901 : Fact F 77 [(.d x2), (.d x2)] [.v (.d (.b true))] := fact_of (k := 1000) _ (by kernel_rfl) (fc f900 fn)
theorem f902 : Fact F 82 [(.pe [x47, x48] 0), (.d x2)] [.v (.d (.b true))] := fact_of (k := 1000) _ (by kernel_rfl) (fc f895 (fc f901 fn))
theorem f903 : Fact F 48 [(.d x30)] [.v (.d (.b true))] := fact_of (k := 1000) _ (by kernel_rfl) (fc f29 fn)
theorem f904 : Fact F 49 [(.pe [x47, x48] 0), (.d x30)] [.v (.d (.b true))] := fact_of (k := 1000) _ (by kernel_rfl) fn
theorem f905 : Fact F 50 [(.pe [x47, x48] 0), (.d x30), (.d (.b false))] [.v (.d x30), .v (.d (.i .i64 (.ofNat 0)))] := fact_of (k := 1000) _ (by kernel_rfl) fn
theorem f906 : Fact F 123 [(.d x30), (.d (.b false)), x111] [.v (.d x30)] := fact_of (k := 1000) _ (by kernel_rfl) (fc f715 fn)
theorem f907 : Fact F 57 [(.d x80)] [.v (.d x30)] := fact_of (k := 1000) _ (by kernel_rfl) (fc f906 fn)
theorem f908 : Fact F 52 [(.bs [x80])] [.v (.d x30)] := fact_of (k := 1000) _ (by kernel_rfl) (fc f907 fn)
theorem f909 : Fact F 195 [(.pe [x47, x48] 0), (.d x80), (.d (.sl []))] [.v (.d (.b false))] := fact_of (k := 1000) _ (by kernel_rfl) (fc f725 fn)
theorem f910 : Fact F 194 [(.d x80), (.pe [(.pe [x47, x48] 0)] 0), (.pe [(.d (.sl []))] 0)] [.v (.d (.b true))] := fact_of (k := 1000) _ (by kernel_rfl) (fc f909 fn)
theorem f911 : Fact F 132 [(.pe [x47, x48] 0), (.d (.sl [x80])), (.d x108)] [.v (.d (.b false))] := fact_of (k := 1000) _ (by kernel_rfl) (fc f875 (fc f910 fn))
theorem f912 : Fact F 61 [(.pe [x47, x48] 0), (.d x80), (.d x108)] [.v (.d (.b false))] := fact_of (k := 1000) _ (by kernel_rfl) (fc f911 fn)
theorem f913 : Fact F 12 [(.pe [x47, x48] 0), (.d x30)] [.v (.d x30), .v (.d (.i .i64 (.ofNat 0)))] := fact_of (k := 1000) _ (by kernel_rfl) (fc f26 (fc f903 (fc f904 (fc f905 (fc f727 (fc f908 (fc f26 (fc f890 (fc f912 (fc f908 fn))))))))))
theorem f914 : Fact F 82 [(.pe [x47, x48] 0), (.d x30)] [.v (.d (.b true))] := fact_of (k := 1000) _ (by kernel_rfl) (fc f913 (fc f734 fn))
theorem f915 : Fact F 209 [(.pe [x47, x48] 0), (.d x68), (.d (.sl [x80])), (.d x30), (.d x96)] [.v (.d (.b true))] := fact_of (k := 1000) _ (by kernel_rfl) (fc f813 fn)
theorem f916 : Fact F 147 [(.pe [x47, x48] 0), (.d x109), (.d x110)] [.v (.d (.b true))] := fact_of (k := 1000) _ (by kernel_rfl) (fc f727 (fc f915 fn))
theorem f917 : Fact F 75 [(.pe [x47, x48] 0), (.d x2), (.d x30), (.d x110)] [.v (.d (.b true))] := fact_of (k := 1000) _ (by kernel_rfl) (fc f902 (fc f914 (fc f876 (fc f916 fn))))
theorem f918 : Fact F 69 [(.d x110)] [.v (.d (.i .i64 (.ofNat 2)))] := fact_of (k := 1000) _ (by kernel_rfl) (fc f836 fn)
theorem f919 : Fact F 29 [] [.v (.d (.b true))] := fact_of (k := 1000) _ (by kernel_rfl) (fc f7 (fc f8 (fc f31 (fc f32 (fc f35 (fc f36 (fc f58 (fc f59 (fc f60 (fc f61 (fc f62 (fc f63 (fc f112 (fc f117 (fc f122 (fc f124 (fc f125 (fc f161 (fc f162 (fc f163 (fc f166 (fc f167 (fc f164 (fc f168 (fc f206 (fc f212 (fc f217 (fc f221 (fc f222 (fc f251 (fc f252 (fc f253 (fc f257 (fc f259 (fc f254 (fc f260 (fc f278 (fc f279 (fc f280 (fc f281 (fc f294 (fc f295 (fc f296 (fc f297 (fc f298 (fc f299 (fc f317 (fc f320 (fc f323 (fc f324 (fc f339 (fc f340 (fc f341 (fc f343 (fc f342 (fc f344 (fc f366 (fc f368 (fc f369 (fc f373 (fc f374 (fc f389 (fc f390 (fc f391 (fc f393 (fc f395 (fc f392 (fc f396 (fc f427 (fc f428 (fc f431 (fc f433 (fc f435 (fc f436 (fc f459 (fc f460 (fc f461 (fc f462 (fc f463 (fc f464 (fc f465 (fc f466 (fc f489 (fc f496 (fc f499 (fc f505 (fc f500 (fc f522 (fc f523 (fc f524 (fc f527 (fc f530 (fc f525 (fc f535 (fc f536 (fc f563 (fc f2 (fc f45 (fc f883 (fc f2 (fc f45 (fc f917 (fc f918 fn)))))))))))))))))))))))))))))))))))))))))))))))))))))))))))))))))))))))))))))))))))))))))))))))))))))))
theorem f920 : Fact F 187 [(.d (.i .i64 (.ofNat 5)))] [.v (.d (.b false))] := fact_of (k := 1000) _ (by kernel_rfl) fn
theorem f921 : Fact F 121 [(.d (.i .i64 (.ofNat 5))), (.d (.i .i64 (.ofNat 5)))] [.v (.d (.i .i64 (.ofNat 0)))] := fact_of (k := 1000) _ (by kernel_rfl) (fc f920 (fc f920 fn))
theorem f922 : Fact F 56 [(.d x0), (.d x0)] [.v (.d (.i .i64 (.ofNat 0)))] := fact_of (k := 1000) _ (by kernel_rfl) (fc f921 (fc f731 (fc f729 (fc f729 (fc f732 fn)))))
theorem f923 : Fact F 77 [(.d x0), (.d x0)] [.v (.d (.b true))] := fact_of (k := 1000) _ (by kernel_rfl) (fc f922 fn)
theorem f924 : Fact F 30 [(.d x96), (.d x96)] [.v (.d (.b true))] := fact_of (k := 1000) _ (by kernel_rfl) fn
theorem f925 : Fact F 30 [(.d x97), (.d x97)] [.v (.d (.b true))] := fact_of (k := 1000) _ (by kernel_rfl) (fc f924 (fc f924 fn))
theorem f926 : Fact F 30 [(.d x98), (.d x98)] [.v (.d (.b true))] := fact_of (k := 1000) _ (by kernel_rfl) (fc f923 (fc f925 fn))
theorem f927 : Fact F 30 [(.d x99), (.d x99)] [.v (.d (.b true))] := fact_of (k := 1000) _ (by kernel_rfl) (fc f923 (fc f925 fn))
theorem f928 : Fact F 30 [(.d x100), (.d x100)] [.v (.d (.b true))] := fact_of (k := 1000) _ (by kernel_rfl) (fc f926 (fc f927 fn))
theorem f929 : Fact F 30 [(.d x101), (.d x101)] [.v (.d (.b true))] := fact_of (k := 1000) _ (by kernel_rfl) (fc f928 fn)
theorem f930 : Fact F 5 [] [.v (.d (.b true))] := fact_of (k := 1000) _ (by kernel_rfl) (fc f7 (fc f8 (fc f31 (fc f32 (fc f35 (fc f36 (fc f58 (fc f59 (fc f60 (fc f61 (fc f62 (fc f63 (fc f112 (fc f117 (fc f122 (fc f124 (fc f125 (fc f161 (fc f162 (fc f163 (fc f166 (fc f167 (fc f164 (fc f168 (fc f206 (fc f212 (fc f217 (fc f221 (fc f222 (fc f251 (fc f252 (fc f253 (fc f257 (fc f259 (fc f254 (fc f260 (fc f278 (fc f279 (fc f280 (fc f281 (fc f294 (fc f295 (fc f296 (fc f297 (fc f298 (fc f299 (fc f317 (fc f320 (fc f323 (fc f324 (fc f339 (fc f340 (fc f341 (fc f343 (fc f342 (fc f344 (fc f366 (fc f368 (fc f369 (fc f373 (fc f374 (fc f389 (fc f390 (fc f391 (fc f393 (fc f395 (fc f392 (fc f396 (fc f427 (fc f428 (fc f431 (fc f433 (fc f435 (fc f436 (fc f459 (fc f460 (fc f461 (fc f462 (fc f463 (fc f464 (fc f465 (fc f466 (fc f489 (fc f496 (fc f499 (fc f505 (fc f500 (fc f522 (fc f523 (fc f524 (fc f527 (fc f530 (fc f525 (fc f535 (fc f536 (fc f563 (fc f0 (fc f2 (fc f564 (fc f565 (fc f1 (fc f566 (fc f567 (fc f45 (fc f1 (fc f568 (fc f569 (fc f45 (fc f1 (fc f570 (fc f571 (fc f572 (fc f821 (fc f829 (fc f835 (fc f863 (fc f864 (fc f865 (fc f866 (fc f867 (fc f868 (fc f880 (fc f919 (fc f929 fn))))))))))))))))))))))))))))))))))))))))))))))))))))))))))))))))))))))))))))))))))))))))))))))))))))))))))))))))))))))))))))
end Tm.L5
