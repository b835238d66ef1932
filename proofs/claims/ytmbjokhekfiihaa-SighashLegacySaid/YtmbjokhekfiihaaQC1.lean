/- Laws that the last text of this claim uses, part 1: written for it, merged by program. -/
import Derived.KernelRfl
import Derived.SizedLaws
import Derived.Test.YtmbjokhekfiihaaProg
import Derived.Test.YtmbjokhekfiihaaVcF
import Derived.Test.YtmbjokhekfiihaaVcJ
import Derived.Test.YtmbjokhekfiihaaVcR
set_option linter.unusedSimpArgs false
set_option linter.unusedVariables false
set_option linter.constructorNameAsVariable false
namespace Go.Proofs
open Go.Vc
/- strongbox/strongboxlaw12.SighashLegacy: entry 10 -/
def c3 : List Vc.Node := [
  .ret [.t 4],
  .ret [.t 4],
  .reg (.q (some 23) none (.ldN 4 (.tmp 2)) (.q (some 24) none (.fadr 0 (.tmp 3)) (.q (some 25) none (.ld1 (.tmp 24)) (.q (some 26) none (.mov (.tmp 7)) (.q (some 27) none (.fadr 1 (.tmp 3)) (.q (some 28) none (.ld1 (.tmp 27)) (.q (some 30) none (.ldN 4 (.tmp 2)) (.q (some 31) none (.fadr 0 (.tmp 3)) (.q (some 32) none (.ld1 (.tmp 31)) (.q (some 33) none (.mov (.tmp 5)) (.q (some 34) none (.fadr 1 (.tmp 3)) (.q (some 35) none (.ld1 (.tmp 34)) (.l (some 29) none (.call 12 [(.tmp 23), (.tmp 25), (.tmp 26), (.tmp 28)]) [⟨35, none, (.ld1 (.tmp 34))⟩, ⟨32, none, (.ld1 (.tmp 31))⟩, ⟨30, none, (.ldN 4 (.tmp 2))⟩] (.l (some 36) none (.call 13 [(.tmp 30), (.tmp 32), (.tmp 33), (.tmp 35)]) [] (.q (some 37) none (.eqA false [(32, .i .u8)] (.tmp 29) (.tmp 36)) (.q (some 38) none (.mov (.tmp 37)) (.q (some 39) (some (38, true)) (.mov (.tmp 8)) (.q (some 40) (some (38, true)) (.mov (.tmp 5)) (.l (some 41) (some (38, true)) (.call 14 [(.tmp 39), (.tmp 40)]) [] (.q (some 42) none (.pick (.tmp 38) (.tmp 41) (.const (.bool false))) (.q (some 43) none (.mov (.tmp 42)) (.q (some 44) (some (43, true)) (.ldN 4 (.tmp 2)) (.q (some 45) (some (43, true)) (.ldN 4 (.tmp 6)) (.l (some 46) (some (43, true)) (.call 15 [(.tmp 44), (.tmp 45)]) [] (.q (some 47) none (.pick (.tmp 43) (.tmp 46) (.const (.bool false))) (.q (some 48) none (.mov (.tmp 47)) (.q (some 49) (some (48, true)) (.fadr 1 (.tmp 3)) (.q (some 50) (some (48, true)) (.ld1 (.tmp 49)) (.q (some 52) (some (48, true)) (.fadr 1 (.tmp 3)) (.q (some 53) (some (48, true)) (.ld1 (.tmp 52)) (.l (some 51) (some (48, true)) (.call 16 [(.tmp 50)]) [⟨53, (some (48, true)), (.ld1 (.tmp 52))⟩] (.l (some 54) (some (48, true)) (.call 17 [(.tmp 53)]) [] (.q (some 55) (some (48, true)) (.eqB false (.tmp 51) (.tmp 54)) (.q (some 56) none (.pick (.tmp 48) (.tmp 55) (.const (.bool false))) (.q (some 4) none (.mov (.tmp 56)) .done))))))))))))))))))))))))))))))))))) true 1 [4],
  .reg (.q (some 19) none (.mov (.tmp 5)) (.l (some 20) none (.call 11 [(.tmp 19)]) [] (.q (some 18) none (.mov (.tmp 20)) (.q (some 21) none (.ext 0 (.tmp 18)) (.q (some 22) none (.ext 1 (.tmp 18)) (.q (some 7) none (.mov (.tmp 21)) (.q (some 8) none (.mov (.tmp 22)) .done))))))) false 2 [2, 3, 5, 6, 7, 8],
  .reg (.q (some 16) none (.ldN 4 (.tmp 2)) (.l (some 17) none (.call 10 [(.tmp 16)]) [] (.l (some 6) none (.alloc 26 [(1, (.int .i32 0)), (2, (.slice none 0 0)), (1, (.int .u32 0))]) [] (.l none none (.stN 4 (.tmp 6) (.tmp 17)) [] .done)))) false 3 [2, 3, 5, 6],
  .reg (.q (some 11) none (.ldN 4 (.tmp 2)) (.q (some 13) none (.fadr 2 (.tmp 3)) (.q (some 14) none (.ld1 (.tmp 13)) (.l (some 12) none (.call 8 [(.tmp 11)]) [⟨14, none, (.ld1 (.tmp 13))⟩] (.l (some 15) none (.call 9 [(.tmp 14)]) [] (.l none none (.stN 4 (.tmp 2) (.tmp 12)) [] (.q (some 5) none (.mov (.tmp 15)) .done))))))) true 4 [2, 3, 5],
  .ret [.t 4],
  .reg (.q (some 4) none (.mov (.const (.bool false))) .done) false 6 [4],
  .cnd (.tmp 10) 7 5,
  .reg (.l (some 9) none (.call 7 []) [] (.q (some 10) none (.not (.tmp 9)) .done)) false 8 [2, 3, 10],
  .reg (.l (some 2) none (.box 26 (.tmp 0)) [] (.l (some 3) none (.box 29 (.tmp 1)) [] (.q (some 4) none (.mov (.const (.bool false))) .done))) false 9 [2, 3]
  ]
theorem c3_ok : cfgL Try.prog 3 = some (57, 10, c3.map Vc.Node.bare) := by kernel_rfl
/- strongbox/strongboxlaw12.awake: entry 4 -/
def c7 : List Vc.Node := [
  .ret [.t 0],
  .ret [.t 0],
  .reg (.q (some 5) none (.ldN 4 (.tmp 1)) (.l (some 6) none (.call 12 [(.tmp 5), (.const (.int .i64 0)), (.const (.slice none 0 0)), (.const (.int .u8 3))]) [] (.q (some 7) none (.bld [.x 1 (.const (.int .u8 1)), .z [(31, (.int .u8 0))]]) (.q (some 8) none (.eqA false [(32, .i .u8)] (.tmp 6) (.tmp 7)) (.q (some 9) none (.mov (.tmp 8)) (.q (some 10) (some (9, true)) (.ldN 4 (.tmp 1)) (.l (some 11) (some (9, true)) (.call 12 [(.tmp 10), (.const (.int .i64 0)), (.const (.slice none 0 0)), (.const (.int .u8 1))]) [] (.q (some 12) (some (9, true)) (.bld [.x 1 (.const (.int .u8 1)), .z [(31, (.int .u8 0))]]) (.q (some 13) (some (9, true)) (.eqA true [(32, .i .u8)] (.tmp 11) (.tmp 12)) (.q (some 14) none (.pick (.tmp 9) (.tmp 13) (.const (.bool false))) (.q (some 15) none (.mov (.tmp 14)) (.l (some 16) (some (15, true)) (.call 16 [(.const (.int .u8 131))]) [] (.q (some 17) none (.pick (.tmp 15) (.tmp 16) (.const (.bool false))) (.q (some 18) none (.mov (.tmp 17)) (.l (some 19) (some (18, true)) (.call 16 [(.const (.int .u8 4))]) [] (.q (some 20) (some (18, true)) (.not (.tmp 19)) (.q (some 21) none (.pick (.tmp 18) (.tmp 20) (.const (.bool false))) (.q (some 0) none (.mov (.tmp 21)) .done)))))))))))))))))) false 1 [0],
  .reg (.q (some 2) none (.bld [.z [(32, (.int .u8 0)), (1, (.int .u32 0)), (1, (.slice none 0 0)), (1, (.int .u32 0)), (1, (.slice none 0 0))]]) (.l (some 3) none (.bldS 50 36 [(.tmp 2)]) [] (.q (some 4) none (.bld [.z [(1, (.int .i32 0))], .x 1 (.tmp 3), .z [(1, (.slice none 0 0)), (1, (.int .u32 0))]]) (.l (some 1) none (.alloc 26 [(1, (.int .i32 0)), (2, (.slice none 0 0)), (1, (.int .u32 0))]) [] (.l none none (.stN 4 (.tmp 1) (.tmp 4)) [] .done))))) false 2 [1],
  .reg (.q (some 0) none (.mov (.const (.bool false))) .done) false 3 []
  ]
theorem c7_ok : cfgL Try.prog 7 = some (22, 4, c7.map Vc.Node.bare) := by kernel_rfl
/- strongbox/strongboxlaw12.few: entry 3 -/
def c8 : List Vc.Node := [
  .ret [.cN 2 4],
  .ret [.cN 2 4],
  .reg (.q (some 3) none (.ldN 4 (.tmp 1)) (.l (some 4) none (.call 18 [(.tmp 3), (.const (.int .i64 5)), (.const (.int .i64 300))]) [] (.l none none (.stN 4 (.tmp 2) (.tmp 4)) [] .done))) false 1 [2],
  .reg (.l (some 1) none (.box 26 (.tmp 0)) [] (.l (some 2) none (.alloc 26 [(1, (.int .i32 0)), (2, (.slice none 0 0)), (1, (.int .u32 0))]) [] .done)) false 2 [1, 2]
  ]
theorem c8_ok : cfgL Try.prog 8 = some (5, 3, c8.map Vc.Node.bare) := by kernel_rfl
/- strongbox/strongboxlaw12.short: entry 7 -/
def c9 : List Vc.Node := [
  .ret [.t 2],
  .ret [.t 2],
  .reg (.q (some 8) none (.mov (.tmp 0)) (.q (some 2) none (.mov (.tmp 8)) .done)) false 1 [2],
  .ret [.t 2],
  .reg (.q (some 6) none (.mov (.tmp 0)) (.q (some 7) none (.slcS 1 (.tmp 6) none (some (.const (.int .i64 300)))) (.q (some 2) none (.mov (.tmp 7)) .done))) false 3 [2],
  .cnd (.tmp 5) 4 2,
  .reg (.q (some 3) none (.mov (.tmp 0)) (.q (some 4) none (.len (.tmp 3)) (.q (some 5) none (.bin .gtr (.tmp 4) (.const (.int .i64 300))) .done))) false 5 [0, 5],
  .reg (.q (some 2) none (.mov (.const (.slice none 0 0))) .done) false 6 [0]
  ]
theorem c9_ok : cfgL Try.prog 9 = some (9, 7, c9.map Vc.Node.bare) := by kernel_rfl
/- strongbox/strongboxref09.Copy: entry 17 -/
def c10 : List Vc.Node := [
  .ret [.cN 2 4],
  .ret [.cN 2 4],
  .reg (.q (some 66) none (.ldN 4 (.tmp 3)) (.l none none (.stN 4 (.tmp 2) (.tmp 66)) [] .done)) false 1 [2],
  .jmp 7,
  .reg (.q (some 45) none (.mov (.tmp 6)) (.q (some 46) none (.bin .add (.tmp 45) (.const (.int .i64 1))) (.q (some 6) none (.mov (.tmp 46)) .done))) false 3 [1, 2, 3, 6],
  .reg (.q (some 47) none (.fadr 2 (.tmp 3)) (.q (some 48) none (.ld1 (.tmp 47)) (.q (some 49) none (.fadr 2 (.tmp 1)) (.q (some 50) none (.ld1 (.tmp 49)) (.q (some 51) none (.mov (.tmp 6)) (.q (some 52) none (.iadrS 2 (.tmp 50) (.tmp 51)) (.q (some 53) none (.fadr 0 (.tmp 52)) (.q (some 54) none (.ld1 (.tmp 53)) (.q (some 55) none (.fadr 2 (.tmp 1)) (.q (some 56) none (.ld1 (.tmp 55)) (.q (some 57) none (.mov (.tmp 6)) (.q (some 58) none (.iadrS 2 (.tmp 56) (.tmp 57)) (.q (some 59) none (.fadr 1 (.tmp 58)) (.q (some 60) none (.ld1 (.tmp 59)) (.l (some 61) none (.call 21 [(.tmp 60)]) [⟨54, none, (.ld1 (.tmp 53))⟩, ⟨50, none, (.ld1 (.tmp 49))⟩, ⟨48, none, (.ld1 (.tmp 47))⟩] (.q (some 62) none (.bld [.x 1 (.tmp 54), .x 1 (.tmp 61)]) (.l (some 63) none (.bldS 54 2 [(.tmp 62)]) [⟨48, none, (.ld1 (.tmp 47))⟩] (.l (some 64) none (.app 54 2 32 [(1, (.int .i64 0)), (1, (.slice none 0 0))] (.tmp 48) (.tmp 63)) [] (.q (some 65) none (.fadr 2 (.tmp 3)) (.l none none (.st1 (.tmp 65) (.tmp 64)) [] .done)))))))))))))))))))) true 4 [1, 2, 3, 6],
  .cnd (.tmp 44) 5 2,
  .reg (.q (some 40) none (.mov (.tmp 6)) (.q (some 41) none (.fadr 2 (.tmp 1)) (.q (some 42) none (.ld1 (.tmp 41)) (.q (some 43) none (.len (.tmp 42)) (.q (some 44) none (.bin .lss (.tmp 40) (.tmp 43)) .done))))) false 6 [1, 2, 3, 6, 44],
  .reg (.q (some 6) none (.mov (.const (.int .i64 0))) .done) false 7 [1, 2, 3, 6],
  .jmp 14,
  .reg (.q (some 17) none (.mov (.tmp 4)) (.q (some 18) none (.bin .add (.tmp 17) (.const (.int .i64 1))) (.q (some 4) none (.mov (.tmp 18)) .done))) false 9 [1, 2, 3, 4],
  .reg (.q (some 24) none (.fadr 1 (.tmp 3)) (.q (some 25) none (.ld1 (.tmp 24)) (.q (some 26) none (.fadr 0 (.tmp 5)) (.q (some 27) none (.ldN 33 (.tmp 26)) (.q (some 28) none (.fadr 33 (.tmp 5)) (.q (some 29) none (.ld1 (.tmp 28)) (.q (some 31) none (.fadr 34 (.tmp 5)) (.q (some 32) none (.ld1 (.tmp 31)) (.q (some 33) none (.fadr 35 (.tmp 5)) (.q (some 34) none (.ld1 (.tmp 33)) (.l (some 30) none (.call 21 [(.tmp 29)]) [⟨34, none, (.ld1 (.tmp 33))⟩, ⟨32, none, (.ld1 (.tmp 31))⟩, ⟨27, none, (.ldN 33 (.tmp 26))⟩, ⟨25, none, (.ld1 (.tmp 24))⟩] (.l (some 35) none (.call 22 [(.tmp 34)]) [⟨32, none, (.ld1 (.tmp 31))⟩, ⟨27, none, (.ldN 33 (.tmp 26))⟩, ⟨25, none, (.ld1 (.tmp 24))⟩] (.q (some 36) none (.bld [.x 33 (.tmp 27), .x 1 (.tmp 30), .x 1 (.tmp 32), .x 1 (.tmp 35)]) (.l (some 37) none (.bldS 50 36 [(.tmp 36)]) [⟨25, none, (.ld1 (.tmp 24))⟩] (.l (some 38) none (.app 50 36 96 [(32, (.int .u8 0)), (1, (.int .u32 0)), (1, (.slice none 0 0)), (1, (.int .u32 0)), (1, (.slice none 0 0))] (.tmp 25) (.tmp 37)) [] (.q (some 39) none (.fadr 1 (.tmp 3)) (.l none none (.st1 (.tmp 39) (.tmp 38)) [] .done))))))))))))))))) true 10 [1, 2, 3, 4],
  .reg (.q (some 19) none (.fadr 1 (.tmp 1)) (.q (some 20) none (.ld1 (.tmp 19)) (.q (some 21) none (.mov (.tmp 4)) (.q (some 22) none (.iadrS 36 (.tmp 20) (.tmp 21)) (.q (some 23) none (.ldN 36 (.tmp 22)) (.l (some 5) none (.alloc 50 [(32, (.int .u8 0)), (1, (.int .u32 0)), (1, (.slice none 0 0)), (1, (.int .u32 0)), (1, (.slice none 0 0))]) [] (.l none none (.stN 36 (.tmp 5) (.tmp 23)) [] .done))))))) false 11 [1, 2, 3, 4, 5],
  .cnd (.tmp 16) 12 8,
  .reg (.q (some 12) none (.mov (.tmp 4)) (.q (some 13) none (.fadr 1 (.tmp 1)) (.q (some 14) none (.ld1 (.tmp 13)) (.q (some 15) none (.len (.tmp 14)) (.q (some 16) none (.bin .lss (.tmp 12) (.tmp 15)) .done))))) false 13 [1, 2, 3, 4, 16],
  .reg (.q (some 4) none (.mov (.const (.int .i64 0))) .done) false 14 [1, 2, 3, 4],
  .reg (.q (some 7) none (.fadr 0 (.tmp 1)) (.q (some 8) none (.ld1 (.tmp 7)) (.q (some 9) none (.fadr 3 (.tmp 1)) (.q (some 10) none (.ld1 (.tmp 9)) (.q (some 11) none (.bld [.x 1 (.tmp 8), .z [(2, (.slice none 0 0))], .x 1 (.tmp 10)]) (.l (some 3) none (.alloc 26 [(1, (.int .i32 0)), (2, (.slice none 0 0)), (1, (.int .u32 0))]) [] (.l none none (.stN 4 (.tmp 3) (.tmp 11)) [] .done))))))) false 15 [1, 2, 3],
  .reg (.l (some 1) none (.box 26 (.tmp 0)) [] (.l (some 2) none (.alloc 26 [(1, (.int .i32 0)), (2, (.slice none 0 0)), (1, (.int .u32 0))]) [] .done)) false 16 [1, 2]
  ]
theorem c10_ok : cfgL Try.prog 10 = some (67, 17, c10.map Vc.Node.bare) := by kernel_rfl
/- strongbox/strongboxref01.Spare: entry 13 -/
def c11 : List Vc.Node := [
  .ret [.t 2, .t 3],
  .ret [.t 2, .t 3],
  .reg (.q (some 33) none (.mov (.tmp 4)) (.q (some 34) none (.mov (.tmp 0)) (.q (some 35) none (.len (.tmp 34)) (.q (some 36) none (.slcS 1 (.tmp 33) none (some (.tmp 35))) (.q (some 37) none (.mov (.tmp 4)) (.q (some 2) none (.mov (.tmp 36)) (.q (some 3) none (.mov (.tmp 37)) .done))))))) false 1 [2, 3],
  .jmp 10,
  .reg (.q (some 14) none (.mov (.tmp 5)) (.q (some 15) none (.bin .add (.tmp 14) (.const (.int .i64 1))) (.q (some 5) none (.mov (.tmp 15)) .done))) false 3 [0, 4, 5],
  .reg (.q (some 26) none (.mov (.tmp 4)) (.q (some 27) none (.mov (.tmp 5)) (.q (some 28) none (.mov (.tmp 0)) (.q (some 29) none (.mov (.tmp 5)) (.q (some 30) none (.iadrS 1 (.tmp 28) (.tmp 29)) (.q (some 31) none (.ld1 (.tmp 30)) (.q (some 32) none (.iadrS 1 (.tmp 26) (.tmp 27)) (.l none none (.st1 (.tmp 32) (.tmp 31)) [] .done)))))))) false 4 [0, 4, 5],
  .cnd (.tmp 25) 5 4,
  .reg (.q (some 22) none (.mov (.tmp 5)) (.q (some 23) none (.mov (.tmp 0)) (.q (some 24) none (.len (.tmp 23)) (.q (some 25) none (.bin .lss (.tmp 22) (.tmp 24)) .done)))) false 6 [0, 4, 5, 25],
  .reg (.q (some 16) none (.mov (.tmp 4)) (.q (some 17) none (.mov (.tmp 5)) (.q (some 18) none (.mov (.tmp 5)) (.q (some 19) none (.bin .add (.const (.int .i64 201)) (.tmp 18)) (.q (some 20) none (.cvi .u8 (.tmp 19)) (.q (some 21) none (.iadrS 1 (.tmp 16) (.tmp 17)) (.l none none (.st1 (.tmp 21) (.tmp 20)) [] .done))))))) false 7 [0, 4, 5],
  .cnd (.tmp 13) 8 2,
  .reg (.q (some 10) none (.mov (.tmp 5)) (.q (some 11) none (.mov (.tmp 4)) (.q (some 12) none (.len (.tmp 11)) (.q (some 13) none (.bin .lss (.tmp 10) (.tmp 12)) .done)))) false 9 [0, 4, 5, 13],
  .reg (.q (some 5) none (.mov (.const (.int .i64 0))) .done) false 10 [0, 4, 5],
  .reg (.q (some 6) none (.mov (.tmp 0)) (.q (some 7) none (.len (.tmp 6)) (.q (some 8) none (.bin .add (.tmp 7) (.const (.int .i64 9))) (.l (some 9) none (.mkS 5 1 1 [(1, (.int .u8 0))] (.tmp 8) (.tmp 8)) [] (.q (some 4) none (.mov (.tmp 9)) .done))))) false 11 [0, 4],
  .reg (.q (some 2) none (.mov (.const (.slice none 0 0))) (.q (some 3) none (.mov (.const (.slice none 0 0))) .done)) false 12 [0]
  ]
theorem c11_ok : cfgL Try.prog 11 = some (38, 13, c11.map Vc.Node.bare) := by kernel_rfl
/- strongbox/sighash.Legacy: entry 43 -/
def c12 : List Vc.Node := [
  .ret [.cN 8 32],
  .ret [.cN 8 32],
  .reg (.l (some 109) none (.call 30 [(.tmp 14)]) [] (.l (some 110) none (.call 29 [(.tmp 109)]) [] (.l none none (.stN 32 (.tmp 8) (.tmp 110)) [] .done))) false 1 [8],
  .reg (.q (some 106) none (.mov (.tmp 3)) (.q (some 107) none (.cvi .u32 (.tmp 106)) (.l (some 108) none (.call 28 [(.tmp 14), (.tmp 107)]) [] .done))) false 2 [8, 14],
  .reg (.q (some 103) none (.ldN 4 (.tmp 4)) (.l (some 104) none (.call 27 [(.tmp 103), (.const (.bool false))]) [] (.l (some 105) none (.call 26 [(.tmp 14), (.tmp 104)]) [] .done))) false 3 [3, 8, 14],
  .reg (.l (some 14) none (.alloc 60 [(1, (.slice none 0 0))]) [] .done) false 4 [3, 4, 8, 14],
  .reg (.q (some 96) none (.fadr 1 (.tmp 4)) (.q (some 97) none (.ld1 (.tmp 96)) (.q (some 98) none (.mov (.tmp 1)) (.q (some 99) none (.mov (.tmp 1)) (.q (some 100) none (.bin .add (.tmp 99) (.const (.int .i64 1))) (.q (some 101) none (.slcS 36 (.tmp 97) (some (.tmp 98)) (some (.tmp 100))) (.q (some 102) none (.fadr 1 (.tmp 4)) (.l none none (.st1 (.tmp 102) (.tmp 101)) [] .done)))))))) false 5 [3, 4, 8],
  .cnd (.tmp 95) 6 5,
  .reg (.q (some 95) none (.mov (.tmp 10)) .done) false 7 [1, 3, 4, 8, 95],
  .reg (.q (some 76) none (.fadr 2 (.tmp 4)) (.l none none (.st1 (.tmp 76) (.const (.slice none 0 0))) [] .done)) false 8 [1, 3, 4, 8, 10],
  .jmp 15,
  .reg (.q (some 94) none (.bin .add (.tmp 86) (.const (.int .i64 1))) (.q (some 86) none (.mov (.tmp 94)) .done)) false 10 [1, 3, 4, 8, 10, 85, 86],
  .reg (.q (some 89) none (.fadr 2 (.tmp 4)) (.q (some 90) none (.ld1 (.tmp 89)) (.q (some 91) none (.mov (.tmp 13)) (.q (some 92) none (.bld [.x 1 (.const (.int .i64 (-1))), .z [(1, (.slice none 0 0))]]) (.q (some 93) none (.iadrS 2 (.tmp 90) (.tmp 91)) (.l none none (.stN 2 (.tmp 93) (.tmp 92)) [] .done)))))) false 11 [1, 3, 4, 8, 10, 85, 86],
  .reg (.q (some 88) none (.mov (.tmp 86)) (.q (some 13) none (.mov (.tmp 88)) .done)) false 12 [1, 3, 4, 8, 10, 13, 85, 86],
  .cnd (.tmp 87) 13 8,
  .reg (.q (some 87) none (.bin .lss (.tmp 86) (.tmp 85)) .done) false 14 [1, 3, 4, 8, 10, 85, 86, 87],
  .reg (.q (some 85) none (.mov (.tmp 1)) (.q (some 86) none (.mov (.const (.int .i64 0))) .done)) false 15 [1, 3, 4, 8, 10, 85, 86],
  .reg (.q (some 79) none (.fadr 2 (.tmp 4)) (.q (some 80) none (.ld1 (.tmp 79)) (.q (some 81) none (.mov (.tmp 1)) (.q (some 82) none (.bin .add (.tmp 81) (.const (.int .i64 1))) (.q (some 83) none (.slcS 2 (.tmp 80) none (some (.tmp 82))) (.q (some 84) none (.fadr 2 (.tmp 4)) (.l none none (.st1 (.tmp 84) (.tmp 83)) [] .done))))))) false 16 [1, 3, 4, 8, 10],
  .cnd (.tmp 77) 17 8,
  .reg (.q (some 78) none (.bin .eql (.tmp 73) (.const (.int .u8 3))) (.q (some 77) none (.mov (.tmp 78)) .done)) false 18 [1, 3, 4, 8, 10, 77],
  .cnd (.tmp 74) 9 19,
  .reg (.q (some 75) none (.bin .eql (.tmp 73) (.const (.int .u8 2))) (.q (some 74) none (.mov (.tmp 75)) .done)) false 20 [1, 3, 4, 8, 10, 73, 74],
  .reg (.q (some 73) none (.mov (.tmp 9)) .done) false 21 [1, 3, 4, 8, 10, 73],
  .jmp 35,
  .reg (.q (some 72) none (.bin .add (.tmp 46) (.const (.int .i64 1))) (.q (some 46) none (.mov (.tmp 72)) .done)) false 23 [1, 2, 3, 4, 8, 9, 10, 45, 46],
  .reg (.q (some 59) none (.mov (.tmp 12)) (.q (some 60) none (.mov (.tmp 2)) (.q (some 61) none (.nc (.tmp 59)) (.q (some 62) none (.fadr 33 (.tmp 61)) (.l none none (.st1 (.tmp 62) (.tmp 60)) [] .done))))) false 24 [1, 2, 3, 4, 8, 9, 10, 45, 46],
  .reg (.q (some 69) none (.mov (.tmp 12)) (.q (some 70) none (.nc (.tmp 69)) (.q (some 71) none (.fadr 34 (.tmp 70)) (.l none none (.st1 (.tmp 71) (.const (.int .u32 0))) [] .done)))) false 24 [1, 2, 3, 4, 8, 9, 10, 45, 46],
  .cnd (.tmp 68) 26 24,
  .reg (.q (some 63) none (.mov (.tmp 9)) (.q (some 64) none (.bin .eql (.tmp 63) (.const (.int .u8 2))) (.q (some 65) none (.mov (.tmp 64)) (.q (some 66) (some (65, false)) (.mov (.tmp 9)) (.q (some 67) (some (65, false)) (.bin .eql (.tmp 66) (.const (.int .u8 3))) (.q (some 68) none (.pick (.tmp 65) (.const (.bool true)) (.tmp 67)) .done)))))) false 27 [1, 2, 3, 4, 8, 9, 10, 12, 45, 46, 68],
  .cnd (.tmp 58) 25 28,
  .reg (.q (some 56) none (.mov (.tmp 11)) (.q (some 57) none (.mov (.tmp 1)) (.q (some 58) none (.bin .eql (.tmp 56) (.tmp 57)) .done))) false 29 [1, 2, 3, 4, 8, 9, 10, 12, 45, 46, 58],
  .reg (.q (some 53) none (.mov (.tmp 12)) (.q (some 54) none (.nc (.tmp 53)) (.q (some 55) none (.fadr 33 (.tmp 54)) (.l none none (.st1 (.tmp 55) (.const (.slice none 0 0))) [] .done)))) false 30 [1, 2, 3, 4, 8, 9, 10, 11, 12, 45, 46],
  .reg (.q (some 49) none (.fadr 1 (.tmp 4)) (.q (some 50) none (.ld1 (.tmp 49)) (.q (some 51) none (.mov (.tmp 11)) (.q (some 52) none (.iadrS 36 (.tmp 50) (.tmp 51)) (.q (some 12) none (.mov (.tmp 52)) .done))))) false 31 [1, 2, 3, 4, 8, 9, 10, 11, 12, 45, 46],
  .reg (.q (some 48) none (.mov (.tmp 46)) (.q (some 11) none (.mov (.tmp 48)) .done)) false 32 [1, 2, 3, 4, 8, 9, 10, 11, 45, 46],
  .cnd (.tmp 47) 33 22,
  .reg (.q (some 47) none (.bin .lss (.tmp 46) (.tmp 45)) .done) false 34 [1, 2, 3, 4, 8, 9, 10, 45, 46, 47],
  .reg (.q (some 43) none (.fadr 1 (.tmp 4)) (.q (some 44) none (.ld1 (.tmp 43)) (.q (some 45) none (.len (.tmp 44)) (.q (some 46) none (.mov (.const (.int .i64 0))) .done)))) false 35 [1, 2, 3, 4, 8, 9, 10, 45, 46],
  .reg (.q (some 41) none (.ldN 4 (.tmp 4)) (.l (some 42) none (.call 25 [(.tmp 41)]) [] (.l none none (.stN 4 (.tmp 4) (.tmp 42)) [] .done))) false 36 [1, 2, 3, 4, 8, 9, 10],
  .ret [.cN 8 32],
  .reg (.l (some 40) none (.call 24 []) [] (.l none none (.stN 32 (.tmp 8) (.tmp 40)) [] .done)) false 38 [8],
  .cnd (.tmp 39) 39 37,
  .reg (.q (some 20) none (.mov (.tmp 1)) (.q (some 21) none (.bin .lss (.tmp 20) (.const (.int .i64 0))) (.q (some 22) none (.mov (.tmp 21)) (.q (some 23) (some (22, false)) (.mov (.tmp 1)) (.q (some 24) (some (22, false)) (.fadr 1 (.tmp 4)) (.q (some 25) (some (22, false)) (.ld1 (.tmp 24)) (.q (some 26) (some (22, false)) (.len (.tmp 25)) (.q (some 27) (some (22, false)) (.bin .geq (.tmp 23) (.tmp 26)) (.q (some 28) none (.pick (.tmp 22) (.const (.bool true)) (.tmp 27)) (.q (some 29) none (.mov (.tmp 28)) (.q (some 30) (some (29, false)) (.mov (.tmp 9)) (.q (some 31) (some (29, false)) (.bin .eql (.tmp 30) (.const (.int .u8 3))) (.q (some 32) (some (29, false)) (.mov (.tmp 31)) (.q (some 33) (some (32, true)) (.mov (.tmp 1)) (.q (some 34) (some (32, true)) (.fadr 2 (.tmp 4)) (.q (some 35) (some (32, true)) (.ld1 (.tmp 34)) (.q (some 36) (some (32, true)) (.len (.tmp 35)) (.q (some 37) (some (32, true)) (.bin .geq (.tmp 33) (.tmp 36)) (.q (some 38) (some (29, false)) (.pick (.tmp 32) (.tmp 37) (.const (.bool false))) (.q (some 39) none (.pick (.tmp 29) (.const (.bool true)) (.tmp 38)) .done)))))))))))))))))))) false 40 [1, 2, 3, 4, 8, 9, 10, 39],
  .reg (.q (some 16) none (.mov (.tmp 3)) (.l (some 17) none (.call 23 [(.tmp 16)]) [] (.q (some 15) none (.mov (.tmp 17)) (.q (some 18) none (.ext 0 (.tmp 15)) (.q (some 19) none (.ext 1 (.tmp 15)) (.q (some 9) none (.mov (.tmp 18)) (.q (some 10) none (.mov (.tmp 19)) .done))))))) false 41 [1, 2, 3, 4, 8, 9, 10],
  .reg (.l (some 4) none (.box 26 (.tmp 0)) [] (.l (some 8) none (.alloc 36 [(32, (.int .u8 0))]) [] .done)) false 42 [1, 2, 3, 4, 8]
  ]
theorem c12_ok : cfgL Try.prog 12 = some (111, 43, c12.map Vc.Node.bare) := by kernel_rfl
/- strongbox/strongboxref12.Legacy: entry 39 -/
def c13 : List Vc.Node := [
  .ret [.cN 8 32],
  .ret [.cN 8 32],
  .reg (.q (some 127) none (.ldN 4 (.tmp 10)) (.l (some 128) none (.call 33 [(.tmp 127), (.const (.bool false))]) [] (.q (some 129) none (.mov (.tmp 3)) (.l (some 130) none (.bldS 5 1 [(.tmp 129), (.const (.int .u8 0)), (.const (.int .u8 0)), (.const (.int .u8 0))]) [] (.l (some 131) none (.app 5 1 1 [(1, (.int .u8 0))] (.tmp 128) (.tmp 130)) [] (.l (some 132) none (.call 32 [(.tmp 131)]) [] (.l none none (.stN 32 (.tmp 8) (.tmp 132)) [] .done))))))) false 1 [8],
  .jmp 13,
  .reg (.q (some 95) none (.mov (.tmp 13)) (.q (some 96) none (.bin .add (.tmp 95) (.const (.int .i64 1))) (.q (some 13) none (.mov (.tmp 96)) .done))) false 3 [1, 3, 4, 8, 9, 10, 13],
  .reg (.q (some 121) none (.fadr 2 (.tmp 10)) (.q (some 122) none (.ld1 (.tmp 121)) (.q (some 123) none (.ldN 2 (.tmp 14)) (.l (some 124) none (.bldS 54 2 [(.tmp 123)]) [] (.l (some 125) none (.app 54 2 32 [(1, (.int .i64 0)), (1, (.slice none 0 0))] (.tmp 122) (.tmp 124)) [] (.q (some 126) none (.fadr 2 (.tmp 10)) (.l none none (.st1 (.tmp 126) (.tmp 125)) [] .done))))))) false 4 [1, 3, 4, 8, 9, 10, 13],
  .reg (.q (some 120) none (.bld [.x 1 (.const (.int .i64 (-1))), .z [(1, (.slice none 0 0))]]) (.l none none (.stN 2 (.tmp 14) (.tmp 120)) [] .done)) false 5 [1, 3, 4, 8, 9, 10, 13, 14],
  .cnd (.tmp 119) 6 5,
  .reg (.q (some 113) none (.mov (.tmp 9)) (.q (some 114) none (.bin .eql (.tmp 113) (.const (.int .i64 3))) (.q (some 115) none (.mov (.tmp 114)) (.q (some 116) (some (115, true)) (.mov (.tmp 13)) (.q (some 117) (some (115, true)) (.mov (.tmp 1)) (.q (some 118) (some (115, true)) (.bin .lss (.tmp 116) (.tmp 117)) (.q (some 119) none (.pick (.tmp 115) (.tmp 118) (.const (.bool false))) .done))))))) false 7 [1, 3, 4, 8, 9, 10, 13, 14, 119],
  .cnd (.tmp 112) 4 8,
  .reg (.q (some 102) none (.mov (.tmp 9)) (.q (some 103) none (.bin .eql (.tmp 102) (.const (.int .i64 2))) (.q (some 104) none (.mov (.tmp 103)) (.q (some 105) (some (104, false)) (.mov (.tmp 9)) (.q (some 106) (some (104, false)) (.bin .eql (.tmp 105) (.const (.int .i64 3))) (.q (some 107) (some (104, false)) (.mov (.tmp 106)) (.q (some 108) (some (107, true)) (.mov (.tmp 13)) (.q (some 109) (some (107, true)) (.mov (.tmp 1)) (.q (some 110) (some (107, true)) (.bin .gtr (.tmp 108) (.tmp 109)) (.q (some 111) (some (104, false)) (.pick (.tmp 107) (.tmp 110) (.const (.bool false))) (.q (some 112) none (.pick (.tmp 104) (.const (.bool true)) (.tmp 111)) .done))))))))))) false 9 [1, 3, 4, 8, 9, 10, 13, 14, 112],
  .reg (.q (some 97) none (.fadr 2 (.tmp 4)) (.q (some 98) none (.ld1 (.tmp 97)) (.q (some 99) none (.mov (.tmp 13)) (.q (some 100) none (.iadrS 2 (.tmp 98) (.tmp 99)) (.q (some 101) none (.ldN 2 (.tmp 100)) (.l (some 14) none (.alloc 54 [(1, (.int .i64 0)), (1, (.slice none 0 0))]) [] (.l none none (.stN 2 (.tmp 14) (.tmp 101)) [] .done))))))) false 10 [1, 3, 4, 8, 9, 10, 13, 14],
  .cnd (.tmp 94) 11 2,
  .reg (.q (some 90) none (.mov (.tmp 13)) (.q (some 91) none (.fadr 2 (.tmp 4)) (.q (some 92) none (.ld1 (.tmp 91)) (.q (some 93) none (.len (.tmp 92)) (.q (some 94) none (.bin .lss (.tmp 90) (.tmp 93)) .done))))) false 12 [1, 3, 4, 8, 9, 10, 13, 94],
  .reg (.q (some 13) none (.mov (.const (.int .i64 0))) .done) false 13 [1, 3, 4, 8, 9, 10, 13],
  .jmp 29,
  .reg (.q (some 49) none (.mov (.tmp 11)) (.q (some 50) none (.bin .add (.tmp 49) (.const (.int .i64 1))) (.q (some 11) none (.mov (.tmp 50)) .done))) false 15 [1, 2, 3, 4, 8, 9, 10, 11],
  .reg (.q (some 84) none (.fadr 1 (.tmp 10)) (.q (some 85) none (.ld1 (.tmp 84)) (.q (some 86) none (.ldN 36 (.tmp 12)) (.l (some 87) none (.bldS 50 36 [(.tmp 86)]) [] (.l (some 88) none (.app 50 36 96 [(32, (.int .u8 0)), (1, (.int .u32 0)), (1, (.slice none 0 0)), (1, (.int .u32 0)), (1, (.slice none 0 0))] (.tmp 85) (.tmp 87)) [] (.q (some 89) none (.fadr 1 (.tmp 10)) (.l none none (.st1 (.tmp 89) (.tmp 88)) [] .done))))))) false 16 [1, 2, 3, 4, 8, 9, 10, 11],
  .cnd (.tmp 83) 17 16,
  .reg (.q (some 82) none (.mov (.tmp 3)) (.q (some 83) none (.bin .lss (.tmp 82) (.const (.int .u8 128))) .done)) false 18 [1, 2, 3, 4, 8, 9, 10, 11, 12, 83],
  .reg (.q (some 81) none (.fadr 34 (.tmp 12)) (.l none none (.st1 (.tmp 81) (.const (.int .u32 0))) [] .done)) false 19 [1, 2, 3, 4, 8, 9, 10, 11, 12],
  .cnd (.tmp 80) 20 19,
  .reg (.q (some 75) none (.mov (.tmp 9)) (.q (some 76) none (.bin .eql (.tmp 75) (.const (.int .i64 2))) (.q (some 77) none (.mov (.tmp 76)) (.q (some 78) (some (77, false)) (.mov (.tmp 9)) (.q (some 79) (some (77, false)) (.bin .eql (.tmp 78) (.const (.int .i64 3))) (.q (some 80) none (.pick (.tmp 77) (.const (.bool true)) (.tmp 79)) .done)))))) false 21 [1, 2, 3, 4, 8, 9, 10, 11, 12, 80],
  .reg (.q (some 69) none (.fadr 1 (.tmp 10)) (.q (some 70) none (.ld1 (.tmp 69)) (.q (some 71) none (.ldN 36 (.tmp 12)) (.l (some 72) none (.bldS 50 36 [(.tmp 71)]) [] (.l (some 73) none (.app 50 36 96 [(32, (.int .u8 0)), (1, (.int .u32 0)), (1, (.slice none 0 0)), (1, (.int .u32 0)), (1, (.slice none 0 0))] (.tmp 70) (.tmp 72)) [] (.q (some 74) none (.fadr 1 (.tmp 10)) (.l none none (.st1 (.tmp 74) (.tmp 73)) [] .done))))))) false 16 [1, 2, 3, 4, 8, 9, 10, 11],
  .reg (.q (some 67) none (.mov (.tmp 2)) (.q (some 68) none (.fadr 33 (.tmp 12)) (.l none none (.st1 (.tmp 68) (.tmp 67)) [] .done))) false 23 [1, 2, 3, 4, 8, 9, 10, 11, 12],
  .cnd (.tmp 66) 24 22,
  .reg (.q (some 64) none (.mov (.tmp 11)) (.q (some 65) none (.mov (.tmp 1)) (.q (some 66) none (.bin .eql (.tmp 64) (.tmp 65)) .done))) false 25 [1, 2, 3, 4, 8, 9, 10, 11, 12, 66],
  .reg (.q (some 51) none (.fadr 1 (.tmp 4)) (.q (some 52) none (.ld1 (.tmp 51)) (.q (some 53) none (.mov (.tmp 11)) (.q (some 54) none (.iadrS 36 (.tmp 52) (.tmp 53)) (.q (some 55) none (.fadr 0 (.tmp 54)) (.q (some 56) none (.ldN 33 (.tmp 55)) (.q (some 57) none (.fadr 1 (.tmp 4)) (.q (some 58) none (.ld1 (.tmp 57)) (.q (some 59) none (.mov (.tmp 11)) (.q (some 60) none (.iadrS 36 (.tmp 58) (.tmp 59)) (.q (some 61) none (.fadr 34 (.tmp 60)) (.q (some 62) none (.ld1 (.tmp 61)) (.q (some 63) none (.bld [.x 33 (.tmp 56), .z [(1, (.slice none 0 0))], .x 1 (.tmp 62), .z [(1, (.slice none 0 0))]]) (.l (some 12) none (.alloc 50 [(32, (.int .u8 0)), (1, (.int .u32 0)), (1, (.slice none 0 0)), (1, (.int .u32 0)), (1, (.slice none 0 0))]) [⟨62, none, (.ld1 (.tmp 61))⟩, ⟨58, none, (.ld1 (.tmp 57))⟩, ⟨56, none, (.ldN 33 (.tmp 55))⟩, ⟨52, none, (.ld1 (.tmp 51))⟩] (.l none none (.stN 36 (.tmp 12) (.tmp 63)) [] .done))))))))))))))) true 26 [1, 2, 3, 4, 8, 9, 10, 11, 12],
  .cnd (.tmp 48) 27 14,
  .reg (.q (some 44) none (.mov (.tmp 11)) (.q (some 45) none (.fadr 1 (.tmp 4)) (.q (some 46) none (.ld1 (.tmp 45)) (.q (some 47) none (.len (.tmp 46)) (.q (some 48) none (.bin .lss (.tmp 44) (.tmp 47)) .done))))) false 28 [1, 2, 3, 4, 8, 9, 10, 11, 48],
  .reg (.q (some 11) none (.mov (.const (.int .i64 0))) .done) false 29 [1, 2, 3, 4, 8, 9, 10, 11],
  .reg (.q (some 41) none (.fadr 3 (.tmp 4)) (.q (some 42) none (.ld1 (.tmp 41)) (.q (some 43) none (.fadr 3 (.tmp 10)) (.l none none (.st1 (.tmp 43) (.tmp 42)) [] .done)))) false 30 [1, 2, 3, 4, 8, 9, 10],
  .reg (.q (some 38) none (.fadr 0 (.tmp 4)) (.q (some 39) none (.ld1 (.tmp 38)) (.q (some 40) none (.fadr 0 (.tmp 10)) (.l none none (.st1 (.tmp 40) (.tmp 39)) [] .done)))) false 31 [1, 2, 3, 4, 8, 9, 10],
  .reg (.l (some 10) none (.alloc 26 [(1, (.int .i32 0)), (2, (.slice none 0 0)), (1, (.int .u32 0))]) [] .done) false 32 [1, 2, 3, 4, 8, 9, 10],
  .ret [.cN 8 32],
  .reg (.q (some 37) none (.bld [.x 1 (.const (.int .u8 1)), .z [(31, (.int .u8 0))]]) (.l none none (.stN 32 (.tmp 8) (.tmp 37)) [] .done)) false 34 [8],
  .cnd (.tmp 36) 35 33,
  .reg (.q (some 17) none (.mov (.tmp 1)) (.q (some 18) none (.bin .lss (.tmp 17) (.const (.int .i64 0))) (.q (some 19) none (.mov (.tmp 18)) (.q (some 20) (some (19, false)) (.mov (.tmp 1)) (.q (some 21) (some (19, false)) (.fadr 1 (.tmp 4)) (.q (some 22) (some (19, false)) (.ld1 (.tmp 21)) (.q (some 23) (some (19, false)) (.len (.tmp 22)) (.q (some 24) (some (19, false)) (.bin .geq (.tmp 20) (.tmp 23)) (.q (some 25) none (.pick (.tmp 19) (.const (.bool true)) (.tmp 24)) (.q (some 26) none (.mov (.tmp 25)) (.q (some 27) (some (26, false)) (.mov (.tmp 9)) (.q (some 28) (some (26, false)) (.bin .eql (.tmp 27) (.const (.int .i64 3))) (.q (some 29) (some (26, false)) (.mov (.tmp 28)) (.q (some 30) (some (29, true)) (.mov (.tmp 1)) (.q (some 31) (some (29, true)) (.fadr 2 (.tmp 4)) (.q (some 32) (some (29, true)) (.ld1 (.tmp 31)) (.q (some 33) (some (29, true)) (.len (.tmp 32)) (.q (some 34) (some (29, true)) (.bin .geq (.tmp 30) (.tmp 33)) (.q (some 35) (some (26, false)) (.pick (.tmp 29) (.tmp 34) (.const (.bool false))) (.q (some 36) none (.pick (.tmp 26) (.const (.bool true)) (.tmp 35)) .done)))))))))))))))))))) false 36 [1, 2, 3, 4, 8, 9, 36],
  .reg (.q (some 15) none (.mov (.tmp 3)) (.l (some 16) none (.call 31 [(.tmp 15)]) [] (.q (some 9) none (.mov (.tmp 16)) .done))) false 37 [1, 2, 3, 4, 8, 9],
  .reg (.l (some 4) none (.box 26 (.tmp 0)) [] (.l (some 8) none (.alloc 35 [(32, (.int .u8 0))]) [] .done)) false 38 [1, 2, 3, 4, 8]
  ]
theorem c13_ok : cfgL Try.prog 13 = some (133, 39, c13.map Vc.Node.bare) := by kernel_rfl
/- strongbox/strongboxref01.Kept: entry 16 -/
def c14 : List Vc.Node := [
  .ret [.t 4],
  .ret [.t 4],
  .reg (.q (some 4) none (.mov (.const (.bool true))) .done) false 1 [4],
  .jmp 10,
  .reg (.q (some 16) none (.mov (.tmp 5)) (.q (some 17) none (.bin .add (.tmp 16) (.const (.int .i64 1))) (.q (some 5) none (.mov (.tmp 17)) .done))) false 3 [0, 1, 5],
  .ret [.t 4],
  .reg (.q (some 4) none (.mov (.const (.bool false))) .done) false 5 [4],
  .cnd (.tmp 48) 6 4,
  .reg (.q (some 18) none (.mov (.tmp 5)) (.q (some 19) none (.mov (.tmp 1)) (.q (some 20) none (.len (.tmp 19)) (.q (some 21) none (.bin .lss (.tmp 18) (.tmp 20)) (.q (some 22) none (.mov (.tmp 21)) (.q (some 23) (some (22, true)) (.mov (.tmp 0)) (.q (some 24) (some (22, true)) (.mov (.tmp 5)) (.q (some 25) (some (22, true)) (.iadrS 1 (.tmp 23) (.tmp 24)) (.q (some 26) (some (22, true)) (.ld1 (.tmp 25)) (.q (some 27) (some (22, true)) (.mov (.tmp 1)) (.q (some 28) (some (22, true)) (.mov (.tmp 5)) (.q (some 29) (some (22, true)) (.iadrS 1 (.tmp 27) (.tmp 28)) (.q (some 30) (some (22, true)) (.ld1 (.tmp 29)) (.q (some 31) (some (22, true)) (.bin .neq (.tmp 26) (.tmp 30)) (.q (some 32) none (.pick (.tmp 22) (.tmp 31) (.const (.bool false))) (.q (some 33) none (.mov (.tmp 32)) (.q (some 34) (some (33, false)) (.mov (.tmp 5)) (.q (some 35) (some (33, false)) (.mov (.tmp 1)) (.q (some 36) (some (33, false)) (.len (.tmp 35)) (.q (some 37) (some (33, false)) (.bin .geq (.tmp 34) (.tmp 36)) (.q (some 38) (some (33, false)) (.mov (.tmp 37)) (.q (some 39) (some (38, true)) (.mov (.tmp 0)) (.q (some 40) (some (38, true)) (.mov (.tmp 5)) (.q (some 41) (some (38, true)) (.iadrS 1 (.tmp 39) (.tmp 40)) (.q (some 42) (some (38, true)) (.ld1 (.tmp 41)) (.q (some 43) (some (38, true)) (.mov (.tmp 5)) (.q (some 44) (some (38, true)) (.bin .add (.const (.int .i64 201)) (.tmp 43)) (.q (some 45) (some (38, true)) (.cvi .u8 (.tmp 44)) (.q (some 46) (some (38, true)) (.bin .neq (.tmp 42) (.tmp 45)) (.q (some 47) (some (33, false)) (.pick (.tmp 38) (.tmp 46) (.const (.bool false))) (.q (some 48) none (.pick (.tmp 33) (.const (.bool true)) (.tmp 47)) .done))))))))))))))))))))))))))))))) true 7 [0, 1, 5, 48],
  .cnd (.tmp 15) 8 2,
  .reg (.q (some 12) none (.mov (.tmp 5)) (.q (some 13) none (.mov (.tmp 0)) (.q (some 14) none (.len (.tmp 13)) (.q (some 15) none (.bin .lss (.tmp 12) (.tmp 14)) .done)))) false 9 [0, 1, 5, 15],
  .reg (.q (some 5) none (.mov (.const (.int .i64 0))) .done) false 10 [0, 1, 5],
  .ret [.t 4],
  .reg (.q (some 4) none (.mov (.const (.bool false))) .done) false 12 [4],
  .cnd (.tmp 11) 13 11,
  .reg (.q (some 6) none (.mov (.tmp 0)) (.q (some 7) none (.len (.tmp 6)) (.q (some 8) none (.mov (.tmp 1)) (.q (some 9) none (.len (.tmp 8)) (.q (some 10) none (.bin .add (.tmp 9) (.const (.int .i64 9))) (.q (some 11) none (.bin .neq (.tmp 7) (.tmp 10)) .done)))))) false 14 [0, 1, 11],
  .reg (.q (some 4) none (.mov (.const (.bool false))) .done) false 15 [0, 1]
  ]
theorem c14_ok : cfgL Try.prog 14 = some (49, 16, c14.map Vc.Node.bare) := by kernel_rfl
/- strongbox/strongboxref09.Same: entry 27 -/
def c15 : List Vc.Node := [
  .ret [.t 4],
  .ret [.t 4],
  .reg (.q (some 4) none (.mov (.const (.bool true))) .done) false 1 [4],
  .jmp 10,
  .reg (.q (some 89) none (.mov (.tmp 8)) (.q (some 90) none (.bin .add (.tmp 89) (.const (.int .i64 1))) (.q (some 8) none (.mov (.tmp 90)) .done))) false 3 [2, 3, 8],
  .ret [.t 4],
  .reg (.q (some 4) none (.mov (.const (.bool false))) .done) false 5 [4],
  .cnd (.tmp 119) 6 4,
  .reg (.q (some 91) none (.fadr 2 (.tmp 2)) (.q (some 92) none (.ld1 (.tmp 91)) (.q (some 93) none (.mov (.tmp 8)) (.q (some 94) none (.iadrS 2 (.tmp 92) (.tmp 93)) (.q (some 95) none (.fadr 0 (.tmp 94)) (.q (some 96) none (.ld1 (.tmp 95)) (.q (some 97) none (.fadr 2 (.tmp 3)) (.q (some 98) none (.ld1 (.tmp 97)) (.q (some 99) none (.mov (.tmp 8)) (.q (some 100) none (.iadrS 2 (.tmp 98) (.tmp 99)) (.q (some 101) none (.fadr 0 (.tmp 100)) (.q (some 102) none (.ld1 (.tmp 101)) (.q (some 103) none (.bin .neq (.tmp 96) (.tmp 102)) (.q (some 104) none (.mov (.tmp 103)) (.q (some 105) (some (104, false)) (.fadr 2 (.tmp 2)) (.q (some 106) (some (104, false)) (.ld1 (.tmp 105)) (.q (some 107) (some (104, false)) (.mov (.tmp 8)) (.q (some 108) (some (104, false)) (.iadrS 2 (.tmp 106) (.tmp 107)) (.q (some 109) (some (104, false)) (.fadr 1 (.tmp 108)) (.q (some 110) (some (104, false)) (.ld1 (.tmp 109)) (.q (some 111) (some (104, false)) (.fadr 2 (.tmp 3)) (.q (some 112) (some (104, false)) (.ld1 (.tmp 111)) (.q (some 113) (some (104, false)) (.mov (.tmp 8)) (.q (some 114) (some (104, false)) (.iadrS 2 (.tmp 112) (.tmp 113)) (.q (some 115) (some (104, false)) (.fadr 1 (.tmp 114)) (.q (some 116) (some (104, false)) (.ld1 (.tmp 115)) (.l (some 117) (some (104, false)) (.call 34 [(.tmp 110), (.tmp 116)]) [] (.q (some 118) (some (104, false)) (.not (.tmp 117)) (.q (some 119) none (.pick (.tmp 104) (.const (.bool true)) (.tmp 118)) .done))))))))))))))))))))))))))))) true 7 [2, 3, 8, 119],
  .cnd (.tmp 88) 8 2,
  .reg (.q (some 84) none (.mov (.tmp 8)) (.q (some 85) none (.fadr 2 (.tmp 2)) (.q (some 86) none (.ld1 (.tmp 85)) (.q (some 87) none (.len (.tmp 86)) (.q (some 88) none (.bin .lss (.tmp 84) (.tmp 87)) .done))))) false 9 [2, 3, 8, 88],
  .reg (.q (some 8) none (.mov (.const (.int .i64 0))) .done) false 10 [2, 3, 8],
  .jmp 21,
  .reg (.q (some 44) none (.mov (.tmp 5)) (.q (some 45) none (.bin .add (.tmp 44) (.const (.int .i64 1))) (.q (some 5) none (.mov (.tmp 45)) .done))) false 12 [2, 3, 5],
  .ret [.t 4],
  .reg (.q (some 4) none (.mov (.const (.bool false))) .done) false 14 [4],
  .cnd (.tmp 83) 15 13,
  .reg (.q (some 56) none (.fadr 0 (.tmp 6)) (.q (some 57) none (.ldN 33 (.tmp 56)) (.q (some 58) none (.fadr 0 (.tmp 7)) (.q (some 59) none (.ldN 33 (.tmp 58)) (.q (some 60) none (.eqA true [(32, .i .u8), (1, .i .u32)] (.tmp 57) (.tmp 59)) (.q (some 61) none (.mov (.tmp 60)) (.q (some 62) (some (61, false)) (.fadr 34 (.tmp 6)) (.q (some 63) (some (61, false)) (.ld1 (.tmp 62)) (.q (some 64) (some (61, false)) (.fadr 34 (.tmp 7)) (.q (some 65) (some (61, false)) (.ld1 (.tmp 64)) (.q (some 66) (some (61, false)) (.bin .neq (.tmp 63) (.tmp 65)) (.q (some 67) none (.pick (.tmp 61) (.const (.bool true)) (.tmp 66)) (.q (some 68) none (.mov (.tmp 67)) (.q (some 69) (some (68, false)) (.fadr 33 (.tmp 6)) (.q (some 70) (some (68, false)) (.ld1 (.tmp 69)) (.q (some 71) (some (68, false)) (.fadr 33 (.tmp 7)) (.q (some 72) (some (68, false)) (.ld1 (.tmp 71)) (.l (some 73) (some (68, false)) (.call 34 [(.tmp 70), (.tmp 72)]) [] (.q (some 74) (some (68, false)) (.not (.tmp 73)) (.q (some 75) none (.pick (.tmp 68) (.const (.bool true)) (.tmp 74)) (.q (some 76) none (.mov (.tmp 75)) (.q (some 77) (some (76, false)) (.fadr 35 (.tmp 6)) (.q (some 78) (some (76, false)) (.ld1 (.tmp 77)) (.q (some 79) (some (76, false)) (.fadr 35 (.tmp 7)) (.q (some 80) (some (76, false)) (.ld1 (.tmp 79)) (.l (some 81) (some (76, false)) (.call 35 [(.tmp 78), (.tmp 80)]) [] (.q (some 82) (some (76, false)) (.not (.tmp 81)) (.q (some 83) none (.pick (.tmp 76) (.const (.bool true)) (.tmp 82)) .done)))))))))))))))))))))))))))) false 16 [2, 3, 5, 83],
  .reg (.q (some 51) none (.fadr 1 (.tmp 3)) (.q (some 52) none (.ld1 (.tmp 51)) (.q (some 53) none (.mov (.tmp 5)) (.q (some 54) none (.iadrS 36 (.tmp 52) (.tmp 53)) (.q (some 55) none (.ldN 36 (.tmp 54)) (.l (some 7) none (.alloc 50 [(32, (.int .u8 0)), (1, (.int .u32 0)), (1, (.slice none 0 0)), (1, (.int .u32 0)), (1, (.slice none 0 0))]) [] (.l none none (.stN 36 (.tmp 7) (.tmp 55)) [] .done))))))) false 17 [2, 3, 5, 6, 7],
  .reg (.q (some 46) none (.fadr 1 (.tmp 2)) (.q (some 47) none (.ld1 (.tmp 46)) (.q (some 48) none (.mov (.tmp 5)) (.q (some 49) none (.iadrS 36 (.tmp 47) (.tmp 48)) (.q (some 50) none (.ldN 36 (.tmp 49)) (.l (some 6) none (.alloc 50 [(32, (.int .u8 0)), (1, (.int .u32 0)), (1, (.slice none 0 0)), (1, (.int .u32 0)), (1, (.slice none 0 0))]) [] (.l none none (.stN 36 (.tmp 6) (.tmp 50)) [] .done))))))) false 18 [2, 3, 5, 6],
  .cnd (.tmp 43) 19 11,
  .reg (.q (some 39) none (.mov (.tmp 5)) (.q (some 40) none (.fadr 1 (.tmp 2)) (.q (some 41) none (.ld1 (.tmp 40)) (.q (some 42) none (.len (.tmp 41)) (.q (some 43) none (.bin .lss (.tmp 39) (.tmp 42)) .done))))) false 20 [2, 3, 5, 43],
  .reg (.q (some 5) none (.mov (.const (.int .i64 0))) .done) false 21 [2, 3, 5],
  .ret [.t 4],
  .reg (.q (some 4) none (.mov (.const (.bool false))) .done) false 23 [4],
  .cnd (.tmp 38) 24 22,
  .reg (.q (some 9) none (.fadr 0 (.tmp 2)) (.q (some 10) none (.ld1 (.tmp 9)) (.q (some 11) none (.fadr 0 (.tmp 3)) (.q (some 12) none (.ld1 (.tmp 11)) (.q (some 13) none (.bin .neq (.tmp 10) (.tmp 12)) (.q (some 14) none (.mov (.tmp 13)) (.q (some 15) (some (14, false)) (.fadr 3 (.tmp 2)) (.q (some 16) (some (14, false)) (.ld1 (.tmp 15)) (.q (some 17) (some (14, false)) (.fadr 3 (.tmp 3)) (.q (some 18) (some (14, false)) (.ld1 (.tmp 17)) (.q (some 19) (some (14, false)) (.bin .neq (.tmp 16) (.tmp 18)) (.q (some 20) none (.pick (.tmp 14) (.const (.bool true)) (.tmp 19)) (.q (some 21) none (.mov (.tmp 20)) (.q (some 22) (some (21, false)) (.fadr 1 (.tmp 2)) (.q (some 23) (some (21, false)) (.ld1 (.tmp 22)) (.q (some 24) (some (21, false)) (.len (.tmp 23)) (.q (some 25) (some (21, false)) (.fadr 1 (.tmp 3)) (.q (some 26) (some (21, false)) (.ld1 (.tmp 25)) (.q (some 27) (some (21, false)) (.len (.tmp 26)) (.q (some 28) (some (21, false)) (.bin .neq (.tmp 24) (.tmp 27)) (.q (some 29) none (.pick (.tmp 21) (.const (.bool true)) (.tmp 28)) (.q (some 30) none (.mov (.tmp 29)) (.q (some 31) (some (30, false)) (.fadr 2 (.tmp 2)) (.q (some 32) (some (30, false)) (.ld1 (.tmp 31)) (.q (some 33) (some (30, false)) (.len (.tmp 32)) (.q (some 34) (some (30, false)) (.fadr 2 (.tmp 3)) (.q (some 35) (some (30, false)) (.ld1 (.tmp 34)) (.q (some 36) (some (30, false)) (.len (.tmp 35)) (.q (some 37) (some (30, false)) (.bin .neq (.tmp 33) (.tmp 36)) (.q (some 38) none (.pick (.tmp 30) (.const (.bool true)) (.tmp 37)) .done)))))))))))))))))))))))))))))) false 25 [2, 3, 38],
  .reg (.l (some 2) none (.box 26 (.tmp 0)) [] (.l (some 3) none (.box 26 (.tmp 1)) [] (.q (some 4) none (.mov (.const (.bool false))) .done))) false 26 [2, 3]
  ]
theorem c15_ok : cfgL Try.prog 15 = some (120, 27, c15.map Vc.Node.bare) := by kernel_rfl
/- strongbox/sighash.Known: entry 4 -/
def c16 : List Vc.Node := [
  .ret [.t 2],
  .ret [.t 2],
  .reg (.q (some 6) none (.mov (.tmp 3)) (.q (some 7) none (.bin .geq (.tmp 6) (.const (.int .u8 1))) (.q (some 8) none (.mov (.tmp 7)) (.q (some 9) (some (8, true)) (.mov (.tmp 3)) (.q (some 10) (some (8, true)) (.bin .leq (.tmp 9) (.const (.int .u8 3))) (.q (some 11) none (.pick (.tmp 8) (.tmp 10) (.const (.bool false))) (.q (some 2) none (.mov (.tmp 11)) .done))))))) false 1 [2],
  .reg (.q (some 4) none (.mov (.tmp 0)) (.q (some 5) none (.bin .andNot (.tmp 4) (.const (.int .u8 128))) (.q (some 3) none (.mov (.tmp 5)) .done))) false 2 [3],
  .reg (.q (some 2) none (.mov (.const (.bool false))) .done) false 3 [0]
  ]
theorem c16_ok : cfgL Try.prog 16 = some (12, 4, c16.map Vc.Node.bare) := by kernel_rfl
/- strongbox/strongboxref12.Known: entry 3 -/
def c17 : List Vc.Node := [
  .ret [.t 2],
  .ret [.t 2],
  .reg (.q (some 3) none (.mov (.tmp 0)) (.q (some 4) none (.bin .rem (.tmp 3) (.const (.int .u8 128))) (.q (some 5) none (.bin .geq (.tmp 4) (.const (.int .u8 1))) (.q (some 6) none (.mov (.tmp 5)) (.q (some 7) (some (6, true)) (.mov (.tmp 0)) (.q (some 8) (some (6, true)) (.bin .rem (.tmp 7) (.const (.int .u8 128))) (.q (some 9) (some (6, true)) (.bin .leq (.tmp 8) (.const (.int .u8 3))) (.q (some 10) none (.pick (.tmp 6) (.tmp 9) (.const (.bool false))) (.q (some 2) none (.mov (.tmp 10)) .done))))))))) false 1 [2],
  .reg (.q (some 2) none (.mov (.const (.bool false))) .done) false 2 [0]
  ]
theorem c17_ok : cfgL Try.prog 17 = some (11, 3, c17.map Vc.Node.bare) := by kernel_rfl
/- strongbox/strongboxref09.Few: entry 37 -/
def c18 : List Vc.Node := [
  .ret [.cN 6 4],
  .ret [.cN 6 4],
  .reg (.q (some 154) none (.ldN 4 (.tmp 3)) (.l none none (.stN 4 (.tmp 6) (.tmp 154)) [] .done)) false 1 [6],
  .jmp 9,
  .reg (.q (some 130) none (.mov (.tmp 9)) (.q (some 131) none (.bin .add (.tmp 130) (.const (.int .i64 1))) (.q (some 9) none (.mov (.tmp 131)) .done))) false 3 [2, 3, 6, 9],
  .reg (.q (some 141) none (.fadr 2 (.tmp 3)) (.q (some 142) none (.ld1 (.tmp 141)) (.q (some 143) none (.mov (.tmp 9)) (.q (some 144) none (.fadr 2 (.tmp 3)) (.q (some 145) none (.ld1 (.tmp 144)) (.q (some 146) none (.mov (.tmp 9)) (.q (some 147) none (.iadrS 2 (.tmp 145) (.tmp 146)) (.q (some 148) none (.fadr 1 (.tmp 147)) (.q (some 149) none (.ld1 (.tmp 148)) (.q (some 150) none (.mov (.tmp 2)) (.q (some 151) none (.slcS 1 (.tmp 149) none (some (.tmp 150))) (.q (some 152) none (.iadrS 2 (.tmp 142) (.tmp 143)) (.q (some 153) none (.fadr 1 (.tmp 152)) (.l none none (.st1 (.tmp 153) (.tmp 151)) [] .done)))))))))))))) true 4 [2, 3, 6, 9],
  .cnd (.tmp 140) 5 4,
  .reg (.q (some 132) none (.fadr 2 (.tmp 3)) (.q (some 133) none (.ld1 (.tmp 132)) (.q (some 134) none (.mov (.tmp 9)) (.q (some 135) none (.iadrS 2 (.tmp 133) (.tmp 134)) (.q (some 136) none (.fadr 1 (.tmp 135)) (.q (some 137) none (.ld1 (.tmp 136)) (.q (some 138) none (.len (.tmp 137)) (.q (some 139) none (.mov (.tmp 2)) (.q (some 140) none (.bin .gtr (.tmp 138) (.tmp 139)) .done))))))))) false 6 [2, 3, 6, 9, 140],
  .cnd (.tmp 129) 7 2,
  .reg (.q (some 125) none (.mov (.tmp 9)) (.q (some 126) none (.fadr 2 (.tmp 3)) (.q (some 127) none (.ld1 (.tmp 126)) (.q (some 128) none (.len (.tmp 127)) (.q (some 129) none (.bin .lss (.tmp 125) (.tmp 128)) .done))))) false 8 [2, 3, 6, 9, 129],
  .reg (.q (some 9) none (.mov (.const (.int .i64 0))) .done) false 9 [2, 3, 6, 9],
  .jmp 28,
  .reg (.q (some 37) none (.mov (.tmp 7)) (.q (some 38) none (.bin .add (.tmp 37) (.const (.int .i64 1))) (.q (some 7) none (.mov (.tmp 38)) .done))) false 11 [1, 2, 3, 6, 7],
  .jmp 19,
  .reg (.q (some 92) none (.mov (.tmp 8)) (.q (some 93) none (.bin .add (.tmp 92) (.const (.int .i64 1))) (.q (some 8) none (.mov (.tmp 93)) .done))) false 13 [1, 2, 3, 6, 7, 8],
  .reg (.q (some 106) none (.fadr 1 (.tmp 3)) (.q (some 107) none (.ld1 (.tmp 106)) (.q (some 108) none (.mov (.tmp 7)) (.q (some 109) none (.iadrS 36 (.tmp 107) (.tmp 108)) (.q (some 110) none (.fadr 35 (.tmp 109)) (.q (some 111) none (.ld1 (.tmp 110)) (.q (some 112) none (.mov (.tmp 8)) (.q (some 113) none (.fadr 1 (.tmp 3)) (.q (some 114) none (.ld1 (.tmp 113)) (.q (some 115) none (.mov (.tmp 7)) (.q (some 116) none (.iadrS 36 (.tmp 114) (.tmp 115)) (.q (some 117) none (.fadr 35 (.tmp 116)) (.q (some 118) none (.ld1 (.tmp 117)) (.q (some 119) none (.mov (.tmp 8)) (.q (some 120) none (.iadrS 1 (.tmp 118) (.tmp 119)) (.q (some 121) none (.ld1 (.tmp 120)) (.q (some 122) none (.mov (.tmp 2)) (.q (some 123) none (.slcS 1 (.tmp 121) none (some (.tmp 122))) (.q (some 124) none (.iadrS 1 (.tmp 111) (.tmp 112)) (.l none none (.st1 (.tmp 124) (.tmp 123)) [] .done)))))))))))))))))))) true 14 [1, 2, 3, 6, 7, 8],
  .cnd (.tmp 105) 15 14,
  .reg (.q (some 94) none (.fadr 1 (.tmp 3)) (.q (some 95) none (.ld1 (.tmp 94)) (.q (some 96) none (.mov (.tmp 7)) (.q (some 97) none (.iadrS 36 (.tmp 95) (.tmp 96)) (.q (some 98) none (.fadr 35 (.tmp 97)) (.q (some 99) none (.ld1 (.tmp 98)) (.q (some 100) none (.mov (.tmp 8)) (.q (some 101) none (.iadrS 1 (.tmp 99) (.tmp 100)) (.q (some 102) none (.ld1 (.tmp 101)) (.q (some 103) none (.len (.tmp 102)) (.q (some 104) none (.mov (.tmp 2)) (.q (some 105) none (.bin .gtr (.tmp 103) (.tmp 104)) .done)))))))))))) false 16 [1, 2, 3, 6, 7, 8, 105],
  .cnd (.tmp 91) 17 12,
  .reg (.q (some 83) none (.mov (.tmp 8)) (.q (some 84) none (.fadr 1 (.tmp 3)) (.q (some 85) none (.ld1 (.tmp 84)) (.q (some 86) none (.mov (.tmp 7)) (.q (some 87) none (.iadrS 36 (.tmp 85) (.tmp 86)) (.q (some 88) none (.fadr 35 (.tmp 87)) (.q (some 89) none (.ld1 (.tmp 88)) (.q (some 90) none (.len (.tmp 89)) (.q (some 91) none (.bin .lss (.tmp 83) (.tmp 90)) .done))))))))) false 18 [1, 2, 3, 6, 7, 8, 91],
  .reg (.q (some 8) none (.mov (.const (.int .i64 0))) .done) false 19 [1, 2, 3, 6, 7, 8],
  .reg (.q (some 70) none (.fadr 1 (.tmp 3)) (.q (some 71) none (.ld1 (.tmp 70)) (.q (some 72) none (.mov (.tmp 7)) (.q (some 73) none (.fadr 1 (.tmp 3)) (.q (some 74) none (.ld1 (.tmp 73)) (.q (some 75) none (.mov (.tmp 7)) (.q (some 76) none (.iadrS 36 (.tmp 74) (.tmp 75)) (.q (some 77) none (.fadr 35 (.tmp 76)) (.q (some 78) none (.ld1 (.tmp 77)) (.q (some 79) none (.mov (.tmp 1)) (.q (some 80) none (.slcS 1 (.tmp 78) none (some (.tmp 79))) (.q (some 81) none (.iadrS 36 (.tmp 71) (.tmp 72)) (.q (some 82) none (.fadr 35 (.tmp 81)) (.l none none (.st1 (.tmp 82) (.tmp 80)) [] .done)))))))))))))) true 20 [1, 2, 3, 6, 7],
  .cnd (.tmp 69) 21 20,
  .reg (.q (some 61) none (.fadr 1 (.tmp 3)) (.q (some 62) none (.ld1 (.tmp 61)) (.q (some 63) none (.mov (.tmp 7)) (.q (some 64) none (.iadrS 36 (.tmp 62) (.tmp 63)) (.q (some 65) none (.fadr 35 (.tmp 64)) (.q (some 66) none (.ld1 (.tmp 65)) (.q (some 67) none (.len (.tmp 66)) (.q (some 68) none (.mov (.tmp 1)) (.q (some 69) none (.bin .gtr (.tmp 67) (.tmp 68)) .done))))))))) false 22 [1, 2, 3, 6, 7, 69],
  .reg (.q (some 48) none (.fadr 1 (.tmp 3)) (.q (some 49) none (.ld1 (.tmp 48)) (.q (some 50) none (.mov (.tmp 7)) (.q (some 51) none (.fadr 1 (.tmp 3)) (.q (some 52) none (.ld1 (.tmp 51)) (.q (some 53) none (.mov (.tmp 7)) (.q (some 54) none (.iadrS 36 (.tmp 52) (.tmp 53)) (.q (some 55) none (.fadr 33 (.tmp 54)) (.q (some 56) none (.ld1 (.tmp 55)) (.q (some 57) none (.mov (.tmp 2)) (.q (some 58) none (.slcS 1 (.tmp 56) none (some (.tmp 57))) (.q (some 59) none (.iadrS 36 (.tmp 49) (.tmp 50)) (.q (some 60) none (.fadr 33 (.tmp 59)) (.l none none (.st1 (.tmp 60) (.tmp 58)) [] .done)))))))))))))) true 23 [1, 2, 3, 6, 7],
  .cnd (.tmp 47) 24 23,
  .reg (.q (some 39) none (.fadr 1 (.tmp 3)) (.q (some 40) none (.ld1 (.tmp 39)) (.q (some 41) none (.mov (.tmp 7)) (.q (some 42) none (.iadrS 36 (.tmp 40) (.tmp 41)) (.q (some 43) none (.fadr 33 (.tmp 42)) (.q (some 44) none (.ld1 (.tmp 43)) (.q (some 45) none (.len (.tmp 44)) (.q (some 46) none (.mov (.tmp 2)) (.q (some 47) none (.bin .gtr (.tmp 45) (.tmp 46)) .done))))))))) false 25 [1, 2, 3, 6, 7, 47],
  .cnd (.tmp 36) 26 10,
  .reg (.q (some 32) none (.mov (.tmp 7)) (.q (some 33) none (.fadr 1 (.tmp 3)) (.q (some 34) none (.ld1 (.tmp 33)) (.q (some 35) none (.len (.tmp 34)) (.q (some 36) none (.bin .lss (.tmp 32) (.tmp 35)) .done))))) false 27 [1, 2, 3, 6, 7, 36],
  .reg (.q (some 7) none (.mov (.const (.int .i64 0))) .done) false 28 [1, 2, 3, 6, 7],
  .reg (.q (some 27) none (.fadr 2 (.tmp 3)) (.q (some 28) none (.ld1 (.tmp 27)) (.q (some 29) none (.mov (.tmp 1)) (.q (some 30) none (.slcS 2 (.tmp 28) none (some (.tmp 29))) (.q (some 31) none (.fadr 2 (.tmp 3)) (.l none none (.st1 (.tmp 31) (.tmp 30)) [] .done)))))) false 29 [1, 2, 3, 6],
  .cnd (.tmp 26) 30 29,
  .reg (.q (some 22) none (.fadr 2 (.tmp 3)) (.q (some 23) none (.ld1 (.tmp 22)) (.q (some 24) none (.len (.tmp 23)) (.q (some 25) none (.mov (.tmp 1)) (.q (some 26) none (.bin .gtr (.tmp 24) (.tmp 25)) .done))))) false 31 [1, 2, 3, 6, 26],
  .reg (.q (some 17) none (.fadr 1 (.tmp 3)) (.q (some 18) none (.ld1 (.tmp 17)) (.q (some 19) none (.mov (.tmp 1)) (.q (some 20) none (.slcS 36 (.tmp 18) none (some (.tmp 19))) (.q (some 21) none (.fadr 1 (.tmp 3)) (.l none none (.st1 (.tmp 21) (.tmp 20)) [] .done)))))) false 32 [1, 2, 3, 6],
  .cnd (.tmp 16) 33 32,
  .reg (.q (some 12) none (.fadr 1 (.tmp 3)) (.q (some 13) none (.ld1 (.tmp 12)) (.q (some 14) none (.len (.tmp 13)) (.q (some 15) none (.mov (.tmp 1)) (.q (some 16) none (.bin .gtr (.tmp 14) (.tmp 15)) .done))))) false 34 [1, 2, 3, 6, 16],
  .reg (.q (some 10) none (.ldN 4 (.tmp 3)) (.l (some 11) none (.call 10 [(.tmp 10)]) [] (.l none none (.stN 4 (.tmp 3) (.tmp 11)) [] .done))) false 35 [1, 2, 3, 6],
  .reg (.l (some 3) none (.box 26 (.tmp 0)) [] (.l (some 6) none (.alloc 26 [(1, (.int .i32 0)), (2, (.slice none 0 0)), (1, (.int .u32 0))]) [] .done)) false 36 [1, 2, 3, 6]
  ]
theorem c18_ok : cfgL Try.prog 18 = some (155, 37, c18.map Vc.Node.bare) := by kernel_rfl
/- strongbox/strongboxref01.Copy: entry 3 -/
def c21 : List Vc.Node := [
  .ret [.t 2],
  .ret [.t 2],
  .reg (.l (some 3) none (.bldS 5 1 []) [] (.q (some 4) none (.mov (.tmp 0)) (.l (some 5) none (.app 5 1 1 [(1, (.int .u8 0))] (.tmp 3) (.tmp 4)) [] (.q (some 2) none (.mov (.tmp 5)) .done)))) false 1 [2],
  .reg (.q (some 2) none (.mov (.const (.slice none 0 0))) .done) false 2 [0]
  ]
theorem c21_ok : cfgL Try.prog 21 = some (6, 3, c21.map Vc.Node.bare) := by kernel_rfl
/- strongbox/strongboxref01.Copies: entry 10 -/
def c22 : List Vc.Node := [
  .ret [.t 2],
  .ret [.t 2],
  .reg (.q (some 19) none (.mov (.tmp 3)) (.q (some 2) none (.mov (.tmp 19)) .done)) false 1 [2],
  .jmp 7,
  .reg (.q (some 9) none (.mov (.tmp 4)) (.q (some 10) none (.bin .add (.tmp 9) (.const (.int .i64 1))) (.q (some 4) none (.mov (.tmp 10)) .done))) false 3 [0, 3, 4],
  .reg (.q (some 11) none (.mov (.tmp 3)) (.q (some 12) none (.mov (.tmp 0)) (.q (some 13) none (.mov (.tmp 4)) (.q (some 14) none (.iadrS 1 (.tmp 12) (.tmp 13)) (.q (some 15) none (.ld1 (.tmp 14)) (.l (some 16) none (.call 21 [(.tmp 15)]) [] (.l (some 17) none (.bldS 27 1 [(.tmp 16)]) [] (.l (some 18) none (.app 27 1 24 [(1, (.slice none 0 0))] (.tmp 11) (.tmp 17)) [] (.q (some 3) none (.mov (.tmp 18)) .done))))))))) false 4 [0, 3, 4],
  .cnd (.tmp 8) 5 2,
  .reg (.q (some 5) none (.mov (.tmp 4)) (.q (some 6) none (.mov (.tmp 0)) (.q (some 7) none (.len (.tmp 6)) (.q (some 8) none (.bin .lss (.tmp 5) (.tmp 7)) .done)))) false 6 [0, 3, 4, 8],
  .reg (.q (some 4) none (.mov (.const (.int .i64 0))) .done) false 7 [0, 3, 4],
  .reg (.q (some 3) none (.mov (.const (.slice none 0 0))) .done) false 8 [0, 3],
  .reg (.q (some 2) none (.mov (.const (.slice none 0 0))) .done) false 9 [0]
  ]
theorem c22_ok : cfgL Try.prog 22 = some (20, 10, c22.map Vc.Node.bare) := by kernel_rfl
/- strongbox/sighash.way: entry 3 -/
def c23 : List Vc.Node := [
  .ret [.t 2, .t 3],
  .ret [.t 2, .t 3],
  .reg (.q (some 4) none (.mov (.tmp 0)) (.q (some 5) none (.bin .and (.tmp 4) (.const (.int .u8 31))) (.q (some 6) none (.mov (.tmp 0)) (.q (some 7) none (.bin .and (.tmp 6) (.const (.int .u8 128))) (.q (some 8) none (.bin .neq (.tmp 7) (.const (.int .u8 0))) (.q (some 2) none (.mov (.tmp 5)) (.q (some 3) none (.mov (.tmp 8)) .done))))))) false 1 [2, 3],
  .reg (.q (some 2) none (.mov (.const (.int .u8 0))) (.q (some 3) none (.mov (.const (.bool false))) .done)) false 2 [0]
  ]
theorem c23_ok : cfgL Try.prog 23 = some (9, 3, c23.map Vc.Node.bare) := by kernel_rfl
/- strongbox/sighash.nothing: entry 3 -/
def c24 : List Vc.Node := [
  .ret [.cN 0 32],
  .ret [.cN 0 32],
  .reg (.q (some 1) none (.bld [.x 1 (.const (.int .u8 1)), .z [(31, (.int .u8 0))]]) (.l none none (.stN 32 (.tmp 0) (.tmp 1)) [] .done)) false 1 [0],
  .reg (.l (some 0) none (.alloc 36 [(32, (.int .u8 0))]) [] .done) false 2 [0]
  ]
theorem c24_ok : cfgL Try.prog 24 = some (2, 3, c24.map Vc.Node.bare) := by kernel_rfl
/- strongbox/tx.Clone: entry 26 -/
def c25 : List Vc.Node := [
  .ret [.cN 2 4],
  .ret [.cN 2 4],
  .reg (.q (some 84) none (.ldN 4 (.tmp 1)) (.l none none (.stN 4 (.tmp 2) (.tmp 84)) [] .done)) false 1 [2],
  .jmp 8,
  .reg (.q (some 83) none (.bin .add (.tmp 68) (.const (.int .i64 1))) (.q (some 68) none (.mov (.tmp 83)) .done)) false 3 [1, 2, 67, 68],
  .reg (.q (some 71) none (.fadr 2 (.tmp 1)) (.q (some 72) none (.ld1 (.tmp 71)) (.q (some 73) none (.mov (.tmp 6)) (.q (some 74) none (.fadr 2 (.tmp 1)) (.q (some 75) none (.ld1 (.tmp 74)) (.q (some 76) none (.mov (.tmp 6)) (.q (some 77) none (.iadrS 2 (.tmp 75) (.tmp 76)) (.q (some 78) none (.fadr 1 (.tmp 77)) (.q (some 79) none (.ld1 (.tmp 78)) (.l (some 80) none (.call 50 [(.tmp 79)]) [⟨72, none, (.ld1 (.tmp 71))⟩] (.q (some 81) none (.iadrS 2 (.tmp 72) (.tmp 73)) (.q (some 82) none (.fadr 1 (.tmp 81)) (.l none none (.st1 (.tmp 82) (.tmp 80)) [] .done))))))))))))) true 4 [1, 2, 67, 68],
  .reg (.q (some 70) none (.mov (.tmp 68)) (.q (some 6) none (.mov (.tmp 70)) .done)) false 5 [1, 2, 6, 67, 68],
  .cnd (.tmp 69) 6 2,
  .reg (.q (some 69) none (.bin .lss (.tmp 68) (.tmp 67)) .done) false 7 [1, 2, 67, 68, 69],
  .reg (.q (some 65) none (.fadr 2 (.tmp 1)) (.q (some 66) none (.ld1 (.tmp 65)) (.q (some 67) none (.len (.tmp 66)) (.q (some 68) none (.mov (.const (.int .i64 0))) .done)))) false 8 [1, 2, 67, 68],
  .jmp 23,
  .reg (.q (some 64) none (.bin .add (.tmp 18) (.const (.int .i64 1))) (.q (some 18) none (.mov (.tmp 64)) .done)) false 10 [1, 2, 17, 18],
  .jmp 17,
  .reg (.q (some 63) none (.bin .add (.tmp 46) (.const (.int .i64 1))) (.q (some 46) none (.mov (.tmp 63)) .done)) false 12 [1, 2, 4, 17, 18, 45, 46],
  .reg (.q (some 49) none (.mov (.tmp 4)) (.q (some 50) none (.nc (.tmp 49)) (.q (some 51) none (.fadr 35 (.tmp 50)) (.q (some 52) none (.ld1 (.tmp 51)) (.q (some 53) none (.mov (.tmp 5)) (.q (some 54) none (.mov (.tmp 4)) (.q (some 55) none (.nc (.tmp 54)) (.q (some 56) none (.fadr 35 (.tmp 55)) (.q (some 57) none (.ld1 (.tmp 56)) (.q (some 58) none (.mov (.tmp 5)) (.q (some 59) none (.iadrS 1 (.tmp 57) (.tmp 58)) (.q (some 60) none (.ld1 (.tmp 59)) (.l (some 61) none (.call 50 [(.tmp 60)]) [⟨52, none, (.ld1 (.tmp 51))⟩] (.q (some 62) none (.iadrS 1 (.tmp 52) (.tmp 53)) (.l none none (.st1 (.tmp 62) (.tmp 61)) [] .done))))))))))))))) true 13 [1, 2, 4, 17, 18, 45, 46],
  .reg (.q (some 48) none (.mov (.tmp 46)) (.q (some 5) none (.mov (.tmp 48)) .done)) false 14 [1, 2, 4, 5, 17, 18, 45, 46],
  .cnd (.tmp 47) 15 11,
  .reg (.q (some 47) none (.bin .lss (.tmp 46) (.tmp 45)) .done) false 16 [1, 2, 4, 17, 18, 45, 46, 47],
  .reg (.q (some 41) none (.mov (.tmp 4)) (.q (some 42) none (.nc (.tmp 41)) (.q (some 43) none (.fadr 35 (.tmp 42)) (.q (some 44) none (.ld1 (.tmp 43)) (.q (some 45) none (.len (.tmp 44)) (.q (some 46) none (.mov (.const (.int .i64 0))) .done)))))) false 17 [1, 2, 4, 17, 18, 45, 46],
  .reg (.q (some 25) none (.mov (.tmp 4)) (.q (some 26) none (.mov (.tmp 4)) (.q (some 27) none (.mov (.tmp 4)) (.q (some 28) none (.nc (.tmp 27)) (.q (some 29) none (.fadr 33 (.tmp 28)) (.q (some 30) none (.ld1 (.tmp 29)) (.q (some 32) none (.mov (.tmp 4)) (.q (some 33) none (.nc (.tmp 32)) (.q (some 34) none (.fadr 35 (.tmp 33)) (.q (some 35) none (.ld1 (.tmp 34)) (.l (some 31) none (.call 50 [(.tmp 30)]) [⟨35, none, (.ld1 (.tmp 34))⟩] (.l (some 36) none (.call 51 [(.tmp 35)]) [] (.q (some 37) none (.nc (.tmp 25)) (.q (some 38) none (.fadr 33 (.tmp 37)) (.l none none (.st1 (.tmp 38) (.tmp 31)) [] (.q (some 39) none (.nc (.tmp 26)) (.q (some 40) none (.fadr 35 (.tmp 39)) (.l none none (.st1 (.tmp 40) (.tmp 36)) [] .done)))))))))))))))))) true 18 [1, 2, 4, 17, 18],
  .reg (.q (some 21) none (.fadr 1 (.tmp 1)) (.q (some 22) none (.ld1 (.tmp 21)) (.q (some 23) none (.mov (.tmp 3)) (.q (some 24) none (.iadrS 36 (.tmp 22) (.tmp 23)) (.q (some 4) none (.mov (.tmp 24)) .done))))) false 19 [1, 2, 4, 17, 18],
  .reg (.q (some 20) none (.mov (.tmp 18)) (.q (some 3) none (.mov (.tmp 20)) .done)) false 20 [1, 2, 3, 17, 18],
  .cnd (.tmp 19) 21 9,
  .reg (.q (some 19) none (.bin .lss (.tmp 18) (.tmp 17)) .done) false 22 [1, 2, 17, 18, 19],
  .reg (.q (some 15) none (.fadr 1 (.tmp 1)) (.q (some 16) none (.ld1 (.tmp 15)) (.q (some 17) none (.len (.tmp 16)) (.q (some 18) none (.mov (.const (.int .i64 0))) .done)))) false 23 [1, 2, 17, 18],
  .reg (.q (some 7) none (.fadr 1 (.tmp 1)) (.q (some 8) none (.ld1 (.tmp 7)) (.q (some 10) none (.fadr 2 (.tmp 1)) (.q (some 11) none (.ld1 (.tmp 10)) (.l (some 9) none (.call 48 [(.tmp 8)]) [⟨11, none, (.ld1 (.tmp 10))⟩] (.q (some 13) none (.fadr 1 (.tmp 1)) (.l (some 12) none (.call 49 [(.tmp 11)]) [] (.l none none (.st1 (.tmp 13) (.tmp 9)) [] (.q (some 14) none (.fadr 2 (.tmp 1)) (.l none none (.st1 (.tmp 14) (.tmp 12)) [] .done)))))))))) true 24 [1, 2],
  .reg (.l (some 1) none (.box 26 (.tmp 0)) [] (.l (some 2) none (.alloc 26 [(1, (.int .i32 0)), (2, (.slice none 0 0)), (1, (.int .u32 0))]) [] .done)) false 25 [1, 2]
  ]
theorem c25_ok : cfgL Try.prog 25 = some (85, 26, c25.map Vc.Node.bare) := by kernel_rfl
/- (*strongbox/wire.Writer).Raw: entry 1 -/
def c26 : List Vc.Node := [
  .ret [],
  .reg (.q (some 4) none (.mov (.tmp 0)) (.q (some 5) none (.mov (.tmp 0)) (.q (some 6) none (.nc (.tmp 5)) (.q (some 7) none (.fadr 0 (.tmp 6)) (.q (some 8) none (.ld1 (.tmp 7)) (.q (some 9) none (.mov (.tmp 1)) (.l (some 10) none (.app 5 1 1 [(1, (.int .u8 0))] (.tmp 8) (.tmp 9)) [] (.q (some 11) none (.nc (.tmp 4)) (.q (some 12) none (.fadr 0 (.tmp 11)) (.l none none (.st1 (.tmp 12) (.tmp 10)) [] .done)))))))))) false 0 []
  ]
theorem c26_ok : cfgL Try.prog 26 = some (13, 1, c26.map Vc.Node.bare) := by kernel_rfl
/- strongbox/tx.Encode: entry 46 -/
def c27 : List Vc.Node := [
  .ret [.t 4],
  .ret [.t 4],
  .reg (.l (some 100) none (.call 30 [(.tmp 5)]) [] (.q (some 4) none (.mov (.tmp 100)) .done)) false 1 [4],
  .reg (.q (some 97) none (.fadr 3 (.tmp 2)) (.q (some 98) none (.ld1 (.tmp 97)) (.l (some 99) none (.call 28 [(.tmp 5), (.tmp 98)]) [] .done))) false 2 [5],
  .jmp 16,
  .reg (.q (some 96) none (.bin .add (.tmp 77) (.const (.int .i64 1))) (.q (some 77) none (.mov (.tmp 96)) .done)) false 4 [2, 5, 75, 76, 77],
  .jmp 11,
  .reg (.q (some 95) none (.bin .add (.tmp 89) (.const (.int .i64 1))) (.q (some 89) none (.mov (.tmp 95)) .done)) false 6 [2, 5, 75, 76, 77, 87, 88, 89],
  .reg (.q (some 93) none (.mov (.tmp 13)) (.l (some 94) none (.call 43 [(.tmp 5), (.tmp 93)]) [] .done)) false 7 [2, 5, 75, 76, 77, 87, 88, 89],
  .reg (.q (some 91) none (.iadrS 1 (.tmp 87) (.tmp 89)) (.q (some 92) none (.ld1 (.tmp 91)) (.q (some 13) none (.mov (.tmp 92)) .done))) false 8 [2, 5, 13, 75, 76, 77, 87, 88, 89],
  .cnd (.tmp 90) 9 5,
  .reg (.q (some 90) none (.bin .lss (.tmp 89) (.tmp 88)) .done) false 10 [2, 5, 75, 76, 77, 87, 88, 89, 90],
  .reg (.q (some 86) none (.fadr 35 (.tmp 11)) (.q (some 87) none (.ld1 (.tmp 86)) (.q (some 88) none (.len (.tmp 87)) (.q (some 89) none (.mov (.const (.int .i64 0))) .done)))) false 11 [2, 5, 75, 76, 77, 87, 88, 89],
  .reg (.q (some 81) none (.fadr 35 (.tmp 11)) (.q (some 82) none (.ld1 (.tmp 81)) (.q (some 83) none (.len (.tmp 82)) (.q (some 84) none (.cvi .u64 (.tmp 83)) (.l (some 85) none (.call 53 [(.tmp 5), (.tmp 84)]) [] .done))))) false 12 [2, 5, 11, 75, 76, 77],
  .reg (.q (some 79) none (.iadrS 36 (.tmp 75) (.tmp 77)) (.q (some 80) none (.ldN 36 (.tmp 79)) (.l (some 11) none (.alloc 50 [(32, (.int .u8 0)), (1, (.int .u32 0)), (1, (.slice none 0 0)), (1, (.int .u32 0)), (1, (.slice none 0 0))]) [] (.l none none (.stN 36 (.tmp 11) (.tmp 80)) [] .done)))) false 13 [2, 5, 11, 75, 76, 77],
  .cnd (.tmp 78) 14 3,
  .reg (.q (some 78) none (.bin .lss (.tmp 77) (.tmp 76)) .done) false 15 [2, 5, 75, 76, 77, 78],
  .reg (.q (some 74) none (.fadr 1 (.tmp 2)) (.q (some 75) none (.ld1 (.tmp 74)) (.q (some 76) none (.len (.tmp 75)) (.q (some 77) none (.mov (.const (.int .i64 0))) .done)))) false 16 [2, 5, 75, 76, 77],
  .cnd (.tmp 73) 17 3,
  .reg (.q (some 73) none (.mov (.tmp 1)) .done) false 18 [2, 5, 73],
  .jmp 26,
  .reg (.q (some 72) none (.bin .add (.tmp 61) (.const (.int .i64 1))) (.q (some 61) none (.mov (.tmp 72)) .done)) false 20 [1, 2, 5, 59, 60, 61],
  .reg (.q (some 69) none (.fadr 1 (.tmp 9)) (.q (some 70) none (.ld1 (.tmp 69)) (.l (some 71) none (.call 43 [(.tmp 5), (.tmp 70)]) [] .done))) false 21 [1, 2, 5, 59, 60, 61],
  .reg (.q (some 65) none (.fadr 0 (.tmp 9)) (.q (some 66) none (.ld1 (.tmp 65)) (.q (some 67) none (.cvi .u64 (.tmp 66)) (.l (some 68) none (.call 44 [(.tmp 5), (.tmp 67)]) [] .done)))) false 22 [1, 2, 5, 9, 59, 60, 61],
  .reg (.q (some 63) none (.iadrS 2 (.tmp 59) (.tmp 61)) (.q (some 64) none (.ldN 2 (.tmp 63)) (.l (some 9) none (.alloc 54 [(1, (.int .i64 0)), (1, (.slice none 0 0))]) [] (.l none none (.stN 2 (.tmp 9) (.tmp 64)) [] .done)))) false 23 [1, 2, 5, 9, 59, 60, 61],
  .cnd (.tmp 62) 24 19,
  .reg (.q (some 62) none (.bin .lss (.tmp 61) (.tmp 60)) .done) false 25 [1, 2, 5, 59, 60, 61, 62],
  .reg (.q (some 58) none (.fadr 2 (.tmp 2)) (.q (some 59) none (.ld1 (.tmp 58)) (.q (some 60) none (.len (.tmp 59)) (.q (some 61) none (.mov (.const (.int .i64 0))) .done)))) false 26 [1, 2, 5, 59, 60, 61],
  .reg (.q (some 53) none (.fadr 2 (.tmp 2)) (.q (some 54) none (.ld1 (.tmp 53)) (.q (some 55) none (.len (.tmp 54)) (.q (some 56) none (.cvi .u64 (.tmp 55)) (.l (some 57) none (.call 53 [(.tmp 5), (.tmp 56)]) [] .done))))) false 27 [1, 2, 5],
  .jmp 37,
  .reg (.q (some 52) none (.bin .add (.tmp 34) (.const (.int .i64 1))) (.q (some 34) none (.mov (.tmp 52)) .done)) false 29 [1, 2, 5, 32, 33, 34],
  .reg (.q (some 49) none (.fadr 34 (.tmp 7)) (.q (some 50) none (.ld1 (.tmp 49)) (.l (some 51) none (.call 28 [(.tmp 5), (.tmp 50)]) [] .done))) false 30 [1, 2, 5, 32, 33, 34],
  .reg (.q (some 46) none (.fadr 33 (.tmp 7)) (.q (some 47) none (.ld1 (.tmp 46)) (.l (some 48) none (.call 43 [(.tmp 5), (.tmp 47)]) [] .done))) false 31 [1, 2, 5, 7, 32, 33, 34],
  .reg (.q (some 42) none (.fadr 0 (.tmp 7)) (.q (some 43) none (.fadr 32 (.tmp 42)) (.q (some 44) none (.ld1 (.tmp 43)) (.l (some 45) none (.call 28 [(.tmp 5), (.tmp 44)]) [] .done)))) false 32 [1, 2, 5, 7, 32, 33, 34],
  .reg (.q (some 38) none (.fadr 0 (.tmp 7)) (.q (some 39) none (.fadr 0 (.tmp 38)) (.q (some 40) none (.slcA 32 1 (.tmp 39) none none) (.l (some 41) none (.call 26 [(.tmp 5), (.tmp 40)]) [] .done)))) false 33 [1, 2, 5, 7, 32, 33, 34],
  .reg (.q (some 36) none (.iadrS 36 (.tmp 32) (.tmp 34)) (.q (some 37) none (.ldN 36 (.tmp 36)) (.l (some 7) none (.alloc 50 [(32, (.int .u8 0)), (1, (.int .u32 0)), (1, (.slice none 0 0)), (1, (.int .u32 0)), (1, (.slice none 0 0))]) [] (.l none none (.stN 36 (.tmp 7) (.tmp 37)) [] .done)))) false 34 [1, 2, 5, 7, 32, 33, 34],
  .cnd (.tmp 35) 35 28,
  .reg (.q (some 35) none (.bin .lss (.tmp 34) (.tmp 33)) .done) false 36 [1, 2, 5, 32, 33, 34, 35],
  .reg (.q (some 31) none (.fadr 1 (.tmp 2)) (.q (some 32) none (.ld1 (.tmp 31)) (.q (some 33) none (.len (.tmp 32)) (.q (some 34) none (.mov (.const (.int .i64 0))) .done)))) false 37 [1, 2, 5, 32, 33, 34],
  .reg (.q (some 26) none (.fadr 1 (.tmp 2)) (.q (some 27) none (.ld1 (.tmp 26)) (.q (some 28) none (.len (.tmp 27)) (.q (some 29) none (.cvi .u64 (.tmp 28)) (.l (some 30) none (.call 53 [(.tmp 5), (.tmp 29)]) [] .done))))) false 38 [1, 2, 5],
  .reg (.l (some 24) none (.bldS 5 1 [(.const (.int .u8 0)), (.const (.int .u8 1))]) [] (.l (some 25) none (.call 26 [(.tmp 5), (.tmp 24)]) [] .done)) false 39 [1, 2, 5],
  .cnd (.tmp 23) 40 39,
  .reg (.q (some 23) none (.mov (.tmp 1)) .done) false 41 [1, 2, 5, 23],
  .reg (.q (some 19) none (.fadr 0 (.tmp 2)) (.q (some 20) none (.ld1 (.tmp 19)) (.q (some 21) none (.cvi .u32 (.tmp 20)) (.l (some 22) none (.call 28 [(.tmp 5), (.tmp 21)]) [] .done)))) false 42 [1, 2, 5],
  .reg (.q (some 14) none (.mov (.tmp 1)) (.q (some 15) none (.mov (.tmp 14)) (.q (some 16) (some (15, true)) (.ldN 4 (.tmp 2)) (.l (some 17) (some (15, true)) (.call 52 [(.tmp 16)]) [] (.q (some 18) none (.pick (.tmp 15) (.tmp 17) (.const (.bool false))) (.q (some 1) none (.mov (.tmp 18)) .done)))))) false 43 [1, 2, 5],
  .reg (.l (some 5) none (.alloc 60 [(1, (.slice none 0 0))]) [] .done) false 44 [1, 2, 5],
  .reg (.l (some 2) none (.box 26 (.tmp 0)) [] (.q (some 4) none (.mov (.const (.slice none 0 0))) .done)) false 45 [1, 2]
  ]
theorem c27_ok : cfgL Try.prog 27 = some (101, 46, c27.map Vc.Node.bare) := by kernel_rfl
/- (*strongbox/wire.Writer).U32: entry 1 -/
def c28 : List Vc.Node := [
  .ret [],
  .reg (.q (some 4) none (.mov (.tmp 0)) (.q (some 5) none (.mov (.tmp 1)) (.q (some 6) none (.cvi .u64 (.tmp 5)) (.l (some 7) none (.call 54 [(.tmp 4), (.tmp 6), (.const (.int .i64 4))]) [] .done)))) false 0 []
  ]
theorem c28_ok : cfgL Try.prog 28 = some (8, 1, c28.map Vc.Node.bare) := by kernel_rfl
/- strongbox/hash.Double: entry 5 -/
def c29 : List Vc.Node := [
  .ret [.cN 2 32],
  .ret [.cN 2 32],
  .reg (.l (some 6) none (.call 56 [(.tmp 3)]) [] (.l none none (.stN 32 (.tmp 2) (.tmp 6)) [] .done)) false 1 [2],
  .reg (.q (some 4) none (.mov (.tmp 0)) (.l (some 5) none (.call 55 [(.tmp 3), (.tmp 4)]) [] .done)) false 2 [2, 3],
  .reg (.l (some 3) none (.alloc 86 [(8, (.int .u32 0)), (1, (.slice none 0 0)), (1, (.int .u64 0)), (1, (.bool false))]) [] .done) false 3 [0, 2, 3],
  .reg (.l (some 2) none (.alloc 36 [(32, (.int .u8 0))]) [] .done) false 4 [0, 2]
  ]
theorem c29_ok : cfgL Try.prog 29 = some (7, 5, c29.map Vc.Node.bare) := by kernel_rfl
/- (*strongbox/wire.Writer).Out: entry 3 -/
def c30 : List Vc.Node := [
  .ret [.t 2],
  .ret [.t 2],
  .reg (.q (some 3) none (.mov (.tmp 0)) (.q (some 4) none (.nc (.tmp 3)) (.q (some 5) none (.fadr 0 (.tmp 4)) (.q (some 6) none (.ld1 (.tmp 5)) (.l (some 7) none (.call 50 [(.tmp 6)]) [] (.q (some 2) none (.mov (.tmp 7)) .done)))))) false 1 [2],
  .reg (.q (some 2) none (.mov (.const (.slice none 0 0))) .done) false 2 [0]
  ]
theorem c30_ok : cfgL Try.prog 30 = some (8, 3, c30.map Vc.Node.bare) := by kernel_rfl
/- strongbox/strongboxref12.outs: entry 3 -/
def c31 : List Vc.Node := [
  .ret [.t 2],
  .ret [.t 2],
  .reg (.q (some 3) none (.mov (.tmp 0)) (.q (some 4) none (.bin .rem (.tmp 3) (.const (.int .u8 32))) (.q (some 5) none (.cvi .i64 (.tmp 4)) (.q (some 2) none (.mov (.tmp 5)) .done)))) false 1 [2],
  .reg (.q (some 2) none (.mov (.const (.int .i64 0))) .done) false 2 [0]
  ]
theorem c31_ok : cfgL Try.prog 31 = some (6, 3, c31.map Vc.Node.bare) := by kernel_rfl
/- strongbox/strongboxref02.Double: entry 4 -/
def c32 : List Vc.Node := [
  .ret [.cN 2 32],
  .ret [.cN 2 32],
  .reg (.q (some 6) none (.slcA 32 1 (.tmp 3) none none) (.l (some 7) none (.call 57 [(.tmp 6)]) [] (.l none none (.stN 32 (.tmp 2) (.tmp 7)) [] .done))) false 1 [2],
  .reg (.q (some 4) none (.mov (.tmp 0)) (.l (some 5) none (.call 57 [(.tmp 4)]) [] (.l (some 3) none (.alloc 35 [(32, (.int .u8 0))]) [] (.l none none (.stN 32 (.tmp 3) (.tmp 5)) [] .done)))) false 2 [2, 3],
  .reg (.l (some 2) none (.alloc 35 [(32, (.int .u8 0))]) [] .done) false 3 [0, 2]
  ]
theorem c32_ok : cfgL Try.prog 32 = some (8, 4, c32.map Vc.Node.bare) := by kernel_rfl
/- strongbox/strongboxref09.Encode: entry 22 -/
def c33 : List Vc.Node := [
  .ret [.t 4],
  .ret [.t 4],
  .reg (.q (some 65) none (.mov (.tmp 5)) (.q (some 66) none (.fadr 3 (.tmp 2)) (.q (some 67) none (.ld1 (.tmp 66)) (.q (some 68) none (.cvi .u64 (.tmp 67)) (.l (some 69) none (.call 46 [(.tmp 68), (.const (.int .i64 4))]) [] (.l (some 70) none (.app 5 1 1 [(1, (.int .u8 0))] (.tmp 65) (.tmp 69)) [] (.q (some 4) none (.mov (.tmp 70)) .done))))))) false 1 [4],
  .jmp 14,
  .reg (.q (some 38) none (.mov (.tmp 6)) (.q (some 39) none (.bin .add (.tmp 38) (.const (.int .i64 1))) (.q (some 6) none (.mov (.tmp 39)) .done))) false 3 [1, 2, 5, 6],
  .jmp 9,
  .reg (.q (some 56) none (.mov (.tmp 8)) (.q (some 57) none (.bin .add (.tmp 56) (.const (.int .i64 1))) (.q (some 8) none (.mov (.tmp 57)) .done))) false 5 [1, 2, 5, 6, 7, 8],
  .reg (.q (some 58) none (.mov (.tmp 5)) (.q (some 59) none (.mov (.tmp 7)) (.q (some 60) none (.mov (.tmp 8)) (.q (some 61) none (.iadrS 1 (.tmp 59) (.tmp 60)) (.q (some 62) none (.ld1 (.tmp 61)) (.l (some 63) none (.call 47 [(.tmp 62)]) [] (.l (some 64) none (.app 5 1 1 [(1, (.int .u8 0))] (.tmp 58) (.tmp 63)) [] (.q (some 5) none (.mov (.tmp 64)) .done)))))))) false 6 [1, 2, 5, 6, 7, 8],
  .cnd (.tmp 55) 7 4,
  .reg (.q (some 52) none (.mov (.tmp 8)) (.q (some 53) none (.mov (.tmp 7)) (.q (some 54) none (.len (.tmp 53)) (.q (some 55) none (.bin .lss (.tmp 52) (.tmp 54)) .done)))) false 8 [1, 2, 5, 6, 7, 8, 55],
  .reg (.q (some 8) none (.mov (.const (.int .i64 0))) .done) false 9 [1, 2, 5, 6, 7, 8],
  .reg (.q (some 46) none (.mov (.tmp 5)) (.q (some 47) none (.mov (.tmp 7)) (.q (some 48) none (.len (.tmp 47)) (.q (some 49) none (.cvi .u64 (.tmp 48)) (.l (some 50) none (.call 61 [(.tmp 49)]) [] (.l (some 51) none (.app 5 1 1 [(1, (.int .u8 0))] (.tmp 46) (.tmp 50)) [] (.q (some 5) none (.mov (.tmp 51)) .done))))))) false 10 [1, 2, 5, 6, 7],
  .reg (.q (some 40) none (.fadr 1 (.tmp 2)) (.q (some 41) none (.ld1 (.tmp 40)) (.q (some 42) none (.mov (.tmp 6)) (.q (some 43) none (.iadrS 36 (.tmp 41) (.tmp 42)) (.q (some 44) none (.fadr 35 (.tmp 43)) (.q (some 45) none (.ld1 (.tmp 44)) (.q (some 7) none (.mov (.tmp 45)) .done))))))) false 11 [1, 2, 5, 6, 7],
  .cnd (.tmp 37) 12 2,
  .reg (.q (some 30) none (.mov (.tmp 6)) (.q (some 31) none (.fadr 1 (.tmp 2)) (.q (some 32) none (.ld1 (.tmp 31)) (.q (some 33) none (.len (.tmp 32)) (.q (some 34) none (.bin .lss (.tmp 30) (.tmp 33)) (.q (some 35) none (.mov (.tmp 34)) (.q (some 36) (some (35, true)) (.mov (.tmp 1)) (.q (some 37) none (.pick (.tmp 35) (.tmp 36) (.const (.bool false))) .done)))))))) false 13 [1, 2, 5, 6, 37],
  .reg (.q (some 6) none (.mov (.const (.int .i64 0))) .done) false 14 [1, 2, 5, 6],
  .reg (.q (some 23) none (.mov (.tmp 5)) (.q (some 24) none (.ldN 4 (.tmp 2)) (.q (some 27) none (.ldN 4 (.tmp 2)) (.l (some 25) none (.call 59 [(.tmp 24)]) [⟨27, none, (.ldN 4 (.tmp 2))⟩] (.l (some 26) none (.app 5 1 1 [(1, (.int .u8 0))] (.tmp 23) (.tmp 25)) [⟨27, none, (.ldN 4 (.tmp 2))⟩] (.l (some 28) none (.call 60 [(.tmp 27)]) [] (.l (some 29) none (.app 5 1 1 [(1, (.int .u8 0))] (.tmp 26) (.tmp 28)) [] (.q (some 5) none (.mov (.tmp 29)) .done)))))))) true 15 [1, 2, 5],
  .reg (.q (some 20) none (.mov (.tmp 5)) (.l (some 21) none (.bldS 5 1 [(.const (.int .u8 0)), (.const (.int .u8 1))]) [] (.l (some 22) none (.app 5 1 1 [(1, (.int .u8 0))] (.tmp 20) (.tmp 21)) [] (.q (some 5) none (.mov (.tmp 22)) .done)))) false 16 [1, 2, 5],
  .cnd (.tmp 19) 17 16,
  .reg (.q (some 19) none (.mov (.tmp 1)) .done) false 18 [1, 2, 5, 19],
  .reg (.q (some 14) none (.mov (.tmp 1)) (.q (some 15) none (.mov (.tmp 14)) (.q (some 16) (some (15, true)) (.ldN 4 (.tmp 2)) (.l (some 17) (some (15, true)) (.call 58 [(.tmp 16)]) [] (.q (some 18) none (.pick (.tmp 15) (.tmp 17) (.const (.bool false))) (.q (some 1) none (.mov (.tmp 18)) .done)))))) false 19 [1, 2, 5],
  .reg (.q (some 9) none (.fadr 0 (.tmp 2)) (.q (some 10) none (.ld1 (.tmp 9)) (.q (some 11) none (.cvi .u32 (.tmp 10)) (.q (some 12) none (.cvi .u64 (.tmp 11)) (.l (some 13) none (.call 46 [(.tmp 12), (.const (.int .i64 4))]) [] (.q (some 5) none (.mov (.tmp 13)) .done)))))) false 20 [1, 2, 5],
  .reg (.l (some 2) none (.box 26 (.tmp 0)) [] (.q (some 4) none (.mov (.const (.slice none 0 0))) .done)) false 21 [1, 2]
  ]
theorem c33_ok : cfgL Try.prog 33 = some (71, 22, c33.map Vc.Node.bare) := by kernel_rfl
/- strongbox/strongboxref01.Equal: entry 3 -/
def c34 : List Vc.Node := [
  .ret [.t 4],
  .ret [.t 4],
  .reg (.q (some 5) none (.mov (.tmp 0)) (.q (some 6) none (.b2s (.tmp 5)) (.q (some 7) none (.mov (.tmp 1)) (.q (some 8) none (.b2s (.tmp 7)) (.q (some 9) none (.bin .eql (.tmp 6) (.tmp 8)) (.q (some 4) none (.mov (.tmp 9)) .done)))))) false 1 [4],
  .reg (.q (some 4) none (.mov (.const (.bool false))) .done) false 2 [0, 1]
  ]
theorem c34_ok : cfgL Try.prog 34 = some (10, 3, c34.map Vc.Node.bare) := by kernel_rfl
/- strongbox/strongboxref01.Same: entry 16 -/
def c35 : List Vc.Node := [
  .ret [.t 4],
  .ret [.t 4],
  .reg (.q (some 4) none (.mov (.const (.bool true))) .done) false 1 [4],
  .jmp 10,
  .reg (.q (some 15) none (.mov (.tmp 5)) (.q (some 16) none (.bin .add (.tmp 15) (.const (.int .i64 1))) (.q (some 5) none (.mov (.tmp 16)) .done))) false 3 [0, 1, 5],
  .ret [.t 4],
  .reg (.q (some 4) none (.mov (.const (.bool false))) .done) false 5 [4],
  .cnd (.tmp 26) 6 4,
  .reg (.q (some 17) none (.mov (.tmp 0)) (.q (some 18) none (.mov (.tmp 5)) (.q (some 19) none (.iadrS 1 (.tmp 17) (.tmp 18)) (.q (some 20) none (.ld1 (.tmp 19)) (.q (some 21) none (.mov (.tmp 1)) (.q (some 22) none (.mov (.tmp 5)) (.q (some 23) none (.iadrS 1 (.tmp 21) (.tmp 22)) (.q (some 24) none (.ld1 (.tmp 23)) (.l (some 25) none (.call 34 [(.tmp 20), (.tmp 24)]) [] (.q (some 26) none (.not (.tmp 25)) .done)))))))))) true 7 [0, 1, 5, 26],
  .cnd (.tmp 14) 8 2,
  .reg (.q (some 11) none (.mov (.tmp 5)) (.q (some 12) none (.mov (.tmp 0)) (.q (some 13) none (.len (.tmp 12)) (.q (some 14) none (.bin .lss (.tmp 11) (.tmp 13)) .done)))) false 9 [0, 1, 5, 14],
  .reg (.q (some 5) none (.mov (.const (.int .i64 0))) .done) false 10 [0, 1, 5],
  .ret [.t 4],
  .reg (.q (some 4) none (.mov (.const (.bool false))) .done) false 12 [4],
  .cnd (.tmp 10) 13 11,
  .reg (.q (some 6) none (.mov (.tmp 0)) (.q (some 7) none (.len (.tmp 6)) (.q (some 8) none (.mov (.tmp 1)) (.q (some 9) none (.len (.tmp 8)) (.q (some 10) none (.bin .neq (.tmp 7) (.tmp 9)) .done))))) false 14 [0, 1, 10],
  .reg (.q (some 4) none (.mov (.const (.bool false))) .done) false 15 [0, 1]
  ]
theorem c35_ok : cfgL Try.prog 35 = some (27, 16, c35.map Vc.Node.bare) := by kernel_rfl
/- (*strongbox/wire.Writer).Bytes: entry 2 -/
def c43 : List Vc.Node := [
  .ret [],
  .reg (.q (some 9) none (.mov (.tmp 0)) (.q (some 10) none (.mov (.tmp 1)) (.l (some 11) none (.call 26 [(.tmp 9), (.tmp 10)]) [] .done))) false 0 [],
  .reg (.q (some 4) none (.mov (.tmp 0)) (.q (some 5) none (.mov (.tmp 1)) (.q (some 6) none (.len (.tmp 5)) (.q (some 7) none (.cvi .u64 (.tmp 6)) (.l (some 8) none (.call 53 [(.tmp 4), (.tmp 7)]) [] .done))))) false 1 [0, 1]
  ]
theorem c43_ok : cfgL Try.prog 43 = some (12, 2, c43.map Vc.Node.bare) := by kernel_rfl
/- (*strongbox/wire.Writer).U64: entry 1 -/
def c44 : List Vc.Node := [
  .ret [],
  .reg (.q (some 4) none (.mov (.tmp 0)) (.q (some 5) none (.mov (.tmp 1)) (.l (some 6) none (.call 54 [(.tmp 4), (.tmp 5), (.const (.int .i64 8))]) [] .done))) false 0 []
  ]
theorem c44_ok : cfgL Try.prog 44 = some (7, 1, c44.map Vc.Node.bare) := by kernel_rfl
/- strongbox/strongboxref01.Low: entry 11 -/
def c46 : List Vc.Node := [
  .ret [.t 4],
  .ret [.t 4],
  .reg (.q (some 20) none (.mov (.tmp 5)) (.q (some 4) none (.mov (.tmp 20)) .done)) false 1 [4],
  .jmp 8,
  .reg (.q (some 10) none (.mov (.tmp 6)) (.q (some 11) none (.bin .add (.tmp 10) (.const (.int .i64 1))) (.q (some 6) none (.mov (.tmp 11)) .done))) false 3 [0, 1, 5, 6],
  .reg (.q (some 18) none (.mov (.tmp 0)) (.q (some 19) none (.bin .quo (.tmp 18) (.const (.int .u64 256))) (.q (some 0) none (.mov (.tmp 19)) .done))) false 4 [0, 1, 5, 6],
  .reg (.q (some 12) none (.mov (.tmp 5)) (.q (some 13) none (.mov (.tmp 0)) (.q (some 14) none (.bin .rem (.tmp 13) (.const (.int .u64 256))) (.q (some 15) none (.cvi .u8 (.tmp 14)) (.l (some 16) none (.bldS 5 1 [(.tmp 15)]) [] (.l (some 17) none (.app 5 1 1 [(1, (.int .u8 0))] (.tmp 12) (.tmp 16)) [] (.q (some 5) none (.mov (.tmp 17)) .done))))))) false 5 [0, 1, 5, 6],
  .cnd (.tmp 9) 6 2,
  .reg (.q (some 7) none (.mov (.tmp 6)) (.q (some 8) none (.mov (.tmp 1)) (.q (some 9) none (.bin .lss (.tmp 7) (.tmp 8)) .done))) false 7 [0, 1, 5, 6, 9],
  .reg (.q (some 6) none (.mov (.const (.int .i64 0))) .done) false 8 [0, 1, 5, 6],
  .reg (.q (some 5) none (.mov (.const (.slice none 0 0))) .done) false 9 [0, 1, 5],
  .reg (.q (some 4) none (.mov (.const (.slice none 0 0))) .done) false 10 [0, 1]
  ]
theorem c46_ok : cfgL Try.prog 46 = some (21, 11, c46.map Vc.Node.bare) := by kernel_rfl
/- strongbox/strongboxref01.Text: entry 3 -/
def c47 : List Vc.Node := [
  .ret [.t 2],
  .ret [.t 2],
  .reg (.q (some 3) none (.mov (.tmp 0)) (.q (some 4) none (.len (.tmp 3)) (.q (some 5) none (.cvi .u64 (.tmp 4)) (.l (some 6) none (.call 61 [(.tmp 5)]) [] (.q (some 7) none (.mov (.tmp 0)) (.l (some 8) none (.app 5 1 1 [(1, (.int .u8 0))] (.tmp 6) (.tmp 7)) [] (.q (some 2) none (.mov (.tmp 8)) .done))))))) false 1 [2],
  .reg (.q (some 2) none (.mov (.const (.slice none 0 0))) .done) false 2 [0]
  ]
theorem c47_ok : cfgL Try.prog 47 = some (9, 3, c47.map Vc.Node.bare) := by kernel_rfl
/- slices.Clone[[]strongbox/api.TxIn,strongbox/api.TxIn]: entry 7 -/
def c48 : List Vc.Node := [
  .ret [.t 2],
  .ret [.t 2],
  .reg (.l (some 5) none (.bldS 50 36 []) [] (.q (some 6) none (.mov (.tmp 0)) (.l (some 7) none (.app 50 36 96 [(32, (.int .u8 0)), (1, (.int .u32 0)), (1, (.slice none 0 0)), (1, (.int .u32 0)), (1, (.slice none 0 0))] (.tmp 5) (.tmp 6)) [] (.q (some 2) none (.mov (.tmp 7)) .done)))) false 1 [2],
  .ret [.t 2],
  .reg (.q (some 2) none (.mov (.const (.slice none 0 0))) .done) false 3 [2],
  .cnd (.tmp 4) 4 2,
  .reg (.q (some 3) none (.mov (.tmp 0)) (.q (some 4) none (.eqS false (.tmp 3) (.const (.slice none 0 0))) .done)) false 5 [0, 4],
  .reg (.q (some 2) none (.mov (.const (.slice none 0 0))) .done) false 6 [0]
  ]
theorem c48_ok : cfgL Try.prog 48 = some (8, 7, c48.map Vc.Node.bare) := by kernel_rfl
/- slices.Clone[[]strongbox/api.TxOut,strongbox/api.TxOut]: entry 7 -/
def c49 : List Vc.Node := [
  .ret [.t 2],
  .ret [.t 2],
  .reg (.l (some 5) none (.bldS 54 2 []) [] (.q (some 6) none (.mov (.tmp 0)) (.l (some 7) none (.app 54 2 32 [(1, (.int .i64 0)), (1, (.slice none 0 0))] (.tmp 5) (.tmp 6)) [] (.q (some 2) none (.mov (.tmp 7)) .done)))) false 1 [2],
  .ret [.t 2],
  .reg (.q (some 2) none (.mov (.const (.slice none 0 0))) .done) false 3 [2],
  .cnd (.tmp 4) 4 2,
  .reg (.q (some 3) none (.mov (.tmp 0)) (.q (some 4) none (.eqS false (.tmp 3) (.const (.slice none 0 0))) .done)) false 5 [0, 4],
  .reg (.q (some 2) none (.mov (.const (.slice none 0 0))) .done) false 6 [0]
  ]
theorem c49_ok : cfgL Try.prog 49 = some (8, 7, c49.map Vc.Node.bare) := by kernel_rfl
/- bytes.Clone: entry 7 -/
def c50 : List Vc.Node := [
  .ret [.t 2],
  .ret [.t 2],
  .reg (.l (some 5) none (.bldS 5 1 []) [] (.q (some 6) none (.mov (.tmp 0)) (.l (some 7) none (.app 5 1 1 [(1, (.int .u8 0))] (.tmp 5) (.tmp 6)) [] (.q (some 2) none (.mov (.tmp 7)) .done)))) false 1 [2],
  .ret [.t 2],
  .reg (.q (some 2) none (.mov (.const (.slice none 0 0))) .done) false 3 [2],
  .cnd (.tmp 4) 4 2,
  .reg (.q (some 3) none (.mov (.tmp 0)) (.q (some 4) none (.eqS false (.tmp 3) (.const (.slice none 0 0))) .done)) false 5 [0, 4],
  .reg (.q (some 2) none (.mov (.const (.slice none 0 0))) .done) false 6 [0]
  ]
theorem c50_ok : cfgL Try.prog 50 = some (8, 7, c50.map Vc.Node.bare) := by kernel_rfl
/- slices.Clone[[][]byte,[]byte]: entry 7 -/
def c51 : List Vc.Node := [
  .ret [.t 2],
  .ret [.t 2],
  .reg (.l (some 5) none (.bldS 27 1 []) [] (.q (some 6) none (.mov (.tmp 0)) (.l (some 7) none (.app 27 1 24 [(1, (.slice none 0 0))] (.tmp 5) (.tmp 6)) [] (.q (some 2) none (.mov (.tmp 7)) .done)))) false 1 [2],
  .ret [.t 2],
  .reg (.q (some 2) none (.mov (.const (.slice none 0 0))) .done) false 3 [2],
  .cnd (.tmp 4) 4 2,
  .reg (.q (some 3) none (.mov (.tmp 0)) (.q (some 4) none (.eqS false (.tmp 3) (.const (.slice none 0 0))) .done)) false 5 [0, 4],
  .reg (.q (some 2) none (.mov (.const (.slice none 0 0))) .done) false 6 [0]
  ]
theorem c51_ok : cfgL Try.prog 51 = some (8, 7, c51.map Vc.Node.bare) := by kernel_rfl
/- (*strongbox/wire.Writer).Size: entry 7 -/
def c53 : List Vc.Node := [
  .ret [],
  .reg (.q (some 20) none (.mov (.tmp 0)) (.q (some 21) none (.mov (.tmp 1)) (.q (some 22) none (.cvi .u8 (.tmp 21)) (.l (some 23) none (.call 65 [(.tmp 20), (.tmp 22)]) [] .done)))) false 0 [],
  .reg (.q (some 14) none (.mov (.tmp 0)) (.q (some 15) none (.mov (.tmp 1)) (.q (some 16) none (.mov (.tmp 4)) (.l (some 17) none (.call 54 [(.tmp 14), (.tmp 15), (.tmp 16)]) [] .done)))) false 0 [],
  .reg (.q (some 8) none (.mov (.tmp 0)) (.l (some 9) none .mkM [] (.l none none (.mapU [(1, .i .i64)] false (.tmp 9) (.const (.int .i64 2)) (.const (.int .u8 253))) [] (.l none none (.mapU [(1, .i .i64)] false (.tmp 9) (.const (.int .i64 4)) (.const (.int .u8 254))) [] (.l none none (.mapU [(1, .i .i64)] false (.tmp 9) (.const (.int .i64 8)) (.const (.int .u8 255))) [] (.q (some 10) none (.mov (.tmp 9)) (.q (some 11) none (.mov (.tmp 4)) (.q (some 12) none (.lkp [(1, .i .i64)] false false [(1, (.int .u8 0))] false (.tmp 10) (.tmp 11)) (.l (some 13) none (.call 65 [(.tmp 8), (.tmp 12)]) [] .done))))))))) false 2 [0, 1, 4],
  .cnd (.tmp 18) 1 3,
  .reg (.q (some 19) none (.bin .eql (.tmp 7) (.const (.int .i64 0))) (.q (some 18) none (.mov (.tmp 19)) .done)) false 4 [0, 1, 4, 18],
  .reg (.q (some 7) none (.mov (.tmp 4)) .done) false 5 [0, 1, 4, 7],
  .reg (.q (some 5) none (.mov (.tmp 1)) (.l (some 6) none (.call 64 [(.tmp 5)]) [] (.q (some 4) none (.mov (.tmp 6)) .done))) false 6 [0, 1, 4]
  ]
theorem c53_ok : cfgL Try.prog 53 = some (24, 7, c53.map Vc.Node.bare) := by kernel_rfl
/- (*strongbox/wire.Writer).number: entry 7 -/
def c54 : List Vc.Node := [
  .ret [],
  .jmp 6,
  .reg (.q (some 22) none (.bin .add (.tmp 7) (.const (.int .i64 1))) (.q (some 7) none (.mov (.tmp 22)) .done)) false 1 [0, 1, 6, 7],
  .reg (.q (some 20) none (.mov (.tmp 1)) (.q (some 21) none (.bin .shr (.tmp 20) (.const (.int .u64 8))) (.q (some 1) none (.mov (.tmp 21)) .done))) false 2 [0, 1, 6, 7],
  .reg (.q (some 9) none (.mov (.tmp 0)) (.q (some 10) none (.mov (.tmp 0)) (.q (some 11) none (.nc (.tmp 10)) (.q (some 12) none (.fadr 0 (.tmp 11)) (.q (some 13) none (.ld1 (.tmp 12)) (.q (some 14) none (.mov (.tmp 1)) (.q (some 15) none (.cvi .u8 (.tmp 14)) (.l (some 16) none (.bldS 5 1 [(.tmp 15)]) [] (.l (some 17) none (.app 5 1 1 [(1, (.int .u8 0))] (.tmp 13) (.tmp 16)) [] (.q (some 18) none (.nc (.tmp 9)) (.q (some 19) none (.fadr 0 (.tmp 18)) (.l none none (.st1 (.tmp 19) (.tmp 17)) [] .done)))))))))))) false 3 [0, 1, 6, 7],
  .cnd (.tmp 8) 4 0,
  .reg (.q (some 8) none (.bin .lss (.tmp 7) (.tmp 6)) .done) false 5 [0, 1, 6, 7, 8],
  .reg (.q (some 6) none (.mov (.tmp 2)) (.q (some 7) none (.mov (.const (.int .i64 0))) .done)) false 6 [0, 1, 6, 7]
  ]
theorem c54_ok : cfgL Try.prog 54 = some (23, 7, c54.map Vc.Node.bare) := by kernel_rfl
/- (*strongbox/hash.Sum).Add: entry 11 -/
def c55 : List Vc.Node := [
  .ret [],
  .jmp 5,
  .reg (.q (some 52) none (.mov (.tmp 0)) (.q (some 53) none (.mov (.tmp 0)) (.q (some 54) none (.nc (.tmp 53)) (.q (some 55) none (.fadr 8 (.tmp 54)) (.q (some 56) none (.ld1 (.tmp 55)) (.q (some 57) none (.slcS 1 (.tmp 56) (some (.const (.int .i64 64))) none) (.q (some 58) none (.nc (.tmp 52)) (.q (some 59) none (.fadr 8 (.tmp 58)) (.l none none (.st1 (.tmp 59) (.tmp 57)) [] .done))))))))) false 1 [0, 4],
  .reg (.q (some 43) none (.mov (.tmp 0)) (.q (some 44) none (.nc (.tmp 43)) (.q (some 45) none (.fadr 0 (.tmp 44)) (.q (some 46) none (.mov (.tmp 0)) (.q (some 47) none (.nc (.tmp 46)) (.q (some 48) none (.fadr 8 (.tmp 47)) (.q (some 49) none (.ld1 (.tmp 48)) (.q (some 50) none (.slcS 1 (.tmp 49) none (some (.const (.int .i64 64)))) (.l (some 51) none (.call 68 [(.tmp 45), (.tmp 4), (.tmp 50)]) [] .done))))))))) true 2 [0, 4],
  .cnd (.tmp 42) 3 0,
  .reg (.q (some 37) none (.mov (.tmp 0)) (.q (some 38) none (.nc (.tmp 37)) (.q (some 39) none (.fadr 8 (.tmp 38)) (.q (some 40) none (.ld1 (.tmp 39)) (.q (some 41) none (.len (.tmp 40)) (.q (some 42) none (.bin .geq (.tmp 41) (.const (.int .i64 64))) .done)))))) false 4 [0, 4, 42],
  .reg (.l (some 36) none (.call 67 []) [] (.l (some 4) none (.alloc 97 [(64, (.int .u32 0))]) [] (.l none none (.stN 64 (.tmp 4) (.tmp 36)) [] .done))) false 5 [0, 4],
  .reg (.q (some 27) none (.mov (.tmp 0)) (.q (some 28) none (.mov (.tmp 0)) (.q (some 29) none (.nc (.tmp 28)) (.q (some 30) none (.fadr 8 (.tmp 29)) (.q (some 31) none (.ld1 (.tmp 30)) (.q (some 32) none (.mov (.tmp 1)) (.l (some 33) none (.app 5 1 1 [(1, (.int .u8 0))] (.tmp 31) (.tmp 32)) [] (.q (some 34) none (.nc (.tmp 27)) (.q (some 35) none (.fadr 8 (.tmp 34)) (.l none none (.st1 (.tmp 35) (.tmp 33)) [] .done)))))))))) false 6 [0],
  .reg (.q (some 17) none (.mov (.tmp 0)) (.q (some 18) none (.nc (.tmp 17)) (.q (some 19) none (.fadr 9 (.tmp 18)) (.q (some 20) none (.ld1 (.tmp 19)) (.q (some 21) none (.mov (.tmp 1)) (.q (some 22) none (.len (.tmp 21)) (.q (some 23) none (.cvi .u64 (.tmp 22)) (.q (some 24) none (.bin .add (.tmp 20) (.tmp 23)) (.q (some 25) none (.nc (.tmp 17)) (.q (some 26) none (.fadr 9 (.tmp 25)) (.l none none (.st1 (.tmp 26) (.tmp 24)) [] .done))))))))))) false 7 [0, 1],
  .reg (.q (some 10) none (.mov (.tmp 0)) (.q (some 11) none (.mov (.tmp 0)) (.l (some 12) none (.call 66 []) [] (.q (some 13) none (.nc (.tmp 10)) (.q (some 14) none (.fadr 0 (.tmp 13)) (.l none none (.stN 8 (.tmp 14) (.tmp 12)) [] (.q (some 15) none (.nc (.tmp 11)) (.q (some 16) none (.fadr 10 (.tmp 15)) (.l none none (.st1 (.tmp 16) (.const (.bool true))) [] .done))))))))) false 8 [0, 1],
  .cnd (.tmp 9) 9 8,
  .reg (.q (some 5) none (.mov (.tmp 0)) (.q (some 6) none (.nc (.tmp 5)) (.q (some 7) none (.fadr 10 (.tmp 6)) (.q (some 8) none (.ld1 (.tmp 7)) (.q (some 9) none (.not (.tmp 8)) .done))))) false 10 [0, 1, 9]
  ]
theorem c55_ok : cfgL Try.prog 55 = some (60, 11, c55.map Vc.Node.bare) := by kernel_rfl
/- (*strongbox/hash.Sum).Twice: entry 4 -/
def c56 : List Vc.Node := [
  .ret [.cN 2 32],
  .ret [.cN 2 32],
  .reg (.q (some 6) none (.slcA 32 1 (.tmp 3) none none) (.l (some 7) none (.call 70 [(.tmp 6)]) [] (.l none none (.stN 32 (.tmp 2) (.tmp 7)) [] .done))) false 1 [2],
  .reg (.q (some 4) none (.mov (.tmp 0)) (.l (some 5) none (.call 69 [(.tmp 4)]) [] (.l (some 3) none (.alloc 36 [(32, (.int .u8 0))]) [] (.l none none (.stN 32 (.tmp 3) (.tmp 5)) [] .done)))) false 2 [2, 3],
  .reg (.l (some 2) none (.alloc 36 [(32, (.int .u8 0))]) [] .done) false 3 [0, 2]
  ]
theorem c56_ok : cfgL Try.prog 56 = some (8, 4, c56.map Vc.Node.bare) := by kernel_rfl
/- strongbox/strongboxref02.Sum256: entry 53 -/
def c57 : List Vc.Node := [
  .ret [.cN 2 32],
  .ret [.cN 2 32],
  .reg (.q (some 227) none (.ldN 32 (.tmp 18)) (.l none none (.stN 32 (.tmp 2) (.tmp 227)) [] .done)) false 1 [2],
  .jmp 7,
  .reg (.q (some 212) none (.mov (.tmp 19)) (.q (some 213) none (.bin .add (.tmp 212) (.const (.int .i64 1))) (.q (some 19) none (.mov (.tmp 213)) .done))) false 3 [2, 4, 18, 19],
  .reg (.q (some 214) none (.mov (.tmp 19)) (.q (some 215) none (.mov (.tmp 19)) (.q (some 216) none (.bin .quo (.tmp 215) (.const (.int .i64 4))) (.q (some 217) none (.iadrA 8 1 (.tmp 4) (.tmp 216)) (.q (some 218) none (.ld1 (.tmp 217)) (.q (some 219) none (.mov (.tmp 19)) (.q (some 220) none (.bin .rem (.tmp 219) (.const (.int .i64 4))) (.q (some 221) none (.bin .mul (.const (.int .i64 8)) (.tmp 220)) (.q (some 222) none (.bin .sub (.const (.int .i64 24)) (.tmp 221)) (.q (some 223) none (.cvi .u64 (.tmp 222)) (.q (some 224) none (.bin .shr (.tmp 218) (.tmp 223)) (.q (some 225) none (.cvi .u8 (.tmp 224)) (.q (some 226) none (.iadrA 32 1 (.tmp 18) (.tmp 214)) (.l none none (.st1 (.tmp 226) (.tmp 225)) [] .done)))))))))))))) false 4 [2, 4, 18, 19],
  .cnd (.tmp 211) 5 2,
  .reg (.q (some 210) none (.mov (.tmp 19)) (.q (some 211) none (.bin .lss (.tmp 210) (.const (.int .i64 32))) .done)) false 6 [2, 4, 18, 19, 211],
  .reg (.q (some 19) none (.mov (.const (.int .i64 0))) .done) false 7 [2, 4, 18, 19],
  .reg (.l (some 18) none (.alloc 35 [(32, (.int .u8 0))]) [] .done) false 8 [2, 4, 18],
  .jmp 48,
  .reg (.q (some 28) none (.mov (.tmp 6)) (.q (some 29) none (.bin .add (.tmp 28) (.const (.int .i64 64))) (.q (some 6) none (.mov (.tmp 29)) .done))) false 10 [2, 3, 4, 5, 6],
  .jmp 16,
  .reg (.q (some 199) none (.mov (.tmp 17)) (.q (some 200) none (.bin .add (.tmp 199) (.const (.int .i64 1))) (.q (some 17) none (.mov (.tmp 200)) .done))) false 12 [2, 3, 4, 5, 6, 13, 17],
  .reg (.q (some 201) none (.mov (.tmp 17)) (.q (some 202) none (.mov (.tmp 17)) (.q (some 203) none (.iadrA 8 1 (.tmp 4) (.tmp 202)) (.q (some 204) none (.ld1 (.tmp 203)) (.q (some 205) none (.mov (.tmp 17)) (.q (some 206) none (.iadrA 8 1 (.tmp 13) (.tmp 205)) (.q (some 207) none (.ld1 (.tmp 206)) (.q (some 208) none (.bin .add (.tmp 204) (.tmp 207)) (.q (some 209) none (.iadrA 8 1 (.tmp 4) (.tmp 201)) (.l none none (.st1 (.tmp 209) (.tmp 208)) [] .done)))))))))) true 13 [2, 3, 4, 5, 6, 13, 17],
  .cnd (.tmp 198) 14 11,
  .reg (.q (some 197) none (.mov (.tmp 17)) (.q (some 198) none (.bin .lss (.tmp 197) (.const (.int .i64 8))) .done)) false 15 [2, 3, 4, 5, 6, 13, 17, 198],
  .reg (.q (some 17) none (.mov (.const (.int .i64 0))) .done) false 16 [2, 3, 4, 5, 6, 13, 17],
  .jmp 24,
  .reg (.q (some 111) none (.mov (.tmp 14)) (.q (some 112) none (.bin .add (.tmp 111) (.const (.int .i64 1))) (.q (some 14) none (.mov (.tmp 112)) .done))) false 18 [2, 3, 4, 5, 6, 7, 13, 14],
  .reg (.q (some 177) none (.mov (.tmp 15)) (.q (some 178) none (.mov (.tmp 16)) (.q (some 179) none (.bin .add (.tmp 177) (.tmp 178)) (.q (some 180) none (.iadrA 8 1 (.tmp 13) (.const (.int .i64 0))) (.q (some 181) none (.ld1 (.tmp 180)) (.q (some 182) none (.iadrA 8 1 (.tmp 13) (.const (.int .i64 1))) (.q (some 183) none (.ld1 (.tmp 182)) (.q (some 184) none (.iadrA 8 1 (.tmp 13) (.const (.int .i64 2))) (.q (some 185) none (.ld1 (.tmp 184)) (.q (some 186) none (.iadrA 8 1 (.tmp 13) (.const (.int .i64 3))) (.q (some 187) none (.ld1 (.tmp 186)) (.q (some 188) none (.mov (.tmp 15)) (.q (some 189) none (.bin .add (.tmp 187) (.tmp 188)) (.q (some 190) none (.iadrA 8 1 (.tmp 13) (.const (.int .i64 4))) (.q (some 191) none (.ld1 (.tmp 190)) (.q (some 192) none (.iadrA 8 1 (.tmp 13) (.const (.int .i64 5))) (.q (some 193) none (.ld1 (.tmp 192)) (.q (some 194) none (.iadrA 8 1 (.tmp 13) (.const (.int .i64 6))) (.q (some 195) none (.ld1 (.tmp 194)) (.q (some 196) none (.bld [.x 1 (.tmp 179), .x 1 (.tmp 181), .x 1 (.tmp 183), .x 1 (.tmp 185), .x 1 (.tmp 189), .x 1 (.tmp 191), .x 1 (.tmp 193), .x 1 (.tmp 195)]) (.l none none (.stN 8 (.tmp 13) (.tmp 196)) [] .done))))))))))))))))))))) false 19 [2, 3, 4, 5, 6, 7, 13, 14],
  .reg (.q (some 148) none (.iadrA 8 1 (.tmp 13) (.const (.int .i64 0))) (.q (some 149) none (.ld1 (.tmp 148)) (.q (some 151) none (.iadrA 8 1 (.tmp 13) (.const (.int .i64 0))) (.q (some 152) none (.ld1 (.tmp 151)) (.q (some 155) none (.iadrA 8 1 (.tmp 13) (.const (.int .i64 0))) (.q (some 156) none (.ld1 (.tmp 155)) (.q (some 159) none (.iadrA 8 1 (.tmp 13) (.const (.int .i64 0))) (.q (some 160) none (.ld1 (.tmp 159)) (.q (some 161) none (.iadrA 8 1 (.tmp 13) (.const (.int .i64 1))) (.q (some 162) none (.ld1 (.tmp 161)) (.q (some 163) none (.bin .and (.tmp 160) (.tmp 162)) (.q (some 164) none (.iadrA 8 1 (.tmp 13) (.const (.int .i64 0))) (.q (some 165) none (.ld1 (.tmp 164)) (.q (some 166) none (.iadrA 8 1 (.tmp 13) (.const (.int .i64 2))) (.q (some 167) none (.ld1 (.tmp 166)) (.q (some 168) none (.bin .and (.tmp 165) (.tmp 167)) (.q (some 169) none (.bin .xor (.tmp 163) (.tmp 168)) (.q (some 170) none (.iadrA 8 1 (.tmp 13) (.const (.int .i64 1))) (.q (some 171) none (.ld1 (.tmp 170)) (.q (some 172) none (.iadrA 8 1 (.tmp 13) (.const (.int .i64 2))) (.q (some 173) none (.ld1 (.tmp 172)) (.q (some 174) none (.bin .and (.tmp 171) (.tmp 173)) (.q (some 175) none (.bin .xor (.tmp 169) (.tmp 174)) (.l (some 150) none (.call 72 [(.tmp 149), (.const (.int .i64 30))]) [⟨173, none, (.ld1 (.tmp 172))⟩, ⟨171, none, (.ld1 (.tmp 170))⟩, ⟨167, none, (.ld1 (.tmp 166))⟩, ⟨165, none, (.ld1 (.tmp 164))⟩, ⟨162, none, (.ld1 (.tmp 161))⟩, ⟨160, none, (.ld1 (.tmp 159))⟩, ⟨156, none, (.ld1 (.tmp 155))⟩, ⟨152, none, (.ld1 (.tmp 151))⟩] (.l (some 153) none (.call 72 [(.tmp 152), (.const (.int .i64 19))]) [⟨173, none, (.ld1 (.tmp 172))⟩, ⟨171, none, (.ld1 (.tmp 170))⟩, ⟨167, none, (.ld1 (.tmp 166))⟩, ⟨165, none, (.ld1 (.tmp 164))⟩, ⟨162, none, (.ld1 (.tmp 161))⟩, ⟨160, none, (.ld1 (.tmp 159))⟩, ⟨156, none, (.ld1 (.tmp 155))⟩] (.q (some 154) none (.bin .xor (.tmp 150) (.tmp 153)) (.l (some 157) none (.call 72 [(.tmp 156), (.const (.int .i64 10))]) [⟨173, none, (.ld1 (.tmp 172))⟩, ⟨171, none, (.ld1 (.tmp 170))⟩, ⟨167, none, (.ld1 (.tmp 166))⟩, ⟨165, none, (.ld1 (.tmp 164))⟩, ⟨162, none, (.ld1 (.tmp 161))⟩, ⟨160, none, (.ld1 (.tmp 159))⟩] (.q (some 158) none (.bin .xor (.tmp 154) (.tmp 157)) (.q (some 176) none (.bin .add (.tmp 158) (.tmp 175)) (.q (some 16) none (.mov (.tmp 176)) .done)))))))))))))))))))))))))))))) true 20 [2, 3, 4, 5, 6, 7, 13, 14, 15, 16],
  .reg (.q (some 113) none (.iadrA 8 1 (.tmp 13) (.const (.int .i64 7))) (.q (some 114) none (.ld1 (.tmp 113)) (.q (some 115) none (.iadrA 8 1 (.tmp 13) (.const (.int .i64 4))) (.q (some 116) none (.ld1 (.tmp 115)) (.q (some 118) none (.iadrA 8 1 (.tmp 13) (.const (.int .i64 4))) (.q (some 119) none (.ld1 (.tmp 118)) (.q (some 122) none (.iadrA 8 1 (.tmp 13) (.const (.int .i64 4))) (.q (some 123) none (.ld1 (.tmp 122)) (.q (some 127) none (.iadrA 8 1 (.tmp 13) (.const (.int .i64 4))) (.q (some 128) none (.ld1 (.tmp 127)) (.q (some 129) none (.iadrA 8 1 (.tmp 13) (.const (.int .i64 5))) (.q (some 130) none (.ld1 (.tmp 129)) (.q (some 131) none (.bin .and (.tmp 128) (.tmp 130)) (.q (some 132) none (.iadrA 8 1 (.tmp 13) (.const (.int .i64 4))) (.q (some 133) none (.ld1 (.tmp 132)) (.q (some 134) none (.bnot (.tmp 133)) (.q (some 135) none (.iadrA 8 1 (.tmp 13) (.const (.int .i64 6))) (.q (some 136) none (.ld1 (.tmp 135)) (.q (some 137) none (.bin .and (.tmp 134) (.tmp 136)) (.q (some 138) none (.bin .xor (.tmp 131) (.tmp 137)) (.q (some 140) none (.mov (.tmp 14)) (.q (some 141) none (.iadrA 64 1 (.tmp 3) (.tmp 140)) (.q (some 142) none (.ld1 (.tmp 141)) (.q (some 144) none (.mov (.tmp 14)) (.q (some 145) none (.iadrA 64 1 (.tmp 7) (.tmp 144)) (.q (some 146) none (.ld1 (.tmp 145)) (.l (some 117) none (.call 72 [(.tmp 116), (.const (.int .i64 26))]) [⟨146, none, (.ld1 (.tmp 145))⟩, ⟨142, none, (.ld1 (.tmp 141))⟩, ⟨136, none, (.ld1 (.tmp 135))⟩, ⟨133, none, (.ld1 (.tmp 132))⟩, ⟨130, none, (.ld1 (.tmp 129))⟩, ⟨128, none, (.ld1 (.tmp 127))⟩, ⟨123, none, (.ld1 (.tmp 122))⟩, ⟨119, none, (.ld1 (.tmp 118))⟩, ⟨114, none, (.ld1 (.tmp 113))⟩] (.l (some 120) none (.call 72 [(.tmp 119), (.const (.int .i64 21))]) [⟨146, none, (.ld1 (.tmp 145))⟩, ⟨142, none, (.ld1 (.tmp 141))⟩, ⟨136, none, (.ld1 (.tmp 135))⟩, ⟨133, none, (.ld1 (.tmp 132))⟩, ⟨130, none, (.ld1 (.tmp 129))⟩, ⟨128, none, (.ld1 (.tmp 127))⟩, ⟨123, none, (.ld1 (.tmp 122))⟩, ⟨114, none, (.ld1 (.tmp 113))⟩] (.q (some 121) none (.bin .xor (.tmp 117) (.tmp 120)) (.l (some 124) none (.call 72 [(.tmp 123), (.const (.int .i64 7))]) [⟨146, none, (.ld1 (.tmp 145))⟩, ⟨142, none, (.ld1 (.tmp 141))⟩, ⟨136, none, (.ld1 (.tmp 135))⟩, ⟨133, none, (.ld1 (.tmp 132))⟩, ⟨130, none, (.ld1 (.tmp 129))⟩, ⟨128, none, (.ld1 (.tmp 127))⟩, ⟨114, none, (.ld1 (.tmp 113))⟩] (.q (some 125) none (.bin .xor (.tmp 121) (.tmp 124)) (.q (some 126) none (.bin .add (.tmp 114) (.tmp 125)) (.q (some 139) none (.bin .add (.tmp 126) (.tmp 138)) (.q (some 143) none (.bin .add (.tmp 139) (.tmp 142)) (.q (some 147) none (.bin .add (.tmp 143) (.tmp 146)) (.q (some 15) none (.mov (.tmp 147)) .done)))))))))))))))))))))))))))))))))))) true 21 [2, 3, 4, 5, 6, 7, 13, 14, 15],
  .cnd (.tmp 110) 22 17,
  .reg (.q (some 109) none (.mov (.tmp 14)) (.q (some 110) none (.bin .lss (.tmp 109) (.const (.int .i64 64))) .done)) false 23 [2, 3, 4, 5, 6, 7, 13, 14, 110],
  .reg (.q (some 14) none (.mov (.const (.int .i64 0))) .done) false 24 [2, 3, 4, 5, 6, 7, 13, 14],
  .reg (.q (some 108) none (.ldN 8 (.tmp 4)) (.l (some 13) none (.alloc 83 [(8, (.int .u32 0))]) [] (.l none none (.stN 8 (.tmp 13) (.tmp 108)) [] .done))) false 25 [2, 3, 4, 5, 6, 7, 13],
  .jmp 33,
  .reg (.q (some 57) none (.mov (.tmp 10)) (.q (some 58) none (.bin .add (.tmp 57) (.const (.int .i64 1))) (.q (some 10) none (.mov (.tmp 58)) .done))) false 27 [2, 3, 4, 5, 6, 7, 10],
  .reg (.q (some 93) none (.mov (.tmp 10)) (.q (some 94) none (.mov (.tmp 12)) (.q (some 95) none (.mov (.tmp 10)) (.q (some 96) none (.bin .sub (.tmp 95) (.const (.int .i64 7))) (.q (some 97) none (.iadrA 64 1 (.tmp 7) (.tmp 96)) (.q (some 98) none (.ld1 (.tmp 97)) (.q (some 99) none (.bin .add (.tmp 94) (.tmp 98)) (.q (some 100) none (.mov (.tmp 11)) (.q (some 101) none (.bin .add (.tmp 99) (.tmp 100)) (.q (some 102) none (.mov (.tmp 10)) (.q (some 103) none (.bin .sub (.tmp 102) (.const (.int .i64 16))) (.q (some 104) none (.iadrA 64 1 (.tmp 7) (.tmp 103)) (.q (some 105) none (.ld1 (.tmp 104)) (.q (some 106) none (.bin .add (.tmp 101) (.tmp 105)) (.q (some 107) none (.iadrA 64 1 (.tmp 7) (.tmp 93)) (.l none none (.st1 (.tmp 107) (.tmp 106)) [] .done)))))))))))))))) true 28 [2, 3, 4, 5, 6, 7, 10],
  .reg (.q (some 76) none (.mov (.tmp 10)) (.q (some 77) none (.bin .sub (.tmp 76) (.const (.int .i64 2))) (.q (some 78) none (.iadrA 64 1 (.tmp 7) (.tmp 77)) (.q (some 79) none (.ld1 (.tmp 78)) (.q (some 81) none (.mov (.tmp 10)) (.q (some 82) none (.bin .sub (.tmp 81) (.const (.int .i64 2))) (.q (some 83) none (.iadrA 64 1 (.tmp 7) (.tmp 82)) (.q (some 84) none (.ld1 (.tmp 83)) (.q (some 87) none (.mov (.tmp 10)) (.q (some 88) none (.bin .sub (.tmp 87) (.const (.int .i64 2))) (.q (some 89) none (.iadrA 64 1 (.tmp 7) (.tmp 88)) (.q (some 90) none (.ld1 (.tmp 89)) (.q (some 91) none (.bin .shr (.tmp 90) (.const (.int .u64 10))) (.l (some 80) none (.call 72 [(.tmp 79), (.const (.int .i64 15))]) [⟨90, none, (.ld1 (.tmp 89))⟩, ⟨84, none, (.ld1 (.tmp 83))⟩] (.l (some 85) none (.call 72 [(.tmp 84), (.const (.int .i64 13))]) [⟨90, none, (.ld1 (.tmp 89))⟩] (.q (some 86) none (.bin .xor (.tmp 80) (.tmp 85)) (.q (some 92) none (.bin .xor (.tmp 86) (.tmp 91)) (.q (some 12) none (.mov (.tmp 92)) .done)))))))))))))))))) true 29 [2, 3, 4, 5, 6, 7, 10, 11, 12],
  .reg (.q (some 59) none (.mov (.tmp 10)) (.q (some 60) none (.bin .sub (.tmp 59) (.const (.int .i64 15))) (.q (some 61) none (.iadrA 64 1 (.tmp 7) (.tmp 60)) (.q (some 62) none (.ld1 (.tmp 61)) (.q (some 64) none (.mov (.tmp 10)) (.q (some 65) none (.bin .sub (.tmp 64) (.const (.int .i64 15))) (.q (some 66) none (.iadrA 64 1 (.tmp 7) (.tmp 65)) (.q (some 67) none (.ld1 (.tmp 66)) (.q (some 70) none (.mov (.tmp 10)) (.q (some 71) none (.bin .sub (.tmp 70) (.const (.int .i64 15))) (.q (some 72) none (.iadrA 64 1 (.tmp 7) (.tmp 71)) (.q (some 73) none (.ld1 (.tmp 72)) (.q (some 74) none (.bin .shr (.tmp 73) (.const (.int .u64 3))) (.l (some 63) none (.call 72 [(.tmp 62), (.const (.int .i64 25))]) [⟨73, none, (.ld1 (.tmp 72))⟩, ⟨67, none, (.ld1 (.tmp 66))⟩] (.l (some 68) none (.call 72 [(.tmp 67), (.const (.int .i64 14))]) [⟨73, none, (.ld1 (.tmp 72))⟩] (.q (some 69) none (.bin .xor (.tmp 63) (.tmp 68)) (.q (some 75) none (.bin .xor (.tmp 69) (.tmp 74)) (.q (some 11) none (.mov (.tmp 75)) .done)))))))))))))))))) true 30 [2, 3, 4, 5, 6, 7, 10, 11],
  .cnd (.tmp 56) 31 26,
  .reg (.q (some 55) none (.mov (.tmp 10)) (.q (some 56) none (.bin .lss (.tmp 55) (.const (.int .i64 64))) .done)) false 32 [2, 3, 4, 5, 6, 7, 10, 56],
  .reg (.q (some 10) none (.mov (.const (.int .i64 16))) .done) false 33 [2, 3, 4, 5, 6, 7, 10],
  .jmp 44,
  .reg (.q (some 32) none (.mov (.tmp 8)) (.q (some 33) none (.bin .add (.tmp 32) (.const (.int .i64 1))) (.q (some 8) none (.mov (.tmp 33)) .done))) false 35 [2, 3, 4, 5, 6, 7, 8],
  .jmp 41,
  .reg (.q (some 36) none (.mov (.tmp 9)) (.q (some 37) none (.bin .add (.tmp 36) (.const (.int .i64 1))) (.q (some 9) none (.mov (.tmp 37)) .done))) false 37 [2, 3, 4, 5, 6, 7, 8, 9],
  .reg (.q (some 38) none (.mov (.tmp 8)) (.q (some 39) none (.mov (.tmp 8)) (.q (some 40) none (.iadrA 64 1 (.tmp 7) (.tmp 39)) (.q (some 41) none (.ld1 (.tmp 40)) (.q (some 42) none (.bin .mul (.tmp 41) (.const (.int .u32 256))) (.q (some 43) none (.mov (.tmp 5)) (.q (some 44) none (.mov (.tmp 6)) (.q (some 45) none (.mov (.tmp 8)) (.q (some 46) none (.bin .mul (.const (.int .i64 4)) (.tmp 45)) (.q (some 47) none (.bin .add (.tmp 44) (.tmp 46)) (.q (some 48) none (.mov (.tmp 9)) (.q (some 49) none (.bin .add (.tmp 47) (.tmp 48)) (.q (some 50) none (.iadrS 1 (.tmp 43) (.tmp 49)) (.q (some 51) none (.ld1 (.tmp 50)) (.q (some 52) none (.cvi .u32 (.tmp 51)) (.q (some 53) none (.bin .add (.tmp 42) (.tmp 52)) (.q (some 54) none (.iadrA 64 1 (.tmp 7) (.tmp 38)) (.l none none (.st1 (.tmp 54) (.tmp 53)) [] .done)))))))))))))))))) true 38 [2, 3, 4, 5, 6, 7, 8, 9],
  .cnd (.tmp 35) 39 36,
  .reg (.q (some 34) none (.mov (.tmp 9)) (.q (some 35) none (.bin .lss (.tmp 34) (.const (.int .i64 4))) .done)) false 40 [2, 3, 4, 5, 6, 7, 8, 9, 35],
  .reg (.q (some 9) none (.mov (.const (.int .i64 0))) .done) false 41 [2, 3, 4, 5, 6, 7, 8, 9],
  .cnd (.tmp 31) 42 34,
  .reg (.q (some 30) none (.mov (.tmp 8)) (.q (some 31) none (.bin .lss (.tmp 30) (.const (.int .i64 16))) .done)) false 43 [2, 3, 4, 5, 6, 7, 8, 31],
  .reg (.q (some 8) none (.mov (.const (.int .i64 0))) .done) false 44 [2, 3, 4, 5, 6, 7, 8],
  .reg (.l (some 7) none (.alloc 97 [(64, (.int .u32 0))]) [] .done) false 45 [2, 3, 4, 5, 6, 7],
  .cnd (.tmp 27) 46 9,
  .reg (.q (some 24) none (.mov (.tmp 6)) (.q (some 25) none (.mov (.tmp 5)) (.q (some 26) none (.len (.tmp 25)) (.q (some 27) none (.bin .lss (.tmp 24) (.tmp 26)) .done)))) false 47 [2, 3, 4, 5, 6, 27],
  .reg (.q (some 6) none (.mov (.const (.int .i64 0))) .done) false 48 [2, 3, 4, 5, 6],
  .reg (.q (some 22) none (.mov (.tmp 0)) (.l (some 23) none (.call 71 [(.tmp 22), (.const (.int .i64 64)), (.const (.int .i64 8)), (.const (.bool false))]) [] (.q (some 5) none (.mov (.tmp 23)) .done))) false 49 [2, 3, 4, 5],
  .reg (.q (some 21) none (.bld [.x 1 (.const (.int .u32 1779033703)), .x 1 (.const (.int .u32 3144134277)), .x 1 (.const (.int .u32 1013904242)), .x 1 (.const (.int .u32 2773480762)), .x 1 (.const (.int .u32 1359893119)), .x 1 (.const (.int .u32 2600822924)), .x 1 (.const (.int .u32 528734635)), .x 1 (.const (.int .u32 1541459225))]) (.l (some 4) none (.alloc 83 [(8, (.int .u32 0))]) [] (.l none none (.stN 8 (.tmp 4) (.tmp 21)) [] .done))) false 50 [0, 2, 3, 4],
  .reg (.q (some 20) none (.bld [.x 1 (.const (.int .u32 1116352408)), .x 1 (.const (.int .u32 1899447441)), .x 1 (.const (.int .u32 3049323471)), .x 1 (.const (.int .u32 3921009573)), .x 1 (.const (.int .u32 961987163)), .x 1 (.const (.int .u32 1508970993)), .x 1 (.const (.int .u32 2453635748)), .x 1 (.const (.int .u32 2870763221)), .x 1 (.const (.int .u32 3624381080)), .x 1 (.const (.int .u32 310598401)), .x 1 (.const (.int .u32 607225278)), .x 1 (.const (.int .u32 1426881987)), .x 1 (.const (.int .u32 1925078388)), .x 1 (.const (.int .u32 2162078206)), .x 1 (.const (.int .u32 2614888103)), .x 1 (.const (.int .u32 3248222580)), .x 1 (.const (.int .u32 3835390401)), .x 1 (.const (.int .u32 4022224774)), .x 1 (.const (.int .u32 264347078)), .x 1 (.const (.int .u32 604807628)), .x 1 (.const (.int .u32 770255983)), .x 1 (.const (.int .u32 1249150122)), .x 1 (.const (.int .u32 1555081692)), .x 1 (.const (.int .u32 1996064986)), .x 1 (.const (.int .u32 2554220882)), .x 1 (.const (.int .u32 2821834349)), .x 1 (.const (.int .u32 2952996808)), .x 1 (.const (.int .u32 3210313671)), .x 1 (.const (.int .u32 3336571891)), .x 1 (.const (.int .u32 3584528711)), .x 1 (.const (.int .u32 113926993)), .x 1 (.const (.int .u32 338241895)), .x 1 (.const (.int .u32 666307205)), .x 1 (.const (.int .u32 773529912)), .x 1 (.const (.int .u32 1294757372)), .x 1 (.const (.int .u32 1396182291)), .x 1 (.const (.int .u32 1695183700)), .x 1 (.const (.int .u32 1986661051)), .x 1 (.const (.int .u32 2177026350)), .x 1 (.const (.int .u32 2456956037)), .x 1 (.const (.int .u32 2730485921)), .x 1 (.const (.int .u32 2820302411)), .x 1 (.const (.int .u32 3259730800)), .x 1 (.const (.int .u32 3345764771)), .x 1 (.const (.int .u32 3516065817)), .x 1 (.const (.int .u32 3600352804)), .x 1 (.const (.int .u32 4094571909)), .x 1 (.const (.int .u32 275423344)), .x 1 (.const (.int .u32 430227734)), .x 1 (.const (.int .u32 506948616)), .x 1 (.const (.int .u32 659060556)), .x 1 (.const (.int .u32 883997877)), .x 1 (.const (.int .u32 958139571)), .x 1 (.const (.int .u32 1322822218)), .x 1 (.const (.int .u32 1537002063)), .x 1 (.const (.int .u32 1747873779)), .x 1 (.const (.int .u32 1955562222)), .x 1 (.const (.int .u32 2024104815)), .x 1 (.const (.int .u32 2227730452)), .x 1 (.const (.int .u32 2361852424)), .x 1 (.const (.int .u32 2428436474)), .x 1 (.const (.int .u32 2756734187)), .x 1 (.const (.int .u32 3204031479)), .x 1 (.const (.int .u32 3329325298))]) (.l (some 3) none (.alloc 97 [(64, (.int .u32 0))]) [] (.l none none (.stN 64 (.tmp 3) (.tmp 20)) [] .done))) false 51 [0, 2, 3],
  .reg (.l (some 2) none (.alloc 35 [(32, (.int .u8 0))]) [] .done) false 52 [0, 2]
  ]
theorem c57_ok : cfgL Try.prog 57 = some (228, 53, c57.map Vc.Node.bare) := by kernel_rfl
/- strongbox/strongboxref09.Inputs: entry 14 -/
def c59 : List Vc.Node := [
  .ret [.t 2],
  .ret [.t 2],
  .reg (.q (some 58) none (.mov (.tmp 3)) (.q (some 2) none (.mov (.tmp 58)) .done)) false 1 [2],
  .jmp 11,
  .reg (.q (some 16) none (.mov (.tmp 4)) (.q (some 17) none (.bin .add (.tmp 16) (.const (.int .i64 1))) (.q (some 4) none (.mov (.tmp 17)) .done))) false 3 [1, 3, 4],
  .reg (.q (some 48) none (.mov (.tmp 3)) (.q (some 49) none (.fadr 1 (.tmp 1)) (.q (some 50) none (.ld1 (.tmp 49)) (.q (some 51) none (.mov (.tmp 4)) (.q (some 52) none (.iadrS 36 (.tmp 50) (.tmp 51)) (.q (some 53) none (.fadr 34 (.tmp 52)) (.q (some 54) none (.ld1 (.tmp 53)) (.q (some 55) none (.cvi .u64 (.tmp 54)) (.l (some 56) none (.call 46 [(.tmp 55), (.const (.int .i64 4))]) [] (.l (some 57) none (.app 5 1 1 [(1, (.int .u8 0))] (.tmp 48) (.tmp 56)) [] (.q (some 3) none (.mov (.tmp 57)) .done))))))))))) false 4 [1, 3, 4],
  .reg (.q (some 39) none (.mov (.tmp 3)) (.q (some 40) none (.fadr 1 (.tmp 1)) (.q (some 41) none (.ld1 (.tmp 40)) (.q (some 42) none (.mov (.tmp 4)) (.q (some 43) none (.iadrS 36 (.tmp 41) (.tmp 42)) (.q (some 44) none (.fadr 33 (.tmp 43)) (.q (some 45) none (.ld1 (.tmp 44)) (.l (some 46) none (.call 47 [(.tmp 45)]) [] (.l (some 47) none (.app 5 1 1 [(1, (.int .u8 0))] (.tmp 39) (.tmp 46)) [] (.q (some 3) none (.mov (.tmp 47)) .done)))))))))) false 5 [1, 3, 4],
  .reg (.q (some 28) none (.mov (.tmp 3)) (.q (some 29) none (.fadr 1 (.tmp 1)) (.q (some 30) none (.ld1 (.tmp 29)) (.q (some 31) none (.mov (.tmp 4)) (.q (some 32) none (.iadrS 36 (.tmp 30) (.tmp 31)) (.q (some 33) none (.fadr 0 (.tmp 32)) (.q (some 34) none (.fadr 32 (.tmp 33)) (.q (some 35) none (.ld1 (.tmp 34)) (.q (some 36) none (.cvi .u64 (.tmp 35)) (.l (some 37) none (.call 46 [(.tmp 36), (.const (.int .i64 4))]) [] (.l (some 38) none (.app 5 1 1 [(1, (.int .u8 0))] (.tmp 28) (.tmp 37)) [] (.q (some 3) none (.mov (.tmp 38)) .done)))))))))))) false 6 [1, 3, 4],
  .reg (.q (some 25) none (.mov (.tmp 3)) (.q (some 26) none (.slcA 32 1 (.tmp 5) none none) (.l (some 27) none (.app 5 1 1 [(1, (.int .u8 0))] (.tmp 25) (.tmp 26)) [] (.q (some 3) none (.mov (.tmp 27)) .done)))) false 7 [1, 3, 4],
  .reg (.q (some 18) none (.fadr 1 (.tmp 1)) (.q (some 19) none (.ld1 (.tmp 18)) (.q (some 20) none (.mov (.tmp 4)) (.q (some 21) none (.iadrS 36 (.tmp 19) (.tmp 20)) (.q (some 22) none (.fadr 0 (.tmp 21)) (.q (some 23) none (.fadr 0 (.tmp 22)) (.q (some 24) none (.ldN 32 (.tmp 23)) (.l (some 5) none (.alloc 36 [(32, (.int .u8 0))]) [] (.l none none (.stN 32 (.tmp 5) (.tmp 24)) [] .done))))))))) false 8 [1, 3, 4, 5],
  .cnd (.tmp 15) 9 2,
  .reg (.q (some 11) none (.mov (.tmp 4)) (.q (some 12) none (.fadr 1 (.tmp 1)) (.q (some 13) none (.ld1 (.tmp 12)) (.q (some 14) none (.len (.tmp 13)) (.q (some 15) none (.bin .lss (.tmp 11) (.tmp 14)) .done))))) false 10 [1, 3, 4, 15],
  .reg (.q (some 4) none (.mov (.const (.int .i64 0))) .done) false 11 [1, 3, 4],
  .reg (.q (some 6) none (.fadr 1 (.tmp 1)) (.q (some 7) none (.ld1 (.tmp 6)) (.q (some 8) none (.len (.tmp 7)) (.q (some 9) none (.cvi .u64 (.tmp 8)) (.l (some 10) none (.call 61 [(.tmp 9)]) [] (.q (some 3) none (.mov (.tmp 10)) .done)))))) false 12 [1, 3],
  .reg (.l (some 1) none (.box 26 (.tmp 0)) [] (.q (some 2) none (.mov (.const (.slice none 0 0))) .done)) false 13 [1]
  ]
theorem c59_ok : cfgL Try.prog 59 = some (59, 14, c59.map Vc.Node.bare) := by kernel_rfl
/- strongbox/strongboxref09.Outputs: entry 11 -/
def c60 : List Vc.Node := [
  .ret [.t 2],
  .ret [.t 2],
  .reg (.q (some 36) none (.mov (.tmp 3)) (.q (some 2) none (.mov (.tmp 36)) .done)) false 1 [2],
  .jmp 8,
  .reg (.q (some 15) none (.mov (.tmp 4)) (.q (some 16) none (.bin .add (.tmp 15) (.const (.int .i64 1))) (.q (some 4) none (.mov (.tmp 16)) .done))) false 3 [1, 3, 4],
  .reg (.q (some 27) none (.mov (.tmp 3)) (.q (some 28) none (.fadr 2 (.tmp 1)) (.q (some 29) none (.ld1 (.tmp 28)) (.q (some 30) none (.mov (.tmp 4)) (.q (some 31) none (.iadrS 2 (.tmp 29) (.tmp 30)) (.q (some 32) none (.fadr 1 (.tmp 31)) (.q (some 33) none (.ld1 (.tmp 32)) (.l (some 34) none (.call 47 [(.tmp 33)]) [] (.l (some 35) none (.app 5 1 1 [(1, (.int .u8 0))] (.tmp 27) (.tmp 34)) [] (.q (some 3) none (.mov (.tmp 35)) .done)))))))))) false 4 [1, 3, 4],
  .reg (.q (some 17) none (.mov (.tmp 3)) (.q (some 18) none (.fadr 2 (.tmp 1)) (.q (some 19) none (.ld1 (.tmp 18)) (.q (some 20) none (.mov (.tmp 4)) (.q (some 21) none (.iadrS 2 (.tmp 19) (.tmp 20)) (.q (some 22) none (.fadr 0 (.tmp 21)) (.q (some 23) none (.ld1 (.tmp 22)) (.q (some 24) none (.cvi .u64 (.tmp 23)) (.l (some 25) none (.call 46 [(.tmp 24), (.const (.int .i64 8))]) [] (.l (some 26) none (.app 5 1 1 [(1, (.int .u8 0))] (.tmp 17) (.tmp 25)) [] (.q (some 3) none (.mov (.tmp 26)) .done))))))))))) false 5 [1, 3, 4],
  .cnd (.tmp 14) 6 2,
  .reg (.q (some 10) none (.mov (.tmp 4)) (.q (some 11) none (.fadr 2 (.tmp 1)) (.q (some 12) none (.ld1 (.tmp 11)) (.q (some 13) none (.len (.tmp 12)) (.q (some 14) none (.bin .lss (.tmp 10) (.tmp 13)) .done))))) false 7 [1, 3, 4, 14],
  .reg (.q (some 4) none (.mov (.const (.int .i64 0))) .done) false 8 [1, 3, 4],
  .reg (.q (some 5) none (.fadr 2 (.tmp 1)) (.q (some 6) none (.ld1 (.tmp 5)) (.q (some 7) none (.len (.tmp 6)) (.q (some 8) none (.cvi .u64 (.tmp 7)) (.l (some 9) none (.call 61 [(.tmp 8)]) [] (.q (some 3) none (.mov (.tmp 9)) .done)))))) false 9 [1, 3],
  .reg (.l (some 1) none (.box 26 (.tmp 0)) [] (.q (some 2) none (.mov (.const (.slice none 0 0))) .done)) false 10 [1]
  ]
theorem c60_ok : cfgL Try.prog 60 = some (37, 11, c60.map Vc.Node.bare) := by kernel_rfl
/- strongbox/strongboxref01.Size: entry 15 -/
def c61 : List Vc.Node := [
  .ret [.t 2],
  .ret [.t 2],
  .reg (.l (some 23) none (.bldS 5 1 [(.const (.int .u8 255))]) [] (.q (some 24) none (.mov (.tmp 0)) (.l (some 25) none (.call 46 [(.tmp 24), (.const (.int .i64 8))]) [] (.l (some 26) none (.app 5 1 1 [(1, (.int .u8 0))] (.tmp 23) (.tmp 25)) [] (.q (some 2) none (.mov (.tmp 26)) .done))))) false 1 [2],
  .ret [.t 2],
  .reg (.q (some 6) none (.mov (.tmp 0)) (.q (some 7) none (.cvi .u8 (.tmp 6)) (.l (some 8) none (.bldS 5 1 [(.tmp 7)]) [] (.q (some 2) none (.mov (.tmp 8)) .done)))) false 3 [2],
  .ret [.t 2],
  .reg (.l (some 12) none (.bldS 5 1 [(.const (.int .u8 253))]) [] (.q (some 13) none (.mov (.tmp 0)) (.l (some 14) none (.call 46 [(.tmp 13), (.const (.int .i64 2))]) [] (.l (some 15) none (.app 5 1 1 [(1, (.int .u8 0))] (.tmp 12) (.tmp 14)) [] (.q (some 2) none (.mov (.tmp 15)) .done))))) false 5 [2],
  .ret [.t 2],
  .reg (.l (some 19) none (.bldS 5 1 [(.const (.int .u8 254))]) [] (.q (some 20) none (.mov (.tmp 0)) (.l (some 21) none (.call 46 [(.tmp 20), (.const (.int .i64 4))]) [] (.l (some 22) none (.app 5 1 1 [(1, (.int .u8 0))] (.tmp 19) (.tmp 21)) [] (.q (some 2) none (.mov (.tmp 22)) .done))))) false 7 [2],
  .cnd (.tmp 16) 8 2,
  .reg (.q (some 17) none (.mov (.tmp 0)) (.q (some 18) none (.bin .leq (.tmp 17) (.const (.int .u64 4294967295))) (.q (some 16) none (.mov (.tmp 18)) .done))) false 9 [0, 16],
  .cnd (.tmp 9) 6 10,
  .reg (.q (some 10) none (.mov (.tmp 0)) (.q (some 11) none (.bin .leq (.tmp 10) (.const (.int .u64 65535))) (.q (some 9) none (.mov (.tmp 11)) .done))) false 11 [0, 9],
  .cnd (.tmp 3) 4 12,
  .reg (.q (some 4) none (.mov (.tmp 0)) (.q (some 5) none (.bin .leq (.tmp 4) (.const (.int .u64 252))) (.q (some 3) none (.mov (.tmp 5)) .done))) false 13 [0, 3],
  .reg (.q (some 2) none (.mov (.const (.slice none 0 0))) .done) false 14 [0]
  ]
theorem c61_ok : cfgL Try.prog 61 = some (27, 15, c61.map Vc.Node.bare) := by kernel_rfl
/- strongbox/wire.wide: entry 15 -/
def c64 : List Vc.Node := [
  .ret [.t 2],
  .ret [.t 2],
  .reg (.q (some 2) none (.mov (.const (.int .i64 8))) .done) false 1 [2],
  .ret [.t 2],
  .reg (.q (some 2) none (.mov (.const (.int .i64 0))) .done) false 3 [2],
  .ret [.t 2],
  .reg (.q (some 2) none (.mov (.const (.int .i64 2))) .done) false 5 [2],
  .ret [.t 2],
  .reg (.q (some 2) none (.mov (.const (.int .i64 4))) .done) false 7 [2],
  .cnd (.tmp 9) 8 2,
  .reg (.q (some 10) none (.mov (.tmp 0)) (.q (some 11) none (.bin .lss (.tmp 10) (.const (.int .u64 4294967296))) (.q (some 9) none (.mov (.tmp 11)) .done))) false 9 [9],
  .cnd (.tmp 6) 6 10,
  .reg (.q (some 7) none (.mov (.tmp 0)) (.q (some 8) none (.bin .lss (.tmp 7) (.const (.int .u64 65536))) (.q (some 6) none (.mov (.tmp 8)) .done))) false 11 [0, 6],
  .cnd (.tmp 3) 4 12,
  .reg (.q (some 4) none (.mov (.tmp 0)) (.q (some 5) none (.bin .lss (.tmp 4) (.const (.int .u64 253))) (.q (some 3) none (.mov (.tmp 5)) .done))) false 13 [0, 3],
  .reg (.q (some 2) none (.mov (.const (.int .i64 0))) .done) false 14 [0]
  ]
theorem c64_ok : cfgL Try.prog 64 = some (12, 15, c64.map Vc.Node.bare) := by kernel_rfl
/- (*strongbox/wire.Writer).U8: entry 1 -/
def c65 : List Vc.Node := [
  .ret [],
  .reg (.q (some 4) none (.mov (.tmp 0)) (.q (some 5) none (.mov (.tmp 1)) (.q (some 6) none (.cvi .u64 (.tmp 5)) (.l (some 7) none (.call 54 [(.tmp 4), (.tmp 6), (.const (.int .i64 1))]) [] .done)))) false 0 []
  ]
theorem c65_ok : cfgL Try.prog 65 = some (8, 1, c65.map Vc.Node.bare) := by kernel_rfl
/- strongbox/hash.begin256: entry 3 -/
def c66 : List Vc.Node := [
  .ret [.cN 0 8],
  .ret [.cN 0 8],
  .reg (.q (some 1) none (.bld [.x 1 (.const (.int .u32 1779033703)), .x 1 (.const (.int .u32 3144134277)), .x 1 (.const (.int .u32 1013904242)), .x 1 (.const (.int .u32 2773480762)), .x 1 (.const (.int .u32 1359893119)), .x 1 (.const (.int .u32 2600822924)), .x 1 (.const (.int .u32 528734635)), .x 1 (.const (.int .u32 1541459225))]) (.l none none (.stN 8 (.tmp 0) (.tmp 1)) [] .done)) false 1 [0],
  .reg (.l (some 0) none (.alloc 84 [(8, (.int .u32 0))]) [] .done) false 2 [0]
  ]
theorem c66_ok : cfgL Try.prog 66 = some (2, 3, c66.map Vc.Node.bare) := by kernel_rfl
/- strongbox/hash.k256: entry 3 -/
def c67 : List Vc.Node := [
  .ret [.cN 0 64],
  .ret [.cN 0 64],
  .reg (.q (some 1) none (.bld [.x 1 (.const (.int .u32 1116352408)), .x 1 (.const (.int .u32 1899447441)), .x 1 (.const (.int .u32 3049323471)), .x 1 (.const (.int .u32 3921009573)), .x 1 (.const (.int .u32 961987163)), .x 1 (.const (.int .u32 1508970993)), .x 1 (.const (.int .u32 2453635748)), .x 1 (.const (.int .u32 2870763221)), .x 1 (.const (.int .u32 3624381080)), .x 1 (.const (.int .u32 310598401)), .x 1 (.const (.int .u32 607225278)), .x 1 (.const (.int .u32 1426881987)), .x 1 (.const (.int .u32 1925078388)), .x 1 (.const (.int .u32 2162078206)), .x 1 (.const (.int .u32 2614888103)), .x 1 (.const (.int .u32 3248222580)), .x 1 (.const (.int .u32 3835390401)), .x 1 (.const (.int .u32 4022224774)), .x 1 (.const (.int .u32 264347078)), .x 1 (.const (.int .u32 604807628)), .x 1 (.const (.int .u32 770255983)), .x 1 (.const (.int .u32 1249150122)), .x 1 (.const (.int .u32 1555081692)), .x 1 (.const (.int .u32 1996064986)), .x 1 (.const (.int .u32 2554220882)), .x 1 (.const (.int .u32 2821834349)), .x 1 (.const (.int .u32 2952996808)), .x 1 (.const (.int .u32 3210313671)), .x 1 (.const (.int .u32 3336571891)), .x 1 (.const (.int .u32 3584528711)), .x 1 (.const (.int .u32 113926993)), .x 1 (.const (.int .u32 338241895)), .x 1 (.const (.int .u32 666307205)), .x 1 (.const (.int .u32 773529912)), .x 1 (.const (.int .u32 1294757372)), .x 1 (.const (.int .u32 1396182291)), .x 1 (.const (.int .u32 1695183700)), .x 1 (.const (.int .u32 1986661051)), .x 1 (.const (.int .u32 2177026350)), .x 1 (.const (.int .u32 2456956037)), .x 1 (.const (.int .u32 2730485921)), .x 1 (.const (.int .u32 2820302411)), .x 1 (.const (.int .u32 3259730800)), .x 1 (.const (.int .u32 3345764771)), .x 1 (.const (.int .u32 3516065817)), .x 1 (.const (.int .u32 3600352804)), .x 1 (.const (.int .u32 4094571909)), .x 1 (.const (.int .u32 275423344)), .x 1 (.const (.int .u32 430227734)), .x 1 (.const (.int .u32 506948616)), .x 1 (.const (.int .u32 659060556)), .x 1 (.const (.int .u32 883997877)), .x 1 (.const (.int .u32 958139571)), .x 1 (.const (.int .u32 1322822218)), .x 1 (.const (.int .u32 1537002063)), .x 1 (.const (.int .u32 1747873779)), .x 1 (.const (.int .u32 1955562222)), .x 1 (.const (.int .u32 2024104815)), .x 1 (.const (.int .u32 2227730452)), .x 1 (.const (.int .u32 2361852424)), .x 1 (.const (.int .u32 2428436474)), .x 1 (.const (.int .u32 2756734187)), .x 1 (.const (.int .u32 3204031479)), .x 1 (.const (.int .u32 3329325298))]) (.l none none (.stN 64 (.tmp 0) (.tmp 1)) [] .done)) false 1 [0],
  .reg (.l (some 0) none (.alloc 97 [(64, (.int .u32 0))]) [] .done) false 2 [0]
  ]
theorem c67_ok : cfgL Try.prog 67 = some (2, 3, c67.map Vc.Node.bare) := by kernel_rfl
/- (*strongbox/hash.state256).step: entry 32 -/
def c68 : List Vc.Node := [
  .ret [],
  .jmp 6,
  .reg (.q (some 189) none (.bin .add (.tmp 175) (.const (.int .i64 1))) (.q (some 175) none (.mov (.tmp 189)) .done)) false 1 [0, 10, 175],
  .reg (.q (some 178) none (.mov (.tmp 0)) (.q (some 179) none (.mov (.tmp 17)) (.q (some 180) none (.nc (.tmp 178)) (.q (some 181) none (.iadrA 8 1 (.tmp 180) (.tmp 179)) (.q (some 182) none (.ld1 (.tmp 181)) (.q (some 183) none (.mov (.tmp 17)) (.q (some 184) none (.iadrA 8 1 (.tmp 10) (.tmp 183)) (.q (some 185) none (.ld1 (.tmp 184)) (.q (some 186) none (.bin .add (.tmp 182) (.tmp 185)) (.q (some 187) none (.nc (.tmp 178)) (.q (some 188) none (.iadrA 8 1 (.tmp 187) (.tmp 179)) (.l none none (.st1 (.tmp 188) (.tmp 186)) [] .done)))))))))))) true 2 [0, 10, 175],
  .reg (.q (some 177) none (.mov (.tmp 175)) (.q (some 17) none (.mov (.tmp 177)) .done)) false 3 [0, 10, 17, 175],
  .cnd (.tmp 176) 4 0,
  .reg (.q (some 176) none (.bin .lss (.tmp 175) (.const (.int .i64 8))) .done) false 5 [0, 10, 175, 176],
  .reg (.q (some 175) none (.mov (.const (.int .i64 0))) .done) false 6 [0, 10, 175],
  .jmp 18,
  .reg (.q (some 174) none (.bin .add (.tmp 100) (.const (.int .i64 1))) (.q (some 100) none (.mov (.tmp 174)) .done)) false 8 [0, 1, 10, 99, 100],
  .reg (.q (some 170) none (.mov (.tmp 15)) (.q (some 171) none (.mov (.tmp 16)) (.q (some 172) none (.bin .add (.tmp 170) (.tmp 171)) (.q (some 173) none (.iadrA 8 1 (.tmp 10) (.const (.int .i64 0))) (.l none none (.st1 (.tmp 173) (.tmp 172)) [] .done))))) false 9 [0, 1, 10, 99, 100],
  .reg (.q (some 165) none (.iadrA 8 1 (.tmp 10) (.const (.int .i64 4))) (.q (some 166) none (.ld1 (.tmp 165)) (.q (some 167) none (.mov (.tmp 15)) (.q (some 168) none (.bin .add (.tmp 166) (.tmp 167)) (.q (some 169) none (.iadrA 8 1 (.tmp 10) (.const (.int .i64 4))) (.l none none (.st1 (.tmp 169) (.tmp 168)) [] .done)))))) false 10 [0, 1, 10, 15, 16, 99, 100],
  .reg (.q (some 162) none (.slcA 8 1 (.tmp 10) (some (.const (.int .i64 1))) none) (.q (some 163) none (.slcA 8 1 (.tmp 10) none (some (.const (.int .i64 7)))) (.l (some 164) none (.cpy 1 (.tmp 162) (.tmp 163)) [] .done))) true 11 [0, 1, 10, 15, 16, 99, 100],
  .reg (.q (some 138) none (.mov (.tmp 14)) (.q (some 140) none (.mov (.tmp 14)) (.q (some 143) none (.mov (.tmp 14)) (.q (some 146) none (.mov (.tmp 14)) (.q (some 147) none (.iadrA 8 1 (.tmp 10) (.const (.int .i64 1))) (.q (some 148) none (.ld1 (.tmp 147)) (.q (some 149) none (.bin .and (.tmp 146) (.tmp 148)) (.q (some 150) none (.mov (.tmp 14)) (.q (some 151) none (.iadrA 8 1 (.tmp 10) (.const (.int .i64 2))) (.q (some 152) none (.ld1 (.tmp 151)) (.q (some 153) none (.bin .and (.tmp 150) (.tmp 152)) (.q (some 154) none (.bin .xor (.tmp 149) (.tmp 153)) (.q (some 155) none (.iadrA 8 1 (.tmp 10) (.const (.int .i64 1))) (.q (some 156) none (.ld1 (.tmp 155)) (.q (some 157) none (.iadrA 8 1 (.tmp 10) (.const (.int .i64 2))) (.q (some 158) none (.ld1 (.tmp 157)) (.q (some 159) none (.bin .and (.tmp 156) (.tmp 158)) (.q (some 160) none (.bin .xor (.tmp 154) (.tmp 159)) (.l (some 139) none (.call 74 [(.tmp 138), (.const (.int .i64 2))]) [⟨158, none, (.ld1 (.tmp 157))⟩, ⟨156, none, (.ld1 (.tmp 155))⟩, ⟨152, none, (.ld1 (.tmp 151))⟩, ⟨148, none, (.ld1 (.tmp 147))⟩] (.l (some 141) none (.call 74 [(.tmp 140), (.const (.int .i64 13))]) [⟨158, none, (.ld1 (.tmp 157))⟩, ⟨156, none, (.ld1 (.tmp 155))⟩, ⟨152, none, (.ld1 (.tmp 151))⟩, ⟨148, none, (.ld1 (.tmp 147))⟩] (.q (some 142) none (.bin .xor (.tmp 139) (.tmp 141)) (.l (some 144) none (.call 74 [(.tmp 143), (.const (.int .i64 22))]) [⟨158, none, (.ld1 (.tmp 157))⟩, ⟨156, none, (.ld1 (.tmp 155))⟩, ⟨152, none, (.ld1 (.tmp 151))⟩, ⟨148, none, (.ld1 (.tmp 147))⟩] (.q (some 145) none (.bin .xor (.tmp 142) (.tmp 144)) (.q (some 161) none (.bin .add (.tmp 145) (.tmp 160)) (.q (some 16) none (.mov (.tmp 161)) .done))))))))))))))))))))))))) true 12 [0, 1, 10, 15, 16, 99, 100],
  .reg (.q (some 108) none (.iadrA 8 1 (.tmp 10) (.const (.int .i64 7))) (.q (some 109) none (.ld1 (.tmp 108)) (.q (some 110) none (.mov (.tmp 13)) (.q (some 112) none (.mov (.tmp 13)) (.q (some 115) none (.mov (.tmp 13)) (.q (some 119) none (.mov (.tmp 13)) (.q (some 120) none (.iadrA 8 1 (.tmp 10) (.const (.int .i64 5))) (.q (some 121) none (.ld1 (.tmp 120)) (.q (some 122) none (.bin .and (.tmp 119) (.tmp 121)) (.q (some 123) none (.mov (.tmp 13)) (.q (some 124) none (.bnot (.tmp 123)) (.q (some 125) none (.iadrA 8 1 (.tmp 10) (.const (.int .i64 6))) (.q (some 126) none (.ld1 (.tmp 125)) (.q (some 127) none (.bin .and (.tmp 124) (.tmp 126)) (.q (some 128) none (.bin .xor (.tmp 122) (.tmp 127)) (.q (some 130) none (.mov (.tmp 1)) (.q (some 131) none (.mov (.tmp 11)) (.q (some 132) none (.nc (.tmp 130)) (.q (some 133) none (.iadrA 64 1 (.tmp 132) (.tmp 131)) (.q (some 134) none (.ld1 (.tmp 133)) (.q (some 136) none (.mov (.tmp 12)) (.l (some 111) none (.call 74 [(.tmp 110), (.const (.int .i64 6))]) [⟨134, none, (.ld1 (.tmp 133))⟩, ⟨126, none, (.ld1 (.tmp 125))⟩, ⟨121, none, (.ld1 (.tmp 120))⟩, ⟨109, none, (.ld1 (.tmp 108))⟩] (.l (some 113) none (.call 74 [(.tmp 112), (.const (.int .i64 11))]) [⟨134, none, (.ld1 (.tmp 133))⟩, ⟨126, none, (.ld1 (.tmp 125))⟩, ⟨121, none, (.ld1 (.tmp 120))⟩, ⟨109, none, (.ld1 (.tmp 108))⟩] (.q (some 114) none (.bin .xor (.tmp 111) (.tmp 113)) (.l (some 116) none (.call 74 [(.tmp 115), (.const (.int .i64 25))]) [⟨134, none, (.ld1 (.tmp 133))⟩, ⟨126, none, (.ld1 (.tmp 125))⟩, ⟨121, none, (.ld1 (.tmp 120))⟩, ⟨109, none, (.ld1 (.tmp 108))⟩] (.q (some 117) none (.bin .xor (.tmp 114) (.tmp 116)) (.q (some 118) none (.bin .add (.tmp 109) (.tmp 117)) (.q (some 129) none (.bin .add (.tmp 118) (.tmp 128)) (.q (some 135) none (.bin .add (.tmp 129) (.tmp 134)) (.q (some 137) none (.bin .add (.tmp 135) (.tmp 136)) (.q (some 15) none (.mov (.tmp 137)) .done))))))))))))))))))))))))))))))) true 13 [0, 1, 10, 14, 15, 99, 100],
  .reg (.q (some 104) none (.iadrA 8 1 (.tmp 10) (.const (.int .i64 4))) (.q (some 105) none (.ld1 (.tmp 104)) (.q (some 106) none (.iadrA 8 1 (.tmp 10) (.const (.int .i64 0))) (.q (some 107) none (.ld1 (.tmp 106)) (.q (some 13) none (.mov (.tmp 105)) (.q (some 14) none (.mov (.tmp 107)) .done)))))) true 14 [0, 1, 10, 11, 12, 13, 14, 99, 100],
  .reg (.q (some 102) none (.mov (.tmp 100)) (.q (some 103) none (.idxA 64 1 false (.tmp 99) (.tmp 100)) (.q (some 11) none (.mov (.tmp 102)) (.q (some 12) none (.mov (.tmp 103)) .done)))) false 15 [0, 1, 10, 11, 12, 99, 100],
  .cnd (.tmp 101) 16 7,
  .reg (.q (some 101) none (.bin .lss (.tmp 100) (.const (.int .i64 64))) .done) false 17 [0, 1, 10, 99, 100, 101],
  .reg (.q (some 99) none (.ldN 64 (.tmp 6)) (.q (some 100) none (.mov (.const (.int .i64 0))) .done)) false 18 [0, 1, 10, 99, 100],
  .reg (.q (some 96) none (.mov (.tmp 0)) (.q (some 97) none (.nc (.tmp 96)) (.q (some 98) none (.ldN 8 (.tmp 97)) (.l (some 10) none (.alloc 84 [(8, (.int .u32 0))]) [] (.l none none (.stN 8 (.tmp 10) (.tmp 98)) [] .done))))) false 19 [0, 1, 6, 10],
  .jmp 30,
  .reg (.q (some 95) none (.bin .add (.tmp 18) (.const (.int .i64 1))) (.q (some 18) none (.mov (.tmp 95)) .done)) false 21 [0, 1, 2, 6, 18],
  .reg (.q (some 66) none (.mov (.tmp 7)) (.q (some 67) none (.mov (.tmp 7)) (.q (some 68) none (.bin .sub (.tmp 67) (.const (.int .i64 16))) (.q (some 69) none (.iadrA 64 1 (.tmp 6) (.tmp 68)) (.q (some 70) none (.ld1 (.tmp 69)) (.q (some 71) none (.mov (.tmp 7)) (.q (some 72) none (.bin .sub (.tmp 71) (.const (.int .i64 7))) (.q (some 73) none (.iadrA 64 1 (.tmp 6) (.tmp 72)) (.q (some 74) none (.ld1 (.tmp 73)) (.q (some 75) none (.bin .add (.tmp 70) (.tmp 74)) (.q (some 76) none (.mov (.tmp 8)) (.q (some 78) none (.mov (.tmp 8)) (.q (some 81) none (.mov (.tmp 8)) (.q (some 82) none (.bin .shr (.tmp 81) (.const (.int .u64 3))) (.q (some 85) none (.mov (.tmp 9)) (.q (some 87) none (.mov (.tmp 9)) (.q (some 90) none (.mov (.tmp 9)) (.q (some 91) none (.bin .shr (.tmp 90) (.const (.int .u64 10))) (.l (some 77) none (.call 74 [(.tmp 76), (.const (.int .i64 7))]) [⟨74, none, (.ld1 (.tmp 73))⟩, ⟨70, none, (.ld1 (.tmp 69))⟩] (.l (some 79) none (.call 74 [(.tmp 78), (.const (.int .i64 18))]) [⟨74, none, (.ld1 (.tmp 73))⟩, ⟨70, none, (.ld1 (.tmp 69))⟩] (.q (some 80) none (.bin .xor (.tmp 77) (.tmp 79)) (.q (some 83) none (.bin .xor (.tmp 80) (.tmp 82)) (.q (some 84) none (.bin .add (.tmp 75) (.tmp 83)) (.l (some 86) none (.call 74 [(.tmp 85), (.const (.int .i64 17))]) [⟨74, none, (.ld1 (.tmp 73))⟩, ⟨70, none, (.ld1 (.tmp 69))⟩] (.l (some 88) none (.call 74 [(.tmp 87), (.const (.int .i64 19))]) [⟨74, none, (.ld1 (.tmp 73))⟩, ⟨70, none, (.ld1 (.tmp 69))⟩] (.q (some 89) none (.bin .xor (.tmp 86) (.tmp 88)) (.q (some 92) none (.bin .xor (.tmp 89) (.tmp 91)) (.q (some 93) none (.bin .add (.tmp 84) (.tmp 92)) (.q (some 94) none (.iadrA 64 1 (.tmp 6) (.tmp 66)) (.l none none (.st1 (.tmp 94) (.tmp 93)) [] .done)))))))))))))))))))))))))))))) true 22 [0, 1, 2, 6, 18],
  .reg (.q (some 58) none (.mov (.tmp 7)) (.q (some 59) none (.bin .sub (.tmp 58) (.const (.int .i64 15))) (.q (some 60) none (.iadrA 64 1 (.tmp 6) (.tmp 59)) (.q (some 61) none (.ld1 (.tmp 60)) (.q (some 62) none (.mov (.tmp 7)) (.q (some 63) none (.bin .sub (.tmp 62) (.const (.int .i64 2))) (.q (some 64) none (.iadrA 64 1 (.tmp 6) (.tmp 63)) (.q (some 65) none (.ld1 (.tmp 64)) (.q (some 8) none (.mov (.tmp 61)) (.q (some 9) none (.mov (.tmp 65)) .done)))))))))) true 23 [0, 1, 2, 6, 7, 8, 9, 18],
  .reg (.q (some 23) none (.mov (.tmp 7)) (.q (some 24) none (.mov (.tmp 2)) (.q (some 25) none (.mov (.tmp 7)) (.q (some 26) none (.bin .mul (.const (.int .i64 4)) (.tmp 25)) (.q (some 27) none (.iadrS 1 (.tmp 24) (.tmp 26)) (.q (some 28) none (.ld1 (.tmp 27)) (.q (some 29) none (.cvi .u32 (.tmp 28)) (.q (some 30) none (.bin .shl (.tmp 29) (.const (.int .u64 24))) (.q (some 31) none (.mov (.tmp 2)) (.q (some 32) none (.mov (.tmp 7)) (.q (some 33) none (.bin .mul (.const (.int .i64 4)) (.tmp 32)) (.q (some 34) none (.bin .add (.tmp 33) (.const (.int .i64 1))) (.q (some 35) none (.iadrS 1 (.tmp 31) (.tmp 34)) (.q (some 36) none (.ld1 (.tmp 35)) (.q (some 37) none (.cvi .u32 (.tmp 36)) (.q (some 38) none (.bin .shl (.tmp 37) (.const (.int .u64 16))) (.q (some 39) none (.bin .or (.tmp 30) (.tmp 38)) (.q (some 40) none (.mov (.tmp 2)) (.q (some 41) none (.mov (.tmp 7)) (.q (some 42) none (.bin .mul (.const (.int .i64 4)) (.tmp 41)) (.q (some 43) none (.bin .add (.tmp 42) (.const (.int .i64 2))) (.q (some 44) none (.iadrS 1 (.tmp 40) (.tmp 43)) (.q (some 45) none (.ld1 (.tmp 44)) (.q (some 46) none (.cvi .u32 (.tmp 45)) (.q (some 47) none (.bin .shl (.tmp 46) (.const (.int .u64 8))) (.q (some 48) none (.bin .or (.tmp 39) (.tmp 47)) (.q (some 49) none (.mov (.tmp 2)) (.q (some 50) none (.mov (.tmp 7)) (.q (some 51) none (.bin .mul (.const (.int .i64 4)) (.tmp 50)) (.q (some 52) none (.bin .add (.tmp 51) (.const (.int .i64 3))) (.q (some 53) none (.iadrS 1 (.tmp 49) (.tmp 52)) (.q (some 54) none (.ld1 (.tmp 53)) (.q (some 55) none (.cvi .u32 (.tmp 54)) (.q (some 56) none (.bin .or (.tmp 48) (.tmp 55)) (.q (some 57) none (.iadrA 64 1 (.tmp 6) (.tmp 23)) (.l none none (.st1 (.tmp 57) (.tmp 56)) [] .done)))))))))))))))))))))))))))))))))))) true 22 [0, 1, 2, 6, 18],
  .cnd (.tmp 22) 25 24,
  .reg (.q (some 21) none (.mov (.tmp 7)) (.q (some 22) none (.bin .lss (.tmp 21) (.const (.int .i64 16))) .done)) false 26 [0, 1, 2, 6, 7, 18, 22],
  .reg (.q (some 20) none (.mov (.tmp 18)) (.q (some 7) none (.mov (.tmp 20)) .done)) false 27 [0, 1, 2, 6, 7, 18],
  .cnd (.tmp 19) 28 20,
  .reg (.q (some 19) none (.bin .lss (.tmp 18) (.const (.int .i64 64))) .done) false 29 [0, 1, 2, 6, 18, 19],
  .reg (.q (some 18) none (.mov (.const (.int .i64 0))) .done) false 30 [0, 1, 2, 6, 18],
  .reg (.l (some 6) none (.alloc 97 [(64, (.int .u32 0))]) [] .done) false 31 [0, 1, 2, 6]
  ]
theorem c68_ok : cfgL Try.prog 68 = some (190, 32, c68.map Vc.Node.bare) := by kernel_rfl
/- (*strongbox/hash.Sum).Hash: entry 13 -/
def c69 : List Vc.Node := [
  .ret [.cN 2 32],
  .ret [.cN 2 32],
  .reg (.q (some 64) none (.ldN 32 (.tmp 4)) (.l none none (.stN 32 (.tmp 2) (.tmp 64)) [] .done)) false 1 [2],
  .jmp 8,
  .reg (.q (some 63) none (.bin .add (.tmp 33) (.const (.int .i64 1))) (.q (some 33) none (.mov (.tmp 63)) .done)) false 3 [2, 4, 32, 33],
  .reg (.q (some 37) none (.mov (.tmp 5)) (.q (some 38) none (.bin .mul (.const (.int .i64 4)) (.tmp 37)) (.q (some 39) none (.mov (.tmp 5)) (.q (some 40) none (.bin .mul (.const (.int .i64 4)) (.tmp 39)) (.q (some 41) none (.bin .add (.tmp 40) (.const (.int .i64 1))) (.q (some 42) none (.mov (.tmp 5)) (.q (some 43) none (.bin .mul (.const (.int .i64 4)) (.tmp 42)) (.q (some 44) none (.bin .add (.tmp 43) (.const (.int .i64 2))) (.q (some 45) none (.mov (.tmp 5)) (.q (some 46) none (.bin .mul (.const (.int .i64 4)) (.tmp 45)) (.q (some 47) none (.bin .add (.tmp 46) (.const (.int .i64 3))) (.q (some 48) none (.mov (.tmp 6)) (.q (some 49) none (.bin .shr (.tmp 48) (.const (.int .u64 24))) (.q (some 50) none (.cvi .u8 (.tmp 49)) (.q (some 51) none (.mov (.tmp 6)) (.q (some 52) none (.bin .shr (.tmp 51) (.const (.int .u64 16))) (.q (some 53) none (.cvi .u8 (.tmp 52)) (.q (some 54) none (.mov (.tmp 6)) (.q (some 55) none (.bin .shr (.tmp 54) (.const (.int .u64 8))) (.q (some 56) none (.cvi .u8 (.tmp 55)) (.q (some 57) none (.mov (.tmp 6)) (.q (some 58) none (.cvi .u8 (.tmp 57)) (.q (some 59) none (.iadrA 32 1 (.tmp 4) (.tmp 38)) (.l none none (.st1 (.tmp 59) (.tmp 50)) [] (.q (some 60) none (.iadrA 32 1 (.tmp 4) (.tmp 41)) (.l none none (.st1 (.tmp 60) (.tmp 53)) [] (.q (some 61) none (.iadrA 32 1 (.tmp 4) (.tmp 44)) (.l none none (.st1 (.tmp 61) (.tmp 56)) [] (.q (some 62) none (.iadrA 32 1 (.tmp 4) (.tmp 47)) (.l none none (.st1 (.tmp 62) (.tmp 58)) [] .done)))))))))))))))))))))))))))))) false 4 [2, 4, 32, 33],
  .reg (.q (some 35) none (.mov (.tmp 33)) (.q (some 36) none (.idxA 8 1 false (.tmp 32) (.tmp 33)) (.q (some 5) none (.mov (.tmp 35)) (.q (some 6) none (.mov (.tmp 36)) .done)))) false 5 [2, 4, 5, 6, 32, 33],
  .cnd (.tmp 34) 6 2,
  .reg (.q (some 34) none (.bin .lss (.tmp 33) (.const (.int .i64 8))) .done) false 7 [2, 4, 32, 33, 34],
  .reg (.q (some 31) none (.fadr 0 (.tmp 3)) (.q (some 32) none (.ldN 8 (.tmp 31)) (.q (some 33) none (.mov (.const (.int .i64 0))) .done))) false 8 [2, 4, 32, 33],
  .reg (.l (some 4) none (.alloc 36 [(32, (.int .u8 0))]) [] .done) false 9 [2, 3, 4],
  .reg (.q (some 25) none (.mov (.tmp 0)) (.q (some 26) none (.nc (.tmp 25)) (.q (some 27) none (.fadr 9 (.tmp 26)) (.q (some 28) none (.ld1 (.tmp 27)) (.l (some 29) none (.call 76 [(.tmp 28), (.const (.int .i64 64)), (.const (.int .i64 8))]) [] (.l (some 30) none (.call 55 [(.tmp 3), (.tmp 29)]) [] .done)))))) false 10 [2, 3],
  .reg (.q (some 7) none (.mov (.tmp 0)) (.q (some 8) none (.nc (.tmp 7)) (.q (some 9) none (.fadr 0 (.tmp 8)) (.q (some 10) none (.ldN 8 (.tmp 9)) (.q (some 11) none (.mov (.tmp 0)) (.q (some 12) none (.nc (.tmp 11)) (.q (some 13) none (.fadr 8 (.tmp 12)) (.q (some 14) none (.ld1 (.tmp 13)) (.q (some 16) none (.mov (.tmp 0)) (.q (some 17) none (.nc (.tmp 16)) (.q (some 18) none (.fadr 9 (.tmp 17)) (.q (some 19) none (.ld1 (.tmp 18)) (.q (some 20) none (.mov (.tmp 0)) (.q (some 21) none (.nc (.tmp 20)) (.q (some 22) none (.fadr 10 (.tmp 21)) (.q (some 23) none (.ld1 (.tmp 22)) (.alt (.l (some 15) none (.call 75 [(.tmp 14)]) [⟨23, none, (.ld1 (.tmp 22))⟩, ⟨19, none, (.ld1 (.tmp 18))⟩, ⟨10, none, (.ldN 8 (.tmp 9))⟩] (.q (some 24) none (.bld [.x 8 (.tmp 10), .x 1 (.tmp 15), .x 1 (.tmp 19), .x 1 (.tmp 23)]) (.l (some 3) none (.alloc 86 [(8, (.int .u32 0)), (1, (.slice none 0 0)), (1, (.int .u64 0)), (1, (.bool false))]) [⟨23, none, (.ld1 (.tmp 22))⟩, ⟨19, none, (.ld1 (.tmp 18))⟩, ⟨10, none, (.ldN 8 (.tmp 9))⟩] (.l none none (.stN 11 (.tmp 3) (.tmp 24)) [] .done)))) (.l (some 3) none (.alloc 86 [(8, (.int .u32 0)), (1, (.slice none 0 0)), (1, (.int .u64 0)), (1, (.bool false))]) [⟨23, none, (.ld1 (.tmp 22))⟩, ⟨19, none, (.ld1 (.tmp 18))⟩, ⟨14, none, (.ld1 (.tmp 13))⟩, ⟨10, none, (.ldN 8 (.tmp 9))⟩] (.l (some 15) none (.call 75 [(.tmp 14)]) [⟨23, none, (.ld1 (.tmp 22))⟩, ⟨19, none, (.ld1 (.tmp 18))⟩, ⟨10, none, (.ldN 8 (.tmp 9))⟩] (.q (some 24) none (.bld [.x 8 (.tmp 10), .x 1 (.tmp 15), .x 1 (.tmp 19), .x 1 (.tmp 23)]) (.l none none (.stN 11 (.tmp 3) (.tmp 24)) [] .done))))))))))))))))))))) true 11 [0, 2, 3],
  .reg (.l (some 2) none (.alloc 36 [(32, (.int .u8 0))]) [] .done) false 12 [0, 2]
  ]
theorem c69_ok : cfgL Try.prog 69 = some (65, 13, c69.map Vc.Node.bare) := by kernel_rfl
/- strongbox/hash.Sum256: entry 5 -/
def c70 : List Vc.Node := [
  .ret [.cN 2 32],
  .ret [.cN 2 32],
  .reg (.l (some 6) none (.call 69 [(.tmp 3)]) [] (.l none none (.stN 32 (.tmp 2) (.tmp 6)) [] .done)) false 1 [2],
  .reg (.q (some 4) none (.mov (.tmp 0)) (.l (some 5) none (.call 55 [(.tmp 3), (.tmp 4)]) [] .done)) false 2 [2, 3],
  .reg (.l (some 3) none (.alloc 86 [(8, (.int .u32 0)), (1, (.slice none 0 0)), (1, (.int .u64 0)), (1, (.bool false))]) [] .done) false 3 [0, 2, 3],
  .reg (.l (some 2) none (.alloc 36 [(32, (.int .u8 0))]) [] .done) false 4 [0, 2]
  ]
theorem c70_ok : cfgL Try.prog 70 = some (7, 5, c70.map Vc.Node.bare) := by kernel_rfl
/- strongbox/strongboxref02.fill: entry 27 -/
def c71 : List Vc.Node := [
  .ret [.t 8],
  .ret [.t 8],
  .reg (.q (some 71) none (.mov (.tmp 9)) (.q (some 8) none (.mov (.tmp 71)) .done)) false 1 [8],
  .jmp 10,
  .reg (.q (some 51) none (.mov (.tmp 13)) (.q (some 52) none (.bin .add (.tmp 51) (.const (.int .i64 1))) (.q (some 13) none (.mov (.tmp 52)) .done))) false 3 [2, 3, 9, 11, 13],
  .reg (.q (some 54) none (.mov (.tmp 9)) (.q (some 55) none (.mov (.tmp 11)) (.q (some 56) none (.mov (.tmp 13)) (.q (some 57) none (.iadrS 1 (.tmp 55) (.tmp 56)) (.q (some 58) none (.ld1 (.tmp 57)) (.l (some 59) none (.bldS 5 1 [(.tmp 58)]) [] (.l (some 60) none (.app 5 1 1 [(1, (.int .u8 0))] (.tmp 54) (.tmp 59)) [] (.q (some 9) none (.mov (.tmp 60)) .done)))))))) false 4 [2, 3, 9, 11, 13],
  .reg (.q (some 61) none (.mov (.tmp 9)) (.q (some 62) none (.mov (.tmp 11)) (.q (some 63) none (.mov (.tmp 2)) (.q (some 64) none (.bin .sub (.tmp 63) (.const (.int .i64 1))) (.q (some 65) none (.mov (.tmp 13)) (.q (some 66) none (.bin .sub (.tmp 64) (.tmp 65)) (.q (some 67) none (.iadrS 1 (.tmp 62) (.tmp 66)) (.q (some 68) none (.ld1 (.tmp 67)) (.l (some 69) none (.bldS 5 1 [(.tmp 68)]) [] (.l (some 70) none (.app 5 1 1 [(1, (.int .u8 0))] (.tmp 61) (.tmp 69)) [] (.q (some 9) none (.mov (.tmp 70)) .done))))))))))) false 4 [2, 3, 9, 11, 13],
  .cnd (.tmp 53) 5 6,
  .reg (.q (some 53) none (.mov (.tmp 3)) .done) false 7 [2, 3, 9, 11, 13, 53],
  .cnd (.tmp 50) 8 2,
  .reg (.q (some 48) none (.mov (.tmp 13)) (.q (some 49) none (.mov (.tmp 2)) (.q (some 50) none (.bin .lss (.tmp 48) (.tmp 49)) .done))) false 9 [2, 3, 9, 11, 13, 50],
  .reg (.q (some 13) none (.mov (.const (.int .i64 0))) .done) false 10 [2, 3, 9, 11, 13],
  .jmp 17,
  .reg (.q (some 38) none (.mov (.tmp 12)) (.q (some 39) none (.bin .add (.tmp 38) (.const (.int .i64 1))) (.q (some 12) none (.mov (.tmp 39)) .done))) false 12 [2, 3, 9, 10, 11, 12],
  .reg (.q (some 46) none (.mov (.tmp 10)) (.q (some 47) none (.bin .quo (.tmp 46) (.const (.int .u64 256))) (.q (some 10) none (.mov (.tmp 47)) .done))) false 13 [2, 3, 9, 10, 11, 12],
  .reg (.q (some 40) none (.mov (.tmp 11)) (.q (some 41) none (.mov (.tmp 10)) (.q (some 42) none (.bin .rem (.tmp 41) (.const (.int .u64 256))) (.q (some 43) none (.cvi .u8 (.tmp 42)) (.l (some 44) none (.bldS 5 1 [(.tmp 43)]) [] (.l (some 45) none (.app 5 1 1 [(1, (.int .u8 0))] (.tmp 40) (.tmp 44)) [] (.q (some 11) none (.mov (.tmp 45)) .done))))))) false 14 [2, 3, 9, 10, 11, 12],
  .cnd (.tmp 37) 15 11,
  .reg (.q (some 35) none (.mov (.tmp 12)) (.q (some 36) none (.mov (.tmp 2)) (.q (some 37) none (.bin .lss (.tmp 35) (.tmp 36)) .done))) false 16 [2, 3, 9, 10, 11, 12, 37],
  .reg (.q (some 12) none (.mov (.const (.int .i64 0))) .done) false 17 [2, 3, 9, 10, 11, 12],
  .reg (.q (some 11) none (.mov (.const (.slice none 0 0))) .done) false 18 [2, 3, 9, 10, 11],
  .reg (.q (some 31) none (.mov (.tmp 0)) (.q (some 32) none (.len (.tmp 31)) (.q (some 33) none (.cvi .u64 (.tmp 32)) (.q (some 34) none (.bin .mul (.tmp 33) (.const (.int .u64 8))) (.q (some 10) none (.mov (.tmp 34)) .done))))) false 19 [2, 3, 9, 10],
  .jmp 24,
  .reg (.q (some 28) none (.mov (.tmp 9)) (.l (some 29) none (.bldS 5 1 [(.const (.int .u8 0))]) [] (.l (some 30) none (.app 5 1 1 [(1, (.int .u8 0))] (.tmp 28) (.tmp 29)) [] (.q (some 9) none (.mov (.tmp 30)) .done)))) false 21 [0, 1, 2, 3, 9],
  .cnd (.tmp 27) 22 20,
  .reg (.q (some 20) none (.mov (.tmp 9)) (.q (some 21) none (.len (.tmp 20)) (.q (some 22) none (.mov (.tmp 1)) (.q (some 23) none (.bin .rem (.tmp 21) (.tmp 22)) (.q (some 24) none (.mov (.tmp 1)) (.q (some 25) none (.mov (.tmp 2)) (.q (some 26) none (.bin .sub (.tmp 24) (.tmp 25)) (.q (some 27) none (.bin .neq (.tmp 23) (.tmp 26)) .done)))))))) false 23 [0, 1, 2, 3, 9, 27],
  .reg (.q (some 17) none (.mov (.tmp 9)) (.l (some 18) none (.bldS 5 1 [(.const (.int .u8 128))]) [] (.l (some 19) none (.app 5 1 1 [(1, (.int .u8 0))] (.tmp 17) (.tmp 18)) [] (.q (some 9) none (.mov (.tmp 19)) .done)))) false 24 [0, 1, 2, 3, 9],
  .reg (.l (some 14) none (.bldS 5 1 []) [] (.q (some 15) none (.mov (.tmp 0)) (.l (some 16) none (.app 5 1 1 [(1, (.int .u8 0))] (.tmp 14) (.tmp 15)) [] (.q (some 9) none (.mov (.tmp 16)) .done)))) false 25 [0, 1, 2, 3, 9],
  .reg (.q (some 8) none (.mov (.const (.slice none 0 0))) .done) false 26 [0, 1, 2, 3]
  ]
theorem c71_ok : cfgL Try.prog 71 = some (72, 27, c71.map Vc.Node.bare) := by kernel_rfl
/- strongbox/strongboxref02.rot: entry 3 -/
def c72 : List Vc.Node := [
  .ret [.t 4],
  .ret [.t 4],
  .reg (.q (some 5) none (.mov (.tmp 0)) (.q (some 6) none (.mov (.tmp 1)) (.q (some 7) none (.cvi .u64 (.tmp 6)) (.q (some 8) none (.bin .shl (.tmp 5) (.tmp 7)) (.q (some 9) none (.mov (.tmp 0)) (.q (some 10) none (.mov (.tmp 1)) (.q (some 11) none (.bin .sub (.const (.int .i64 32)) (.tmp 10)) (.q (some 12) none (.cvi .u64 (.tmp 11)) (.q (some 13) none (.bin .shr (.tmp 9) (.tmp 12)) (.q (some 14) none (.bin .or (.tmp 8) (.tmp 13)) (.q (some 4) none (.mov (.tmp 14)) .done))))))))))) false 1 [4],
  .reg (.q (some 4) none (.mov (.const (.int .u32 0))) .done) false 2 [0, 1]
  ]
theorem c72_ok : cfgL Try.prog 72 = some (15, 3, c72.map Vc.Node.bare) := by kernel_rfl
/- strongbox/hash.right: entry 3 -/
def c74 : List Vc.Node := [
  .ret [.t 4],
  .ret [.t 4],
  .reg (.q (some 5) none (.mov (.tmp 0)) (.q (some 6) none (.mov (.tmp 1)) (.q (some 7) none (.neg (.tmp 6)) (.l (some 8) none (.call 77 [(.tmp 5), (.tmp 7)]) [] (.q (some 4) none (.mov (.tmp 8)) .done))))) false 1 [4],
  .reg (.q (some 4) none (.mov (.const (.int .u32 0))) .done) false 2 [0, 1]
  ]
theorem c74_ok : cfgL Try.prog 74 = some (9, 3, c74.map Vc.Node.bare) := by kernel_rfl
/- slices.Clone[[]byte,byte]: entry 7 -/
def c75 : List Vc.Node := [
  .ret [.t 2],
  .ret [.t 2],
  .reg (.l (some 5) none (.bldS 5 1 []) [] (.q (some 6) none (.mov (.tmp 0)) (.l (some 7) none (.app 5 1 1 [(1, (.int .u8 0))] (.tmp 5) (.tmp 6)) [] (.q (some 2) none (.mov (.tmp 7)) .done)))) false 1 [2],
  .ret [.t 2],
  .reg (.q (some 2) none (.mov (.const (.slice none 0 0))) .done) false 3 [2],
  .cnd (.tmp 4) 4 2,
  .reg (.q (some 3) none (.mov (.tmp 0)) (.q (some 4) none (.eqS false (.tmp 3) (.const (.slice none 0 0))) .done)) false 5 [0, 4],
  .reg (.q (some 2) none (.mov (.const (.slice none 0 0))) .done) false 6 [0]
  ]
theorem c75_ok : cfgL Try.prog 75 = some (8, 7, c75.map Vc.Node.bare) := by kernel_rfl
/- strongbox/hash.tail: entry 16 -/
def c76 : List Vc.Node := [
  .ret [.t 6],
  .ret [.t 6],
  .reg (.q (some 56) none (.mov (.tmp 8)) (.q (some 6) none (.mov (.tmp 56)) .done)) false 1 [6],
  .reg (.q (some 48) none (.mov (.tmp 8)) (.q (some 49) none (.mov (.tmp 8)) (.q (some 50) none (.len (.tmp 49)) (.q (some 51) none (.bin .sub (.tmp 50) (.const (.int .i64 9))) (.q (some 52) none (.mov (.tmp 0)) (.q (some 53) none (.bin .shr (.tmp 52) (.const (.int .u64 61))) (.q (some 54) none (.cvi .u8 (.tmp 53)) (.q (some 55) none (.iadrS 1 (.tmp 48) (.tmp 51)) (.l none none (.st1 (.tmp 55) (.tmp 54)) [] .done))))))))) false 2 [8],
  .cnd (.tmp 47) 3 2,
  .reg (.q (some 46) none (.mov (.tmp 2)) (.q (some 47) none (.bin .gtr (.tmp 46) (.const (.int .i64 8))) .done)) false 4 [0, 8, 47],
  .jmp 11,
  .reg (.q (some 45) none (.bin .add (.tmp 29) (.const (.int .i64 1))) (.q (some 29) none (.mov (.tmp 45)) .done)) false 6 [0, 2, 8, 29],
  .reg (.q (some 32) none (.mov (.tmp 8)) (.q (some 33) none (.mov (.tmp 8)) (.q (some 34) none (.len (.tmp 33)) (.q (some 35) none (.bin .sub (.tmp 34) (.const (.int .i64 1))) (.q (some 36) none (.mov (.tmp 9)) (.q (some 37) none (.bin .sub (.tmp 35) (.tmp 36)) (.q (some 38) none (.mov (.tmp 0)) (.q (some 39) none (.bin .shl (.tmp 38) (.const (.int .u64 3))) (.q (some 40) none (.mov (.tmp 9)) (.q (some 41) none (.bin .mul (.const (.int .i64 8)) (.tmp 40)) (.q (some 42) none (.bin .shr (.tmp 39) (.tmp 41)) (.q (some 43) none (.cvi .u8 (.tmp 42)) (.q (some 44) none (.iadrS 1 (.tmp 32) (.tmp 37)) (.l none none (.st1 (.tmp 44) (.tmp 43)) [] .done)))))))))))))) false 7 [0, 2, 8, 29],
  .reg (.q (some 31) none (.mov (.tmp 29)) (.q (some 9) none (.mov (.tmp 31)) .done)) false 8 [0, 2, 8, 9, 29],
  .cnd (.tmp 30) 9 5,
  .reg (.q (some 30) none (.bin .lss (.tmp 29) (.const (.int .i64 8))) .done) false 10 [0, 2, 8, 29, 30],
  .reg (.q (some 29) none (.mov (.const (.int .i64 0))) .done) false 11 [0, 2, 8, 29],
  .reg (.q (some 27) none (.mov (.tmp 8)) (.q (some 28) none (.iadrS 1 (.tmp 27) (.const (.int .i64 0))) (.l none none (.st1 (.tmp 28) (.const (.int .u8 128))) [] .done))) false 12 [0, 2, 8],
  .reg (.q (some 22) none (.mov (.tmp 7)) (.q (some 23) none (.bin .add (.const (.int .i64 1)) (.tmp 22)) (.q (some 24) none (.mov (.tmp 2)) (.q (some 25) none (.bin .add (.tmp 23) (.tmp 24)) (.l (some 26) none (.mkS 5 1 1 [(1, (.int .u8 0))] (.tmp 25) (.tmp 25)) [] (.q (some 8) none (.mov (.tmp 26)) .done)))))) false 13 [0, 2, 8],
  .reg (.q (some 10) none (.mov (.tmp 1)) (.q (some 11) none (.bin .sub (.tmp 10) (.const (.int .i64 1))) (.q (some 12) none (.mov (.tmp 0)) (.q (some 13) none (.mov (.tmp 1)) (.q (some 14) none (.cvi .u64 (.tmp 13)) (.q (some 15) none (.bin .rem (.tmp 12) (.tmp 14)) (.q (some 16) none (.cvi .i64 (.tmp 15)) (.q (some 17) none (.mov (.tmp 2)) (.q (some 18) none (.bin .add (.tmp 16) (.tmp 17)) (.q (some 19) none (.mov (.tmp 1)) (.q (some 20) none (.bin .rem (.tmp 18) (.tmp 19)) (.q (some 21) none (.bin .sub (.tmp 11) (.tmp 20)) (.q (some 7) none (.mov (.tmp 21)) .done))))))))))))) false 14 [0, 2, 7],
  .reg (.q (some 6) none (.mov (.const (.slice none 0 0))) .done) false 15 [0, 1, 2]
  ]
theorem c76_ok : cfgL Try.prog 76 = some (57, 16, c76.map Vc.Node.bare) := by kernel_rfl
/- math/bits.RotateLeft32: entry 4 -/
def c77 : List Vc.Node := [
  .ret [.t 4],
  .ret [.t 4],
  .reg (.q (some 9) none (.mov (.tmp 0)) (.q (some 10) none (.mov (.tmp 5)) (.q (some 11) none (.bin .shl (.tmp 9) (.tmp 10)) (.q (some 12) none (.mov (.tmp 0)) (.q (some 13) none (.mov (.tmp 5)) (.q (some 14) none (.bin .sub (.const (.int .u64 32)) (.tmp 13)) (.q (some 15) none (.bin .shr (.tmp 12) (.tmp 14)) (.q (some 16) none (.bin .or (.tmp 11) (.tmp 15)) (.q (some 4) none (.mov (.tmp 16)) .done))))))))) false 1 [4],
  .reg (.q (some 6) none (.mov (.tmp 1)) (.q (some 7) none (.cvi .u64 (.tmp 6)) (.q (some 8) none (.bin .and (.tmp 7) (.const (.int .u64 31))) (.q (some 5) none (.mov (.tmp 8)) .done)))) false 2 [0, 5],
  .reg (.q (some 4) none (.mov (.const (.int .u32 0))) .done) false 3 [0, 1]
  ]
theorem c77_ok : cfgL Try.prog 77 = some (17, 4, c77.map Vc.Node.bare) := by kernel_rfl
end Go.Proofs
namespace Go.Proofs
open Go.Vc
set_option maxRecDepth 10000

/-- The bytes as values. -/
def bv (bs : List Int) : List Value := bs.map (.int .u8)
theorem bv_len (bs : List Int) : (bv bs).length = bs.length := by simp [bv]
theorem bv_app (a b : List Int) : bv (a ++ b) = bv a ++ bv b := by simp [bv]
theorem bv_flat (bs : List Int) : flat (bv bs).toArray := by
  intro v hv; simp [bv] at hv; obtain ⟨_, _, rfl⟩ := hv; rfl
theorem bv_inj {a b : List Int} : bv a = bv b ↔ a = b := by
  constructor
  · intro h
    exact List.map_inj_right (f := Value.int .u8) (fun x y h => by cases h; rfl) |>.1 h
  · rintro rfl; rfl
def byt (bs : List Int) : Prop := ∀ b ∈ bs, 0 ≤ b ∧ b ≤ 255
theorem byt_app {a b : List Int} (h : byt a) (k : byt b) : byt (a ++ b) := by
  intro x hx; rcases List.mem_append.1 hx with hx | hx; exact h x hx; exact k x hx
theorem byt_take {a : List Int} (h : byt a) (n : Nat) : byt (a.take n) := fun x hx => h x (List.mem_of_mem_take hx)
theorem byt_drop {a : List Int} (h : byt a) (n : Nat) : byt (a.drop n) := fun x hx => h x (List.mem_of_mem_drop hx)
theorem byt_nil : byt [] := fun _ h => by cases h

/-- A slice that reads as bytes. -/
structure Rd (w : World) (v : Value) (bs : List Int) : Prop where
  is : ∃ q c, v = .slice q bs.length c ∧ bs.length ≤ c
  mx : bs.length ≤ maxLen
  rd : rdS w 1 v = some (bv bs).toArray
theorem Rd.keep {S : Nat → Prop} {w w' : World} {v : Value} {bs : List Int} (h : Rd w v bs) (k : Keep S w w') (hS : ∀ q n c, v = .slice (some q) n c → ¬ S q.block) : Rd w' v bs := by
  obtain ⟨⟨q, c, rfl, hc⟩, hm, hr⟩ := h
  refine ⟨⟨q, c, rfl, hc⟩, hm, ?_⟩
  simp only [rdS] at hr ⊢
  split
  · rename_i h0; rw [if_pos h0] at hr; exact hr
  · rename_i h0
    rw [if_neg h0] at hr
    split at hr
    · rename_i b o
      rw [rdN_heap] at hr ⊢
      cases hb : w.heap[b]? with
      | none => rw [hb] at hr; cases hr
      | some x =>
        have hk := k.at hb (hS _ _ _ rfl)
        simp only [hk]
        rw [hb] at hr; exact hr
    · cases hr
theorem Rd.ext {w w' : World} {v : Value} {bs : List Int} (h : Rd w v bs) (k : Ext w w') : Rd w' v bs := h.keep k fun _ _ _ _ h => h
theorem Rd.len {w : World} {v : Value} {bs : List Int} (h : Rd w v bs) : lenR v = some (.int .i64 bs.length) := by
  obtain ⟨⟨q, c, rfl, _⟩, _, _⟩ := h; rfl
theorem Rd.one {w : World} {v : Value} {bs : List Int} (h : Rd w v bs) : v.oneCell' = true := by
  obtain ⟨⟨q, c, rfl, _⟩, _, _⟩ := h; rfl
theorem Rd.at {w : World} {v : Value} {bs : List Int} (h : Rd w v bs) {i : Nat} (hi : i < bs.length) :
    ∃ b o c, v = .slice (some ⟨b, o, none⟩) bs.length c ∧ cellO w.heap[b]? (o + i) = some (.int .u8 bs[i]) := by
  obtain ⟨⟨q, c, rfl, _⟩, hm, hr⟩ := h
  simp only [rdS] at hr
  rw [if_neg (by omega)] at hr
  split at hr
  · rename_i b o
    refine ⟨b, o, c, rfl, ?_⟩
    rw [rdN_heap] at hr
    cases hb : w.heap[b]? with
    | none => rw [hb] at hr; cases hr
    | some x =>
      rw [hb] at hr
      cases x with
      | cells d t fr =>
        simp only [rdO] at hr
        split at hr
        · rename_i hle
          simp only [Option.some.injEq] at hr
          rw [cellO_some]
          have h1 : (d.extract o (o + bs.length * 1))[i]? = some (.int .u8 bs[i]) := by rw [hr]; simp [bv, hi]
          rw [Array.getElem?_extract] at h1
          split at h1
          · exact h1
          · cases h1
        · cases hr
      | _ => cases hr
  · cases hr
/-- The text of some bytes. -/
def strOf (bs : List Int) : ByteArray := ⟨(bs.map fun m => UInt8.ofNat m.toNat).toArray⟩
theorem bytesOf_bv (bs : List Int) : bytesOf (bv bs) = some (bs.map fun m => UInt8.ofNat m.toNat) := by
  induction bs with
  | nil => rfl
  | cons b bs ih =>
    have : bv (b :: bs) = .int .u8 b :: bv bs := rfl
    rw [this, bytesOf, ih]; rfl
theorem Rd.b2s {w : World} {v : Value} {bs : List Int} (h : Rd w v bs) : b2sR w v = some (.string (strOf bs)) := by
  obtain ⟨⟨q, c, rfl, hc⟩, hm, hr⟩ := h
  cases q with
  | none =>
    have hb0 : bs = [] := by
      cases bs with
      | nil => rfl
      | cons b bs => simp [rdS] at hr
    subst hb0; rfl
  | some a =>
    simp only [b2sR]
    by_cases h0 : bs.length = 0
    · have : bs = [] := List.eq_nil_of_length_eq_zero h0
      subst this; rfl
    · rw [if_neg h0]
      simp only [rdS, if_neg h0] at hr
      obtain ⟨b, o, sp⟩ := a
      cases sp with
      | some x => cases hr
      | none =>
        simp only [Nat.mul_one] at hr
        simp only [hr, Option.bind_some, bytesOf_bv, Option.map_some]
        rfl
theorem strOf_inj : ∀ {a b : List Int}, byt a → byt b → (strOf a = strOf b ↔ a = b) := by
  intro a b ha hb
  constructor
  · intro h
    have h1 : a.map (fun m => UInt8.ofNat m.toNat) = b.map (fun m => UInt8.ofNat m.toNat) := by
      have := congrArg (fun x : ByteArray => x.data.toList) h
      simpa [strOf] using this
    clear h
    induction a generalizing b with
    | nil => cases b with
      | nil => rfl
      | cons y b => simp at h1
    | cons x a ih =>
      cases b with
      | nil => simp at h1
      | cons y b =>
        simp only [List.map_cons, List.cons.injEq] at h1
        have hx := ha x (by simp)
        have hy := hb y (by simp)
        have h2 := congrArg UInt8.toNat h1.1
        simp only [UInt8.toNat_ofNat'] at h2
        have e : x = y := by omega
        rw [e, ih (fun z hz => ha z (by simp [hz])) (fun z hz => hb z (by simp [hz])) h1.2]
  · rintro rfl; rfl
/-- A part of the bytes. -/
theorem Rd.cut {w : World} {q : Option Addr} {n c : Nat} {bs : List Int} (h : Rd w (.slice q n c) bs) {l j : Nat} (hl : l ≤ j) (hj : j ≤ n) : Rd w (.slice (advA 1 q c l) (j - l) (c - l)) ((bs.take j).drop l) := by
  obtain ⟨⟨q', c', e, hc⟩, hm, hr⟩ := h
  cases e
  have hlen : ((bs.take j).drop l).length = j - l := by rw [List.length_drop, List.length_take]; omega
  refine ⟨⟨_, _, by rw [hlen], by omega⟩, by omega, ?_⟩
  simp only [rdS] at hr ⊢
  split
  · rename_i h0
    have : (bs.take j).drop l = [] := List.eq_nil_of_length_eq_zero (by omega)
    rw [this]; rfl
  · rename_i h0
    rw [if_neg (by omega)] at hr
    split at hr
    · rename_i b o
      rw [rdN_heap] at hr
      have hadv : advA 1 (some ⟨b, o, none⟩) c l = some ⟨b, o + l, none⟩ := by
        unfold advA
        rw [if_neg (by omega)]
        simp only [Option.map_some, Addr.add, Nat.mul_one]
        split
        · rename_i h0; subst h0; rfl
        · rfl
      rw [hadv]
      simp only [rdN_heap]
      cases hb : w.heap[b]? with
      | none => rw [hb] at hr; cases hr
      | some x =>
        rw [hb] at hr
        cases x with
        | cells d t fr =>
          simp only [rdO] at hr ⊢
          split at hr
          · rw [if_pos (by omega)]
            simp only [Option.some.injEq] at hr ⊢
            apply Array.ext'
            have h3 := congrArg (fun x => (x.toList.take j).drop l) hr
            simp only [Array.toList_extract, List.extract_eq_take_drop, List.take_take, List.drop_take, List.drop_drop] at h3 ⊢
            rw [show o + l + (j - l) * 1 - (o + l) = j - l by omega]
            rw [show min j (o + bs.length * 1 - o) - l = j - l by omega] at h3
            rw [h3]; simp [bv, List.map_take, List.map_drop]
          · cases hr
        | _ => cases hr
    · cases hr
theorem Rd.nil (w : World) : Rd w (.slice none 0 0) [] := ⟨⟨none, 0, rfl, Nat.le_refl _⟩, Nat.zero_le _, rfl⟩

/-- A slice of bytes of one's own. -/
abbrev Own1 (w : World) (v : Value) (bs : List Int) : Prop := w.ownsRow 0 5 1 v bs.length (bv bs)
theorem Own1.rd {w : World} {v : Value} {bs : List Int} (h : Own1 w v bs) : Rd w v bs := by
  refine ⟨?_, row_max h, rdS_own h⟩
  obtain ⟨_, ⟨rfl, h0⟩ | ⟨g, cap, cur, rfl, _, _, hn, _⟩⟩ := h
  · exact ⟨none, 0, by rw [h0], by omega⟩
  · exact ⟨_, _, rfl, hn⟩
theorem Own1.nil (w : World) : Own1 w (.slice none 0 0) [] := ⟨rfl, .inl ⟨rfl, rfl⟩⟩
theorem row_type {w : World} {base el size n : Nat} {v : Value} {xs : List Value} (h : w.ownsRow base el size v n xs) {g : Nat} (hg : v.ownBlock = some g) : ∃ cur, w.heap[g]? = some (.cells cur el (0, 0)) := by
  obtain ⟨_, ⟨rfl, _⟩ | ⟨g', cap, cur, rfl, hbg, hh, _⟩⟩ := h
  · cases hg
  · cases hg; exact ⟨cur, hh⟩
/-- 'b' is the block of the slice. -/
def blk (v : Value) (g : Nat) : Prop := v.ownBlock = some g
theorem Own1.lt {w : World} {v : Value} {bs : List Int} (h : Own1 w v bs) {g : Nat} (hg : blk v g) : g < w.heap.size := by
  obtain ⟨cur, hc⟩ := row_type h hg
  exact lt_of_heap hc
theorem Own1.keep {S : Nat → Prop} {w w' : World} {v : Value} {bs : List Int} (h : Own1 w v bs) (k : Keep S w w') (hS : ∀ g, blk v g → ¬ S g) : Own1 w' v bs := ownsRow_keep h k hS
theorem Own1.ext {w w' : World} {v : Value} {bs : List Int} (h : Own1 w v bs) (k : Ext w w') : Own1 w' v bs := ownsRow_keep h k fun _ _ h => h
theorem own_lit {w : World} {el size n : Nat} {cs : List Value} (hl : cs.length = n * size) (hn : n ≤ maxLen) : (w.alloc (.cells cs.toArray el)).ownsRow 0 el size (.slice (some ⟨w.heap.size, 0, none⟩) n n) n cs := by
  refine ⟨hl, .inr ⟨w.heap.size, n, cs.toArray, rfl, Nat.zero_le _, heap_new _ _ _ rfl, Nat.le_refl _, hn, by simp [hl], ?_⟩⟩
  rw [← hl]; simp
theorem own_lit1 {w : World} {bs : List Int} (hn : bs.length ≤ maxLen) : Own1 (w.alloc (.cells (bv bs).toArray 5)) (.slice (some ⟨w.heap.size, 0, none⟩) bs.length bs.length) bs :=
  own_lit (by rw [bv_len, Nat.mul_one]) hn

/-- 'append' of bytes onto a slice of one's own. -/
theorem appB {w : World} {v x : Value} {bs news : List Int} {K : Value → World → Prop} (h : Own1 w v bs) (hx : Rd w x news) (hlen : bs.length + news.length ≤ 1000000000)
    (hk : ∀ v' w', Own1 w' v' (bs ++ news) → Keep (blk v) w w' → (∀ g, blk v' g → blk v g ∨ w.heap.size ≤ g) → K v' w') : appV 5 1 1 [.int .u8 0] v x w K := by
  obtain ⟨⟨q, c, rfl, hc⟩, hm, hr⟩ := hx
  have hml : maxLen = 9223372036854775807 := rfl
  refine appV_own3 h rfl hr (bv_flat news) (by omega) (by omega) rfl (Nat.zero_le _) (by omega) fun v' w' ho hg hb => hk v' w' ?_ ?_ hb
  · have e : bv (bs ++ news) = bv bs ++ (bv news).toArray.toList := by rw [bv_app]
    show w'.ownsRow 0 5 1 v' (bs ++ news).length (bv (bs ++ news))
    rw [e, List.length_append]; exact ho
  · exact (Keep.refl _ w).grown hg fun k _ h => h
/-- The same, behind a literal of bytes. -/
theorem appL {w : World} {v : Value} {bs news : List Int} {K : Value → World → Prop} (h : Own1 w v bs) (hlen : bs.length + news.length ≤ 1000000000)
    (hk : ∀ v' w', Own1 w' v' (bs ++ news) → Keep (blk v) w w' → (∀ g, blk v' g → blk v g ∨ w.heap.size ≤ g) → K v' w') :
    appV 5 1 1 [.int .u8 0] v (.slice (some ⟨w.heap.size, 0, none⟩) news.length news.length) (w.alloc (.cells (bv news).toArray 5)) K := by
  have hE : Ext w (w.alloc (.cells (bv news).toArray 5)) := (Keep.refl _ w).alloc _
  have hml : maxLen = 9223372036854775807 := rfl
  refine appB (h.ext hE) (own_lit1 (w := w) (bs := news) (by omega)).rd hlen fun v' w' h1 h2 h3 => hk v' w' h1 ((hE.mono fun _ h => h.elim).trans h2 fun _ _ h => h) fun g hg => ?_
  rcases h3 g hg with h | h
  · exact .inl h
  · exact .inr (by rw [size_alloc] at h; omega)
end Go.Proofs
namespace Go.Proofs
open Go.Vc
set_option maxRecDepth 10000

/-! ### 64 bits -/
def U64 (x : BitVec 64) : Value := .int .u64 (x.toNat : Int)
theorem U64_of (n : Nat) (h : n < 18446744073709551616) : Value.int .u64 (n : Int) = U64 (BitVec.ofNat 64 n) := by
  unfold U64
  rw [BitVec.toNat_ofNat, Nat.mod_eq_of_lt h]
theorem U64_shr (x : BitVec 64) (k : IntKind) (n : Nat) (h : n ≤ 64) : binR .shr (U64 x) (.int k (n : Int)) = some (U64 (x >>> n)) := by
  unfold U64
  rw [bin_shr, if_pos (by omega)]
  show some (Value.int .u64 ((x.toNat : Int).fdiv (2 ^ Nat.min (n : Int).toNat 64))) = _
  rw [Int.toNat_natCast, show Nat.min n 64 = n from Nat.min_eq_left h, Int.fdiv_eq_ediv_of_nonneg _ (Int.le_of_lt (Int.pow_pos (by decide))), BitVec.toNat_ushiftRight, Nat.shiftRight_eq_div_pow]
  congr 2
theorem U64_shl (x : BitVec 64) (k : IntKind) (n : Nat) (h : n ≤ 64) : binR .shl (U64 x) (.int k (n : Int)) = some (U64 (x <<< n)) := by
  unfold U64
  rw [bin_shl, if_pos (by omega)]
  show some (Value.int .u64 (IntKind.u64.wrap ((x.toNat : Int) * (2 ^ Nat.min (n : Int).toNat 64)))) = _
  rw [Int.toNat_natCast, show Nat.min n 64 = n from Nat.min_eq_left h, BitVec.toNat_shiftLeft, Nat.shiftLeft_eq, wrap_u64]
  congr 2
/-! ### 32 bits -/
def U32 (x : BitVec 32) : Value := .int .u32 (x.toNat : Int)
theorem w32_ofInt (x : BitVec 32) : BitVec.ofInt 32 (x.toNat : Int) = x := by
  rw [BitVec.ofInt_natCast, BitVec.ofNat_toNat, BitVec.setWidth_eq]
theorem w32_wrap (x : BitVec 32) : IntKind.u32.wrap (x.toNat : Int) = (x.toNat : Int) := by
  have := x.isLt
  rw [wrap_u32]; omega
theorem U32_xor (x y : BitVec 32) : binR .xor (U32 x) (U32 y) = some (U32 (x ^^^ y)) := by
  unfold U32
  rw [bin_xor]
  show some (Value.int .u32 (IntKind.u32.wrap ((BitVec.ofInt 32 (x.toNat : Int) ^^^ BitVec.ofInt 32 (y.toNat : Int)).toNat : Int))) = _
  rw [w32_ofInt, w32_ofInt, w32_wrap]
theorem U32_and (x y : BitVec 32) : binR .and (U32 x) (U32 y) = some (U32 (x &&& y)) := by
  unfold U32
  rw [bin_and]
  show some (Value.int .u32 (IntKind.u32.wrap ((BitVec.ofInt 32 (x.toNat : Int) &&& BitVec.ofInt 32 (y.toNat : Int)).toNat : Int))) = _
  rw [w32_ofInt, w32_ofInt, w32_wrap]
theorem U32_or (x y : BitVec 32) : binR .or (U32 x) (U32 y) = some (U32 (x ||| y)) := by
  unfold U32
  rw [bin_or]
  show some (Value.int .u32 (IntKind.u32.wrap ((BitVec.ofInt 32 (x.toNat : Int) ||| BitVec.ofInt 32 (y.toNat : Int)).toNat : Int))) = _
  rw [w32_ofInt, w32_ofInt, w32_wrap]
theorem U32_not (x : BitVec 32) : bnotR (U32 x) = some (U32 (~~~x)) := by
  unfold U32
  rw [bnot_i]
  show some (Value.int .u32 (IntKind.u32.wrap ((BitVec.ofInt 32 (IntKind.u32.max) ^^^ BitVec.ofInt 32 (x.toNat : Int)).toNat : Int))) = _
  have e : BitVec.ofInt 32 (IntKind.u32.max) = BitVec.allOnes 32 := by decide +kernel
  rw [e, w32_ofInt, BitVec.allOnes_xor, w32_wrap]
theorem U32_add (x y : BitVec 32) : binR .add (U32 x) (U32 y) = some (U32 (x + y)) := by
  unfold U32
  rw [bin_add, wrap_u32, BitVec.toNat_add]
  congr 2
theorem U32_mul (x y : BitVec 32) : binR .mul (U32 x) (U32 y) = some (U32 (x * y)) := by
  unfold U32
  rw [bin_mul, wrap_u32, BitVec.toNat_mul]
  congr 2
theorem U32_shr (x : BitVec 32) (k : IntKind) (n : Nat) (h : n ≤ 32) : binR .shr (U32 x) (.int k (n : Int)) = some (U32 (x >>> n)) := by
  unfold U32
  rw [bin_shr, if_pos (by omega)]
  show some (Value.int .u32 ((x.toNat : Int).fdiv (2 ^ Nat.min (n : Int).toNat 32))) = _
  rw [Int.toNat_natCast, show Nat.min n 32 = n from Nat.min_eq_left h, Int.fdiv_eq_ediv_of_nonneg _ (Int.le_of_lt (Int.pow_pos (by decide))), BitVec.toNat_ushiftRight, Nat.shiftRight_eq_div_pow]
  congr 2
theorem U32_shl (x : BitVec 32) (k : IntKind) (n : Nat) (h : n ≤ 32) : binR .shl (U32 x) (.int k (n : Int)) = some (U32 (x <<< n)) := by
  unfold U32
  rw [bin_shl, if_pos (by omega)]
  show some (Value.int .u32 (IntKind.u32.wrap ((x.toNat : Int) * (2 ^ Nat.min (n : Int).toNat 32)))) = _
  rw [Int.toNat_natCast, show Nat.min n 32 = n from Nat.min_eq_left h, BitVec.toNat_shiftLeft, Nat.shiftLeft_eq, wrap_u32]
  congr 2
theorem U32_cells (x : BitVec 32) : (U32 x).cells = #[U32 x] := rfl
end Go.Proofs
namespace Go.Proofs
open Go.Vc
set_option maxRecDepth 10000

theorem eqS_some (neg : Bool) (a : Addr) (n c m d : Nat) : eqSR neg (.slice (some a) n c) (.slice none m d) = some (.bool neg) := by simp [eqSR]
theorem eqS_none (neg : Bool) (n c m d : Nat) : eqSR neg (.slice none n c) (.slice none m d) = some (.bool (!neg)) := by simp [eqSR]

/-- A copy of one's own: what bytes.Clone hands back. -/
theorem clone_ok (w : World) (v : Value) (bs : List Int) (h : Rd w v bs) (hn : bs.length ≤ 1000000000) :
    Calls Try.prog 50 #[v] w (Ret fun u w' => Own1 w' u bs ∧ Ext w w' ∧ ∀ g, blk u g → w.heap.size ≤ g) := by
  refine calls_of_cfg c50_ok (Nat.le_of_ble_eq_true rfl) ?_
  simp only [argE_nil, argE_cons, Nat.zero_add]
  have h0 := h
  obtain ⟨⟨q, c, rfl, hc⟩, hm, hr⟩ := h
  (refine W_at c50_ok ?_; refine ⟨_, rfl, ?_⟩; simp (disch := first | omega | assumption | rfl | (simp only [vcS] <;> omega) | fail) only [↓vcA, vcB, ↓reduceIte, reduceCtorEq])
  cases q with
  | none =>
    have hb0 : bs = [] := by
      cases bs with
      | nil => rfl
      | cons b bs =>
        simp only [rdS, List.length_cons] at hr
        rw [if_neg (by omega)] at hr; cases hr
    subst hb0
    (refine W_at c50_ok ?_; refine ⟨_, rfl, ?_⟩; simp (disch := first | omega | assumption | rfl | (simp only [vcS] <;> omega) | fail) only [↓vcA, vcB, ↓reduceIte, reduceCtorEq, Option.bind_some, List.length_nil])
    (refine W_at c50_ok ?_; refine ⟨_, rfl, ?_⟩; simp (disch := first | omega | assumption | rfl | (simp only [vcS] <;> omega) | fail) only [↓vcA, vcB, ↓reduceIte, reduceCtorEq])
    (refine W_at c50_ok ?_; refine ⟨_, rfl, ?_⟩; simp (disch := first | omega | assumption | rfl | (simp only [vcS] <;> omega) | fail) only [↓vcA, vcB, ↓reduceIte])
    (refine W_at c50_ok ?_; refine ⟨_, rfl, ?_⟩; simp (disch := first | omega | assumption | rfl | (simp only [vcS] <;> omega) | fail) only [↓vcA, vcB, ↓reduceIte, Option.bind_some, Option.map_some, Ret_returned])
    exact ⟨Own1.nil w, Keep.refl _ w, fun g hg => by cases hg⟩
  | some a =>
    (refine W_at c50_ok ?_; refine ⟨_, rfl, ?_⟩; simp (disch := first | omega | assumption | rfl | (simp only [vcS] <;> omega) | fail) only [↓vcA, vcB, ↓reduceIte, reduceCtorEq, Option.bind_some])
    (refine W_at c50_ok ?_; refine ⟨_, rfl, ?_⟩; simp (disch := first | omega | assumption | rfl | (simp only [vcS] <;> omega) | fail) only [↓vcA, vcB, ↓reduceIte, reduceCtorEq])
    (refine W_at c50_ok ?_; refine ⟨_, rfl, ?_⟩; simp (disch := first | omega | assumption | rfl | (simp only [vcS] <;> omega) | fail) only [↓ptV_l, ↓vcA, vcB, ↓reduceIte, Nat.reduceEqDiff, reduceCtorEq, Option.bind_some, List.length_nil, vcM])
    have hE : Ext w (w.alloc (.cells #[] 5)) := by (repeat' first | exact Keep.refl _ _ | assumption | refine Keep.drew ?_ | refine Keep.alloc ?_ _ | refine Keep.putN ?_ _ ?_ | refine Keep.setCell ?_ _ ?_ | refine Keep.setO ?_ _ ?_ | exact fun _ => Or.inl rfl | exact fun _ => Or.inr rfl | exact fun _ => rfl | (intro hh; exfalso; ((try simp only [vcS] at hh) <;> omega)))
    have ho : Own1 (w.alloc (.cells #[] 5)) (.slice (some ⟨w.heap.size, 0, none⟩) 0 0) [] := own_lit1 (bs := []) (Nat.zero_le _)
    refine appB ho (h0.ext hE) (by simp; omega) fun v' w' h1 h2 h3 => ?_
    (refine W_at c50_ok ?_; refine ⟨_, rfl, ?_⟩; simp (disch := first | omega | assumption | rfl | (simp only [vcS] <;> omega) | fail) only [↓vcA, vcB, ↓reduceIte, Option.bind_some, Option.map_some, Ret_returned])
    refine ⟨h1, hE.trans h2 fun i hi hb => ?_, fun g hg => ?_⟩
    · cases hb; exact absurd hi (Nat.lt_irrefl _)
    · rcases h3 g hg with hb | hb
      · cases hb; exact Nat.le_refl _
      · rw [size_alloc] at hb; omega

/-- The writer's block. -/
structure WAt (w : World) (p : Nat) (v : Value) (bs : List Int) : Prop where
  at' : w.heap[p]? = some (.cells #[v] 60 (0, 0))
  own : Own1 w v bs
theorem WAt.keep {S : Nat → Prop} {w w' : World} {p : Nat} {v : Value} {bs : List Int} (h : WAt w p v bs) (k : Keep S w w') (hp : ¬ S p) (hS : ∀ g, blk v g → ¬ S g) : WAt w' p v bs := ⟨k.at h.at' hp, h.own.keep k hS⟩
theorem WAt.ne {w : World} {p : Nat} {v : Value} {bs : List Int} (h : WAt w p v bs) : ¬ blk v p := fun hb => by
  obtain ⟨cur, hc⟩ := row_type h.own hb
  rw [h.at'] at hc; cases hc
/-- What a step of the writer changes. -/
def WS (p : Nat) (v : Value) (i : Nat) : Prop := i = p ∨ blk v i
/-- What a step of the writer leaves: more bytes. -/
structure WTo (w w' : World) (p : Nat) (v : Value) (bs : List Int) : Prop where
  to : ∃ v', WAt w' p v' bs ∧ ∀ g, blk v' g → blk v g ∨ w.heap.size ≤ g
  keep : Keep (WS p v) w w'
theorem WTo.trans {w w1 w2 : World} {p : Nat} {v v1 : Value} {bs : List Int} (h1 : Keep (WS p v) w w1) (hb : ∀ g, blk v1 g → blk v g ∨ w.heap.size ≤ g) (h2 : WTo w1 w2 p v1 bs) : WTo w w2 p v bs := by
  obtain ⟨⟨v2, ha, hg⟩, hk⟩ := h2
  refine ⟨⟨v2, ha, fun g h => ?_⟩, h1.trans hk fun i hi hs => ?_⟩
  · rcases hg g h with h | h
    · exact hb g h
    · exact .inr (Nat.le_trans h1.size h)
  · rcases hs with rfl | hs
    · exact .inl rfl
    · rcases hb i hs with h | h
      · exact .inr h
      · omega

theorem WAt.lt {w : World} {p : Nat} {v : Value} {bs : List Int} (h : WAt w p v bs) : p < w.heap.size := lt_of_heap h.at'
/-- The new slice is stored. -/
theorem WAt.store {w w1 : World} {p : Nat} {v v' : Value} {bs bs' : List Int} (h : WAt w p v bs) (ho : Own1 w1 v' bs') (hk : Keep (blk v) w w1) (hb : ∀ g, blk v' g → blk v g ∨ w.heap.size ≤ g) :
    w1.heap[p]? = some (.cells #[v] 60 (0, 0)) ∧ WAt (w1.setCell ⟨p, 0, none⟩ v') p v' bs' ∧ Keep (WS p v) w (w1.setCell ⟨p, 0, none⟩ v') := by
  have hp := hk.at h.at' h.ne
  refine ⟨hp, ⟨?_, ?_⟩, ?_⟩
  · rw [heap_setCell_eq hp]; rfl
  · refine ho.keep (S := fun i => i = p) ((Keep.refl _ w1).setCell _ fun _ => rfl) ?_
    rintro g hg rfl
    rcases hb _ hg with hb | hb
    · exact h.ne hb
    · have := h.lt; omega
  · exact (hk.mono fun _ h => .inr h).setCell _ fun _ => .inl rfl

/-- A number's lowest n bytes. -/
def lowF : Nat → Int → List Int
  | 0, _ => []
  | n + 1, x => x % 256 :: lowF n (x / 256)
theorem lowF_len : ∀ (n : Nat) (x : Int), (lowF n x).length = n
  | 0, _ => rfl
  | n + 1, x => by simp [lowF, lowF_len n]
theorem lowF_byt : ∀ (n : Nat) (x : Int), byt (lowF n x)
  | 0, _ => byt_nil
  | n + 1, x => by
    intro b hb
    simp only [lowF, List.mem_cons] at hb
    rcases hb with rfl | hb
    · omega
    · exact lowF_byt n _ b hb
theorem shr_8 (x : Int) : x.fdiv (2 ^ Nat.min 8 IntKind.u64.bits) = x / 256 := by
  show x.fdiv (2 ^ (Nat.min 8 64)) = x / 256
  rw [show Nat.min 8 64 = 8 from rfl, Int.fdiv_eq_ediv_of_nonneg _ (by decide)]
  rfl

theorem number_ok (w : World) (p : Nat) (v : Value) (bs : List Int) (x : Int) (n : Nat) (h : WAt w p v bs) (hn : n ≤ 8) (hl : bs.length ≤ 100000000) :
    Calls Try.prog 54 #[.pointer (some ⟨p, 0, none⟩), .int .u64 x, .int .i64 n] w (Ret fun _ w' => WTo w w' p v (bs ++ lowF n x)) := by
  refine calls_of_cfg c54_ok (Nat.le_of_ble_eq_true rfl) ?_
  simp only [argE_nil, argE_cons, Nat.reduceAdd, Nat.zero_add]
  (refine W_at c54_ok ?_; refine ⟨_, rfl, ?_⟩; simp (disch := first | omega | assumption | rfl | (simp only [vcS] <;> omega) | fail) only [↓vcA, vcB, ↓reduceIte, Nat.reduceEqDiff, reduceCtorEq])
  generalize hT : bs ++ lowF n x = T
  have L : ∀ (k i : Nat) (x : Int) (wj : World) (vj : Value) (bj : List Int), k + i = n → WAt wj p vj bj → Keep (WS p v) w wj → (∀ g, blk vj g → blk v g ∨ w.heap.size ≤ g) → bj.length + k ≤ 1000000000 → bj ++ lowF k x = T →
      W Try.prog (Ret fun _ w' => WTo w w' p v T) 54 6 [(0, .pointer (some ⟨p, 0, none⟩)), (1, .int .u64 x), (6, .int .i64 n), (7, .int .i64 i)] wj := by
    intro k
    induction k with
    | zero =>
      intro i x wj vj bj hk hW hK hB hl hT
      have hlt : ¬ ((i : Int) < n) := by omega
      (refine W_at c54_ok ?_; refine ⟨_, rfl, ?_⟩; simp (disch := first | omega | assumption | rfl | (simp only [vcS] <;> omega) | fail) only [↓vcA, vcB, ↓reduceIte, Nat.reduceEqDiff, reduceCtorEq, Option.bind_some, hlt])
      (refine W_at c54_ok ?_; refine ⟨_, rfl, ?_⟩; simp (disch := first | omega | assumption | rfl | (simp only [vcS] <;> omega) | fail) only [↓vcA, vcB, ↓reduceIte, Nat.reduceEqDiff, reduceCtorEq])
      (refine W_at c54_ok ?_; refine ⟨_, rfl, ?_⟩; simp (disch := first | omega | assumption | rfl | (simp only [vcS] <;> omega) | fail) only [↓vcA, vcB, Ret_returned])
      rw [lowF, List.append_nil] at hT
      rw [← hT]
      exact ⟨⟨vj, hW, hB⟩, hK⟩
    | succ k ih =>
      intro i x wj vj bj hk hW hK hB hl hT
      have hlt : ((i : Int) < n) := by omega
      have hwi : IntKind.i64.wrap ((i : Int) + 1) = ((i + 1 : Nat) : Int) := wrap_i64 (by omega) (by omega)
      have hat := hW.at'
      (refine W_at c54_ok ?_; refine ⟨_, rfl, ?_⟩; simp (disch := first | omega | assumption | rfl | (simp only [vcS] <;> omega) | fail) only [↓vcA, vcB, ↓reduceIte, Nat.reduceEqDiff, reduceCtorEq, Option.bind_some, hlt])
      (refine W_at c54_ok ?_; refine ⟨_, rfl, ?_⟩; simp (disch := first | omega | assumption | rfl | (simp only [vcS] <;> omega) | fail) only [↓vcA, vcB, ↓reduceIte, Nat.reduceEqDiff, reduceCtorEq])
      (refine W_at c54_ok ?_; refine ⟨_, rfl, ?_⟩; simp (disch := first | omega | assumption | rfl | (simp only [vcS] <;> omega) | fail) only [↓ptV_l, ↓vcA, vcB, ↓reduceIte, Nat.reduceEqDiff, reduceCtorEq, Option.bind_some, Option.map_some, List.length_cons, List.length_nil, vcM, List.getElem?_toArray, List.getElem?_cons_zero, hat, wrap_u8])
      refine appL (news := [x % 256]) hW.own (by simp; omega) fun v' w' h1 h2 h3 => ?_
      obtain ⟨hp, hW', hK'⟩ := hW.store h1 h2 h3
      refine ⟨one_row h1, wr1_of hp (by simp), ?_⟩
      generalize w'.setCell _ _ = w'' at hW' hK' ⊢
      (refine W_at c54_ok ?_; refine ⟨_, rfl, ?_⟩; simp (disch := first | omega | assumption | rfl | (simp only [vcS] <;> omega) | fail) only [↓vcA, vcB, ↓reduceIte, Nat.reduceEqDiff, Int.reduceLE, Int.reduceToNat, reduceCtorEq, Option.bind_some, shr_8])
      (refine W_at c54_ok ?_; refine ⟨_, rfl, ?_⟩; simp (disch := first | omega | assumption | rfl | (simp only [vcS] <;> omega) | fail) only [↓vcA, vcB, ↓reduceIte, Nat.reduceEqDiff, reduceCtorEq, Option.bind_some, hwi])
      (refine W_at c54_ok ?_; refine ⟨_, rfl, ?_⟩; simp (disch := first | omega | assumption | rfl | (simp only [vcS] <;> omega) | fail) only [vcB])
      refine ih (i + 1) (x / 256) w'' v' _ (by omega) hW' (hK.trans hK' fun j hj hs => ?_) (fun g hg => ?_) (by simp; omega) (by rw [← hT]; simp [lowF])
      · rcases hs with rfl | hs
        · exact .inl rfl
        · rcases hB j hs with h | h
          · exact .inr h
          · omega
      · rcases h3 g hg with h | h
        · exact hB g h
        · exact .inr (Nat.le_trans hK.size h)
  exact L n 0 x w v bs (by omega) h (Keep.refl _ w) (fun g h => .inl h) (by omega) hT

theorem u8_ok (w : World) (p : Nat) (v : Value) (bs : List Int) (x : Int) (h : WAt w p v bs) (hl : bs.length ≤ 100000000) (hx : 0 ≤ x ∧ x ≤ 255) :
    Calls Try.prog 65 #[.pointer (some ⟨p, 0, none⟩), .int .u8 x] w (Ret fun _ w' => WTo w w' p v (bs ++ lowF 1 x)) := by
  refine calls_of_cfg c65_ok (Nat.le_of_ble_eq_true rfl) ?_
  simp only [argE_nil, argE_cons, Nat.reduceAdd, Nat.zero_add]
  have hw : IntKind.u64.wrap x = x := by rw [wrap_u64]; omega
  (refine W_at c65_ok ?_; refine ⟨_, rfl, ?_⟩; simp (disch := first | omega | assumption | rfl | (simp only [vcS] <;> omega) | fail) only [↓ptV_l, ↓vcA, vcB, ↓reduceIte, Nat.reduceEqDiff, reduceCtorEq, Option.bind_some, Option.map_some, hw])
  refine callV_ret (number_ok w p v bs x 1 h (by omega) hl) ?_
  intro _ w1 hT
  (refine W_at c65_ok ?_; refine ⟨_, rfl, ?_⟩; simp (disch := first | omega | assumption | rfl | (simp only [vcS] <;> omega) | fail) only [↓vcA, vcB, Ret_returned])
  exact hT
theorem u32_ok (w : World) (p : Nat) (v : Value) (bs : List Int) (x : Int) (h : WAt w p v bs) (hl : bs.length ≤ 100000000) (hx : 0 ≤ x ∧ x ≤ 4294967295) :
    Calls Try.prog 28 #[.pointer (some ⟨p, 0, none⟩), .int .u32 x] w (Ret fun _ w' => WTo w w' p v (bs ++ lowF 4 x)) := by
  refine calls_of_cfg c28_ok (Nat.le_of_ble_eq_true rfl) ?_
  simp only [argE_nil, argE_cons, Nat.reduceAdd, Nat.zero_add]
  have hw : IntKind.u64.wrap x = x := by rw [wrap_u64]; omega
  (refine W_at c28_ok ?_; refine ⟨_, rfl, ?_⟩; simp (disch := first | omega | assumption | rfl | (simp only [vcS] <;> omega) | fail) only [↓ptV_l, ↓vcA, vcB, ↓reduceIte, Nat.reduceEqDiff, reduceCtorEq, Option.bind_some, Option.map_some, hw])
  refine callV_ret (number_ok w p v bs x 4 h (by omega) hl) ?_
  intro _ w1 hT
  (refine W_at c28_ok ?_; refine ⟨_, rfl, ?_⟩; simp (disch := first | omega | assumption | rfl | (simp only [vcS] <;> omega) | fail) only [↓vcA, vcB, Ret_returned])
  exact hT
theorem u64_ok (w : World) (p : Nat) (v : Value) (bs : List Int) (x : Int) (h : WAt w p v bs) (hl : bs.length ≤ 100000000) :
    Calls Try.prog 44 #[.pointer (some ⟨p, 0, none⟩), .int .u64 x] w (Ret fun _ w' => WTo w w' p v (bs ++ lowF 8 x)) := by
  refine calls_of_cfg c44_ok (Nat.le_of_ble_eq_true rfl) ?_
  simp only [argE_nil, argE_cons, Nat.reduceAdd, Nat.zero_add]
  (refine W_at c44_ok ?_; refine ⟨_, rfl, ?_⟩; simp (disch := first | omega | assumption | rfl | (simp only [vcS] <;> omega) | fail) only [↓ptV_l, ↓vcA, vcB, ↓reduceIte, Nat.reduceEqDiff, reduceCtorEq, Option.bind_some, Option.map_some])
  refine callV_ret (number_ok w p v bs x 8 h (by omega) hl) ?_
  intro _ w1 hT
  (refine W_at c44_ok ?_; refine ⟨_, rfl, ?_⟩; simp (disch := first | omega | assumption | rfl | (simp only [vcS] <;> omega) | fail) only [↓vcA, vcB, Ret_returned])
  exact hT

/-- How many bytes a compact size has behind its first one. -/
def wideF (n : Int) : Nat := if n < 253 then 0 else if n < 65536 then 2 else if n < 4294967296 then 4 else 8
theorem wide_ok (w : World) (n : Int) : Calls Try.prog 64 #[.int .u64 n] w (Ret fun u w' => u = .int .i64 (wideF n) ∧ w' = w) := by
  refine calls_of_cfg c64_ok (Nat.le_of_ble_eq_true rfl) ?_
  simp only [argE_nil, argE_cons, Nat.zero_add]
  (refine W_at c64_ok ?_; refine ⟨_, rfl, ?_⟩; simp (disch := first | omega | assumption | rfl | (simp only [vcS] <;> omega) | fail) only [↓vcA, vcB, ↓reduceIte, reduceCtorEq])
  unfold wideF
  by_cases h1 : n < 253
  · rw [if_pos h1]
    (refine W_at c64_ok ?_; refine ⟨_, rfl, ?_⟩; simp (disch := first | omega | assumption | rfl | (simp only [vcS] <;> omega) | fail) only [↓vcA, vcB, ↓reduceIte, reduceCtorEq, Option.bind_some, vcM, h1]); (refine W_at c64_ok ?_; refine ⟨_, rfl, ?_⟩; simp (disch := first | omega | assumption | rfl | (simp only [vcS] <;> omega) | fail) only [↓vcA, vcB, ↓reduceIte, reduceCtorEq]); (refine W_at c64_ok ?_; refine ⟨_, rfl, ?_⟩; simp (disch := first | omega | assumption | rfl | (simp only [vcS] <;> omega) | fail) only [↓vcA, vcB, ↓reduceIte]); (refine W_at c64_ok ?_; refine ⟨_, rfl, ?_⟩; simp (disch := first | omega | assumption | rfl | (simp only [vcS] <;> omega) | fail) only [↓vcA, vcB, ↓reduceIte, Option.bind_some, Option.map_some, Ret_returned])
  rw [if_neg h1]
  by_cases h2 : n < 65536
  · rw [if_pos h2]
    (refine W_at c64_ok ?_; refine ⟨_, rfl, ?_⟩; simp (disch := first | omega | assumption | rfl | (simp only [vcS] <;> omega) | fail) only [↓vcA, vcB, ↓reduceIte, reduceCtorEq, Option.bind_some, vcM, h1]); (refine W_at c64_ok ?_; refine ⟨_, rfl, ?_⟩; simp (disch := first | omega | assumption | rfl | (simp only [vcS] <;> omega) | fail) only [↓vcA, vcB, ↓reduceIte, reduceCtorEq]); (refine W_at c64_ok ?_; refine ⟨_, rfl, ?_⟩; simp (disch := first | omega | assumption | rfl | (simp only [vcS] <;> omega) | fail) only [↓vcA, vcB, ↓reduceIte, reduceCtorEq, Option.bind_some, h2]); (refine W_at c64_ok ?_; refine ⟨_, rfl, ?_⟩; simp (disch := first | omega | assumption | rfl | (simp only [vcS] <;> omega) | fail) only [↓vcA, vcB, ↓reduceIte, reduceCtorEq]); (refine W_at c64_ok ?_; refine ⟨_, rfl, ?_⟩; simp (disch := first | omega | assumption | rfl | (simp only [vcS] <;> omega) | fail) only [↓vcA, vcB, ↓reduceIte]); (refine W_at c64_ok ?_; refine ⟨_, rfl, ?_⟩; simp (disch := first | omega | assumption | rfl | (simp only [vcS] <;> omega) | fail) only [↓vcA, vcB, ↓reduceIte, Option.bind_some, Option.map_some, Ret_returned])
  rw [if_neg h2]
  by_cases h3 : n < 4294967296
  · rw [if_pos h3]
    (refine W_at c64_ok ?_; refine ⟨_, rfl, ?_⟩; simp (disch := first | omega | assumption | rfl | (simp only [vcS] <;> omega) | fail) only [↓vcA, vcB, ↓reduceIte, reduceCtorEq, Option.bind_some, vcM, h1]); (refine W_at c64_ok ?_; refine ⟨_, rfl, ?_⟩; simp (disch := first | omega | assumption | rfl | (simp only [vcS] <;> omega) | fail) only [↓vcA, vcB, ↓reduceIte, reduceCtorEq]); (refine W_at c64_ok ?_; refine ⟨_, rfl, ?_⟩; simp (disch := first | omega | assumption | rfl | (simp only [vcS] <;> omega) | fail) only [↓vcA, vcB, ↓reduceIte, reduceCtorEq, Option.bind_some, h2]); (refine W_at c64_ok ?_; refine ⟨_, rfl, ?_⟩; simp (disch := first | omega | assumption | rfl | (simp only [vcS] <;> omega) | fail) only [↓vcA, vcB, ↓reduceIte, reduceCtorEq]); (refine W_at c64_ok ?_; refine ⟨_, rfl, ?_⟩; simp (disch := first | omega | assumption | rfl | (simp only [vcS] <;> omega) | fail) only [↓vcA, vcB, ↓reduceIte, Option.bind_some, h3]); (refine W_at c64_ok ?_; refine ⟨_, rfl, ?_⟩; simp (disch := first | omega | assumption | rfl | (simp only [vcS] <;> omega) | fail) only [↓vcA, vcB, ↓reduceIte]); (refine W_at c64_ok ?_; refine ⟨_, rfl, ?_⟩; simp (disch := first | omega | assumption | rfl | (simp only [vcS] <;> omega) | fail) only [↓vcA, vcB, ↓reduceIte]); (refine W_at c64_ok ?_; refine ⟨_, rfl, ?_⟩; simp (disch := first | omega | assumption | rfl | (simp only [vcS] <;> omega) | fail) only [↓vcA, vcB, ↓reduceIte, Option.bind_some, Option.map_some, Ret_returned])
  rw [if_neg h3]
  (refine W_at c64_ok ?_; refine ⟨_, rfl, ?_⟩; simp (disch := first | omega | assumption | rfl | (simp only [vcS] <;> omega) | fail) only [↓vcA, vcB, ↓reduceIte, reduceCtorEq, Option.bind_some, vcM, h1]); (refine W_at c64_ok ?_; refine ⟨_, rfl, ?_⟩; simp (disch := first | omega | assumption | rfl | (simp only [vcS] <;> omega) | fail) only [↓vcA, vcB, ↓reduceIte, reduceCtorEq]); (refine W_at c64_ok ?_; refine ⟨_, rfl, ?_⟩; simp (disch := first | omega | assumption | rfl | (simp only [vcS] <;> omega) | fail) only [↓vcA, vcB, ↓reduceIte, reduceCtorEq, Option.bind_some, h2]); (refine W_at c64_ok ?_; refine ⟨_, rfl, ?_⟩; simp (disch := first | omega | assumption | rfl | (simp only [vcS] <;> omega) | fail) only [↓vcA, vcB, ↓reduceIte, reduceCtorEq]); (refine W_at c64_ok ?_; refine ⟨_, rfl, ?_⟩; simp (disch := first | omega | assumption | rfl | (simp only [vcS] <;> omega) | fail) only [↓vcA, vcB, ↓reduceIte, Option.bind_some, h3]); (refine W_at c64_ok ?_; refine ⟨_, rfl, ?_⟩; simp (disch := first | omega | assumption | rfl | (simp only [vcS] <;> omega) | fail) only [↓vcA, vcB, ↓reduceIte]); (refine W_at c64_ok ?_; refine ⟨_, rfl, ?_⟩; simp (disch := first | omega | assumption | rfl | (simp only [vcS] <;> omega) | fail) only [↓vcA, vcB, ↓reduceIte]); (refine W_at c64_ok ?_; refine ⟨_, rfl, ?_⟩; simp (disch := first | omega | assumption | rfl | (simp only [vcS] <;> omega) | fail) only [↓vcA, vcB, ↓reduceIte, Option.bind_some, Option.map_some, Ret_returned])
end Go.Proofs
namespace Go.Proofs
open Go.Vc
set_option maxRecDepth 10000

abbrev IE := Int × Value
def MapI (w : World) (r : Nat) (l : List IE) : Prop := ∃ es c, w.heap[r]? = some (.map es c) ∧ es.toList.map (fun e => (e.key, e.val)) = l.map fun p => (Value.int .i64 p.1, p.2)
theorem MapI.keep {S : Nat → Prop} {w w' : World} {r : Nat} {l : List IE} (h : MapI w r l) (k : Keep S w w') (hr : ¬ S r) : MapI w' r l := by
  obtain ⟨es, c, h1, h2⟩ := h; exact ⟨es, c, k.at h1 hr, h2⟩
theorem kOK_int (n : Int) : kOK (skR [(1, .i .i64)]) false (.int .i64 n) = true := by simp [kOK, skR, conf, SK.ok]
theorem MapI.mapE {w : World} {r : Nat} {l : List IE} {es : Array MapEntry} {c : Nat} (h1 : w.heap[r]? = some (.map es c)) (h2 : es.toList.map (fun e => (e.key, e.val)) = l.map fun p => (Value.int .i64 p.1, p.2)) :
    mapE (skR [(1, .i .i64)]) false w r = some (es, c) := by
  unfold Vc.mapE
  rw [h1]
  have hall : es.toList.all (fun e => kOK (skR [(1, .i .i64)]) false e.key) = true := by
    rw [List.all_eq_true]
    intro e he
    have h3 : (e.key, e.val) ∈ es.toList.map (fun e => (e.key, e.val)) := List.mem_map_of_mem he
    rw [h2] at h3
    obtain ⟨p, _, hp⟩ := List.mem_map.1 h3
    have hk : e.key = .int .i64 p.1 := (congrArg Prod.fst hp).symm
    rw [hk, kOK_int]
  simp only [hall, if_true]
def idxM (k : Int) : List IE → Option Nat
  | [] => none
  | p :: l => if k = p.1 then some 0 else (idxM k l).map (· + 1)
theorem fnd_int {k : Int} : ∀ {l : List IE} {es : List MapEntry} (j : Nat), es.map (fun e => (e.key, e.val)) = l.map (fun p => (Value.int .i64 p.1, p.2)) →
    fnd (.int .i64 k) es j = match idxM k l with
      | some i => (l[i]?).map fun p => (j + i, p.2)
      | none => none
  | [], es, j, h => by simp at h; subst h; simp [fnd, idxM]
  | p :: l, [], j, h => by simp at h
  | p :: l, m :: es, j, h => by
    simp only [List.map_cons, List.cons.injEq, Prod.mk.injEq] at h
    obtain ⟨⟨h1, h2⟩, h3⟩ := h
    have ih := fnd_int (k := k) (j + 1) h3
    have h1' : m.key = .int .i64 p.1 := h1
    simp only [fnd, idxM]
    rw [h1']
    by_cases hk : k = p.1
    · rw [hk, if_pos rfl]; simp [h2]
    · have hne : ¬ (Value.int .i64 k = Value.int .i64 p.1) := by intro h; cases h; exact hk rfl
      rw [if_neg hne, ih, if_neg hk]
      cases hq : idxM k l with
      | none => simp
      | some i => simp [Nat.add_assoc, Nat.add_comm 1 i]
theorem idxM_lt {k : Int} : ∀ {l : List IE} {i : Nat}, idxM k l = some i → ∃ p, l[i]? = some p ∧ p.1 = k
  | [], i, h => by simp [idxM] at h
  | p :: l, i, h => by
    simp only [idxM] at h
    split at h
    · rename_i hk; simp at h; subst h; exact ⟨p, by simp, hk.symm⟩
    · cases hq : idxM k l with
      | none => simp [hq] at h
      | some j => simp [hq] at h; subst h; obtain ⟨p', h1, h2⟩ := idxM_lt hq; exact ⟨p', by simpa using h1, h2⟩
/-- The value at a key. -/
def getM (k : Int) (l : List IE) : Option Value := (idxM k l).bind fun i => (l[i]?).map (·.2)
def putM (k : Int) (v : Value) (l : List IE) : List IE := match idxM k l with
  | some i => l.set i (k, v)
  | none => l ++ [(k, v)]
theorem MapI.lkp {w : World} {r : Nat} {l : List IE} (h : MapI w r l) (z : Value) (k : Int) (ok : Bool) :
    lkpR (skR [(1, .i .i64)]) false z ok w (.map (some r)) (.int .i64 k) = some (match getM k l with | some v => packL ok v true | none => packL ok z false) := by
  obtain ⟨es, c, h1, h2⟩ := h
  unfold lkpR
  rw [if_pos (kOK_int k)]
  simp only [MapI.mapE h1 h2, Option.map_some]
  rw [fnd_int 0 h2]
  unfold getM
  cases hq : idxM k l with
  | none => rfl
  | some i => obtain ⟨p, h3, _⟩ := idxM_lt hq; simp [h3]
theorem MapI.put {w : World} {r : Nat} {l : List IE} {K : World → Prop} (h : MapI w r l) (k : Int) (v : Value) (hk : ∀ w', MapI w' r (putM k v l) → Keep (fun i => i = r) w w' → K w') :
    mapUV (skR [(1, .i .i64)]) false (.map (some r)) (.int .i64 k) v w K := by
  obtain ⟨es, c, h1, h2⟩ := h
  refine ⟨kOK_int k, ?_⟩
  rw [MapI.mapE h1 h2, getV_some]
  have hlt := lt_of_heap h1
  refine hk _ ?_ ((Keep.refl _ w).setO _ fun _ => rfl)
  unfold putE
  rw [fnd_int 0 h2]
  unfold putM
  cases hq : idxM k l with
  | none =>
    refine ⟨_, _, heap_setO_eq _ _ _ hlt, ?_⟩
    simp [h2]
  | some i =>
    obtain ⟨p, h3, h4⟩ := idxM_lt hq
    simp only [h3, Option.map_some, Nat.zero_add]
    refine ⟨_, _, heap_setO_eq _ _ _ hlt, ?_⟩
    have hlen : es.toList.length = l.length := by simpa using congrArg List.length h2
    apply List.ext_getElem?
    intro j
    have h5 := congrArg (fun x => x[j]?) h2
    simp only [List.getElem?_map, Array.toList_modify, List.getElem?_modify, List.getElem?_set] at h5 ⊢
    by_cases hij : i = j
    · subst hij
      have hil : i < l.length := (List.getElem?_eq_some_iff.1 h3).1
      have hie : i < es.size := by rw [← Array.length_toList]; omega
      simp [hil, hie]
    · simp only [hij, if_false]
      rw [← h5]
      cases es.toList[j]? <;> simp
theorem MapI.empty (w : World) : MapI (w.alloc (.map #[] 0)) w.heap.size [] := ⟨#[], 0, heap_new _ _ _ rfl, rfl⟩
end Go.Proofs
namespace Go.Proofs
open Go.Vc
set_option maxRecDepth 10000

theorem raw_ok (w : World) (p : Nat) (v : Value) (bs : List Int) (x : Value) (news : List Int) (h : WAt w p v bs) (hx : Rd w x news) (hl : bs.length + news.length ≤ 100000000) :
    Calls Try.prog 26 #[.pointer (some ⟨p, 0, none⟩), x] w (Ret fun _ w' => WTo w w' p v (bs ++ news)) := by
  refine calls_of_cfg c26_ok (Nat.le_of_ble_eq_true rfl) ?_
  simp only [argE_nil, argE_cons, Nat.reduceAdd, Nat.zero_add]
  have hat := h.at'
  (refine W_at c26_ok ?_; refine ⟨_, rfl, ?_⟩; simp (disch := first | omega | assumption | rfl | (simp only [vcS] <;> omega) | fail) only [↓ptV_l, ↓vcA, vcB, ↓reduceIte, Nat.reduceEqDiff, reduceCtorEq, Option.bind_some, vcM, List.getElem?_toArray, List.getElem?_cons_zero, hat])
  refine appB h.own hx (by omega) fun v' w' h1 h2 h3 => ?_
  obtain ⟨hp, hW', hK'⟩ := h.store h1 h2 h3
  refine ⟨one_row h1, wr1_of hp (by simp), ?_⟩
  (refine W_at c26_ok ?_; refine ⟨_, rfl, ?_⟩; simp (disch := first | omega | assumption | rfl | (simp only [vcS] <;> omega) | fail) only [↓vcA, vcB, Ret_returned])
  exact ⟨⟨v', hW', h3⟩, hK'⟩

theorem out_ok (w : World) (p : Nat) (v : Value) (bs : List Int) (h : WAt w p v bs) (hl : bs.length ≤ 100000000) :
    Calls Try.prog 30 #[.pointer (some ⟨p, 0, none⟩)] w (Ret fun u w' => Own1 w' u bs ∧ Ext w w' ∧ ∀ g, blk u g → w.heap.size ≤ g) := by
  refine calls_of_cfg c30_ok (Nat.le_of_ble_eq_true rfl) ?_
  simp only [argE_nil, argE_cons, Nat.zero_add]
  have hat := h.at'
  (refine W_at c30_ok ?_; refine ⟨_, rfl, ?_⟩; simp (disch := first | omega | assumption | rfl | (simp only [vcS] <;> omega) | fail) only [↓vcA, vcB, ↓reduceIte, reduceCtorEq])
  (refine W_at c30_ok ?_; refine ⟨_, rfl, ?_⟩; simp (disch := first | omega | assumption | rfl | (simp only [vcS] <;> omega) | fail) only [↓ptV_l, ↓vcA, vcB, ↓reduceIte, Option.bind_some, Option.map_some, vcM, List.getElem?_toArray, List.getElem?_cons_zero, hat])
  refine callV_ret (clone_ok w v bs h.own.rd (by omega)) ?_
  rintro u w1 ⟨h1, h2, h3⟩
  (refine W_at c30_ok ?_; refine ⟨_, rfl, ?_⟩; simp (disch := first | omega | assumption | rfl | (simp only [vcS] <;> omega) | fail) only [↓vcA, vcB, ↓reduceIte, Option.bind_some, Option.map_some, Ret_returned])
  exact ⟨h1, h2, h3⟩

/-- A compact size. -/
def sizeF (n : Int) : List Int := if n < 253 then [n] else if n < 65536 then 253 :: lowF 2 n else if n < 4294967296 then 254 :: lowF 4 n else 255 :: lowF 8 n
theorem size_ok (w : World) (p : Nat) (v : Value) (bs : List Int) (n : Int) (h : WAt w p v bs) (hl : bs.length ≤ 1000000) (hn : 0 ≤ n) :
    Calls Try.prog 53 #[.pointer (some ⟨p, 0, none⟩), .int .u64 n] w (Ret fun _ w' => WTo w w' p v (bs ++ sizeF n)) := by
  refine calls_of_cfg c53_ok (Nat.le_of_ble_eq_true rfl) ?_
  simp only [argE_nil, argE_cons, Nat.reduceAdd, Nat.zero_add]
  (refine W_at c53_ok ?_; refine ⟨_, rfl, ?_⟩; simp (disch := first | omega | assumption | rfl | (simp only [vcS] <;> omega) | fail) only [↓ptV_l, ↓vcA, vcB, ↓reduceIte, Nat.reduceEqDiff, reduceCtorEq, Option.bind_some, Option.map_some])
  refine callV_ret (wide_ok w n) ?_
  rintro _ w1 ⟨rfl, hw⟩
  obtain rfl : w = w1 := hw.symm
  by_cases h1 : n < 253
  · have hwd : wideF n = 0 := by unfold wideF; rw [if_pos h1]
    have hc : IntKind.u8.wrap n = n := by rw [wrap_u8]; omega
    rw [hwd]
    (refine W_at c53_ok ?_; refine ⟨_, rfl, ?_⟩; simp (disch := first | omega | assumption | rfl | (simp only [vcS] <;> omega) | fail) only [↓vcA, vcB, ↓reduceIte, Nat.reduceEqDiff, reduceCtorEq, vcM])
    (refine W_at c53_ok ?_; refine ⟨_, rfl, ?_⟩; simp (disch := first | omega | assumption | rfl | (simp only [vcS] <;> omega) | fail) only [↓vcA, vcB, ↓reduceIte, Nat.reduceEqDiff, reduceCtorEq, Option.bind_some])
    (refine W_at c53_ok ?_; refine ⟨_, rfl, ?_⟩; simp (disch := first | omega | assumption | rfl | (simp only [vcS] <;> omega) | fail) only [↓vcA, vcB, ↓reduceIte, Nat.reduceEqDiff, reduceCtorEq])
    (refine W_at c53_ok ?_; refine ⟨_, rfl, ?_⟩; simp (disch := first | omega | assumption | rfl | (simp only [vcS] <;> omega) | fail) only [↓ptV_l, ↓vcA, vcB, ↓reduceIte, Nat.reduceEqDiff, reduceCtorEq, Option.bind_some, Option.map_some, hc])
    refine callV_ret (u8_ok w p v bs n h (by omega) (by omega)) ?_
    intro _ w1 hT
    (refine W_at c53_ok ?_; refine ⟨_, rfl, ?_⟩; simp (disch := first | omega | assumption | rfl | (simp only [vcS] <;> omega) | fail) only [↓vcA, vcB, Ret_returned])
    have e : sizeF n = lowF 1 n := by unfold sizeF; rw [if_pos h1]; simp only [lowF]; congr 1; omega
    rw [e]; exact hT
  · have hkey : ∀ (k : Nat) (b : Int), (k = 2 ∧ b = 253) ∨ (k = 4 ∧ b = 254) ∨ (k = 8 ∧ b = 255) → wideF n = k → sizeF n = b :: lowF k n → W Try.prog (Ret fun x w' => WTo w w' p v (bs ++ sizeF n)) 53 6
        [(0, .pointer (some ⟨p, 0, none⟩)), (1, .int .u64 n), (4, .int .i64 (wideF n))] w := by
      intro k b hkb hw hsz
      rw [hw]
      have hk0 : ¬ ((k : Int) = 0) := by omega
      (refine W_at c53_ok ?_; refine ⟨_, rfl, ?_⟩; simp (disch := first | omega | assumption | rfl | (simp only [vcS] <;> omega) | fail) only [↓vcA, vcB, ↓reduceIte, Nat.reduceEqDiff, reduceCtorEq])
      (refine W_at c53_ok ?_; refine ⟨_, rfl, ?_⟩; simp (disch := first | omega | assumption | rfl | (simp only [vcS] <;> omega) | fail) only [↓vcA, vcB, ↓reduceIte, Nat.reduceEqDiff, reduceCtorEq, Option.bind_some, hk0])
      (refine W_at c53_ok ?_; refine ⟨_, rfl, ?_⟩; simp (disch := first | omega | assumption | rfl | (simp only [vcS] <;> omega) | fail) only [↓vcA, vcB, ↓reduceIte, Nat.reduceEqDiff, reduceCtorEq])
      (refine W_at c53_ok ?_; refine ⟨_, rfl, ?_⟩; simp (disch := first | omega | assumption | rfl | (simp only [vcS] <;> omega) | fail) only [↓ptV_l, ↓vcA, vcB, ↓reduceIte, Nat.reduceEqDiff, reduceCtorEq, Option.bind_some, Option.map_some])
      have hE0 : Ext w (w.alloc (Obj.map #[] 0)) := by (repeat' first | exact Keep.refl _ _ | assumption | refine Keep.drew ?_ | refine Keep.alloc ?_ _ | refine Keep.putN ?_ _ ?_ | refine Keep.setCell ?_ _ ?_ | refine Keep.setO ?_ _ ?_ | exact fun _ => Or.inl rfl | exact fun _ => Or.inr rfl | exact fun _ => rfl | (intro hh; exfalso; ((try simp only [vcS] at hh) <;> omega)))
      have hm0 := MapI.empty w
      have hrs : w.heap.size < (w.alloc (Obj.map #[] 0)).heap.size := by rw [size_alloc]; omega
      generalize hr : w.heap.size = r at hm0 hrs ⊢
      generalize World.alloc _ _ = w1 at hE0 hm0 hrs ⊢
      have kp : ∀ (wx wy : World), Ext w wx → Keep (fun i => i = r) wx wy → Ext w wy := fun wx wy h k => h.trans k fun i hi (e : i = r) => by omega
      refine hm0.put 2 _ fun w2 hm2 hk2 => ?_
      have hE2 := kp _ _ hE0 hk2
      refine hm2.put 4 _ fun w3 hm3 hk3 => ?_
      have hE3 := kp _ _ hE2 hk3
      refine hm3.put 8 _ fun w4 hm4 hk4 => ?_
      have hE4 := kp _ _ hE3 hk4
      rw [hm4.lkp]
      have hg : getM k (putM 8 (Value.int .u8 255) (putM 4 (Value.int .u8 254) (putM 2 (Value.int .u8 253) []))) = some (.int .u8 b) := by
        rcases hkb with ⟨rfl, rfl⟩ | ⟨rfl, rfl⟩ | ⟨rfl, rfl⟩ <;> rfl
      rw [hg]
      simp (disch := first | omega | assumption | rfl | (simp only [vcS] <;> omega) | fail) only [↓vcA, ↓reduceIte, reduceCtorEq, packL]
      have hW4 := h.keep hE4 (fun h => h) fun _ _ h => h
      refine callV_ret (u8_ok w4 p v bs b hW4 (by omega) (by omega)) ?_
      intro _ w5 hT
      obtain ⟨⟨v', hW5, hb5⟩, hk5⟩ := hT
      (refine W_at c53_ok ?_; refine ⟨_, rfl, ?_⟩; simp (disch := first | omega | assumption | rfl | (simp only [vcS] <;> omega) | fail) only [↓ptV_l, ↓vcA, vcB, ↓reduceIte, Nat.reduceEqDiff, reduceCtorEq, Option.bind_some, Option.map_some])
      refine callV_ret (number_ok w5 p v' _ n k hW5 (by omega) (by simp [lowF]; omega)) ?_
      intro _ w6 hT
      (refine W_at c53_ok ?_; refine ⟨_, rfl, ?_⟩; simp (disch := first | omega | assumption | rfl | (simp only [vcS] <;> omega) | fail) only [↓vcA, vcB, Ret_returned])
      rw [hsz]
      have e : bs ++ b :: lowF k n = bs ++ lowF 1 b ++ lowF k n := by
        have : b % 256 = b := by omega
        simp only [lowF, this, List.append_assoc, List.cons_append, List.nil_append]
      rw [e]
      refine WTo.trans ((hE4.mono fun _ h => h.elim).trans hk5 fun i _ h => h) (fun g hg => ?_) hT
      rcases hb5 g hg with h | h
      · exact .inl h
      · exact .inr (Nat.le_trans hE4.size h)
    by_cases h2 : n < 65536
    · exact hkey 2 253 (.inl ⟨rfl, rfl⟩) (by unfold wideF; rw [if_neg h1, if_pos h2]) (by unfold sizeF; rw [if_neg h1, if_pos h2])
    by_cases h3 : n < 4294967296
    · exact hkey 4 254 (.inr (.inl ⟨rfl, rfl⟩)) (by unfold wideF; rw [if_neg h1, if_neg h2, if_pos h3]) (by unfold sizeF; rw [if_neg h1, if_neg h2, if_pos h3])
    · exact hkey 8 255 (.inr (.inr ⟨rfl, rfl⟩)) (by unfold wideF; rw [if_neg h1, if_neg h2, if_neg h3]) (by unfold sizeF; rw [if_neg h1, if_neg h2, if_neg h3])
theorem sizeF_len {n : Int} : 1 ≤ (sizeF n).length ∧ (sizeF n).length ≤ 9 := by
  unfold sizeF; split <;> (try split) <;> (try split) <;> simp [lowF_len]
/-- A size, and bytes. -/
theorem bytes_ok (w : World) (p : Nat) (v : Value) (bs : List Int) (x : Value) (news : List Int) (h : WAt w p v bs) (hx : Rd w x news) (hxs : ∀ w', Keep (WS p v) w w' → Rd w' x news) (hl : bs.length + news.length ≤ 900000) :
    Calls Try.prog 43 #[.pointer (some ⟨p, 0, none⟩), x] w (Ret fun _ w' => WTo w w' p v (bs ++ (sizeF news.length ++ news))) := by
  refine calls_of_cfg c43_ok (Nat.le_of_ble_eq_true rfl) ?_
  simp only [argE_nil, argE_cons, Nat.reduceAdd, Nat.zero_add]
  have hlen := hx.len
  have hw : IntKind.u64.wrap (news.length : Int) = news.length := by rw [wrap_u64]; omega
  (refine W_at c43_ok ?_; refine ⟨_, rfl, ?_⟩; simp (disch := first | omega | assumption | rfl | (simp only [vcS] <;> omega) | fail) only [↓ptV_l, ↓vcA, vcB, ↓reduceIte, Nat.reduceEqDiff, reduceCtorEq, Option.bind_some, Option.map_some, hlen, hw])
  refine callV_ret (size_ok w p v bs news.length h (by omega) (by omega)) ?_
  intro _ w1 hT
  obtain ⟨⟨v', hW, hb⟩, hk⟩ := hT
  (refine W_at c43_ok ?_; refine ⟨_, rfl, ?_⟩; simp (disch := first | omega | assumption | rfl | (simp only [vcS] <;> omega) | fail) only [↓ptV_l, ↓vcA, vcB, ↓reduceIte, Nat.reduceEqDiff, reduceCtorEq, Option.bind_some, Option.map_some])
  have hsl := @sizeF_len news.length
  refine callV_ret (raw_ok w1 p v' _ x news hW (hxs w1 hk) (by simp; omega)) ?_
  intro _ w2 hT
  (refine W_at c43_ok ?_; refine ⟨_, rfl, ?_⟩; simp (disch := first | omega | assumption | rfl | (simp only [vcS] <;> omega) | fail) only [↓vcA, vcB, Ret_returned])
  rw [← List.append_assoc]
  exact WTo.trans hk hb hT
end Go.Proofs
