/- The graphs of this seat's functions, written by program, each held against the translation by the kernel. -/
import Derived.Test.YtnbbgmnjjdaopaaProg
import Derived.Test.YtnbbgmnjjdaopaaVcF
import Derived.KernelRfl
set_option linter.unusedSimpArgs false
set_option linter.unusedVariables false
set_option linter.constructorNameAsVariable false
namespace Go.Proofs
open Go.Vc
/- gosem.cut.init: entry 1 -/
def c2 : List Vc.Node := [
  .ret [],
  .reg (.l (some 0) none (.callx 1 []) [] .done) false 0 []
  ]
theorem c2_ok : cfgL Try.prog 2 = some (1, 1, c2.map Vc.Node.bare) := by kernel_rfl
/- strongbox/strongboxlaw19.FeesCounts: entry 18 -/
def c3 : List Vc.Node := [
  .ret [.t 2],
  .ret [.t 2],
  .reg (.q (some 2) none (.mov (.const (.bool true))) .done) false 1 [2],
  .jmp 11,
  .reg (.q (some 18) none (.mov (.tmp 5)) (.q (some 19) none (.bin .add (.tmp 18) (.const (.int .i64 1))) (.q (some 5) none (.mov (.tmp 19)) .done))) false 3 [0, 3, 4, 5],
  .ret [.t 2],
  .reg (.q (some 2) none (.mov (.const (.bool false))) .done) false 5 [2],
  .cnd (.tmp 30) 6 4,
  .reg (.q (some 27) none (.mov (.tmp 3)) (.q (some 28) none (.ldN 313 (.tmp 4)) (.l (some 29) none (.call 11 [(.tmp 27), (.tmp 28)]) [] (.q (some 30) none (.not (.tmp 29)) .done)))) false 7 [0, 3, 4, 5, 30],
  .reg (.q (some 20) none (.mov (.tmp 3)) (.q (some 21) none (.ldN 313 (.tmp 4)) (.q (some 22) none (.mov (.tmp 0)) (.q (some 23) none (.mov (.tmp 5)) (.q (some 24) none (.iadrS 5 (.tmp 22) (.tmp 23)) (.q (some 25) none (.ldN 5 (.tmp 24)) (.l (some 26) none (.call 10 [(.tmp 20), (.tmp 21), (.tmp 25)]) [] (.l none none (.stN 313 (.tmp 4) (.tmp 26)) [] .done)))))))) true 8 [0, 3, 4, 5],
  .cnd (.tmp 17) 9 2,
  .reg (.q (some 10) none (.mov (.tmp 5)) (.q (some 11) none (.mov (.tmp 0)) (.q (some 12) none (.len (.tmp 11)) (.q (some 13) none (.bin .lss (.tmp 10) (.tmp 12)) (.q (some 14) none (.mov (.tmp 13)) (.q (some 15) (some (14, true)) (.mov (.tmp 5)) (.q (some 16) (some (14, true)) (.bin .lss (.tmp 15) (.const (.int .i64 60))) (.q (some 17) none (.pick (.tmp 14) (.tmp 16) (.const (.bool false))) .done)))))))) false 10 [0, 3, 4, 5, 17],
  .reg (.q (some 5) none (.mov (.const (.int .i64 0))) .done) false 11 [0, 3, 4, 5],
  .reg (.l (some 8) none (.call 9 []) [] (.q (some 9) none (.bld [.z [(312, (.int .i64 0)), (1, (.slice none 0 0))]]) (.l (some 4) none (.alloc 31 [(312, (.int .i64 0)), (1, (.slice none 0 0))]) [] (.q (some 3) none (.mov (.tmp 8)) (.l none none (.stN 313 (.tmp 4) (.tmp 9)) [] .done))))) false 12 [0, 3, 4],
  .ret [.t 2],
  .reg (.q (some 2) none (.mov (.const (.bool false))) .done) false 14 [2],
  .cnd (.tmp 7) 15 13,
  .reg (.l (some 6) none (.call 8 []) [] (.q (some 7) none (.not (.tmp 6)) .done)) false 16 [0, 7],
  .reg (.q (some 2) none (.mov (.const (.bool false))) .done) false 17 [0]
  ]
theorem c3_ok : cfgL Try.prog 3 = some (31, 18, c3.map Vc.Node.bare) := by kernel_rfl
/- strongbox/strongboxlaw19.FeesEstimates: entry 10 -/
def c4 : List Vc.Node := [
  .ret [.t 6],
  .ret [.t 6],
  .reg (.q (some 34) none (.mov (.tmp 9)) (.q (some 35) none (.mov (.tmp 11)) (.q (some 36) none (.bin .eql (.tmp 34) (.tmp 35)) (.q (some 37) none (.mov (.tmp 36)) (.q (some 38) (some (37, true)) (.mov (.tmp 10)) (.q (some 39) (some (37, true)) (.mov (.tmp 12)) (.q (some 40) (some (37, true)) (.bin .eql (.tmp 38) (.tmp 39)) (.q (some 41) none (.pick (.tmp 37) (.tmp 40) (.const (.bool false))) (.q (some 6) none (.mov (.tmp 41)) .done))))))))) false 1 [6],
  .reg (.q (some 28) none (.ldN 313 (.tmp 8)) (.q (some 29) none (.mov (.tmp 1)) (.q (some 30) none (.mov (.tmp 2)) (.l (some 31) none (.call 14 [(.tmp 28), (.tmp 29), (.tmp 30)]) [] (.q (some 27) none (.mov (.tmp 31)) (.q (some 32) none (.ext 0 (.tmp 27)) (.q (some 33) none (.ext 1 (.tmp 27)) (.q (some 11) none (.mov (.tmp 32)) (.q (some 12) none (.mov (.tmp 33)) .done))))))))) false 2 [9, 10, 11, 12],
  .reg (.q (some 21) none (.mov (.tmp 7)) (.q (some 22) none (.mov (.tmp 1)) (.q (some 23) none (.mov (.tmp 2)) (.l (some 24) none (.call 13 [(.tmp 21), (.tmp 22), (.tmp 23)]) [] (.q (some 20) none (.mov (.tmp 24)) (.q (some 25) none (.ext 0 (.tmp 20)) (.q (some 26) none (.ext 1 (.tmp 20)) (.q (some 9) none (.mov (.tmp 25)) (.q (some 10) none (.mov (.tmp 26)) .done))))))))) false 3 [1, 2, 8, 9, 10],
  .reg (.q (some 16) none (.mov (.tmp 0)) (.l (some 17) none (.call 12 [(.tmp 16)]) [] (.q (some 15) none (.mov (.tmp 17)) (.q (some 18) none (.ext 0 (.tmp 15)) (.q (some 19) none (.ext 1 (.tmp 15)) (.l (some 8) none (.alloc 31 [(312, (.int .i64 0)), (1, (.slice none 0 0))]) [] (.q (some 7) none (.mov (.tmp 18)) (.l none none (.stN 313 (.tmp 8) (.tmp 19)) [] .done)))))))) false 4 [1, 2, 7, 8],
  .ret [.t 6],
  .reg (.q (some 6) none (.mov (.const (.bool false))) .done) false 6 [6],
  .cnd (.tmp 14) 7 5,
  .reg (.l (some 13) none (.call 8 []) [] (.q (some 14) none (.not (.tmp 13)) .done)) false 8 [0, 1, 2, 14],
  .reg (.q (some 6) none (.mov (.const (.bool false))) .done) false 9 [0, 1, 2]
  ]
theorem c4_ok : cfgL Try.prog 4 = some (42, 10, c4.map Vc.Node.bare) := by kernel_rfl
/- strongbox/strongboxlaw19.FeesGrows: entry 27 -/
def c5 : List Vc.Node := [
  .ret [.t 6],
  .ret [.t 6],
  .reg (.q (some 6) none (.mov (.const (.bool true))) .done) false 1 [6],
  .ret [.t 6],
  .reg (.q (some 6) none (.mov (.const (.bool false))) .done) false 3 [6],
  .cnd (.tmp 64) 4 2,
  .reg (.q (some 58) none (.mov (.tmp 14)) (.q (some 59) none (.bin .neq (.tmp 58) (.const (.int .i64 0))) (.q (some 60) none (.mov (.tmp 59)) (.q (some 61) (some (60, false)) (.mov (.tmp 13)) (.q (some 62) (some (60, false)) (.mov (.tmp 9)) (.q (some 63) (some (60, false)) (.bin .gtr (.tmp 61) (.tmp 62)) (.q (some 64) none (.pick (.tmp 60) (.const (.bool true)) (.tmp 63)) .done))))))) false 5 [64],
  .reg (.q (some 51) none (.mov (.tmp 7)) (.q (some 52) none (.mov (.tmp 1)) (.q (some 53) none (.mov (.tmp 2)) (.q (some 54) none (.bin .sub (.tmp 53) (.const (.int .i64 1))) (.l (some 55) none (.call 13 [(.tmp 51), (.tmp 52), (.tmp 54)]) [] (.q (some 50) none (.mov (.tmp 55)) (.q (some 56) none (.ext 0 (.tmp 50)) (.q (some 57) none (.ext 1 (.tmp 50)) (.q (some 13) none (.mov (.tmp 56)) (.q (some 14) none (.mov (.tmp 57)) .done)))))))))) false 6 [9, 13, 14],
  .cnd (.tmp 49) 7 2,
  .reg (.q (some 48) none (.mov (.tmp 2)) (.q (some 49) none (.bin .gtr (.tmp 48) (.const (.int .i64 1))) .done)) false 8 [1, 2, 7, 9, 49],
  .ret [.t 6],
  .reg (.q (some 6) none (.mov (.const (.bool false))) .done) false 10 [6],
  .cnd (.tmp 47) 11 9,
  .reg (.q (some 41) none (.mov (.tmp 12)) (.q (some 42) none (.bin .neq (.tmp 41) (.const (.int .i64 0))) (.q (some 43) none (.mov (.tmp 42)) (.q (some 44) (some (43, false)) (.mov (.tmp 11)) (.q (some 45) (some (43, false)) (.mov (.tmp 9)) (.q (some 46) (some (43, false)) (.bin .gtr (.tmp 44) (.tmp 45)) (.q (some 47) none (.pick (.tmp 43) (.const (.bool true)) (.tmp 46)) .done))))))) false 12 [1, 2, 7, 9, 47],
  .reg (.q (some 34) none (.mov (.tmp 7)) (.q (some 35) none (.mov (.tmp 1)) (.q (some 36) none (.bin .add (.tmp 35) (.const (.int .i64 1))) (.q (some 37) none (.mov (.tmp 2)) (.l (some 38) none (.call 13 [(.tmp 34), (.tmp 36), (.tmp 37)]) [] (.q (some 33) none (.mov (.tmp 38)) (.q (some 39) none (.ext 0 (.tmp 33)) (.q (some 40) none (.ext 1 (.tmp 33)) (.q (some 11) none (.mov (.tmp 39)) (.q (some 12) none (.mov (.tmp 40)) .done)))))))))) false 13 [1, 2, 7, 9, 11, 12],
  .cnd (.tmp 32) 14 9,
  .reg (.q (some 31) none (.mov (.tmp 1)) (.q (some 32) none (.bin .lss (.tmp 31) (.const (.int .i64 12))) .done)) false 15 [1, 2, 7, 9, 32],
  .ret [.t 6],
  .reg (.q (some 6) none (.mov (.const (.bool true))) .done) false 17 [6],
  .cnd (.tmp 30) 18 16,
  .reg (.q (some 29) none (.mov (.tmp 10)) (.q (some 30) none (.bin .neq (.tmp 29) (.const (.int .i64 0))) .done)) false 19 [1, 2, 7, 9, 30],
  .reg (.q (some 23) none (.mov (.tmp 7)) (.q (some 24) none (.mov (.tmp 1)) (.q (some 25) none (.mov (.tmp 2)) (.l (some 26) none (.call 13 [(.tmp 23), (.tmp 24), (.tmp 25)]) [] (.q (some 22) none (.mov (.tmp 26)) (.q (some 27) none (.ext 0 (.tmp 22)) (.q (some 28) none (.ext 1 (.tmp 22)) (.q (some 9) none (.mov (.tmp 27)) (.q (some 10) none (.mov (.tmp 28)) .done))))))))) false 20 [1, 2, 7, 9, 10],
  .reg (.q (some 18) none (.mov (.tmp 0)) (.l (some 19) none (.call 12 [(.tmp 18)]) [] (.q (some 17) none (.mov (.tmp 19)) (.q (some 20) none (.ext 0 (.tmp 17)) (.q (some 21) none (.ext 1 (.tmp 17)) (.l (some 8) none (.alloc 31 [(312, (.int .i64 0)), (1, (.slice none 0 0))]) [] (.q (some 7) none (.mov (.tmp 20)) (.l none none (.stN 313 (.tmp 8) (.tmp 21)) [] .done)))))))) false 21 [1, 2, 7],
  .ret [.t 6],
  .reg (.q (some 6) none (.mov (.const (.bool false))) .done) false 23 [6],
  .cnd (.tmp 16) 24 22,
  .reg (.l (some 15) none (.call 8 []) [] (.q (some 16) none (.not (.tmp 15)) .done)) false 25 [0, 1, 2, 16],
  .reg (.q (some 6) none (.mov (.const (.bool false))) .done) false 26 [0, 1, 2]
  ]
theorem c5_ok : cfgL Try.prog 5 = some (65, 27, c5.map Vc.Node.bare) := by kernel_rfl
/- strongbox/strongboxlaw19.FeesClones: entry 41 -/
def c6 : List Vc.Node := [
  .ret [.t 6],
  .ret [.t 6],
  .reg (.q (some 105) none (.mov (.tmp 7)) (.q (some 106) none (.ldN 313 (.tmp 8)) (.l (some 107) none (.call 11 [(.tmp 105), (.tmp 106)]) [] (.q (some 108) none (.mov (.tmp 107)) (.q (some 109) (some (108, true)) (.mov (.tmp 9)) (.q (some 110) (some (108, true)) (.ldN 313 (.tmp 10)) (.l (some 111) (some (108, true)) (.call 11 [(.tmp 109), (.tmp 110)]) [] (.q (some 112) none (.pick (.tmp 108) (.tmp 111) (.const (.bool false))) (.q (some 113) none (.mov (.tmp 112)) (.q (some 114) (some (113, true)) (.mov (.tmp 7)) (.q (some 115) (some (113, true)) (.mov (.tmp 9)) (.l (some 116) (some (113, true)) (.call 16 [(.tmp 114), (.tmp 115)]) [] (.q (some 117) (some (113, true)) (.mov (.tmp 12)) (.q (some 118) (some (113, true)) (.eqB false (.tmp 116) (.tmp 117)) (.q (some 119) none (.pick (.tmp 113) (.tmp 118) (.const (.bool false))) (.q (some 6) none (.mov (.tmp 119)) .done)))))))))))))))) false 1 [6],
  .jmp 16,
  .reg (.q (some 104) none (.bin .add (.tmp 82) (.const (.int .i64 1))) (.q (some 82) none (.mov (.tmp 104)) .done)) false 3 [7, 8, 9, 10, 12, 80, 81, 82],
  .reg (.q (some 100) none (.mov (.tmp 12)) (.q (some 101) none (.mov (.tmp 100)) (.q (some 102) (some (101, true)) (.mov (.tmp 15)) (.q (some 103) none (.pick (.tmp 101) (.tmp 102) (.const (.bool false))) (.q (some 12) none (.mov (.tmp 103)) .done))))) false 4 [7, 8, 9, 10, 12, 80, 81, 82],
  .jmp 11,
  .reg (.q (some 99) none (.bin .add (.tmp 89) (.const (.int .i64 1))) (.q (some 89) none (.mov (.tmp 99)) .done)) false 6 [7, 8, 9, 10, 12, 14, 15, 80, 81, 82, 87, 88, 89],
  .reg (.q (some 93) none (.mov (.tmp 15)) (.q (some 94) none (.mov (.tmp 93)) (.q (some 95) (some (94, false)) (.ldN 34 (.tmp 14)) (.q (some 96) (some (94, false)) (.ldN 34 (.tmp 17)) (.q (some 97) (some (94, false)) (.eqA false [(32, .i .u8), (2, .i .i64)] (.tmp 95) (.tmp 96)) (.q (some 98) none (.pick (.tmp 94) (.const (.bool true)) (.tmp 97)) (.q (some 15) none (.mov (.tmp 98)) .done))))))) false 7 [7, 8, 9, 10, 12, 14, 15, 80, 81, 82, 87, 88, 89],
  .reg (.q (some 91) none (.iadrS 34 (.tmp 87) (.tmp 89)) (.q (some 92) none (.ldN 34 (.tmp 91)) (.l (some 17) none (.alloc 49 [(32, (.int .u8 0)), (2, (.int .i64 0))]) [] (.l none none (.stN 34 (.tmp 17) (.tmp 92)) [] .done)))) false 8 [7, 8, 9, 10, 12, 14, 15, 17, 80, 81, 82, 87, 88, 89],
  .cnd (.tmp 90) 9 5,
  .reg (.q (some 90) none (.bin .lss (.tmp 89) (.tmp 88)) .done) false 10 [7, 8, 9, 10, 12, 14, 15, 80, 81, 82, 87, 88, 89, 90],
  .reg (.q (some 86) none (.fadr 312 (.tmp 10)) (.q (some 87) none (.ld1 (.tmp 86)) (.q (some 88) none (.len (.tmp 87)) (.q (some 89) none (.mov (.const (.int .i64 0))) .done)))) false 11 [7, 8, 9, 10, 12, 14, 15, 80, 81, 82, 87, 88, 89],
  .reg (.q (some 15) none (.mov (.const (.bool false))) .done) false 12 [7, 8, 9, 10, 12, 14, 15, 80, 81, 82],
  .reg (.q (some 84) none (.iadrS 34 (.tmp 80) (.tmp 82)) (.q (some 85) none (.ldN 34 (.tmp 84)) (.l (some 14) none (.alloc 49 [(32, (.int .u8 0)), (2, (.int .i64 0))]) [] (.l none none (.stN 34 (.tmp 14) (.tmp 85)) [] .done)))) false 13 [7, 8, 9, 10, 12, 14, 80, 81, 82],
  .cnd (.tmp 83) 14 2,
  .reg (.q (some 83) none (.bin .lss (.tmp 82) (.tmp 81)) .done) false 15 [7, 8, 9, 10, 12, 80, 81, 82, 83],
  .reg (.q (some 79) none (.fadr 312 (.tmp 8)) (.q (some 80) none (.ld1 (.tmp 79)) (.q (some 81) none (.len (.tmp 80)) (.q (some 82) none (.mov (.const (.int .i64 0))) .done)))) false 16 [7, 8, 9, 10, 12, 80, 81, 82],
  .reg (.q (some 58) none (.fadr 0 (.tmp 8)) (.q (some 59) none (.ldN 24 (.tmp 58)) (.q (some 60) none (.fadr 0 (.tmp 10)) (.q (some 61) none (.ldN 24 (.tmp 60)) (.q (some 62) none (.eqA false [(24, .i .i64)] (.tmp 59) (.tmp 61)) (.q (some 63) none (.mov (.tmp 62)) (.q (some 64) (some (63, true)) (.fadr 24 (.tmp 8)) (.q (some 65) (some (63, true)) (.ldN 288 (.tmp 64)) (.q (some 66) (some (63, true)) (.fadr 24 (.tmp 10)) (.q (some 67) (some (63, true)) (.ldN 288 (.tmp 66)) (.q (some 68) (some (63, true)) (.eqA false [(288, .i .i64)] (.tmp 65) (.tmp 67)) (.q (some 69) none (.pick (.tmp 63) (.tmp 68) (.const (.bool false))) (.q (some 70) none (.mov (.tmp 69)) (.q (some 71) (some (70, true)) (.fadr 312 (.tmp 8)) (.q (some 72) (some (70, true)) (.ld1 (.tmp 71)) (.q (some 73) (some (70, true)) (.len (.tmp 72)) (.q (some 74) (some (70, true)) (.fadr 312 (.tmp 10)) (.q (some 75) (some (70, true)) (.ld1 (.tmp 74)) (.q (some 76) (some (70, true)) (.len (.tmp 75)) (.q (some 77) (some (70, true)) (.bin .eql (.tmp 73) (.tmp 76)) (.q (some 78) none (.pick (.tmp 70) (.tmp 77) (.const (.bool false))) (.q (some 12) none (.mov (.tmp 78)) .done)))))))))))))))))))))) false 17 [7, 8, 9, 10, 12],
  .jmp 28,
  .reg (.q (some 34) none (.mov (.tmp 11)) (.q (some 35) none (.bin .add (.tmp 34) (.const (.int .i64 1))) (.q (some 11) none (.mov (.tmp 35)) .done))) false 19 [1, 2, 7, 8, 9, 10, 11],
  .reg (.q (some 51) none (.mov (.tmp 9)) (.q (some 52) none (.ldN 313 (.tmp 10)) (.q (some 53) none (.mov (.tmp 2)) (.q (some 54) none (.mov (.tmp 11)) (.q (some 55) none (.iadrS 5 (.tmp 53) (.tmp 54)) (.q (some 56) none (.ldN 5 (.tmp 55)) (.l (some 57) none (.call 10 [(.tmp 51), (.tmp 52), (.tmp 56)]) [] (.l none none (.stN 313 (.tmp 10) (.tmp 57)) [] .done)))))))) true 20 [1, 2, 7, 8, 9, 10, 11],
  .cnd (.tmp 50) 21 20,
  .reg (.q (some 47) none (.mov (.tmp 11)) (.q (some 48) none (.mov (.tmp 2)) (.q (some 49) none (.len (.tmp 48)) (.q (some 50) none (.bin .lss (.tmp 47) (.tmp 49)) .done)))) false 22 [1, 2, 7, 8, 9, 10, 11, 50],
  .reg (.q (some 40) none (.mov (.tmp 7)) (.q (some 41) none (.ldN 313 (.tmp 8)) (.q (some 42) none (.mov (.tmp 1)) (.q (some 43) none (.mov (.tmp 11)) (.q (some 44) none (.iadrS 5 (.tmp 42) (.tmp 43)) (.q (some 45) none (.ldN 5 (.tmp 44)) (.l (some 46) none (.call 10 [(.tmp 40), (.tmp 41), (.tmp 45)]) [] (.l none none (.stN 313 (.tmp 8) (.tmp 46)) [] .done)))))))) true 23 [1, 2, 7, 8, 9, 10, 11],
  .cnd (.tmp 39) 24 23,
  .reg (.q (some 36) none (.mov (.tmp 11)) (.q (some 37) none (.mov (.tmp 1)) (.q (some 38) none (.len (.tmp 37)) (.q (some 39) none (.bin .lss (.tmp 36) (.tmp 38)) .done)))) false 25 [1, 2, 7, 8, 9, 10, 11, 39],
  .cnd (.tmp 33) 26 18,
  .reg (.q (some 32) none (.mov (.tmp 11)) (.q (some 33) none (.bin .lss (.tmp 32) (.const (.int .i64 20))) .done)) false 27 [1, 2, 7, 8, 9, 10, 11, 33],
  .reg (.q (some 11) none (.mov (.const (.int .i64 0))) .done) false 28 [1, 2, 7, 8, 9, 10, 11],
  .reg (.q (some 31) none (.ldN 313 (.tmp 8)) (.l (some 10) none (.alloc 31 [(312, (.int .i64 0)), (1, (.slice none 0 0))]) [] (.l none none (.stN 313 (.tmp 10) (.tmp 31)) [] .done))) false 29 [1, 2, 7, 8, 9, 10],
  .ret [.t 6],
  .reg (.q (some 6) none (.mov (.const (.bool false))) .done) false 31 [6],
  .cnd (.tmp 30) 32 30,
  .reg (.q (some 27) none (.mov (.tmp 9)) (.q (some 28) none (.mov (.tmp 7)) (.l (some 29) none (.call 16 [(.tmp 27), (.tmp 28)]) [] (.q (some 30) none (.not (.tmp 29)) .done)))) false 33 [1, 2, 7, 8, 9, 30],
  .reg (.q (some 25) none (.mov (.tmp 7)) (.l (some 26) none (.call 15 [(.tmp 25)]) [] (.q (some 9) none (.mov (.tmp 26)) .done))) false 34 [1, 2, 7, 8, 9],
  .reg (.q (some 21) none (.mov (.tmp 0)) (.l (some 22) none (.call 12 [(.tmp 21)]) [] (.q (some 20) none (.mov (.tmp 22)) (.q (some 23) none (.ext 0 (.tmp 20)) (.q (some 24) none (.ext 1 (.tmp 20)) (.l (some 8) none (.alloc 31 [(312, (.int .i64 0)), (1, (.slice none 0 0))]) [] (.q (some 7) none (.mov (.tmp 23)) (.l none none (.stN 313 (.tmp 8) (.tmp 24)) [] .done)))))))) false 35 [1, 2, 7, 8],
  .ret [.t 6],
  .reg (.q (some 6) none (.mov (.const (.bool false))) .done) false 37 [6],
  .cnd (.tmp 19) 38 36,
  .reg (.l (some 18) none (.call 8 []) [] (.q (some 19) none (.not (.tmp 18)) .done)) false 39 [0, 1, 2, 19],
  .reg (.q (some 6) none (.mov (.const (.bool false))) .done) false 40 [0, 1, 2]
  ]
theorem c6_ok : cfgL Try.prog 6 = some (120, 41, c6.map Vc.Node.bare) := by kernel_rfl
/- strongbox/strongboxtop.StrongboxWaited: entry 35 -/
def c7 : List Vc.Node := [
  .ret [.t 6],
  .ret [.t 6],
  .reg (.q (some 108) none (.mov (.tmp 14)) (.q (some 109) none (.bin .geq (.tmp 108) (.const (.int .i64 2000))) (.q (some 110) none (.mov (.tmp 109)) (.q (some 111) (some (110, true)) (.mov (.tmp 15)) (.q (some 112) (some (110, true)) (.bin .mul (.tmp 111) (.const (.int .i64 100))) (.q (some 113) (some (110, true)) (.mov (.tmp 8)) (.q (some 114) (some (110, true)) (.mov (.tmp 14)) (.q (some 115) (some (110, true)) (.bin .mul (.tmp 113) (.tmp 114)) (.q (some 116) (some (110, true)) (.bin .geq (.tmp 112) (.tmp 115)) (.q (some 117) none (.pick (.tmp 110) (.tmp 116) (.const (.bool false))) (.q (some 6) none (.mov (.tmp 117)) .done))))))))))) false 1 [6],
  .jmp 11,
  .reg (.q (some 90) none (.mov (.tmp 17)) (.q (some 91) none (.bin .add (.tmp 90) (.const (.int .i64 1))) (.q (some 17) none (.mov (.tmp 91)) .done))) false 3 [7, 8, 9, 12, 14, 15, 16, 17],
  .reg (.q (some 106) none (.mov (.tmp 16)) (.q (some 107) none (.bin .mul (.tmp 106) (.const (.int .i64 2))) (.q (some 16) none (.mov (.tmp 107)) .done))) false 4 [7, 8, 9, 12, 14, 15, 16, 17],
  .reg (.q (some 100) none (.mov (.tmp 15)) (.q (some 101) none (.mov (.tmp 9)) (.q (some 102) none (.mov (.tmp 17)) (.q (some 103) none (.mov (.tmp 7)) (.l (some 104) none (.call 20 [(.tmp 101), (.tmp 102), (.tmp 103)]) [] (.q (some 105) none (.bin .add (.tmp 100) (.tmp 104)) (.q (some 15) none (.mov (.tmp 105)) .done))))))) false 5 [7, 8, 9, 12, 14, 15, 16, 17],
  .reg (.q (some 95) none (.mov (.tmp 14)) (.q (some 96) none (.mov (.tmp 9)) (.q (some 97) none (.mov (.tmp 17)) (.l (some 98) none (.call 19 [(.tmp 96), (.tmp 97)]) [] (.q (some 99) none (.bin .add (.tmp 95) (.tmp 98)) (.q (some 14) none (.mov (.tmp 99)) .done)))))) false 6 [7, 8, 9, 12, 14, 15, 16, 17],
  .cnd (.tmp 94) 7 5,
  .reg (.q (some 92) none (.mov (.tmp 16)) (.q (some 93) none (.mov (.tmp 12)) (.q (some 94) none (.bin .geq (.tmp 92) (.tmp 93)) .done))) false 8 [7, 8, 9, 12, 14, 15, 16, 17, 94],
  .cnd (.tmp 89) 9 2,
  .reg (.q (some 88) none (.mov (.tmp 17)) (.q (some 89) none (.bin .lss (.tmp 88) (.const (.int .i64 24))) .done)) false 10 [7, 8, 9, 12, 14, 15, 16, 17, 89],
  .reg (.q (some 17) none (.mov (.const (.int .i64 0))) .done) false 11 [7, 8, 9, 12, 14, 15, 16, 17],
  .reg (.q (some 14) none (.mov (.const (.int .i64 0))) (.q (some 15) none (.mov (.const (.int .i64 0))) (.q (some 16) none (.mov (.const (.int .i64 1000))) .done))) false 12 [7, 8, 9, 12, 14, 15, 16],
  .ret [.t 6],
  .reg (.q (some 71) none (.mov (.tmp 13)) (.q (some 72) none (.bin .eql (.tmp 71) (.const (.int .i64 1))) (.q (some 73) none (.mov (.tmp 7)) (.q (some 74) none (.bin .lss (.tmp 73) (.const (.int .i64 1))) (.q (some 75) none (.mov (.tmp 74)) (.q (some 76) (some (75, false)) (.mov (.tmp 7)) (.q (some 77) (some (75, false)) (.bin .gtr (.tmp 76) (.const (.int .i64 12))) (.q (some 78) none (.pick (.tmp 75) (.const (.bool true)) (.tmp 77)) (.q (some 79) none (.mov (.tmp 78)) (.q (some 80) (some (79, false)) (.mov (.tmp 8)) (.q (some 81) (some (79, false)) (.bin .lss (.tmp 80) (.const (.int .i64 1))) (.q (some 82) none (.pick (.tmp 79) (.const (.bool true)) (.tmp 81)) (.q (some 83) none (.mov (.tmp 82)) (.q (some 84) (some (83, false)) (.mov (.tmp 8)) (.q (some 85) (some (83, false)) (.bin .gtr (.tmp 84) (.const (.int .i64 100))) (.q (some 86) none (.pick (.tmp 83) (.const (.bool true)) (.tmp 85)) (.q (some 87) none (.eqB false (.tmp 72) (.tmp 86)) (.q (some 6) none (.mov (.tmp 87)) .done)))))))))))))))))) false 14 [6],
  .cnd (.tmp 70) 15 13,
  .reg (.q (some 69) none (.mov (.tmp 13)) (.q (some 70) none (.bin .neq (.tmp 69) (.const (.int .i64 0))) .done)) false 16 [7, 8, 9, 12, 13, 70],
  .reg (.q (some 63) none (.mov (.tmp 9)) (.q (some 64) none (.mov (.tmp 7)) (.q (some 65) none (.mov (.tmp 8)) (.l (some 66) none (.call 13 [(.tmp 63), (.tmp 64), (.tmp 65)]) [] (.q (some 62) none (.mov (.tmp 66)) (.q (some 67) none (.ext 0 (.tmp 62)) (.q (some 68) none (.ext 1 (.tmp 62)) (.q (some 12) none (.mov (.tmp 67)) (.q (some 13) none (.mov (.tmp 68)) .done))))))))) false 17 [7, 8, 9, 12, 13],
  .jmp 27,
  .reg (.q (some 33) none (.mov (.tmp 10)) (.q (some 34) none (.bin .add (.tmp 33) (.const (.int .i64 1))) (.q (some 10) none (.mov (.tmp 34)) .done))) false 19 [0, 1, 7, 8, 9, 10],
  .reg (.q (some 48) none (.mov (.tmp 9)) (.q (some 49) none (.mov (.tmp 1)) (.q (some 50) none (.mov (.tmp 10)) (.q (some 51) none (.mov (.tmp 1)) (.q (some 52) none (.len (.tmp 51)) (.q (some 53) none (.bin .rem (.tmp 50) (.tmp 52)) (.q (some 54) none (.iadrS 1 (.tmp 49) (.tmp 53)) (.q (some 55) none (.ld1 (.tmp 54)) (.q (some 56) none (.max [(.const (.int .i64 0)), (.tmp 55)]) (.q (some 57) none (.bin .rem (.tmp 56) (.const (.int .i64 14))) (.q (some 58) none (.bin .add (.const (.int .i64 10)) (.tmp 57)) (.q (some 59) none (.ldN 32 (.tmp 11)) (.l (some 60) none (.bldS 54 32 [(.tmp 59)]) [⟨55, none, (.ld1 (.tmp 54))⟩] (.l (some 61) none (.call 18 [(.tmp 48), (.tmp 58), (.tmp 60)]) [] .done)))))))))))))) true 20 [0, 1, 7, 8, 9, 10],
  .cnd (.tmp 47) 21 20,
  .reg (.q (some 45) none (.mov (.tmp 1)) (.q (some 46) none (.len (.tmp 45)) (.q (some 47) none (.bin .gtr (.tmp 46) (.const (.int .i64 0))) .done))) false 22 [0, 1, 7, 8, 9, 10, 11, 47],
  .reg (.q (some 38) none (.mov (.tmp 9)) (.q (some 39) none (.ldN 32 (.tmp 11)) (.q (some 40) none (.mov (.tmp 0)) (.q (some 41) none (.mov (.tmp 10)) (.q (some 42) none (.iadrS 1 (.tmp 40) (.tmp 41)) (.q (some 43) none (.ld1 (.tmp 42)) (.l (some 44) none (.call 17 [(.tmp 38), (.tmp 39), (.tmp 43), (.const (.int .i64 10))]) [] .done))))))) true 23 [0, 1, 7, 8, 9, 10, 11],
  .reg (.q (some 35) none (.mov (.tmp 10)) (.q (some 36) none (.cvi .u8 (.tmp 35)) (.q (some 37) none (.bld [.x 1 (.tmp 36), .x 1 (.const (.int .u8 1)), .z [(30, (.int .u8 0))]]) (.l (some 11) none (.alloc 54 [(32, (.int .u8 0))]) [] (.l none none (.stN 32 (.tmp 11) (.tmp 37)) [] .done))))) false 24 [0, 1, 7, 8, 9, 10, 11],
  .cnd (.tmp 32) 25 18,
  .reg (.q (some 25) none (.mov (.tmp 10)) (.q (some 26) none (.mov (.tmp 0)) (.q (some 27) none (.len (.tmp 26)) (.q (some 28) none (.bin .lss (.tmp 25) (.tmp 27)) (.q (some 29) none (.mov (.tmp 28)) (.q (some 30) (some (29, true)) (.mov (.tmp 10)) (.q (some 31) (some (29, true)) (.bin .lss (.tmp 30) (.const (.int .i64 60))) (.q (some 32) none (.pick (.tmp 29) (.tmp 31) (.const (.bool false))) .done)))))))) false 26 [0, 1, 7, 8, 9, 10, 32],
  .reg (.q (some 10) none (.mov (.const (.int .i64 0))) .done) false 27 [0, 1, 7, 8, 9, 10],
  .ret [.t 6],
  .reg (.q (some 6) none (.mov (.const (.bool false))) .done) false 29 [6],
  .cnd (.tmp 24) 30 28,
  .reg (.q (some 23) none (.mov (.tmp 9)) (.q (some 24) none (.eqP false (.tmp 23) (.const (.pointer none))) .done)) false 31 [0, 1, 7, 8, 9, 24],
  .reg (.l (some 22) none (.call 9 []) [] (.q (some 9) none (.mov (.tmp 22)) .done)) false 32 [0, 1, 7, 8, 9],
  .reg (.q (some 18) none (.iadrA 2 1 (.tmp 5) (.const (.int .i64 0))) (.q (some 19) none (.ld1 (.tmp 18)) (.q (some 20) none (.iadrA 2 1 (.tmp 5) (.const (.int .i64 1))) (.q (some 21) none (.ld1 (.tmp 20)) (.q (some 7) none (.mov (.tmp 19)) (.q (some 8) none (.mov (.tmp 21)) .done)))))) true 33 [0, 1, 7, 8],
  .reg (.l (some 5) none (.box 53 (.tmp 2)) [] (.q (some 6) none (.mov (.const (.bool false))) .done)) false 34 [0, 1, 5]
  ]
theorem c7_ok : cfgL Try.prog 7 = some (118, 35, c7.map Vc.Node.bare) := by kernel_rfl
/- strongbox/strongboxlaw19.awake: entry 16 -/
def c8 : List Vc.Node := [
  .ret [.t 0],
  .ret [.t 0],
  .reg (.q (some 27) none (.mov (.tmp 4)) (.q (some 28) none (.bin .eql (.tmp 27) (.const (.int .i64 0))) (.q (some 29) none (.mov (.tmp 28)) (.q (some 30) (some (29, true)) (.mov (.tmp 3)) (.q (some 31) (some (29, true)) (.bin .eql (.tmp 30) (.const (.int .i64 4000))) (.q (some 32) none (.pick (.tmp 29) (.tmp 31) (.const (.bool false))) (.q (some 33) none (.mov (.tmp 32)) (.q (some 34) (some (33, true)) (.mov (.tmp 1)) (.l (some 35) (some (33, true)) (.call 19 [(.tmp 34), (.const (.int .i64 2))]) [] (.q (some 36) (some (33, true)) (.bin .eql (.tmp 35) (.const (.int .i64 3000))) (.q (some 37) none (.pick (.tmp 33) (.tmp 36) (.const (.bool false))) (.q (some 38) none (.mov (.tmp 37)) (.q (some 39) (some (38, true)) (.mov (.tmp 1)) (.l (some 40) (some (38, true)) (.call 20 [(.tmp 39), (.const (.int .i64 2)), (.const (.int .i64 1))]) [] (.q (some 41) (some (38, true)) (.bin .eql (.tmp 40) (.const (.int .i64 3000))) (.q (some 42) none (.pick (.tmp 38) (.tmp 41) (.const (.bool false))) (.q (some 43) none (.mov (.tmp 42)) (.q (some 44) (some (43, true)) (.mov (.tmp 1)) (.l (some 45) (some (43, true)) (.call 22 [(.tmp 44)]) [] (.q (some 46) (some (43, true)) (.bin .eql (.tmp 45) (.const (.int .i64 0))) (.q (some 47) none (.pick (.tmp 43) (.tmp 46) (.const (.bool false))) (.q (some 0) none (.mov (.tmp 47)) .done)))))))))))))))))))))) false 1 [0],
  .reg (.q (some 23) none (.mov (.tmp 1)) (.l (some 24) none (.call 13 [(.tmp 23), (.const (.int .i64 1)), (.const (.int .i64 90))]) [] (.q (some 22) none (.mov (.tmp 24)) (.q (some 25) none (.ext 0 (.tmp 22)) (.q (some 26) none (.ext 1 (.tmp 22)) (.q (some 3) none (.mov (.tmp 25)) (.q (some 4) none (.mov (.tmp 26)) .done))))))) false 2 [1, 3, 4],
  .reg (.q (some 16) none (.mov (.tmp 1)) (.l (some 17) none (.call 21 [(.const (.int .u8 0))]) [] (.l (some 18) none (.call 21 [(.const (.int .u8 1))]) [] (.l (some 19) none (.call 21 [(.const (.int .u8 2))]) [] (.l (some 20) none (.bldS 54 32 [(.tmp 17), (.tmp 18), (.tmp 19)]) [] (.l (some 21) none (.call 18 [(.tmp 16), (.const (.int .i64 2)), (.tmp 20)]) [] .done)))))) false 3 [1],
  .jmp 9,
  .reg (.q (some 10) none (.mov (.tmp 2)) (.q (some 11) none (.bin .add (.tmp 10) (.const (.int .u8 1))) (.q (some 2) none (.mov (.tmp 11)) .done))) false 5 [1, 2],
  .reg (.q (some 12) none (.mov (.tmp 1)) (.q (some 13) none (.mov (.tmp 2)) (.l (some 14) none (.call 21 [(.tmp 13)]) [] (.l (some 15) none (.call 17 [(.tmp 12), (.tmp 14), (.const (.int .i64 5000)), (.const (.int .i64 1))]) [] .done)))) false 6 [1, 2],
  .cnd (.tmp 9) 7 4,
  .reg (.q (some 8) none (.mov (.tmp 2)) (.q (some 9) none (.bin .lss (.tmp 8) (.const (.int .u8 3))) .done)) false 8 [1, 2, 9],
  .reg (.q (some 2) none (.mov (.const (.int .u8 0))) .done) false 9 [1, 2],
  .ret [.t 0],
  .reg (.q (some 0) none (.mov (.const (.bool false))) .done) false 11 [0],
  .cnd (.tmp 7) 12 10,
  .reg (.q (some 6) none (.mov (.tmp 1)) (.q (some 7) none (.eqP false (.tmp 6) (.const (.pointer none))) .done)) false 13 [1, 7],
  .reg (.l (some 5) none (.call 9 []) [] (.q (some 1) none (.mov (.tmp 5)) .done)) false 14 [1],
  .reg (.q (some 0) none (.mov (.const (.bool false))) .done) false 15 []
  ]
theorem c8_ok : cfgL Try.prog 8 = some (48, 16, c8.map Vc.Node.bare) := by kernel_rfl
/- strongbox/fees.New: entry 3 -/
def c9 : List Vc.Node := [
  .ret [.t 0],
  .ret [.t 0],
  .reg (.q (some 1) none (.bld [.z [(312, (.int .i64 0)), (1, (.map none))]]) (.l (some 2) none (.box 67 (.tmp 1)) [] (.q (some 0) none (.mov (.tmp 2)) .done))) false 1 [0],
  .reg (.q (some 0) none (.mov (.const (.pointer none))) .done) false 2 []
  ]
theorem c9_ok : cfgL Try.prog 9 = some (3, 3, c9.map Vc.Node.bare) := by kernel_rfl
/- strongbox/strongboxlaw19.do: entry 23 -/
def c10 : List Vc.Node := [
  .ret [.cN 6 313],
  .ret [.cN 6 313],
  .reg (.q (some 74) none (.ldN 313 (.tmp 4)) (.q (some 75) none (.fadr 1 (.tmp 5)) (.q (some 76) none (.ld1 (.tmp 75)) (.q (some 78) none (.fadr 2 (.tmp 5)) (.q (some 79) none (.ld1 (.tmp 78)) (.q (some 80) none (.fadr 3 (.tmp 5)) (.q (some 81) none (.ld1 (.tmp 80)) (.l (some 77) none (.call 21 [(.tmp 76)]) [⟨81, none, (.ld1 (.tmp 80))⟩, ⟨79, none, (.ld1 (.tmp 78))⟩, ⟨74, none, (.ldN 313 (.tmp 4))⟩] (.l (some 82) none (.call 26 [(.tmp 74), (.tmp 77), (.tmp 79), (.tmp 81)]) [] (.l none none (.stN 313 (.tmp 6) (.tmp 82)) [] .done)))))))))) true 1 [6],
  .reg (.q (some 65) none (.mov (.tmp 0)) (.q (some 66) none (.fadr 1 (.tmp 5)) (.q (some 67) none (.ld1 (.tmp 66)) (.q (some 69) none (.fadr 2 (.tmp 5)) (.q (some 70) none (.ld1 (.tmp 69)) (.q (some 71) none (.fadr 3 (.tmp 5)) (.q (some 72) none (.ld1 (.tmp 71)) (.l (some 68) none (.call 21 [(.tmp 67)]) [⟨72, none, (.ld1 (.tmp 71))⟩, ⟨70, none, (.ld1 (.tmp 69))⟩] (.l (some 73) none (.call 17 [(.tmp 65), (.tmp 68), (.tmp 70), (.tmp 72)]) [] .done))))))))) true 2 [4, 5, 6],
  .ret [.cN 6 313],
  .reg (.q (some 19) none (.ldN 313 (.tmp 4)) (.q (some 20) none (.fadr 1 (.tmp 5)) (.q (some 21) none (.ld1 (.tmp 20)) (.l (some 22) none (.call 21 [(.tmp 21)]) [⟨19, none, (.ldN 313 (.tmp 4))⟩] (.l (some 23) none (.call 24 [(.tmp 19), (.tmp 22)]) [] (.l none none (.stN 313 (.tmp 6) (.tmp 23)) [] .done)))))) true 4 [6],
  .reg (.q (some 14) none (.mov (.tmp 0)) (.q (some 15) none (.fadr 1 (.tmp 5)) (.q (some 16) none (.ld1 (.tmp 15)) (.l (some 17) none (.call 21 [(.tmp 16)]) [] (.l (some 18) none (.call 23 [(.tmp 14), (.tmp 17)]) [] .done))))) false 5 [4, 5, 6],
  .ret [.cN 6 313],
  .reg (.q (some 60) none (.ldN 313 (.tmp 4)) (.q (some 61) none (.fadr 3 (.tmp 5)) (.q (some 62) none (.ld1 (.tmp 61)) (.q (some 63) none (.mov (.tmp 8)) (.l (some 64) none (.call 25 [(.tmp 60), (.tmp 62), (.tmp 63)]) [] (.l none none (.stN 313 (.tmp 6) (.tmp 64)) [] .done)))))) false 7 [6],
  .reg (.q (some 55) none (.mov (.tmp 0)) (.q (some 56) none (.fadr 3 (.tmp 5)) (.q (some 57) none (.ld1 (.tmp 56)) (.q (some 58) none (.mov (.tmp 7)) (.l (some 59) none (.call 18 [(.tmp 55), (.tmp 57), (.tmp 58)]) [] .done))))) false 8 [4, 5, 6, 8],
  .jmp 14,
  .reg (.q (some 35) none (.mov (.tmp 9)) (.q (some 36) none (.bin .add (.tmp 35) (.const (.int .i64 1))) (.q (some 9) none (.mov (.tmp 36)) .done))) false 10 [0, 4, 5, 6, 7, 8, 9],
  .reg (.q (some 37) none (.mov (.tmp 7)) (.q (some 38) none (.fadr 4 (.tmp 5)) (.q (some 39) none (.ld1 (.tmp 38)) (.q (some 40) none (.mov (.tmp 9)) (.q (some 41) none (.iadrS 1 (.tmp 39) (.tmp 40)) (.q (some 42) none (.ld1 (.tmp 41)) (.q (some 46) none (.mov (.tmp 8)) (.q (some 47) none (.fadr 4 (.tmp 5)) (.q (some 48) none (.ld1 (.tmp 47)) (.q (some 49) none (.mov (.tmp 9)) (.q (some 50) none (.iadrS 1 (.tmp 48) (.tmp 49)) (.q (some 51) none (.ld1 (.tmp 50)) (.l (some 43) none (.call 21 [(.tmp 42)]) [⟨51, none, (.ld1 (.tmp 50))⟩, ⟨48, none, (.ld1 (.tmp 47))⟩] (.l (some 44) none (.bldS 54 32 [(.tmp 43)]) [⟨51, none, (.ld1 (.tmp 50))⟩, ⟨48, none, (.ld1 (.tmp 47))⟩] (.l (some 45) none (.app 54 32 32 [(32, (.int .u8 0))] (.tmp 37) (.tmp 44)) [⟨51, none, (.ld1 (.tmp 50))⟩, ⟨48, none, (.ld1 (.tmp 47))⟩] (.l (some 52) none (.call 21 [(.tmp 51)]) [] (.l (some 53) none (.bldS 47 32 [(.tmp 52)]) [] (.l (some 54) none (.app 47 32 32 [(32, (.int .u8 0))] (.tmp 46) (.tmp 53)) [] (.q (some 7) none (.mov (.tmp 45)) (.q (some 8) none (.mov (.tmp 54)) .done)))))))))))))))))))) true 11 [0, 4, 5, 6, 7, 8, 9],
  .cnd (.tmp 34) 12 9,
  .reg (.q (some 26) none (.mov (.tmp 9)) (.q (some 27) none (.fadr 4 (.tmp 5)) (.q (some 28) none (.ld1 (.tmp 27)) (.q (some 29) none (.len (.tmp 28)) (.q (some 30) none (.bin .lss (.tmp 26) (.tmp 29)) (.q (some 31) none (.mov (.tmp 30)) (.q (some 32) (some (31, true)) (.mov (.tmp 9)) (.q (some 33) (some (31, true)) (.bin .lss (.tmp 32) (.const (.int .i64 40))) (.q (some 34) none (.pick (.tmp 31) (.tmp 33) (.const (.bool false))) .done))))))))) false 13 [0, 4, 5, 6, 7, 8, 9, 34],
  .reg (.q (some 9) none (.mov (.const (.int .i64 0))) .done) false 14 [0, 4, 5, 6, 7, 8, 9],
  .reg (.q (some 8) none (.mov (.const (.slice none 0 0))) .done) false 15 [0, 4, 5, 6, 7, 8],
  .reg (.q (some 7) none (.mov (.const (.slice none 0 0))) .done) false 16 [0, 4, 5, 6, 7],
  .cnd (.tmp 24) 17 3,
  .reg (.q (some 25) none (.bin .eql (.tmp 11) (.const (.int .i64 2))) (.q (some 24) none (.mov (.tmp 25)) .done)) false 18 [0, 4, 5, 6, 24],
  .cnd (.tmp 12) 6 19,
  .reg (.q (some 13) none (.bin .eql (.tmp 11) (.const (.int .i64 1))) (.q (some 12) none (.mov (.tmp 13)) .done)) false 20 [0, 4, 5, 6, 11, 12],
  .reg (.q (some 10) none (.fadr 0 (.tmp 5)) (.q (some 11) none (.ld1 (.tmp 10)) .done)) false 21 [0, 4, 5, 6, 11],
  .reg (.l (some 4) none (.box 31 (.tmp 1)) [] (.l (some 5) none (.box 35 (.tmp 2)) [] (.l (some 6) none (.alloc 31 [(312, (.int .i64 0)), (1, (.slice none 0 0))]) [] .done))) false 22 [0, 4, 5, 6]
  ]
theorem c10_ok : cfgL Try.prog 10 = some (83, 23, c10.map Vc.Node.bare) := by kernel_rfl
/- strongbox/strongboxlaw19.is: entry 29 -/
def c11 : List Vc.Node := [
  .ret [.t 4],
  .ret [.t 4],
  .reg (.q (some 68) none (.mov (.tmp 0)) (.q (some 70) none (.fadr 312 (.tmp 3)) (.q (some 71) none (.ld1 (.tmp 70)) (.q (some 72) none (.len (.tmp 71)) (.l (some 69) none (.call 22 [(.tmp 68)]) [⟨71, none, (.ld1 (.tmp 70))⟩] (.q (some 73) none (.bin .eql (.tmp 69) (.tmp 72)) (.q (some 4) none (.mov (.tmp 73)) .done))))))) true 1 [4],
  .jmp 27,
  .reg (.q (some 11) none (.mov (.tmp 5)) (.q (some 12) none (.bin .add (.tmp 11) (.const (.int .i64 1))) (.q (some 5) none (.mov (.tmp 12)) .done))) false 3 [0, 3, 5],
  .jmp 19,
  .reg (.q (some 42) none (.mov (.tmp 7)) (.q (some 43) none (.bin .add (.tmp 42) (.const (.int .i64 1))) (.q (some 7) none (.mov (.tmp 43)) .done))) false 5 [0, 3, 5, 6, 7],
  .ret [.t 4],
  .reg (.q (some 4) none (.mov (.const (.bool false))) .done) false 7 [4],
  .cnd (.tmp 65) 8 6,
  .reg (.q (some 57) none (.mov (.tmp 8)) (.q (some 58) none (.mov (.tmp 5)) (.q (some 59) none (.mov (.tmp 7)) (.q (some 60) none (.bin .sub (.tmp 59) (.const (.int .i64 1))) (.q (some 61) none (.fadr 24 (.tmp 3)) (.q (some 62) none (.iadrA 24 12 (.tmp 61) (.tmp 58)) (.q (some 63) none (.iadrA 12 1 (.tmp 62) (.tmp 60)) (.q (some 64) none (.ld1 (.tmp 63)) (.q (some 65) none (.bin .neq (.tmp 57) (.tmp 64)) .done))))))))) false 9 [0, 3, 5, 6, 7, 65],
  .ret [.t 4],
  .reg (.q (some 4) none (.mov (.const (.bool false))) .done) false 11 [4],
  .cnd (.tmp 67) 12 6,
  .reg (.q (some 66) none (.mov (.tmp 8)) (.q (some 67) none (.bin .neq (.tmp 66) (.const (.int .i64 0))) .done)) false 13 [0, 3, 5, 6, 7, 67],
  .cnd (.tmp 56) 10 14,
  .reg (.q (some 48) none (.mov (.tmp 6)) (.q (some 49) none (.mov (.tmp 48)) (.q (some 50) (some (49, true)) (.mov (.tmp 7)) (.q (some 51) (some (49, true)) (.bin .geq (.tmp 50) (.const (.int .i64 1))) (.q (some 52) none (.pick (.tmp 49) (.tmp 51) (.const (.bool false))) (.q (some 53) none (.mov (.tmp 52)) (.q (some 54) (some (53, true)) (.mov (.tmp 7)) (.q (some 55) (some (53, true)) (.bin .leq (.tmp 54) (.const (.int .i64 12))) (.q (some 56) none (.pick (.tmp 53) (.tmp 55) (.const (.bool false))) .done))))))))) false 15 [0, 3, 5, 6, 7, 8, 56],
  .reg (.q (some 44) none (.mov (.tmp 0)) (.q (some 45) none (.mov (.tmp 5)) (.q (some 46) none (.mov (.tmp 7)) (.l (some 47) none (.call 20 [(.tmp 44), (.tmp 45), (.tmp 46)]) [] (.q (some 8) none (.mov (.tmp 47)) .done))))) false 16 [0, 3, 5, 6, 7, 8],
  .cnd (.tmp 41) 17 4,
  .reg (.q (some 40) none (.mov (.tmp 7)) (.q (some 41) none (.bin .leq (.tmp 40) (.const (.int .i64 13))) .done)) false 18 [0, 3, 5, 6, 7, 41],
  .reg (.q (some 7) none (.mov (.const (.int .i64 0))) .done) false 19 [0, 3, 5, 6, 7],
  .ret [.t 4],
  .reg (.q (some 4) none (.mov (.const (.bool false))) .done) false 21 [4],
  .cnd (.tmp 39) 22 20,
  .reg (.q (some 19) none (.mov (.tmp 6)) (.q (some 20) none (.mov (.tmp 19)) (.q (some 21) (some (20, true)) (.mov (.tmp 0)) (.q (some 22) (some (20, true)) (.mov (.tmp 5)) (.q (some 24) (some (20, true)) (.mov (.tmp 5)) (.q (some 25) (some (20, true)) (.fadr 0 (.tmp 3)) (.q (some 26) (some (20, true)) (.iadrA 24 1 (.tmp 25) (.tmp 24)) (.q (some 27) (some (20, true)) (.ld1 (.tmp 26)) (.l (some 23) (some (20, true)) (.call 19 [(.tmp 21), (.tmp 22)]) [⟨27, (some (20, true)), (.ld1 (.tmp 26))⟩] (.q (some 28) (some (20, true)) (.bin .neq (.tmp 23) (.tmp 27)) (.q (some 29) none (.pick (.tmp 20) (.tmp 28) (.const (.bool false))) (.q (some 30) none (.mov (.tmp 29)) (.q (some 31) (some (30, false)) (.mov (.tmp 6)) (.q (some 32) (some (30, false)) (.not (.tmp 31)) (.q (some 33) (some (30, false)) (.mov (.tmp 32)) (.q (some 34) (some (33, true)) (.mov (.tmp 0)) (.q (some 35) (some (33, true)) (.mov (.tmp 5)) (.l (some 36) (some (33, true)) (.call 19 [(.tmp 34), (.tmp 35)]) [] (.q (some 37) (some (33, true)) (.bin .neq (.tmp 36) (.const (.int .i64 0))) (.q (some 38) (some (30, false)) (.pick (.tmp 33) (.tmp 37) (.const (.bool false))) (.q (some 39) none (.pick (.tmp 30) (.const (.bool true)) (.tmp 38)) .done))))))))))))))))))))) true 23 [0, 3, 5, 6, 39],
  .reg (.q (some 13) none (.mov (.tmp 5)) (.q (some 14) none (.bin .geq (.tmp 13) (.const (.int .i64 0))) (.q (some 15) none (.mov (.tmp 14)) (.q (some 16) (some (15, true)) (.mov (.tmp 5)) (.q (some 17) (some (15, true)) (.bin .lss (.tmp 16) (.const (.int .i64 24))) (.q (some 18) none (.pick (.tmp 15) (.tmp 17) (.const (.bool false))) (.q (some 6) none (.mov (.tmp 18)) .done))))))) false 24 [0, 3, 5, 6],
  .cnd (.tmp 10) 25 2,
  .reg (.q (some 9) none (.mov (.tmp 5)) (.q (some 10) none (.bin .leq (.tmp 9) (.const (.int .i64 24))) .done)) false 26 [0, 3, 5, 10],
  .reg (.q (some 5) none (.mov (.const (.int .i64 (-1)))) .done) false 27 [0, 3, 5],
  .reg (.l (some 3) none (.box 31 (.tmp 1)) [] (.q (some 4) none (.mov (.const (.bool false))) .done)) false 28 [0, 3]
  ]
theorem c11_ok : cfgL Try.prog 11 = some (74, 29, c11.map Vc.Node.bare) := by kernel_rfl
/- strongbox/strongboxlaw19.played: entry 10 -/
def c12 : List Vc.Node := [
  .ret [.t 2, .cN 3 313],
  .ret [.t 2, .cN 3 313],
  .reg (.q (some 26) none (.mov (.tmp 4)) (.q (some 27) none (.ldN 313 (.tmp 5)) (.q (some 2) none (.mov (.tmp 26)) (.l none none (.stN 313 (.tmp 3) (.tmp 27)) [] .done)))) true 1 [2, 3],
  .jmp 7,
  .reg (.q (some 17) none (.mov (.tmp 6)) (.q (some 18) none (.bin .add (.tmp 17) (.const (.int .i64 1))) (.q (some 6) none (.mov (.tmp 18)) .done))) false 3 [0, 3, 4, 5, 6],
  .reg (.q (some 19) none (.mov (.tmp 4)) (.q (some 20) none (.ldN 313 (.tmp 5)) (.q (some 21) none (.mov (.tmp 0)) (.q (some 22) none (.mov (.tmp 6)) (.q (some 23) none (.iadrS 5 (.tmp 21) (.tmp 22)) (.q (some 24) none (.ldN 5 (.tmp 23)) (.l (some 25) none (.call 10 [(.tmp 19), (.tmp 20), (.tmp 24)]) [] (.l none none (.stN 313 (.tmp 5) (.tmp 25)) [] .done)))))))) true 4 [0, 3, 4, 5, 6],
  .cnd (.tmp 16) 5 2,
  .reg (.q (some 9) none (.mov (.tmp 6)) (.q (some 10) none (.mov (.tmp 0)) (.q (some 11) none (.len (.tmp 10)) (.q (some 12) none (.bin .lss (.tmp 9) (.tmp 11)) (.q (some 13) none (.mov (.tmp 12)) (.q (some 14) (some (13, true)) (.mov (.tmp 6)) (.q (some 15) (some (13, true)) (.bin .lss (.tmp 14) (.const (.int .i64 60))) (.q (some 16) none (.pick (.tmp 13) (.tmp 15) (.const (.bool false))) .done)))))))) false 6 [0, 3, 4, 5, 6, 16],
  .reg (.q (some 6) none (.mov (.const (.int .i64 0))) .done) false 7 [0, 3, 4, 5, 6],
  .reg (.l (some 7) none (.call 9 []) [] (.q (some 8) none (.bld [.z [(312, (.int .i64 0)), (1, (.slice none 0 0))]]) (.l (some 5) none (.alloc 31 [(312, (.int .i64 0)), (1, (.slice none 0 0))]) [] (.q (some 4) none (.mov (.tmp 7)) (.l none none (.stN 313 (.tmp 5) (.tmp 8)) [] .done))))) false 8 [0, 3, 4, 5],
  .reg (.q (some 2) none (.mov (.const (.pointer none))) (.l (some 3) none (.alloc 31 [(312, (.int .i64 0)), (1, (.slice none 0 0))]) [] .done)) false 9 [0, 3]
  ]
theorem c12_ok : cfgL Try.prog 12 = some (28, 10, c12.map Vc.Node.bare) := by kernel_rfl
/- (*strongbox/fees.Book).Estimate: entry 26 -/
def c13 : List Vc.Node := [
  .ret [.t 6, .t 7],
  .ret [.t 6, .t 7],
  .reg (.q (some 63) none (.mov (.tmp 8)) (.q (some 6) none (.mov (.tmp 63)) (.q (some 7) none (.mov (.const (.int .i64 0))) .done))) false 1 [6, 7],
  .ret [.t 6, .t 7],
  .reg (.q (some 6) none (.mov (.const (.int .i64 0))) (.q (some 7) none (.mov (.const (.int .i64 7))) .done)) false 3 [6, 7],
  .cnd (.tmp 62) 4 2,
  .reg (.q (some 61) none (.mov (.tmp 8)) (.q (some 62) none (.bin .eql (.tmp 61) (.const (.int .i64 0))) .done)) false 5 [8, 62],
  .jmp 18,
  .reg (.q (some 28) none (.mov (.tmp 11)) (.q (some 29) none (.bin .sub (.tmp 28) (.const (.int .i64 1))) (.q (some 11) none (.mov (.tmp 29)) .done))) false 7 [0, 1, 2, 8, 9, 10, 11],
  .reg (.q (some 9) none (.mov (.const (.int .i64 0))) (.q (some 10) none (.mov (.const (.int .i64 0))) .done)) false 8 [0, 1, 2, 8, 9, 10, 11],
  .reg (.q (some 59) none (.mov (.tmp 11)) (.q (some 60) none (.bin .shl (.const (.int .i64 1000)) (.tmp 59)) (.q (some 8) none (.mov (.tmp 60)) .done))) false 9 [0, 1, 2, 8, 11],
  .cnd (.tmp 58) 6 10,
  .reg (.q (some 53) none (.mov (.tmp 10)) (.q (some 54) none (.bin .mul (.tmp 53) (.const (.int .i64 100))) (.q (some 55) none (.mov (.tmp 2)) (.q (some 56) none (.mov (.tmp 9)) (.q (some 57) none (.bin .mul (.tmp 55) (.tmp 56)) (.q (some 58) none (.bin .lss (.tmp 54) (.tmp 57)) .done)))))) false 11 [0, 1, 2, 8, 11, 58],
  .cnd (.tmp 52) 8 12,
  .reg (.q (some 51) none (.mov (.tmp 9)) (.q (some 52) none (.bin .lss (.tmp 51) (.const (.int .i64 2000))) .done)) false 13 [0, 1, 2, 8, 9, 10, 11, 52],
  .reg (.q (some 39) none (.mov (.tmp 10)) (.q (some 40) none (.mov (.tmp 0)) (.q (some 41) none (.mov (.tmp 11)) (.q (some 42) none (.mov (.tmp 1)) (.q (some 43) none (.bin .sub (.tmp 42) (.const (.int .i64 1))) (.q (some 44) none (.nc (.tmp 40)) (.q (some 45) none (.fadr 0 (.tmp 44)) (.q (some 46) none (.iadrA 24 13 (.tmp 45) (.tmp 41)) (.q (some 47) none (.fadr 1 (.tmp 46)) (.q (some 48) none (.iadrA 12 1 (.tmp 47) (.tmp 43)) (.q (some 49) none (.ld1 (.tmp 48)) (.q (some 50) none (.bin .add (.tmp 39) (.tmp 49)) (.q (some 10) none (.mov (.tmp 50)) .done))))))))))))) false 14 [0, 1, 2, 8, 9, 10, 11],
  .reg (.q (some 30) none (.mov (.tmp 9)) (.q (some 31) none (.mov (.tmp 0)) (.q (some 32) none (.mov (.tmp 11)) (.q (some 33) none (.nc (.tmp 31)) (.q (some 34) none (.fadr 0 (.tmp 33)) (.q (some 35) none (.iadrA 24 13 (.tmp 34) (.tmp 32)) (.q (some 36) none (.fadr 0 (.tmp 35)) (.q (some 37) none (.ld1 (.tmp 36)) (.q (some 38) none (.bin .add (.tmp 30) (.tmp 37)) (.q (some 9) none (.mov (.tmp 38)) .done)))))))))) false 15 [0, 1, 2, 8, 9, 10, 11],
  .cnd (.tmp 27) 16 6,
  .reg (.q (some 26) none (.mov (.tmp 11)) (.q (some 27) none (.bin .geq (.tmp 26) (.const (.int .i64 0))) .done)) false 17 [0, 1, 2, 8, 9, 10, 11, 27],
  .reg (.q (some 11) none (.mov (.const (.int .i64 23))) .done) false 18 [0, 1, 2, 8, 9, 10, 11],
  .reg (.q (some 9) none (.mov (.const (.int .i64 0))) (.q (some 10) none (.mov (.const (.int .i64 0))) .done)) false 19 [0, 1, 2, 8, 9, 10],
  .reg (.q (some 8) none (.mov (.const (.int .i64 0))) .done) false 20 [0, 1, 2, 8],
  .ret [.t 6, .t 7],
  .reg (.q (some 6) none (.mov (.const (.int .i64 0))) (.q (some 7) none (.mov (.const (.int .i64 1))) .done)) false 22 [6, 7],
  .cnd (.tmp 25) 23 21,
  .reg (.q (some 12) none (.mov (.tmp 1)) (.q (some 13) none (.bin .lss (.tmp 12) (.const (.int .i64 1))) (.q (some 14) none (.mov (.tmp 13)) (.q (some 15) (some (14, false)) (.mov (.tmp 1)) (.q (some 16) (some (14, false)) (.bin .gtr (.tmp 15) (.const (.int .i64 12))) (.q (some 17) none (.pick (.tmp 14) (.const (.bool true)) (.tmp 16)) (.q (some 18) none (.mov (.tmp 17)) (.q (some 19) (some (18, false)) (.mov (.tmp 2)) (.q (some 20) (some (18, false)) (.bin .lss (.tmp 19) (.const (.int .i64 1))) (.q (some 21) none (.pick (.tmp 18) (.const (.bool true)) (.tmp 20)) (.q (some 22) none (.mov (.tmp 21)) (.q (some 23) (some (22, false)) (.mov (.tmp 2)) (.q (some 24) (some (22, false)) (.bin .gtr (.tmp 23) (.const (.int .i64 100))) (.q (some 25) none (.pick (.tmp 22) (.const (.bool true)) (.tmp 24)) .done)))))))))))))) false 24 [0, 1, 2, 25],
  .reg (.q (some 6) none (.mov (.const (.int .i64 0))) (.q (some 7) none (.mov (.const (.int .i64 0))) .done)) false 25 [0, 1, 2]
  ]
theorem c13_ok : cfgL Try.prog 13 = some (64, 26, c13.map Vc.Node.bare) := by kernel_rfl
/- strongbox/strongboxref19.Estimate: entry 37 -/
def c14 : List Vc.Node := [
  .ret [.t 6, .t 7],
  .ret [.t 6, .t 7],
  .reg (.q (some 66) none (.mov (.tmp 8)) (.q (some 6) none (.mov (.tmp 66)) (.q (some 7) none (.mov (.const (.int .i64 0))) .done))) false 1 [6, 7],
  .ret [.t 6, .t 7],
  .reg (.q (some 6) none (.mov (.const (.int .i64 0))) (.q (some 7) none (.mov (.const (.int .i64 7))) .done)) false 3 [6, 7],
  .cnd (.tmp 65) 4 2,
  .reg (.q (some 64) none (.mov (.tmp 8)) (.q (some 65) none (.bin .eql (.tmp 64) (.const (.int .i64 0))) .done)) false 5 [8, 65],
  .jmp 21,
  .reg (.q (some 36) none (.mov (.tmp 13)) (.q (some 37) none (.bin .sub (.tmp 36) (.const (.int .i64 1))) (.q (some 13) none (.mov (.tmp 37)) .done))) false 7 [1, 2, 3, 8, 9, 10, 11, 13],
  .reg (.q (some 62) none (.mov (.tmp 11)) (.q (some 63) none (.bin .quo (.tmp 62) (.const (.int .i64 2))) (.q (some 11) none (.mov (.tmp 63)) .done))) false 8 [1, 2, 3, 8, 9, 10, 11, 13],
  .reg (.q (some 13) none (.mov (.const (.int .i64 0))) .done) false 9 [1, 2, 3, 8, 9, 10, 11, 13],
  .reg (.q (some 10) none (.mov (.const (.int .i64 0))) .done) false 9 [1, 2, 3, 8, 9, 10, 11, 13],
  .reg (.q (some 9) none (.mov (.const (.int .i64 0))) .done) false 11 [1, 2, 3, 8, 9, 11, 13],
  .reg (.q (some 61) none (.mov (.tmp 11)) (.q (some 8) none (.mov (.tmp 61)) .done)) false 12 [1, 2, 3, 8, 11, 13],
  .cnd (.tmp 60) 10 13,
  .reg (.q (some 55) none (.mov (.tmp 10)) (.q (some 56) none (.bin .mul (.tmp 55) (.const (.int .i64 100))) (.q (some 57) none (.mov (.tmp 2)) (.q (some 58) none (.mov (.tmp 9)) (.q (some 59) none (.bin .mul (.tmp 57) (.tmp 58)) (.q (some 60) none (.bin .lss (.tmp 56) (.tmp 59)) .done)))))) false 14 [1, 2, 3, 8, 9, 10, 11, 13, 60],
  .cnd (.tmp 54) 15 9,
  .reg (.q (some 53) none (.mov (.tmp 9)) (.q (some 54) none (.bin .geq (.tmp 53) (.const (.int .i64 2000))) .done)) false 16 [1, 2, 3, 8, 9, 10, 11, 13, 54],
  .reg (.q (some 44) none (.mov (.tmp 10)) (.q (some 45) none (.mov (.tmp 13)) (.q (some 46) none (.mov (.tmp 1)) (.q (some 47) none (.bin .sub (.tmp 46) (.const (.int .i64 1))) (.q (some 48) none (.fadr 24 (.tmp 3)) (.q (some 49) none (.iadrA 24 12 (.tmp 48) (.tmp 45)) (.q (some 50) none (.iadrA 12 1 (.tmp 49) (.tmp 47)) (.q (some 51) none (.ld1 (.tmp 50)) (.q (some 52) none (.bin .add (.tmp 44) (.tmp 51)) (.q (some 10) none (.mov (.tmp 52)) .done)))))))))) false 17 [1, 2, 3, 8, 9, 10, 11, 13],
  .reg (.q (some 38) none (.mov (.tmp 9)) (.q (some 39) none (.mov (.tmp 13)) (.q (some 40) none (.fadr 0 (.tmp 3)) (.q (some 41) none (.iadrA 24 1 (.tmp 40) (.tmp 39)) (.q (some 42) none (.ld1 (.tmp 41)) (.q (some 43) none (.bin .add (.tmp 38) (.tmp 42)) (.q (some 9) none (.mov (.tmp 43)) .done))))))) false 18 [1, 2, 3, 8, 9, 10, 11, 13],
  .cnd (.tmp 35) 19 6,
  .reg (.q (some 34) none (.mov (.tmp 13)) (.q (some 35) none (.bin .geq (.tmp 34) (.const (.int .i64 0))) .done)) false 20 [1, 2, 3, 8, 9, 10, 11, 13, 35],
  .reg (.q (some 13) none (.mov (.const (.int .i64 23))) .done) false 21 [1, 2, 3, 8, 9, 10, 11, 13],
  .jmp 27,
  .reg (.q (some 30) none (.mov (.tmp 12)) (.q (some 31) none (.bin .add (.tmp 30) (.const (.int .i64 1))) (.q (some 12) none (.mov (.tmp 31)) .done))) false 23 [1, 2, 3, 8, 9, 10, 11, 12],
  .reg (.q (some 32) none (.mov (.tmp 11)) (.q (some 33) none (.bin .mul (.const (.int .i64 2)) (.tmp 32)) (.q (some 11) none (.mov (.tmp 33)) .done))) false 24 [1, 2, 3, 8, 9, 10, 11, 12],
  .cnd (.tmp 29) 25 22,
  .reg (.q (some 28) none (.mov (.tmp 12)) (.q (some 29) none (.bin .lss (.tmp 28) (.const (.int .i64 23))) .done)) false 26 [1, 2, 3, 8, 9, 10, 11, 12, 29],
  .reg (.q (some 12) none (.mov (.const (.int .i64 0))) .done) false 27 [1, 2, 3, 8, 9, 10, 11, 12],
  .reg (.q (some 11) none (.mov (.const (.int .i64 1000))) .done) false 28 [1, 2, 3, 8, 9, 10, 11],
  .reg (.q (some 10) none (.mov (.const (.int .i64 0))) .done) false 29 [1, 2, 3, 8, 9, 10],
  .reg (.q (some 9) none (.mov (.const (.int .i64 0))) .done) false 30 [1, 2, 3, 8, 9],
  .reg (.q (some 8) none (.mov (.const (.int .i64 0))) .done) false 31 [1, 2, 3, 8],
  .ret [.t 6, .t 7],
  .reg (.q (some 6) none (.mov (.const (.int .i64 0))) (.q (some 7) none (.mov (.const (.int .i64 1))) .done)) false 33 [6, 7],
  .cnd (.tmp 27) 34 32,
  .reg (.q (some 14) none (.mov (.tmp 1)) (.q (some 15) none (.bin .lss (.tmp 14) (.const (.int .i64 1))) (.q (some 16) none (.mov (.tmp 15)) (.q (some 17) (some (16, false)) (.mov (.tmp 1)) (.q (some 18) (some (16, false)) (.bin .gtr (.tmp 17) (.const (.int .i64 12))) (.q (some 19) none (.pick (.tmp 16) (.const (.bool true)) (.tmp 18)) (.q (some 20) none (.mov (.tmp 19)) (.q (some 21) (some (20, false)) (.mov (.tmp 2)) (.q (some 22) (some (20, false)) (.bin .lss (.tmp 21) (.const (.int .i64 1))) (.q (some 23) none (.pick (.tmp 20) (.const (.bool true)) (.tmp 22)) (.q (some 24) none (.mov (.tmp 23)) (.q (some 25) (some (24, false)) (.mov (.tmp 2)) (.q (some 26) (some (24, false)) (.bin .gtr (.tmp 25) (.const (.int .i64 100))) (.q (some 27) none (.pick (.tmp 24) (.const (.bool true)) (.tmp 26)) .done)))))))))))))) false 35 [1, 2, 3, 27],
  .reg (.l (some 3) none (.box 31 (.tmp 0)) [] (.q (some 6) none (.mov (.const (.int .i64 0))) (.q (some 7) none (.mov (.const (.int .i64 0))) .done))) false 36 [1, 2, 3]
  ]
theorem c14_ok : cfgL Try.prog 14 = some (67, 37, c14.map Vc.Node.bare) := by kernel_rfl
/- (*strongbox/fees.Book).Clone: entry 3 -/
def c15 : List Vc.Node := [
  .ret [.t 2],
  .ret [.t 2],
  .reg (.q (some 3) none (.mov (.tmp 0)) (.q (some 4) none (.nc (.tmp 3)) (.q (some 5) none (.fadr 0 (.tmp 4)) (.q (some 6) none (.ldN 312 (.tmp 5)) (.q (some 7) none (.mov (.tmp 0)) (.q (some 8) none (.nc (.tmp 7)) (.q (some 9) none (.fadr 312 (.tmp 8)) (.q (some 10) none (.ld1 (.tmp 9)) (.l (some 11) none (.call 27 [(.tmp 10)]) [⟨6, none, (.ldN 312 (.tmp 5))⟩] (.q (some 12) none (.bld [.x 312 (.tmp 6), .x 1 (.tmp 11)]) (.l (some 13) none (.box 67 (.tmp 12)) [] (.q (some 2) none (.mov (.tmp 13)) .done)))))))))))) true 1 [2],
  .reg (.q (some 2) none (.mov (.const (.pointer none))) .done) false 2 [0]
  ]
theorem c15_ok : cfgL Try.prog 15 = some (14, 3, c15.map Vc.Node.bare) := by kernel_rfl
/- (*strongbox/fees.Book).Same: entry 3 -/
def c16 : List Vc.Node := [
  .ret [.t 4],
  .ret [.t 4],
  .reg (.q (some 5) none (.mov (.tmp 0)) (.q (some 6) none (.nc (.tmp 5)) (.q (some 7) none (.fadr 0 (.tmp 6)) (.q (some 8) none (.ldN 312 (.tmp 7)) (.q (some 9) none (.mov (.tmp 1)) (.q (some 10) none (.nc (.tmp 9)) (.q (some 11) none (.fadr 0 (.tmp 10)) (.q (some 12) none (.ldN 312 (.tmp 11)) (.q (some 13) none (.eqA false [(312, .i .i64)] (.tmp 8) (.tmp 12)) (.q (some 14) none (.mov (.tmp 13)) (.q (some 15) (some (14, true)) (.mov (.tmp 0)) (.q (some 16) (some (14, true)) (.nc (.tmp 15)) (.q (some 17) (some (14, true)) (.fadr 312 (.tmp 16)) (.q (some 18) (some (14, true)) (.ld1 (.tmp 17)) (.q (some 19) (some (14, true)) (.mov (.tmp 1)) (.q (some 20) (some (14, true)) (.nc (.tmp 19)) (.q (some 21) (some (14, true)) (.fadr 312 (.tmp 20)) (.q (some 22) (some (14, true)) (.ld1 (.tmp 21)) (.l (some 23) (some (14, true)) (.call 28 [(.tmp 18), (.tmp 22)]) [] (.q (some 24) none (.pick (.tmp 14) (.tmp 23) (.const (.bool false))) (.q (some 4) none (.mov (.tmp 24)) .done))))))))))))))))))))) true 1 [4],
  .reg (.q (some 4) none (.mov (.const (.bool false))) .done) false 2 [0, 1]
  ]
theorem c16_ok : cfgL Try.prog 16 = some (25, 3, c16.map Vc.Node.bare) := by kernel_rfl
/- (*strongbox/fees.Book).Enter: entry 9 -/
def c17 : List Vc.Node := [
  .ret [],
  .reg (.q (some 29) none (.mov (.tmp 0)) (.q (some 30) none (.nc (.tmp 29)) (.q (some 31) none (.fadr 312 (.tmp 30)) (.q (some 32) none (.ld1 (.tmp 31)) (.q (some 33) none (.ldN 32 (.tmp 5)) (.q (some 34) none (.mov (.tmp 2)) (.q (some 36) none (.mov (.tmp 3)) (.l (some 35) none (.call 29 [(.tmp 34)]) [⟨33, none, (.ldN 32 (.tmp 5))⟩, ⟨32, none, (.ld1 (.tmp 31))⟩] (.q (some 37) none (.bld [.x 1 (.tmp 35), .x 1 (.tmp 36)]) (.l none none (.mapU [(32, .i .u8)] true (.tmp 32) (.tmp 33) (.tmp 37)) [] .done)))))))))) true 0 [],
  .reg (.q (some 25) none (.mov (.tmp 0)) (.l (some 26) none .mkM [] (.q (some 27) none (.nc (.tmp 25)) (.q (some 28) none (.fadr 312 (.tmp 27)) (.l none none (.st1 (.tmp 28) (.tmp 26)) [] .done))))) false 1 [0, 2, 3, 5],
  .cnd (.tmp 24) 2 1,
  .reg (.q (some 20) none (.mov (.tmp 0)) (.q (some 21) none (.nc (.tmp 20)) (.q (some 22) none (.fadr 312 (.tmp 21)) (.q (some 23) none (.ld1 (.tmp 22)) (.q (some 24) none (.eqM false (.tmp 23) (.const (.map none))) .done))))) false 3 [0, 2, 3, 5, 24],
  .ret [],
  .cnd (.tmp 19) 5 4,
  .reg (.q (some 19) none (.mov (.tmp 9)) .done) false 6 [0, 2, 3, 5, 19],
  .reg (.q (some 11) none (.mov (.tmp 0)) (.q (some 12) none (.nc (.tmp 11)) (.q (some 13) none (.fadr 312 (.tmp 12)) (.q (some 14) none (.ld1 (.tmp 13)) (.q (some 15) none (.ldN 32 (.tmp 5)) (.q (some 16) none (.lkp [(32, .i .u8)] true true [(2, (.int .i64 0))] true (.tmp 14) (.tmp 15)) (.q (some 10) none (.mov (.tmp 16)) (.q (some 17) none (.ext 0 (.tmp 10)) (.q (some 18) none (.ext 1 (.tmp 10)) (.l (some 8) none (.alloc 76 [(2, (.int .i64 0))]) [⟨16, none, (.lkp [(32, .i .u8)] true true [(2, (.int .i64 0))] true (.tmp 14) (.tmp 15))⟩, ⟨15, none, (.ldN 32 (.tmp 5))⟩, ⟨14, none, (.ld1 (.tmp 13))⟩] (.l none none (.stN 2 (.tmp 8) (.tmp 17)) [] (.q (some 9) none (.mov (.tmp 18)) .done)))))))))))) true 7 [0, 2, 3, 5, 9],
  .reg (.l (some 5) none (.box 54 (.tmp 1)) [] .done) false 8 [0, 2, 3, 5]
  ]
theorem c17_ok : cfgL Try.prog 17 = some (38, 9, c17.map Vc.Node.bare) := by kernel_rfl
/- (*strongbox/fees.Book).Block: entry 40 -/
def c18 : List Vc.Node := [
  .ret [],
  .jmp 24,
  .reg (.q (some 114) none (.bin .add (.tmp 52) (.const (.int .i64 1))) (.q (some 52) none (.mov (.tmp 114)) .done)) false 1 [0, 1, 50, 51, 52],
  .jmp 10,
  .reg (.q (some 113) none (.bin .add (.tmp 95) (.const (.int .i64 1))) (.q (some 95) none (.mov (.tmp 113)) .done)) false 3 [0, 1, 14, 15, 50, 51, 52, 95],
  .reg (.q (some 103) none (.mov (.tmp 15)) (.q (some 104) none (.mov (.tmp 16)) (.q (some 105) none (.nc (.tmp 103)) (.q (some 106) none (.fadr 1 (.tmp 105)) (.q (some 107) none (.iadrA 12 1 (.tmp 106) (.tmp 104)) (.q (some 108) none (.ld1 (.tmp 107)) (.q (some 109) none (.bin .add (.tmp 108) (.const (.int .i64 1000))) (.q (some 110) none (.nc (.tmp 103)) (.q (some 111) none (.fadr 1 (.tmp 110)) (.q (some 112) none (.iadrA 12 1 (.tmp 111) (.tmp 104)) (.l none none (.st1 (.tmp 112) (.tmp 109)) [] .done))))))))))) true 4 [0, 1, 14, 15, 50, 51, 52, 95],
  .cnd (.tmp 102) 5 4,
  .reg (.q (some 98) none (.mov (.tmp 14)) (.q (some 99) none (.mov (.tmp 16)) (.q (some 100) none (.cvi .u64 (.tmp 99)) (.q (some 101) none (.bin .add (.tmp 100) (.const (.int .u64 1))) (.q (some 102) none (.bin .leq (.tmp 98) (.tmp 101)) .done))))) false 6 [0, 1, 14, 15, 16, 50, 51, 52, 95, 102],
  .reg (.q (some 97) none (.mov (.tmp 95)) (.q (some 16) none (.mov (.tmp 97)) .done)) false 7 [0, 1, 14, 15, 16, 50, 51, 52, 95],
  .cnd (.tmp 96) 8 2,
  .reg (.q (some 96) none (.bin .lss (.tmp 95) (.const (.int .i64 12))) .done) false 9 [0, 1, 14, 15, 50, 51, 52, 95, 96],
  .reg (.q (some 95) none (.mov (.const (.int .i64 0))) .done) false 10 [0, 1, 14, 15, 50, 51, 52, 95],
  .reg (.q (some 88) none (.mov (.tmp 15)) (.q (some 89) none (.nc (.tmp 88)) (.q (some 90) none (.fadr 0 (.tmp 89)) (.q (some 91) none (.ld1 (.tmp 90)) (.q (some 92) none (.bin .add (.tmp 91) (.const (.int .i64 1000))) (.q (some 93) none (.nc (.tmp 88)) (.q (some 94) none (.fadr 0 (.tmp 93)) (.l none none (.st1 (.tmp 94) (.tmp 92)) [] .done)))))))) false 11 [0, 1, 14, 15, 50, 51, 52],
  .reg (.q (some 82) none (.mov (.tmp 0)) (.q (some 83) none (.fadr 0 (.tmp 12)) (.q (some 84) none (.ld1 (.tmp 83)) (.q (some 85) none (.nc (.tmp 82)) (.q (some 86) none (.fadr 0 (.tmp 85)) (.q (some 87) none (.iadrA 24 13 (.tmp 86) (.tmp 84)) (.q (some 15) none (.mov (.tmp 87)) .done))))))) true 12 [0, 1, 14, 15, 50, 51, 52],
  .reg (.q (some 76) none (.mov (.tmp 1)) (.q (some 77) none (.cvi .u64 (.tmp 76)) (.q (some 78) none (.fadr 1 (.tmp 12)) (.q (some 79) none (.ld1 (.tmp 78)) (.q (some 80) none (.cvi .u64 (.tmp 79)) (.q (some 81) none (.bin .sub (.tmp 77) (.tmp 80)) (.q (some 14) none (.mov (.tmp 81)) .done))))))) false 13 [0, 1, 12, 14, 50, 51, 52],
  .cnd (.tmp 75) 14 13,
  .reg (.q (some 72) none (.mov (.tmp 1)) (.q (some 73) none (.fadr 1 (.tmp 12)) (.q (some 74) none (.ld1 (.tmp 73)) (.q (some 75) none (.bin .gtr (.tmp 72) (.tmp 74)) .done)))) false 15 [0, 1, 12, 14, 50, 51, 52, 75],
  .reg (.q (some 14) none (.mov (.const (.int .u64 1))) .done) false 16 [0, 1, 12, 14, 50, 51, 52],
  .reg (.q (some 67) none (.mov (.tmp 0)) (.q (some 68) none (.nc (.tmp 67)) (.q (some 69) none (.fadr 312 (.tmp 68)) (.q (some 70) none (.ld1 (.tmp 69)) (.q (some 71) none (.ldN 32 (.tmp 11)) (.l none none (.mapD [(32, .i .u8)] true (.tmp 70) (.tmp 71)) [] .done)))))) true 17 [0, 1, 12, 50, 51, 52],
  .cnd (.tmp 66) 2 18,
  .reg (.q (some 65) none (.mov (.tmp 13)) (.q (some 66) none (.not (.tmp 65)) .done)) false 19 [0, 1, 11, 12, 50, 51, 52, 66],
  .reg (.q (some 57) none (.mov (.tmp 0)) (.q (some 58) none (.nc (.tmp 57)) (.q (some 59) none (.fadr 312 (.tmp 58)) (.q (some 60) none (.ld1 (.tmp 59)) (.q (some 61) none (.ldN 32 (.tmp 11)) (.q (some 62) none (.lkp [(32, .i .u8)] true true [(2, (.int .i64 0))] true (.tmp 60) (.tmp 61)) (.q (some 56) none (.mov (.tmp 62)) (.q (some 63) none (.ext 0 (.tmp 56)) (.q (some 64) none (.ext 1 (.tmp 56)) (.l (some 12) none (.alloc 76 [(2, (.int .i64 0))]) [⟨62, none, (.lkp [(32, .i .u8)] true true [(2, (.int .i64 0))] true (.tmp 60) (.tmp 61))⟩, ⟨61, none, (.ldN 32 (.tmp 11))⟩, ⟨60, none, (.ld1 (.tmp 59))⟩] (.l none none (.stN 2 (.tmp 12) (.tmp 63)) [] (.q (some 13) none (.mov (.tmp 64)) .done)))))))))))) true 20 [0, 1, 11, 12, 13, 50, 51, 52],
  .reg (.q (some 54) none (.iadrS 32 (.tmp 50) (.tmp 52)) (.q (some 55) none (.ldN 32 (.tmp 54)) (.l (some 11) none (.alloc 54 [(32, (.int .u8 0))]) [] (.l none none (.stN 32 (.tmp 11) (.tmp 55)) [] .done)))) false 21 [0, 1, 11, 50, 51, 52],
  .cnd (.tmp 53) 22 0,
  .reg (.q (some 53) none (.bin .lss (.tmp 52) (.tmp 51)) .done) false 23 [0, 1, 50, 51, 52, 53],
  .reg (.q (some 50) none (.mov (.tmp 2)) (.q (some 51) none (.len (.tmp 50)) (.q (some 52) none (.mov (.const (.int .i64 0))) .done))) false 24 [0, 1, 50, 51, 52],
  .jmp 39,
  .reg (.q (some 49) none (.bin .add (.tmp 17) (.const (.int .i64 1))) (.q (some 17) none (.mov (.tmp 49)) .done)) false 26 [0, 1, 2, 17],
  .jmp 33,
  .reg (.q (some 48) none (.bin .add (.tmp 37) (.const (.int .i64 1))) (.q (some 37) none (.mov (.tmp 48)) .done)) false 28 [0, 1, 2, 7, 17, 36, 37],
  .reg (.q (some 41) none (.mov (.tmp 7)) (.q (some 42) none (.mov (.tmp 8)) (.q (some 43) none (.mov (.tmp 9)) (.q (some 45) none (.nc (.tmp 41)) (.q (some 46) none (.fadr 1 (.tmp 45)) (.l (some 44) none (.call 30 [(.tmp 43)]) [] (.q (some 47) none (.iadrA 12 1 (.tmp 46) (.tmp 42)) (.l none none (.st1 (.tmp 47) (.tmp 44)) [] .done)))))))) true 29 [0, 1, 2, 7, 17, 36, 37],
  .reg (.q (some 39) none (.mov (.tmp 37)) (.q (some 40) none (.idxA 12 1 false (.tmp 36) (.tmp 37)) (.q (some 8) none (.mov (.tmp 39)) (.q (some 9) none (.mov (.tmp 40)) .done)))) false 30 [0, 1, 2, 7, 8, 9, 17, 36, 37],
  .cnd (.tmp 38) 31 27,
  .reg (.q (some 38) none (.bin .lss (.tmp 37) (.const (.int .i64 12))) .done) false 32 [0, 1, 2, 7, 17, 36, 37, 38],
  .reg (.q (some 33) none (.mov (.tmp 7)) (.q (some 34) none (.nc (.tmp 33)) (.q (some 35) none (.fadr 1 (.tmp 34)) (.q (some 36) none (.ldN 12 (.tmp 35)) (.q (some 37) none (.mov (.const (.int .i64 0))) .done))))) false 33 [0, 1, 2, 7, 17, 36, 37],
  .reg (.q (some 25) none (.mov (.tmp 7)) (.q (some 26) none (.mov (.tmp 7)) (.q (some 27) none (.nc (.tmp 26)) (.q (some 28) none (.fadr 0 (.tmp 27)) (.q (some 29) none (.ld1 (.tmp 28)) (.l (some 30) none (.call 30 [(.tmp 29)]) [] (.q (some 31) none (.nc (.tmp 25)) (.q (some 32) none (.fadr 0 (.tmp 31)) (.l none none (.st1 (.tmp 32) (.tmp 30)) [] .done))))))))) false 34 [0, 1, 2, 7, 17],
  .reg (.q (some 20) none (.mov (.tmp 0)) (.q (some 21) none (.mov (.tmp 6)) (.q (some 22) none (.nc (.tmp 20)) (.q (some 23) none (.fadr 0 (.tmp 22)) (.q (some 24) none (.iadrA 24 13 (.tmp 23) (.tmp 21)) (.q (some 7) none (.mov (.tmp 24)) .done)))))) false 35 [0, 1, 2, 7, 17],
  .reg (.q (some 19) none (.mov (.tmp 17)) (.q (some 6) none (.mov (.tmp 19)) .done)) false 36 [0, 1, 2, 6, 17],
  .cnd (.tmp 18) 37 25,
  .reg (.q (some 18) none (.bin .lss (.tmp 17) (.const (.int .i64 24))) .done) false 38 [0, 1, 2, 17, 18],
  .reg (.q (some 17) none (.mov (.const (.int .i64 0))) .done) false 39 [0, 1, 2, 17]
  ]
theorem c18_ok : cfgL Try.prog 18 = some (115, 40, c18.map Vc.Node.bare) := by kernel_rfl
/- (*strongbox/fees.Book).All: entry 7 -/
def c19 : List Vc.Node := [
  .ret [.t 4],
  .ret [.t 4],
  .reg (.q (some 11) none (.mov (.tmp 0)) (.q (some 12) none (.mov (.tmp 1)) (.q (some 13) none (.nc (.tmp 11)) (.q (some 14) none (.fadr 0 (.tmp 13)) (.q (some 15) none (.iadrA 24 13 (.tmp 14) (.tmp 12)) (.q (some 16) none (.fadr 0 (.tmp 15)) (.q (some 17) none (.ld1 (.tmp 16)) (.q (some 4) none (.mov (.tmp 17)) .done)))))))) false 1 [4],
  .ret [.t 4],
  .reg (.q (some 4) none (.mov (.const (.int .i64 0))) .done) false 3 [4],
  .cnd (.tmp 10) 4 2,
  .reg (.q (some 5) none (.mov (.tmp 1)) (.q (some 6) none (.bin .lss (.tmp 5) (.const (.int .i64 0))) (.q (some 7) none (.mov (.tmp 6)) (.q (some 8) (some (7, false)) (.mov (.tmp 1)) (.q (some 9) (some (7, false)) (.bin .geq (.tmp 8) (.const (.int .i64 24))) (.q (some 10) none (.pick (.tmp 7) (.const (.bool true)) (.tmp 9)) .done)))))) false 5 [0, 1, 10],
  .reg (.q (some 4) none (.mov (.const (.int .i64 0))) .done) false 6 [0, 1]
  ]
theorem c19_ok : cfgL Try.prog 19 = some (18, 7, c19.map Vc.Node.bare) := by kernel_rfl
/- (*strongbox/fees.Book).Within: entry 7 -/
def c20 : List Vc.Node := [
  .ret [.t 6],
  .ret [.t 6],
  .reg (.q (some 21) none (.mov (.tmp 0)) (.q (some 22) none (.mov (.tmp 1)) (.q (some 23) none (.mov (.tmp 2)) (.q (some 24) none (.bin .sub (.tmp 23) (.const (.int .i64 1))) (.q (some 25) none (.nc (.tmp 21)) (.q (some 26) none (.fadr 0 (.tmp 25)) (.q (some 27) none (.iadrA 24 13 (.tmp 26) (.tmp 22)) (.q (some 28) none (.fadr 1 (.tmp 27)) (.q (some 29) none (.iadrA 12 1 (.tmp 28) (.tmp 24)) (.q (some 30) none (.ld1 (.tmp 29)) (.q (some 6) none (.mov (.tmp 30)) .done))))))))))) false 1 [6],
  .ret [.t 6],
  .reg (.q (some 6) none (.mov (.const (.int .i64 0))) .done) false 3 [6],
  .cnd (.tmp 20) 4 2,
  .reg (.q (some 7) none (.mov (.tmp 1)) (.q (some 8) none (.bin .lss (.tmp 7) (.const (.int .i64 0))) (.q (some 9) none (.mov (.tmp 8)) (.q (some 10) (some (9, false)) (.mov (.tmp 1)) (.q (some 11) (some (9, false)) (.bin .geq (.tmp 10) (.const (.int .i64 24))) (.q (some 12) none (.pick (.tmp 9) (.const (.bool true)) (.tmp 11)) (.q (some 13) none (.mov (.tmp 12)) (.q (some 14) (some (13, false)) (.mov (.tmp 2)) (.q (some 15) (some (13, false)) (.bin .lss (.tmp 14) (.const (.int .i64 1))) (.q (some 16) none (.pick (.tmp 13) (.const (.bool true)) (.tmp 15)) (.q (some 17) none (.mov (.tmp 16)) (.q (some 18) (some (17, false)) (.mov (.tmp 2)) (.q (some 19) (some (17, false)) (.bin .gtr (.tmp 18) (.const (.int .i64 12))) (.q (some 20) none (.pick (.tmp 17) (.const (.bool true)) (.tmp 19)) .done)))))))))))))) false 5 [0, 1, 2, 20],
  .reg (.q (some 6) none (.mov (.const (.int .i64 0))) .done) false 6 [0, 1, 2]
  ]
theorem c20_ok : cfgL Try.prog 20 = some (31, 7, c20.map Vc.Node.bare) := by kernel_rfl
/- strongbox/strongboxlaw19.name: entry 3 -/
def c21 : List Vc.Node := [
  .ret [.cN 2 32],
  .ret [.cN 2 32],
  .reg (.q (some 3) none (.mov (.tmp 0)) (.q (some 4) none (.bld [.x 1 (.tmp 3), .x 1 (.const (.int .u8 7)), .z [(30, (.int .u8 0))]]) (.l none none (.stN 32 (.tmp 2) (.tmp 4)) [] .done))) false 1 [2],
  .reg (.l (some 2) none (.alloc 54 [(32, (.int .u8 0))]) [] .done) false 2 [0, 2]
  ]
theorem c21_ok : cfgL Try.prog 21 = some (5, 3, c21.map Vc.Node.bare) := by kernel_rfl
/- (*strongbox/fees.Book).Waits: entry 3 -/
def c22 : List Vc.Node := [
  .ret [.t 2],
  .ret [.t 2],
  .reg (.q (some 3) none (.mov (.tmp 0)) (.q (some 4) none (.nc (.tmp 3)) (.q (some 5) none (.fadr 312 (.tmp 4)) (.q (some 6) none (.ld1 (.tmp 5)) (.q (some 7) none (.lenM (.tmp 6)) (.q (some 2) none (.mov (.tmp 7)) .done)))))) false 1 [2],
  .reg (.q (some 2) none (.mov (.const (.int .i64 0))) .done) false 2 [0]
  ]
theorem c22_ok : cfgL Try.prog 22 = some (8, 3, c22.map Vc.Node.bare) := by kernel_rfl
/- (*strongbox/fees.Book).Forget: entry 2 -/
def c23 : List Vc.Node := [
  .ret [],
  .reg (.q (some 4) none (.mov (.tmp 0)) (.q (some 5) none (.nc (.tmp 4)) (.q (some 6) none (.fadr 312 (.tmp 5)) (.q (some 7) none (.ld1 (.tmp 6)) (.q (some 8) none (.ldN 32 (.tmp 3)) (.l none none (.mapD [(32, .i .u8)] true (.tmp 7) (.tmp 8)) [] .done)))))) true 0 [],
  .reg (.l (some 3) none (.box 54 (.tmp 1)) [] .done) false 1 [0, 3]
  ]
theorem c23_ok : cfgL Try.prog 23 = some (9, 2, c23.map Vc.Node.bare) := by kernel_rfl
/- strongbox/strongboxref19.Forget: entry 7 -/
def c24 : List Vc.Node := [
  .ret [.cN 4 313],
  .ret [.cN 4 313],
  .reg (.q (some 24) none (.ldN 313 (.tmp 2)) (.l none none (.stN 313 (.tmp 4) (.tmp 24)) [] .done)) false 1 [4],
  .reg (.q (some 12) none (.fadr 312 (.tmp 2)) (.q (some 13) none (.ld1 (.tmp 12)) (.q (some 14) none (.mov (.tmp 5)) (.q (some 15) none (.slcS 34 (.tmp 13) none (some (.tmp 14))) (.q (some 17) none (.fadr 312 (.tmp 2)) (.q (some 18) none (.ld1 (.tmp 17)) (.q (some 19) none (.mov (.tmp 5)) (.q (some 20) none (.bin .add (.tmp 19) (.const (.int .i64 1))) (.q (some 21) none (.slcS 34 (.tmp 18) (some (.tmp 20)) none) (.l (some 11) none (.bldS 49 34 []) [⟨18, none, (.ld1 (.tmp 17))⟩, ⟨13, none, (.ld1 (.tmp 12))⟩] (.l (some 16) none (.app 49 34 48 [(32, (.int .u8 0)), (2, (.int .i64 0))] (.tmp 11) (.tmp 15)) [⟨18, none, (.ld1 (.tmp 17))⟩] (.l (some 22) none (.app 49 34 48 [(32, (.int .u8 0)), (2, (.int .i64 0))] (.tmp 16) (.tmp 21)) [] (.q (some 23) none (.fadr 312 (.tmp 2)) (.l none none (.st1 (.tmp 23) (.tmp 22)) [] .done)))))))))))))) true 2 [2, 4],
  .cnd (.tmp 10) 3 2,
  .reg (.q (some 9) none (.mov (.tmp 5)) (.q (some 10) none (.bin .geq (.tmp 9) (.const (.int .i64 0))) .done)) false 4 [2, 4, 5, 10],
  .reg (.q (some 6) none (.ldN 313 (.tmp 2)) (.q (some 7) none (.ldN 32 (.tmp 3)) (.l (some 8) none (.call 31 [(.tmp 6), (.tmp 7)]) [] (.q (some 5) none (.mov (.tmp 8)) .done)))) false 5 [2, 4, 5],
  .reg (.l (some 2) none (.box 31 (.tmp 0)) [] (.l (some 3) none (.box 47 (.tmp 1)) [] (.l (some 4) none (.alloc 31 [(312, (.int .i64 0)), (1, (.slice none 0 0))]) [] .done))) false 6 [2, 3, 4]
  ]
theorem c24_ok : cfgL Try.prog 24 = some (25, 7, c24.map Vc.Node.bare) := by kernel_rfl
/- strongbox/strongboxref19.Block: entry 35 -/
def c25 : List Vc.Node := [
  .ret [.cN 6 313],
  .ret [.cN 6 313],
  .reg (.q (some 115) none (.ldN 313 (.tmp 3)) (.l none none (.stN 313 (.tmp 6) (.tmp 115)) [] .done)) false 1 [6],
  .jmp 21,
  .reg (.q (some 48) none (.mov (.tmp 9)) (.q (some 49) none (.bin .add (.tmp 48) (.const (.int .i64 1))) (.q (some 9) none (.mov (.tmp 49)) .done))) false 3 [1, 2, 3, 6, 9],
  .jmp 12,
  .reg (.q (some 81) none (.mov (.tmp 12)) (.q (some 82) none (.bin .add (.tmp 81) (.const (.int .i64 1))) (.q (some 12) none (.mov (.tmp 82)) .done))) false 5 [1, 2, 3, 6, 9, 11, 12],
  .reg (.q (some 99) none (.fadr 32 (.tmp 11)) (.q (some 100) none (.ld1 (.tmp 99)) (.q (some 101) none (.mov (.tmp 12)) (.q (some 102) none (.bin .sub (.tmp 101) (.const (.int .i64 1))) (.q (some 103) none (.fadr 32 (.tmp 11)) (.q (some 104) none (.ld1 (.tmp 103)) (.q (some 105) none (.mov (.tmp 12)) (.q (some 106) none (.bin .sub (.tmp 105) (.const (.int .i64 1))) (.q (some 107) none (.fadr 24 (.tmp 3)) (.q (some 108) none (.iadrA 24 12 (.tmp 107) (.tmp 104)) (.q (some 109) none (.iadrA 12 1 (.tmp 108) (.tmp 106)) (.q (some 110) none (.ld1 (.tmp 109)) (.q (some 111) none (.bin .add (.tmp 110) (.const (.int .i64 1000))) (.q (some 112) none (.fadr 24 (.tmp 3)) (.q (some 113) none (.iadrA 24 12 (.tmp 112) (.tmp 100)) (.q (some 114) none (.iadrA 12 1 (.tmp 113) (.tmp 102)) (.l none none (.st1 (.tmp 114) (.tmp 111)) [] .done))))))))))))))))) true 6 [1, 2, 3, 6, 9, 11, 12],
  .cnd (.tmp 98) 7 6,
  .reg (.q (some 98) none (.mov (.tmp 13)) .done) false 8 [1, 2, 3, 6, 9, 11, 12, 98],
  .reg (.q (some 83) none (.mov (.tmp 1)) (.q (some 84) none (.fadr 33 (.tmp 11)) (.q (some 85) none (.ld1 (.tmp 84)) (.q (some 86) none (.bin .leq (.tmp 83) (.tmp 85)) (.q (some 87) none (.mov (.tmp 86)) (.q (some 88) (some (87, false)) (.mov (.tmp 1)) (.q (some 89) (some (87, false)) (.cvi .u64 (.tmp 88)) (.q (some 90) (some (87, false)) (.fadr 33 (.tmp 11)) (.q (some 91) (some (87, false)) (.ld1 (.tmp 90)) (.q (some 92) (some (87, false)) (.cvi .u64 (.tmp 91)) (.q (some 93) (some (87, false)) (.bin .sub (.tmp 89) (.tmp 92)) (.q (some 94) (some (87, false)) (.mov (.tmp 12)) (.q (some 95) (some (87, false)) (.cvi .u64 (.tmp 94)) (.q (some 96) (some (87, false)) (.bin .leq (.tmp 93) (.tmp 95)) (.q (some 97) none (.pick (.tmp 87) (.const (.bool true)) (.tmp 96)) (.q (some 13) none (.mov (.tmp 97)) .done)))))))))))))))) false 9 [1, 2, 3, 6, 9, 11, 12, 13],
  .cnd (.tmp 80) 10 4,
  .reg (.q (some 79) none (.mov (.tmp 12)) (.q (some 80) none (.bin .leq (.tmp 79) (.const (.int .i64 12))) .done)) false 11 [1, 2, 3, 6, 9, 11, 12, 80],
  .reg (.q (some 12) none (.mov (.const (.int .i64 1))) .done) false 12 [1, 2, 3, 6, 9, 11, 12],
  .reg (.q (some 69) none (.fadr 32 (.tmp 11)) (.q (some 70) none (.ld1 (.tmp 69)) (.q (some 71) none (.fadr 32 (.tmp 11)) (.q (some 72) none (.ld1 (.tmp 71)) (.q (some 73) none (.fadr 0 (.tmp 3)) (.q (some 74) none (.iadrA 24 1 (.tmp 73) (.tmp 72)) (.q (some 75) none (.ld1 (.tmp 74)) (.q (some 76) none (.bin .add (.tmp 75) (.const (.int .i64 1000))) (.q (some 77) none (.fadr 0 (.tmp 3)) (.q (some 78) none (.iadrA 24 1 (.tmp 77) (.tmp 70)) (.l none none (.st1 (.tmp 78) (.tmp 76)) [] .done))))))))))) true 13 [1, 2, 3, 6, 9, 11],
  .reg (.q (some 63) none (.ldN 313 (.tmp 3)) (.q (some 64) none (.mov (.tmp 2)) (.q (some 65) none (.mov (.tmp 9)) (.q (some 66) none (.iadrS 32 (.tmp 64) (.tmp 65)) (.q (some 67) none (.ldN 32 (.tmp 66)) (.l (some 68) none (.call 24 [(.tmp 63), (.tmp 67)]) [] (.l none none (.stN 313 (.tmp 3) (.tmp 68)) [] .done))))))) true 14 [1, 2, 3, 6, 9, 11],
  .reg (.q (some 58) none (.fadr 312 (.tmp 3)) (.q (some 59) none (.ld1 (.tmp 58)) (.q (some 60) none (.mov (.tmp 10)) (.q (some 61) none (.iadrS 34 (.tmp 59) (.tmp 60)) (.q (some 62) none (.ldN 34 (.tmp 61)) (.l (some 11) none (.alloc 49 [(32, (.int .u8 0)), (2, (.int .i64 0))]) [] (.l none none (.stN 34 (.tmp 11) (.tmp 62)) [] .done))))))) false 15 [1, 2, 3, 6, 9, 11],
  .cnd (.tmp 57) 4 16,
  .reg (.q (some 56) none (.mov (.tmp 10)) (.q (some 57) none (.bin .lss (.tmp 56) (.const (.int .i64 0))) .done)) false 17 [1, 2, 3, 6, 9, 10, 57],
  .reg (.q (some 50) none (.ldN 313 (.tmp 3)) (.q (some 51) none (.mov (.tmp 2)) (.q (some 52) none (.mov (.tmp 9)) (.q (some 53) none (.iadrS 32 (.tmp 51) (.tmp 52)) (.q (some 54) none (.ldN 32 (.tmp 53)) (.l (some 55) none (.call 31 [(.tmp 50), (.tmp 54)]) [] (.q (some 10) none (.mov (.tmp 55)) .done))))))) true 18 [1, 2, 3, 6, 9, 10],
  .cnd (.tmp 47) 19 2,
  .reg (.q (some 44) none (.mov (.tmp 9)) (.q (some 45) none (.mov (.tmp 2)) (.q (some 46) none (.len (.tmp 45)) (.q (some 47) none (.bin .lss (.tmp 44) (.tmp 46)) .done)))) false 20 [1, 2, 3, 6, 9, 47],
  .reg (.q (some 9) none (.mov (.const (.int .i64 0))) .done) false 21 [1, 2, 3, 6, 9],
  .jmp 33,
  .reg (.q (some 16) none (.mov (.tmp 7)) (.q (some 17) none (.bin .add (.tmp 16) (.const (.int .i64 1))) (.q (some 7) none (.mov (.tmp 17)) .done))) false 23 [1, 2, 3, 6, 7],
  .jmp 29,
  .reg (.q (some 29) none (.mov (.tmp 8)) (.q (some 30) none (.bin .add (.tmp 29) (.const (.int .i64 1))) (.q (some 8) none (.mov (.tmp 30)) .done))) false 25 [1, 2, 3, 6, 7, 8],
  .reg (.q (some 31) none (.mov (.tmp 7)) (.q (some 32) none (.mov (.tmp 8)) (.q (some 33) none (.mov (.tmp 7)) (.q (some 34) none (.mov (.tmp 8)) (.q (some 35) none (.fadr 24 (.tmp 3)) (.q (some 36) none (.iadrA 24 12 (.tmp 35) (.tmp 33)) (.q (some 37) none (.iadrA 12 1 (.tmp 36) (.tmp 34)) (.q (some 38) none (.ld1 (.tmp 37)) (.q (some 39) none (.bin .mul (.tmp 38) (.const (.int .i64 998))) (.q (some 40) none (.bin .quo (.tmp 39) (.const (.int .i64 1000))) (.q (some 41) none (.fadr 24 (.tmp 3)) (.q (some 42) none (.iadrA 24 12 (.tmp 41) (.tmp 31)) (.q (some 43) none (.iadrA 12 1 (.tmp 42) (.tmp 32)) (.l none none (.st1 (.tmp 43) (.tmp 40)) [] .done)))))))))))))) true 26 [1, 2, 3, 6, 7, 8],
  .cnd (.tmp 28) 27 24,
  .reg (.q (some 27) none (.mov (.tmp 8)) (.q (some 28) none (.bin .lss (.tmp 27) (.const (.int .i64 12))) .done)) false 28 [1, 2, 3, 6, 7, 8, 28],
  .reg (.q (some 8) none (.mov (.const (.int .i64 0))) .done) false 29 [1, 2, 3, 6, 7, 8],
  .reg (.q (some 18) none (.mov (.tmp 7)) (.q (some 19) none (.mov (.tmp 7)) (.q (some 20) none (.fadr 0 (.tmp 3)) (.q (some 21) none (.iadrA 24 1 (.tmp 20) (.tmp 19)) (.q (some 22) none (.ld1 (.tmp 21)) (.q (some 23) none (.bin .mul (.tmp 22) (.const (.int .i64 998))) (.q (some 24) none (.bin .quo (.tmp 23) (.const (.int .i64 1000))) (.q (some 25) none (.fadr 0 (.tmp 3)) (.q (some 26) none (.iadrA 24 1 (.tmp 25) (.tmp 18)) (.l none none (.st1 (.tmp 26) (.tmp 24)) [] .done)))))))))) false 30 [1, 2, 3, 6, 7],
  .cnd (.tmp 15) 31 22,
  .reg (.q (some 14) none (.mov (.tmp 7)) (.q (some 15) none (.bin .lss (.tmp 14) (.const (.int .i64 24))) .done)) false 32 [1, 2, 3, 6, 7, 15],
  .reg (.q (some 7) none (.mov (.const (.int .i64 0))) .done) false 33 [1, 2, 3, 6, 7],
  .reg (.l (some 3) none (.box 31 (.tmp 0)) [] (.l (some 6) none (.alloc 31 [(312, (.int .i64 0)), (1, (.slice none 0 0))]) [] .done)) false 34 [1, 2, 3, 6]
  ]
theorem c25_ok : cfgL Try.prog 25 = some (116, 35, c25.map Vc.Node.bare) := by kernel_rfl
/- strongbox/strongboxref19.Enter: entry 6 -/
def c26 : List Vc.Node := [
  .ret [.cN 8 313],
  .ret [.cN 8 313],
  .reg (.q (some 25) none (.ldN 313 (.tmp 4)) (.l none none (.stN 313 (.tmp 8) (.tmp 25)) [] .done)) false 1 [8],
  .reg (.q (some 14) none (.fadr 312 (.tmp 4)) (.q (some 15) none (.ld1 (.tmp 14)) (.q (some 17) none (.ldN 32 (.tmp 5)) (.q (some 18) none (.mov (.tmp 2)) (.q (some 20) none (.mov (.tmp 3)) (.l (some 13) none (.bldS 49 34 []) [⟨17, none, (.ldN 32 (.tmp 5))⟩, ⟨15, none, (.ld1 (.tmp 14))⟩] (.l (some 16) none (.app 49 34 48 [(32, (.int .u8 0)), (2, (.int .i64 0))] (.tmp 13) (.tmp 15)) [⟨17, none, (.ldN 32 (.tmp 5))⟩] (.l (some 19) none (.call 32 [(.tmp 18)]) [⟨17, none, (.ldN 32 (.tmp 5))⟩] (.q (some 21) none (.bld [.x 32 (.tmp 17), .x 1 (.tmp 19), .x 1 (.tmp 20)]) (.l (some 22) none (.bldS 49 34 [(.tmp 21)]) [] (.l (some 23) none (.app 49 34 48 [(32, (.int .u8 0)), (2, (.int .i64 0))] (.tmp 16) (.tmp 22)) [] (.q (some 24) none (.fadr 312 (.tmp 4)) (.l none none (.st1 (.tmp 24) (.tmp 23)) [] .done))))))))))))) true 2 [4, 8],
  .cnd (.tmp 12) 3 2,
  .reg (.q (some 9) none (.ldN 313 (.tmp 4)) (.q (some 10) none (.ldN 32 (.tmp 5)) (.l (some 11) none (.call 31 [(.tmp 9), (.tmp 10)]) [] (.q (some 12) none (.bin .lss (.tmp 11) (.const (.int .i64 0))) .done)))) false 4 [2, 3, 4, 5, 8, 12],
  .reg (.l (some 4) none (.box 31 (.tmp 0)) [] (.l (some 5) none (.box 47 (.tmp 1)) [] (.l (some 8) none (.alloc 31 [(312, (.int .i64 0)), (1, (.slice none 0 0))]) [] .done))) false 5 [2, 3, 4, 5, 8]
  ]
theorem c26_ok : cfgL Try.prog 26 = some (26, 6, c26.map Vc.Node.bare) := by kernel_rfl
/- maps.Clone[map[strongbox/api.Hash]strongbox/fees.wait,strongbox/api.Hash,strongbox/fees.wait]: entry 7 -/
def c27 : List Vc.Node := [
  .ret [.t 2],
  .ret [.t 2],
  .reg (.q (some 5) none (.mov (.tmp 0)) (.q (some 6) none (.mif 65 (.tmp 5)) (.l (some 7) none (.callx 33 [(.tmp 6)]) [] (.q (some 8) none (.ta 65 (.tmp 7)) (.q (some 2) none (.mov (.tmp 8)) .done))))) false 1 [2],
  .ret [.t 2],
  .reg (.q (some 2) none (.mov (.const (.map none))) .done) false 3 [2],
  .cnd (.tmp 4) 4 2,
  .reg (.q (some 3) none (.mov (.tmp 0)) (.q (some 4) none (.eqM false (.tmp 3) (.const (.map none))) .done)) false 5 [0, 4],
  .reg (.q (some 2) none (.mov (.const (.map none))) .done) false 6 [0]
  ]
theorem c27_ok : cfgL Try.prog 27 = some (9, 7, c27.map Vc.Node.bare) := by kernel_rfl
/- maps.Equal[map[strongbox/api.Hash]strongbox/fees.wait,map[strongbox/api.Hash]strongbox/fees.wait,strongbox/api.Hash,strongbox/fees.wait]: entry 17 -/
def c28 : List Vc.Node := [
  .ret [.t 4],
  .ret [.t 4],
  .reg (.q (some 4) none (.mov (.const (.bool true))) .done) false 1 [4],
  .jmp 11,
  .ret [.t 4],
  .reg (.q (some 4) none (.mov (.const (.bool false))) .done) false 4 [4],
  .cnd (.tmp 33) 5 3,
  .reg (.q (some 27) none (.mov (.tmp 8)) (.q (some 28) none (.not (.tmp 27)) (.q (some 29) none (.mov (.tmp 28)) (.q (some 30) (some (29, false)) (.ldN 2 (.tmp 6)) (.q (some 31) (some (29, false)) (.ldN 2 (.tmp 7)) (.q (some 32) (some (29, false)) (.eqA true [(2, .i .i64)] (.tmp 30) (.tmp 31)) (.q (some 33) none (.pick (.tmp 29) (.const (.bool true)) (.tmp 32)) .done))))))) false 6 [1, 15, 33],
  .reg (.q (some 22) none (.mov (.tmp 1)) (.q (some 23) none (.ldN 32 (.tmp 5)) (.q (some 24) none (.lkp [(32, .i .u8)] true true [(2, (.int .i64 0))] true (.tmp 22) (.tmp 23)) (.q (some 21) none (.mov (.tmp 24)) (.q (some 25) none (.ext 0 (.tmp 21)) (.q (some 26) none (.ext 1 (.tmp 21)) (.l (some 7) none (.alloc 76 [(2, (.int .i64 0))]) [] (.l none none (.stN 2 (.tmp 7) (.tmp 25)) [] (.q (some 8) none (.mov (.tmp 26)) .done))))))))) false 7 [1, 6, 7, 8, 15],
  .reg (.l (some 18) none (.ent (.tmp 15)) [] (.q (some 19) none (.ext 0 (.tmp 18)) (.q (some 20) none (.ext 1 (.tmp 18)) (.l (some 5) none (.alloc 54 [(32, (.int .u8 0))]) [] (.l (some 6) none (.alloc 76 [(2, (.int .i64 0))]) [] (.l none none (.stN 32 (.tmp 5) (.tmp 19)) [] (.l none none (.stN 2 (.tmp 6) (.tmp 20)) [] .done))))))) false 8 [1, 5, 6, 15],
  .cnd (.tmp 17) 9 2,
  .reg (.l (some 16) none (.nxt false 0 (.tmp 15)) [] (.q (some 17) none (.ext 0 (.tmp 16)) .done)) false 10 [1, 15, 17],
  .reg (.q (some 14) none (.mov (.tmp 0)) (.l (some 15) none (.rng 65 (.tmp 14)) [] .done)) false 11 [1, 15],
  .ret [.t 4],
  .reg (.q (some 4) none (.mov (.const (.bool false))) .done) false 13 [4],
  .cnd (.tmp 13) 14 12,
  .reg (.q (some 9) none (.mov (.tmp 0)) (.q (some 10) none (.lenM (.tmp 9)) (.q (some 11) none (.mov (.tmp 1)) (.q (some 12) none (.lenM (.tmp 11)) (.q (some 13) none (.bin .neq (.tmp 10) (.tmp 12)) .done))))) false 15 [0, 1, 13],
  .reg (.q (some 4) none (.mov (.const (.bool false))) .done) false 16 [0, 1]
  ]
theorem c28_ok : cfgL Try.prog 28 = some (34, 17, c28.map Vc.Node.bare) := by kernel_rfl
/- strongbox/fees.bucket: entry 10 -/
def c29 : List Vc.Node := [
  .ret [.t 2],
  .ret [.t 2],
  .reg (.q (some 16) none (.mov (.tmp 3)) (.q (some 2) none (.mov (.tmp 16)) .done)) false 1 [2],
  .jmp 7,
  .reg (.q (some 12) none (.mov (.tmp 4)) (.q (some 13) none (.bin .mul (.tmp 12) (.const (.int .i64 2))) (.q (some 4) none (.mov (.tmp 13)) .done))) false 3 [0, 3, 4],
  .reg (.q (some 14) none (.mov (.tmp 3)) (.q (some 15) none (.bin .add (.tmp 14) (.const (.int .i64 1))) (.q (some 3) none (.mov (.tmp 15)) .done))) false 4 [0, 3, 4],
  .cnd (.tmp 11) 5 2,
  .reg (.q (some 5) none (.mov (.tmp 0)) (.q (some 6) none (.mov (.tmp 4)) (.q (some 7) none (.bin .geq (.tmp 5) (.tmp 6)) (.q (some 8) none (.mov (.tmp 7)) (.q (some 9) (some (8, true)) (.mov (.tmp 3)) (.q (some 10) (some (8, true)) (.bin .lss (.tmp 9) (.const (.int .i64 23))) (.q (some 11) none (.pick (.tmp 8) (.tmp 10) (.const (.bool false))) .done))))))) false 6 [0, 3, 4, 11],
  .reg (.q (some 4) none (.mov (.const (.int .i64 2000))) .done) false 7 [0, 3, 4],
  .reg (.q (some 3) none (.mov (.const (.int .i64 0))) .done) false 8 [0, 3],
  .reg (.q (some 2) none (.mov (.const (.int .i64 0))) .done) false 9 [0]
  ]
theorem c29_ok : cfgL Try.prog 29 = some (17, 10, c29.map Vc.Node.bare) := by kernel_rfl
/- strongbox/fees.fade: entry 3 -/
def c30 : List Vc.Node := [
  .ret [.t 2],
  .ret [.t 2],
  .reg (.q (some 3) none (.mov (.tmp 0)) (.q (some 4) none (.bin .mul (.tmp 3) (.const (.int .i64 998))) (.q (some 5) none (.bin .quo (.tmp 4) (.const (.int .i64 1000))) (.q (some 2) none (.mov (.tmp 5)) .done)))) false 1 [2],
  .reg (.q (some 2) none (.mov (.const (.int .i64 0))) .done) false 2 [0]
  ]
theorem c30_ok : cfgL Try.prog 30 = some (6, 3, c30.map Vc.Node.bare) := by kernel_rfl
/- strongbox/strongboxref19.find: entry 12 -/
def c31 : List Vc.Node := [
  .ret [.t 4],
  .ret [.t 4],
  .reg (.q (some 4) none (.mov (.const (.int .i64 (-1)))) .done) false 1 [4],
  .jmp 10,
  .reg (.q (some 11) none (.mov (.tmp 5)) (.q (some 12) none (.bin .add (.tmp 11) (.const (.int .i64 1))) (.q (some 5) none (.mov (.tmp 12)) .done))) false 3 [2, 3, 5],
  .ret [.t 4],
  .reg (.q (some 21) none (.mov (.tmp 5)) (.q (some 4) none (.mov (.tmp 21)) .done)) false 5 [4],
  .cnd (.tmp 20) 6 4,
  .reg (.q (some 13) none (.fadr 312 (.tmp 2)) (.q (some 14) none (.ld1 (.tmp 13)) (.q (some 15) none (.mov (.tmp 5)) (.q (some 16) none (.iadrS 34 (.tmp 14) (.tmp 15)) (.q (some 17) none (.fadr 0 (.tmp 16)) (.q (some 18) none (.ldN 32 (.tmp 17)) (.q (some 19) none (.ldN 32 (.tmp 3)) (.q (some 20) none (.eqA false [(32, .i .u8)] (.tmp 18) (.tmp 19)) .done)))))))) true 7 [2, 3, 5, 20],
  .cnd (.tmp 10) 8 2,
  .reg (.q (some 6) none (.mov (.tmp 5)) (.q (some 7) none (.fadr 312 (.tmp 2)) (.q (some 8) none (.ld1 (.tmp 7)) (.q (some 9) none (.len (.tmp 8)) (.q (some 10) none (.bin .lss (.tmp 6) (.tmp 9)) .done))))) false 9 [2, 3, 5, 10],
  .reg (.q (some 5) none (.mov (.const (.int .i64 0))) .done) false 10 [2, 3, 5],
  .reg (.l (some 2) none (.box 31 (.tmp 0)) [] (.l (some 3) none (.box 47 (.tmp 1)) [] (.q (some 4) none (.mov (.const (.int .i64 0))) .done))) false 11 [2, 3]
  ]
theorem c31_ok : cfgL Try.prog 31 = some (22, 12, c31.map Vc.Node.bare) := by kernel_rfl
/- strongbox/strongboxref19.bucket: entry 14 -/
def c32 : List Vc.Node := [
  .ret [.t 2],
  .ret [.t 2],
  .reg (.q (some 2) none (.mov (.const (.int .i64 23))) .done) false 1 [2],
  .jmp 11,
  .reg (.q (some 7) none (.mov (.tmp 4)) (.q (some 8) none (.bin .add (.tmp 7) (.const (.int .i64 1))) (.q (some 4) none (.mov (.tmp 8)) .done))) false 3 [0, 3, 4],
  .reg (.q (some 14) none (.mov (.tmp 3)) (.q (some 15) none (.bin .mul (.const (.int .i64 2)) (.tmp 14)) (.q (some 3) none (.mov (.tmp 15)) .done))) false 4 [0, 3, 4],
  .ret [.t 2],
  .reg (.q (some 13) none (.mov (.tmp 4)) (.q (some 2) none (.mov (.tmp 13)) .done)) false 6 [2],
  .cnd (.tmp 12) 7 5,
  .reg (.q (some 9) none (.mov (.tmp 0)) (.q (some 10) none (.mov (.tmp 3)) (.q (some 11) none (.bin .mul (.const (.int .i64 2)) (.tmp 10)) (.q (some 12) none (.bin .lss (.tmp 9) (.tmp 11)) .done)))) false 8 [0, 3, 4, 12],
  .cnd (.tmp 6) 9 2,
  .reg (.q (some 5) none (.mov (.tmp 4)) (.q (some 6) none (.bin .lss (.tmp 5) (.const (.int .i64 23))) .done)) false 10 [0, 3, 4, 6],
  .reg (.q (some 4) none (.mov (.const (.int .i64 0))) .done) false 11 [0, 3, 4],
  .reg (.q (some 3) none (.mov (.const (.int .i64 1000))) .done) false 12 [0, 3],
  .reg (.q (some 2) none (.mov (.const (.int .i64 0))) .done) false 13 [0]
  ]
theorem c32_ok : cfgL Try.prog 32 = some (16, 14, c32.map Vc.Node.bare) := by kernel_rfl
end Go.Proofs
