/- The graphs of this seat's functions, written by program, each held against the translation by the kernel. -/
import Derived.Test.YthjgmajfkfhdaaaProg
import Derived.Test.YthjgmajfkfhdaaaVcF
import Derived.KernelRfl
set_option linter.unusedSimpArgs false
set_option linter.unusedVariables false
set_option linter.constructorNameAsVariable false
namespace Go.Proofs
open Go.Vc
/- gosem.cut.init: entry 1 -/
def c2 : List Vc.Node := [
  .ret [],
  .reg (.l (some 0) none (.callx 1 []) [] .done) false 0 []
  ]
theorem c2_ok : cfgL Try.prog 2 = some (1, 1, c2.map Vc.Node.bare) := by kernel_rfl
/- strongbox/strongboxtop.StrongboxPieces: entry 49 -/
def c3 : List Vc.Node := [
  .ret [.t 4],
  .ret [.t 4],
  .reg (.q (some 135) none (.mov (.tmp 17)) (.q (some 136) none (.bin .eql (.tmp 135) (.const (.int .i64 0))) (.q (some 137) none (.mov (.tmp 136)) (.q (some 138) (some (137, true)) (.ldN 32 (.tmp 16)) (.q (some 139) (some (137, true)) (.ldN 32 (.tmp 15)) (.q (some 140) (some (137, true)) (.eqA false [(32, .i .u8)] (.tmp 138) (.tmp 139)) (.q (some 141) none (.pick (.tmp 137) (.tmp 140) (.const (.bool false))) (.q (some 142) none (.mov (.tmp 141)) (.q (some 143) (some (142, true)) (.mov (.tmp 18)) (.l (some 144) (some (142, true)) (.call 21 [(.tmp 143)]) [] (.q (some 145) (some (142, true)) (.bin .eql (.tmp 144) (.const (.int .i64 0))) (.q (some 146) none (.pick (.tmp 142) (.tmp 145) (.const (.bool false))) (.q (some 4) none (.mov (.tmp 146)) .done))))))))))))) false 1 [4],
  .jmp 12,
  .reg (.q (some 114) none (.mov (.tmp 19)) (.q (some 115) none (.bin .add (.tmp 114) (.const (.int .i64 1))) (.q (some 19) none (.mov (.tmp 115)) .done))) false 3 [0, 15, 16, 17, 18, 19],
  .reg (.q (some 133) none (.mov (.tmp 18)) (.l (some 134) none (.call 20 [(.tmp 133)]) [] .done)) false 4 [0, 15, 16, 17, 18, 19],
  .ret [.t 4],
  .reg (.q (some 4) none (.mov (.const (.bool false))) .done) false 6 [4],
  .cnd (.tmp 132) 7 5,
  .reg (.q (some 118) none (.mov (.tmp 0)) (.q (some 119) none (.mov (.tmp 19)) (.q (some 120) none (.iadrS 1 (.tmp 118) (.tmp 119)) (.q (some 121) none (.ld1 (.tmp 120)) (.q (some 122) none (.len (.tmp 121)) (.q (some 123) none (.bin .leq (.tmp 122) (.const (.int .i64 400))) (.q (some 124) none (.mov (.tmp 123)) (.q (some 125) (some (124, true)) (.mov (.tmp 20)) (.q (some 126) (some (124, true)) (.mov (.tmp 0)) (.q (some 127) (some (124, true)) (.mov (.tmp 19)) (.q (some 128) (some (124, true)) (.iadrS 1 (.tmp 126) (.tmp 127)) (.q (some 129) (some (124, true)) (.ld1 (.tmp 128)) (.l (some 130) (some (124, true)) (.call 19 [(.tmp 125), (.tmp 129)]) [] (.q (some 131) (some (124, true)) (.not (.tmp 130)) (.q (some 132) none (.pick (.tmp 124) (.tmp 131) (.const (.bool false))) .done))))))))))))))) false 8 [0, 15, 16, 17, 18, 19, 132],
  .reg (.q (some 116) none (.mov (.tmp 18)) (.l (some 117) none (.call 18 [(.tmp 116), (.const (.int .i64 400))]) [] (.q (some 20) none (.mov (.tmp 117)) .done))) false 9 [0, 15, 16, 17, 18, 19, 20],
  .cnd (.tmp 113) 10 2,
  .reg (.q (some 106) none (.mov (.tmp 19)) (.q (some 107) none (.mov (.tmp 0)) (.q (some 108) none (.len (.tmp 107)) (.q (some 109) none (.bin .lss (.tmp 106) (.tmp 108)) (.q (some 110) none (.mov (.tmp 109)) (.q (some 111) (some (110, true)) (.mov (.tmp 19)) (.q (some 112) (some (110, true)) (.bin .lss (.tmp 111) (.const (.int .i64 12))) (.q (some 113) none (.pick (.tmp 110) (.tmp 112) (.const (.bool false))) .done)))))))) false 11 [0, 15, 16, 17, 18, 19, 113],
  .reg (.q (some 19) none (.mov (.const (.int .i64 0))) .done) false 12 [0, 15, 16, 17, 18, 19],
  .reg (.l (some 104) none (.call 10 [(.tmp 5)]) [] (.l (some 105) none (.call 17 [(.tmp 104)]) [] (.q (some 18) none (.mov (.tmp 105)) .done))) false 13 [0, 15, 16, 17, 18],
  .reg (.q (some 99) none (.ldN 32 (.tmp 15)) (.l (some 100) none (.call 16 [(.tmp 99)]) [] (.l (some 101) none (.call 15 [(.tmp 100)]) [] (.q (some 98) none (.mov (.tmp 101)) (.q (some 102) none (.ext 0 (.tmp 98)) (.q (some 103) none (.ext 1 (.tmp 98)) (.l (some 16) none (.alloc 39 [(32, (.int .u8 0))]) [] (.l none none (.stN 32 (.tmp 16) (.tmp 102)) [] (.q (some 17) none (.mov (.tmp 103)) .done))))))))) false 14 [0, 5, 15, 16, 17],
  .ret [.t 4],
  .reg (.q (some 4) none (.mov (.const (.bool false))) .done) false 16 [4],
  .cnd (.tmp 97) 17 15,
  .reg (.q (some 78) none (.ldN 32 (.tmp 15)) (.q (some 79) none (.mov (.tmp 8)) (.l (some 80) none (.call 11 [(.tmp 79)]) [⟨78, none, (.ldN 32 (.tmp 15))⟩] (.q (some 81) none (.eqA true [(32, .i .u8)] (.tmp 78) (.tmp 80)) (.q (some 82) none (.mov (.tmp 81)) (.q (some 84) (some (82, false)) (.ldN 32 (.tmp 15)) (.l (some 83) (some (82, false)) (.call 12 [(.tmp 6)]) [⟨84, (some (82, false)), (.ldN 32 (.tmp 15))⟩] (.q (some 85) (some (82, false)) (.eqA true [(32, .i .u8)] (.tmp 83) (.tmp 84)) (.q (some 86) none (.pick (.tmp 82) (.const (.bool true)) (.tmp 85)) (.q (some 87) none (.mov (.tmp 86)) (.q (some 89) (some (87, false)) (.ldN 32 (.tmp 15)) (.l (some 88) (some (87, false)) (.call 12 [(.tmp 7)]) [⟨89, (some (87, false)), (.ldN 32 (.tmp 15))⟩] (.q (some 90) (some (87, false)) (.eqA true [(32, .i .u8)] (.tmp 88) (.tmp 89)) (.q (some 91) none (.pick (.tmp 87) (.const (.bool true)) (.tmp 90)) (.q (some 92) none (.mov (.tmp 91)) (.q (some 94) (some (92, false)) (.mov (.tmp 8)) (.l (some 93) (some (92, false)) (.call 13 [(.tmp 6)]) [] (.l (some 95) (some (92, false)) (.call 14 [(.tmp 94)]) [] (.q (some 96) (some (92, false)) (.eqA true [(32, .i .u8)] (.tmp 93) (.tmp 95)) (.q (some 97) none (.pick (.tmp 92) (.const (.bool true)) (.tmp 96)) .done)))))))))))))))))))) true 18 [0, 5, 15, 97],
  .reg (.l (some 76) none (.call 10 [(.tmp 5)]) [] (.l (some 77) none (.call 9 [(.tmp 76)]) [] (.l (some 15) none (.alloc 39 [(32, (.int .u8 0))]) [] (.l none none (.stN 32 (.tmp 15) (.tmp 77)) [] .done)))) false 19 [0, 5, 6, 7, 8, 15],
  .jmp 44,
  .reg (.q (some 29) none (.mov (.tmp 9)) (.q (some 30) none (.bin .add (.tmp 29) (.const (.int .i64 1))) (.q (some 9) none (.mov (.tmp 30)) .done))) false 21 [0, 1, 5, 6, 7, 8, 9],
  .jmp 28,
  .reg (.q (some 75) none (.bin .add (.tmp 68) (.const (.int .i64 1))) (.q (some 68) none (.mov (.tmp 75)) .done)) false 23 [0, 1, 5, 6, 7, 8, 9, 66, 67, 68],
  .reg (.q (some 72) none (.mov (.tmp 14)) (.l (some 73) none (.bldS 5 1 [(.tmp 72)]) [] (.l (some 74) none (.call 8 [(.tmp 7), (.tmp 73)]) [] .done))) false 24 [0, 1, 5, 6, 7, 8, 9, 66, 67, 68],
  .reg (.q (some 70) none (.iadrS 1 (.tmp 66) (.tmp 68)) (.q (some 71) none (.ld1 (.tmp 70)) (.q (some 14) none (.mov (.tmp 71)) .done))) false 25 [0, 1, 5, 6, 7, 8, 9, 14, 66, 67, 68],
  .cnd (.tmp 69) 26 22,
  .reg (.q (some 69) none (.bin .lss (.tmp 68) (.tmp 67)) .done) false 27 [0, 1, 5, 6, 7, 8, 9, 66, 67, 68, 69],
  .reg (.q (some 66) none (.mov (.tmp 12)) (.q (some 67) none (.len (.tmp 66)) (.q (some 68) none (.mov (.const (.int .i64 0))) .done))) false 28 [0, 1, 5, 6, 7, 8, 9, 66, 67, 68],
  .reg (.q (some 64) none (.mov (.tmp 12)) (.l (some 65) none (.call 8 [(.tmp 6), (.tmp 64)]) [] .done)) false 29 [0, 1, 5, 6, 7, 8, 9, 12],
  .reg (.q (some 61) none (.mov (.tmp 8)) (.q (some 62) none (.mov (.tmp 12)) (.l (some 63) none (.app 5 1 1 [(1, (.int .u8 0))] (.tmp 61) (.tmp 62)) [] (.q (some 8) none (.mov (.tmp 63)) .done)))) false 30 [0, 1, 5, 6, 7, 8, 9, 12],
  .reg (.q (some 56) none (.mov (.tmp 10)) (.l (some 57) none (.call 6 [(.tmp 56)]) [] (.q (some 58) none (.mov (.tmp 11)) (.l (some 59) none (.call 7 [(.tmp 58), (.const (.int .i64 8))]) [] (.l (some 60) none (.app 5 1 1 [(1, (.int .u8 0))] (.tmp 57) (.tmp 59)) [] (.q (some 12) none (.mov (.tmp 60)) .done)))))) false 31 [0, 1, 5, 6, 7, 8, 9, 12],
  .reg (.q (some 54) none (.mov (.tmp 11)) (.l (some 55) none (.call 5 [(.tmp 5), (.tmp 54)]) [] .done)) false 32 [0, 1, 5, 6, 7, 8, 9, 10, 11],
  .reg (.q (some 52) none (.mov (.tmp 10)) (.l (some 53) none (.call 4 [(.tmp 5), (.tmp 52)]) [] .done)) false 33 [0, 1, 5, 6, 7, 8, 9, 10, 11],
  .reg (.q (some 45) none (.mov (.tmp 1)) (.q (some 46) none (.mov (.tmp 9)) (.q (some 47) none (.mov (.tmp 1)) (.q (some 48) none (.len (.tmp 47)) (.q (some 49) none (.bin .rem (.tmp 46) (.tmp 48)) (.q (some 50) none (.iadrS 1 (.tmp 45) (.tmp 49)) (.q (some 51) none (.ld1 (.tmp 50)) (.q (some 11) none (.mov (.tmp 51)) .done)))))))) false 34 [0, 1, 5, 6, 7, 8, 9, 10, 11],
  .cnd (.tmp 44) 35 34,
  .reg (.q (some 42) none (.mov (.tmp 1)) (.q (some 43) none (.len (.tmp 42)) (.q (some 44) none (.bin .gtr (.tmp 43) (.const (.int .i64 0))) .done))) false 36 [0, 1, 5, 6, 7, 8, 9, 10, 11, 44],
  .reg (.q (some 40) none (.mov (.tmp 9)) (.q (some 41) none (.cvi .u64 (.tmp 40)) (.q (some 11) none (.mov (.tmp 41)) .done))) false 37 [0, 1, 5, 6, 7, 8, 9, 10, 11],
  .reg (.q (some 38) none (.mov (.tmp 10)) (.q (some 39) none (.slcS 1 (.tmp 38) none (some (.const (.int .i64 400)))) (.q (some 10) none (.mov (.tmp 39)) .done))) false 38 [0, 1, 5, 6, 7, 8, 9, 10],
  .cnd (.tmp 37) 39 38,
  .reg (.q (some 35) none (.mov (.tmp 10)) (.q (some 36) none (.len (.tmp 35)) (.q (some 37) none (.bin .gtr (.tmp 36) (.const (.int .i64 400))) .done))) false 40 [0, 1, 5, 6, 7, 8, 9, 10, 37],
  .reg (.q (some 31) none (.mov (.tmp 0)) (.q (some 32) none (.mov (.tmp 9)) (.q (some 33) none (.iadrS 1 (.tmp 31) (.tmp 32)) (.q (some 34) none (.ld1 (.tmp 33)) (.q (some 10) none (.mov (.tmp 34)) .done))))) false 41 [0, 1, 5, 6, 7, 8, 9, 10],
  .cnd (.tmp 28) 42 20,
  .reg (.q (some 21) none (.mov (.tmp 9)) (.q (some 22) none (.mov (.tmp 0)) (.q (some 23) none (.len (.tmp 22)) (.q (some 24) none (.bin .lss (.tmp 21) (.tmp 23)) (.q (some 25) none (.mov (.tmp 24)) (.q (some 26) (some (25, true)) (.mov (.tmp 9)) (.q (some 27) (some (25, true)) (.bin .lss (.tmp 26) (.const (.int .i64 12))) (.q (some 28) none (.pick (.tmp 25) (.tmp 27) (.const (.bool false))) .done)))))))) false 43 [0, 1, 5, 6, 7, 8, 9, 28],
  .reg (.q (some 9) none (.mov (.const (.int .i64 0))) .done) false 44 [0, 1, 5, 6, 7, 8, 9],
  .reg (.q (some 8) none (.mov (.const (.slice none 0 0))) .done) false 45 [0, 1, 5, 6, 7, 8],
  .reg (.l (some 6) none (.alloc 32 [(8, (.int .u32 0)), (1, (.slice none 0 0)), (1, (.int .u64 0)), (1, (.bool false))]) [] (.l (some 7) none (.alloc 32 [(8, (.int .u32 0)), (1, (.slice none 0 0)), (1, (.int .u64 0)), (1, (.bool false))]) [] .done)) false 46 [0, 1, 5, 6, 7],
  .reg (.l (some 5) none (.alloc 26 [(1, (.slice none 0 0))]) [] .done) false 47 [0, 1, 5],
  .reg (.q (some 4) none (.mov (.const (.bool false))) .done) false 48 [0, 1]
  ]
theorem c3_ok : cfgL Try.prog 3 = some (147, 49, c3.map Vc.Node.bare) := by kernel_rfl
/- (*strongbox/wire.Writer).Bytes: entry 2 -/
def c4 : List Vc.Node := [
  .ret [],
  .reg (.q (some 9) none (.mov (.tmp 0)) (.q (some 10) none (.mov (.tmp 1)) (.l (some 11) none (.call 23 [(.tmp 9), (.tmp 10)]) [] .done))) false 0 [],
  .reg (.q (some 4) none (.mov (.tmp 0)) (.q (some 5) none (.mov (.tmp 1)) (.q (some 6) none (.len (.tmp 5)) (.q (some 7) none (.cvi .u64 (.tmp 6)) (.l (some 8) none (.call 22 [(.tmp 4), (.tmp 7)]) [] .done))))) false 1 [0, 1]
  ]
theorem c4_ok : cfgL Try.prog 4 = some (12, 2, c4.map Vc.Node.bare) := by kernel_rfl
/- (*strongbox/wire.Writer).U64: entry 1 -/
def c5 : List Vc.Node := [
  .ret [],
  .reg (.q (some 4) none (.mov (.tmp 0)) (.q (some 5) none (.mov (.tmp 1)) (.l (some 6) none (.call 24 [(.tmp 4), (.tmp 5), (.const (.int .i64 8))]) [] .done))) false 0 []
  ]
theorem c5_ok : cfgL Try.prog 5 = some (7, 1, c5.map Vc.Node.bare) := by kernel_rfl
/- strongbox/strongboxref01.Text: entry 3 -/
def c6 : List Vc.Node := [
  .ret [.t 2],
  .ret [.t 2],
  .reg (.q (some 3) none (.mov (.tmp 0)) (.q (some 4) none (.len (.tmp 3)) (.q (some 5) none (.cvi .u64 (.tmp 4)) (.l (some 6) none (.call 25 [(.tmp 5)]) [] (.q (some 7) none (.mov (.tmp 0)) (.l (some 8) none (.app 5 1 1 [(1, (.int .u8 0))] (.tmp 6) (.tmp 7)) [] (.q (some 2) none (.mov (.tmp 8)) .done))))))) false 1 [2],
  .reg (.q (some 2) none (.mov (.const (.slice none 0 0))) .done) false 2 [0]
  ]
theorem c6_ok : cfgL Try.prog 6 = some (9, 3, c6.map Vc.Node.bare) := by kernel_rfl
/- strongbox/strongboxref01.Low: entry 11 -/
def c7 : List Vc.Node := [
  .ret [.t 4],
  .ret [.t 4],
  .reg (.q (some 20) none (.mov (.tmp 5)) (.q (some 4) none (.mov (.tmp 20)) .done)) false 1 [4],
  .jmp 8,
  .reg (.q (some 10) none (.mov (.tmp 6)) (.q (some 11) none (.bin .add (.tmp 10) (.const (.int .i64 1))) (.q (some 6) none (.mov (.tmp 11)) .done))) false 3 [0, 1, 5, 6],
  .reg (.q (some 18) none (.mov (.tmp 0)) (.q (some 19) none (.bin .quo (.tmp 18) (.const (.int .u64 256))) (.q (some 0) none (.mov (.tmp 19)) .done))) false 4 [0, 1, 5, 6],
  .reg (.q (some 12) none (.mov (.tmp 5)) (.q (some 13) none (.mov (.tmp 0)) (.q (some 14) none (.bin .rem (.tmp 13) (.const (.int .u64 256))) (.q (some 15) none (.cvi .u8 (.tmp 14)) (.l (some 16) none (.bldS 5 1 [(.tmp 15)]) [] (.l (some 17) none (.app 5 1 1 [(1, (.int .u8 0))] (.tmp 12) (.tmp 16)) [] (.q (some 5) none (.mov (.tmp 17)) .done))))))) false 5 [0, 1, 5, 6],
  .cnd (.tmp 9) 6 2,
  .reg (.q (some 7) none (.mov (.tmp 6)) (.q (some 8) none (.mov (.tmp 1)) (.q (some 9) none (.bin .lss (.tmp 7) (.tmp 8)) .done))) false 7 [0, 1, 5, 6, 9],
  .reg (.q (some 6) none (.mov (.const (.int .i64 0))) .done) false 8 [0, 1, 5, 6],
  .reg (.q (some 5) none (.mov (.const (.slice none 0 0))) .done) false 9 [0, 1, 5],
  .reg (.q (some 4) none (.mov (.const (.slice none 0 0))) .done) false 10 [0, 1]
  ]
theorem c7_ok : cfgL Try.prog 7 = some (21, 11, c7.map Vc.Node.bare) := by kernel_rfl
/- (*strongbox/hash.Sum).Add: entry 11 -/
def c8 : List Vc.Node := [
  .ret [],
  .jmp 5,
  .reg (.q (some 52) none (.mov (.tmp 0)) (.q (some 53) none (.mov (.tmp 0)) (.q (some 54) none (.nc (.tmp 53)) (.q (some 55) none (.fadr 8 (.tmp 54)) (.q (some 56) none (.ld1 (.tmp 55)) (.q (some 57) none (.slcS 1 (.tmp 56) (some (.const (.int .i64 64))) none) (.q (some 58) none (.nc (.tmp 52)) (.q (some 59) none (.fadr 8 (.tmp 58)) (.l none none (.st1 (.tmp 59) (.tmp 57)) [] .done))))))))) false 1 [0, 4],
  .reg (.q (some 43) none (.mov (.tmp 0)) (.q (some 44) none (.nc (.tmp 43)) (.q (some 45) none (.fadr 0 (.tmp 44)) (.q (some 46) none (.mov (.tmp 0)) (.q (some 47) none (.nc (.tmp 46)) (.q (some 48) none (.fadr 8 (.tmp 47)) (.q (some 49) none (.ld1 (.tmp 48)) (.q (some 50) none (.slcS 1 (.tmp 49) none (some (.const (.int .i64 64)))) (.l (some 51) none (.call 28 [(.tmp 45), (.tmp 4), (.tmp 50)]) [] .done))))))))) true 2 [0, 4],
  .cnd (.tmp 42) 3 0,
  .reg (.q (some 37) none (.mov (.tmp 0)) (.q (some 38) none (.nc (.tmp 37)) (.q (some 39) none (.fadr 8 (.tmp 38)) (.q (some 40) none (.ld1 (.tmp 39)) (.q (some 41) none (.len (.tmp 40)) (.q (some 42) none (.bin .geq (.tmp 41) (.const (.int .i64 64))) .done)))))) false 4 [0, 4, 42],
  .reg (.l (some 36) none (.call 27 []) [] (.l (some 4) none (.alloc 60 [(64, (.int .u32 0))]) [] (.l none none (.stN 64 (.tmp 4) (.tmp 36)) [] .done))) false 5 [0, 4],
  .reg (.q (some 27) none (.mov (.tmp 0)) (.q (some 28) none (.mov (.tmp 0)) (.q (some 29) none (.nc (.tmp 28)) (.q (some 30) none (.fadr 8 (.tmp 29)) (.q (some 31) none (.ld1 (.tmp 30)) (.q (some 32) none (.mov (.tmp 1)) (.l (some 33) none (.app 5 1 1 [(1, (.int .u8 0))] (.tmp 31) (.tmp 32)) [] (.q (some 34) none (.nc (.tmp 27)) (.q (some 35) none (.fadr 8 (.tmp 34)) (.l none none (.st1 (.tmp 35) (.tmp 33)) [] .done)))))))))) false 6 [0],
  .reg (.q (some 17) none (.mov (.tmp 0)) (.q (some 18) none (.nc (.tmp 17)) (.q (some 19) none (.fadr 9 (.tmp 18)) (.q (some 20) none (.ld1 (.tmp 19)) (.q (some 21) none (.mov (.tmp 1)) (.q (some 22) none (.len (.tmp 21)) (.q (some 23) none (.cvi .u64 (.tmp 22)) (.q (some 24) none (.bin .add (.tmp 20) (.tmp 23)) (.q (some 25) none (.nc (.tmp 17)) (.q (some 26) none (.fadr 9 (.tmp 25)) (.l none none (.st1 (.tmp 26) (.tmp 24)) [] .done))))))))))) false 7 [0, 1],
  .reg (.q (some 10) none (.mov (.tmp 0)) (.q (some 11) none (.mov (.tmp 0)) (.l (some 12) none (.call 26 []) [] (.q (some 13) none (.nc (.tmp 10)) (.q (some 14) none (.fadr 0 (.tmp 13)) (.l none none (.stN 8 (.tmp 14) (.tmp 12)) [] (.q (some 15) none (.nc (.tmp 11)) (.q (some 16) none (.fadr 10 (.tmp 15)) (.l none none (.st1 (.tmp 16) (.const (.bool true))) [] .done))))))))) false 8 [0, 1],
  .cnd (.tmp 9) 9 8,
  .reg (.q (some 5) none (.mov (.tmp 0)) (.q (some 6) none (.nc (.tmp 5)) (.q (some 7) none (.fadr 10 (.tmp 6)) (.q (some 8) none (.ld1 (.tmp 7)) (.q (some 9) none (.not (.tmp 8)) .done))))) false 10 [0, 1, 9]
  ]
theorem c8_ok : cfgL Try.prog 8 = some (60, 11, c8.map Vc.Node.bare) := by kernel_rfl
/- strongbox/hash.Sum256: entry 5 -/
def c9 : List Vc.Node := [
  .ret [.cN 2 32],
  .ret [.cN 2 32],
  .reg (.l (some 6) none (.call 12 [(.tmp 3)]) [] (.l none none (.stN 32 (.tmp 2) (.tmp 6)) [] .done)) false 1 [2],
  .reg (.q (some 4) none (.mov (.tmp 0)) (.l (some 5) none (.call 8 [(.tmp 3), (.tmp 4)]) [] .done)) false 2 [2, 3],
  .reg (.l (some 3) none (.alloc 32 [(8, (.int .u32 0)), (1, (.slice none 0 0)), (1, (.int .u64 0)), (1, (.bool false))]) [] .done) false 3 [0, 2, 3],
  .reg (.l (some 2) none (.alloc 39 [(32, (.int .u8 0))]) [] .done) false 4 [0, 2]
  ]
theorem c9_ok : cfgL Try.prog 9 = some (7, 5, c9.map Vc.Node.bare) := by kernel_rfl
/- (*strongbox/wire.Writer).Out: entry 3 -/
def c10 : List Vc.Node := [
  .ret [.t 2],
  .ret [.t 2],
  .reg (.q (some 3) none (.mov (.tmp 0)) (.q (some 4) none (.nc (.tmp 3)) (.q (some 5) none (.fadr 0 (.tmp 4)) (.q (some 6) none (.ld1 (.tmp 5)) (.l (some 7) none (.call 29 [(.tmp 6)]) [] (.q (some 2) none (.mov (.tmp 7)) .done)))))) false 1 [2],
  .reg (.q (some 2) none (.mov (.const (.slice none 0 0))) .done) false 2 [0]
  ]
theorem c10_ok : cfgL Try.prog 10 = some (8, 3, c10.map Vc.Node.bare) := by kernel_rfl
/- strongbox/strongboxref02.Sum256: entry 53 -/
def c11 : List Vc.Node := [
  .ret [.cN 2 32],
  .ret [.cN 2 32],
  .reg (.q (some 227) none (.ldN 32 (.tmp 18)) (.l none none (.stN 32 (.tmp 2) (.tmp 227)) [] .done)) false 1 [2],
  .jmp 7,
  .reg (.q (some 212) none (.mov (.tmp 19)) (.q (some 213) none (.bin .add (.tmp 212) (.const (.int .i64 1))) (.q (some 19) none (.mov (.tmp 213)) .done))) false 3 [2, 4, 18, 19],
  .reg (.q (some 214) none (.mov (.tmp 19)) (.q (some 215) none (.mov (.tmp 19)) (.q (some 216) none (.bin .quo (.tmp 215) (.const (.int .i64 4))) (.q (some 217) none (.iadrA 8 1 (.tmp 4) (.tmp 216)) (.q (some 218) none (.ld1 (.tmp 217)) (.q (some 219) none (.mov (.tmp 19)) (.q (some 220) none (.bin .rem (.tmp 219) (.const (.int .i64 4))) (.q (some 221) none (.bin .mul (.const (.int .i64 8)) (.tmp 220)) (.q (some 222) none (.bin .sub (.const (.int .i64 24)) (.tmp 221)) (.q (some 223) none (.cvi .u64 (.tmp 222)) (.q (some 224) none (.bin .shr (.tmp 218) (.tmp 223)) (.q (some 225) none (.cvi .u8 (.tmp 224)) (.q (some 226) none (.iadrA 32 1 (.tmp 18) (.tmp 214)) (.l none none (.st1 (.tmp 226) (.tmp 225)) [] .done)))))))))))))) false 4 [2, 4, 18, 19],
  .cnd (.tmp 211) 5 2,
  .reg (.q (some 210) none (.mov (.tmp 19)) (.q (some 211) none (.bin .lss (.tmp 210) (.const (.int .i64 32))) .done)) false 6 [2, 4, 18, 19, 211],
  .reg (.q (some 19) none (.mov (.const (.int .i64 0))) .done) false 7 [2, 4, 18, 19],
  .reg (.l (some 18) none (.alloc 38 [(32, (.int .u8 0))]) [] .done) false 8 [2, 4, 18],
  .jmp 48,
  .reg (.q (some 28) none (.mov (.tmp 6)) (.q (some 29) none (.bin .add (.tmp 28) (.const (.int .i64 64))) (.q (some 6) none (.mov (.tmp 29)) .done))) false 10 [2, 3, 4, 5, 6],
  .jmp 16,
  .reg (.q (some 199) none (.mov (.tmp 17)) (.q (some 200) none (.bin .add (.tmp 199) (.const (.int .i64 1))) (.q (some 17) none (.mov (.tmp 200)) .done))) false 12 [2, 3, 4, 5, 6, 13, 17],
  .reg (.q (some 201) none (.mov (.tmp 17)) (.q (some 202) none (.mov (.tmp 17)) (.q (some 203) none (.iadrA 8 1 (.tmp 4) (.tmp 202)) (.q (some 204) none (.ld1 (.tmp 203)) (.q (some 205) none (.mov (.tmp 17)) (.q (some 206) none (.iadrA 8 1 (.tmp 13) (.tmp 205)) (.q (some 207) none (.ld1 (.tmp 206)) (.q (some 208) none (.bin .add (.tmp 204) (.tmp 207)) (.q (some 209) none (.iadrA 8 1 (.tmp 4) (.tmp 201)) (.l none none (.st1 (.tmp 209) (.tmp 208)) [] .done)))))))))) true 13 [2, 3, 4, 5, 6, 13, 17],
  .cnd (.tmp 198) 14 11,
  .reg (.q (some 197) none (.mov (.tmp 17)) (.q (some 198) none (.bin .lss (.tmp 197) (.const (.int .i64 8))) .done)) false 15 [2, 3, 4, 5, 6, 13, 17, 198],
  .reg (.q (some 17) none (.mov (.const (.int .i64 0))) .done) false 16 [2, 3, 4, 5, 6, 13, 17],
  .jmp 24,
  .reg (.q (some 111) none (.mov (.tmp 14)) (.q (some 112) none (.bin .add (.tmp 111) (.const (.int .i64 1))) (.q (some 14) none (.mov (.tmp 112)) .done))) false 18 [2, 3, 4, 5, 6, 7, 13, 14],
  .reg (.q (some 177) none (.mov (.tmp 15)) (.q (some 178) none (.mov (.tmp 16)) (.q (some 179) none (.bin .add (.tmp 177) (.tmp 178)) (.q (some 180) none (.iadrA 8 1 (.tmp 13) (.const (.int .i64 0))) (.q (some 181) none (.ld1 (.tmp 180)) (.q (some 182) none (.iadrA 8 1 (.tmp 13) (.const (.int .i64 1))) (.q (some 183) none (.ld1 (.tmp 182)) (.q (some 184) none (.iadrA 8 1 (.tmp 13) (.const (.int .i64 2))) (.q (some 185) none (.ld1 (.tmp 184)) (.q (some 186) none (.iadrA 8 1 (.tmp 13) (.const (.int .i64 3))) (.q (some 187) none (.ld1 (.tmp 186)) (.q (some 188) none (.mov (.tmp 15)) (.q (some 189) none (.bin .add (.tmp 187) (.tmp 188)) (.q (some 190) none (.iadrA 8 1 (.tmp 13) (.const (.int .i64 4))) (.q (some 191) none (.ld1 (.tmp 190)) (.q (some 192) none (.iadrA 8 1 (.tmp 13) (.const (.int .i64 5))) (.q (some 193) none (.ld1 (.tmp 192)) (.q (some 194) none (.iadrA 8 1 (.tmp 13) (.const (.int .i64 6))) (.q (some 195) none (.ld1 (.tmp 194)) (.q (some 196) none (.bld [.x 1 (.tmp 179), .x 1 (.tmp 181), .x 1 (.tmp 183), .x 1 (.tmp 185), .x 1 (.tmp 189), .x 1 (.tmp 191), .x 1 (.tmp 193), .x 1 (.tmp 195)]) (.l none none (.stN 8 (.tmp 13) (.tmp 196)) [] .done))))))))))))))))))))) false 19 [2, 3, 4, 5, 6, 7, 13, 14],
  .reg (.q (some 148) none (.iadrA 8 1 (.tmp 13) (.const (.int .i64 0))) (.q (some 149) none (.ld1 (.tmp 148)) (.q (some 151) none (.iadrA 8 1 (.tmp 13) (.const (.int .i64 0))) (.q (some 152) none (.ld1 (.tmp 151)) (.q (some 155) none (.iadrA 8 1 (.tmp 13) (.const (.int .i64 0))) (.q (some 156) none (.ld1 (.tmp 155)) (.q (some 159) none (.iadrA 8 1 (.tmp 13) (.const (.int .i64 0))) (.q (some 160) none (.ld1 (.tmp 159)) (.q (some 161) none (.iadrA 8 1 (.tmp 13) (.const (.int .i64 1))) (.q (some 162) none (.ld1 (.tmp 161)) (.q (some 163) none (.bin .and (.tmp 160) (.tmp 162)) (.q (some 164) none (.iadrA 8 1 (.tmp 13) (.const (.int .i64 0))) (.q (some 165) none (.ld1 (.tmp 164)) (.q (some 166) none (.iadrA 8 1 (.tmp 13) (.const (.int .i64 2))) (.q (some 167) none (.ld1 (.tmp 166)) (.q (some 168) none (.bin .and (.tmp 165) (.tmp 167)) (.q (some 169) none (.bin .xor (.tmp 163) (.tmp 168)) (.q (some 170) none (.iadrA 8 1 (.tmp 13) (.const (.int .i64 1))) (.q (some 171) none (.ld1 (.tmp 170)) (.q (some 172) none (.iadrA 8 1 (.tmp 13) (.const (.int .i64 2))) (.q (some 173) none (.ld1 (.tmp 172)) (.q (some 174) none (.bin .and (.tmp 171) (.tmp 173)) (.q (some 175) none (.bin .xor (.tmp 169) (.tmp 174)) (.l (some 150) none (.call 31 [(.tmp 149), (.const (.int .i64 30))]) [⟨173, none, (.ld1 (.tmp 172))⟩, ⟨171, none, (.ld1 (.tmp 170))⟩, ⟨167, none, (.ld1 (.tmp 166))⟩, ⟨165, none, (.ld1 (.tmp 164))⟩, ⟨162, none, (.ld1 (.tmp 161))⟩, ⟨160, none, (.ld1 (.tmp 159))⟩, ⟨156, none, (.ld1 (.tmp 155))⟩, ⟨152, none, (.ld1 (.tmp 151))⟩] (.l (some 153) none (.call 31 [(.tmp 152), (.const (.int .i64 19))]) [⟨173, none, (.ld1 (.tmp 172))⟩, ⟨171, none, (.ld1 (.tmp 170))⟩, ⟨167, none, (.ld1 (.tmp 166))⟩, ⟨165, none, (.ld1 (.tmp 164))⟩, ⟨162, none, (.ld1 (.tmp 161))⟩, ⟨160, none, (.ld1 (.tmp 159))⟩, ⟨156, none, (.ld1 (.tmp 155))⟩] (.q (some 154) none (.bin .xor (.tmp 150) (.tmp 153)) (.l (some 157) none (.call 31 [(.tmp 156), (.const (.int .i64 10))]) [⟨173, none, (.ld1 (.tmp 172))⟩, ⟨171, none, (.ld1 (.tmp 170))⟩, ⟨167, none, (.ld1 (.tmp 166))⟩, ⟨165, none, (.ld1 (.tmp 164))⟩, ⟨162, none, (.ld1 (.tmp 161))⟩, ⟨160, none, (.ld1 (.tmp 159))⟩] (.q (some 158) none (.bin .xor (.tmp 154) (.tmp 157)) (.q (some 176) none (.bin .add (.tmp 158) (.tmp 175)) (.q (some 16) none (.mov (.tmp 176)) .done)))))))))))))))))))))))))))))) true 20 [2, 3, 4, 5, 6, 7, 13, 14, 15, 16],
  .reg (.q (some 113) none (.iadrA 8 1 (.tmp 13) (.const (.int .i64 7))) (.q (some 114) none (.ld1 (.tmp 113)) (.q (some 115) none (.iadrA 8 1 (.tmp 13) (.const (.int .i64 4))) (.q (some 116) none (.ld1 (.tmp 115)) (.q (some 118) none (.iadrA 8 1 (.tmp 13) (.const (.int .i64 4))) (.q (some 119) none (.ld1 (.tmp 118)) (.q (some 122) none (.iadrA 8 1 (.tmp 13) (.const (.int .i64 4))) (.q (some 123) none (.ld1 (.tmp 122)) (.q (some 127) none (.iadrA 8 1 (.tmp 13) (.const (.int .i64 4))) (.q (some 128) none (.ld1 (.tmp 127)) (.q (some 129) none (.iadrA 8 1 (.tmp 13) (.const (.int .i64 5))) (.q (some 130) none (.ld1 (.tmp 129)) (.q (some 131) none (.bin .and (.tmp 128) (.tmp 130)) (.q (some 132) none (.iadrA 8 1 (.tmp 13) (.const (.int .i64 4))) (.q (some 133) none (.ld1 (.tmp 132)) (.q (some 134) none (.bnot (.tmp 133)) (.q (some 135) none (.iadrA 8 1 (.tmp 13) (.const (.int .i64 6))) (.q (some 136) none (.ld1 (.tmp 135)) (.q (some 137) none (.bin .and (.tmp 134) (.tmp 136)) (.q (some 138) none (.bin .xor (.tmp 131) (.tmp 137)) (.q (some 140) none (.mov (.tmp 14)) (.q (some 141) none (.iadrA 64 1 (.tmp 3) (.tmp 140)) (.q (some 142) none (.ld1 (.tmp 141)) (.q (some 144) none (.mov (.tmp 14)) (.q (some 145) none (.iadrA 64 1 (.tmp 7) (.tmp 144)) (.q (some 146) none (.ld1 (.tmp 145)) (.l (some 117) none (.call 31 [(.tmp 116), (.const (.int .i64 26))]) [⟨146, none, (.ld1 (.tmp 145))⟩, ⟨142, none, (.ld1 (.tmp 141))⟩, ⟨136, none, (.ld1 (.tmp 135))⟩, ⟨133, none, (.ld1 (.tmp 132))⟩, ⟨130, none, (.ld1 (.tmp 129))⟩, ⟨128, none, (.ld1 (.tmp 127))⟩, ⟨123, none, (.ld1 (.tmp 122))⟩, ⟨119, none, (.ld1 (.tmp 118))⟩, ⟨114, none, (.ld1 (.tmp 113))⟩] (.l (some 120) none (.call 31 [(.tmp 119), (.const (.int .i64 21))]) [⟨146, none, (.ld1 (.tmp 145))⟩, ⟨142, none, (.ld1 (.tmp 141))⟩, ⟨136, none, (.ld1 (.tmp 135))⟩, ⟨133, none, (.ld1 (.tmp 132))⟩, ⟨130, none, (.ld1 (.tmp 129))⟩, ⟨128, none, (.ld1 (.tmp 127))⟩, ⟨123, none, (.ld1 (.tmp 122))⟩, ⟨114, none, (.ld1 (.tmp 113))⟩] (.q (some 121) none (.bin .xor (.tmp 117) (.tmp 120)) (.l (some 124) none (.call 31 [(.tmp 123), (.const (.int .i64 7))]) [⟨146, none, (.ld1 (.tmp 145))⟩, ⟨142, none, (.ld1 (.tmp 141))⟩, ⟨136, none, (.ld1 (.tmp 135))⟩, ⟨133, none, (.ld1 (.tmp 132))⟩, ⟨130, none, (.ld1 (.tmp 129))⟩, ⟨128, none, (.ld1 (.tmp 127))⟩, ⟨114, none, (.ld1 (.tmp 113))⟩] (.q (some 125) none (.bin .xor (.tmp 121) (.tmp 124)) (.q (some 126) none (.bin .add (.tmp 114) (.tmp 125)) (.q (some 139) none (.bin .add (.tmp 126) (.tmp 138)) (.q (some 143) none (.bin .add (.tmp 139) (.tmp 142)) (.q (some 147) none (.bin .add (.tmp 143) (.tmp 146)) (.q (some 15) none (.mov (.tmp 147)) .done)))))))))))))))))))))))))))))))))))) true 21 [2, 3, 4, 5, 6, 7, 13, 14, 15],
  .cnd (.tmp 110) 22 17,
  .reg (.q (some 109) none (.mov (.tmp 14)) (.q (some 110) none (.bin .lss (.tmp 109) (.const (.int .i64 64))) .done)) false 23 [2, 3, 4, 5, 6, 7, 13, 14, 110],
  .reg (.q (some 14) none (.mov (.const (.int .i64 0))) .done) false 24 [2, 3, 4, 5, 6, 7, 13, 14],
  .reg (.q (some 108) none (.ldN 8 (.tmp 4)) (.l (some 13) none (.alloc 28 [(8, (.int .u32 0))]) [] (.l none none (.stN 8 (.tmp 13) (.tmp 108)) [] .done))) false 25 [2, 3, 4, 5, 6, 7, 13],
  .jmp 33,
  .reg (.q (some 57) none (.mov (.tmp 10)) (.q (some 58) none (.bin .add (.tmp 57) (.const (.int .i64 1))) (.q (some 10) none (.mov (.tmp 58)) .done))) false 27 [2, 3, 4, 5, 6, 7, 10],
  .reg (.q (some 93) none (.mov (.tmp 10)) (.q (some 94) none (.mov (.tmp 12)) (.q (some 95) none (.mov (.tmp 10)) (.q (some 96) none (.bin .sub (.tmp 95) (.const (.int .i64 7))) (.q (some 97) none (.iadrA 64 1 (.tmp 7) (.tmp 96)) (.q (some 98) none (.ld1 (.tmp 97)) (.q (some 99) none (.bin .add (.tmp 94) (.tmp 98)) (.q (some 100) none (.mov (.tmp 11)) (.q (some 101) none (.bin .add (.tmp 99) (.tmp 100)) (.q (some 102) none (.mov (.tmp 10)) (.q (some 103) none (.bin .sub (.tmp 102) (.const (.int .i64 16))) (.q (some 104) none (.iadrA 64 1 (.tmp 7) (.tmp 103)) (.q (some 105) none (.ld1 (.tmp 104)) (.q (some 106) none (.bin .add (.tmp 101) (.tmp 105)) (.q (some 107) none (.iadrA 64 1 (.tmp 7) (.tmp 93)) (.l none none (.st1 (.tmp 107) (.tmp 106)) [] .done)))))))))))))))) true 28 [2, 3, 4, 5, 6, 7, 10],
  .reg (.q (some 76) none (.mov (.tmp 10)) (.q (some 77) none (.bin .sub (.tmp 76) (.const (.int .i64 2))) (.q (some 78) none (.iadrA 64 1 (.tmp 7) (.tmp 77)) (.q (some 79) none (.ld1 (.tmp 78)) (.q (some 81) none (.mov (.tmp 10)) (.q (some 82) none (.bin .sub (.tmp 81) (.const (.int .i64 2))) (.q (some 83) none (.iadrA 64 1 (.tmp 7) (.tmp 82)) (.q (some 84) none (.ld1 (.tmp 83)) (.q (some 87) none (.mov (.tmp 10)) (.q (some 88) none (.bin .sub (.tmp 87) (.const (.int .i64 2))) (.q (some 89) none (.iadrA 64 1 (.tmp 7) (.tmp 88)) (.q (some 90) none (.ld1 (.tmp 89)) (.q (some 91) none (.bin .shr (.tmp 90) (.const (.int .u64 10))) (.l (some 80) none (.call 31 [(.tmp 79), (.const (.int .i64 15))]) [⟨90, none, (.ld1 (.tmp 89))⟩, ⟨84, none, (.ld1 (.tmp 83))⟩] (.l (some 85) none (.call 31 [(.tmp 84), (.const (.int .i64 13))]) [⟨90, none, (.ld1 (.tmp 89))⟩] (.q (some 86) none (.bin .xor (.tmp 80) (.tmp 85)) (.q (some 92) none (.bin .xor (.tmp 86) (.tmp 91)) (.q (some 12) none (.mov (.tmp 92)) .done)))))))))))))))))) true 29 [2, 3, 4, 5, 6, 7, 10, 11, 12],
  .reg (.q (some 59) none (.mov (.tmp 10)) (.q (some 60) none (.bin .sub (.tmp 59) (.const (.int .i64 15))) (.q (some 61) none (.iadrA 64 1 (.tmp 7) (.tmp 60)) (.q (some 62) none (.ld1 (.tmp 61)) (.q (some 64) none (.mov (.tmp 10)) (.q (some 65) none (.bin .sub (.tmp 64) (.const (.int .i64 15))) (.q (some 66) none (.iadrA 64 1 (.tmp 7) (.tmp 65)) (.q (some 67) none (.ld1 (.tmp 66)) (.q (some 70) none (.mov (.tmp 10)) (.q (some 71) none (.bin .sub (.tmp 70) (.const (.int .i64 15))) (.q (some 72) none (.iadrA 64 1 (.tmp 7) (.tmp 71)) (.q (some 73) none (.ld1 (.tmp 72)) (.q (some 74) none (.bin .shr (.tmp 73) (.const (.int .u64 3))) (.l (some 63) none (.call 31 [(.tmp 62), (.const (.int .i64 25))]) [⟨73, none, (.ld1 (.tmp 72))⟩, ⟨67, none, (.ld1 (.tmp 66))⟩] (.l (some 68) none (.call 31 [(.tmp 67), (.const (.int .i64 14))]) [⟨73, none, (.ld1 (.tmp 72))⟩] (.q (some 69) none (.bin .xor (.tmp 63) (.tmp 68)) (.q (some 75) none (.bin .xor (.tmp 69) (.tmp 74)) (.q (some 11) none (.mov (.tmp 75)) .done)))))))))))))))))) true 30 [2, 3, 4, 5, 6, 7, 10, 11],
  .cnd (.tmp 56) 31 26,
  .reg (.q (some 55) none (.mov (.tmp 10)) (.q (some 56) none (.bin .lss (.tmp 55) (.const (.int .i64 64))) .done)) false 32 [2, 3, 4, 5, 6, 7, 10, 56],
  .reg (.q (some 10) none (.mov (.const (.int .i64 16))) .done) false 33 [2, 3, 4, 5, 6, 7, 10],
  .jmp 44,
  .reg (.q (some 32) none (.mov (.tmp 8)) (.q (some 33) none (.bin .add (.tmp 32) (.const (.int .i64 1))) (.q (some 8) none (.mov (.tmp 33)) .done))) false 35 [2, 3, 4, 5, 6, 7, 8],
  .jmp 41,
  .reg (.q (some 36) none (.mov (.tmp 9)) (.q (some 37) none (.bin .add (.tmp 36) (.const (.int .i64 1))) (.q (some 9) none (.mov (.tmp 37)) .done))) false 37 [2, 3, 4, 5, 6, 7, 8, 9],
  .reg (.q (some 38) none (.mov (.tmp 8)) (.q (some 39) none (.mov (.tmp 8)) (.q (some 40) none (.iadrA 64 1 (.tmp 7) (.tmp 39)) (.q (some 41) none (.ld1 (.tmp 40)) (.q (some 42) none (.bin .mul (.tmp 41) (.const (.int .u32 256))) (.q (some 43) none (.mov (.tmp 5)) (.q (some 44) none (.mov (.tmp 6)) (.q (some 45) none (.mov (.tmp 8)) (.q (some 46) none (.bin .mul (.const (.int .i64 4)) (.tmp 45)) (.q (some 47) none (.bin .add (.tmp 44) (.tmp 46)) (.q (some 48) none (.mov (.tmp 9)) (.q (some 49) none (.bin .add (.tmp 47) (.tmp 48)) (.q (some 50) none (.iadrS 1 (.tmp 43) (.tmp 49)) (.q (some 51) none (.ld1 (.tmp 50)) (.q (some 52) none (.cvi .u32 (.tmp 51)) (.q (some 53) none (.bin .add (.tmp 42) (.tmp 52)) (.q (some 54) none (.iadrA 64 1 (.tmp 7) (.tmp 38)) (.l none none (.st1 (.tmp 54) (.tmp 53)) [] .done)))))))))))))))))) true 38 [2, 3, 4, 5, 6, 7, 8, 9],
  .cnd (.tmp 35) 39 36,
  .reg (.q (some 34) none (.mov (.tmp 9)) (.q (some 35) none (.bin .lss (.tmp 34) (.const (.int .i64 4))) .done)) false 40 [2, 3, 4, 5, 6, 7, 8, 9, 35],
  .reg (.q (some 9) none (.mov (.const (.int .i64 0))) .done) false 41 [2, 3, 4, 5, 6, 7, 8, 9],
  .cnd (.tmp 31) 42 34,
  .reg (.q (some 30) none (.mov (.tmp 8)) (.q (some 31) none (.bin .lss (.tmp 30) (.const (.int .i64 16))) .done)) false 43 [2, 3, 4, 5, 6, 7, 8, 31],
  .reg (.q (some 8) none (.mov (.const (.int .i64 0))) .done) false 44 [2, 3, 4, 5, 6, 7, 8],
  .reg (.l (some 7) none (.alloc 60 [(64, (.int .u32 0))]) [] .done) false 45 [2, 3, 4, 5, 6, 7],
  .cnd (.tmp 27) 46 9,
  .reg (.q (some 24) none (.mov (.tmp 6)) (.q (some 25) none (.mov (.tmp 5)) (.q (some 26) none (.len (.tmp 25)) (.q (some 27) none (.bin .lss (.tmp 24) (.tmp 26)) .done)))) false 47 [2, 3, 4, 5, 6, 27],
  .reg (.q (some 6) none (.mov (.const (.int .i64 0))) .done) false 48 [2, 3, 4, 5, 6],
  .reg (.q (some 22) none (.mov (.tmp 0)) (.l (some 23) none (.call 30 [(.tmp 22), (.const (.int .i64 64)), (.const (.int .i64 8)), (.const (.bool false))]) [] (.q (some 5) none (.mov (.tmp 23)) .done))) false 49 [2, 3, 4, 5],
  .reg (.q (some 21) none (.bld [.x 1 (.const (.int .u32 1779033703)), .x 1 (.const (.int .u32 3144134277)), .x 1 (.const (.int .u32 1013904242)), .x 1 (.const (.int .u32 2773480762)), .x 1 (.const (.int .u32 1359893119)), .x 1 (.const (.int .u32 2600822924)), .x 1 (.const (.int .u32 528734635)), .x 1 (.const (.int .u32 1541459225))]) (.l (some 4) none (.alloc 28 [(8, (.int .u32 0))]) [] (.l none none (.stN 8 (.tmp 4) (.tmp 21)) [] .done))) false 50 [0, 2, 3, 4],
  .reg (.q (some 20) none (.bld [.x 1 (.const (.int .u32 1116352408)), .x 1 (.const (.int .u32 1899447441)), .x 1 (.const (.int .u32 3049323471)), .x 1 (.const (.int .u32 3921009573)), .x 1 (.const (.int .u32 961987163)), .x 1 (.const (.int .u32 1508970993)), .x 1 (.const (.int .u32 2453635748)), .x 1 (.const (.int .u32 2870763221)), .x 1 (.const (.int .u32 3624381080)), .x 1 (.const (.int .u32 310598401)), .x 1 (.const (.int .u32 607225278)), .x 1 (.const (.int .u32 1426881987)), .x 1 (.const (.int .u32 1925078388)), .x 1 (.const (.int .u32 2162078206)), .x 1 (.const (.int .u32 2614888103)), .x 1 (.const (.int .u32 3248222580)), .x 1 (.const (.int .u32 3835390401)), .x 1 (.const (.int .u32 4022224774)), .x 1 (.const (.int .u32 264347078)), .x 1 (.const (.int .u32 604807628)), .x 1 (.const (.int .u32 770255983)), .x 1 (.const (.int .u32 1249150122)), .x 1 (.const (.int .u32 1555081692)), .x 1 (.const (.int .u32 1996064986)), .x 1 (.const (.int .u32 2554220882)), .x 1 (.const (.int .u32 2821834349)), .x 1 (.const (.int .u32 2952996808)), .x 1 (.const (.int .u32 3210313671)), .x 1 (.const (.int .u32 3336571891)), .x 1 (.const (.int .u32 3584528711)), .x 1 (.const (.int .u32 113926993)), .x 1 (.const (.int .u32 338241895)), .x 1 (.const (.int .u32 666307205)), .x 1 (.const (.int .u32 773529912)), .x 1 (.const (.int .u32 1294757372)), .x 1 (.const (.int .u32 1396182291)), .x 1 (.const (.int .u32 1695183700)), .x 1 (.const (.int .u32 1986661051)), .x 1 (.const (.int .u32 2177026350)), .x 1 (.const (.int .u32 2456956037)), .x 1 (.const (.int .u32 2730485921)), .x 1 (.const (.int .u32 2820302411)), .x 1 (.const (.int .u32 3259730800)), .x 1 (.const (.int .u32 3345764771)), .x 1 (.const (.int .u32 3516065817)), .x 1 (.const (.int .u32 3600352804)), .x 1 (.const (.int .u32 4094571909)), .x 1 (.const (.int .u32 275423344)), .x 1 (.const (.int .u32 430227734)), .x 1 (.const (.int .u32 506948616)), .x 1 (.const (.int .u32 659060556)), .x 1 (.const (.int .u32 883997877)), .x 1 (.const (.int .u32 958139571)), .x 1 (.const (.int .u32 1322822218)), .x 1 (.const (.int .u32 1537002063)), .x 1 (.const (.int .u32 1747873779)), .x 1 (.const (.int .u32 1955562222)), .x 1 (.const (.int .u32 2024104815)), .x 1 (.const (.int .u32 2227730452)), .x 1 (.const (.int .u32 2361852424)), .x 1 (.const (.int .u32 2428436474)), .x 1 (.const (.int .u32 2756734187)), .x 1 (.const (.int .u32 3204031479)), .x 1 (.const (.int .u32 3329325298))]) (.l (some 3) none (.alloc 60 [(64, (.int .u32 0))]) [] (.l none none (.stN 64 (.tmp 3) (.tmp 20)) [] .done))) false 51 [0, 2, 3],
  .reg (.l (some 2) none (.alloc 38 [(32, (.int .u8 0))]) [] .done) false 52 [0, 2]
  ]
theorem c11_ok : cfgL Try.prog 11 = some (228, 53, c11.map Vc.Node.bare) := by kernel_rfl
/- (*strongbox/hash.Sum).Hash: entry 13 -/
def c12 : List Vc.Node := [
  .ret [.cN 2 32],
  .ret [.cN 2 32],
  .reg (.q (some 64) none (.ldN 32 (.tmp 4)) (.l none none (.stN 32 (.tmp 2) (.tmp 64)) [] .done)) false 1 [2],
  .jmp 8,
  .reg (.q (some 63) none (.bin .add (.tmp 33) (.const (.int .i64 1))) (.q (some 33) none (.mov (.tmp 63)) .done)) false 3 [2, 4, 32, 33],
  .reg (.q (some 37) none (.mov (.tmp 5)) (.q (some 38) none (.bin .mul (.const (.int .i64 4)) (.tmp 37)) (.q (some 39) none (.mov (.tmp 5)) (.q (some 40) none (.bin .mul (.const (.int .i64 4)) (.tmp 39)) (.q (some 41) none (.bin .add (.tmp 40) (.const (.int .i64 1))) (.q (some 42) none (.mov (.tmp 5)) (.q (some 43) none (.bin .mul (.const (.int .i64 4)) (.tmp 42)) (.q (some 44) none (.bin .add (.tmp 43) (.const (.int .i64 2))) (.q (some 45) none (.mov (.tmp 5)) (.q (some 46) none (.bin .mul (.const (.int .i64 4)) (.tmp 45)) (.q (some 47) none (.bin .add (.tmp 46) (.const (.int .i64 3))) (.q (some 48) none (.mov (.tmp 6)) (.q (some 49) none (.bin .shr (.tmp 48) (.const (.int .u64 24))) (.q (some 50) none (.cvi .u8 (.tmp 49)) (.q (some 51) none (.mov (.tmp 6)) (.q (some 52) none (.bin .shr (.tmp 51) (.const (.int .u64 16))) (.q (some 53) none (.cvi .u8 (.tmp 52)) (.q (some 54) none (.mov (.tmp 6)) (.q (some 55) none (.bin .shr (.tmp 54) (.const (.int .u64 8))) (.q (some 56) none (.cvi .u8 (.tmp 55)) (.q (some 57) none (.mov (.tmp 6)) (.q (some 58) none (.cvi .u8 (.tmp 57)) (.q (some 59) none (.iadrA 32 1 (.tmp 4) (.tmp 38)) (.l none none (.st1 (.tmp 59) (.tmp 50)) [] (.q (some 60) none (.iadrA 32 1 (.tmp 4) (.tmp 41)) (.l none none (.st1 (.tmp 60) (.tmp 53)) [] (.q (some 61) none (.iadrA 32 1 (.tmp 4) (.tmp 44)) (.l none none (.st1 (.tmp 61) (.tmp 56)) [] (.q (some 62) none (.iadrA 32 1 (.tmp 4) (.tmp 47)) (.l none none (.st1 (.tmp 62) (.tmp 58)) [] .done)))))))))))))))))))))))))))))) false 4 [2, 4, 32, 33],
  .reg (.q (some 35) none (.mov (.tmp 33)) (.q (some 36) none (.idxA 8 1 false (.tmp 32) (.tmp 33)) (.q (some 5) none (.mov (.tmp 35)) (.q (some 6) none (.mov (.tmp 36)) .done)))) false 5 [2, 4, 5, 6, 32, 33],
  .cnd (.tmp 34) 6 2,
  .reg (.q (some 34) none (.bin .lss (.tmp 33) (.const (.int .i64 8))) .done) false 7 [2, 4, 32, 33, 34],
  .reg (.q (some 31) none (.fadr 0 (.tmp 3)) (.q (some 32) none (.ldN 8 (.tmp 31)) (.q (some 33) none (.mov (.const (.int .i64 0))) .done))) false 8 [2, 4, 32, 33],
  .reg (.l (some 4) none (.alloc 39 [(32, (.int .u8 0))]) [] .done) false 9 [2, 3, 4],
  .reg (.q (some 25) none (.mov (.tmp 0)) (.q (some 26) none (.nc (.tmp 25)) (.q (some 27) none (.fadr 9 (.tmp 26)) (.q (some 28) none (.ld1 (.tmp 27)) (.l (some 29) none (.call 33 [(.tmp 28), (.const (.int .i64 64)), (.const (.int .i64 8))]) [] (.l (some 30) none (.call 8 [(.tmp 3), (.tmp 29)]) [] .done)))))) false 10 [2, 3],
  .reg (.q (some 7) none (.mov (.tmp 0)) (.q (some 8) none (.nc (.tmp 7)) (.q (some 9) none (.fadr 0 (.tmp 8)) (.q (some 10) none (.ldN 8 (.tmp 9)) (.q (some 11) none (.mov (.tmp 0)) (.q (some 12) none (.nc (.tmp 11)) (.q (some 13) none (.fadr 8 (.tmp 12)) (.q (some 14) none (.ld1 (.tmp 13)) (.q (some 16) none (.mov (.tmp 0)) (.q (some 17) none (.nc (.tmp 16)) (.q (some 18) none (.fadr 9 (.tmp 17)) (.q (some 19) none (.ld1 (.tmp 18)) (.q (some 20) none (.mov (.tmp 0)) (.q (some 21) none (.nc (.tmp 20)) (.q (some 22) none (.fadr 10 (.tmp 21)) (.q (some 23) none (.ld1 (.tmp 22)) (.alt (.l (some 15) none (.call 32 [(.tmp 14)]) [⟨23, none, (.ld1 (.tmp 22))⟩, ⟨19, none, (.ld1 (.tmp 18))⟩, ⟨10, none, (.ldN 8 (.tmp 9))⟩] (.q (some 24) none (.bld [.x 8 (.tmp 10), .x 1 (.tmp 15), .x 1 (.tmp 19), .x 1 (.tmp 23)]) (.l (some 3) none (.alloc 32 [(8, (.int .u32 0)), (1, (.slice none 0 0)), (1, (.int .u64 0)), (1, (.bool false))]) [⟨23, none, (.ld1 (.tmp 22))⟩, ⟨19, none, (.ld1 (.tmp 18))⟩, ⟨10, none, (.ldN 8 (.tmp 9))⟩] (.l none none (.stN 11 (.tmp 3) (.tmp 24)) [] .done)))) (.l (some 3) none (.alloc 32 [(8, (.int .u32 0)), (1, (.slice none 0 0)), (1, (.int .u64 0)), (1, (.bool false))]) [⟨23, none, (.ld1 (.tmp 22))⟩, ⟨19, none, (.ld1 (.tmp 18))⟩, ⟨14, none, (.ld1 (.tmp 13))⟩, ⟨10, none, (.ldN 8 (.tmp 9))⟩] (.l (some 15) none (.call 32 [(.tmp 14)]) [⟨23, none, (.ld1 (.tmp 22))⟩, ⟨19, none, (.ld1 (.tmp 18))⟩, ⟨10, none, (.ldN 8 (.tmp 9))⟩] (.q (some 24) none (.bld [.x 8 (.tmp 10), .x 1 (.tmp 15), .x 1 (.tmp 19), .x 1 (.tmp 23)]) (.l none none (.stN 11 (.tmp 3) (.tmp 24)) [] .done))))))))))))))))))))) true 11 [0, 2, 3],
  .reg (.l (some 2) none (.alloc 39 [(32, (.int .u8 0))]) [] .done) false 12 [0, 2]
  ]
theorem c12_ok : cfgL Try.prog 12 = some (65, 13, c12.map Vc.Node.bare) := by kernel_rfl
/- (*strongbox/hash.Sum).Twice: entry 4 -/
def c13 : List Vc.Node := [
  .ret [.cN 2 32],
  .ret [.cN 2 32],
  .reg (.q (some 6) none (.slcA 32 1 (.tmp 3) none none) (.l (some 7) none (.call 9 [(.tmp 6)]) [] (.l none none (.stN 32 (.tmp 2) (.tmp 7)) [] .done))) false 1 [2],
  .reg (.q (some 4) none (.mov (.tmp 0)) (.l (some 5) none (.call 12 [(.tmp 4)]) [] (.l (some 3) none (.alloc 39 [(32, (.int .u8 0))]) [] (.l none none (.stN 32 (.tmp 3) (.tmp 5)) [] .done)))) false 2 [2, 3],
  .reg (.l (some 2) none (.alloc 39 [(32, (.int .u8 0))]) [] .done) false 3 [0, 2]
  ]
theorem c13_ok : cfgL Try.prog 13 = some (8, 4, c13.map Vc.Node.bare) := by kernel_rfl
/- strongbox/hash.Double: entry 5 -/
def c14 : List Vc.Node := [
  .ret [.cN 2 32],
  .ret [.cN 2 32],
  .reg (.l (some 6) none (.call 13 [(.tmp 3)]) [] (.l none none (.stN 32 (.tmp 2) (.tmp 6)) [] .done)) false 1 [2],
  .reg (.q (some 4) none (.mov (.tmp 0)) (.l (some 5) none (.call 8 [(.tmp 3), (.tmp 4)]) [] .done)) false 2 [2, 3],
  .reg (.l (some 3) none (.alloc 32 [(8, (.int .u32 0)), (1, (.slice none 0 0)), (1, (.int .u64 0)), (1, (.bool false))]) [] .done) false 3 [0, 2, 3],
  .reg (.l (some 2) none (.alloc 39 [(32, (.int .u8 0))]) [] .done) false 4 [0, 2]
  ]
theorem c14_ok : cfgL Try.prog 14 = some (7, 5, c14.map Vc.Node.bare) := by kernel_rfl
/- strongbox/hash.FromText: entry 20 -/
def c15 : List Vc.Node := [
  .ret [.cN 2 32, .t 3],
  .ret [.cN 2 32, .t 3],
  .reg (.q (some 42) none (.ldN 32 (.tmp 4)) (.l none none (.stN 32 (.tmp 2) (.tmp 42)) [] (.q (some 3) none (.mov (.const (.int .i64 0))) .done))) false 1 [2, 3],
  .jmp 13,
  .reg (.q (some 41) none (.bin .add (.tmp 12) (.const (.int .i64 1))) (.q (some 12) none (.mov (.tmp 41)) .done)) false 3 [0, 2, 4, 12],
  .reg (.q (some 33) none (.mov (.tmp 5)) (.q (some 34) none (.bin .sub (.const (.int .i64 31)) (.tmp 33)) (.q (some 35) none (.mov (.tmp 6)) (.q (some 36) none (.bin .shl (.tmp 35) (.const (.int .u64 4))) (.q (some 37) none (.mov (.tmp 7)) (.q (some 38) none (.bin .or (.tmp 36) (.tmp 37)) (.q (some 39) none (.cvi .u8 (.tmp 38)) (.q (some 40) none (.iadrA 32 1 (.tmp 4) (.tmp 34)) (.l none none (.st1 (.tmp 40) (.tmp 39)) [] .done))))))))) false 4 [0, 2, 4, 12],
  .ret [.cN 2 32, .t 3],
  .reg (.q (some 32) none (.bld [.z [(32, (.int .u8 0))]]) (.l none none (.stN 32 (.tmp 2) (.tmp 32)) [] (.q (some 3) none (.mov (.const (.int .i64 3))) .done))) false 6 [2, 3],
  .cnd (.tmp 31) 7 5,
  .reg (.q (some 26) none (.mov (.tmp 6)) (.q (some 27) none (.bin .lss (.tmp 26) (.const (.int .i64 0))) (.q (some 28) none (.mov (.tmp 27)) (.q (some 29) (some (28, false)) (.mov (.tmp 7)) (.q (some 30) (some (28, false)) (.bin .lss (.tmp 29) (.const (.int .i64 0))) (.q (some 31) none (.pick (.tmp 28) (.const (.bool true)) (.tmp 30)) .done)))))) false 8 [0, 2, 4, 5, 6, 7, 12, 31],
  .reg (.q (some 15) none (.mov (.tmp 0)) (.q (some 16) none (.mov (.tmp 5)) (.q (some 17) none (.bin .mul (.const (.int .i64 2)) (.tmp 16)) (.q (some 18) none (.idxS (.tmp 15) (.tmp 17)) (.q (some 20) none (.mov (.tmp 0)) (.q (some 21) none (.mov (.tmp 5)) (.q (some 22) none (.bin .mul (.const (.int .i64 2)) (.tmp 21)) (.q (some 23) none (.bin .add (.tmp 22) (.const (.int .i64 1))) (.q (some 24) none (.idxS (.tmp 20) (.tmp 23)) (.l (some 19) none (.call 34 [(.const (.string ⟨#[48, 49, 50, 51, 52, 53, 54, 55, 56, 57, 97, 98, 99, 100, 101, 102]⟩)), (.tmp 18)]) [] (.l (some 25) none (.call 34 [(.const (.string ⟨#[48, 49, 50, 51, 52, 53, 54, 55, 56, 57, 97, 98, 99, 100, 101, 102]⟩)), (.tmp 24)]) [] (.q (some 6) none (.mov (.tmp 19)) (.q (some 7) none (.mov (.tmp 25)) .done))))))))))))) true 9 [0, 2, 4, 5, 6, 7, 12],
  .reg (.q (some 14) none (.mov (.tmp 12)) (.q (some 5) none (.mov (.tmp 14)) .done)) false 10 [0, 2, 4, 5, 12],
  .cnd (.tmp 13) 11 2,
  .reg (.q (some 13) none (.bin .lss (.tmp 12) (.const (.int .i64 32))) .done) false 12 [0, 2, 4, 12, 13],
  .reg (.q (some 12) none (.mov (.const (.int .i64 0))) .done) false 13 [0, 2, 4, 12],
  .ret [.cN 2 32, .t 3],
  .reg (.q (some 11) none (.bld [.z [(32, (.int .u8 0))]]) (.l none none (.stN 32 (.tmp 2) (.tmp 11)) [] (.q (some 3) none (.mov (.const (.int .i64 3))) .done))) false 15 [2, 3],
  .cnd (.tmp 10) 16 14,
  .reg (.q (some 8) none (.mov (.tmp 0)) (.q (some 9) none (.lenT (.tmp 8)) (.q (some 10) none (.bin .neq (.tmp 9) (.const (.int .i64 64))) .done))) false 17 [0, 2, 4, 10],
  .reg (.l (some 4) none (.alloc 39 [(32, (.int .u8 0))]) [] .done) false 18 [0, 2, 4],
  .reg (.l (some 2) none (.alloc 39 [(32, (.int .u8 0))]) [] (.q (some 3) none (.mov (.const (.int .i64 0))) .done)) false 19 [0, 2]
  ]
theorem c15_ok : cfgL Try.prog 15 = some (43, 20, c15.map Vc.Node.bare) := by kernel_rfl
/- strongbox/hash.Text: entry 6 -/
def c16 : List Vc.Node := [
  .ret [.t 2],
  .ret [.t 2],
  .reg (.l (some 18) none (.call 37 [(.tmp 3)]) [] (.q (some 2) none (.mov (.tmp 18)) .done)) false 1 [2],
  .bad,
  .reg (.q (some 6) none (.slcA 32 1 (.tmp 1) none none) (.l (some 7) none (.call 35 [(.tmp 6)]) [] .done)) false 3 [],
  .reg (.l (some 3) none (.alloc 71 [(1, (.pointer none)), (1, (.slice none 0 0))]) [] .done) false 4 [1],
  .reg (.l (some 1) none (.box 39 (.tmp 0)) [] (.q (some 2) none (.mov (.const (.string ⟨#[]⟩))) .done)) false 5 [1]
  ]
theorem c16_ok : cfgL Try.prog 16 = some (19, 6, c16.map Vc.Node.bare) := by kernel_rfl
/- strongbox/wire.Open: entry 3 -/
def c17 : List Vc.Node := [
  .ret [.t 2],
  .ret [.t 2],
  .reg (.q (some 3) none (.mov (.tmp 0)) (.l (some 4) none (.call 29 [(.tmp 3)]) [] (.q (some 5) none (.bld [.x 1 (.tmp 4), .z [(1, (.int .i64 0))]]) (.l (some 6) none (.box 80 (.tmp 5)) [] (.q (some 2) none (.mov (.tmp 6)) .done))))) false 1 [2],
  .reg (.q (some 2) none (.mov (.const (.pointer none))) .done) false 2 [0]
  ]
theorem c17_ok : cfgL Try.prog 17 = some (7, 3, c17.map Vc.Node.bare) := by kernel_rfl
/- (*strongbox/wire.Reader).Bytes: entry 3 -/
def c18 : List Vc.Node := [
  .ret [.t 4],
  .ret [.t 4],
  .reg (.q (some 5) none (.mov (.tmp 0)) (.q (some 6) none (.mkF 39 [] [(.tmp 3)]) (.l (some 7) none (.call 38 [(.tmp 5), (.tmp 6)]) [] (.q (some 4) none (.mov (.tmp 7)) .done)))) false 1 [4],
  .reg (.l (some 3) none (.box 3 (.tmp 1)) [] (.q (some 4) none (.mov (.const (.slice none 0 0))) .done)) false 2 [0, 3]
  ]
theorem c18_ok : cfgL Try.prog 18 = some (8, 3, c18.map Vc.Node.bare) := by kernel_rfl
/- strongbox/strongboxref01.Equal: entry 3 -/
def c19 : List Vc.Node := [
  .ret [.t 4],
  .ret [.t 4],
  .reg (.q (some 5) none (.mov (.tmp 0)) (.q (some 6) none (.b2s (.tmp 5)) (.q (some 7) none (.mov (.tmp 1)) (.q (some 8) none (.b2s (.tmp 7)) (.q (some 9) none (.bin .eql (.tmp 6) (.tmp 8)) (.q (some 4) none (.mov (.tmp 9)) .done)))))) false 1 [4],
  .reg (.q (some 4) none (.mov (.const (.bool false))) .done) false 2 [0, 1]
  ]
theorem c19_ok : cfgL Try.prog 19 = some (10, 3, c19.map Vc.Node.bare) := by kernel_rfl
/- (*strongbox/wire.Reader).U64: entry 3 -/
def c20 : List Vc.Node := [
  .ret [.t 2],
  .ret [.t 2],
  .reg (.q (some 3) none (.mov (.tmp 0)) (.l (some 4) none (.call 42 [(.tmp 3), (.func 43)]) [] (.q (some 2) none (.mov (.tmp 4)) .done))) false 1 [2],
  .reg (.q (some 2) none (.mov (.const (.int .u64 0))) .done) false 2 [0]
  ]
theorem c20_ok : cfgL Try.prog 20 = some (5, 3, c20.map Vc.Node.bare) := by kernel_rfl
/- (*strongbox/wire.Reader).Close: entry 7 -/
def c21 : List Vc.Node := [
  .ret [.t 2],
  .ret [.t 2],
  .reg (.q (some 16) none (.mov (.tmp 0)) (.q (some 17) none (.nc (.tmp 16)) (.q (some 18) none (.fadr 1 (.tmp 17)) (.q (some 19) none (.ld1 (.tmp 18)) (.q (some 2) none (.mov (.tmp 19)) .done))))) false 1 [2],
  .ret [.t 2],
  .reg (.q (some 2) none (.mov (.const (.int .i64 3))) .done) false 3 [2],
  .cnd (.tmp 15) 4 2,
  .reg (.q (some 3) none (.mov (.tmp 0)) (.q (some 4) none (.nc (.tmp 3)) (.q (some 5) none (.fadr 1 (.tmp 4)) (.q (some 6) none (.ld1 (.tmp 5)) (.q (some 7) none (.bin .eql (.tmp 6) (.const (.int .i64 0))) (.q (some 8) none (.mov (.tmp 7)) (.q (some 9) (some (8, true)) (.mov (.tmp 0)) (.q (some 10) (some (8, true)) (.nc (.tmp 9)) (.q (some 11) (some (8, true)) (.fadr 0 (.tmp 10)) (.q (some 12) (some (8, true)) (.ld1 (.tmp 11)) (.q (some 13) (some (8, true)) (.len (.tmp 12)) (.q (some 14) (some (8, true)) (.bin .gtr (.tmp 13) (.const (.int .i64 0))) (.q (some 15) none (.pick (.tmp 8) (.tmp 14) (.const (.bool false))) .done))))))))))))) false 5 [0, 15],
  .reg (.q (some 2) none (.mov (.const (.int .i64 0))) .done) false 6 [0]
  ]
theorem c21_ok : cfgL Try.prog 21 = some (20, 7, c21.map Vc.Node.bare) := by kernel_rfl
/- (*strongbox/wire.Writer).Size: entry 7 -/
def c22 : List Vc.Node := [
  .ret [],
  .reg (.q (some 20) none (.mov (.tmp 0)) (.q (some 21) none (.mov (.tmp 1)) (.q (some 22) none (.cvi .u8 (.tmp 21)) (.l (some 23) none (.call 46 [(.tmp 20), (.tmp 22)]) [] .done)))) false 0 [],
  .reg (.q (some 14) none (.mov (.tmp 0)) (.q (some 15) none (.mov (.tmp 1)) (.q (some 16) none (.mov (.tmp 4)) (.l (some 17) none (.call 24 [(.tmp 14), (.tmp 15), (.tmp 16)]) [] .done)))) false 0 [],
  .reg (.q (some 8) none (.mov (.tmp 0)) (.l (some 9) none .mkM [] (.l none none (.mapU [(1, .i .i64)] false (.tmp 9) (.const (.int .i64 2)) (.const (.int .u8 253))) [] (.l none none (.mapU [(1, .i .i64)] false (.tmp 9) (.const (.int .i64 4)) (.const (.int .u8 254))) [] (.l none none (.mapU [(1, .i .i64)] false (.tmp 9) (.const (.int .i64 8)) (.const (.int .u8 255))) [] (.q (some 10) none (.mov (.tmp 9)) (.q (some 11) none (.mov (.tmp 4)) (.q (some 12) none (.lkp [(1, .i .i64)] false false [(1, (.int .u8 0))] false (.tmp 10) (.tmp 11)) (.l (some 13) none (.call 46 [(.tmp 8), (.tmp 12)]) [] .done))))))))) false 2 [0, 1, 4],
  .cnd (.tmp 18) 1 3,
  .reg (.q (some 19) none (.bin .eql (.tmp 7) (.const (.int .i64 0))) (.q (some 18) none (.mov (.tmp 19)) .done)) false 4 [0, 1, 4, 18],
  .reg (.q (some 7) none (.mov (.tmp 4)) .done) false 5 [0, 1, 4, 7],
  .reg (.q (some 5) none (.mov (.tmp 1)) (.l (some 6) none (.call 45 [(.tmp 5)]) [] (.q (some 4) none (.mov (.tmp 6)) .done))) false 6 [0, 1, 4]
  ]
theorem c22_ok : cfgL Try.prog 22 = some (24, 7, c22.map Vc.Node.bare) := by kernel_rfl
/- (*strongbox/wire.Writer).Raw: entry 1 -/
def c23 : List Vc.Node := [
  .ret [],
  .reg (.q (some 4) none (.mov (.tmp 0)) (.q (some 5) none (.mov (.tmp 0)) (.q (some 6) none (.nc (.tmp 5)) (.q (some 7) none (.fadr 0 (.tmp 6)) (.q (some 8) none (.ld1 (.tmp 7)) (.q (some 9) none (.mov (.tmp 1)) (.l (some 10) none (.app 5 1 1 [(1, (.int .u8 0))] (.tmp 8) (.tmp 9)) [] (.q (some 11) none (.nc (.tmp 4)) (.q (some 12) none (.fadr 0 (.tmp 11)) (.l none none (.st1 (.tmp 12) (.tmp 10)) [] .done)))))))))) false 0 []
  ]
theorem c23_ok : cfgL Try.prog 23 = some (13, 1, c23.map Vc.Node.bare) := by kernel_rfl
/- (*strongbox/wire.Writer).number: entry 7 -/
def c24 : List Vc.Node := [
  .ret [],
  .jmp 6,
  .reg (.q (some 22) none (.bin .add (.tmp 7) (.const (.int .i64 1))) (.q (some 7) none (.mov (.tmp 22)) .done)) false 1 [0, 1, 6, 7],
  .reg (.q (some 20) none (.mov (.tmp 1)) (.q (some 21) none (.bin .shr (.tmp 20) (.const (.int .u64 8))) (.q (some 1) none (.mov (.tmp 21)) .done))) false 2 [0, 1, 6, 7],
  .reg (.q (some 9) none (.mov (.tmp 0)) (.q (some 10) none (.mov (.tmp 0)) (.q (some 11) none (.nc (.tmp 10)) (.q (some 12) none (.fadr 0 (.tmp 11)) (.q (some 13) none (.ld1 (.tmp 12)) (.q (some 14) none (.mov (.tmp 1)) (.q (some 15) none (.cvi .u8 (.tmp 14)) (.l (some 16) none (.bldS 5 1 [(.tmp 15)]) [] (.l (some 17) none (.app 5 1 1 [(1, (.int .u8 0))] (.tmp 13) (.tmp 16)) [] (.q (some 18) none (.nc (.tmp 9)) (.q (some 19) none (.fadr 0 (.tmp 18)) (.l none none (.st1 (.tmp 19) (.tmp 17)) [] .done)))))))))))) false 3 [0, 1, 6, 7],
  .cnd (.tmp 8) 4 0,
  .reg (.q (some 8) none (.bin .lss (.tmp 7) (.tmp 6)) .done) false 5 [0, 1, 6, 7, 8],
  .reg (.q (some 6) none (.mov (.tmp 2)) (.q (some 7) none (.mov (.const (.int .i64 0))) .done)) false 6 [0, 1, 6, 7]
  ]
theorem c24_ok : cfgL Try.prog 24 = some (23, 7, c24.map Vc.Node.bare) := by kernel_rfl
/- strongbox/strongboxref01.Size: entry 15 -/
def c25 : List Vc.Node := [
  .ret [.t 2],
  .ret [.t 2],
  .reg (.l (some 23) none (.bldS 5 1 [(.const (.int .u8 255))]) [] (.q (some 24) none (.mov (.tmp 0)) (.l (some 25) none (.call 7 [(.tmp 24), (.const (.int .i64 8))]) [] (.l (some 26) none (.app 5 1 1 [(1, (.int .u8 0))] (.tmp 23) (.tmp 25)) [] (.q (some 2) none (.mov (.tmp 26)) .done))))) false 1 [2],
  .ret [.t 2],
  .reg (.q (some 6) none (.mov (.tmp 0)) (.q (some 7) none (.cvi .u8 (.tmp 6)) (.l (some 8) none (.bldS 5 1 [(.tmp 7)]) [] (.q (some 2) none (.mov (.tmp 8)) .done)))) false 3 [2],
  .ret [.t 2],
  .reg (.l (some 12) none (.bldS 5 1 [(.const (.int .u8 253))]) [] (.q (some 13) none (.mov (.tmp 0)) (.l (some 14) none (.call 7 [(.tmp 13), (.const (.int .i64 2))]) [] (.l (some 15) none (.app 5 1 1 [(1, (.int .u8 0))] (.tmp 12) (.tmp 14)) [] (.q (some 2) none (.mov (.tmp 15)) .done))))) false 5 [2],
  .ret [.t 2],
  .reg (.l (some 19) none (.bldS 5 1 [(.const (.int .u8 254))]) [] (.q (some 20) none (.mov (.tmp 0)) (.l (some 21) none (.call 7 [(.tmp 20), (.const (.int .i64 4))]) [] (.l (some 22) none (.app 5 1 1 [(1, (.int .u8 0))] (.tmp 19) (.tmp 21)) [] (.q (some 2) none (.mov (.tmp 22)) .done))))) false 7 [2],
  .cnd (.tmp 16) 8 2,
  .reg (.q (some 17) none (.mov (.tmp 0)) (.q (some 18) none (.bin .leq (.tmp 17) (.const (.int .u64 4294967295))) (.q (some 16) none (.mov (.tmp 18)) .done))) false 9 [0, 16],
  .cnd (.tmp 9) 6 10,
  .reg (.q (some 10) none (.mov (.tmp 0)) (.q (some 11) none (.bin .leq (.tmp 10) (.const (.int .u64 65535))) (.q (some 9) none (.mov (.tmp 11)) .done))) false 11 [0, 9],
  .cnd (.tmp 3) 4 12,
  .reg (.q (some 4) none (.mov (.tmp 0)) (.q (some 5) none (.bin .leq (.tmp 4) (.const (.int .u64 252))) (.q (some 3) none (.mov (.tmp 5)) .done))) false 13 [0, 3],
  .reg (.q (some 2) none (.mov (.const (.slice none 0 0))) .done) false 14 [0]
  ]
theorem c25_ok : cfgL Try.prog 25 = some (27, 15, c25.map Vc.Node.bare) := by kernel_rfl
/- strongbox/hash.begin256: entry 3 -/
def c26 : List Vc.Node := [
  .ret [.cN 0 8],
  .ret [.cN 0 8],
  .reg (.q (some 1) none (.bld [.x 1 (.const (.int .u32 1779033703)), .x 1 (.const (.int .u32 3144134277)), .x 1 (.const (.int .u32 1013904242)), .x 1 (.const (.int .u32 2773480762)), .x 1 (.const (.int .u32 1359893119)), .x 1 (.const (.int .u32 2600822924)), .x 1 (.const (.int .u32 528734635)), .x 1 (.const (.int .u32 1541459225))]) (.l none none (.stN 8 (.tmp 0) (.tmp 1)) [] .done)) false 1 [0],
  .reg (.l (some 0) none (.alloc 29 [(8, (.int .u32 0))]) [] .done) false 2 [0]
  ]
theorem c26_ok : cfgL Try.prog 26 = some (2, 3, c26.map Vc.Node.bare) := by kernel_rfl
/- strongbox/hash.k256: entry 3 -/
def c27 : List Vc.Node := [
  .ret [.cN 0 64],
  .ret [.cN 0 64],
  .reg (.q (some 1) none (.bld [.x 1 (.const (.int .u32 1116352408)), .x 1 (.const (.int .u32 1899447441)), .x 1 (.const (.int .u32 3049323471)), .x 1 (.const (.int .u32 3921009573)), .x 1 (.const (.int .u32 961987163)), .x 1 (.const (.int .u32 1508970993)), .x 1 (.const (.int .u32 2453635748)), .x 1 (.const (.int .u32 2870763221)), .x 1 (.const (.int .u32 3624381080)), .x 1 (.const (.int .u32 310598401)), .x 1 (.const (.int .u32 607225278)), .x 1 (.const (.int .u32 1426881987)), .x 1 (.const (.int .u32 1925078388)), .x 1 (.const (.int .u32 2162078206)), .x 1 (.const (.int .u32 2614888103)), .x 1 (.const (.int .u32 3248222580)), .x 1 (.const (.int .u32 3835390401)), .x 1 (.const (.int .u32 4022224774)), .x 1 (.const (.int .u32 264347078)), .x 1 (.const (.int .u32 604807628)), .x 1 (.const (.int .u32 770255983)), .x 1 (.const (.int .u32 1249150122)), .x 1 (.const (.int .u32 1555081692)), .x 1 (.const (.int .u32 1996064986)), .x 1 (.const (.int .u32 2554220882)), .x 1 (.const (.int .u32 2821834349)), .x 1 (.const (.int .u32 2952996808)), .x 1 (.const (.int .u32 3210313671)), .x 1 (.const (.int .u32 3336571891)), .x 1 (.const (.int .u32 3584528711)), .x 1 (.const (.int .u32 113926993)), .x 1 (.const (.int .u32 338241895)), .x 1 (.const (.int .u32 666307205)), .x 1 (.const (.int .u32 773529912)), .x 1 (.const (.int .u32 1294757372)), .x 1 (.const (.int .u32 1396182291)), .x 1 (.const (.int .u32 1695183700)), .x 1 (.const (.int .u32 1986661051)), .x 1 (.const (.int .u32 2177026350)), .x 1 (.const (.int .u32 2456956037)), .x 1 (.const (.int .u32 2730485921)), .x 1 (.const (.int .u32 2820302411)), .x 1 (.const (.int .u32 3259730800)), .x 1 (.const (.int .u32 3345764771)), .x 1 (.const (.int .u32 3516065817)), .x 1 (.const (.int .u32 3600352804)), .x 1 (.const (.int .u32 4094571909)), .x 1 (.const (.int .u32 275423344)), .x 1 (.const (.int .u32 430227734)), .x 1 (.const (.int .u32 506948616)), .x 1 (.const (.int .u32 659060556)), .x 1 (.const (.int .u32 883997877)), .x 1 (.const (.int .u32 958139571)), .x 1 (.const (.int .u32 1322822218)), .x 1 (.const (.int .u32 1537002063)), .x 1 (.const (.int .u32 1747873779)), .x 1 (.const (.int .u32 1955562222)), .x 1 (.const (.int .u32 2024104815)), .x 1 (.const (.int .u32 2227730452)), .x 1 (.const (.int .u32 2361852424)), .x 1 (.const (.int .u32 2428436474)), .x 1 (.const (.int .u32 2756734187)), .x 1 (.const (.int .u32 3204031479)), .x 1 (.const (.int .u32 3329325298))]) (.l none none (.stN 64 (.tmp 0) (.tmp 1)) [] .done)) false 1 [0],
  .reg (.l (some 0) none (.alloc 60 [(64, (.int .u32 0))]) [] .done) false 2 [0]
  ]
theorem c27_ok : cfgL Try.prog 27 = some (2, 3, c27.map Vc.Node.bare) := by kernel_rfl
/- (*strongbox/hash.state256).step: entry 32 -/
def c28 : List Vc.Node := [
  .ret [],
  .jmp 6,
  .reg (.q (some 189) none (.bin .add (.tmp 175) (.const (.int .i64 1))) (.q (some 175) none (.mov (.tmp 189)) .done)) false 1 [0, 10, 175],
  .reg (.q (some 178) none (.mov (.tmp 0)) (.q (some 179) none (.mov (.tmp 17)) (.q (some 180) none (.nc (.tmp 178)) (.q (some 181) none (.iadrA 8 1 (.tmp 180) (.tmp 179)) (.q (some 182) none (.ld1 (.tmp 181)) (.q (some 183) none (.mov (.tmp 17)) (.q (some 184) none (.iadrA 8 1 (.tmp 10) (.tmp 183)) (.q (some 185) none (.ld1 (.tmp 184)) (.q (some 186) none (.bin .add (.tmp 182) (.tmp 185)) (.q (some 187) none (.nc (.tmp 178)) (.q (some 188) none (.iadrA 8 1 (.tmp 187) (.tmp 179)) (.l none none (.st1 (.tmp 188) (.tmp 186)) [] .done)))))))))))) true 2 [0, 10, 175],
  .reg (.q (some 177) none (.mov (.tmp 175)) (.q (some 17) none (.mov (.tmp 177)) .done)) false 3 [0, 10, 17, 175],
  .cnd (.tmp 176) 4 0,
  .reg (.q (some 176) none (.bin .lss (.tmp 175) (.const (.int .i64 8))) .done) false 5 [0, 10, 175, 176],
  .reg (.q (some 175) none (.mov (.const (.int .i64 0))) .done) false 6 [0, 10, 175],
  .jmp 18,
  .reg (.q (some 174) none (.bin .add (.tmp 100) (.const (.int .i64 1))) (.q (some 100) none (.mov (.tmp 174)) .done)) false 8 [0, 1, 10, 99, 100],
  .reg (.q (some 170) none (.mov (.tmp 15)) (.q (some 171) none (.mov (.tmp 16)) (.q (some 172) none (.bin .add (.tmp 170) (.tmp 171)) (.q (some 173) none (.iadrA 8 1 (.tmp 10) (.const (.int .i64 0))) (.l none none (.st1 (.tmp 173) (.tmp 172)) [] .done))))) false 9 [0, 1, 10, 99, 100],
  .reg (.q (some 165) none (.iadrA 8 1 (.tmp 10) (.const (.int .i64 4))) (.q (some 166) none (.ld1 (.tmp 165)) (.q (some 167) none (.mov (.tmp 15)) (.q (some 168) none (.bin .add (.tmp 166) (.tmp 167)) (.q (some 169) none (.iadrA 8 1 (.tmp 10) (.const (.int .i64 4))) (.l none none (.st1 (.tmp 169) (.tmp 168)) [] .done)))))) false 10 [0, 1, 10, 15, 16, 99, 100],
  .reg (.q (some 162) none (.slcA 8 1 (.tmp 10) (some (.const (.int .i64 1))) none) (.q (some 163) none (.slcA 8 1 (.tmp 10) none (some (.const (.int .i64 7)))) (.l (some 164) none (.cpy 1 (.tmp 162) (.tmp 163)) [] .done))) true 11 [0, 1, 10, 15, 16, 99, 100],
  .reg (.q (some 138) none (.mov (.tmp 14)) (.q (some 140) none (.mov (.tmp 14)) (.q (some 143) none (.mov (.tmp 14)) (.q (some 146) none (.mov (.tmp 14)) (.q (some 147) none (.iadrA 8 1 (.tmp 10) (.const (.int .i64 1))) (.q (some 148) none (.ld1 (.tmp 147)) (.q (some 149) none (.bin .and (.tmp 146) (.tmp 148)) (.q (some 150) none (.mov (.tmp 14)) (.q (some 151) none (.iadrA 8 1 (.tmp 10) (.const (.int .i64 2))) (.q (some 152) none (.ld1 (.tmp 151)) (.q (some 153) none (.bin .and (.tmp 150) (.tmp 152)) (.q (some 154) none (.bin .xor (.tmp 149) (.tmp 153)) (.q (some 155) none (.iadrA 8 1 (.tmp 10) (.const (.int .i64 1))) (.q (some 156) none (.ld1 (.tmp 155)) (.q (some 157) none (.iadrA 8 1 (.tmp 10) (.const (.int .i64 2))) (.q (some 158) none (.ld1 (.tmp 157)) (.q (some 159) none (.bin .and (.tmp 156) (.tmp 158)) (.q (some 160) none (.bin .xor (.tmp 154) (.tmp 159)) (.l (some 139) none (.call 47 [(.tmp 138), (.const (.int .i64 2))]) [⟨158, none, (.ld1 (.tmp 157))⟩, ⟨156, none, (.ld1 (.tmp 155))⟩, ⟨152, none, (.ld1 (.tmp 151))⟩, ⟨148, none, (.ld1 (.tmp 147))⟩] (.l (some 141) none (.call 47 [(.tmp 140), (.const (.int .i64 13))]) [⟨158, none, (.ld1 (.tmp 157))⟩, ⟨156, none, (.ld1 (.tmp 155))⟩, ⟨152, none, (.ld1 (.tmp 151))⟩, ⟨148, none, (.ld1 (.tmp 147))⟩] (.q (some 142) none (.bin .xor (.tmp 139) (.tmp 141)) (.l (some 144) none (.call 47 [(.tmp 143), (.const (.int .i64 22))]) [⟨158, none, (.ld1 (.tmp 157))⟩, ⟨156, none, (.ld1 (.tmp 155))⟩, ⟨152, none, (.ld1 (.tmp 151))⟩, ⟨148, none, (.ld1 (.tmp 147))⟩] (.q (some 145) none (.bin .xor (.tmp 142) (.tmp 144)) (.q (some 161) none (.bin .add (.tmp 145) (.tmp 160)) (.q (some 16) none (.mov (.tmp 161)) .done))))))))))))))))))))))))) true 12 [0, 1, 10, 15, 16, 99, 100],
  .reg (.q (some 108) none (.iadrA 8 1 (.tmp 10) (.const (.int .i64 7))) (.q (some 109) none (.ld1 (.tmp 108)) (.q (some 110) none (.mov (.tmp 13)) (.q (some 112) none (.mov (.tmp 13)) (.q (some 115) none (.mov (.tmp 13)) (.q (some 119) none (.mov (.tmp 13)) (.q (some 120) none (.iadrA 8 1 (.tmp 10) (.const (.int .i64 5))) (.q (some 121) none (.ld1 (.tmp 120)) (.q (some 122) none (.bin .and (.tmp 119) (.tmp 121)) (.q (some 123) none (.mov (.tmp 13)) (.q (some 124) none (.bnot (.tmp 123)) (.q (some 125) none (.iadrA 8 1 (.tmp 10) (.const (.int .i64 6))) (.q (some 126) none (.ld1 (.tmp 125)) (.q (some 127) none (.bin .and (.tmp 124) (.tmp 126)) (.q (some 128) none (.bin .xor (.tmp 122) (.tmp 127)) (.q (some 130) none (.mov (.tmp 1)) (.q (some 131) none (.mov (.tmp 11)) (.q (some 132) none (.nc (.tmp 130)) (.q (some 133) none (.iadrA 64 1 (.tmp 132) (.tmp 131)) (.q (some 134) none (.ld1 (.tmp 133)) (.q (some 136) none (.mov (.tmp 12)) (.l (some 111) none (.call 47 [(.tmp 110), (.const (.int .i64 6))]) [⟨134, none, (.ld1 (.tmp 133))⟩, ⟨126, none, (.ld1 (.tmp 125))⟩, ⟨121, none, (.ld1 (.tmp 120))⟩, ⟨109, none, (.ld1 (.tmp 108))⟩] (.l (some 113) none (.call 47 [(.tmp 112), (.const (.int .i64 11))]) [⟨134, none, (.ld1 (.tmp 133))⟩, ⟨126, none, (.ld1 (.tmp 125))⟩, ⟨121, none, (.ld1 (.tmp 120))⟩, ⟨109, none, (.ld1 (.tmp 108))⟩] (.q (some 114) none (.bin .xor (.tmp 111) (.tmp 113)) (.l (some 116) none (.call 47 [(.tmp 115), (.const (.int .i64 25))]) [⟨134, none, (.ld1 (.tmp 133))⟩, ⟨126, none, (.ld1 (.tmp 125))⟩, ⟨121, none, (.ld1 (.tmp 120))⟩, ⟨109, none, (.ld1 (.tmp 108))⟩] (.q (some 117) none (.bin .xor (.tmp 114) (.tmp 116)) (.q (some 118) none (.bin .add (.tmp 109) (.tmp 117)) (.q (some 129) none (.bin .add (.tmp 118) (.tmp 128)) (.q (some 135) none (.bin .add (.tmp 129) (.tmp 134)) (.q (some 137) none (.bin .add (.tmp 135) (.tmp 136)) (.q (some 15) none (.mov (.tmp 137)) .done))))))))))))))))))))))))))))))) true 13 [0, 1, 10, 14, 15, 99, 100],
  .reg (.q (some 104) none (.iadrA 8 1 (.tmp 10) (.const (.int .i64 4))) (.q (some 105) none (.ld1 (.tmp 104)) (.q (some 106) none (.iadrA 8 1 (.tmp 10) (.const (.int .i64 0))) (.q (some 107) none (.ld1 (.tmp 106)) (.q (some 13) none (.mov (.tmp 105)) (.q (some 14) none (.mov (.tmp 107)) .done)))))) true 14 [0, 1, 10, 11, 12, 13, 14, 99, 100],
  .reg (.q (some 102) none (.mov (.tmp 100)) (.q (some 103) none (.idxA 64 1 false (.tmp 99) (.tmp 100)) (.q (some 11) none (.mov (.tmp 102)) (.q (some 12) none (.mov (.tmp 103)) .done)))) false 15 [0, 1, 10, 11, 12, 99, 100],
  .cnd (.tmp 101) 16 7,
  .reg (.q (some 101) none (.bin .lss (.tmp 100) (.const (.int .i64 64))) .done) false 17 [0, 1, 10, 99, 100, 101],
  .reg (.q (some 99) none (.ldN 64 (.tmp 6)) (.q (some 100) none (.mov (.const (.int .i64 0))) .done)) false 18 [0, 1, 10, 99, 100],
  .reg (.q (some 96) none (.mov (.tmp 0)) (.q (some 97) none (.nc (.tmp 96)) (.q (some 98) none (.ldN 8 (.tmp 97)) (.l (some 10) none (.alloc 29 [(8, (.int .u32 0))]) [] (.l none none (.stN 8 (.tmp 10) (.tmp 98)) [] .done))))) false 19 [0, 1, 6, 10],
  .jmp 30,
  .reg (.q (some 95) none (.bin .add (.tmp 18) (.const (.int .i64 1))) (.q (some 18) none (.mov (.tmp 95)) .done)) false 21 [0, 1, 2, 6, 18],
  .reg (.q (some 66) none (.mov (.tmp 7)) (.q (some 67) none (.mov (.tmp 7)) (.q (some 68) none (.bin .sub (.tmp 67) (.const (.int .i64 16))) (.q (some 69) none (.iadrA 64 1 (.tmp 6) (.tmp 68)) (.q (some 70) none (.ld1 (.tmp 69)) (.q (some 71) none (.mov (.tmp 7)) (.q (some 72) none (.bin .sub (.tmp 71) (.const (.int .i64 7))) (.q (some 73) none (.iadrA 64 1 (.tmp 6) (.tmp 72)) (.q (some 74) none (.ld1 (.tmp 73)) (.q (some 75) none (.bin .add (.tmp 70) (.tmp 74)) (.q (some 76) none (.mov (.tmp 8)) (.q (some 78) none (.mov (.tmp 8)) (.q (some 81) none (.mov (.tmp 8)) (.q (some 82) none (.bin .shr (.tmp 81) (.const (.int .u64 3))) (.q (some 85) none (.mov (.tmp 9)) (.q (some 87) none (.mov (.tmp 9)) (.q (some 90) none (.mov (.tmp 9)) (.q (some 91) none (.bin .shr (.tmp 90) (.const (.int .u64 10))) (.l (some 77) none (.call 47 [(.tmp 76), (.const (.int .i64 7))]) [⟨74, none, (.ld1 (.tmp 73))⟩, ⟨70, none, (.ld1 (.tmp 69))⟩] (.l (some 79) none (.call 47 [(.tmp 78), (.const (.int .i64 18))]) [⟨74, none, (.ld1 (.tmp 73))⟩, ⟨70, none, (.ld1 (.tmp 69))⟩] (.q (some 80) none (.bin .xor (.tmp 77) (.tmp 79)) (.q (some 83) none (.bin .xor (.tmp 80) (.tmp 82)) (.q (some 84) none (.bin .add (.tmp 75) (.tmp 83)) (.l (some 86) none (.call 47 [(.tmp 85), (.const (.int .i64 17))]) [⟨74, none, (.ld1 (.tmp 73))⟩, ⟨70, none, (.ld1 (.tmp 69))⟩] (.l (some 88) none (.call 47 [(.tmp 87), (.const (.int .i64 19))]) [⟨74, none, (.ld1 (.tmp 73))⟩, ⟨70, none, (.ld1 (.tmp 69))⟩] (.q (some 89) none (.bin .xor (.tmp 86) (.tmp 88)) (.q (some 92) none (.bin .xor (.tmp 89) (.tmp 91)) (.q (some 93) none (.bin .add (.tmp 84) (.tmp 92)) (.q (some 94) none (.iadrA 64 1 (.tmp 6) (.tmp 66)) (.l none none (.st1 (.tmp 94) (.tmp 93)) [] .done)))))))))))))))))))))))))))))) true 22 [0, 1, 2, 6, 18],
  .reg (.q (some 58) none (.mov (.tmp 7)) (.q (some 59) none (.bin .sub (.tmp 58) (.const (.int .i64 15))) (.q (some 60) none (.iadrA 64 1 (.tmp 6) (.tmp 59)) (.q (some 61) none (.ld1 (.tmp 60)) (.q (some 62) none (.mov (.tmp 7)) (.q (some 63) none (.bin .sub (.tmp 62) (.const (.int .i64 2))) (.q (some 64) none (.iadrA 64 1 (.tmp 6) (.tmp 63)) (.q (some 65) none (.ld1 (.tmp 64)) (.q (some 8) none (.mov (.tmp 61)) (.q (some 9) none (.mov (.tmp 65)) .done)))))))))) true 23 [0, 1, 2, 6, 7, 8, 9, 18],
  .reg (.q (some 23) none (.mov (.tmp 7)) (.q (some 24) none (.mov (.tmp 2)) (.q (some 25) none (.mov (.tmp 7)) (.q (some 26) none (.bin .mul (.const (.int .i64 4)) (.tmp 25)) (.q (some 27) none (.iadrS 1 (.tmp 24) (.tmp 26)) (.q (some 28) none (.ld1 (.tmp 27)) (.q (some 29) none (.cvi .u32 (.tmp 28)) (.q (some 30) none (.bin .shl (.tmp 29) (.const (.int .u64 24))) (.q (some 31) none (.mov (.tmp 2)) (.q (some 32) none (.mov (.tmp 7)) (.q (some 33) none (.bin .mul (.const (.int .i64 4)) (.tmp 32)) (.q (some 34) none (.bin .add (.tmp 33) (.const (.int .i64 1))) (.q (some 35) none (.iadrS 1 (.tmp 31) (.tmp 34)) (.q (some 36) none (.ld1 (.tmp 35)) (.q (some 37) none (.cvi .u32 (.tmp 36)) (.q (some 38) none (.bin .shl (.tmp 37) (.const (.int .u64 16))) (.q (some 39) none (.bin .or (.tmp 30) (.tmp 38)) (.q (some 40) none (.mov (.tmp 2)) (.q (some 41) none (.mov (.tmp 7)) (.q (some 42) none (.bin .mul (.const (.int .i64 4)) (.tmp 41)) (.q (some 43) none (.bin .add (.tmp 42) (.const (.int .i64 2))) (.q (some 44) none (.iadrS 1 (.tmp 40) (.tmp 43)) (.q (some 45) none (.ld1 (.tmp 44)) (.q (some 46) none (.cvi .u32 (.tmp 45)) (.q (some 47) none (.bin .shl (.tmp 46) (.const (.int .u64 8))) (.q (some 48) none (.bin .or (.tmp 39) (.tmp 47)) (.q (some 49) none (.mov (.tmp 2)) (.q (some 50) none (.mov (.tmp 7)) (.q (some 51) none (.bin .mul (.const (.int .i64 4)) (.tmp 50)) (.q (some 52) none (.bin .add (.tmp 51) (.const (.int .i64 3))) (.q (some 53) none (.iadrS 1 (.tmp 49) (.tmp 52)) (.q (some 54) none (.ld1 (.tmp 53)) (.q (some 55) none (.cvi .u32 (.tmp 54)) (.q (some 56) none (.bin .or (.tmp 48) (.tmp 55)) (.q (some 57) none (.iadrA 64 1 (.tmp 6) (.tmp 23)) (.l none none (.st1 (.tmp 57) (.tmp 56)) [] .done)))))))))))))))))))))))))))))))))))) true 22 [0, 1, 2, 6, 18],
  .cnd (.tmp 22) 25 24,
  .reg (.q (some 21) none (.mov (.tmp 7)) (.q (some 22) none (.bin .lss (.tmp 21) (.const (.int .i64 16))) .done)) false 26 [0, 1, 2, 6, 7, 18, 22],
  .reg (.q (some 20) none (.mov (.tmp 18)) (.q (some 7) none (.mov (.tmp 20)) .done)) false 27 [0, 1, 2, 6, 7, 18],
  .cnd (.tmp 19) 28 20,
  .reg (.q (some 19) none (.bin .lss (.tmp 18) (.const (.int .i64 64))) .done) false 29 [0, 1, 2, 6, 18, 19],
  .reg (.q (some 18) none (.mov (.const (.int .i64 0))) .done) false 30 [0, 1, 2, 6, 18],
  .reg (.l (some 6) none (.alloc 60 [(64, (.int .u32 0))]) [] .done) false 31 [0, 1, 2, 6]
  ]
theorem c28_ok : cfgL Try.prog 28 = some (190, 32, c28.map Vc.Node.bare) := by kernel_rfl
/- bytes.Clone: entry 7 -/
def c29 : List Vc.Node := [
  .ret [.t 2],
  .ret [.t 2],
  .reg (.l (some 5) none (.bldS 5 1 []) [] (.q (some 6) none (.mov (.tmp 0)) (.l (some 7) none (.app 5 1 1 [(1, (.int .u8 0))] (.tmp 5) (.tmp 6)) [] (.q (some 2) none (.mov (.tmp 7)) .done)))) false 1 [2],
  .ret [.t 2],
  .reg (.q (some 2) none (.mov (.const (.slice none 0 0))) .done) false 3 [2],
  .cnd (.tmp 4) 4 2,
  .reg (.q (some 3) none (.mov (.tmp 0)) (.q (some 4) none (.eqS false (.tmp 3) (.const (.slice none 0 0))) .done)) false 5 [0, 4],
  .reg (.q (some 2) none (.mov (.const (.slice none 0 0))) .done) false 6 [0]
  ]
theorem c29_ok : cfgL Try.prog 29 = some (8, 7, c29.map Vc.Node.bare) := by kernel_rfl
/- strongbox/strongboxref02.fill: entry 27 -/
def c30 : List Vc.Node := [
  .ret [.t 8],
  .ret [.t 8],
  .reg (.q (some 71) none (.mov (.tmp 9)) (.q (some 8) none (.mov (.tmp 71)) .done)) false 1 [8],
  .jmp 10,
  .reg (.q (some 51) none (.mov (.tmp 13)) (.q (some 52) none (.bin .add (.tmp 51) (.const (.int .i64 1))) (.q (some 13) none (.mov (.tmp 52)) .done))) false 3 [2, 3, 9, 11, 13],
  .reg (.q (some 54) none (.mov (.tmp 9)) (.q (some 55) none (.mov (.tmp 11)) (.q (some 56) none (.mov (.tmp 13)) (.q (some 57) none (.iadrS 1 (.tmp 55) (.tmp 56)) (.q (some 58) none (.ld1 (.tmp 57)) (.l (some 59) none (.bldS 5 1 [(.tmp 58)]) [] (.l (some 60) none (.app 5 1 1 [(1, (.int .u8 0))] (.tmp 54) (.tmp 59)) [] (.q (some 9) none (.mov (.tmp 60)) .done)))))))) false 4 [2, 3, 9, 11, 13],
  .reg (.q (some 61) none (.mov (.tmp 9)) (.q (some 62) none (.mov (.tmp 11)) (.q (some 63) none (.mov (.tmp 2)) (.q (some 64) none (.bin .sub (.tmp 63) (.const (.int .i64 1))) (.q (some 65) none (.mov (.tmp 13)) (.q (some 66) none (.bin .sub (.tmp 64) (.tmp 65)) (.q (some 67) none (.iadrS 1 (.tmp 62) (.tmp 66)) (.q (some 68) none (.ld1 (.tmp 67)) (.l (some 69) none (.bldS 5 1 [(.tmp 68)]) [] (.l (some 70) none (.app 5 1 1 [(1, (.int .u8 0))] (.tmp 61) (.tmp 69)) [] (.q (some 9) none (.mov (.tmp 70)) .done))))))))))) false 4 [2, 3, 9, 11, 13],
  .cnd (.tmp 53) 5 6,
  .reg (.q (some 53) none (.mov (.tmp 3)) .done) false 7 [2, 3, 9, 11, 13, 53],
  .cnd (.tmp 50) 8 2,
  .reg (.q (some 48) none (.mov (.tmp 13)) (.q (some 49) none (.mov (.tmp 2)) (.q (some 50) none (.bin .lss (.tmp 48) (.tmp 49)) .done))) false 9 [2, 3, 9, 11, 13, 50],
  .reg (.q (some 13) none (.mov (.const (.int .i64 0))) .done) false 10 [2, 3, 9, 11, 13],
  .jmp 17,
  .reg (.q (some 38) none (.mov (.tmp 12)) (.q (some 39) none (.bin .add (.tmp 38) (.const (.int .i64 1))) (.q (some 12) none (.mov (.tmp 39)) .done))) false 12 [2, 3, 9, 10, 11, 12],
  .reg (.q (some 46) none (.mov (.tmp 10)) (.q (some 47) none (.bin .quo (.tmp 46) (.const (.int .u64 256))) (.q (some 10) none (.mov (.tmp 47)) .done))) false 13 [2, 3, 9, 10, 11, 12],
  .reg (.q (some 40) none (.mov (.tmp 11)) (.q (some 41) none (.mov (.tmp 10)) (.q (some 42) none (.bin .rem (.tmp 41) (.const (.int .u64 256))) (.q (some 43) none (.cvi .u8 (.tmp 42)) (.l (some 44) none (.bldS 5 1 [(.tmp 43)]) [] (.l (some 45) none (.app 5 1 1 [(1, (.int .u8 0))] (.tmp 40) (.tmp 44)) [] (.q (some 11) none (.mov (.tmp 45)) .done))))))) false 14 [2, 3, 9, 10, 11, 12],
  .cnd (.tmp 37) 15 11,
  .reg (.q (some 35) none (.mov (.tmp 12)) (.q (some 36) none (.mov (.tmp 2)) (.q (some 37) none (.bin .lss (.tmp 35) (.tmp 36)) .done))) false 16 [2, 3, 9, 10, 11, 12, 37],
  .reg (.q (some 12) none (.mov (.const (.int .i64 0))) .done) false 17 [2, 3, 9, 10, 11, 12],
  .reg (.q (some 11) none (.mov (.const (.slice none 0 0))) .done) false 18 [2, 3, 9, 10, 11],
  .reg (.q (some 31) none (.mov (.tmp 0)) (.q (some 32) none (.len (.tmp 31)) (.q (some 33) none (.cvi .u64 (.tmp 32)) (.q (some 34) none (.bin .mul (.tmp 33) (.const (.int .u64 8))) (.q (some 10) none (.mov (.tmp 34)) .done))))) false 19 [2, 3, 9, 10],
  .jmp 24,
  .reg (.q (some 28) none (.mov (.tmp 9)) (.l (some 29) none (.bldS 5 1 [(.const (.int .u8 0))]) [] (.l (some 30) none (.app 5 1 1 [(1, (.int .u8 0))] (.tmp 28) (.tmp 29)) [] (.q (some 9) none (.mov (.tmp 30)) .done)))) false 21 [0, 1, 2, 3, 9],
  .cnd (.tmp 27) 22 20,
  .reg (.q (some 20) none (.mov (.tmp 9)) (.q (some 21) none (.len (.tmp 20)) (.q (some 22) none (.mov (.tmp 1)) (.q (some 23) none (.bin .rem (.tmp 21) (.tmp 22)) (.q (some 24) none (.mov (.tmp 1)) (.q (some 25) none (.mov (.tmp 2)) (.q (some 26) none (.bin .sub (.tmp 24) (.tmp 25)) (.q (some 27) none (.bin .neq (.tmp 23) (.tmp 26)) .done)))))))) false 23 [0, 1, 2, 3, 9, 27],
  .reg (.q (some 17) none (.mov (.tmp 9)) (.l (some 18) none (.bldS 5 1 [(.const (.int .u8 128))]) [] (.l (some 19) none (.app 5 1 1 [(1, (.int .u8 0))] (.tmp 17) (.tmp 18)) [] (.q (some 9) none (.mov (.tmp 19)) .done)))) false 24 [0, 1, 2, 3, 9],
  .reg (.l (some 14) none (.bldS 5 1 []) [] (.q (some 15) none (.mov (.tmp 0)) (.l (some 16) none (.app 5 1 1 [(1, (.int .u8 0))] (.tmp 14) (.tmp 15)) [] (.q (some 9) none (.mov (.tmp 16)) .done)))) false 25 [0, 1, 2, 3, 9],
  .reg (.q (some 8) none (.mov (.const (.slice none 0 0))) .done) false 26 [0, 1, 2, 3]
  ]
theorem c30_ok : cfgL Try.prog 30 = some (72, 27, c30.map Vc.Node.bare) := by kernel_rfl
/- strongbox/strongboxref02.rot: entry 3 -/
def c31 : List Vc.Node := [
  .ret [.t 4],
  .ret [.t 4],
  .reg (.q (some 5) none (.mov (.tmp 0)) (.q (some 6) none (.mov (.tmp 1)) (.q (some 7) none (.cvi .u64 (.tmp 6)) (.q (some 8) none (.bin .shl (.tmp 5) (.tmp 7)) (.q (some 9) none (.mov (.tmp 0)) (.q (some 10) none (.mov (.tmp 1)) (.q (some 11) none (.bin .sub (.const (.int .i64 32)) (.tmp 10)) (.q (some 12) none (.cvi .u64 (.tmp 11)) (.q (some 13) none (.bin .shr (.tmp 9) (.tmp 12)) (.q (some 14) none (.bin .or (.tmp 8) (.tmp 13)) (.q (some 4) none (.mov (.tmp 14)) .done))))))))))) false 1 [4],
  .reg (.q (some 4) none (.mov (.const (.int .u32 0))) .done) false 2 [0, 1]
  ]
theorem c31_ok : cfgL Try.prog 31 = some (15, 3, c31.map Vc.Node.bare) := by kernel_rfl
/- slices.Clone[[]byte,byte]: entry 7 -/
def c32 : List Vc.Node := [
  .ret [.t 2],
  .ret [.t 2],
  .reg (.l (some 5) none (.bldS 5 1 []) [] (.q (some 6) none (.mov (.tmp 0)) (.l (some 7) none (.app 5 1 1 [(1, (.int .u8 0))] (.tmp 5) (.tmp 6)) [] (.q (some 2) none (.mov (.tmp 7)) .done)))) false 1 [2],
  .ret [.t 2],
  .reg (.q (some 2) none (.mov (.const (.slice none 0 0))) .done) false 3 [2],
  .cnd (.tmp 4) 4 2,
  .reg (.q (some 3) none (.mov (.tmp 0)) (.q (some 4) none (.eqS false (.tmp 3) (.const (.slice none 0 0))) .done)) false 5 [0, 4],
  .reg (.q (some 2) none (.mov (.const (.slice none 0 0))) .done) false 6 [0]
  ]
theorem c32_ok : cfgL Try.prog 32 = some (8, 7, c32.map Vc.Node.bare) := by kernel_rfl
/- strongbox/hash.tail: entry 16 -/
def c33 : List Vc.Node := [
  .ret [.t 6],
  .ret [.t 6],
  .reg (.q (some 56) none (.mov (.tmp 8)) (.q (some 6) none (.mov (.tmp 56)) .done)) false 1 [6],
  .reg (.q (some 48) none (.mov (.tmp 8)) (.q (some 49) none (.mov (.tmp 8)) (.q (some 50) none (.len (.tmp 49)) (.q (some 51) none (.bin .sub (.tmp 50) (.const (.int .i64 9))) (.q (some 52) none (.mov (.tmp 0)) (.q (some 53) none (.bin .shr (.tmp 52) (.const (.int .u64 61))) (.q (some 54) none (.cvi .u8 (.tmp 53)) (.q (some 55) none (.iadrS 1 (.tmp 48) (.tmp 51)) (.l none none (.st1 (.tmp 55) (.tmp 54)) [] .done))))))))) false 2 [8],
  .cnd (.tmp 47) 3 2,
  .reg (.q (some 46) none (.mov (.tmp 2)) (.q (some 47) none (.bin .gtr (.tmp 46) (.const (.int .i64 8))) .done)) false 4 [0, 8, 47],
  .jmp 11,
  .reg (.q (some 45) none (.bin .add (.tmp 29) (.const (.int .i64 1))) (.q (some 29) none (.mov (.tmp 45)) .done)) false 6 [0, 2, 8, 29],
  .reg (.q (some 32) none (.mov (.tmp 8)) (.q (some 33) none (.mov (.tmp 8)) (.q (some 34) none (.len (.tmp 33)) (.q (some 35) none (.bin .sub (.tmp 34) (.const (.int .i64 1))) (.q (some 36) none (.mov (.tmp 9)) (.q (some 37) none (.bin .sub (.tmp 35) (.tmp 36)) (.q (some 38) none (.mov (.tmp 0)) (.q (some 39) none (.bin .shl (.tmp 38) (.const (.int .u64 3))) (.q (some 40) none (.mov (.tmp 9)) (.q (some 41) none (.bin .mul (.const (.int .i64 8)) (.tmp 40)) (.q (some 42) none (.bin .shr (.tmp 39) (.tmp 41)) (.q (some 43) none (.cvi .u8 (.tmp 42)) (.q (some 44) none (.iadrS 1 (.tmp 32) (.tmp 37)) (.l none none (.st1 (.tmp 44) (.tmp 43)) [] .done)))))))))))))) false 7 [0, 2, 8, 29],
  .reg (.q (some 31) none (.mov (.tmp 29)) (.q (some 9) none (.mov (.tmp 31)) .done)) false 8 [0, 2, 8, 9, 29],
  .cnd (.tmp 30) 9 5,
  .reg (.q (some 30) none (.bin .lss (.tmp 29) (.const (.int .i64 8))) .done) false 10 [0, 2, 8, 29, 30],
  .reg (.q (some 29) none (.mov (.const (.int .i64 0))) .done) false 11 [0, 2, 8, 29],
  .reg (.q (some 27) none (.mov (.tmp 8)) (.q (some 28) none (.iadrS 1 (.tmp 27) (.const (.int .i64 0))) (.l none none (.st1 (.tmp 28) (.const (.int .u8 128))) [] .done))) false 12 [0, 2, 8],
  .reg (.q (some 22) none (.mov (.tmp 7)) (.q (some 23) none (.bin .add (.const (.int .i64 1)) (.tmp 22)) (.q (some 24) none (.mov (.tmp 2)) (.q (some 25) none (.bin .add (.tmp 23) (.tmp 24)) (.l (some 26) none (.mkS 5 1 1 [(1, (.int .u8 0))] (.tmp 25) (.tmp 25)) [] (.q (some 8) none (.mov (.tmp 26)) .done)))))) false 13 [0, 2, 8],
  .reg (.q (some 10) none (.mov (.tmp 1)) (.q (some 11) none (.bin .sub (.tmp 10) (.const (.int .i64 1))) (.q (some 12) none (.mov (.tmp 0)) (.q (some 13) none (.mov (.tmp 1)) (.q (some 14) none (.cvi .u64 (.tmp 13)) (.q (some 15) none (.bin .rem (.tmp 12) (.tmp 14)) (.q (some 16) none (.cvi .i64 (.tmp 15)) (.q (some 17) none (.mov (.tmp 2)) (.q (some 18) none (.bin .add (.tmp 16) (.tmp 17)) (.q (some 19) none (.mov (.tmp 1)) (.q (some 20) none (.bin .rem (.tmp 18) (.tmp 19)) (.q (some 21) none (.bin .sub (.tmp 11) (.tmp 20)) (.q (some 7) none (.mov (.tmp 21)) .done))))))))))))) false 14 [0, 2, 7],
  .reg (.q (some 6) none (.mov (.const (.slice none 0 0))) .done) false 15 [0, 1, 2]
  ]
theorem c33_ok : cfgL Try.prog 33 = some (57, 16, c33.map Vc.Node.bare) := by kernel_rfl
/- strings.IndexByte: entry 3 -/
def c34 : List Vc.Node := [
  .ret [.t 4],
  .ret [.t 4],
  .reg (.q (some 5) none (.mov (.tmp 0)) (.q (some 6) none (.mov (.tmp 1)) (.l (some 7) none (.call 48 [(.tmp 5), (.tmp 6)]) [] (.q (some 4) none (.mov (.tmp 7)) .done)))) false 1 [4],
  .reg (.q (some 4) none (.mov (.const (.int .i64 0))) .done) false 2 [0, 1]
  ]
theorem c34_ok : cfgL Try.prog 34 = some (8, 3, c34.map Vc.Node.bare) := by kernel_rfl
/- slices.Backward[[]byte,byte]: entry 3 -/
def c35 : List Vc.Node := [
  .ret [.t 2],
  .ret [.t 2],
  .reg (.q (some 3) none (.mkF 49 [] [(.tmp 1)]) (.q (some 2) none (.mov (.tmp 3)) .done)) false 1 [2],
  .reg (.l (some 1) none (.box 24 (.tmp 0)) [] (.q (some 2) none (.mov (.const .nilFunc)) .done)) false 2 [1]
  ]
theorem c35_ok : cfgL Try.prog 35 = some (4, 3, c35.map Vc.Node.bare) := by kernel_rfl
/- (*strings.Builder).WriteByte: entry 5 -/
def c36 : List Vc.Node := [
  .ret [.t 4],
  .ret [.t 4],
  .reg (.q (some 4) none (.mov (.const .nilIface)) .done) false 1 [4],
  .reg (.q (some 7) none (.mov (.tmp 0)) (.q (some 8) none (.mov (.tmp 0)) (.q (some 9) none (.nc (.tmp 8)) (.q (some 10) none (.fadr 1 (.tmp 9)) (.q (some 11) none (.ld1 (.tmp 10)) (.q (some 12) none (.mov (.tmp 1)) (.l (some 13) none (.bldS 5 1 [(.tmp 12)]) [] (.l (some 14) none (.app 5 1 1 [(1, (.int .u8 0))] (.tmp 11) (.tmp 13)) [] (.q (some 15) none (.nc (.tmp 7)) (.q (some 16) none (.fadr 1 (.tmp 15)) (.l none none (.st1 (.tmp 16) (.tmp 14)) [] .done))))))))))) false 2 [],
  .reg (.q (some 5) none (.mov (.tmp 0)) (.l (some 6) none (.call 50 [(.tmp 5)]) [] .done)) false 3 [0, 1],
  .reg (.q (some 4) none (.mov (.const .nilIface)) .done) false 4 [0, 1]
  ]
theorem c36_ok : cfgL Try.prog 36 = some (17, 5, c36.map Vc.Node.bare) := by kernel_rfl
/- (*strings.Builder).String: entry 3 -/
def c37 : List Vc.Node := [
  .ret [.t 2],
  .ret [.t 2],
  .reg (.q (some 3) none (.mov (.tmp 0)) (.q (some 4) none (.nc (.tmp 3)) (.q (some 5) none (.fadr 1 (.tmp 4)) (.q (some 6) none (.ld1 (.tmp 5)) (.q (some 8) none (.mov (.tmp 0)) (.q (some 9) none (.nc (.tmp 8)) (.q (some 10) none (.fadr 1 (.tmp 9)) (.q (some 11) none (.ld1 (.tmp 10)) (.q (some 12) none (.len (.tmp 11)) (.l (some 7) none (.bix .unsafeSliceData [24] 93 [false] [(.tmp 6)]) [⟨11, none, (.ld1 (.tmp 10))⟩] (.l (some 13) none (.bix .unsafeString [93, 3] 9 [false, false] [(.tmp 7), (.tmp 12)]) [] (.q (some 2) none (.mov (.tmp 13)) .done)))))))))))) true 1 [2],
  .reg (.q (some 2) none (.mov (.const (.string ⟨#[]⟩))) .done) false 2 [0]
  ]
theorem c37_ok : cfgL Try.prog 37 = some (14, 3, c37.map Vc.Node.bare) := by kernel_rfl
/- strongbox/wire.try[[]byte]: entry 8 -/
def c38 : List Vc.Node := [
  .ret [.c1 4],
  .ret [.c1 4],
  .reg (.q (some 16) none (.mov (.tmp 1)) (.q (some 17) none (.ld1 (.tmp 2)) (.l (some 18) none (.callv (.tmp 16) [(.tmp 17)]) [] (.l none none (.st1 (.tmp 4) (.tmp 18)) [] .done)))) false 1 [4],
  .ret [.c1 4],
  .cnd (.tmp 15) 3 2,
  .reg (.q (some 11) none (.ld1 (.tmp 2)) (.q (some 12) none (.nc (.tmp 11)) (.q (some 13) none (.fadr 1 (.tmp 12)) (.q (some 14) none (.ld1 (.tmp 13)) (.q (some 15) none (.bin .neq (.tmp 14) (.const (.int .i64 0))) .done))))) false 4 [1, 2, 4, 15],
  .dfr 10 51 [(.tmp 5), (.tmp 2), (.tmp 4)] 5 [1, 2, 4],
  .reg (.q (some 6) none (.ld1 (.tmp 2)) (.q (some 7) none (.nc (.tmp 6)) (.q (some 8) none (.fadr 0 (.tmp 7)) (.q (some 9) none (.ld1 (.tmp 8)) (.l (some 5) none (.alloc 24 [(1, (.slice none 0 0))]) [] (.l none none (.st1 (.tmp 5) (.tmp 9)) [] .done)))))) false 6 [1, 2, 4, 5],
  .reg (.l (some 2) none (.box 48 (.tmp 0)) [] (.l (some 4) none (.alloc 24 [(1, (.slice none 0 0))]) [] .done)) false 7 [1, 2, 4]
  ]
theorem c38_ok : cfgL Try.prog 38 = some (19, 8, c38.map Vc.Node.bare) := by kernel_rfl
/- (*strongbox/wire.Reader).Bytes$1: entry 7 -/
def c39 : List Vc.Node := [
  .ret [.t 3],
  .ret [.t 3],
  .reg (.q (some 12) none (.mov (.tmp 0)) (.q (some 13) none (.mov (.tmp 4)) (.l (some 14) none (.call 41 [(.tmp 12), (.tmp 13)]) [] (.l (some 15) none (.call 29 [(.tmp 14)]) [] (.q (some 3) none (.mov (.tmp 15)) .done))))) false 1 [3],
  .reg (.q (some 11) none (.mif 82 (.const (.int .i64 2))) (.l none none (.pan (.tmp 11)) [] .done)) false 2 [0, 4],
  .cnd (.tmp 10) 3 2,
  .reg (.q (some 8) none (.mov (.tmp 4)) (.q (some 9) none (.ld1 (.tmp 1)) (.q (some 10) none (.bin .gtr (.tmp 8) (.tmp 9)) .done))) false 4 [0, 4, 10],
  .reg (.q (some 5) none (.mov (.tmp 0)) (.l (some 6) none (.call 40 [(.tmp 5)]) [] (.q (some 7) none (.cvi .i64 (.tmp 6)) (.q (some 4) none (.mov (.tmp 7)) .done)))) false 5 [0, 1, 4],
  .reg (.q (some 3) none (.mov (.const (.slice none 0 0))) .done) false 6 [0, 1]
  ]
theorem c39_ok : cfgL Try.prog 39 = some (16, 7, c39.map Vc.Node.bare) := by kernel_rfl
/- (*strongbox/wire.Reader).size: entry 15 -/
def c40 : List Vc.Node := [
  .ret [.t 2],
  .ret [.t 2],
  .reg (.q (some 26) none (.mov (.tmp 4)) (.q (some 2) none (.mov (.tmp 26)) .done)) false 1 [2],
  .reg (.q (some 25) none (.mif 82 (.const (.int .i64 2))) (.l none none (.pan (.tmp 25)) [] .done)) false 2 [4],
  .cnd (.tmp 24) 3 2,
  .reg (.q (some 23) none (.mov (.tmp 4)) (.q (some 24) none (.bin .gtr (.tmp 23) (.const (.int .u64 33554432))) .done)) false 4 [4, 24],
  .reg (.q (some 22) none (.mif 82 (.const (.int .i64 3))) (.l none none (.pan (.tmp 22)) [] .done)) false 5 [4],
  .cnd (.tmp 21) 6 5,
  .reg (.q (some 15) none (.mov (.tmp 4)) (.l (some 16) none (.call 52 [(.tmp 15)]) [] (.q (some 17) none (.mov (.tmp 3)) (.q (some 18) none (.bin .sub (.tmp 17) (.const (.int .u64 253))) (.q (some 19) none (.bin .shl (.const (.int .i64 2)) (.tmp 18)) (.q (some 20) none (.bin .add (.const (.int .i64 1)) (.tmp 19)) (.q (some 21) none (.bin .neq (.tmp 16) (.tmp 20)) .done))))))) false 7 [4, 21],
  .reg (.q (some 10) none (.mov (.tmp 0)) (.q (some 11) none (.mov (.tmp 3)) (.q (some 12) none (.bin .sub (.tmp 11) (.const (.int .u64 253))) (.q (some 13) none (.bin .shl (.const (.int .i64 2)) (.tmp 12)) (.l (some 14) none (.call 44 [(.tmp 10), (.tmp 13)]) [] (.q (some 4) none (.mov (.tmp 14)) .done)))))) false 8 [3, 4],
  .ret [.t 2],
  .reg (.q (some 9) none (.mov (.tmp 3)) (.q (some 2) none (.mov (.tmp 9)) .done)) false 10 [2],
  .cnd (.tmp 8) 11 9,
  .reg (.q (some 7) none (.mov (.tmp 3)) (.q (some 8) none (.bin .lss (.tmp 7) (.const (.int .u64 253))) .done)) false 12 [0, 3, 8],
  .reg (.q (some 5) none (.mov (.tmp 0)) (.l (some 6) none (.call 44 [(.tmp 5), (.const (.int .i64 1))]) [] (.q (some 3) none (.mov (.tmp 6)) .done))) false 13 [0, 3],
  .reg (.q (some 2) none (.mov (.const (.int .u64 0))) .done) false 14 [0]
  ]
theorem c40_ok : cfgL Try.prog 40 = some (27, 15, c40.map Vc.Node.bare) := by kernel_rfl
/- (*strongbox/wire.Reader).take: entry 8 -/
def c41 : List Vc.Node := [
  .ret [.t 4],
  .ret [.t 4],
  .reg (.q (some 29) none (.mov (.tmp 5)) (.q (some 4) none (.mov (.tmp 29)) .done)) false 1 [4],
  .reg (.q (some 20) none (.mov (.tmp 0)) (.q (some 21) none (.mov (.tmp 0)) (.q (some 22) none (.nc (.tmp 21)) (.q (some 23) none (.fadr 0 (.tmp 22)) (.q (some 24) none (.ld1 (.tmp 23)) (.q (some 25) none (.mov (.tmp 1)) (.q (some 26) none (.slcS 1 (.tmp 24) (some (.tmp 25)) none) (.q (some 27) none (.nc (.tmp 20)) (.q (some 28) none (.fadr 0 (.tmp 27)) (.l none none (.st1 (.tmp 28) (.tmp 26)) [] .done)))))))))) false 2 [5],
  .reg (.q (some 14) none (.mov (.tmp 0)) (.q (some 15) none (.nc (.tmp 14)) (.q (some 16) none (.fadr 0 (.tmp 15)) (.q (some 17) none (.ld1 (.tmp 16)) (.q (some 18) none (.mov (.tmp 1)) (.q (some 19) none (.slcS 1 (.tmp 17) none (some (.tmp 18))) (.q (some 5) none (.mov (.tmp 19)) .done))))))) false 3 [0, 1, 5],
  .reg (.q (some 13) none (.mif 82 (.const (.int .i64 4))) (.l none none (.pan (.tmp 13)) [] .done)) false 4 [0, 1],
  .cnd (.tmp 12) 5 4,
  .reg (.q (some 6) none (.mov (.tmp 1)) (.q (some 7) none (.mov (.tmp 0)) (.q (some 8) none (.nc (.tmp 7)) (.q (some 9) none (.fadr 0 (.tmp 8)) (.q (some 10) none (.ld1 (.tmp 9)) (.q (some 11) none (.len (.tmp 10)) (.q (some 12) none (.bin .gtr (.tmp 6) (.tmp 11)) .done))))))) false 6 [0, 1, 12],
  .reg (.q (some 4) none (.mov (.const (.slice none 0 0))) .done) false 7 [0, 1]
  ]
theorem c41_ok : cfgL Try.prog 41 = some (30, 8, c41.map Vc.Node.bare) := by kernel_rfl
/- strongbox/wire.try[uint64]: entry 8 -/
def c42 : List Vc.Node := [
  .ret [.c1 4],
  .ret [.c1 4],
  .reg (.q (some 16) none (.mov (.tmp 1)) (.q (some 17) none (.ld1 (.tmp 2)) (.l (some 18) none (.callv (.tmp 16) [(.tmp 17)]) [] (.l none none (.st1 (.tmp 4) (.tmp 18)) [] .done)))) false 1 [4],
  .ret [.c1 4],
  .cnd (.tmp 15) 3 2,
  .reg (.q (some 11) none (.ld1 (.tmp 2)) (.q (some 12) none (.nc (.tmp 11)) (.q (some 13) none (.fadr 1 (.tmp 12)) (.q (some 14) none (.ld1 (.tmp 13)) (.q (some 15) none (.bin .neq (.tmp 14) (.const (.int .i64 0))) .done))))) false 4 [1, 2, 4, 15],
  .dfr 10 53 [(.tmp 5), (.tmp 2), (.tmp 4)] 5 [1, 2, 4],
  .reg (.q (some 6) none (.ld1 (.tmp 2)) (.q (some 7) none (.nc (.tmp 6)) (.q (some 8) none (.fadr 0 (.tmp 7)) (.q (some 9) none (.ld1 (.tmp 8)) (.l (some 5) none (.alloc 24 [(1, (.slice none 0 0))]) [] (.l none none (.st1 (.tmp 5) (.tmp 9)) [] .done)))))) false 6 [1, 2, 4, 5],
  .reg (.l (some 2) none (.box 48 (.tmp 0)) [] (.l (some 4) none (.alloc 30 [(1, (.int .u64 0))]) [] .done)) false 7 [1, 2, 4]
  ]
theorem c42_ok : cfgL Try.prog 42 = some (19, 8, c42.map Vc.Node.bare) := by kernel_rfl
/- (*strongbox/wire.Reader).U64$1: entry 3 -/
def c43 : List Vc.Node := [
  .ret [.t 2],
  .ret [.t 2],
  .reg (.q (some 3) none (.mov (.tmp 0)) (.l (some 4) none (.call 44 [(.tmp 3), (.const (.int .i64 8))]) [] (.q (some 2) none (.mov (.tmp 4)) .done))) false 1 [2],
  .reg (.q (some 2) none (.mov (.const (.int .u64 0))) .done) false 2 [0]
  ]
theorem c43_ok : cfgL Try.prog 43 = some (5, 3, c43.map Vc.Node.bare) := by kernel_rfl
/- (*strongbox/wire.Reader).number: entry 11 -/
def c44 : List Vc.Node := [
  .ret [.t 4],
  .ret [.t 4],
  .reg (.q (some 25) none (.mov (.tmp 5)) (.q (some 4) none (.mov (.tmp 25)) .done)) false 1 [4],
  .jmp 8,
  .reg (.q (some 24) none (.bin .add (.tmp 12) (.const (.int .i64 1))) (.q (some 12) none (.mov (.tmp 24)) .done)) false 3 [5, 10, 11, 12],
  .reg (.q (some 17) none (.mov (.tmp 5)) (.q (some 18) none (.mov (.tmp 7)) (.q (some 19) none (.cvi .u64 (.tmp 18)) (.q (some 20) none (.mov (.tmp 6)) (.q (some 21) none (.bin .mul (.const (.int .i64 8)) (.tmp 20)) (.q (some 22) none (.bin .shl (.tmp 19) (.tmp 21)) (.q (some 23) none (.bin .or (.tmp 17) (.tmp 22)) (.q (some 5) none (.mov (.tmp 23)) .done)))))))) false 4 [5, 10, 11, 12],
  .reg (.q (some 14) none (.mov (.tmp 12)) (.q (some 15) none (.iadrS 1 (.tmp 10) (.tmp 12)) (.q (some 16) none (.ld1 (.tmp 15)) (.q (some 6) none (.mov (.tmp 14)) (.q (some 7) none (.mov (.tmp 16)) .done))))) false 5 [5, 6, 7, 10, 11, 12],
  .cnd (.tmp 13) 6 2,
  .reg (.q (some 13) none (.bin .lss (.tmp 12) (.tmp 11)) .done) false 7 [5, 10, 11, 12, 13],
  .reg (.q (some 8) none (.mov (.tmp 0)) (.q (some 9) none (.mov (.tmp 1)) (.l (some 10) none (.call 41 [(.tmp 8), (.tmp 9)]) [] (.q (some 11) none (.len (.tmp 10)) (.q (some 12) none (.mov (.const (.int .i64 0))) .done))))) false 8 [5, 10, 11, 12],
  .reg (.q (some 5) none (.mov (.const (.int .u64 0))) .done) false 9 [0, 1, 5],
  .reg (.q (some 4) none (.mov (.const (.int .u64 0))) .done) false 10 [0, 1]
  ]
theorem c44_ok : cfgL Try.prog 44 = some (26, 11, c44.map Vc.Node.bare) := by kernel_rfl
/- strongbox/wire.wide: entry 15 -/
def c45 : List Vc.Node := [
  .ret [.t 2],
  .ret [.t 2],
  .reg (.q (some 2) none (.mov (.const (.int .i64 8))) .done) false 1 [2],
  .ret [.t 2],
  .reg (.q (some 2) none (.mov (.const (.int .i64 0))) .done) false 3 [2],
  .ret [.t 2],
  .reg (.q (some 2) none (.mov (.const (.int .i64 2))) .done) false 5 [2],
  .ret [.t 2],
  .reg (.q (some 2) none (.mov (.const (.int .i64 4))) .done) false 7 [2],
  .cnd (.tmp 9) 8 2,
  .reg (.q (some 10) none (.mov (.tmp 0)) (.q (some 11) none (.bin .lss (.tmp 10) (.const (.int .u64 4294967296))) (.q (some 9) none (.mov (.tmp 11)) .done))) false 9 [9],
  .cnd (.tmp 6) 6 10,
  .reg (.q (some 7) none (.mov (.tmp 0)) (.q (some 8) none (.bin .lss (.tmp 7) (.const (.int .u64 65536))) (.q (some 6) none (.mov (.tmp 8)) .done))) false 11 [0, 6],
  .cnd (.tmp 3) 4 12,
  .reg (.q (some 4) none (.mov (.tmp 0)) (.q (some 5) none (.bin .lss (.tmp 4) (.const (.int .u64 253))) (.q (some 3) none (.mov (.tmp 5)) .done))) false 13 [0, 3],
  .reg (.q (some 2) none (.mov (.const (.int .i64 0))) .done) false 14 [0]
  ]
theorem c45_ok : cfgL Try.prog 45 = some (12, 15, c45.map Vc.Node.bare) := by kernel_rfl
/- (*strongbox/wire.Writer).U8: entry 1 -/
def c46 : List Vc.Node := [
  .ret [],
  .reg (.q (some 4) none (.mov (.tmp 0)) (.q (some 5) none (.mov (.tmp 1)) (.q (some 6) none (.cvi .u64 (.tmp 5)) (.l (some 7) none (.call 24 [(.tmp 4), (.tmp 6), (.const (.int .i64 1))]) [] .done)))) false 0 []
  ]
theorem c46_ok : cfgL Try.prog 46 = some (8, 1, c46.map Vc.Node.bare) := by kernel_rfl
/- strongbox/hash.right: entry 3 -/
def c47 : List Vc.Node := [
  .ret [.t 4],
  .ret [.t 4],
  .reg (.q (some 5) none (.mov (.tmp 0)) (.q (some 6) none (.mov (.tmp 1)) (.q (some 7) none (.neg (.tmp 6)) (.l (some 8) none (.call 54 [(.tmp 5), (.tmp 7)]) [] (.q (some 4) none (.mov (.tmp 8)) .done))))) false 1 [4],
  .reg (.q (some 4) none (.mov (.const (.int .u32 0))) .done) false 2 [0, 1]
  ]
theorem c47_ok : cfgL Try.prog 47 = some (9, 3, c47.map Vc.Node.bare) := by kernel_rfl
/- internal/stringslite.IndexByte: entry 3 -/
def c48 : List Vc.Node := [
  .ret [.t 4],
  .ret [.t 4],
  .reg (.q (some 5) none (.mov (.tmp 0)) (.q (some 6) none (.mov (.tmp 1)) (.l (some 7) none (.callx 55 [(.tmp 5), (.tmp 6)]) [] (.q (some 4) none (.mov (.tmp 7)) .done)))) false 1 [4],
  .reg (.q (some 4) none (.mov (.const (.int .i64 0))) .done) false 2 [0, 1]
  ]
theorem c48_ok : cfgL Try.prog 48 = some (8, 3, c48.map Vc.Node.bare) := by kernel_rfl
/- slices.Backward[[]byte,byte]$1: entry 8 -/
def c49 : List Vc.Node := [
  .ret [],
  .jmp 7,
  .reg (.q (some 9) none (.mov (.tmp 3)) (.q (some 10) none (.bin .sub (.tmp 9) (.const (.int .i64 1))) (.q (some 3) none (.mov (.tmp 10)) .done))) false 1 [0, 1, 3],
  .ret [],
  .cnd (.tmp 18) 3 2,
  .reg (.q (some 11) none (.mov (.tmp 0)) (.q (some 12) none (.mov (.tmp 3)) (.q (some 13) none (.ld1 (.tmp 1)) (.q (some 14) none (.mov (.tmp 3)) (.q (some 15) none (.iadrS 1 (.tmp 13) (.tmp 14)) (.q (some 16) none (.ld1 (.tmp 15)) (.l (some 17) none (.callv (.tmp 11) [(.tmp 12), (.tmp 16)]) [] (.q (some 18) none (.not (.tmp 17)) .done)))))))) false 4 [0, 1, 3, 18],
  .cnd (.tmp 8) 5 0,
  .reg (.q (some 7) none (.mov (.tmp 3)) (.q (some 8) none (.bin .geq (.tmp 7) (.const (.int .i64 0))) .done)) false 6 [0, 1, 3, 8],
  .reg (.q (some 4) none (.ld1 (.tmp 1)) (.q (some 5) none (.len (.tmp 4)) (.q (some 6) none (.bin .sub (.tmp 5) (.const (.int .i64 1))) (.q (some 3) none (.mov (.tmp 6)) .done)))) false 7 [0, 1, 3]
  ]
theorem c49_ok : cfgL Try.prog 49 = some (19, 8, c49.map Vc.Node.bare) := by kernel_rfl
/- (*strings.Builder).copyCheck: entry 6 -/
def c50 : List Vc.Node := [
  .ret [],
  .reg (.q (some 7) none (.mov (.tmp 0)) (.q (some 8) none (.mov (.tmp 0)) (.l (some 9) none (.cvx 69 95 (.tmp 8)) [] (.l (some 10) none (.callx 56 [(.tmp 9)]) [] (.l (some 11) none (.cvx 95 69 (.tmp 10)) [] (.q (some 12) none (.nc (.tmp 7)) (.q (some 13) none (.fadr 0 (.tmp 12)) (.l none none (.st1 (.tmp 13) (.tmp 11)) [] .done)))))))) false 0 [],
  .bad,
  .cnd (.tmp 19) 2 0,
  .reg (.q (some 14) none (.mov (.tmp 0)) (.q (some 15) none (.nc (.tmp 14)) (.q (some 16) none (.fadr 0 (.tmp 15)) (.q (some 17) none (.ld1 (.tmp 16)) (.q (some 18) none (.mov (.tmp 0)) (.q (some 19) none (.eqP true (.tmp 17) (.tmp 18)) .done)))))) false 3 [19],
  .cnd (.tmp 6) 1 4,
  .reg (.q (some 2) none (.mov (.tmp 0)) (.q (some 3) none (.nc (.tmp 2)) (.q (some 4) none (.fadr 0 (.tmp 3)) (.q (some 5) none (.ld1 (.tmp 4)) (.q (some 6) none (.eqP false (.tmp 5) (.const (.pointer none))) .done))))) false 5 [0, 6]
  ]
theorem c50_ok : cfgL Try.prog 50 = some (20, 6, c50.map Vc.Node.bare) := by kernel_rfl
/- strongbox/wire.try[[]byte]$1: entry 9 -/
def c51 : List Vc.Node := [
  .ret [],
  .reg (.q (some 18) none (.ld1 (.tmp 1)) (.q (some 19) none (.ld1 (.tmp 1)) (.q (some 20) none (.ld1 (.tmp 0)) (.q (some 21) none (.mov (.tmp 4)) (.q (some 22) none (.mov (.tmp 6)) (.q (some 23) none (.nc (.tmp 18)) (.q (some 24) none (.fadr 0 (.tmp 23)) (.l none none (.st1 (.tmp 24) (.tmp 20)) [] (.q (some 25) none (.nc (.tmp 19)) (.q (some 26) none (.fadr 1 (.tmp 25)) (.l none none (.st1 (.tmp 26) (.tmp 21)) [] (.l none none (.st1 (.tmp 2) (.tmp 22)) [] .done)))))))))))) false 0 [],
  .reg (.q (some 6) none (.mov (.const (.slice none 0 0))) .done) false 1 [0, 1, 2, 4, 6],
  .reg (.q (some 17) none (.mov (.tmp 3)) (.l none none (.pan (.tmp 17)) [] .done)) false 2 [0, 1, 2, 4],
  .cnd (.tmp 16) 3 2,
  .reg (.q (some 15) none (.mov (.tmp 5)) (.q (some 16) none (.not (.tmp 15)) .done)) false 4 [0, 1, 2, 3, 4, 16],
  .reg (.q (some 11) none (.mov (.tmp 3)) (.q (some 12) none (.tas 82 .i64 (.tmp 11)) (.q (some 10) none (.mov (.tmp 12)) (.q (some 13) none (.ext 0 (.tmp 10)) (.q (some 14) none (.ext 1 (.tmp 10)) (.q (some 4) none (.mov (.tmp 13)) (.q (some 5) none (.mov (.tmp 14)) .done))))))) false 5 [0, 1, 2, 3, 4, 5],
  .cnd (.tmp 9) 6 0,
  .reg (.q (some 8) none (.mov (.tmp 3)) (.q (some 9) none (.eqI true (.tmp 8) (.const .nilIface)) .done)) false 7 [0, 1, 2, 3, 9],
  .rcv 7 3 8 [0, 1, 2, 3]
  ]
theorem c51_ok : cfgL Try.prog 51 = some (27, 9, c51.map Vc.Node.bare) := by kernel_rfl
/- strongbox/wire.Length: entry 3 -/
def c52 : List Vc.Node := [
  .ret [.t 2],
  .ret [.t 2],
  .reg (.q (some 3) none (.mov (.tmp 0)) (.l (some 4) none (.call 45 [(.tmp 3)]) [] (.q (some 5) none (.bin .add (.tmp 4) (.const (.int .i64 1))) (.q (some 2) none (.mov (.tmp 5)) .done)))) false 1 [2],
  .reg (.q (some 2) none (.mov (.const (.int .i64 0))) .done) false 2 [0]
  ]
theorem c52_ok : cfgL Try.prog 52 = some (6, 3, c52.map Vc.Node.bare) := by kernel_rfl
/- strongbox/wire.try[uint64]$1: entry 9 -/
def c53 : List Vc.Node := [
  .ret [],
  .reg (.q (some 18) none (.ld1 (.tmp 1)) (.q (some 19) none (.ld1 (.tmp 1)) (.q (some 20) none (.ld1 (.tmp 0)) (.q (some 21) none (.mov (.tmp 4)) (.q (some 22) none (.mov (.tmp 6)) (.q (some 23) none (.nc (.tmp 18)) (.q (some 24) none (.fadr 0 (.tmp 23)) (.l none none (.st1 (.tmp 24) (.tmp 20)) [] (.q (some 25) none (.nc (.tmp 19)) (.q (some 26) none (.fadr 1 (.tmp 25)) (.l none none (.st1 (.tmp 26) (.tmp 21)) [] (.l none none (.st1 (.tmp 2) (.tmp 22)) [] .done)))))))))))) false 0 [],
  .reg (.q (some 6) none (.mov (.const (.int .u64 0))) .done) false 1 [0, 1, 2, 4, 6],
  .reg (.q (some 17) none (.mov (.tmp 3)) (.l none none (.pan (.tmp 17)) [] .done)) false 2 [0, 1, 2, 4],
  .cnd (.tmp 16) 3 2,
  .reg (.q (some 15) none (.mov (.tmp 5)) (.q (some 16) none (.not (.tmp 15)) .done)) false 4 [0, 1, 2, 3, 4, 16],
  .reg (.q (some 11) none (.mov (.tmp 3)) (.q (some 12) none (.tas 82 .i64 (.tmp 11)) (.q (some 10) none (.mov (.tmp 12)) (.q (some 13) none (.ext 0 (.tmp 10)) (.q (some 14) none (.ext 1 (.tmp 10)) (.q (some 4) none (.mov (.tmp 13)) (.q (some 5) none (.mov (.tmp 14)) .done))))))) false 5 [0, 1, 2, 3, 4, 5],
  .cnd (.tmp 9) 6 0,
  .reg (.q (some 8) none (.mov (.tmp 3)) (.q (some 9) none (.eqI true (.tmp 8) (.const .nilIface)) .done)) false 7 [0, 1, 2, 3, 9],
  .rcv 7 3 8 [0, 1, 2, 3]
  ]
theorem c53_ok : cfgL Try.prog 53 = some (27, 9, c53.map Vc.Node.bare) := by kernel_rfl
/- math/bits.RotateLeft32: entry 4 -/
def c54 : List Vc.Node := [
  .ret [.t 4],
  .ret [.t 4],
  .reg (.q (some 9) none (.mov (.tmp 0)) (.q (some 10) none (.mov (.tmp 5)) (.q (some 11) none (.bin .shl (.tmp 9) (.tmp 10)) (.q (some 12) none (.mov (.tmp 0)) (.q (some 13) none (.mov (.tmp 5)) (.q (some 14) none (.bin .sub (.const (.int .u64 32)) (.tmp 13)) (.q (some 15) none (.bin .shr (.tmp 12) (.tmp 14)) (.q (some 16) none (.bin .or (.tmp 11) (.tmp 15)) (.q (some 4) none (.mov (.tmp 16)) .done))))))))) false 1 [4],
  .reg (.q (some 6) none (.mov (.tmp 1)) (.q (some 7) none (.cvi .u64 (.tmp 6)) (.q (some 8) none (.bin .and (.tmp 7) (.const (.int .u64 31))) (.q (some 5) none (.mov (.tmp 8)) .done)))) false 2 [0, 5],
  .reg (.q (some 4) none (.mov (.const (.int .u32 0))) .done) false 3 [0, 1]
  ]
theorem c54_ok : cfgL Try.prog 54 = some (17, 4, c54.map Vc.Node.bare) := by kernel_rfl
end Go.Proofs
