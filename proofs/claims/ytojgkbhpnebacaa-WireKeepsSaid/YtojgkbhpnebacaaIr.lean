/- The graphs of this seat's functions, written by program, each held against the translation by the kernel. -/
import Derived.Test.YtojgkbhpnebacaaProg
import Derived.Test.YtojgkbhpnebacaaVcF
import Derived.KernelRfl
set_option linter.unusedSimpArgs false
set_option linter.unusedVariables false
set_option linter.constructorNameAsVariable false
namespace Go.Proofs
open Go.Vc
/- gosem.cut.init: entry 1 -/
def c2 : List Vc.Node := [
  .ret [],
  .bad
  ]
theorem c2_ok : cfgL Try.prog 2 = some (1, 1, c2.map Vc.Node.bare) := by kernel_rfl
/- strongbox/strongboxlaw01.WireWrites: entry 19 -/
def c3 : List Vc.Node := [
  .ret [.t 2],
  .ret [.t 2],
  .reg (.q (some 2) none (.mov (.const (.bool true))) .done) false 1 [2],
  .jmp 11,
  .reg (.q (some 16) none (.mov (.tmp 5)) (.q (some 17) none (.bin .add (.tmp 16) (.const (.int .i64 1))) (.q (some 5) none (.mov (.tmp 17)) .done))) false 3 [0, 3, 4, 5],
  .ret [.t 2],
  .reg (.q (some 2) none (.mov (.const (.bool false))) .done) false 5 [2],
  .cnd (.tmp 51) 6 4,
  .reg (.q (some 25) none (.mov (.tmp 4)) (.l (some 24) none (.call 10 [(.tmp 3)]) [] (.l (some 26) none (.call 9 [(.tmp 24), (.tmp 25)]) [] (.q (some 27) none (.not (.tmp 26)) (.q (some 28) none (.mov (.tmp 27)) (.q (some 29) (some (28, false)) (.mov (.tmp 0)) (.q (some 30) (some (28, false)) (.mov (.tmp 5)) (.q (some 31) (some (28, false)) (.iadrS 3 (.tmp 29) (.tmp 30)) (.q (some 32) (some (28, false)) (.fadr 0 (.tmp 31)) (.q (some 33) (some (28, false)) (.ld1 (.tmp 32)) (.q (some 34) (some (28, false)) (.bin .eql (.tmp 33) (.const (.int .i64 5))) (.q (some 35) (some (28, false)) (.mov (.tmp 34)) (.q (some 36) (some (35, true)) (.mov (.tmp 0)) (.q (some 37) (some (35, true)) (.mov (.tmp 5)) (.q (some 38) (some (35, true)) (.iadrS 3 (.tmp 36) (.tmp 37)) (.q (some 39) (some (35, true)) (.fadr 1 (.tmp 38)) (.q (some 40) (some (35, true)) (.ld1 (.tmp 39)) (.q (some 42) (some (35, true)) (.mov (.tmp 0)) (.q (some 43) (some (35, true)) (.mov (.tmp 5)) (.q (some 44) (some (35, true)) (.iadrS 3 (.tmp 42) (.tmp 43)) (.q (some 45) (some (35, true)) (.fadr 1 (.tmp 44)) (.q (some 46) (some (35, true)) (.ld1 (.tmp 45)) (.l (some 41) (some (35, true)) (.call 11 [(.tmp 40)]) [⟨46, (some (35, true)), (.ld1 (.tmp 45))⟩] (.l (some 47) (some (35, true)) (.call 12 [(.tmp 46)]) [] (.q (some 48) (some (35, true)) (.len (.tmp 47)) (.q (some 49) (some (35, true)) (.bin .neq (.tmp 41) (.tmp 48)) (.q (some 50) (some (28, false)) (.pick (.tmp 35) (.tmp 49) (.const (.bool false))) (.q (some 51) none (.pick (.tmp 28) (.const (.bool true)) (.tmp 50)) .done)))))))))))))))))))))))))))) true 7 [0, 3, 4, 5, 51],
  .reg (.q (some 18) none (.mov (.tmp 4)) (.q (some 19) none (.mov (.tmp 0)) (.q (some 20) none (.mov (.tmp 5)) (.q (some 21) none (.iadrS 3 (.tmp 19) (.tmp 20)) (.q (some 22) none (.ldN 3 (.tmp 21)) (.l (some 23) none (.call 8 [(.tmp 3), (.tmp 18), (.tmp 22)]) [] (.q (some 4) none (.mov (.tmp 23)) .done))))))) false 8 [0, 3, 4, 5],
  .cnd (.tmp 15) 9 2,
  .reg (.q (some 8) none (.mov (.tmp 5)) (.q (some 9) none (.mov (.tmp 0)) (.q (some 10) none (.len (.tmp 9)) (.q (some 11) none (.bin .lss (.tmp 8) (.tmp 10)) (.q (some 12) none (.mov (.tmp 11)) (.q (some 13) (some (12, true)) (.mov (.tmp 5)) (.q (some 14) (some (12, true)) (.bin .lss (.tmp 13) (.const (.int .i64 40))) (.q (some 15) none (.pick (.tmp 12) (.tmp 14) (.const (.bool false))) .done)))))))) false 10 [0, 3, 4, 5, 15],
  .reg (.q (some 5) none (.mov (.const (.int .i64 0))) .done) false 11 [0, 3, 4, 5],
  .reg (.q (some 4) none (.mov (.const (.slice none 0 0))) .done) false 12 [0, 3, 4],
  .reg (.l (some 3) none (.alloc 26 [(1, (.slice none 0 0))]) [] .done) false 13 [0, 3],
  .ret [.t 2],
  .reg (.q (some 2) none (.mov (.const (.bool false))) .done) false 15 [2],
  .cnd (.tmp 7) 16 14,
  .reg (.l (some 6) none (.call 7 []) [] (.q (some 7) none (.not (.tmp 6)) .done)) false 17 [0, 7],
  .reg (.q (some 2) none (.mov (.const (.bool false))) .done) false 18 [0]
  ]
theorem c3_ok : cfgL Try.prog 3 = some (52, 19, c3.map Vc.Node.bare) := by kernel_rfl
/- strongbox/strongboxlaw01.WireKeeps: entry 28 -/
def c4 : List Vc.Node := [
  .ret [.t 2],
  .ret [.t 2],
  .reg (.l (some 74) none (.call 10 [(.tmp 5)]) [] (.q (some 75) none (.mov (.tmp 12)) (.l (some 76) none (.call 9 [(.tmp 74), (.tmp 75)]) [] (.q (some 77) none (.mov (.tmp 76)) (.q (some 78) (some (77, true)) (.mov (.tmp 9)) (.q (some 79) (some (77, true)) (.mov (.tmp 0)) (.l (some 80) (some (77, true)) (.call 9 [(.tmp 78), (.tmp 79)]) [] (.q (some 81) none (.pick (.tmp 77) (.tmp 80) (.const (.bool false))) (.q (some 82) none (.mov (.tmp 81)) (.q (some 83) (some (82, true)) (.mov (.tmp 4)) (.q (some 84) (some (82, true)) (.mov (.tmp 6)) (.q (some 85) (some (82, true)) (.mov (.tmp 7)) (.q (some 86) (some (82, true)) (.mov (.tmp 9)) (.q (some 87) (some (82, true)) (.mov (.tmp 11)) (.l (some 88) (some (82, true)) (.call 10 [(.tmp 5)]) [] (.l (some 89) (some (82, true)) (.bldS 24 1 [(.tmp 83), (.tmp 84), (.tmp 85), (.tmp 86), (.tmp 87), (.tmp 88)]) [] (.l (some 90) (some (82, true)) (.call 22 [(.tmp 89)]) [] (.q (some 91) none (.pick (.tmp 82) (.tmp 90) (.const (.bool false))) (.q (some 2) none (.mov (.tmp 91)) .done))))))))))))))))))) false 1 [2],
  .jmp 8,
  .reg (.q (some 73) none (.bin .add (.tmp 64) (.const (.int .i64 1))) (.q (some 64) none (.mov (.tmp 73)) .done)) false 3 [0, 3, 4, 5, 6, 7, 9, 11, 12, 63, 64],
  .reg (.q (some 67) none (.mov (.tmp 3)) (.q (some 68) none (.mov (.tmp 13)) (.q (some 69) none (.iadrS 1 (.tmp 67) (.tmp 68)) (.q (some 70) none (.ld1 (.tmp 69)) (.q (some 71) none (.bin .xor (.tmp 70) (.const (.int .u8 255))) (.q (some 72) none (.iadrS 1 (.tmp 67) (.tmp 68)) (.l none none (.st1 (.tmp 72) (.tmp 71)) [] .done))))))) false 4 [0, 3, 4, 5, 6, 7, 9, 11, 12, 63, 64],
  .reg (.q (some 66) none (.mov (.tmp 64)) (.q (some 13) none (.mov (.tmp 66)) .done)) false 5 [0, 3, 4, 5, 6, 7, 9, 11, 12, 13, 63, 64],
  .cnd (.tmp 65) 6 2,
  .reg (.q (some 65) none (.bin .lss (.tmp 64) (.tmp 63)) .done) false 7 [0, 3, 4, 5, 6, 7, 9, 11, 12, 63, 64, 65],
  .reg (.q (some 62) none (.mov (.tmp 3)) (.q (some 63) none (.len (.tmp 62)) (.q (some 64) none (.mov (.const (.int .i64 0))) .done))) false 8 [0, 3, 4, 5, 6, 7, 9, 11, 12, 63, 64],
  .ret [.t 2],
  .reg (.q (some 2) none (.mov (.const (.bool false))) .done) false 10 [2],
  .cnd (.tmp 61) 11 9,
  .reg (.q (some 46) none (.mov (.tmp 4)) (.q (some 47) none (.mov (.tmp 0)) (.l (some 48) none (.call 21 [(.tmp 46), (.tmp 47)]) [] (.q (some 49) none (.not (.tmp 48)) (.q (some 50) none (.mov (.tmp 49)) (.q (some 51) (some (50, false)) (.mov (.tmp 6)) (.q (some 52) (some (50, false)) (.mov (.tmp 12)) (.l (some 53) (some (50, false)) (.call 9 [(.tmp 51), (.tmp 52)]) [] (.q (some 54) (some (50, false)) (.not (.tmp 53)) (.q (some 55) none (.pick (.tmp 50) (.const (.bool true)) (.tmp 54)) (.q (some 56) none (.mov (.tmp 55)) (.q (some 57) (some (56, false)) (.mov (.tmp 11)) (.q (some 58) (some (56, false)) (.mov (.tmp 0)) (.l (some 59) (some (56, false)) (.call 9 [(.tmp 57), (.tmp 58)]) [] (.q (some 60) (some (56, false)) (.not (.tmp 59)) (.q (some 61) none (.pick (.tmp 56) (.const (.bool true)) (.tmp 60)) .done)))))))))))))))) false 12 [0, 3, 4, 5, 6, 7, 9, 11, 12, 61],
  .reg (.q (some 42) none (.mov (.tmp 0)) (.l (some 43) none (.call 20 [(.tmp 42)]) [] (.q (some 44) none (.mov (.tmp 0)) (.l (some 45) none (.app 5 1 1 [(1, (.int .u8 0))] (.tmp 43) (.tmp 44)) [] (.q (some 12) none (.mov (.tmp 45)) .done))))) false 13 [0, 3, 4, 5, 6, 7, 9, 11, 12],
  .reg (.q (some 40) none (.mov (.tmp 10)) (.l (some 41) none (.call 19 [(.tmp 40), (.const (.int .i64 300))]) [] (.q (some 11) none (.mov (.tmp 41)) .done))) false 14 [0, 3, 4, 5, 6, 7, 9, 11],
  .reg (.q (some 34) none (.mov (.tmp 8)) (.q (some 35) none (.mov (.tmp 0)) (.q (some 36) none (.len (.tmp 35)) (.l (some 37) none (.call 18 [(.tmp 34), (.tmp 36)]) [] (.q (some 38) none (.mov (.tmp 6)) (.l (some 39) none (.call 17 [(.tmp 38)]) [] (.q (some 9) none (.mov (.tmp 37)) (.q (some 10) none (.mov (.tmp 39)) .done)))))))) false 15 [0, 3, 4, 5, 6, 7, 9, 10],
  .reg (.q (some 29) none (.mov (.tmp 4)) (.q (some 30) none (.mov (.tmp 0)) (.q (some 31) none (.len (.tmp 30)) (.q (some 32) none (.slcS 1 (.tmp 29) none (some (.tmp 31))) (.l (some 33) none (.call 17 [(.tmp 32)]) [] (.q (some 8) none (.mov (.tmp 33)) .done)))))) false 16 [0, 3, 4, 5, 6, 7, 8],
  .reg (.l (some 27) none (.call 10 [(.tmp 5)]) [] (.l (some 28) none (.call 10 [(.tmp 5)]) [] (.q (some 6) none (.mov (.tmp 27)) (.q (some 7) none (.mov (.tmp 28)) .done)))) false 17 [0, 3, 4, 5, 6, 7],
  .reg (.q (some 25) none (.mov (.tmp 3)) (.l (some 26) none (.call 16 [(.tmp 5), (.tmp 25)]) [] .done)) false 18 [0, 3, 4, 5],
  .reg (.q (some 23) none (.mov (.tmp 3)) (.l (some 24) none (.call 15 [(.tmp 5), (.tmp 23)]) [] .done)) false 19 [0, 3, 4, 5],
  .reg (.l (some 5) none (.alloc 26 [(1, (.slice none 0 0))]) [] .done) false 20 [0, 3, 4, 5],
  .reg (.q (some 19) none (.mov (.tmp 0)) (.l (some 20) none (.call 14 [(.tmp 19)]) [] (.q (some 18) none (.mov (.tmp 20)) (.q (some 21) none (.ext 0 (.tmp 18)) (.q (some 22) none (.ext 1 (.tmp 18)) (.q (some 3) none (.mov (.tmp 21)) (.q (some 4) none (.mov (.tmp 22)) .done))))))) false 21 [0, 3, 4],
  .reg (.q (some 16) none (.mov (.tmp 0)) (.l (some 17) none (.call 13 [(.tmp 16)]) [] (.q (some 0) none (.mov (.tmp 17)) .done))) false 22 [0],
  .ret [.t 2],
  .reg (.q (some 2) none (.mov (.const (.bool false))) .done) false 24 [2],
  .cnd (.tmp 15) 25 23,
  .reg (.l (some 14) none (.call 7 []) [] (.q (some 15) none (.not (.tmp 14)) .done)) false 26 [0, 15],
  .reg (.q (some 2) none (.mov (.const (.bool false))) .done) false 27 [0]
  ]
theorem c4_ok : cfgL Try.prog 4 = some (92, 28, c4.map Vc.Node.bare) := by kernel_rfl
/- strongbox/strongboxlaw01.WireShort: entry 39 -/
def c5 : List Vc.Node := [
  .ret [.t 4],
  .ret [.t 4],
  .reg (.q (some 114) none (.mov (.tmp 8)) (.l (some 115) none (.call 24 [(.tmp 114)]) [] (.q (some 116) none (.bin .eql (.tmp 115) (.const (.int .i64 4))) (.q (some 117) none (.mov (.tmp 116)) (.q (some 118) (some (117, true)) (.mov (.tmp 8)) (.l (some 119) (some (117, true)) (.call 25 [(.tmp 118)]) [] (.q (some 120) (some (117, true)) (.bin .eql (.tmp 119) (.const (.int .i64 4))) (.q (some 121) none (.pick (.tmp 117) (.tmp 120) (.const (.bool false))) (.q (some 122) none (.mov (.tmp 121)) (.q (some 123) (some (122, true)) (.fadr 2 (.tmp 9)) (.q (some 124) (some (122, true)) (.ld1 (.tmp 123)) (.q (some 125) (some (122, true)) (.bin .eql (.tmp 124) (.const (.int .i64 4))) (.q (some 126) none (.pick (.tmp 122) (.tmp 125) (.const (.bool false))) (.q (some 4) none (.mov (.tmp 126)) .done)))))))))))))) false 1 [4],
  .jmp 18,
  .reg (.q (some 70) none (.mov (.tmp 10)) (.q (some 71) none (.bin .add (.tmp 70) (.const (.int .i64 1))) (.q (some 10) none (.mov (.tmp 71)) .done))) false 3 [0, 8, 9, 10],
  .ret [.t 4],
  .reg (.q (some 4) none (.mov (.const (.bool false))) .done) false 5 [4],
  .cnd (.tmp 113) 6 4,
  .reg (.q (some 112) none (.mov (.tmp 13)) (.q (some 113) none (.not (.tmp 112)) .done)) false 7 [0, 8, 9, 10, 113],
  .reg (.q (some 111) none (.ldN 3 (.tmp 12)) (.l none none (.stN 3 (.tmp 9) (.tmp 111)) [] .done)) false 8 [0, 8, 9, 10, 13],
  .reg (.q (some 105) none (.mov (.tmp 8)) (.q (some 106) none (.ldN 3 (.tmp 9)) (.q (some 107) none (.ldN 3 (.tmp 11)) (.l (some 108) none (.call 23 [(.tmp 105), (.tmp 106), (.tmp 107)]) [] (.q (some 104) none (.mov (.tmp 108)) (.q (some 109) none (.ext 0 (.tmp 104)) (.q (some 110) none (.ext 1 (.tmp 104)) (.l (some 12) none (.alloc 49 [(1, (.slice none 0 0)), (2, (.int .i64 0))]) [] (.l none none (.stN 3 (.tmp 12) (.tmp 109)) [] (.q (some 13) none (.mov (.tmp 110)) .done)))))))))) false 9 [0, 8, 9, 10, 12, 13],
  .reg (.q (some 98) none (.fadr 2 (.tmp 11)) (.q (some 99) none (.ld1 (.tmp 98)) (.l (some 100) none (.call 13 [(.tmp 99)]) [] (.q (some 101) none (.len (.tmp 100)) (.q (some 102) none (.cvi .u64 (.tmp 101)) (.q (some 103) none (.fadr 1 (.tmp 11)) (.l none none (.st1 (.tmp 103) (.tmp 102)) [] .done))))))) false 10 [0, 8, 9, 10, 11],
  .cnd (.tmp 97) 11 10,
  .reg (.q (some 90) none (.fadr 0 (.tmp 11)) (.q (some 91) none (.ld1 (.tmp 90)) (.q (some 92) none (.bin .lss (.tmp 91) (.const (.int .i64 1))) (.q (some 93) none (.mov (.tmp 92)) (.q (some 94) (some (93, false)) (.fadr 0 (.tmp 11)) (.q (some 95) (some (93, false)) (.ld1 (.tmp 94)) (.q (some 96) (some (93, false)) (.bin .gtr (.tmp 95) (.const (.int .i64 5))) (.q (some 97) none (.pick (.tmp 93) (.const (.bool true)) (.tmp 96)) .done)))))))) false 12 [0, 8, 9, 10, 11, 97],
  .reg (.q (some 86) none (.mov (.tmp 0)) (.q (some 87) none (.mov (.tmp 10)) (.q (some 88) none (.iadrS 3 (.tmp 86) (.tmp 87)) (.q (some 89) none (.ldN 3 (.tmp 88)) (.l (some 11) none (.alloc 31 [(1, (.int .i64 0)), (1, (.int .u64 0)), (1, (.slice none 0 0))]) [] (.l none none (.stN 3 (.tmp 11) (.tmp 89)) [] .done)))))) false 13 [0, 8, 9, 10, 11],
  .cnd (.tmp 85) 4 14,
  .reg (.q (some 72) none (.mov (.tmp 0)) (.q (some 73) none (.mov (.tmp 10)) (.q (some 74) none (.iadrS 3 (.tmp 72) (.tmp 73)) (.q (some 75) none (.fadr 0 (.tmp 74)) (.q (some 76) none (.ld1 (.tmp 75)) (.q (some 77) none (.bin .eql (.tmp 76) (.const (.int .i64 5))) (.q (some 78) none (.mov (.tmp 77)) (.q (some 79) (some (78, true)) (.mov (.tmp 0)) (.q (some 80) (some (78, true)) (.mov (.tmp 10)) (.q (some 81) (some (78, true)) (.iadrS 3 (.tmp 79) (.tmp 80)) (.q (some 82) (some (78, true)) (.fadr 1 (.tmp 81)) (.q (some 83) (some (78, true)) (.ld1 (.tmp 82)) (.q (some 84) (some (78, true)) (.bin .gtr (.tmp 83) (.const (.int .u64 33554432))) (.q (some 85) none (.pick (.tmp 78) (.tmp 84) (.const (.bool false))) .done)))))))))))))) false 15 [0, 8, 9, 10, 85],
  .cnd (.tmp 69) 16 2,
  .reg (.q (some 62) none (.mov (.tmp 10)) (.q (some 63) none (.mov (.tmp 0)) (.q (some 64) none (.len (.tmp 63)) (.q (some 65) none (.bin .lss (.tmp 62) (.tmp 64)) (.q (some 66) none (.mov (.tmp 65)) (.q (some 67) (some (66, true)) (.mov (.tmp 10)) (.q (some 68) (some (66, true)) (.bin .lss (.tmp 67) (.const (.int .i64 12))) (.q (some 69) none (.pick (.tmp 66) (.tmp 68) (.const (.bool false))) .done)))))))) false 17 [0, 8, 9, 10, 69],
  .reg (.q (some 10) none (.mov (.const (.int .i64 0))) .done) false 18 [0, 8, 9, 10],
  .reg (.q (some 54) none (.mov (.tmp 7)) (.q (some 55) none (.mov (.tmp 1)) (.q (some 56) none (.slcS 1 (.tmp 54) none (some (.tmp 55))) (.q (some 58) none (.mov (.tmp 7)) (.q (some 59) none (.mov (.tmp 1)) (.q (some 60) none (.slcS 1 (.tmp 58) none (some (.tmp 59))) (.q (some 61) none (.bld [.x 1 (.tmp 60), .z [(2, (.int .i64 0))]]) (.alt (.l (some 57) none (.call 17 [(.tmp 56)]) [] (.l (some 9) none (.alloc 49 [(1, (.slice none 0 0)), (2, (.int .i64 0))]) [] (.q (some 8) none (.mov (.tmp 57)) (.l none none (.stN 3 (.tmp 9) (.tmp 61)) [] .done)))) (.l (some 9) none (.alloc 49 [(1, (.slice none 0 0)), (2, (.int .i64 0))]) [] (.l (some 57) none (.call 17 [(.tmp 56)]) [] (.q (some 8) none (.mov (.tmp 57)) (.l none none (.stN 3 (.tmp 9) (.tmp 61)) [] .done)))))))))))) true 19 [0, 8, 9],
  .ret [.t 4],
  .reg (.q (some 4) none (.mov (.const (.bool true))) .done) false 21 [4],
  .cnd (.tmp 53) 22 20,
  .reg (.q (some 46) none (.mov (.tmp 1)) (.q (some 47) none (.bin .lss (.tmp 46) (.const (.int .i64 0))) (.q (some 48) none (.mov (.tmp 47)) (.q (some 49) (some (48, false)) (.mov (.tmp 1)) (.q (some 50) (some (48, false)) (.mov (.tmp 7)) (.q (some 51) (some (48, false)) (.len (.tmp 50)) (.q (some 52) (some (48, false)) (.bin .geq (.tmp 49) (.tmp 51)) (.q (some 53) none (.pick (.tmp 48) (.const (.bool true)) (.tmp 52)) .done)))))))) false 23 [0, 1, 7, 53],
  .reg (.l (some 45) none (.call 10 [(.tmp 5)]) [] (.q (some 7) none (.mov (.tmp 45)) .done)) false 24 [0, 1, 7],
  .jmp 32,
  .reg (.q (some 24) none (.mov (.tmp 6)) (.q (some 25) none (.bin .add (.tmp 24) (.const (.int .i64 1))) (.q (some 6) none (.mov (.tmp 25)) .done))) false 26 [0, 1, 5, 6],
  .reg (.q (some 40) none (.mov (.tmp 0)) (.q (some 41) none (.mov (.tmp 6)) (.q (some 42) none (.iadrS 3 (.tmp 40) (.tmp 41)) (.q (some 43) none (.ldN 3 (.tmp 42)) (.l (some 44) none (.call 8 [(.tmp 5), (.const (.slice none 0 0)), (.tmp 43)]) [] .done))))) false 27 [0, 1, 5, 6],
  .cnd (.tmp 39) 28 27,
  .reg (.q (some 26) none (.mov (.tmp 0)) (.q (some 27) none (.mov (.tmp 6)) (.q (some 28) none (.iadrS 3 (.tmp 26) (.tmp 27)) (.q (some 29) none (.fadr 0 (.tmp 28)) (.q (some 30) none (.ld1 (.tmp 29)) (.q (some 31) none (.bin .neq (.tmp 30) (.const (.int .i64 5))) (.q (some 32) none (.mov (.tmp 31)) (.q (some 33) (some (32, false)) (.mov (.tmp 0)) (.q (some 34) (some (32, false)) (.mov (.tmp 6)) (.q (some 35) (some (32, false)) (.iadrS 3 (.tmp 33) (.tmp 34)) (.q (some 36) (some (32, false)) (.fadr 1 (.tmp 35)) (.q (some 37) (some (32, false)) (.ld1 (.tmp 36)) (.q (some 38) (some (32, false)) (.bin .leq (.tmp 37) (.const (.int .u64 33554432))) (.q (some 39) none (.pick (.tmp 32) (.const (.bool true)) (.tmp 38)) .done)))))))))))))) false 29 [0, 1, 5, 6, 39],
  .cnd (.tmp 23) 30 25,
  .reg (.q (some 16) none (.mov (.tmp 6)) (.q (some 17) none (.mov (.tmp 0)) (.q (some 18) none (.len (.tmp 17)) (.q (some 19) none (.bin .lss (.tmp 16) (.tmp 18)) (.q (some 20) none (.mov (.tmp 19)) (.q (some 21) (some (20, true)) (.mov (.tmp 6)) (.q (some 22) (some (20, true)) (.bin .lss (.tmp 21) (.const (.int .i64 12))) (.q (some 23) none (.pick (.tmp 20) (.tmp 22) (.const (.bool false))) .done)))))))) false 31 [0, 1, 5, 6, 23],
  .reg (.q (some 6) none (.mov (.const (.int .i64 0))) .done) false 32 [0, 1, 5, 6],
  .reg (.l (some 5) none (.alloc 26 [(1, (.slice none 0 0))]) [] .done) false 33 [0, 1, 5],
  .ret [.t 4],
  .reg (.q (some 4) none (.mov (.const (.bool false))) .done) false 35 [4],
  .cnd (.tmp 15) 36 34,
  .reg (.l (some 14) none (.call 7 []) [] (.q (some 15) none (.not (.tmp 14)) .done)) false 37 [0, 1, 15],
  .reg (.q (some 4) none (.mov (.const (.bool false))) .done) false 38 [0, 1]
  ]
theorem c5_ok : cfgL Try.prog 5 = some (127, 39, c5.map Vc.Node.bare) := by kernel_rfl
/- strongbox/strongboxlaw01.WireBack: entry 50 -/
def c6 : List Vc.Node := [
  .ret [.t 2],
  .ret [.t 2],
  .reg (.q (some 114) none (.mov (.tmp 5)) (.l (some 115) none (.call 25 [(.tmp 114)]) [] (.q (some 116) none (.bin .eql (.tmp 115) (.const (.int .i64 0))) (.q (some 117) none (.mov (.tmp 116)) (.q (some 118) (some (117, true)) (.mov (.tmp 5)) (.l (some 119) (some (117, true)) (.call 31 [(.tmp 118)]) [] (.q (some 120) (some (117, true)) (.bin .eql (.tmp 119) (.const (.int .i64 0))) (.q (some 121) none (.pick (.tmp 117) (.tmp 120) (.const (.bool false))) (.q (some 2) none (.mov (.tmp 121)) .done))))))))) false 1 [2],
  .jmp 36,
  .reg (.q (some 37) none (.mov (.tmp 6)) (.q (some 38) none (.bin .add (.tmp 37) (.const (.int .i64 1))) (.q (some 6) none (.mov (.tmp 38)) .done))) false 3 [0, 5, 6],
  .ret [.t 2],
  .reg (.q (some 2) none (.mov (.const (.bool false))) .done) false 5 [2],
  .cnd (.tmp 113) 6 4,
  .reg (.q (some 112) none (.mov (.tmp 9)) (.q (some 113) none (.not (.tmp 112)) .done)) false 7 [0, 5, 6, 113],
  .reg (.q (some 57) none (.mov (.tmp 5)) (.q (some 59) none (.fadr 1 (.tmp 7)) (.q (some 60) none (.ld1 (.tmp 59)) (.q (some 61) none (.cvi .u8 (.tmp 60)) (.l (some 58) none (.call 26 [(.tmp 57)]) [⟨60, none, (.ld1 (.tmp 59))⟩] (.q (some 62) none (.bin .eql (.tmp 58) (.tmp 61)) (.q (some 9) none (.mov (.tmp 62)) .done))))))) true 8 [0, 5, 6, 9],
  .reg (.q (some 65) none (.mov (.tmp 5)) (.q (some 67) none (.fadr 1 (.tmp 7)) (.q (some 68) none (.ld1 (.tmp 67)) (.q (some 69) none (.cvi .u16 (.tmp 68)) (.l (some 66) none (.call 27 [(.tmp 65)]) [⟨68, none, (.ld1 (.tmp 67))⟩] (.q (some 70) none (.bin .eql (.tmp 66) (.tmp 69)) (.q (some 9) none (.mov (.tmp 70)) .done))))))) true 8 [0, 5, 6, 9],
  .reg (.q (some 73) none (.mov (.tmp 5)) (.q (some 75) none (.fadr 1 (.tmp 7)) (.q (some 76) none (.ld1 (.tmp 75)) (.q (some 77) none (.cvi .u32 (.tmp 76)) (.l (some 74) none (.call 28 [(.tmp 73)]) [⟨76, none, (.ld1 (.tmp 75))⟩] (.q (some 78) none (.bin .eql (.tmp 74) (.tmp 77)) (.q (some 9) none (.mov (.tmp 78)) .done))))))) true 8 [0, 5, 6, 9],
  .reg (.q (some 81) none (.mov (.tmp 5)) (.q (some 83) none (.fadr 1 (.tmp 7)) (.q (some 84) none (.ld1 (.tmp 83)) (.l (some 82) none (.call 29 [(.tmp 81)]) [⟨84, none, (.ld1 (.tmp 83))⟩] (.q (some 85) none (.bin .eql (.tmp 82) (.tmp 84)) (.q (some 9) none (.mov (.tmp 85)) .done)))))) true 8 [0, 5, 6, 9],
  .reg (.q (some 99) none (.mov (.tmp 5)) (.q (some 101) none (.fadr 1 (.tmp 7)) (.q (some 102) none (.ld1 (.tmp 101)) (.l (some 100) none (.call 30 [(.tmp 99)]) [⟨102, none, (.ld1 (.tmp 101))⟩] (.q (some 103) none (.bin .eql (.tmp 100) (.tmp 102)) (.q (some 9) none (.mov (.tmp 103)) .done)))))) true 8 [0, 5, 6, 9],
  .ret [.t 2],
  .reg (.q (some 91) none (.mov (.tmp 5)) (.l (some 92) none (.call 30 [(.tmp 91)]) [] (.q (some 93) none (.bin .eql (.tmp 92) (.const (.int .u64 0))) (.q (some 94) none (.mov (.tmp 93)) (.q (some 95) (some (94, true)) (.mov (.tmp 5)) (.l (some 96) (some (94, true)) (.call 24 [(.tmp 95)]) [] (.q (some 97) (some (94, true)) (.bin .eql (.tmp 96) (.const (.int .i64 2))) (.q (some 98) none (.pick (.tmp 94) (.tmp 97) (.const (.bool false))) (.q (some 2) none (.mov (.tmp 98)) .done))))))))) false 14 [2],
  .cnd (.tmp 90) 15 13,
  .reg (.q (some 88) none (.fadr 1 (.tmp 7)) (.q (some 89) none (.ld1 (.tmp 88)) (.q (some 90) none (.bin .gtr (.tmp 89) (.const (.int .u64 33554432))) .done))) false 16 [0, 5, 6, 7, 90],
  .reg (.q (some 106) none (.mov (.tmp 5)) (.q (some 107) none (.mov (.tmp 8)) (.q (some 108) none (.len (.tmp 107)) (.l (some 109) none (.call 18 [(.tmp 106), (.tmp 108)]) [] (.q (some 110) none (.mov (.tmp 8)) (.l (some 111) none (.call 9 [(.tmp 109), (.tmp 110)]) [] (.q (some 9) none (.mov (.tmp 111)) .done))))))) false 8 [0, 5, 6, 9],
  .reg (.q (some 51) none (.mov (.tmp 5)) (.l (some 52) none (.call 19 [(.tmp 51), (.const (.int .i64 300))]) [] (.q (some 53) none (.mov (.tmp 8)) (.l (some 54) none (.call 9 [(.tmp 52), (.tmp 53)]) [] (.q (some 9) none (.mov (.tmp 54)) .done))))) false 8 [0, 5, 6, 9],
  .cnd (.tmp 104) 18 19,
  .reg (.q (some 105) none (.bin .eql (.tmp 50) (.const (.int .i64 6))) (.q (some 104) none (.mov (.tmp 105)) .done)) false 20 [0, 5, 6, 8, 104],
  .cnd (.tmp 86) 17 21,
  .reg (.q (some 87) none (.bin .eql (.tmp 50) (.const (.int .i64 5))) (.q (some 86) none (.mov (.tmp 87)) .done)) false 22 [0, 5, 6, 7, 8, 50, 86],
  .cnd (.tmp 79) 12 23,
  .reg (.q (some 80) none (.bin .eql (.tmp 50) (.const (.int .i64 4))) (.q (some 79) none (.mov (.tmp 80)) .done)) false 24 [0, 5, 6, 7, 8, 50, 79],
  .cnd (.tmp 71) 11 25,
  .reg (.q (some 72) none (.bin .eql (.tmp 50) (.const (.int .i64 3))) (.q (some 71) none (.mov (.tmp 72)) .done)) false 26 [0, 5, 6, 7, 8, 50, 71],
  .cnd (.tmp 63) 10 27,
  .reg (.q (some 64) none (.bin .eql (.tmp 50) (.const (.int .i64 2))) (.q (some 63) none (.mov (.tmp 64)) .done)) false 28 [0, 5, 6, 7, 8, 50, 63],
  .cnd (.tmp 55) 9 29,
  .reg (.q (some 56) none (.bin .eql (.tmp 50) (.const (.int .i64 1))) (.q (some 55) none (.mov (.tmp 56)) .done)) false 30 [0, 5, 6, 7, 8, 50, 55],
  .reg (.q (some 49) none (.fadr 0 (.tmp 7)) (.q (some 50) none (.ld1 (.tmp 49)) .done)) false 31 [0, 5, 6, 7, 8, 50],
  .reg (.q (some 9) none (.mov (.const (.bool true))) .done) false 32 [0, 5, 6, 7, 8],
  .reg (.q (some 39) none (.mov (.tmp 0)) (.q (some 40) none (.mov (.tmp 6)) (.q (some 41) none (.iadrS 3 (.tmp 39) (.tmp 40)) (.q (some 42) none (.ldN 3 (.tmp 41)) (.q (some 43) none (.mov (.tmp 0)) (.q (some 44) none (.mov (.tmp 6)) (.q (some 45) none (.iadrS 3 (.tmp 43) (.tmp 44)) (.q (some 46) none (.fadr 2 (.tmp 45)) (.q (some 47) none (.ld1 (.tmp 46)) (.alt (.l (some 48) none (.call 13 [(.tmp 47)]) [⟨42, none, (.ldN 3 (.tmp 41))⟩] (.l (some 7) none (.alloc 31 [(1, (.int .i64 0)), (1, (.int .u64 0)), (1, (.slice none 0 0))]) [⟨42, none, (.ldN 3 (.tmp 41))⟩] (.l none none (.stN 3 (.tmp 7) (.tmp 42)) [] (.q (some 8) none (.mov (.tmp 48)) .done)))) (.l (some 7) none (.alloc 31 [(1, (.int .i64 0)), (1, (.int .u64 0)), (1, (.slice none 0 0))]) [⟨47, none, (.ld1 (.tmp 46))⟩, ⟨42, none, (.ldN 3 (.tmp 41))⟩] (.l (some 48) none (.call 13 [(.tmp 47)]) [⟨42, none, (.ldN 3 (.tmp 41))⟩] (.l none none (.stN 3 (.tmp 7) (.tmp 42)) [] (.q (some 8) none (.mov (.tmp 48)) .done)))))))))))))) true 33 [0, 5, 6, 7, 8],
  .cnd (.tmp 36) 34 2,
  .reg (.q (some 29) none (.mov (.tmp 6)) (.q (some 30) none (.mov (.tmp 0)) (.q (some 31) none (.len (.tmp 30)) (.q (some 32) none (.bin .lss (.tmp 29) (.tmp 31)) (.q (some 33) none (.mov (.tmp 32)) (.q (some 34) (some (33, true)) (.mov (.tmp 6)) (.q (some 35) (some (33, true)) (.bin .lss (.tmp 34) (.const (.int .i64 40))) (.q (some 36) none (.pick (.tmp 33) (.tmp 35) (.const (.bool false))) .done)))))))) false 35 [0, 5, 6, 36],
  .reg (.q (some 6) none (.mov (.const (.int .i64 0))) .done) false 36 [0, 5, 6],
  .reg (.l (some 27) none (.call 10 [(.tmp 3)]) [] (.l (some 28) none (.call 17 [(.tmp 27)]) [] (.q (some 5) none (.mov (.tmp 28)) .done))) false 37 [0, 5],
  .jmp 43,
  .reg (.q (some 20) none (.mov (.tmp 4)) (.q (some 21) none (.bin .add (.tmp 20) (.const (.int .i64 1))) (.q (some 4) none (.mov (.tmp 21)) .done))) false 39 [0, 3, 4],
  .reg (.q (some 22) none (.mov (.tmp 0)) (.q (some 23) none (.mov (.tmp 4)) (.q (some 24) none (.iadrS 3 (.tmp 22) (.tmp 23)) (.q (some 25) none (.ldN 3 (.tmp 24)) (.l (some 26) none (.call 8 [(.tmp 3), (.const (.slice none 0 0)), (.tmp 25)]) [] .done))))) false 40 [0, 3, 4],
  .cnd (.tmp 19) 41 38,
  .reg (.q (some 12) none (.mov (.tmp 4)) (.q (some 13) none (.mov (.tmp 0)) (.q (some 14) none (.len (.tmp 13)) (.q (some 15) none (.bin .lss (.tmp 12) (.tmp 14)) (.q (some 16) none (.mov (.tmp 15)) (.q (some 17) (some (16, true)) (.mov (.tmp 4)) (.q (some 18) (some (16, true)) (.bin .lss (.tmp 17) (.const (.int .i64 40))) (.q (some 19) none (.pick (.tmp 16) (.tmp 18) (.const (.bool false))) .done)))))))) false 42 [0, 3, 4, 19],
  .reg (.q (some 4) none (.mov (.const (.int .i64 0))) .done) false 43 [0, 3, 4],
  .reg (.l (some 3) none (.alloc 26 [(1, (.slice none 0 0))]) [] .done) false 44 [0, 3],
  .ret [.t 2],
  .reg (.q (some 2) none (.mov (.const (.bool false))) .done) false 46 [2],
  .cnd (.tmp 11) 47 45,
  .reg (.l (some 10) none (.call 7 []) [] (.q (some 11) none (.not (.tmp 10)) .done)) false 48 [0, 11],
  .reg (.q (some 2) none (.mov (.const (.bool false))) .done) false 49 [0]
  ]
theorem c6_ok : cfgL Try.prog 6 = some (122, 50, c6.map Vc.Node.bare) := by kernel_rfl
/- strongbox/strongboxlaw01.awake: entry 6 -/
def c7 : List Vc.Node := [
  .ret [.t 0],
  .ret [.t 0],
  .reg (.l (some 6) none (.call 10 [(.tmp 1)]) [] (.q (some 7) none (.b2s (.tmp 6)) (.q (some 8) none (.bin .eql (.tmp 7) (.const (.string ⟨#[254, 112, 17, 1, 0]⟩))) (.q (some 9) none (.mov (.tmp 8)) (.q (some 10) (some (9, true)) (.mov (.tmp 2)) (.q (some 11) (some (9, true)) (.eqP true (.tmp 10) (.const (.pointer none))) (.q (some 12) none (.pick (.tmp 9) (.tmp 11) (.const (.bool false))) (.q (some 13) none (.mov (.tmp 12)) (.q (some 14) (some (13, true)) (.mov (.tmp 2)) (.l (some 15) (some (13, true)) (.call 30 [(.tmp 14)]) [] (.q (some 16) (some (13, true)) (.bin .eql (.tmp 15) (.const (.int .u64 0))) (.q (some 17) none (.pick (.tmp 13) (.tmp 16) (.const (.bool false))) (.q (some 18) none (.mov (.tmp 17)) (.q (some 19) (some (18, true)) (.mov (.tmp 2)) (.l (some 20) (some (18, true)) (.call 24 [(.tmp 19)]) [] (.q (some 21) (some (18, true)) (.bin .eql (.tmp 20) (.const (.int .i64 3))) (.q (some 22) none (.pick (.tmp 18) (.tmp 21) (.const (.bool false))) (.q (some 23) none (.mov (.tmp 22)) (.l (some 24) (some (23, true)) (.call 11 [(.const (.int .u64 253))]) [] (.q (some 25) (some (23, true)) (.bin .eql (.tmp 24) (.const (.int .i64 3))) (.q (some 26) none (.pick (.tmp 23) (.tmp 25) (.const (.bool false))) (.q (some 0) none (.mov (.tmp 26)) .done)))))))))))))))))))))) false 1 [0],
  .reg (.l (some 4) none (.bldS 5 1 [(.const (.int .u8 253)), (.const (.int .u8 252)), (.const (.int .u8 0))]) [] (.l (some 5) none (.call 17 [(.tmp 4)]) [] (.q (some 2) none (.mov (.tmp 5)) .done))) false 2 [1, 2],
  .reg (.l (some 3) none (.call 32 [(.tmp 1), (.const (.int .u64 70000))]) [] .done) false 3 [1],
  .reg (.l (some 1) none (.alloc 26 [(1, (.slice none 0 0))]) [] .done) false 4 [1],
  .reg (.q (some 0) none (.mov (.const (.bool false))) .done) false 5 []
  ]
theorem c7_ok : cfgL Try.prog 7 = some (27, 6, c7.map Vc.Node.bare) := by kernel_rfl
/- strongbox/strongboxlaw01.write: entry 36 -/
def c8 : List Vc.Node := [
  .ret [.t 6],
  .ret [.t 6],
  .reg (.q (some 85) none (.mov (.tmp 1)) (.q (some 86) none (.mov (.tmp 7)) (.l (some 87) none (.call 20 [(.tmp 86)]) [] (.l (some 88) none (.app 5 1 1 [(1, (.int .u8 0))] (.tmp 85) (.tmp 87)) [] (.q (some 6) none (.mov (.tmp 88)) .done))))) false 1 [6],
  .reg (.q (some 82) none (.mov (.tmp 0)) (.q (some 83) none (.mov (.tmp 7)) (.l (some 84) none (.call 15 [(.tmp 82), (.tmp 83)]) [] .done))) false 2 [1, 7],
  .ret [.t 6],
  .reg (.q (some 20) none (.mov (.tmp 1)) (.q (some 21) none (.fadr 1 (.tmp 5)) (.q (some 22) none (.ld1 (.tmp 21)) (.q (some 23) none (.cvi .u8 (.tmp 22)) (.l (some 24) none (.bldS 5 1 [(.tmp 23)]) [] (.l (some 25) none (.app 5 1 1 [(1, (.int .u8 0))] (.tmp 20) (.tmp 24)) [] (.q (some 6) none (.mov (.tmp 25)) .done))))))) false 4 [6],
  .reg (.q (some 15) none (.mov (.tmp 0)) (.q (some 16) none (.fadr 1 (.tmp 5)) (.q (some 17) none (.ld1 (.tmp 16)) (.q (some 18) none (.cvi .u8 (.tmp 17)) (.l (some 19) none (.call 33 [(.tmp 15), (.tmp 18)]) [] .done))))) false 5 [1, 5],
  .ret [.t 6],
  .reg (.q (some 33) none (.mov (.tmp 1)) (.q (some 34) none (.fadr 1 (.tmp 5)) (.q (some 35) none (.ld1 (.tmp 34)) (.q (some 36) none (.bin .rem (.tmp 35) (.const (.int .u64 65536))) (.l (some 37) none (.call 35 [(.tmp 36), (.const (.int .i64 2))]) [] (.l (some 38) none (.app 5 1 1 [(1, (.int .u8 0))] (.tmp 33) (.tmp 37)) [] (.q (some 6) none (.mov (.tmp 38)) .done))))))) false 7 [6],
  .reg (.q (some 28) none (.mov (.tmp 0)) (.q (some 29) none (.fadr 1 (.tmp 5)) (.q (some 30) none (.ld1 (.tmp 29)) (.q (some 31) none (.cvi .u16 (.tmp 30)) (.l (some 32) none (.call 34 [(.tmp 28), (.tmp 31)]) [] .done))))) false 8 [1, 5],
  .ret [.t 6],
  .reg (.q (some 46) none (.mov (.tmp 1)) (.q (some 47) none (.fadr 1 (.tmp 5)) (.q (some 48) none (.ld1 (.tmp 47)) (.q (some 49) none (.bin .rem (.tmp 48) (.const (.int .u64 4294967296))) (.l (some 50) none (.call 35 [(.tmp 49), (.const (.int .i64 4))]) [] (.l (some 51) none (.app 5 1 1 [(1, (.int .u8 0))] (.tmp 46) (.tmp 50)) [] (.q (some 6) none (.mov (.tmp 51)) .done))))))) false 10 [6],
  .reg (.q (some 41) none (.mov (.tmp 0)) (.q (some 42) none (.fadr 1 (.tmp 5)) (.q (some 43) none (.ld1 (.tmp 42)) (.q (some 44) none (.cvi .u32 (.tmp 43)) (.l (some 45) none (.call 36 [(.tmp 41), (.tmp 44)]) [] .done))))) false 11 [1, 5],
  .ret [.t 6],
  .reg (.q (some 58) none (.mov (.tmp 1)) (.q (some 59) none (.fadr 1 (.tmp 5)) (.q (some 60) none (.ld1 (.tmp 59)) (.l (some 61) none (.call 35 [(.tmp 60), (.const (.int .i64 8))]) [] (.l (some 62) none (.app 5 1 1 [(1, (.int .u8 0))] (.tmp 58) (.tmp 61)) [] (.q (some 6) none (.mov (.tmp 62)) .done)))))) false 13 [6],
  .reg (.q (some 54) none (.mov (.tmp 0)) (.q (some 55) none (.fadr 1 (.tmp 5)) (.q (some 56) none (.ld1 (.tmp 55)) (.l (some 57) none (.call 37 [(.tmp 54), (.tmp 56)]) [] .done)))) false 14 [1, 5],
  .ret [.t 6],
  .reg (.q (some 69) none (.mov (.tmp 1)) (.q (some 70) none (.fadr 1 (.tmp 5)) (.q (some 71) none (.ld1 (.tmp 70)) (.l (some 72) none (.call 12 [(.tmp 71)]) [] (.l (some 73) none (.app 5 1 1 [(1, (.int .u8 0))] (.tmp 69) (.tmp 72)) [] (.q (some 6) none (.mov (.tmp 73)) .done)))))) false 16 [6],
  .reg (.q (some 65) none (.mov (.tmp 0)) (.q (some 66) none (.fadr 1 (.tmp 5)) (.q (some 67) none (.ld1 (.tmp 66)) (.l (some 68) none (.call 32 [(.tmp 65), (.tmp 67)]) [] .done)))) false 17 [1, 5],
  .ret [.t 6],
  .reg (.q (some 79) none (.mov (.tmp 1)) (.q (some 80) none (.mov (.tmp 7)) (.l (some 81) none (.app 5 1 1 [(1, (.int .u8 0))] (.tmp 79) (.tmp 80)) [] (.q (some 6) none (.mov (.tmp 81)) .done)))) false 19 [6],
  .reg (.q (some 76) none (.mov (.tmp 0)) (.q (some 77) none (.mov (.tmp 7)) (.l (some 78) none (.call 16 [(.tmp 76), (.tmp 77)]) [] .done))) false 20 [1, 7],
  .cnd (.tmp 74) 21 3,
  .reg (.q (some 75) none (.bin .eql (.tmp 12) (.const (.int .i64 6))) (.q (some 74) none (.mov (.tmp 75)) .done)) false 22 [0, 1, 7, 74],
  .cnd (.tmp 63) 18 23,
  .reg (.q (some 64) none (.bin .eql (.tmp 12) (.const (.int .i64 5))) (.q (some 63) none (.mov (.tmp 64)) .done)) false 24 [0, 1, 5, 7, 12, 63],
  .cnd (.tmp 52) 15 25,
  .reg (.q (some 53) none (.bin .eql (.tmp 12) (.const (.int .i64 4))) (.q (some 52) none (.mov (.tmp 53)) .done)) false 26 [0, 1, 5, 7, 12, 52],
  .cnd (.tmp 39) 12 27,
  .reg (.q (some 40) none (.bin .eql (.tmp 12) (.const (.int .i64 3))) (.q (some 39) none (.mov (.tmp 40)) .done)) false 28 [0, 1, 5, 7, 12, 39],
  .cnd (.tmp 26) 9 29,
  .reg (.q (some 27) none (.bin .eql (.tmp 12) (.const (.int .i64 2))) (.q (some 26) none (.mov (.tmp 27)) .done)) false 30 [0, 1, 5, 7, 12, 26],
  .cnd (.tmp 13) 6 31,
  .reg (.q (some 14) none (.bin .eql (.tmp 12) (.const (.int .i64 1))) (.q (some 13) none (.mov (.tmp 14)) .done)) false 32 [0, 1, 5, 7, 12, 13],
  .reg (.q (some 11) none (.fadr 0 (.tmp 5)) (.q (some 12) none (.ld1 (.tmp 11)) .done)) false 33 [0, 1, 5, 7, 12],
  .reg (.q (some 8) none (.fadr 2 (.tmp 5)) (.q (some 9) none (.ld1 (.tmp 8)) (.l (some 10) none (.call 13 [(.tmp 9)]) [] (.q (some 7) none (.mov (.tmp 10)) .done)))) false 34 [0, 1, 5, 7],
  .reg (.l (some 5) none (.box 31 (.tmp 2)) [] (.q (some 6) none (.mov (.const (.slice none 0 0))) .done)) false 35 [0, 1, 5]
  ]
theorem c8_ok : cfgL Try.prog 8 = some (89, 36, c8.map Vc.Node.bare) := by kernel_rfl
/- strongbox/strongboxref01.Equal: entry 3 -/
def c9 : List Vc.Node := [
  .ret [.t 4],
  .ret [.t 4],
  .reg (.q (some 5) none (.mov (.tmp 0)) (.q (some 6) none (.b2s (.tmp 5)) (.q (some 7) none (.mov (.tmp 1)) (.q (some 8) none (.b2s (.tmp 7)) (.q (some 9) none (.bin .eql (.tmp 6) (.tmp 8)) (.q (some 4) none (.mov (.tmp 9)) .done)))))) false 1 [4],
  .reg (.q (some 4) none (.mov (.const (.bool false))) .done) false 2 [0, 1]
  ]
theorem c9_ok : cfgL Try.prog 9 = some (10, 3, c9.map Vc.Node.bare) := by kernel_rfl
/- (*strongbox/wire.Writer).Out: entry 3 -/
def c10 : List Vc.Node := [
  .ret [.t 2],
  .ret [.t 2],
  .reg (.q (some 3) none (.mov (.tmp 0)) (.q (some 4) none (.nc (.tmp 3)) (.q (some 5) none (.fadr 0 (.tmp 4)) (.q (some 6) none (.ld1 (.tmp 5)) (.l (some 7) none (.call 38 [(.tmp 6)]) [] (.q (some 2) none (.mov (.tmp 7)) .done)))))) false 1 [2],
  .reg (.q (some 2) none (.mov (.const (.slice none 0 0))) .done) false 2 [0]
  ]
theorem c10_ok : cfgL Try.prog 10 = some (8, 3, c10.map Vc.Node.bare) := by kernel_rfl
/- strongbox/wire.Length: entry 3 -/
def c11 : List Vc.Node := [
  .ret [.t 2],
  .ret [.t 2],
  .reg (.q (some 3) none (.mov (.tmp 0)) (.l (some 4) none (.call 39 [(.tmp 3)]) [] (.q (some 5) none (.bin .add (.tmp 4) (.const (.int .i64 1))) (.q (some 2) none (.mov (.tmp 5)) .done)))) false 1 [2],
  .reg (.q (some 2) none (.mov (.const (.int .i64 0))) .done) false 2 [0]
  ]
theorem c11_ok : cfgL Try.prog 11 = some (6, 3, c11.map Vc.Node.bare) := by kernel_rfl
/- strongbox/strongboxref01.Size: entry 15 -/
def c12 : List Vc.Node := [
  .ret [.t 2],
  .ret [.t 2],
  .reg (.l (some 23) none (.bldS 5 1 [(.const (.int .u8 255))]) [] (.q (some 24) none (.mov (.tmp 0)) (.l (some 25) none (.call 35 [(.tmp 24), (.const (.int .i64 8))]) [] (.l (some 26) none (.app 5 1 1 [(1, (.int .u8 0))] (.tmp 23) (.tmp 25)) [] (.q (some 2) none (.mov (.tmp 26)) .done))))) false 1 [2],
  .ret [.t 2],
  .reg (.q (some 6) none (.mov (.tmp 0)) (.q (some 7) none (.cvi .u8 (.tmp 6)) (.l (some 8) none (.bldS 5 1 [(.tmp 7)]) [] (.q (some 2) none (.mov (.tmp 8)) .done)))) false 3 [2],
  .ret [.t 2],
  .reg (.l (some 12) none (.bldS 5 1 [(.const (.int .u8 253))]) [] (.q (some 13) none (.mov (.tmp 0)) (.l (some 14) none (.call 35 [(.tmp 13), (.const (.int .i64 2))]) [] (.l (some 15) none (.app 5 1 1 [(1, (.int .u8 0))] (.tmp 12) (.tmp 14)) [] (.q (some 2) none (.mov (.tmp 15)) .done))))) false 5 [2],
  .ret [.t 2],
  .reg (.l (some 19) none (.bldS 5 1 [(.const (.int .u8 254))]) [] (.q (some 20) none (.mov (.tmp 0)) (.l (some 21) none (.call 35 [(.tmp 20), (.const (.int .i64 4))]) [] (.l (some 22) none (.app 5 1 1 [(1, (.int .u8 0))] (.tmp 19) (.tmp 21)) [] (.q (some 2) none (.mov (.tmp 22)) .done))))) false 7 [2],
  .cnd (.tmp 16) 8 2,
  .reg (.q (some 17) none (.mov (.tmp 0)) (.q (some 18) none (.bin .leq (.tmp 17) (.const (.int .u64 4294967295))) (.q (some 16) none (.mov (.tmp 18)) .done))) false 9 [0, 16],
  .cnd (.tmp 9) 6 10,
  .reg (.q (some 10) none (.mov (.tmp 0)) (.q (some 11) none (.bin .leq (.tmp 10) (.const (.int .u64 65535))) (.q (some 9) none (.mov (.tmp 11)) .done))) false 11 [0, 9],
  .cnd (.tmp 3) 4 12,
  .reg (.q (some 4) none (.mov (.tmp 0)) (.q (some 5) none (.bin .leq (.tmp 4) (.const (.int .u64 252))) (.q (some 3) none (.mov (.tmp 5)) .done))) false 13 [0, 3],
  .reg (.q (some 2) none (.mov (.const (.slice none 0 0))) .done) false 14 [0]
  ]
theorem c12_ok : cfgL Try.prog 12 = some (27, 15, c12.map Vc.Node.bare) := by kernel_rfl
/- strongbox/strongboxlaw01.short: entry 7 -/
def c13 : List Vc.Node := [
  .ret [.t 2],
  .ret [.t 2],
  .reg (.q (some 8) none (.mov (.tmp 0)) (.q (some 2) none (.mov (.tmp 8)) .done)) false 1 [2],
  .ret [.t 2],
  .reg (.q (some 6) none (.mov (.tmp 0)) (.q (some 7) none (.slcS 1 (.tmp 6) none (some (.const (.int .i64 300)))) (.q (some 2) none (.mov (.tmp 7)) .done))) false 3 [2],
  .cnd (.tmp 5) 4 2,
  .reg (.q (some 3) none (.mov (.tmp 0)) (.q (some 4) none (.len (.tmp 3)) (.q (some 5) none (.bin .gtr (.tmp 4) (.const (.int .i64 300))) .done))) false 5 [0, 5],
  .reg (.q (some 2) none (.mov (.const (.slice none 0 0))) .done) false 6 [0]
  ]
theorem c13_ok : cfgL Try.prog 13 = some (9, 7, c13.map Vc.Node.bare) := by kernel_rfl
/- strongbox/strongboxref01.Spare: entry 13 -/
def c14 : List Vc.Node := [
  .ret [.t 2, .t 3],
  .ret [.t 2, .t 3],
  .reg (.q (some 33) none (.mov (.tmp 4)) (.q (some 34) none (.mov (.tmp 0)) (.q (some 35) none (.len (.tmp 34)) (.q (some 36) none (.slcS 1 (.tmp 33) none (some (.tmp 35))) (.q (some 37) none (.mov (.tmp 4)) (.q (some 2) none (.mov (.tmp 36)) (.q (some 3) none (.mov (.tmp 37)) .done))))))) false 1 [2, 3],
  .jmp 10,
  .reg (.q (some 14) none (.mov (.tmp 5)) (.q (some 15) none (.bin .add (.tmp 14) (.const (.int .i64 1))) (.q (some 5) none (.mov (.tmp 15)) .done))) false 3 [0, 4, 5],
  .reg (.q (some 26) none (.mov (.tmp 4)) (.q (some 27) none (.mov (.tmp 5)) (.q (some 28) none (.mov (.tmp 0)) (.q (some 29) none (.mov (.tmp 5)) (.q (some 30) none (.iadrS 1 (.tmp 28) (.tmp 29)) (.q (some 31) none (.ld1 (.tmp 30)) (.q (some 32) none (.iadrS 1 (.tmp 26) (.tmp 27)) (.l none none (.st1 (.tmp 32) (.tmp 31)) [] .done)))))))) false 4 [0, 4, 5],
  .cnd (.tmp 25) 5 4,
  .reg (.q (some 22) none (.mov (.tmp 5)) (.q (some 23) none (.mov (.tmp 0)) (.q (some 24) none (.len (.tmp 23)) (.q (some 25) none (.bin .lss (.tmp 22) (.tmp 24)) .done)))) false 6 [0, 4, 5, 25],
  .reg (.q (some 16) none (.mov (.tmp 4)) (.q (some 17) none (.mov (.tmp 5)) (.q (some 18) none (.mov (.tmp 5)) (.q (some 19) none (.bin .add (.const (.int .i64 201)) (.tmp 18)) (.q (some 20) none (.cvi .u8 (.tmp 19)) (.q (some 21) none (.iadrS 1 (.tmp 16) (.tmp 17)) (.l none none (.st1 (.tmp 21) (.tmp 20)) [] .done))))))) false 7 [0, 4, 5],
  .cnd (.tmp 13) 8 2,
  .reg (.q (some 10) none (.mov (.tmp 5)) (.q (some 11) none (.mov (.tmp 4)) (.q (some 12) none (.len (.tmp 11)) (.q (some 13) none (.bin .lss (.tmp 10) (.tmp 12)) .done)))) false 9 [0, 4, 5, 13],
  .reg (.q (some 5) none (.mov (.const (.int .i64 0))) .done) false 10 [0, 4, 5],
  .reg (.q (some 6) none (.mov (.tmp 0)) (.q (some 7) none (.len (.tmp 6)) (.q (some 8) none (.bin .add (.tmp 7) (.const (.int .i64 9))) (.l (some 9) none (.mkS 5 1 1 [(1, (.int .u8 0))] (.tmp 8) (.tmp 8)) [] (.q (some 4) none (.mov (.tmp 9)) .done))))) false 11 [0, 4],
  .reg (.q (some 2) none (.mov (.const (.slice none 0 0))) (.q (some 3) none (.mov (.const (.slice none 0 0))) .done)) false 12 [0]
  ]
theorem c14_ok : cfgL Try.prog 14 = some (38, 13, c14.map Vc.Node.bare) := by kernel_rfl
/- (*strongbox/wire.Writer).Bytes: entry 2 -/
def c15 : List Vc.Node := [
  .ret [],
  .reg (.q (some 9) none (.mov (.tmp 0)) (.q (some 10) none (.mov (.tmp 1)) (.l (some 11) none (.call 16 [(.tmp 9), (.tmp 10)]) [] .done))) false 0 [],
  .reg (.q (some 4) none (.mov (.tmp 0)) (.q (some 5) none (.mov (.tmp 1)) (.q (some 6) none (.len (.tmp 5)) (.q (some 7) none (.cvi .u64 (.tmp 6)) (.l (some 8) none (.call 32 [(.tmp 4), (.tmp 7)]) [] .done))))) false 1 [0, 1]
  ]
theorem c15_ok : cfgL Try.prog 15 = some (12, 2, c15.map Vc.Node.bare) := by kernel_rfl
/- (*strongbox/wire.Writer).Raw: entry 1 -/
def c16 : List Vc.Node := [
  .ret [],
  .reg (.q (some 4) none (.mov (.tmp 0)) (.q (some 5) none (.mov (.tmp 0)) (.q (some 6) none (.nc (.tmp 5)) (.q (some 7) none (.fadr 0 (.tmp 6)) (.q (some 8) none (.ld1 (.tmp 7)) (.q (some 9) none (.mov (.tmp 1)) (.l (some 10) none (.app 5 1 1 [(1, (.int .u8 0))] (.tmp 8) (.tmp 9)) [] (.q (some 11) none (.nc (.tmp 4)) (.q (some 12) none (.fadr 0 (.tmp 11)) (.l none none (.st1 (.tmp 12) (.tmp 10)) [] .done)))))))))) false 0 []
  ]
theorem c16_ok : cfgL Try.prog 16 = some (13, 1, c16.map Vc.Node.bare) := by kernel_rfl
/- strongbox/wire.Open: entry 3 -/
def c17 : List Vc.Node := [
  .ret [.t 2],
  .ret [.t 2],
  .reg (.q (some 3) none (.mov (.tmp 0)) (.l (some 4) none (.call 38 [(.tmp 3)]) [] (.q (some 5) none (.bld [.x 1 (.tmp 4), .z [(1, (.int .i64 0))]]) (.l (some 6) none (.box 68 (.tmp 5)) [] (.q (some 2) none (.mov (.tmp 6)) .done))))) false 1 [2],
  .reg (.q (some 2) none (.mov (.const (.pointer none))) .done) false 2 [0]
  ]
theorem c17_ok : cfgL Try.prog 17 = some (7, 3, c17.map Vc.Node.bare) := by kernel_rfl
/- (*strongbox/wire.Reader).Raw: entry 3 -/
def c18 : List Vc.Node := [
  .ret [.t 4],
  .ret [.t 4],
  .reg (.q (some 5) none (.mov (.tmp 0)) (.q (some 6) none (.mkF 41 [] [(.tmp 3)]) (.l (some 7) none (.call 40 [(.tmp 5), (.tmp 6)]) [] (.q (some 4) none (.mov (.tmp 7)) .done)))) false 1 [4],
  .reg (.l (some 3) none (.box 3 (.tmp 1)) [] (.q (some 4) none (.mov (.const (.slice none 0 0))) .done)) false 2 [0, 3]
  ]
theorem c18_ok : cfgL Try.prog 18 = some (8, 3, c18.map Vc.Node.bare) := by kernel_rfl
/- (*strongbox/wire.Reader).Bytes: entry 3 -/
def c19 : List Vc.Node := [
  .ret [.t 4],
  .ret [.t 4],
  .reg (.q (some 5) none (.mov (.tmp 0)) (.q (some 6) none (.mkF 43 [] [(.tmp 3)]) (.l (some 7) none (.call 40 [(.tmp 5), (.tmp 6)]) [] (.q (some 4) none (.mov (.tmp 7)) .done)))) false 1 [4],
  .reg (.l (some 3) none (.box 3 (.tmp 1)) [] (.q (some 4) none (.mov (.const (.slice none 0 0))) .done)) false 2 [0, 3]
  ]
theorem c19_ok : cfgL Try.prog 19 = some (8, 3, c19.map Vc.Node.bare) := by kernel_rfl
/- strongbox/strongboxref01.Text: entry 3 -/
def c20 : List Vc.Node := [
  .ret [.t 2],
  .ret [.t 2],
  .reg (.q (some 3) none (.mov (.tmp 0)) (.q (some 4) none (.len (.tmp 3)) (.q (some 5) none (.cvi .u64 (.tmp 4)) (.l (some 6) none (.call 12 [(.tmp 5)]) [] (.q (some 7) none (.mov (.tmp 0)) (.l (some 8) none (.app 5 1 1 [(1, (.int .u8 0))] (.tmp 6) (.tmp 7)) [] (.q (some 2) none (.mov (.tmp 8)) .done))))))) false 1 [2],
  .reg (.q (some 2) none (.mov (.const (.slice none 0 0))) .done) false 2 [0]
  ]
theorem c20_ok : cfgL Try.prog 20 = some (9, 3, c20.map Vc.Node.bare) := by kernel_rfl
/- strongbox/strongboxref01.Kept: entry 16 -/
def c21 : List Vc.Node := [
  .ret [.t 4],
  .ret [.t 4],
  .reg (.q (some 4) none (.mov (.const (.bool true))) .done) false 1 [4],
  .jmp 10,
  .reg (.q (some 16) none (.mov (.tmp 5)) (.q (some 17) none (.bin .add (.tmp 16) (.const (.int .i64 1))) (.q (some 5) none (.mov (.tmp 17)) .done))) false 3 [0, 1, 5],
  .ret [.t 4],
  .reg (.q (some 4) none (.mov (.const (.bool false))) .done) false 5 [4],
  .cnd (.tmp 48) 6 4,
  .reg (.q (some 18) none (.mov (.tmp 5)) (.q (some 19) none (.mov (.tmp 1)) (.q (some 20) none (.len (.tmp 19)) (.q (some 21) none (.bin .lss (.tmp 18) (.tmp 20)) (.q (some 22) none (.mov (.tmp 21)) (.q (some 23) (some (22, true)) (.mov (.tmp 0)) (.q (some 24) (some (22, true)) (.mov (.tmp 5)) (.q (some 25) (some (22, true)) (.iadrS 1 (.tmp 23) (.tmp 24)) (.q (some 26) (some (22, true)) (.ld1 (.tmp 25)) (.q (some 27) (some (22, true)) (.mov (.tmp 1)) (.q (some 28) (some (22, true)) (.mov (.tmp 5)) (.q (some 29) (some (22, true)) (.iadrS 1 (.tmp 27) (.tmp 28)) (.q (some 30) (some (22, true)) (.ld1 (.tmp 29)) (.q (some 31) (some (22, true)) (.bin .neq (.tmp 26) (.tmp 30)) (.q (some 32) none (.pick (.tmp 22) (.tmp 31) (.const (.bool false))) (.q (some 33) none (.mov (.tmp 32)) (.q (some 34) (some (33, false)) (.mov (.tmp 5)) (.q (some 35) (some (33, false)) (.mov (.tmp 1)) (.q (some 36) (some (33, false)) (.len (.tmp 35)) (.q (some 37) (some (33, false)) (.bin .geq (.tmp 34) (.tmp 36)) (.q (some 38) (some (33, false)) (.mov (.tmp 37)) (.q (some 39) (some (38, true)) (.mov (.tmp 0)) (.q (some 40) (some (38, true)) (.mov (.tmp 5)) (.q (some 41) (some (38, true)) (.iadrS 1 (.tmp 39) (.tmp 40)) (.q (some 42) (some (38, true)) (.ld1 (.tmp 41)) (.q (some 43) (some (38, true)) (.mov (.tmp 5)) (.q (some 44) (some (38, true)) (.bin .add (.const (.int .i64 201)) (.tmp 43)) (.q (some 45) (some (38, true)) (.cvi .u8 (.tmp 44)) (.q (some 46) (some (38, true)) (.bin .neq (.tmp 42) (.tmp 45)) (.q (some 47) (some (33, false)) (.pick (.tmp 38) (.tmp 46) (.const (.bool false))) (.q (some 48) none (.pick (.tmp 33) (.const (.bool true)) (.tmp 47)) .done))))))))))))))))))))))))))))))) true 7 [0, 1, 5, 48],
  .cnd (.tmp 15) 8 2,
  .reg (.q (some 12) none (.mov (.tmp 5)) (.q (some 13) none (.mov (.tmp 0)) (.q (some 14) none (.len (.tmp 13)) (.q (some 15) none (.bin .lss (.tmp 12) (.tmp 14)) .done)))) false 9 [0, 1, 5, 15],
  .reg (.q (some 5) none (.mov (.const (.int .i64 0))) .done) false 10 [0, 1, 5],
  .ret [.t 4],
  .reg (.q (some 4) none (.mov (.const (.bool false))) .done) false 12 [4],
  .cnd (.tmp 11) 13 11,
  .reg (.q (some 6) none (.mov (.tmp 0)) (.q (some 7) none (.len (.tmp 6)) (.q (some 8) none (.mov (.tmp 1)) (.q (some 9) none (.len (.tmp 8)) (.q (some 10) none (.bin .add (.tmp 9) (.const (.int .i64 9))) (.q (some 11) none (.bin .neq (.tmp 7) (.tmp 10)) .done)))))) false 14 [0, 1, 11],
  .reg (.q (some 4) none (.mov (.const (.bool false))) .done) false 15 [0, 1]
  ]
theorem c21_ok : cfgL Try.prog 21 = some (49, 16, c21.map Vc.Node.bare) := by kernel_rfl
/- strongbox/strongboxref01.Apart: entry 35 -/
def c22 : List Vc.Node := [
  .ret [.t 2],
  .ret [.t 2],
  .reg (.q (some 2) none (.mov (.const (.bool true))) .done) false 1 [2],
  .jmp 15,
  .reg (.q (some 56) none (.mov (.tmp 7)) (.q (some 57) none (.bin .add (.tmp 56) (.const (.int .i64 1))) (.q (some 7) none (.mov (.tmp 57)) .done))) false 3 [0, 7],
  .jmp 12,
  .reg (.q (some 65) none (.mov (.tmp 8)) (.q (some 66) none (.bin .add (.tmp 65) (.const (.int .i64 1))) (.q (some 8) none (.mov (.tmp 66)) .done))) false 5 [0, 7, 8],
  .ret [.t 2],
  .reg (.q (some 2) none (.mov (.const (.bool false))) .done) false 7 [2],
  .cnd (.tmp 79) 8 6,
  .reg (.q (some 67) none (.mov (.tmp 0)) (.q (some 68) none (.mov (.tmp 7)) (.q (some 69) none (.iadrS 1 (.tmp 67) (.tmp 68)) (.q (some 70) none (.ld1 (.tmp 69)) (.q (some 71) none (.mov (.tmp 8)) (.q (some 72) none (.iadrS 1 (.tmp 70) (.tmp 71)) (.q (some 73) none (.ld1 (.tmp 72)) (.q (some 74) none (.mov (.tmp 7)) (.q (some 75) none (.bin .mul (.const (.int .i64 7)) (.tmp 74)) (.q (some 76) none (.mov (.tmp 8)) (.q (some 77) none (.bin .add (.tmp 75) (.tmp 76)) (.q (some 78) none (.cvi .u8 (.tmp 77)) (.q (some 79) none (.bin .neq (.tmp 73) (.tmp 78)) .done))))))))))))) false 9 [0, 7, 8, 79],
  .cnd (.tmp 64) 10 4,
  .reg (.q (some 58) none (.mov (.tmp 8)) (.q (some 59) none (.mov (.tmp 0)) (.q (some 60) none (.mov (.tmp 7)) (.q (some 61) none (.iadrS 1 (.tmp 59) (.tmp 60)) (.q (some 62) none (.ld1 (.tmp 61)) (.q (some 63) none (.len (.tmp 62)) (.q (some 64) none (.bin .lss (.tmp 58) (.tmp 63)) .done))))))) false 11 [0, 7, 8, 64],
  .reg (.q (some 8) none (.mov (.const (.int .i64 0))) .done) false 12 [0, 7, 8],
  .cnd (.tmp 55) 13 2,
  .reg (.q (some 52) none (.mov (.tmp 7)) (.q (some 53) none (.mov (.tmp 0)) (.q (some 54) none (.len (.tmp 53)) (.q (some 55) none (.bin .lss (.tmp 52) (.tmp 54)) .done)))) false 14 [0, 7, 55],
  .reg (.q (some 7) none (.mov (.const (.int .i64 0))) .done) false 15 [0, 7],
  .jmp 22,
  .reg (.q (some 39) none (.mov (.tmp 5)) (.q (some 40) none (.bin .add (.tmp 39) (.const (.int .i64 1))) (.q (some 5) none (.mov (.tmp 40)) .done))) false 17 [0, 5],
  .reg (.q (some 47) none (.mov (.tmp 6)) (.q (some 48) none (.mov (.tmp 6)) (.q (some 49) none (.len (.tmp 48)) (.q (some 50) none (.bin .sub (.tmp 49) (.const (.int .i64 1))) (.q (some 51) none (.iadrS 1 (.tmp 47) (.tmp 50)) (.l none none (.st1 (.tmp 51) (.const (.int .u8 96))) [] .done)))))) false 18 [0, 5],
  .reg (.q (some 41) none (.mov (.tmp 0)) (.q (some 42) none (.mov (.tmp 5)) (.q (some 43) none (.iadrS 1 (.tmp 41) (.tmp 42)) (.q (some 44) none (.ld1 (.tmp 43)) (.l (some 45) none (.bldS 5 1 [(.const (.int .u8 99)), (.const (.int .u8 98)), (.const (.int .u8 97))]) [] (.l (some 46) none (.app 5 1 1 [(1, (.int .u8 0))] (.tmp 44) (.tmp 45)) [] (.q (some 6) none (.mov (.tmp 46)) .done))))))) false 19 [0, 5, 6],
  .cnd (.tmp 38) 20 16,
  .reg (.q (some 35) none (.mov (.tmp 5)) (.q (some 36) none (.mov (.tmp 0)) (.q (some 37) none (.len (.tmp 36)) (.q (some 38) none (.bin .lss (.tmp 35) (.tmp 37)) .done)))) false 21 [0, 5, 38],
  .reg (.q (some 5) none (.mov (.const (.int .i64 0))) .done) false 22 [0, 5],
  .jmp 33,
  .reg (.q (some 13) none (.mov (.tmp 3)) (.q (some 14) none (.bin .add (.tmp 13) (.const (.int .i64 1))) (.q (some 3) none (.mov (.tmp 14)) .done))) false 24 [0, 3],
  .jmp 30,
  .reg (.q (some 22) none (.mov (.tmp 4)) (.q (some 23) none (.bin .add (.tmp 22) (.const (.int .i64 1))) (.q (some 4) none (.mov (.tmp 23)) .done))) false 26 [0, 3, 4],
  .reg (.q (some 24) none (.mov (.tmp 0)) (.q (some 25) none (.mov (.tmp 3)) (.q (some 26) none (.iadrS 1 (.tmp 24) (.tmp 25)) (.q (some 27) none (.ld1 (.tmp 26)) (.q (some 28) none (.mov (.tmp 4)) (.q (some 29) none (.mov (.tmp 3)) (.q (some 30) none (.bin .mul (.const (.int .i64 7)) (.tmp 29)) (.q (some 31) none (.mov (.tmp 4)) (.q (some 32) none (.bin .add (.tmp 30) (.tmp 31)) (.q (some 33) none (.cvi .u8 (.tmp 32)) (.q (some 34) none (.iadrS 1 (.tmp 27) (.tmp 28)) (.l none none (.st1 (.tmp 34) (.tmp 33)) [] .done)))))))))))) false 27 [0, 3, 4],
  .cnd (.tmp 21) 28 25,
  .reg (.q (some 15) none (.mov (.tmp 4)) (.q (some 16) none (.mov (.tmp 0)) (.q (some 17) none (.mov (.tmp 3)) (.q (some 18) none (.iadrS 1 (.tmp 16) (.tmp 17)) (.q (some 19) none (.ld1 (.tmp 18)) (.q (some 20) none (.len (.tmp 19)) (.q (some 21) none (.bin .lss (.tmp 15) (.tmp 20)) .done))))))) false 29 [0, 3, 4, 21],
  .reg (.q (some 4) none (.mov (.const (.int .i64 0))) .done) false 30 [0, 3, 4],
  .cnd (.tmp 12) 31 23,
  .reg (.q (some 9) none (.mov (.tmp 3)) (.q (some 10) none (.mov (.tmp 0)) (.q (some 11) none (.len (.tmp 10)) (.q (some 12) none (.bin .lss (.tmp 9) (.tmp 11)) .done)))) false 32 [0, 3, 12],
  .reg (.q (some 3) none (.mov (.const (.int .i64 0))) .done) false 33 [0, 3],
  .reg (.q (some 2) none (.mov (.const (.bool false))) .done) false 34 [0]
  ]
theorem c22_ok : cfgL Try.prog 22 = some (80, 35, c22.map Vc.Node.bare) := by kernel_rfl
/- strongbox/strongboxlaw01.read: entry 39 -/
def c23 : List Vc.Node := [
  .ret [.cN 6 3, .t 7],
  .ret [.cN 6 3, .t 7],
  .reg (.q (some 117) none (.ldN 3 (.tmp 22)) (.q (some 118) none (.mov (.tmp 0)) (.q (some 119) none (.mov (.tmp 8)) (.q (some 121) none (.mov (.tmp 21)) (.l (some 120) none (.call 19 [(.tmp 118), (.tmp 119)]) [⟨117, none, (.ldN 3 (.tmp 22))⟩] (.l (some 122) none (.call 9 [(.tmp 120), (.tmp 121)]) [⟨117, none, (.ldN 3 (.tmp 22))⟩] (.l none none (.stN 3 (.tmp 6) (.tmp 117)) [] (.q (some 7) none (.mov (.tmp 122)) .done)))))))) true 1 [6, 7],
  .reg (.q (some 112) none (.ldN 3 (.tmp 4)) (.q (some 113) none (.mov (.tmp 8)) (.l (some 114) none (.call 48 [(.tmp 112), (.tmp 113)]) [] (.q (some 111) none (.mov (.tmp 114)) (.q (some 115) none (.ext 0 (.tmp 111)) (.q (some 116) none (.ext 1 (.tmp 111)) (.l (some 22) none (.alloc 49 [(1, (.slice none 0 0)), (2, (.int .i64 0))]) [] (.q (some 21) none (.mov (.tmp 115)) (.l none none (.stN 3 (.tmp 22) (.tmp 116)) [] .done))))))))) false 2 [0, 6, 8, 21, 22],
  .ret [.cN 6 3, .t 7],
  .reg (.q (some 41) none (.ldN 3 (.tmp 10)) (.q (some 42) none (.mov (.tmp 0)) (.q (some 45) none (.mov (.tmp 9)) (.l (some 43) none (.call 26 [(.tmp 42)]) [⟨41, none, (.ldN 3 (.tmp 10))⟩] (.q (some 44) none (.cvi .u64 (.tmp 43)) (.q (some 46) none (.bin .eql (.tmp 44) (.tmp 45)) (.l none none (.stN 3 (.tmp 6) (.tmp 41)) [] (.q (some 7) none (.mov (.tmp 46)) .done)))))))) true 4 [6, 7],
  .reg (.q (some 37) none (.ldN 3 (.tmp 4)) (.l (some 38) none (.call 45 [(.tmp 37), (.const (.int .i64 1))]) [] (.q (some 36) none (.mov (.tmp 38)) (.q (some 39) none (.ext 0 (.tmp 36)) (.q (some 40) none (.ext 1 (.tmp 36)) (.l (some 10) none (.alloc 49 [(1, (.slice none 0 0)), (2, (.int .i64 0))]) [] (.q (some 9) none (.mov (.tmp 39)) (.l none none (.stN 3 (.tmp 10) (.tmp 40)) [] .done)))))))) false 5 [0, 6, 9, 10],
  .ret [.cN 6 3, .t 7],
  .reg (.q (some 54) none (.ldN 3 (.tmp 12)) (.q (some 55) none (.mov (.tmp 0)) (.q (some 58) none (.mov (.tmp 11)) (.l (some 56) none (.call 27 [(.tmp 55)]) [⟨54, none, (.ldN 3 (.tmp 12))⟩] (.q (some 57) none (.cvi .u64 (.tmp 56)) (.q (some 59) none (.bin .eql (.tmp 57) (.tmp 58)) (.l none none (.stN 3 (.tmp 6) (.tmp 54)) [] (.q (some 7) none (.mov (.tmp 59)) .done)))))))) true 7 [6, 7],
  .reg (.q (some 50) none (.ldN 3 (.tmp 4)) (.l (some 51) none (.call 45 [(.tmp 50), (.const (.int .i64 2))]) [] (.q (some 49) none (.mov (.tmp 51)) (.q (some 52) none (.ext 0 (.tmp 49)) (.q (some 53) none (.ext 1 (.tmp 49)) (.l (some 12) none (.alloc 49 [(1, (.slice none 0 0)), (2, (.int .i64 0))]) [] (.q (some 11) none (.mov (.tmp 52)) (.l none none (.stN 3 (.tmp 12) (.tmp 53)) [] .done)))))))) false 8 [0, 6, 11, 12],
  .ret [.cN 6 3, .t 7],
  .reg (.q (some 67) none (.ldN 3 (.tmp 14)) (.q (some 68) none (.mov (.tmp 0)) (.q (some 71) none (.mov (.tmp 13)) (.l (some 69) none (.call 28 [(.tmp 68)]) [⟨67, none, (.ldN 3 (.tmp 14))⟩] (.q (some 70) none (.cvi .u64 (.tmp 69)) (.q (some 72) none (.bin .eql (.tmp 70) (.tmp 71)) (.l none none (.stN 3 (.tmp 6) (.tmp 67)) [] (.q (some 7) none (.mov (.tmp 72)) .done)))))))) true 10 [6, 7],
  .reg (.q (some 63) none (.ldN 3 (.tmp 4)) (.l (some 64) none (.call 45 [(.tmp 63), (.const (.int .i64 4))]) [] (.q (some 62) none (.mov (.tmp 64)) (.q (some 65) none (.ext 0 (.tmp 62)) (.q (some 66) none (.ext 1 (.tmp 62)) (.l (some 14) none (.alloc 49 [(1, (.slice none 0 0)), (2, (.int .i64 0))]) [] (.q (some 13) none (.mov (.tmp 65)) (.l none none (.stN 3 (.tmp 14) (.tmp 66)) [] .done)))))))) false 11 [0, 6, 13, 14],
  .ret [.cN 6 3, .t 7],
  .reg (.q (some 80) none (.ldN 3 (.tmp 16)) (.q (some 81) none (.mov (.tmp 0)) (.q (some 83) none (.mov (.tmp 15)) (.l (some 82) none (.call 29 [(.tmp 81)]) [⟨80, none, (.ldN 3 (.tmp 16))⟩] (.q (some 84) none (.bin .eql (.tmp 82) (.tmp 83)) (.l none none (.stN 3 (.tmp 6) (.tmp 80)) [] (.q (some 7) none (.mov (.tmp 84)) .done))))))) true 13 [6, 7],
  .reg (.q (some 76) none (.ldN 3 (.tmp 4)) (.l (some 77) none (.call 45 [(.tmp 76), (.const (.int .i64 8))]) [] (.q (some 75) none (.mov (.tmp 77)) (.q (some 78) none (.ext 0 (.tmp 75)) (.q (some 79) none (.ext 1 (.tmp 75)) (.l (some 16) none (.alloc 49 [(1, (.slice none 0 0)), (2, (.int .i64 0))]) [] (.q (some 15) none (.mov (.tmp 78)) (.l none none (.stN 3 (.tmp 16) (.tmp 79)) [] .done)))))))) false 14 [0, 6, 15, 16],
  .ret [.cN 6 3, .t 7],
  .reg (.q (some 92) none (.ldN 3 (.tmp 18)) (.q (some 93) none (.mov (.tmp 0)) (.q (some 95) none (.mov (.tmp 17)) (.l (some 94) none (.call 30 [(.tmp 93)]) [⟨92, none, (.ldN 3 (.tmp 18))⟩] (.q (some 96) none (.bin .eql (.tmp 94) (.tmp 95)) (.l none none (.stN 3 (.tmp 6) (.tmp 92)) [] (.q (some 7) none (.mov (.tmp 96)) .done))))))) true 16 [6, 7],
  .reg (.q (some 88) none (.ldN 3 (.tmp 4)) (.l (some 89) none (.call 46 [(.tmp 88)]) [] (.q (some 87) none (.mov (.tmp 89)) (.q (some 90) none (.ext 0 (.tmp 87)) (.q (some 91) none (.ext 1 (.tmp 87)) (.l (some 18) none (.alloc 49 [(1, (.slice none 0 0)), (2, (.int .i64 0))]) [] (.q (some 17) none (.mov (.tmp 90)) (.l none none (.stN 3 (.tmp 18) (.tmp 91)) [] .done)))))))) false 17 [0, 6, 17, 18],
  .ret [.cN 6 3, .t 7],
  .reg (.q (some 105) none (.ldN 3 (.tmp 20)) (.q (some 106) none (.mov (.tmp 0)) (.q (some 107) none (.mov (.tmp 8)) (.q (some 109) none (.mov (.tmp 19)) (.l (some 108) none (.call 18 [(.tmp 106), (.tmp 107)]) [⟨105, none, (.ldN 3 (.tmp 20))⟩] (.l (some 110) none (.call 9 [(.tmp 108), (.tmp 109)]) [⟨105, none, (.ldN 3 (.tmp 20))⟩] (.l none none (.stN 3 (.tmp 6) (.tmp 105)) [] (.q (some 7) none (.mov (.tmp 110)) .done)))))))) true 19 [6, 7],
  .reg (.q (some 100) none (.ldN 3 (.tmp 4)) (.q (some 101) none (.mov (.tmp 8)) (.l (some 102) none (.call 47 [(.tmp 100), (.tmp 101)]) [] (.q (some 99) none (.mov (.tmp 102)) (.q (some 103) none (.ext 0 (.tmp 99)) (.q (some 104) none (.ext 1 (.tmp 99)) (.l (some 20) none (.alloc 49 [(1, (.slice none 0 0)), (2, (.int .i64 0))]) [] (.q (some 19) none (.mov (.tmp 103)) (.l none none (.stN 3 (.tmp 20) (.tmp 104)) [] .done))))))))) false 20 [0, 6, 8, 19, 20],
  .cnd (.tmp 97) 21 3,
  .reg (.q (some 98) none (.bin .eql (.tmp 33) (.const (.int .i64 6))) (.q (some 97) none (.mov (.tmp 98)) .done)) false 22 [0, 4, 6, 8, 97],
  .cnd (.tmp 85) 18 23,
  .reg (.q (some 86) none (.bin .eql (.tmp 33) (.const (.int .i64 5))) (.q (some 85) none (.mov (.tmp 86)) .done)) false 24 [0, 4, 6, 8, 33, 85],
  .cnd (.tmp 73) 15 25,
  .reg (.q (some 74) none (.bin .eql (.tmp 33) (.const (.int .i64 4))) (.q (some 73) none (.mov (.tmp 74)) .done)) false 26 [0, 4, 6, 8, 33, 73],
  .cnd (.tmp 60) 12 27,
  .reg (.q (some 61) none (.bin .eql (.tmp 33) (.const (.int .i64 3))) (.q (some 60) none (.mov (.tmp 61)) .done)) false 28 [0, 4, 6, 8, 33, 60],
  .cnd (.tmp 47) 9 29,
  .reg (.q (some 48) none (.bin .eql (.tmp 33) (.const (.int .i64 2))) (.q (some 47) none (.mov (.tmp 48)) .done)) false 30 [0, 4, 6, 8, 33, 47],
  .cnd (.tmp 34) 6 31,
  .reg (.q (some 35) none (.bin .eql (.tmp 33) (.const (.int .i64 1))) (.q (some 34) none (.mov (.tmp 35)) .done)) false 32 [0, 4, 6, 8, 33, 34],
  .reg (.q (some 32) none (.fadr 0 (.tmp 5)) (.q (some 33) none (.ld1 (.tmp 32)) .done)) false 33 [0, 4, 6, 8, 33],
  .reg (.q (some 30) none (.mov (.tmp 8)) (.q (some 31) none (.neg (.tmp 30)) (.q (some 8) none (.mov (.tmp 31)) .done))) false 34 [0, 4, 5, 6, 8],
  .cnd (.tmp 29) 35 34,
  .reg (.q (some 27) none (.fadr 1 (.tmp 5)) (.q (some 28) none (.ld1 (.tmp 27)) (.q (some 29) none (.bin .gtr (.tmp 28) (.const (.int .u64 9223372036854775808))) .done))) false 36 [0, 4, 5, 6, 8, 29],
  .reg (.q (some 23) none (.fadr 1 (.tmp 5)) (.q (some 24) none (.ld1 (.tmp 23)) (.q (some 25) none (.bin .rem (.tmp 24) (.const (.int .u64 4096))) (.q (some 26) none (.cvi .i64 (.tmp 25)) (.q (some 8) none (.mov (.tmp 26)) .done))))) false 37 [0, 4, 5, 6, 8],
  .reg (.l (some 4) none (.box 49 (.tmp 1)) [] (.l (some 5) none (.box 31 (.tmp 2)) [] (.l (some 6) none (.alloc 49 [(1, (.slice none 0 0)), (2, (.int .i64 0))]) [] (.q (some 7) none (.mov (.const (.bool false))) .done)))) false 38 [0, 4, 5, 6]
  ]
theorem c23_ok : cfgL Try.prog 23 = some (123, 39, c23.map Vc.Node.bare) := by kernel_rfl
/- (*strongbox/wire.Reader).Err: entry 3 -/
def c24 : List Vc.Node := [
  .ret [.t 2],
  .ret [.t 2],
  .reg (.q (some 3) none (.mov (.tmp 0)) (.q (some 4) none (.nc (.tmp 3)) (.q (some 5) none (.fadr 1 (.tmp 4)) (.q (some 6) none (.ld1 (.tmp 5)) (.q (some 2) none (.mov (.tmp 6)) .done))))) false 1 [2],
  .reg (.q (some 2) none (.mov (.const (.int .i64 0))) .done) false 2 [0]
  ]
theorem c24_ok : cfgL Try.prog 24 = some (7, 3, c24.map Vc.Node.bare) := by kernel_rfl
/- (*strongbox/wire.Reader).Close: entry 7 -/
def c25 : List Vc.Node := [
  .ret [.t 2],
  .ret [.t 2],
  .reg (.q (some 16) none (.mov (.tmp 0)) (.q (some 17) none (.nc (.tmp 16)) (.q (some 18) none (.fadr 1 (.tmp 17)) (.q (some 19) none (.ld1 (.tmp 18)) (.q (some 2) none (.mov (.tmp 19)) .done))))) false 1 [2],
  .ret [.t 2],
  .reg (.q (some 2) none (.mov (.const (.int .i64 3))) .done) false 3 [2],
  .cnd (.tmp 15) 4 2,
  .reg (.q (some 3) none (.mov (.tmp 0)) (.q (some 4) none (.nc (.tmp 3)) (.q (some 5) none (.fadr 1 (.tmp 4)) (.q (some 6) none (.ld1 (.tmp 5)) (.q (some 7) none (.bin .eql (.tmp 6) (.const (.int .i64 0))) (.q (some 8) none (.mov (.tmp 7)) (.q (some 9) (some (8, true)) (.mov (.tmp 0)) (.q (some 10) (some (8, true)) (.nc (.tmp 9)) (.q (some 11) (some (8, true)) (.fadr 0 (.tmp 10)) (.q (some 12) (some (8, true)) (.ld1 (.tmp 11)) (.q (some 13) (some (8, true)) (.len (.tmp 12)) (.q (some 14) (some (8, true)) (.bin .gtr (.tmp 13) (.const (.int .i64 0))) (.q (some 15) none (.pick (.tmp 8) (.tmp 14) (.const (.bool false))) .done))))))))))))) false 5 [0, 15],
  .reg (.q (some 2) none (.mov (.const (.int .i64 0))) .done) false 6 [0]
  ]
theorem c25_ok : cfgL Try.prog 25 = some (20, 7, c25.map Vc.Node.bare) := by kernel_rfl
/- (*strongbox/wire.Reader).U8: entry 3 -/
def c26 : List Vc.Node := [
  .ret [.t 2],
  .ret [.t 2],
  .reg (.q (some 3) none (.mov (.tmp 0)) (.l (some 4) none (.call 49 [(.tmp 3), (.func 50)]) [] (.q (some 2) none (.mov (.tmp 4)) .done))) false 1 [2],
  .reg (.q (some 2) none (.mov (.const (.int .u8 0))) .done) false 2 [0]
  ]
theorem c26_ok : cfgL Try.prog 26 = some (5, 3, c26.map Vc.Node.bare) := by kernel_rfl
/- (*strongbox/wire.Reader).U16: entry 3 -/
def c27 : List Vc.Node := [
  .ret [.t 2],
  .ret [.t 2],
  .reg (.q (some 3) none (.mov (.tmp 0)) (.l (some 4) none (.call 52 [(.tmp 3), (.func 53)]) [] (.q (some 2) none (.mov (.tmp 4)) .done))) false 1 [2],
  .reg (.q (some 2) none (.mov (.const (.int .u16 0))) .done) false 2 [0]
  ]
theorem c27_ok : cfgL Try.prog 27 = some (5, 3, c27.map Vc.Node.bare) := by kernel_rfl
/- (*strongbox/wire.Reader).U32: entry 3 -/
def c28 : List Vc.Node := [
  .ret [.t 2],
  .ret [.t 2],
  .reg (.q (some 3) none (.mov (.tmp 0)) (.l (some 4) none (.call 54 [(.tmp 3), (.func 55)]) [] (.q (some 2) none (.mov (.tmp 4)) .done))) false 1 [2],
  .reg (.q (some 2) none (.mov (.const (.int .u32 0))) .done) false 2 [0]
  ]
theorem c28_ok : cfgL Try.prog 28 = some (5, 3, c28.map Vc.Node.bare) := by kernel_rfl
/- (*strongbox/wire.Reader).U64: entry 3 -/
def c29 : List Vc.Node := [
  .ret [.t 2],
  .ret [.t 2],
  .reg (.q (some 3) none (.mov (.tmp 0)) (.l (some 4) none (.call 56 [(.tmp 3), (.func 57)]) [] (.q (some 2) none (.mov (.tmp 4)) .done))) false 1 [2],
  .reg (.q (some 2) none (.mov (.const (.int .u64 0))) .done) false 2 [0]
  ]
theorem c29_ok : cfgL Try.prog 29 = some (5, 3, c29.map Vc.Node.bare) := by kernel_rfl
/- (*strongbox/wire.Reader).Size: entry 3 -/
def c30 : List Vc.Node := [
  .ret [.t 2],
  .ret [.t 2],
  .reg (.q (some 3) none (.mov (.tmp 0)) (.l (some 4) none (.call 56 [(.tmp 3), (.func 44)]) [] (.q (some 2) none (.mov (.tmp 4)) .done))) false 1 [2],
  .reg (.q (some 2) none (.mov (.const (.int .u64 0))) .done) false 2 [0]
  ]
theorem c30_ok : cfgL Try.prog 30 = some (5, 3, c30.map Vc.Node.bare) := by kernel_rfl
/- (*strongbox/wire.Reader).Left: entry 3 -/
def c31 : List Vc.Node := [
  .ret [.t 2],
  .ret [.t 2],
  .reg (.q (some 3) none (.mov (.tmp 0)) (.q (some 4) none (.nc (.tmp 3)) (.q (some 5) none (.fadr 0 (.tmp 4)) (.q (some 6) none (.ld1 (.tmp 5)) (.q (some 7) none (.len (.tmp 6)) (.q (some 2) none (.mov (.tmp 7)) .done)))))) false 1 [2],
  .reg (.q (some 2) none (.mov (.const (.int .i64 0))) .done) false 2 [0]
  ]
theorem c31_ok : cfgL Try.prog 31 = some (8, 3, c31.map Vc.Node.bare) := by kernel_rfl
/- (*strongbox/wire.Writer).Size: entry 7 -/
def c32 : List Vc.Node := [
  .ret [],
  .reg (.q (some 20) none (.mov (.tmp 0)) (.q (some 21) none (.mov (.tmp 1)) (.q (some 22) none (.cvi .u8 (.tmp 21)) (.l (some 23) none (.call 33 [(.tmp 20), (.tmp 22)]) [] .done)))) false 0 [],
  .reg (.q (some 14) none (.mov (.tmp 0)) (.q (some 15) none (.mov (.tmp 1)) (.q (some 16) none (.mov (.tmp 4)) (.l (some 17) none (.call 58 [(.tmp 14), (.tmp 15), (.tmp 16)]) [] .done)))) false 0 [],
  .reg (.q (some 8) none (.mov (.tmp 0)) (.l (some 9) none .mkM [] (.l none none (.mapU [(1, .i .i64)] false (.tmp 9) (.const (.int .i64 2)) (.const (.int .u8 253))) [] (.l none none (.mapU [(1, .i .i64)] false (.tmp 9) (.const (.int .i64 4)) (.const (.int .u8 254))) [] (.l none none (.mapU [(1, .i .i64)] false (.tmp 9) (.const (.int .i64 8)) (.const (.int .u8 255))) [] (.q (some 10) none (.mov (.tmp 9)) (.q (some 11) none (.mov (.tmp 4)) (.q (some 12) none (.lkp [(1, .i .i64)] false false [(1, (.int .u8 0))] false (.tmp 10) (.tmp 11)) (.l (some 13) none (.call 33 [(.tmp 8), (.tmp 12)]) [] .done))))))))) false 2 [0, 1, 4],
  .cnd (.tmp 18) 1 3,
  .reg (.q (some 19) none (.bin .eql (.tmp 7) (.const (.int .i64 0))) (.q (some 18) none (.mov (.tmp 19)) .done)) false 4 [0, 1, 4, 18],
  .reg (.q (some 7) none (.mov (.tmp 4)) .done) false 5 [0, 1, 4, 7],
  .reg (.q (some 5) none (.mov (.tmp 1)) (.l (some 6) none (.call 39 [(.tmp 5)]) [] (.q (some 4) none (.mov (.tmp 6)) .done))) false 6 [0, 1, 4]
  ]
theorem c32_ok : cfgL Try.prog 32 = some (24, 7, c32.map Vc.Node.bare) := by kernel_rfl
/- (*strongbox/wire.Writer).U8: entry 1 -/
def c33 : List Vc.Node := [
  .ret [],
  .reg (.q (some 4) none (.mov (.tmp 0)) (.q (some 5) none (.mov (.tmp 1)) (.q (some 6) none (.cvi .u64 (.tmp 5)) (.l (some 7) none (.call 58 [(.tmp 4), (.tmp 6), (.const (.int .i64 1))]) [] .done)))) false 0 []
  ]
theorem c33_ok : cfgL Try.prog 33 = some (8, 1, c33.map Vc.Node.bare) := by kernel_rfl
/- (*strongbox/wire.Writer).U16: entry 1 -/
def c34 : List Vc.Node := [
  .ret [],
  .reg (.q (some 4) none (.mov (.tmp 0)) (.q (some 5) none (.mov (.tmp 1)) (.q (some 6) none (.cvi .u64 (.tmp 5)) (.l (some 7) none (.call 58 [(.tmp 4), (.tmp 6), (.const (.int .i64 2))]) [] .done)))) false 0 []
  ]
theorem c34_ok : cfgL Try.prog 34 = some (8, 1, c34.map Vc.Node.bare) := by kernel_rfl
/- strongbox/strongboxref01.Low: entry 11 -/
def c35 : List Vc.Node := [
  .ret [.t 4],
  .ret [.t 4],
  .reg (.q (some 20) none (.mov (.tmp 5)) (.q (some 4) none (.mov (.tmp 20)) .done)) false 1 [4],
  .jmp 8,
  .reg (.q (some 10) none (.mov (.tmp 6)) (.q (some 11) none (.bin .add (.tmp 10) (.const (.int .i64 1))) (.q (some 6) none (.mov (.tmp 11)) .done))) false 3 [0, 1, 5, 6],
  .reg (.q (some 18) none (.mov (.tmp 0)) (.q (some 19) none (.bin .quo (.tmp 18) (.const (.int .u64 256))) (.q (some 0) none (.mov (.tmp 19)) .done))) false 4 [0, 1, 5, 6],
  .reg (.q (some 12) none (.mov (.tmp 5)) (.q (some 13) none (.mov (.tmp 0)) (.q (some 14) none (.bin .rem (.tmp 13) (.const (.int .u64 256))) (.q (some 15) none (.cvi .u8 (.tmp 14)) (.l (some 16) none (.bldS 5 1 [(.tmp 15)]) [] (.l (some 17) none (.app 5 1 1 [(1, (.int .u8 0))] (.tmp 12) (.tmp 16)) [] (.q (some 5) none (.mov (.tmp 17)) .done))))))) false 5 [0, 1, 5, 6],
  .cnd (.tmp 9) 6 2,
  .reg (.q (some 7) none (.mov (.tmp 6)) (.q (some 8) none (.mov (.tmp 1)) (.q (some 9) none (.bin .lss (.tmp 7) (.tmp 8)) .done))) false 7 [0, 1, 5, 6, 9],
  .reg (.q (some 6) none (.mov (.const (.int .i64 0))) .done) false 8 [0, 1, 5, 6],
  .reg (.q (some 5) none (.mov (.const (.slice none 0 0))) .done) false 9 [0, 1, 5],
  .reg (.q (some 4) none (.mov (.const (.slice none 0 0))) .done) false 10 [0, 1]
  ]
theorem c35_ok : cfgL Try.prog 35 = some (21, 11, c35.map Vc.Node.bare) := by kernel_rfl
/- (*strongbox/wire.Writer).U32: entry 1 -/
def c36 : List Vc.Node := [
  .ret [],
  .reg (.q (some 4) none (.mov (.tmp 0)) (.q (some 5) none (.mov (.tmp 1)) (.q (some 6) none (.cvi .u64 (.tmp 5)) (.l (some 7) none (.call 58 [(.tmp 4), (.tmp 6), (.const (.int .i64 4))]) [] .done)))) false 0 []
  ]
theorem c36_ok : cfgL Try.prog 36 = some (8, 1, c36.map Vc.Node.bare) := by kernel_rfl
/- (*strongbox/wire.Writer).U64: entry 1 -/
def c37 : List Vc.Node := [
  .ret [],
  .reg (.q (some 4) none (.mov (.tmp 0)) (.q (some 5) none (.mov (.tmp 1)) (.l (some 6) none (.call 58 [(.tmp 4), (.tmp 5), (.const (.int .i64 8))]) [] .done))) false 0 []
  ]
theorem c37_ok : cfgL Try.prog 37 = some (7, 1, c37.map Vc.Node.bare) := by kernel_rfl
/- bytes.Clone: entry 7 -/
def c38 : List Vc.Node := [
  .ret [.t 2],
  .ret [.t 2],
  .reg (.l (some 5) none (.bldS 5 1 []) [] (.q (some 6) none (.mov (.tmp 0)) (.l (some 7) none (.app 5 1 1 [(1, (.int .u8 0))] (.tmp 5) (.tmp 6)) [] (.q (some 2) none (.mov (.tmp 7)) .done)))) false 1 [2],
  .ret [.t 2],
  .reg (.q (some 2) none (.mov (.const (.slice none 0 0))) .done) false 3 [2],
  .cnd (.tmp 4) 4 2,
  .reg (.q (some 3) none (.mov (.tmp 0)) (.q (some 4) none (.eqS false (.tmp 3) (.const (.slice none 0 0))) .done)) false 5 [0, 4],
  .reg (.q (some 2) none (.mov (.const (.slice none 0 0))) .done) false 6 [0]
  ]
theorem c38_ok : cfgL Try.prog 38 = some (8, 7, c38.map Vc.Node.bare) := by kernel_rfl
/- strongbox/wire.wide: entry 15 -/
def c39 : List Vc.Node := [
  .ret [.t 2],
  .ret [.t 2],
  .reg (.q (some 2) none (.mov (.const (.int .i64 8))) .done) false 1 [2],
  .ret [.t 2],
  .reg (.q (some 2) none (.mov (.const (.int .i64 0))) .done) false 3 [2],
  .ret [.t 2],
  .reg (.q (some 2) none (.mov (.const (.int .i64 2))) .done) false 5 [2],
  .ret [.t 2],
  .reg (.q (some 2) none (.mov (.const (.int .i64 4))) .done) false 7 [2],
  .cnd (.tmp 9) 8 2,
  .reg (.q (some 10) none (.mov (.tmp 0)) (.q (some 11) none (.bin .lss (.tmp 10) (.const (.int .u64 4294967296))) (.q (some 9) none (.mov (.tmp 11)) .done))) false 9 [9],
  .cnd (.tmp 6) 6 10,
  .reg (.q (some 7) none (.mov (.tmp 0)) (.q (some 8) none (.bin .lss (.tmp 7) (.const (.int .u64 65536))) (.q (some 6) none (.mov (.tmp 8)) .done))) false 11 [0, 6],
  .cnd (.tmp 3) 4 12,
  .reg (.q (some 4) none (.mov (.tmp 0)) (.q (some 5) none (.bin .lss (.tmp 4) (.const (.int .u64 253))) (.q (some 3) none (.mov (.tmp 5)) .done))) false 13 [0, 3],
  .reg (.q (some 2) none (.mov (.const (.int .i64 0))) .done) false 14 [0]
  ]
theorem c39_ok : cfgL Try.prog 39 = some (12, 15, c39.map Vc.Node.bare) := by kernel_rfl
/- strongbox/wire.try[[]byte]: entry 8 -/
def c40 : List Vc.Node := [
  .ret [.c1 4],
  .ret [.c1 4],
  .reg (.q (some 16) none (.mov (.tmp 1)) (.q (some 17) none (.ld1 (.tmp 2)) (.l (some 18) none (.callv (.tmp 16) [(.tmp 17)]) [] (.l none none (.st1 (.tmp 4) (.tmp 18)) [] .done)))) false 1 [4],
  .ret [.c1 4],
  .cnd (.tmp 15) 3 2,
  .reg (.q (some 11) none (.ld1 (.tmp 2)) (.q (some 12) none (.nc (.tmp 11)) (.q (some 13) none (.fadr 1 (.tmp 12)) (.q (some 14) none (.ld1 (.tmp 13)) (.q (some 15) none (.bin .neq (.tmp 14) (.const (.int .i64 0))) .done))))) false 4 [1, 2, 4, 15],
  .dfr 10 59 [(.tmp 5), (.tmp 2), (.tmp 4)] 5 [1, 2, 4],
  .reg (.q (some 6) none (.ld1 (.tmp 2)) (.q (some 7) none (.nc (.tmp 6)) (.q (some 8) none (.fadr 0 (.tmp 7)) (.q (some 9) none (.ld1 (.tmp 8)) (.l (some 5) none (.alloc 24 [(1, (.slice none 0 0))]) [] (.l none none (.st1 (.tmp 5) (.tmp 9)) [] .done)))))) false 6 [1, 2, 4, 5],
  .reg (.l (some 2) none (.box 42 (.tmp 0)) [] (.l (some 4) none (.alloc 24 [(1, (.slice none 0 0))]) [] .done)) false 7 [1, 2, 4]
  ]
theorem c40_ok : cfgL Try.prog 40 = some (19, 8, c40.map Vc.Node.bare) := by kernel_rfl
/- (*strongbox/wire.Reader).Raw$1: entry 3 -/
def c41 : List Vc.Node := [
  .ret [.t 3],
  .ret [.t 3],
  .reg (.q (some 4) none (.mov (.tmp 0)) (.q (some 5) none (.ld1 (.tmp 1)) (.q (some 6) none (.max [(.tmp 5), (.const (.int .i64 0))]) (.l (some 7) none (.call 42 [(.tmp 4), (.tmp 6)]) [] (.l (some 8) none (.call 38 [(.tmp 7)]) [] (.q (some 3) none (.mov (.tmp 8)) .done)))))) false 1 [3],
  .reg (.q (some 3) none (.mov (.const (.slice none 0 0))) .done) false 2 [0, 1]
  ]
theorem c41_ok : cfgL Try.prog 41 = some (9, 3, c41.map Vc.Node.bare) := by kernel_rfl
/- (*strongbox/wire.Reader).take: entry 8 -/
def c42 : List Vc.Node := [
  .ret [.t 4],
  .ret [.t 4],
  .reg (.q (some 29) none (.mov (.tmp 5)) (.q (some 4) none (.mov (.tmp 29)) .done)) false 1 [4],
  .reg (.q (some 20) none (.mov (.tmp 0)) (.q (some 21) none (.mov (.tmp 0)) (.q (some 22) none (.nc (.tmp 21)) (.q (some 23) none (.fadr 0 (.tmp 22)) (.q (some 24) none (.ld1 (.tmp 23)) (.q (some 25) none (.mov (.tmp 1)) (.q (some 26) none (.slcS 1 (.tmp 24) (some (.tmp 25)) none) (.q (some 27) none (.nc (.tmp 20)) (.q (some 28) none (.fadr 0 (.tmp 27)) (.l none none (.st1 (.tmp 28) (.tmp 26)) [] .done)))))))))) false 2 [5],
  .reg (.q (some 14) none (.mov (.tmp 0)) (.q (some 15) none (.nc (.tmp 14)) (.q (some 16) none (.fadr 0 (.tmp 15)) (.q (some 17) none (.ld1 (.tmp 16)) (.q (some 18) none (.mov (.tmp 1)) (.q (some 19) none (.slcS 1 (.tmp 17) none (some (.tmp 18))) (.q (some 5) none (.mov (.tmp 19)) .done))))))) false 3 [0, 1, 5],
  .reg (.q (some 13) none (.mif 71 (.const (.int .i64 4))) (.l none none (.pan (.tmp 13)) [] .done)) false 4 [0, 1],
  .cnd (.tmp 12) 5 4,
  .reg (.q (some 6) none (.mov (.tmp 1)) (.q (some 7) none (.mov (.tmp 0)) (.q (some 8) none (.nc (.tmp 7)) (.q (some 9) none (.fadr 0 (.tmp 8)) (.q (some 10) none (.ld1 (.tmp 9)) (.q (some 11) none (.len (.tmp 10)) (.q (some 12) none (.bin .gtr (.tmp 6) (.tmp 11)) .done))))))) false 6 [0, 1, 12],
  .reg (.q (some 4) none (.mov (.const (.slice none 0 0))) .done) false 7 [0, 1]
  ]
theorem c42_ok : cfgL Try.prog 42 = some (30, 8, c42.map Vc.Node.bare) := by kernel_rfl
/- (*strongbox/wire.Reader).Bytes$1: entry 7 -/
def c43 : List Vc.Node := [
  .ret [.t 3],
  .ret [.t 3],
  .reg (.q (some 12) none (.mov (.tmp 0)) (.q (some 13) none (.mov (.tmp 4)) (.l (some 14) none (.call 42 [(.tmp 12), (.tmp 13)]) [] (.l (some 15) none (.call 38 [(.tmp 14)]) [] (.q (some 3) none (.mov (.tmp 15)) .done))))) false 1 [3],
  .reg (.q (some 11) none (.mif 71 (.const (.int .i64 2))) (.l none none (.pan (.tmp 11)) [] .done)) false 2 [0, 4],
  .cnd (.tmp 10) 3 2,
  .reg (.q (some 8) none (.mov (.tmp 4)) (.q (some 9) none (.ld1 (.tmp 1)) (.q (some 10) none (.bin .gtr (.tmp 8) (.tmp 9)) .done))) false 4 [0, 4, 10],
  .reg (.q (some 5) none (.mov (.tmp 0)) (.l (some 6) none (.call 44 [(.tmp 5)]) [] (.q (some 7) none (.cvi .i64 (.tmp 6)) (.q (some 4) none (.mov (.tmp 7)) .done)))) false 5 [0, 1, 4],
  .reg (.q (some 3) none (.mov (.const (.slice none 0 0))) .done) false 6 [0, 1]
  ]
theorem c43_ok : cfgL Try.prog 43 = some (16, 7, c43.map Vc.Node.bare) := by kernel_rfl
/- (*strongbox/wire.Reader).size: entry 15 -/
def c44 : List Vc.Node := [
  .ret [.t 2],
  .ret [.t 2],
  .reg (.q (some 26) none (.mov (.tmp 4)) (.q (some 2) none (.mov (.tmp 26)) .done)) false 1 [2],
  .reg (.q (some 25) none (.mif 71 (.const (.int .i64 2))) (.l none none (.pan (.tmp 25)) [] .done)) false 2 [4],
  .cnd (.tmp 24) 3 2,
  .reg (.q (some 23) none (.mov (.tmp 4)) (.q (some 24) none (.bin .gtr (.tmp 23) (.const (.int .u64 33554432))) .done)) false 4 [4, 24],
  .reg (.q (some 22) none (.mif 71 (.const (.int .i64 3))) (.l none none (.pan (.tmp 22)) [] .done)) false 5 [4],
  .cnd (.tmp 21) 6 5,
  .reg (.q (some 15) none (.mov (.tmp 4)) (.l (some 16) none (.call 11 [(.tmp 15)]) [] (.q (some 17) none (.mov (.tmp 3)) (.q (some 18) none (.bin .sub (.tmp 17) (.const (.int .u64 253))) (.q (some 19) none (.bin .shl (.const (.int .i64 2)) (.tmp 18)) (.q (some 20) none (.bin .add (.const (.int .i64 1)) (.tmp 19)) (.q (some 21) none (.bin .neq (.tmp 16) (.tmp 20)) .done))))))) false 7 [4, 21],
  .reg (.q (some 10) none (.mov (.tmp 0)) (.q (some 11) none (.mov (.tmp 3)) (.q (some 12) none (.bin .sub (.tmp 11) (.const (.int .u64 253))) (.q (some 13) none (.bin .shl (.const (.int .i64 2)) (.tmp 12)) (.l (some 14) none (.call 51 [(.tmp 10), (.tmp 13)]) [] (.q (some 4) none (.mov (.tmp 14)) .done)))))) false 8 [3, 4],
  .ret [.t 2],
  .reg (.q (some 9) none (.mov (.tmp 3)) (.q (some 2) none (.mov (.tmp 9)) .done)) false 10 [2],
  .cnd (.tmp 8) 11 9,
  .reg (.q (some 7) none (.mov (.tmp 3)) (.q (some 8) none (.bin .lss (.tmp 7) (.const (.int .u64 253))) .done)) false 12 [0, 3, 8],
  .reg (.q (some 5) none (.mov (.tmp 0)) (.l (some 6) none (.call 51 [(.tmp 5), (.const (.int .i64 1))]) [] (.q (some 3) none (.mov (.tmp 6)) .done))) false 13 [0, 3],
  .reg (.q (some 2) none (.mov (.const (.int .u64 0))) .done) false 14 [0]
  ]
theorem c44_ok : cfgL Try.prog 44 = some (27, 15, c44.map Vc.Node.bare) := by kernel_rfl
/- strongbox/strongboxref01.Num: entry 4 -/
def c45 : List Vc.Node := [
  .ret [.t 4, .cN 5 3],
  .ret [.t 4, .cN 5 3],
  .reg (.q (some 14) none (.mov (.tmp 6)) (.q (some 16) none (.ldN 3 (.tmp 7)) (.l (some 15) none (.call 60 [(.tmp 14)]) [⟨16, none, (.ldN 3 (.tmp 7))⟩] (.q (some 4) none (.mov (.tmp 15)) (.l none none (.stN 3 (.tmp 5) (.tmp 16)) [] .done))))) true 1 [4, 5],
  .reg (.q (some 9) none (.ldN 3 (.tmp 2)) (.q (some 10) none (.mov (.tmp 1)) (.l (some 11) none (.call 47 [(.tmp 9), (.tmp 10)]) [] (.q (some 8) none (.mov (.tmp 11)) (.q (some 12) none (.ext 0 (.tmp 8)) (.q (some 13) none (.ext 1 (.tmp 8)) (.l (some 7) none (.alloc 49 [(1, (.slice none 0 0)), (2, (.int .i64 0))]) [] (.q (some 6) none (.mov (.tmp 12)) (.l none none (.stN 3 (.tmp 7) (.tmp 13)) [] .done))))))))) false 2 [5, 6, 7],
  .reg (.l (some 2) none (.box 49 (.tmp 0)) [] (.q (some 4) none (.mov (.const (.int .u64 0))) (.l (some 5) none (.alloc 49 [(1, (.slice none 0 0)), (2, (.int .i64 0))]) [] .done))) false 3 [1, 2, 5]
  ]
theorem c45_ok : cfgL Try.prog 45 = some (17, 4, c45.map Vc.Node.bare) := by kernel_rfl
/- strongbox/strongboxref01.Compact: entry 28 -/
def c46 : List Vc.Node := [
  .ret [.t 2, .cN 3 3],
  .ret [.t 2, .cN 3 3],
  .reg (.q (some 57) none (.mov (.tmp 7)) (.q (some 58) none (.ldN 3 (.tmp 8)) (.q (some 2) none (.mov (.tmp 57)) (.l none none (.stN 3 (.tmp 3) (.tmp 58)) [] .done)))) true 1 [2, 3],
  .ret [.t 2, .cN 3 3],
  .reg (.q (some 56) none (.ldN 3 (.tmp 1)) (.q (some 2) none (.mov (.const (.int .u64 0))) (.l none none (.stN 3 (.tmp 3) (.tmp 56)) [] .done))) true 3 [2, 3],
  .reg (.q (some 54) none (.mov (.tmp 9)) (.q (some 55) none (.fadr 2 (.tmp 1)) (.l none none (.st1 (.tmp 55) (.tmp 54)) [] .done))) false 4 [1, 3],
  .cnd (.tmp 53) 5 2,
  .reg (.q (some 52) none (.mov (.tmp 9)) (.q (some 53) none (.bin .neq (.tmp 52) (.const (.int .i64 0))) .done)) false 6 [1, 3, 7, 8, 9, 53],
  .reg (.q (some 9) none (.mov (.const (.int .i64 2))) .done) false 7 [1, 3, 7, 8, 9],
  .cnd (.tmp 51) 8 7,
  .reg (.q (some 46) none (.mov (.tmp 9)) (.q (some 47) none (.bin .eql (.tmp 46) (.const (.int .i64 0))) (.q (some 48) none (.mov (.tmp 47)) (.q (some 49) (some (48, true)) (.mov (.tmp 7)) (.q (some 50) (some (48, true)) (.bin .gtr (.tmp 49) (.const (.int .u64 33554432))) (.q (some 51) none (.pick (.tmp 48) (.tmp 50) (.const (.bool false))) .done)))))) false 9 [1, 3, 7, 8, 9, 51],
  .reg (.q (some 9) none (.mov (.const (.int .i64 3))) .done) false 10 [1, 3, 7, 8, 9],
  .cnd (.tmp 45) 11 10,
  .reg (.q (some 36) none (.mov (.tmp 9)) (.q (some 37) none (.bin .eql (.tmp 36) (.const (.int .i64 0))) (.q (some 38) none (.mov (.tmp 37)) (.q (some 39) (some (38, true)) (.mov (.tmp 7)) (.l (some 40) (some (38, true)) (.call 12 [(.tmp 39)]) [] (.q (some 41) (some (38, true)) (.len (.tmp 40)) (.q (some 42) (some (38, true)) (.mov (.tmp 6)) (.q (some 43) (some (38, true)) (.bin .add (.tmp 42) (.const (.int .i64 1))) (.q (some 44) (some (38, true)) (.bin .neq (.tmp 41) (.tmp 43)) (.q (some 45) none (.pick (.tmp 38) (.tmp 44) (.const (.bool false))) .done)))))))))) false 12 [1, 3, 7, 8, 9, 45],
  .reg (.q (some 34) none (.fadr 2 (.tmp 8)) (.q (some 35) none (.ld1 (.tmp 34)) (.q (some 9) none (.mov (.tmp 35)) .done))) false 13 [1, 3, 6, 7, 8, 9],
  .reg (.q (some 29) none (.ldN 3 (.tmp 5)) (.q (some 30) none (.mov (.tmp 6)) (.l (some 31) none (.call 45 [(.tmp 29), (.tmp 30)]) [] (.q (some 28) none (.mov (.tmp 31)) (.q (some 32) none (.ext 0 (.tmp 28)) (.q (some 33) none (.ext 1 (.tmp 28)) (.l (some 8) none (.alloc 49 [(1, (.slice none 0 0)), (2, (.int .i64 0))]) [] (.q (some 7) none (.mov (.tmp 32)) (.l none none (.stN 3 (.tmp 8) (.tmp 33)) [] .done))))))))) false 14 [1, 3, 6, 7, 8],
  .reg (.q (some 6) none (.mov (.const (.int .i64 8))) .done) false 15 [1, 3, 5, 6],
  .cnd (.tmp 27) 16 15,
  .reg (.q (some 26) none (.mov (.tmp 4)) (.q (some 27) none (.bin .eql (.tmp 26) (.const (.int .u64 255))) .done)) false 17 [1, 3, 5, 6, 27],
  .reg (.q (some 6) none (.mov (.const (.int .i64 4))) .done) false 18 [1, 3, 4, 5, 6],
  .cnd (.tmp 25) 19 18,
  .reg (.q (some 24) none (.mov (.tmp 4)) (.q (some 25) none (.bin .eql (.tmp 24) (.const (.int .u64 254))) .done)) false 20 [1, 3, 4, 5, 6, 25],
  .reg (.q (some 6) none (.mov (.const (.int .i64 2))) .done) false 21 [1, 3, 4, 5, 6],
  .ret [.t 2, .cN 3 3],
  .reg (.q (some 22) none (.mov (.tmp 4)) (.q (some 23) none (.ldN 3 (.tmp 5)) (.q (some 2) none (.mov (.tmp 22)) (.l none none (.stN 3 (.tmp 3) (.tmp 23)) [] .done)))) true 23 [2, 3],
  .cnd (.tmp 21) 24 22,
  .reg (.q (some 15) none (.fadr 2 (.tmp 5)) (.q (some 16) none (.ld1 (.tmp 15)) (.q (some 17) none (.bin .neq (.tmp 16) (.const (.int .i64 0))) (.q (some 18) none (.mov (.tmp 17)) (.q (some 19) (some (18, false)) (.mov (.tmp 4)) (.q (some 20) (some (18, false)) (.bin .lss (.tmp 19) (.const (.int .u64 253))) (.q (some 21) none (.pick (.tmp 18) (.const (.bool true)) (.tmp 20)) .done))))))) false 25 [1, 3, 4, 5, 21],
  .reg (.q (some 11) none (.ldN 3 (.tmp 1)) (.l (some 12) none (.call 45 [(.tmp 11), (.const (.int .i64 1))]) [] (.q (some 10) none (.mov (.tmp 12)) (.q (some 13) none (.ext 0 (.tmp 10)) (.q (some 14) none (.ext 1 (.tmp 10)) (.l (some 5) none (.alloc 49 [(1, (.slice none 0 0)), (2, (.int .i64 0))]) [] (.q (some 4) none (.mov (.tmp 13)) (.l none none (.stN 3 (.tmp 5) (.tmp 14)) [] .done)))))))) false 26 [1, 3, 4, 5],
  .reg (.l (some 1) none (.box 49 (.tmp 0)) [] (.q (some 2) none (.mov (.const (.int .u64 0))) (.l (some 3) none (.alloc 49 [(1, (.slice none 0 0)), (2, (.int .i64 0))]) [] .done))) false 27 [1, 3]
  ]
theorem c46_ok : cfgL Try.prog 46 = some (59, 28, c46.map Vc.Node.bare) := by kernel_rfl
/- strongbox/strongboxref01.Raw: entry 18 -/
def c47 : List Vc.Node := [
  .ret [.t 4, .cN 5 3],
  .ret [.t 4, .cN 5 3],
  .reg (.q (some 40) none (.mov (.tmp 6)) (.q (some 41) none (.ldN 3 (.tmp 2)) (.q (some 4) none (.mov (.tmp 40)) (.l none none (.stN 3 (.tmp 5) (.tmp 41)) [] .done)))) true 1 [4, 5],
  .reg (.q (some 35) none (.fadr 1 (.tmp 2)) (.q (some 36) none (.ld1 (.tmp 35)) (.q (some 37) none (.mov (.tmp 1)) (.q (some 38) none (.bin .add (.tmp 36) (.tmp 37)) (.q (some 39) none (.fadr 1 (.tmp 2)) (.l none none (.st1 (.tmp 39) (.tmp 38)) [] .done)))))) false 2 [2, 5, 6],
  .reg (.l (some 24) none (.bldS 5 1 []) [] (.q (some 25) none (.fadr 0 (.tmp 2)) (.q (some 26) none (.ld1 (.tmp 25)) (.q (some 27) none (.fadr 1 (.tmp 2)) (.q (some 28) none (.ld1 (.tmp 27)) (.q (some 29) none (.fadr 1 (.tmp 2)) (.q (some 30) none (.ld1 (.tmp 29)) (.q (some 31) none (.mov (.tmp 1)) (.q (some 32) none (.bin .add (.tmp 30) (.tmp 31)) (.q (some 33) none (.slcS 1 (.tmp 26) (some (.tmp 28)) (some (.tmp 32))) (.l (some 34) none (.app 5 1 1 [(1, (.int .u8 0))] (.tmp 24) (.tmp 33)) [] (.q (some 6) none (.mov (.tmp 34)) .done)))))))))))) false 3 [1, 2, 5, 6],
  .ret [.t 4, .cN 5 3],
  .reg (.q (some 23) none (.ldN 3 (.tmp 2)) (.q (some 4) none (.mov (.const (.slice none 0 0))) (.l none none (.stN 3 (.tmp 5) (.tmp 23)) [] .done))) true 5 [4, 5],
  .cnd (.tmp 22) 6 4,
  .reg (.q (some 21) none (.mov (.tmp 1)) (.q (some 22) none (.bin .leq (.tmp 21) (.const (.int .i64 0))) .done)) false 7 [1, 2, 5, 22],
  .ret [.t 4, .cN 5 3],
  .reg (.q (some 20) none (.ldN 3 (.tmp 2)) (.q (some 4) none (.mov (.const (.slice none 0 0))) (.l none none (.stN 3 (.tmp 5) (.tmp 20)) [] .done))) true 9 [4, 5],
  .reg (.q (some 19) none (.fadr 2 (.tmp 2)) (.l none none (.st1 (.tmp 19) (.const (.int .i64 4))) [] .done)) false 10 [2, 5],
  .cnd (.tmp 18) 11 8,
  .reg (.q (some 11) none (.mov (.tmp 1)) (.q (some 12) none (.fadr 0 (.tmp 2)) (.q (some 13) none (.ld1 (.tmp 12)) (.q (some 14) none (.len (.tmp 13)) (.q (some 15) none (.fadr 1 (.tmp 2)) (.q (some 16) none (.ld1 (.tmp 15)) (.q (some 17) none (.bin .sub (.tmp 14) (.tmp 16)) (.q (some 18) none (.bin .gtr (.tmp 11) (.tmp 17)) .done)))))))) false 12 [1, 2, 5, 18],
  .ret [.t 4, .cN 5 3],
  .reg (.q (some 10) none (.ldN 3 (.tmp 2)) (.q (some 4) none (.mov (.const (.slice none 0 0))) (.l none none (.stN 3 (.tmp 5) (.tmp 10)) [] .done))) true 14 [4, 5],
  .cnd (.tmp 9) 15 13,
  .reg (.q (some 7) none (.fadr 2 (.tmp 2)) (.q (some 8) none (.ld1 (.tmp 7)) (.q (some 9) none (.bin .neq (.tmp 8) (.const (.int .i64 0))) .done))) false 16 [1, 2, 5, 9],
  .reg (.l (some 2) none (.box 49 (.tmp 0)) [] (.q (some 4) none (.mov (.const (.slice none 0 0))) (.l (some 5) none (.alloc 49 [(1, (.slice none 0 0)), (2, (.int .i64 0))]) [] .done))) false 17 [1, 2, 5]
  ]
theorem c47_ok : cfgL Try.prog 47 = some (42, 18, c47.map Vc.Node.bare) := by kernel_rfl
/- strongbox/strongboxref01.List: entry 19 -/
def c48 : List Vc.Node := [
  .ret [.t 4, .cN 5 3],
  .ret [.t 4, .cN 5 3],
  .reg (.q (some 39) none (.mov (.tmp 8)) (.q (some 40) none (.ldN 3 (.tmp 9)) (.q (some 4) none (.mov (.tmp 39)) (.l none none (.stN 3 (.tmp 5) (.tmp 40)) [] .done)))) true 1 [4, 5],
  .ret [.t 4, .cN 5 3],
  .reg (.q (some 38) none (.ldN 3 (.tmp 2)) (.q (some 4) none (.mov (.const (.slice none 0 0))) (.l none none (.stN 3 (.tmp 5) (.tmp 38)) [] .done))) true 3 [4, 5],
  .reg (.q (some 35) none (.fadr 2 (.tmp 9)) (.q (some 36) none (.ld1 (.tmp 35)) (.q (some 37) none (.fadr 2 (.tmp 2)) (.l none none (.st1 (.tmp 37) (.tmp 36)) [] .done)))) false 4 [2, 5],
  .cnd (.tmp 34) 5 2,
  .reg (.q (some 32) none (.fadr 2 (.tmp 9)) (.q (some 33) none (.ld1 (.tmp 32)) (.q (some 34) none (.bin .neq (.tmp 33) (.const (.int .i64 0))) .done))) false 6 [2, 5, 8, 9, 34],
  .reg (.q (some 26) none (.ldN 3 (.tmp 7)) (.q (some 27) none (.mov (.tmp 6)) (.q (some 28) none (.cvi .i64 (.tmp 27)) (.l (some 29) none (.call 47 [(.tmp 26), (.tmp 28)]) [] (.q (some 25) none (.mov (.tmp 29)) (.q (some 30) none (.ext 0 (.tmp 25)) (.q (some 31) none (.ext 1 (.tmp 25)) (.l (some 9) none (.alloc 49 [(1, (.slice none 0 0)), (2, (.int .i64 0))]) [] (.q (some 8) none (.mov (.tmp 30)) (.l none none (.stN 3 (.tmp 9) (.tmp 31)) [] .done)))))))))) false 7 [2, 5, 8, 9],
  .ret [.t 4, .cN 5 3],
  .reg (.q (some 24) none (.ldN 3 (.tmp 2)) (.q (some 4) none (.mov (.const (.slice none 0 0))) (.l none none (.stN 3 (.tmp 5) (.tmp 24)) [] .done))) true 9 [4, 5],
  .reg (.q (some 23) none (.fadr 2 (.tmp 2)) (.l none none (.st1 (.tmp 23) (.const (.int .i64 2))) [] .done)) false 10 [2, 5],
  .cnd (.tmp 22) 11 8,
  .reg (.q (some 19) none (.mov (.tmp 6)) (.q (some 20) none (.cvi .i64 (.tmp 19)) (.q (some 21) none (.mov (.tmp 1)) (.q (some 22) none (.bin .gtr (.tmp 20) (.tmp 21)) .done)))) false 12 [2, 5, 6, 7, 22],
  .ret [.t 4, .cN 5 3],
  .reg (.q (some 18) none (.ldN 3 (.tmp 7)) (.q (some 4) none (.mov (.const (.slice none 0 0))) (.l none none (.stN 3 (.tmp 5) (.tmp 18)) [] .done))) true 14 [4, 5],
  .cnd (.tmp 17) 15 13,
  .reg (.q (some 15) none (.fadr 2 (.tmp 7)) (.q (some 16) none (.ld1 (.tmp 15)) (.q (some 17) none (.bin .neq (.tmp 16) (.const (.int .i64 0))) .done))) false 16 [1, 2, 5, 6, 7, 17],
  .reg (.q (some 11) none (.ldN 3 (.tmp 2)) (.l (some 12) none (.call 46 [(.tmp 11)]) [] (.q (some 10) none (.mov (.tmp 12)) (.q (some 13) none (.ext 0 (.tmp 10)) (.q (some 14) none (.ext 1 (.tmp 10)) (.l (some 7) none (.alloc 49 [(1, (.slice none 0 0)), (2, (.int .i64 0))]) [] (.q (some 6) none (.mov (.tmp 13)) (.l none none (.stN 3 (.tmp 7) (.tmp 14)) [] .done)))))))) false 17 [1, 2, 5, 6, 7],
  .reg (.l (some 2) none (.box 49 (.tmp 0)) [] (.q (some 4) none (.mov (.const (.slice none 0 0))) (.l (some 5) none (.alloc 49 [(1, (.slice none 0 0)), (2, (.int .i64 0))]) [] .done))) false 18 [1, 2, 5]
  ]
theorem c48_ok : cfgL Try.prog 48 = some (41, 19, c48.map Vc.Node.bare) := by kernel_rfl
/- strongbox/wire.try[byte]: entry 8 -/
def c49 : List Vc.Node := [
  .ret [.c1 4],
  .ret [.c1 4],
  .reg (.q (some 16) none (.mov (.tmp 1)) (.q (some 17) none (.ld1 (.tmp 2)) (.l (some 18) none (.callv (.tmp 16) [(.tmp 17)]) [] (.l none none (.st1 (.tmp 4) (.tmp 18)) [] .done)))) false 1 [4],
  .ret [.c1 4],
  .cnd (.tmp 15) 3 2,
  .reg (.q (some 11) none (.ld1 (.tmp 2)) (.q (some 12) none (.nc (.tmp 11)) (.q (some 13) none (.fadr 1 (.tmp 12)) (.q (some 14) none (.ld1 (.tmp 13)) (.q (some 15) none (.bin .neq (.tmp 14) (.const (.int .i64 0))) .done))))) false 4 [1, 2, 4, 15],
  .dfr 10 61 [(.tmp 5), (.tmp 2), (.tmp 4)] 5 [1, 2, 4],
  .reg (.q (some 6) none (.ld1 (.tmp 2)) (.q (some 7) none (.nc (.tmp 6)) (.q (some 8) none (.fadr 0 (.tmp 7)) (.q (some 9) none (.ld1 (.tmp 8)) (.l (some 5) none (.alloc 24 [(1, (.slice none 0 0))]) [] (.l none none (.st1 (.tmp 5) (.tmp 9)) [] .done)))))) false 6 [1, 2, 4, 5],
  .reg (.l (some 2) none (.box 42 (.tmp 0)) [] (.l (some 4) none (.alloc 5 [(1, (.int .u8 0))]) [] .done)) false 7 [1, 2, 4]
  ]
theorem c49_ok : cfgL Try.prog 49 = some (19, 8, c49.map Vc.Node.bare) := by kernel_rfl
/- (*strongbox/wire.Reader).U8$1: entry 3 -/
def c50 : List Vc.Node := [
  .ret [.t 2],
  .ret [.t 2],
  .reg (.q (some 3) none (.mov (.tmp 0)) (.l (some 4) none (.call 51 [(.tmp 3), (.const (.int .i64 1))]) [] (.q (some 5) none (.cvi .u8 (.tmp 4)) (.q (some 2) none (.mov (.tmp 5)) .done)))) false 1 [2],
  .reg (.q (some 2) none (.mov (.const (.int .u8 0))) .done) false 2 [0]
  ]
theorem c50_ok : cfgL Try.prog 50 = some (6, 3, c50.map Vc.Node.bare) := by kernel_rfl
/- (*strongbox/wire.Reader).number: entry 11 -/
def c51 : List Vc.Node := [
  .ret [.t 4],
  .ret [.t 4],
  .reg (.q (some 25) none (.mov (.tmp 5)) (.q (some 4) none (.mov (.tmp 25)) .done)) false 1 [4],
  .jmp 8,
  .reg (.q (some 24) none (.bin .add (.tmp 12) (.const (.int .i64 1))) (.q (some 12) none (.mov (.tmp 24)) .done)) false 3 [5, 10, 11, 12],
  .reg (.q (some 17) none (.mov (.tmp 5)) (.q (some 18) none (.mov (.tmp 7)) (.q (some 19) none (.cvi .u64 (.tmp 18)) (.q (some 20) none (.mov (.tmp 6)) (.q (some 21) none (.bin .mul (.const (.int .i64 8)) (.tmp 20)) (.q (some 22) none (.bin .shl (.tmp 19) (.tmp 21)) (.q (some 23) none (.bin .or (.tmp 17) (.tmp 22)) (.q (some 5) none (.mov (.tmp 23)) .done)))))))) false 4 [5, 10, 11, 12],
  .reg (.q (some 14) none (.mov (.tmp 12)) (.q (some 15) none (.iadrS 1 (.tmp 10) (.tmp 12)) (.q (some 16) none (.ld1 (.tmp 15)) (.q (some 6) none (.mov (.tmp 14)) (.q (some 7) none (.mov (.tmp 16)) .done))))) false 5 [5, 6, 7, 10, 11, 12],
  .cnd (.tmp 13) 6 2,
  .reg (.q (some 13) none (.bin .lss (.tmp 12) (.tmp 11)) .done) false 7 [5, 10, 11, 12, 13],
  .reg (.q (some 8) none (.mov (.tmp 0)) (.q (some 9) none (.mov (.tmp 1)) (.l (some 10) none (.call 42 [(.tmp 8), (.tmp 9)]) [] (.q (some 11) none (.len (.tmp 10)) (.q (some 12) none (.mov (.const (.int .i64 0))) .done))))) false 8 [5, 10, 11, 12],
  .reg (.q (some 5) none (.mov (.const (.int .u64 0))) .done) false 9 [0, 1, 5],
  .reg (.q (some 4) none (.mov (.const (.int .u64 0))) .done) false 10 [0, 1]
  ]
theorem c51_ok : cfgL Try.prog 51 = some (26, 11, c51.map Vc.Node.bare) := by kernel_rfl
/- strongbox/wire.try[uint16]: entry 8 -/
def c52 : List Vc.Node := [
  .ret [.c1 4],
  .ret [.c1 4],
  .reg (.q (some 16) none (.mov (.tmp 1)) (.q (some 17) none (.ld1 (.tmp 2)) (.l (some 18) none (.callv (.tmp 16) [(.tmp 17)]) [] (.l none none (.st1 (.tmp 4) (.tmp 18)) [] .done)))) false 1 [4],
  .ret [.c1 4],
  .cnd (.tmp 15) 3 2,
  .reg (.q (some 11) none (.ld1 (.tmp 2)) (.q (some 12) none (.nc (.tmp 11)) (.q (some 13) none (.fadr 1 (.tmp 12)) (.q (some 14) none (.ld1 (.tmp 13)) (.q (some 15) none (.bin .neq (.tmp 14) (.const (.int .i64 0))) .done))))) false 4 [1, 2, 4, 15],
  .dfr 10 62 [(.tmp 5), (.tmp 2), (.tmp 4)] 5 [1, 2, 4],
  .reg (.q (some 6) none (.ld1 (.tmp 2)) (.q (some 7) none (.nc (.tmp 6)) (.q (some 8) none (.fadr 0 (.tmp 7)) (.q (some 9) none (.ld1 (.tmp 8)) (.l (some 5) none (.alloc 24 [(1, (.slice none 0 0))]) [] (.l none none (.st1 (.tmp 5) (.tmp 9)) [] .done)))))) false 6 [1, 2, 4, 5],
  .reg (.l (some 2) none (.box 42 (.tmp 0)) [] (.l (some 4) none (.alloc 56 [(1, (.int .u16 0))]) [] .done)) false 7 [1, 2, 4]
  ]
theorem c52_ok : cfgL Try.prog 52 = some (19, 8, c52.map Vc.Node.bare) := by kernel_rfl
/- (*strongbox/wire.Reader).U16$1: entry 3 -/
def c53 : List Vc.Node := [
  .ret [.t 2],
  .ret [.t 2],
  .reg (.q (some 3) none (.mov (.tmp 0)) (.l (some 4) none (.call 51 [(.tmp 3), (.const (.int .i64 2))]) [] (.q (some 5) none (.cvi .u16 (.tmp 4)) (.q (some 2) none (.mov (.tmp 5)) .done)))) false 1 [2],
  .reg (.q (some 2) none (.mov (.const (.int .u16 0))) .done) false 2 [0]
  ]
theorem c53_ok : cfgL Try.prog 53 = some (6, 3, c53.map Vc.Node.bare) := by kernel_rfl
/- strongbox/wire.try[uint32]: entry 8 -/
def c54 : List Vc.Node := [
  .ret [.c1 4],
  .ret [.c1 4],
  .reg (.q (some 16) none (.mov (.tmp 1)) (.q (some 17) none (.ld1 (.tmp 2)) (.l (some 18) none (.callv (.tmp 16) [(.tmp 17)]) [] (.l none none (.st1 (.tmp 4) (.tmp 18)) [] .done)))) false 1 [4],
  .ret [.c1 4],
  .cnd (.tmp 15) 3 2,
  .reg (.q (some 11) none (.ld1 (.tmp 2)) (.q (some 12) none (.nc (.tmp 11)) (.q (some 13) none (.fadr 1 (.tmp 12)) (.q (some 14) none (.ld1 (.tmp 13)) (.q (some 15) none (.bin .neq (.tmp 14) (.const (.int .i64 0))) .done))))) false 4 [1, 2, 4, 15],
  .dfr 10 63 [(.tmp 5), (.tmp 2), (.tmp 4)] 5 [1, 2, 4],
  .reg (.q (some 6) none (.ld1 (.tmp 2)) (.q (some 7) none (.nc (.tmp 6)) (.q (some 8) none (.fadr 0 (.tmp 7)) (.q (some 9) none (.ld1 (.tmp 8)) (.l (some 5) none (.alloc 24 [(1, (.slice none 0 0))]) [] (.l none none (.st1 (.tmp 5) (.tmp 9)) [] .done)))))) false 6 [1, 2, 4, 5],
  .reg (.l (some 2) none (.box 42 (.tmp 0)) [] (.l (some 4) none (.alloc 58 [(1, (.int .u32 0))]) [] .done)) false 7 [1, 2, 4]
  ]
theorem c54_ok : cfgL Try.prog 54 = some (19, 8, c54.map Vc.Node.bare) := by kernel_rfl
/- (*strongbox/wire.Reader).U32$1: entry 3 -/
def c55 : List Vc.Node := [
  .ret [.t 2],
  .ret [.t 2],
  .reg (.q (some 3) none (.mov (.tmp 0)) (.l (some 4) none (.call 51 [(.tmp 3), (.const (.int .i64 4))]) [] (.q (some 5) none (.cvi .u32 (.tmp 4)) (.q (some 2) none (.mov (.tmp 5)) .done)))) false 1 [2],
  .reg (.q (some 2) none (.mov (.const (.int .u32 0))) .done) false 2 [0]
  ]
theorem c55_ok : cfgL Try.prog 55 = some (6, 3, c55.map Vc.Node.bare) := by kernel_rfl
/- strongbox/wire.try[uint64]: entry 8 -/
def c56 : List Vc.Node := [
  .ret [.c1 4],
  .ret [.c1 4],
  .reg (.q (some 16) none (.mov (.tmp 1)) (.q (some 17) none (.ld1 (.tmp 2)) (.l (some 18) none (.callv (.tmp 16) [(.tmp 17)]) [] (.l none none (.st1 (.tmp 4) (.tmp 18)) [] .done)))) false 1 [4],
  .ret [.c1 4],
  .cnd (.tmp 15) 3 2,
  .reg (.q (some 11) none (.ld1 (.tmp 2)) (.q (some 12) none (.nc (.tmp 11)) (.q (some 13) none (.fadr 1 (.tmp 12)) (.q (some 14) none (.ld1 (.tmp 13)) (.q (some 15) none (.bin .neq (.tmp 14) (.const (.int .i64 0))) .done))))) false 4 [1, 2, 4, 15],
  .dfr 10 64 [(.tmp 5), (.tmp 2), (.tmp 4)] 5 [1, 2, 4],
  .reg (.q (some 6) none (.ld1 (.tmp 2)) (.q (some 7) none (.nc (.tmp 6)) (.q (some 8) none (.fadr 0 (.tmp 7)) (.q (some 9) none (.ld1 (.tmp 8)) (.l (some 5) none (.alloc 24 [(1, (.slice none 0 0))]) [] (.l none none (.st1 (.tmp 5) (.tmp 9)) [] .done)))))) false 6 [1, 2, 4, 5],
  .reg (.l (some 2) none (.box 42 (.tmp 0)) [] (.l (some 4) none (.alloc 29 [(1, (.int .u64 0))]) [] .done)) false 7 [1, 2, 4]
  ]
theorem c56_ok : cfgL Try.prog 56 = some (19, 8, c56.map Vc.Node.bare) := by kernel_rfl
/- (*strongbox/wire.Reader).U64$1: entry 3 -/
def c57 : List Vc.Node := [
  .ret [.t 2],
  .ret [.t 2],
  .reg (.q (some 3) none (.mov (.tmp 0)) (.l (some 4) none (.call 51 [(.tmp 3), (.const (.int .i64 8))]) [] (.q (some 2) none (.mov (.tmp 4)) .done))) false 1 [2],
  .reg (.q (some 2) none (.mov (.const (.int .u64 0))) .done) false 2 [0]
  ]
theorem c57_ok : cfgL Try.prog 57 = some (5, 3, c57.map Vc.Node.bare) := by kernel_rfl
/- (*strongbox/wire.Writer).number: entry 7 -/
def c58 : List Vc.Node := [
  .ret [],
  .jmp 6,
  .reg (.q (some 22) none (.bin .add (.tmp 7) (.const (.int .i64 1))) (.q (some 7) none (.mov (.tmp 22)) .done)) false 1 [0, 1, 6, 7],
  .reg (.q (some 20) none (.mov (.tmp 1)) (.q (some 21) none (.bin .shr (.tmp 20) (.const (.int .u64 8))) (.q (some 1) none (.mov (.tmp 21)) .done))) false 2 [0, 1, 6, 7],
  .reg (.q (some 9) none (.mov (.tmp 0)) (.q (some 10) none (.mov (.tmp 0)) (.q (some 11) none (.nc (.tmp 10)) (.q (some 12) none (.fadr 0 (.tmp 11)) (.q (some 13) none (.ld1 (.tmp 12)) (.q (some 14) none (.mov (.tmp 1)) (.q (some 15) none (.cvi .u8 (.tmp 14)) (.l (some 16) none (.bldS 5 1 [(.tmp 15)]) [] (.l (some 17) none (.app 5 1 1 [(1, (.int .u8 0))] (.tmp 13) (.tmp 16)) [] (.q (some 18) none (.nc (.tmp 9)) (.q (some 19) none (.fadr 0 (.tmp 18)) (.l none none (.st1 (.tmp 19) (.tmp 17)) [] .done)))))))))))) false 3 [0, 1, 6, 7],
  .cnd (.tmp 8) 4 0,
  .reg (.q (some 8) none (.bin .lss (.tmp 7) (.tmp 6)) .done) false 5 [0, 1, 6, 7, 8],
  .reg (.q (some 6) none (.mov (.tmp 2)) (.q (some 7) none (.mov (.const (.int .i64 0))) .done)) false 6 [0, 1, 6, 7]
  ]
theorem c58_ok : cfgL Try.prog 58 = some (23, 7, c58.map Vc.Node.bare) := by kernel_rfl
/- strongbox/wire.try[[]byte]$1: entry 9 -/
def c59 : List Vc.Node := [
  .ret [],
  .reg (.q (some 18) none (.ld1 (.tmp 1)) (.q (some 19) none (.ld1 (.tmp 1)) (.q (some 20) none (.ld1 (.tmp 0)) (.q (some 21) none (.mov (.tmp 4)) (.q (some 22) none (.mov (.tmp 6)) (.q (some 23) none (.nc (.tmp 18)) (.q (some 24) none (.fadr 0 (.tmp 23)) (.l none none (.st1 (.tmp 24) (.tmp 20)) [] (.q (some 25) none (.nc (.tmp 19)) (.q (some 26) none (.fadr 1 (.tmp 25)) (.l none none (.st1 (.tmp 26) (.tmp 21)) [] (.l none none (.st1 (.tmp 2) (.tmp 22)) [] .done)))))))))))) false 0 [],
  .reg (.q (some 6) none (.mov (.const (.slice none 0 0))) .done) false 1 [0, 1, 2, 4, 6],
  .reg (.q (some 17) none (.mov (.tmp 3)) (.l none none (.pan (.tmp 17)) [] .done)) false 2 [0, 1, 2, 4],
  .cnd (.tmp 16) 3 2,
  .reg (.q (some 15) none (.mov (.tmp 5)) (.q (some 16) none (.not (.tmp 15)) .done)) false 4 [0, 1, 2, 3, 4, 16],
  .reg (.q (some 11) none (.mov (.tmp 3)) (.q (some 12) none (.tas 71 .i64 (.tmp 11)) (.q (some 10) none (.mov (.tmp 12)) (.q (some 13) none (.ext 0 (.tmp 10)) (.q (some 14) none (.ext 1 (.tmp 10)) (.q (some 4) none (.mov (.tmp 13)) (.q (some 5) none (.mov (.tmp 14)) .done))))))) false 5 [0, 1, 2, 3, 4, 5],
  .cnd (.tmp 9) 6 0,
  .reg (.q (some 8) none (.mov (.tmp 3)) (.q (some 9) none (.eqI true (.tmp 8) (.const .nilIface)) .done)) false 7 [0, 1, 2, 3, 9],
  .rcv 7 3 8 [0, 1, 2, 3]
  ]
theorem c59_ok : cfgL Try.prog 59 = some (27, 9, c59.map Vc.Node.bare) := by kernel_rfl
/- strongbox/strongboxref01.Value: entry 10 -/
def c60 : List Vc.Node := [
  .ret [.t 2],
  .ret [.t 2],
  .reg (.q (some 20) none (.mov (.tmp 3)) (.q (some 2) none (.mov (.tmp 20)) .done)) false 1 [2],
  .jmp 7,
  .reg (.q (some 10) none (.mov (.tmp 4)) (.q (some 11) none (.bin .sub (.tmp 10) (.const (.int .i64 1))) (.q (some 4) none (.mov (.tmp 11)) .done))) false 3 [0, 3, 4],
  .reg (.q (some 12) none (.mov (.tmp 3)) (.q (some 13) none (.bin .mul (.tmp 12) (.const (.int .u64 256))) (.q (some 14) none (.mov (.tmp 0)) (.q (some 15) none (.mov (.tmp 4)) (.q (some 16) none (.iadrS 1 (.tmp 14) (.tmp 15)) (.q (some 17) none (.ld1 (.tmp 16)) (.q (some 18) none (.cvi .u64 (.tmp 17)) (.q (some 19) none (.bin .add (.tmp 13) (.tmp 18)) (.q (some 3) none (.mov (.tmp 19)) .done))))))))) false 4 [0, 3, 4],
  .cnd (.tmp 9) 5 2,
  .reg (.q (some 8) none (.mov (.tmp 4)) (.q (some 9) none (.bin .geq (.tmp 8) (.const (.int .i64 0))) .done)) false 6 [0, 3, 4, 9],
  .reg (.q (some 5) none (.mov (.tmp 0)) (.q (some 6) none (.len (.tmp 5)) (.q (some 7) none (.bin .sub (.tmp 6) (.const (.int .i64 1))) (.q (some 4) none (.mov (.tmp 7)) .done)))) false 7 [0, 3, 4],
  .reg (.q (some 3) none (.mov (.const (.int .u64 0))) .done) false 8 [0, 3],
  .reg (.q (some 2) none (.mov (.const (.int .u64 0))) .done) false 9 [0]
  ]
theorem c60_ok : cfgL Try.prog 60 = some (21, 10, c60.map Vc.Node.bare) := by kernel_rfl
/- strongbox/wire.try[byte]$1: entry 9 -/
def c61 : List Vc.Node := [
  .ret [],
  .reg (.q (some 18) none (.ld1 (.tmp 1)) (.q (some 19) none (.ld1 (.tmp 1)) (.q (some 20) none (.ld1 (.tmp 0)) (.q (some 21) none (.mov (.tmp 4)) (.q (some 22) none (.mov (.tmp 6)) (.q (some 23) none (.nc (.tmp 18)) (.q (some 24) none (.fadr 0 (.tmp 23)) (.l none none (.st1 (.tmp 24) (.tmp 20)) [] (.q (some 25) none (.nc (.tmp 19)) (.q (some 26) none (.fadr 1 (.tmp 25)) (.l none none (.st1 (.tmp 26) (.tmp 21)) [] (.l none none (.st1 (.tmp 2) (.tmp 22)) [] .done)))))))))))) false 0 [],
  .reg (.q (some 6) none (.mov (.const (.int .u8 0))) .done) false 1 [0, 1, 2, 4, 6],
  .reg (.q (some 17) none (.mov (.tmp 3)) (.l none none (.pan (.tmp 17)) [] .done)) false 2 [0, 1, 2, 4],
  .cnd (.tmp 16) 3 2,
  .reg (.q (some 15) none (.mov (.tmp 5)) (.q (some 16) none (.not (.tmp 15)) .done)) false 4 [0, 1, 2, 3, 4, 16],
  .reg (.q (some 11) none (.mov (.tmp 3)) (.q (some 12) none (.tas 71 .i64 (.tmp 11)) (.q (some 10) none (.mov (.tmp 12)) (.q (some 13) none (.ext 0 (.tmp 10)) (.q (some 14) none (.ext 1 (.tmp 10)) (.q (some 4) none (.mov (.tmp 13)) (.q (some 5) none (.mov (.tmp 14)) .done))))))) false 5 [0, 1, 2, 3, 4, 5],
  .cnd (.tmp 9) 6 0,
  .reg (.q (some 8) none (.mov (.tmp 3)) (.q (some 9) none (.eqI true (.tmp 8) (.const .nilIface)) .done)) false 7 [0, 1, 2, 3, 9],
  .rcv 7 3 8 [0, 1, 2, 3]
  ]
theorem c61_ok : cfgL Try.prog 61 = some (27, 9, c61.map Vc.Node.bare) := by kernel_rfl
/- strongbox/wire.try[uint16]$1: entry 9 -/
def c62 : List Vc.Node := [
  .ret [],
  .reg (.q (some 18) none (.ld1 (.tmp 1)) (.q (some 19) none (.ld1 (.tmp 1)) (.q (some 20) none (.ld1 (.tmp 0)) (.q (some 21) none (.mov (.tmp 4)) (.q (some 22) none (.mov (.tmp 6)) (.q (some 23) none (.nc (.tmp 18)) (.q (some 24) none (.fadr 0 (.tmp 23)) (.l none none (.st1 (.tmp 24) (.tmp 20)) [] (.q (some 25) none (.nc (.tmp 19)) (.q (some 26) none (.fadr 1 (.tmp 25)) (.l none none (.st1 (.tmp 26) (.tmp 21)) [] (.l none none (.st1 (.tmp 2) (.tmp 22)) [] .done)))))))))))) false 0 [],
  .reg (.q (some 6) none (.mov (.const (.int .u16 0))) .done) false 1 [0, 1, 2, 4, 6],
  .reg (.q (some 17) none (.mov (.tmp 3)) (.l none none (.pan (.tmp 17)) [] .done)) false 2 [0, 1, 2, 4],
  .cnd (.tmp 16) 3 2,
  .reg (.q (some 15) none (.mov (.tmp 5)) (.q (some 16) none (.not (.tmp 15)) .done)) false 4 [0, 1, 2, 3, 4, 16],
  .reg (.q (some 11) none (.mov (.tmp 3)) (.q (some 12) none (.tas 71 .i64 (.tmp 11)) (.q (some 10) none (.mov (.tmp 12)) (.q (some 13) none (.ext 0 (.tmp 10)) (.q (some 14) none (.ext 1 (.tmp 10)) (.q (some 4) none (.mov (.tmp 13)) (.q (some 5) none (.mov (.tmp 14)) .done))))))) false 5 [0, 1, 2, 3, 4, 5],
  .cnd (.tmp 9) 6 0,
  .reg (.q (some 8) none (.mov (.tmp 3)) (.q (some 9) none (.eqI true (.tmp 8) (.const .nilIface)) .done)) false 7 [0, 1, 2, 3, 9],
  .rcv 7 3 8 [0, 1, 2, 3]
  ]
theorem c62_ok : cfgL Try.prog 62 = some (27, 9, c62.map Vc.Node.bare) := by kernel_rfl
/- strongbox/wire.try[uint32]$1: entry 9 -/
def c63 : List Vc.Node := [
  .ret [],
  .reg (.q (some 18) none (.ld1 (.tmp 1)) (.q (some 19) none (.ld1 (.tmp 1)) (.q (some 20) none (.ld1 (.tmp 0)) (.q (some 21) none (.mov (.tmp 4)) (.q (some 22) none (.mov (.tmp 6)) (.q (some 23) none (.nc (.tmp 18)) (.q (some 24) none (.fadr 0 (.tmp 23)) (.l none none (.st1 (.tmp 24) (.tmp 20)) [] (.q (some 25) none (.nc (.tmp 19)) (.q (some 26) none (.fadr 1 (.tmp 25)) (.l none none (.st1 (.tmp 26) (.tmp 21)) [] (.l none none (.st1 (.tmp 2) (.tmp 22)) [] .done)))))))))))) false 0 [],
  .reg (.q (some 6) none (.mov (.const (.int .u32 0))) .done) false 1 [0, 1, 2, 4, 6],
  .reg (.q (some 17) none (.mov (.tmp 3)) (.l none none (.pan (.tmp 17)) [] .done)) false 2 [0, 1, 2, 4],
  .cnd (.tmp 16) 3 2,
  .reg (.q (some 15) none (.mov (.tmp 5)) (.q (some 16) none (.not (.tmp 15)) .done)) false 4 [0, 1, 2, 3, 4, 16],
  .reg (.q (some 11) none (.mov (.tmp 3)) (.q (some 12) none (.tas 71 .i64 (.tmp 11)) (.q (some 10) none (.mov (.tmp 12)) (.q (some 13) none (.ext 0 (.tmp 10)) (.q (some 14) none (.ext 1 (.tmp 10)) (.q (some 4) none (.mov (.tmp 13)) (.q (some 5) none (.mov (.tmp 14)) .done))))))) false 5 [0, 1, 2, 3, 4, 5],
  .cnd (.tmp 9) 6 0,
  .reg (.q (some 8) none (.mov (.tmp 3)) (.q (some 9) none (.eqI true (.tmp 8) (.const .nilIface)) .done)) false 7 [0, 1, 2, 3, 9],
  .rcv 7 3 8 [0, 1, 2, 3]
  ]
theorem c63_ok : cfgL Try.prog 63 = some (27, 9, c63.map Vc.Node.bare) := by kernel_rfl
/- strongbox/wire.try[uint64]$1: entry 9 -/
def c64 : List Vc.Node := [
  .ret [],
  .reg (.q (some 18) none (.ld1 (.tmp 1)) (.q (some 19) none (.ld1 (.tmp 1)) (.q (some 20) none (.ld1 (.tmp 0)) (.q (some 21) none (.mov (.tmp 4)) (.q (some 22) none (.mov (.tmp 6)) (.q (some 23) none (.nc (.tmp 18)) (.q (some 24) none (.fadr 0 (.tmp 23)) (.l none none (.st1 (.tmp 24) (.tmp 20)) [] (.q (some 25) none (.nc (.tmp 19)) (.q (some 26) none (.fadr 1 (.tmp 25)) (.l none none (.st1 (.tmp 26) (.tmp 21)) [] (.l none none (.st1 (.tmp 2) (.tmp 22)) [] .done)))))))))))) false 0 [],
  .reg (.q (some 6) none (.mov (.const (.int .u64 0))) .done) false 1 [0, 1, 2, 4, 6],
  .reg (.q (some 17) none (.mov (.tmp 3)) (.l none none (.pan (.tmp 17)) [] .done)) false 2 [0, 1, 2, 4],
  .cnd (.tmp 16) 3 2,
  .reg (.q (some 15) none (.mov (.tmp 5)) (.q (some 16) none (.not (.tmp 15)) .done)) false 4 [0, 1, 2, 3, 4, 16],
  .reg (.q (some 11) none (.mov (.tmp 3)) (.q (some 12) none (.tas 71 .i64 (.tmp 11)) (.q (some 10) none (.mov (.tmp 12)) (.q (some 13) none (.ext 0 (.tmp 10)) (.q (some 14) none (.ext 1 (.tmp 10)) (.q (some 4) none (.mov (.tmp 13)) (.q (some 5) none (.mov (.tmp 14)) .done))))))) false 5 [0, 1, 2, 3, 4, 5],
  .cnd (.tmp 9) 6 0,
  .reg (.q (some 8) none (.mov (.tmp 3)) (.q (some 9) none (.eqI true (.tmp 8) (.const .nilIface)) .done)) false 7 [0, 1, 2, 3, 9],
  .rcv 7 3 8 [0, 1, 2, 3]
  ]
theorem c64_ok : cfgL Try.prog 64 = some (27, 9, c64.map Vc.Node.bare) := by kernel_rfl
end Go.Proofs
