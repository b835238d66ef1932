/- The graphs of this seat's functions, written by program, each held against the translation by the kernel. -/
import Derived.Test.YthjijgmhicplaaaProg
import Derived.Test.YthjijgmhicplaaaVcF
import Derived.KernelRfl
set_option linter.unusedSimpArgs false
set_option linter.unusedVariables false
set_option linter.constructorNameAsVariable false
namespace Go.Proofs
open Go.Vc
/- gosem.cut.init: entry 1 -/
def c2 : List Vc.Node := [
  .ret [],
  .bad
  ]
theorem c2_ok : cfgL Try.prog 2 = some (1, 1, c2.map Vc.Node.bare) := by kernel_rfl
/- strongbox/strongboxlaw11.ScriptParses: entry 32 -/
def c3 : List Vc.Node := [
  .ret [.t 2],
  .ret [.t 2],
  .reg (.q (some 113) none (.mov (.tmp 4)) (.q (some 114) none (.mov (.tmp 0)) (.l (some 115) none (.call 16 [(.tmp 113), (.tmp 114)]) [] (.q (some 2) none (.mov (.tmp 115)) .done)))) false 1 [2],
  .jmp 18,
  .reg (.q (some 112) none (.bin .add (.tmp 64) (.const (.int .i64 1))) (.q (some 64) none (.mov (.tmp 112)) .done)) false 3 [0, 4, 5, 7, 63, 64],
  .jmp 10,
  .reg (.q (some 111) none (.bin .add (.tmp 98) (.const (.int .i64 1))) (.q (some 98) none (.mov (.tmp 111)) .done)) false 5 [0, 4, 5, 7, 9, 63, 64, 97, 98],
  .reg (.q (some 101) none (.mov (.tmp 5)) (.q (some 102) none (.mov (.tmp 9)) (.q (some 103) none (.iadrS 2 (.tmp 101) (.tmp 102)) (.q (some 104) none (.fadr 1 (.tmp 103)) (.q (some 105) none (.ld1 (.tmp 104)) (.q (some 106) none (.mov (.tmp 10)) (.q (some 107) none (.iadrS 1 (.tmp 105) (.tmp 106)) (.q (some 108) none (.ld1 (.tmp 107)) (.q (some 109) none (.bin .xor (.tmp 108) (.const (.int .u8 255))) (.q (some 110) none (.iadrS 1 (.tmp 105) (.tmp 106)) (.l none none (.st1 (.tmp 110) (.tmp 109)) [] .done))))))))))) false 6 [0, 4, 5, 7, 9, 63, 64, 97, 98],
  .reg (.q (some 100) none (.mov (.tmp 98)) (.q (some 10) none (.mov (.tmp 100)) .done)) false 7 [0, 4, 5, 7, 9, 10, 63, 64, 97, 98],
  .cnd (.tmp 99) 8 4,
  .reg (.q (some 99) none (.bin .lss (.tmp 98) (.tmp 97)) .done) false 9 [0, 4, 5, 7, 9, 63, 64, 97, 98, 99],
  .reg (.q (some 92) none (.mov (.tmp 5)) (.q (some 93) none (.mov (.tmp 9)) (.q (some 94) none (.iadrS 2 (.tmp 92) (.tmp 93)) (.q (some 95) none (.fadr 1 (.tmp 94)) (.q (some 96) none (.ld1 (.tmp 95)) (.q (some 97) none (.len (.tmp 96)) (.q (some 98) none (.mov (.const (.int .i64 0))) .done))))))) false 10 [0, 4, 5, 7, 9, 63, 64, 97, 98],
  .ret [.t 2],
  .reg (.q (some 2) none (.mov (.const (.bool false))) .done) false 12 [2],
  .cnd (.tmp 91) 13 11,
  .reg (.q (some 67) none (.mov (.tmp 5)) (.q (some 68) none (.mov (.tmp 9)) (.q (some 69) none (.iadrS 2 (.tmp 67) (.tmp 68)) (.q (some 70) none (.fadr 0 (.tmp 69)) (.q (some 71) none (.ld1 (.tmp 70)) (.q (some 72) none (.mov (.tmp 7)) (.q (some 73) none (.mov (.tmp 9)) (.q (some 74) none (.iadrS 2 (.tmp 72) (.tmp 73)) (.q (some 75) none (.fadr 0 (.tmp 74)) (.q (some 76) none (.ld1 (.tmp 75)) (.q (some 77) none (.bin .neq (.tmp 71) (.tmp 76)) (.q (some 78) none (.mov (.tmp 77)) (.q (some 79) (some (78, false)) (.mov (.tmp 5)) (.q (some 80) (some (78, false)) (.mov (.tmp 9)) (.q (some 81) (some (78, false)) (.iadrS 2 (.tmp 79) (.tmp 80)) (.q (some 82) (some (78, false)) (.fadr 1 (.tmp 81)) (.q (some 83) (some (78, false)) (.ld1 (.tmp 82)) (.q (some 84) (some (78, false)) (.mov (.tmp 7)) (.q (some 85) (some (78, false)) (.mov (.tmp 9)) (.q (some 86) (some (78, false)) (.iadrS 2 (.tmp 84) (.tmp 85)) (.q (some 87) (some (78, false)) (.fadr 1 (.tmp 86)) (.q (some 88) (some (78, false)) (.ld1 (.tmp 87)) (.l (some 89) (some (78, false)) (.call 17 [(.tmp 83), (.tmp 88)]) [] (.q (some 90) (some (78, false)) (.not (.tmp 89)) (.q (some 91) none (.pick (.tmp 78) (.const (.bool true)) (.tmp 90)) .done))))))))))))))))))))))))) true 14 [0, 4, 5, 7, 9, 63, 64, 91],
  .reg (.q (some 66) none (.mov (.tmp 64)) (.q (some 9) none (.mov (.tmp 66)) .done)) false 15 [0, 4, 5, 7, 9, 63, 64],
  .cnd (.tmp 65) 16 2,
  .reg (.q (some 65) none (.bin .lss (.tmp 64) (.tmp 63)) .done) false 17 [0, 4, 5, 7, 63, 64, 65],
  .reg (.q (some 62) none (.mov (.tmp 5)) (.q (some 63) none (.len (.tmp 62)) (.q (some 64) none (.mov (.const (.int .i64 0))) .done))) false 18 [0, 4, 5, 7, 63, 64],
  .ret [.t 2],
  .reg (.q (some 2) none (.mov (.const (.bool false))) .done) false 20 [2],
  .cnd (.tmp 61) 21 19,
  .reg (.q (some 30) none (.mov (.tmp 6)) (.q (some 31) none (.bin .eql (.tmp 30) (.const (.int .i64 0))) (.q (some 32) none (.mov (.tmp 8)) (.q (some 33) none (.eqB true (.tmp 31) (.tmp 32)) (.q (some 34) none (.mov (.tmp 33)) (.q (some 35) (some (34, false)) (.mov (.tmp 8)) (.q (some 36) (some (34, false)) (.not (.tmp 35)) (.q (some 37) (some (34, false)) (.mov (.tmp 36)) (.q (some 38) (some (37, true)) (.mov (.tmp 6)) (.q (some 39) (some (37, true)) (.bin .neq (.tmp 38) (.const (.int .i64 4))) (.q (some 40) (some (34, false)) (.pick (.tmp 37) (.tmp 39) (.const (.bool false))) (.q (some 41) none (.pick (.tmp 34) (.const (.bool true)) (.tmp 40)) (.q (some 42) none (.mov (.tmp 41)) (.q (some 43) (some (42, false)) (.mov (.tmp 5)) (.q (some 44) (some (42, false)) (.len (.tmp 43)) (.q (some 45) (some (42, false)) (.mov (.tmp 7)) (.q (some 46) (some (42, false)) (.len (.tmp 45)) (.q (some 47) (some (42, false)) (.bin .neq (.tmp 44) (.tmp 46)) (.q (some 48) none (.pick (.tmp 42) (.const (.bool true)) (.tmp 47)) (.q (some 49) none (.mov (.tmp 48)) (.q (some 50) (some (49, false)) (.mov (.tmp 3)) (.l (some 51) (some (49, false)) (.call 14 [(.tmp 50)]) [] (.q (some 52) (some (49, false)) (.mov (.tmp 0)) (.l (some 53) (some (49, false)) (.call 15 [(.tmp 52)]) [] (.q (some 54) (some (49, false)) (.eqB true (.tmp 51) (.tmp 53)) (.q (some 55) none (.pick (.tmp 49) (.const (.bool true)) (.tmp 54)) (.q (some 56) none (.mov (.tmp 55)) (.q (some 57) (some (56, false)) (.mov (.tmp 4)) (.q (some 58) (some (56, false)) (.mov (.tmp 0)) (.l (some 59) (some (56, false)) (.call 16 [(.tmp 57), (.tmp 58)]) [] (.q (some 60) (some (56, false)) (.not (.tmp 59)) (.q (some 61) none (.pick (.tmp 56) (.const (.bool true)) (.tmp 60)) .done)))))))))))))))))))))))))))))))) false 22 [0, 4, 5, 7, 61],
  .reg (.q (some 26) none (.mov (.tmp 0)) (.l (some 27) none (.call 13 [(.tmp 26)]) [] (.q (some 25) none (.mov (.tmp 27)) (.q (some 28) none (.ext 0 (.tmp 25)) (.q (some 29) none (.ext 1 (.tmp 25)) (.q (some 7) none (.mov (.tmp 28)) (.q (some 8) none (.mov (.tmp 29)) .done))))))) false 23 [0, 3, 4, 5, 6, 7, 8],
  .reg (.q (some 21) none (.mov (.tmp 3)) (.l (some 22) none (.call 12 [(.tmp 21)]) [] (.q (some 20) none (.mov (.tmp 22)) (.q (some 23) none (.ext 0 (.tmp 20)) (.q (some 24) none (.ext 1 (.tmp 20)) (.q (some 5) none (.mov (.tmp 23)) (.q (some 6) none (.mov (.tmp 24)) .done))))))) false 24 [0, 3, 4, 5, 6],
  .reg (.q (some 16) none (.mov (.tmp 0)) (.l (some 17) none (.call 11 [(.tmp 16)]) [] (.q (some 15) none (.mov (.tmp 17)) (.q (some 18) none (.ext 0 (.tmp 15)) (.q (some 19) none (.ext 1 (.tmp 15)) (.q (some 3) none (.mov (.tmp 18)) (.q (some 4) none (.mov (.tmp 19)) .done))))))) false 25 [0, 3, 4],
  .reg (.q (some 13) none (.mov (.tmp 0)) (.l (some 14) none (.call 10 [(.tmp 13), (.const (.int .i64 2000))]) [] (.q (some 0) none (.mov (.tmp 14)) .done))) false 26 [0],
  .ret [.t 2],
  .reg (.q (some 2) none (.mov (.const (.bool false))) .done) false 28 [2],
  .cnd (.tmp 12) 29 27,
  .reg (.l (some 11) none (.call 9 []) [] (.q (some 12) none (.not (.tmp 11)) .done)) false 30 [0, 12],
  .reg (.q (some 2) none (.mov (.const (.bool false))) .done) false 31 [0]
  ]
theorem c3_ok : cfgL Try.prog 3 = some (116, 32, c3.map Vc.Node.bare) := by kernel_rfl
/- strongbox/strongboxlaw11.ScriptPushes: entry 28 -/
def c4 : List Vc.Node := [
  .ret [.t 4],
  .ret [.t 4],
  .reg (.q (some 92) none (.mov (.tmp 9)) (.q (some 93) none (.iadrS 2 (.tmp 92) (.const (.int .i64 0))) (.q (some 94) none (.fadr 1 (.tmp 93)) (.q (some 95) none (.ld1 (.tmp 94)) (.q (some 96) none (.mov (.tmp 0)) (.l (some 97) none (.call 17 [(.tmp 95), (.tmp 96)]) [] (.q (some 4) none (.mov (.tmp 97)) .done))))))) false 1 [4],
  .ret [.t 4],
  .reg (.q (some 63) none (.mov (.tmp 0)) (.q (some 64) none (.len (.tmp 63)) (.q (some 65) none (.bin .eql (.tmp 64) (.const (.int .i64 1))) (.q (some 66) none (.mov (.tmp 65)) (.q (some 67) (some (66, true)) (.mov (.tmp 0)) (.q (some 68) (some (66, true)) (.iadrS 1 (.tmp 67) (.const (.int .i64 0))) (.q (some 69) (some (66, true)) (.ld1 (.tmp 68)) (.q (some 70) (some (66, true)) (.mov (.tmp 9)) (.q (some 71) (some (66, true)) (.iadrS 2 (.tmp 70) (.const (.int .i64 0))) (.q (some 72) (some (66, true)) (.fadr 0 (.tmp 71)) (.q (some 73) (some (66, true)) (.ld1 (.tmp 72)) (.q (some 74) (some (66, true)) (.bin .sub (.tmp 73) (.const (.int .u8 80))) (.q (some 75) (some (66, true)) (.bin .eql (.tmp 69) (.tmp 74)) (.q (some 76) none (.pick (.tmp 66) (.tmp 75) (.const (.bool false))) (.q (some 4) none (.mov (.tmp 76)) .done))))))))))))))) true 3 [4],
  .ret [.t 4],
  .reg (.q (some 83) none (.mov (.tmp 0)) (.q (some 84) none (.len (.tmp 83)) (.q (some 85) none (.bin .eql (.tmp 84) (.const (.int .i64 1))) (.q (some 86) none (.mov (.tmp 85)) (.q (some 87) (some (86, true)) (.mov (.tmp 0)) (.q (some 88) (some (86, true)) (.iadrS 1 (.tmp 87) (.const (.int .i64 0))) (.q (some 89) (some (86, true)) (.ld1 (.tmp 88)) (.q (some 90) (some (86, true)) (.bin .eql (.tmp 89) (.const (.int .u8 129))) (.q (some 91) none (.pick (.tmp 86) (.tmp 90) (.const (.bool false))) (.q (some 4) none (.mov (.tmp 91)) .done)))))))))) false 5 [4],
  .cnd (.tmp 77) 6 2,
  .reg (.q (some 78) none (.mov (.tmp 9)) (.q (some 79) none (.iadrS 2 (.tmp 78) (.const (.int .i64 0))) (.q (some 80) none (.fadr 0 (.tmp 79)) (.q (some 81) none (.ld1 (.tmp 80)) (.q (some 82) none (.bin .eql (.tmp 81) (.const (.int .u8 79))) (.q (some 77) none (.mov (.tmp 82)) .done)))))) false 7 [0, 9, 77],
  .cnd (.tmp 57) 4 8,
  .reg (.q (some 58) none (.mov (.tmp 9)) (.q (some 59) none (.iadrS 2 (.tmp 58) (.const (.int .i64 0))) (.q (some 60) none (.fadr 0 (.tmp 59)) (.q (some 61) none (.ld1 (.tmp 60)) (.q (some 62) none (.bin .geq (.tmp 61) (.const (.int .u8 81))) (.q (some 57) none (.mov (.tmp 62)) .done)))))) false 9 [0, 9, 57],
  .ret [.t 4],
  .reg (.q (some 4) none (.mov (.const (.bool false))) .done) false 11 [4],
  .cnd (.tmp 56) 12 10,
  .reg (.q (some 45) none (.mov (.tmp 10)) (.q (some 46) none (.bin .neq (.tmp 45) (.const (.int .i64 0))) (.q (some 47) none (.mov (.tmp 46)) (.q (some 48) (some (47, false)) (.mov (.tmp 9)) (.q (some 49) (some (47, false)) (.len (.tmp 48)) (.q (some 50) (some (47, false)) (.bin .neq (.tmp 49) (.const (.int .i64 2))) (.q (some 51) none (.pick (.tmp 47) (.const (.bool true)) (.tmp 50)) (.q (some 52) none (.mov (.tmp 51)) (.q (some 53) (some (52, false)) (.mov (.tmp 7)) (.l (some 54) (some (52, false)) (.call 14 [(.tmp 53)]) [] (.q (some 55) (some (52, false)) (.not (.tmp 54)) (.q (some 56) none (.pick (.tmp 52) (.const (.bool true)) (.tmp 55)) .done)))))))))))) false 13 [0, 9, 56],
  .reg (.l (some 37) none (.bldS 5 1 []) [] (.q (some 38) none (.mov (.tmp 7)) (.l (some 39) none (.app 5 1 1 [(1, (.int .u8 0))] (.tmp 37) (.tmp 38)) [] (.q (some 40) none (.mov (.tmp 8)) (.l (some 41) none (.app 5 1 1 [(1, (.int .u8 0))] (.tmp 39) (.tmp 40)) [] (.l (some 42) none (.call 12 [(.tmp 41)]) [] (.q (some 36) none (.mov (.tmp 42)) (.q (some 43) none (.ext 0 (.tmp 36)) (.q (some 44) none (.ext 1 (.tmp 36)) (.q (some 9) none (.mov (.tmp 43)) (.q (some 10) none (.mov (.tmp 44)) .done))))))))))) false 14 [0, 7, 9, 10],
  .reg (.q (some 33) none (.mov (.tmp 1)) (.l (some 34) none (.call 10 [(.tmp 33), (.const (.int .i64 300))]) [] (.l (some 35) none (.call 18 [(.tmp 34)]) [] (.q (some 8) none (.mov (.tmp 35)) .done)))) false 15 [0, 7, 8],
  .ret [.t 4],
  .reg (.q (some 4) none (.mov (.const (.bool false))) .done) false 17 [4],
  .cnd (.tmp 32) 18 16,
  .reg (.q (some 22) none (.mov (.tmp 7)) (.q (some 23) none (.mov (.tmp 0)) (.l (some 24) none (.call 19 [(.tmp 23)]) [] (.l (some 25) none (.call 17 [(.tmp 22), (.tmp 24)]) [] (.q (some 26) none (.not (.tmp 25)) (.q (some 27) none (.mov (.tmp 26)) (.q (some 28) (some (27, false)) (.mov (.tmp 6)) (.q (some 29) (some (27, false)) (.mov (.tmp 0)) (.l (some 30) (some (27, false)) (.call 16 [(.tmp 28), (.tmp 29)]) [] (.q (some 31) (some (27, false)) (.not (.tmp 30)) (.q (some 32) none (.pick (.tmp 27) (.const (.bool true)) (.tmp 31)) .done))))))))))) false 19 [0, 1, 7, 32],
  .reg (.q (some 20) none (.mov (.tmp 5)) (.l (some 21) none (.call 18 [(.tmp 20)]) [] (.q (some 7) none (.mov (.tmp 21)) .done))) false 20 [0, 1, 6, 7],
  .reg (.q (some 16) none (.mov (.tmp 0)) (.l (some 17) none (.call 11 [(.tmp 16)]) [] (.q (some 15) none (.mov (.tmp 17)) (.q (some 18) none (.ext 0 (.tmp 15)) (.q (some 19) none (.ext 1 (.tmp 15)) (.q (some 5) none (.mov (.tmp 18)) (.q (some 6) none (.mov (.tmp 19)) .done))))))) false 21 [0, 1, 5, 6],
  .reg (.q (some 13) none (.mov (.tmp 0)) (.l (some 14) none (.call 10 [(.tmp 13), (.const (.int .i64 70000))]) [] (.q (some 0) none (.mov (.tmp 14)) .done))) false 22 [0, 1],
  .ret [.t 4],
  .reg (.q (some 4) none (.mov (.const (.bool false))) .done) false 24 [4],
  .cnd (.tmp 12) 25 23,
  .reg (.l (some 11) none (.call 9 []) [] (.q (some 12) none (.not (.tmp 11)) .done)) false 26 [0, 1, 12],
  .reg (.q (some 4) none (.mov (.const (.bool false))) .done) false 27 [0, 1]
  ]
theorem c4_ok : cfgL Try.prog 4 = some (98, 28, c4.map Vc.Node.bare) := by kernel_rfl
/- strongbox/strongboxlaw11.ScriptKinds: entry 21 -/
def c5 : List Vc.Node := [
  .ret [.t 2],
  .ret [.t 2],
  .reg (.q (some 90) none (.mov (.tmp 6)) (.q (some 91) none (.mov (.tmp 10)) (.q (some 92) none (.mov (.tmp 4)) (.l (some 93) none (.bldS 22 1 [(.tmp 91), (.tmp 92)]) [] (.l (some 94) none (.app 22 1 24 [(1, (.slice none 0 0))] (.tmp 90) (.tmp 93)) [] (.l (some 95) none (.call 25 [(.tmp 94)]) [] (.q (some 2) none (.mov (.tmp 95)) .done))))))) false 1 [2],
  .ret [.t 2],
  .reg (.q (some 2) none (.mov (.const (.bool false))) .done) false 3 [2],
  .cnd (.tmp 89) 4 2,
  .reg (.q (some 59) none (.mov (.tmp 11)) (.q (some 60) none (.mov (.tmp 12)) (.q (some 61) none (.bin .geq (.tmp 60) (.const (.int .i64 0))) (.q (some 62) none (.eqB true (.tmp 59) (.tmp 61)) (.q (some 63) none (.mov (.tmp 62)) (.q (some 64) (some (63, false)) (.mov (.tmp 11)) (.q (some 65) (some (63, false)) (.mov (.tmp 64)) (.q (some 66) (some (65, true)) (.mov (.tmp 9)) (.q (some 67) (some (65, true)) (.mov (.tmp 12)) (.q (some 68) (some (65, true)) (.bin .neq (.tmp 66) (.tmp 67)) (.q (some 69) (some (65, true)) (.mov (.tmp 68)) (.q (some 70) (some (69, false)) (.mov (.tmp 10)) (.q (some 71) (some (69, false)) (.mov (.tmp 13)) (.l (some 72) (some (69, false)) (.call 17 [(.tmp 70), (.tmp 71)]) [] (.q (some 73) (some (69, false)) (.not (.tmp 72)) (.q (some 74) (some (65, true)) (.pick (.tmp 69) (.const (.bool true)) (.tmp 73)) (.q (some 75) (some (63, false)) (.pick (.tmp 65) (.tmp 74) (.const (.bool false))) (.q (some 76) none (.pick (.tmp 63) (.const (.bool true)) (.tmp 75)) (.q (some 77) none (.mov (.tmp 76)) (.q (some 78) (some (77, false)) (.mov (.tmp 11)) (.q (some 79) (some (77, false)) (.not (.tmp 78)) (.q (some 80) (some (77, false)) (.mov (.tmp 79)) (.q (some 81) (some (80, true)) (.mov (.tmp 9)) (.q (some 82) (some (80, true)) (.bin .neq (.tmp 81) (.const (.int .i64 0))) (.q (some 83) (some (80, true)) (.mov (.tmp 82)) (.q (some 84) (some (83, false)) (.mov (.tmp 10)) (.q (some 85) (some (83, false)) (.len (.tmp 84)) (.q (some 86) (some (83, false)) (.bin .gtr (.tmp 85) (.const (.int .i64 0))) (.q (some 87) (some (80, true)) (.pick (.tmp 83) (.const (.bool true)) (.tmp 86)) (.q (some 88) (some (77, false)) (.pick (.tmp 80) (.tmp 87) (.const (.bool false))) (.q (some 89) none (.pick (.tmp 77) (.const (.bool true)) (.tmp 88)) .done))))))))))))))))))))))))))))))) false 5 [4, 6, 10, 89],
  .reg (.q (some 55) none (.mov (.tmp 0)) (.l (some 56) none (.call 24 [(.tmp 55)]) [] (.q (some 54) none (.mov (.tmp 56)) (.q (some 57) none (.ext 0 (.tmp 54)) (.q (some 58) none (.ext 1 (.tmp 54)) (.q (some 12) none (.mov (.tmp 57)) (.q (some 13) none (.mov (.tmp 58)) .done))))))) false 6 [4, 6, 9, 10, 11, 12, 13],
  .reg (.q (some 49) none (.mov (.tmp 3)) (.l (some 50) none (.call 23 [(.tmp 49)]) [] (.q (some 48) none (.mov (.tmp 50)) (.q (some 51) none (.ext 0 (.tmp 48)) (.q (some 52) none (.ext 1 (.tmp 48)) (.q (some 53) none (.ext 2 (.tmp 48)) (.q (some 9) none (.mov (.tmp 51)) (.q (some 10) none (.mov (.tmp 52)) (.q (some 11) none (.mov (.tmp 53)) .done))))))))) false 7 [0, 4, 6, 9, 10, 11],
  .ret [.t 2],
  .reg (.q (some 2) none (.mov (.const (.bool false))) .done) false 9 [2],
  .cnd (.tmp 47) 10 8,
  .reg (.q (some 33) none (.mov (.tmp 5)) (.q (some 34) none (.mov (.tmp 7)) (.q (some 35) none (.bin .neq (.tmp 33) (.tmp 34)) (.q (some 36) none (.mov (.tmp 35)) (.q (some 37) (some (36, false)) (.mov (.tmp 6)) (.q (some 38) (some (36, false)) (.mov (.tmp 8)) (.l (some 39) (some (36, false)) (.call 22 [(.tmp 37), (.tmp 38)]) [] (.q (some 40) (some (36, false)) (.not (.tmp 39)) (.q (some 41) none (.pick (.tmp 36) (.const (.bool true)) (.tmp 40)) (.q (some 42) none (.mov (.tmp 41)) (.q (some 43) (some (42, false)) (.mov (.tmp 4)) (.q (some 44) (some (42, false)) (.mov (.tmp 0)) (.l (some 45) (some (42, false)) (.call 16 [(.tmp 43), (.tmp 44)]) [] (.q (some 46) (some (42, false)) (.not (.tmp 45)) (.q (some 47) none (.pick (.tmp 42) (.const (.bool true)) (.tmp 46)) .done))))))))))))))) false 11 [0, 3, 4, 6, 47],
  .reg (.q (some 29) none (.mov (.tmp 0)) (.l (some 30) none (.call 21 [(.tmp 29)]) [] (.q (some 28) none (.mov (.tmp 30)) (.q (some 31) none (.ext 0 (.tmp 28)) (.q (some 32) none (.ext 1 (.tmp 28)) (.q (some 7) none (.mov (.tmp 31)) (.q (some 8) none (.mov (.tmp 32)) .done))))))) false 12 [0, 3, 4, 5, 6, 7, 8],
  .reg (.q (some 24) none (.mov (.tmp 3)) (.l (some 25) none (.call 20 [(.tmp 24)]) [] (.q (some 23) none (.mov (.tmp 25)) (.q (some 26) none (.ext 0 (.tmp 23)) (.q (some 27) none (.ext 1 (.tmp 23)) (.q (some 5) none (.mov (.tmp 26)) (.q (some 6) none (.mov (.tmp 27)) .done))))))) false 13 [0, 3, 4, 5, 6],
  .reg (.q (some 19) none (.mov (.tmp 0)) (.l (some 20) none (.call 11 [(.tmp 19)]) [] (.q (some 18) none (.mov (.tmp 20)) (.q (some 21) none (.ext 0 (.tmp 18)) (.q (some 22) none (.ext 1 (.tmp 18)) (.q (some 3) none (.mov (.tmp 21)) (.q (some 4) none (.mov (.tmp 22)) .done))))))) false 14 [0, 3, 4],
  .reg (.q (some 16) none (.mov (.tmp 0)) (.l (some 17) none (.call 10 [(.tmp 16), (.const (.int .i64 1000))]) [] (.q (some 0) none (.mov (.tmp 17)) .done))) false 15 [0],
  .ret [.t 2],
  .reg (.q (some 2) none (.mov (.const (.bool false))) .done) false 17 [2],
  .cnd (.tmp 15) 18 16,
  .reg (.l (some 14) none (.call 9 []) [] (.q (some 15) none (.not (.tmp 14)) .done)) false 19 [0, 15],
  .reg (.q (some 2) none (.mov (.const (.bool false))) .done) false 20 [0]
  ]
theorem c5_ok : cfgL Try.prog 5 = some (96, 21, c5.map Vc.Node.bare) := by kernel_rfl
/- strongbox/strongboxlaw11.ScriptNumbers: entry 20 -/
def c6 : List Vc.Node := [
  .ret [.t 6],
  .ret [.t 6],
  .reg (.q (some 71) none (.mov (.tmp 10)) (.q (some 72) none (.mov (.tmp 11)) (.q (some 73) none (.bin .eql (.tmp 71) (.tmp 72)) (.q (some 74) none (.mov (.tmp 73)) (.q (some 75) (some (74, true)) (.mov (.tmp 9)) (.q (some 76) (some (74, true)) (.mov (.tmp 12)) (.q (some 77) (some (74, true)) (.bin .eql (.tmp 75) (.tmp 76)) (.q (some 78) none (.pick (.tmp 74) (.tmp 77) (.const (.bool false))) (.q (some 6) none (.mov (.tmp 78)) .done))))))))) false 1 [6],
  .reg (.q (some 66) none (.mov (.tmp 1)) (.q (some 67) none (.mov (.tmp 2)) (.l (some 68) none (.call 31 [(.tmp 66), (.tmp 67)]) [] (.q (some 65) none (.mov (.tmp 68)) (.q (some 69) none (.ext 0 (.tmp 65)) (.q (some 70) none (.ext 1 (.tmp 65)) (.q (some 11) none (.mov (.tmp 69)) (.q (some 12) none (.mov (.tmp 70)) .done)))))))) false 2 [9, 10, 11, 12],
  .reg (.q (some 60) none (.mov (.tmp 1)) (.q (some 61) none (.mov (.tmp 2)) (.l (some 62) none (.call 30 [(.tmp 60), (.tmp 61)]) [] (.q (some 59) none (.mov (.tmp 62)) (.q (some 63) none (.ext 0 (.tmp 59)) (.q (some 64) none (.ext 1 (.tmp 59)) (.q (some 10) none (.mov (.tmp 63)) (.q (some 9) none (.mov (.tmp 64)) .done)))))))) false 3 [1, 2, 9, 10],
  .ret [.t 6],
  .reg (.q (some 6) none (.mov (.const (.bool false))) .done) false 5 [6],
  .cnd (.tmp 58) 6 4,
  .reg (.q (some 43) none (.mov (.tmp 7)) (.q (some 44) none (.len (.tmp 43)) (.q (some 45) none (.bin .leq (.tmp 44) (.const (.int .i64 8))) (.q (some 46) none (.mov (.tmp 45)) (.q (some 47) (some (46, true)) (.mov (.tmp 9)) (.q (some 48) (some (46, true)) (.bin .neq (.tmp 47) (.const (.int .i64 0))) (.q (some 49) (some (46, true)) (.mov (.tmp 48)) (.q (some 50) (some (49, false)) (.mov (.tmp 8)) (.q (some 51) (some (49, false)) (.mov (.tmp 0)) (.q (some 52) (some (49, false)) (.bin .neq (.tmp 50) (.tmp 51)) (.q (some 53) (some (49, false)) (.mov (.tmp 52)) (.q (some 54) (some (53, true)) (.mov (.tmp 0)) (.q (some 55) (some (53, true)) (.bin .neq (.tmp 54) (.const (.int .i64 (-9223372036854775808)))) (.q (some 56) (some (49, false)) (.pick (.tmp 53) (.tmp 55) (.const (.bool false))) (.q (some 57) (some (46, true)) (.pick (.tmp 49) (.const (.bool true)) (.tmp 56)) (.q (some 58) none (.pick (.tmp 46) (.tmp 57) (.const (.bool false))) .done)))))))))))))))) false 7 [1, 2, 58],
  .reg (.q (some 39) none (.mov (.tmp 7)) (.l (some 40) none (.call 30 [(.tmp 39), (.const (.int .i64 9))]) [] (.q (some 38) none (.mov (.tmp 40)) (.q (some 41) none (.ext 0 (.tmp 38)) (.q (some 42) none (.ext 1 (.tmp 38)) (.q (some 8) none (.mov (.tmp 41)) (.q (some 9) none (.mov (.tmp 42)) .done))))))) false 8 [0, 1, 2, 7, 8, 9],
  .ret [.t 6],
  .reg (.q (some 6) none (.mov (.const (.bool false))) .done) false 10 [6],
  .cnd (.tmp 37) 11 9,
  .reg (.q (some 19) none (.mov (.tmp 7)) (.q (some 20) none (.mov (.tmp 0)) (.l (some 21) none (.call 27 [(.tmp 20)]) [] (.l (some 22) none (.call 17 [(.tmp 19), (.tmp 21)]) [] (.q (some 23) none (.not (.tmp 22)) (.q (some 24) none (.mov (.tmp 23)) (.q (some 25) (some (24, false)) (.mov (.tmp 1)) (.l (some 26) (some (24, false)) (.call 28 [(.tmp 25)]) [] (.q (some 27) (some (24, false)) (.mov (.tmp 1)) (.l (some 28) (some (24, false)) (.call 29 [(.tmp 27)]) [] (.q (some 29) (some (24, false)) (.eqB true (.tmp 26) (.tmp 28)) (.q (some 30) none (.pick (.tmp 24) (.const (.bool true)) (.tmp 29)) (.q (some 31) none (.mov (.tmp 30)) (.q (some 32) (some (31, false)) (.mov (.tmp 7)) (.l (some 33) (some (31, false)) (.call 28 [(.tmp 32)]) [] (.q (some 34) (some (31, false)) (.mov (.tmp 0)) (.q (some 35) (some (31, false)) (.bin .neq (.tmp 34) (.const (.int .i64 0))) (.q (some 36) (some (31, false)) (.eqB true (.tmp 33) (.tmp 35)) (.q (some 37) none (.pick (.tmp 31) (.const (.bool true)) (.tmp 36)) .done))))))))))))))))))) false 12 [0, 1, 2, 7, 37],
  .reg (.q (some 17) none (.mov (.tmp 0)) (.l (some 18) none (.call 26 [(.tmp 17)]) [] (.q (some 7) none (.mov (.tmp 18)) .done))) false 13 [0, 1, 2, 7],
  .reg (.q (some 15) none (.mov (.tmp 1)) (.l (some 16) none (.call 10 [(.tmp 15), (.const (.int .i64 20))]) [] (.q (some 1) none (.mov (.tmp 16)) .done))) false 14 [0, 1, 2],
  .ret [.t 6],
  .reg (.q (some 6) none (.mov (.const (.bool false))) .done) false 16 [6],
  .cnd (.tmp 14) 17 15,
  .reg (.l (some 13) none (.call 9 []) [] (.q (some 14) none (.not (.tmp 13)) .done)) false 18 [0, 1, 2, 14],
  .reg (.q (some 6) none (.mov (.const (.bool false))) .done) false 19 [0, 1, 2]
  ]
theorem c6_ok : cfgL Try.prog 6 = some (79, 20, c6.map Vc.Node.bare) := by kernel_rfl
/- strongbox/strongboxlaw11.ScriptMultis: entry 29 -/
def c7 : List Vc.Node := [
  .ret [.t 4],
  .ret [.t 4],
  .reg (.q (some 62) none (.mov (.tmp 12)) (.q (some 63) none (.bin .eql (.tmp 62) (.const (.int .i64 5))) (.q (some 64) none (.mov (.tmp 63)) (.q (some 65) (some (64, true)) (.mov (.tmp 13)) (.q (some 66) (some (64, true)) (.mov (.tmp 0)) (.q (some 67) (some (64, true)) (.cvi .u8 (.tmp 66)) (.l (some 68) (some (64, true)) (.bldS 5 1 [(.tmp 67)]) [] (.l (some 69) (some (64, true)) (.bldS 22 1 [(.tmp 68)]) [] (.q (some 70) (some (64, true)) (.mov (.tmp 5)) (.l (some 71) (some (64, true)) (.app 22 1 24 [(1, (.slice none 0 0))] (.tmp 69) (.tmp 70)) [] (.l (some 72) (some (64, true)) (.call 22 [(.tmp 65), (.tmp 71)]) [] (.q (some 73) none (.pick (.tmp 64) (.tmp 72) (.const (.bool false))) (.q (some 4) none (.mov (.tmp 73)) .done))))))))))))) false 1 [4],
  .reg (.q (some 58) none (.mov (.tmp 8)) (.l (some 59) none (.call 20 [(.tmp 58)]) [] (.q (some 57) none (.mov (.tmp 59)) (.q (some 60) none (.ext 0 (.tmp 57)) (.q (some 61) none (.ext 1 (.tmp 57)) (.q (some 12) none (.mov (.tmp 60)) (.q (some 13) none (.mov (.tmp 61)) .done))))))) false 2 [0, 5, 12, 13],
  .ret [.t 4],
  .reg (.q (some 4) none (.mov (.const (.bool true))) .done) false 4 [4],
  .cnd (.tmp 56) 5 3,
  .reg (.q (some 55) none (.mov (.tmp 9)) (.q (some 56) none (.bin .neq (.tmp 55) (.const (.int .i64 0))) .done)) false 6 [0, 5, 8, 56],
  .ret [.t 4],
  .reg (.q (some 4) none (.mov (.const (.bool false))) .done) false 8 [4],
  .cnd (.tmp 54) 9 7,
  .reg (.q (some 46) none (.mov (.tmp 8)) (.q (some 47) none (.mov (.tmp 10)) (.l (some 48) none (.call 17 [(.tmp 46), (.tmp 47)]) [] (.q (some 49) none (.not (.tmp 48)) (.q (some 50) none (.mov (.tmp 49)) (.q (some 51) (some (50, false)) (.mov (.tmp 9)) (.q (some 52) (some (50, false)) (.mov (.tmp 11)) (.q (some 53) (some (50, false)) (.bin .neq (.tmp 51) (.tmp 52)) (.q (some 54) none (.pick (.tmp 50) (.const (.bool true)) (.tmp 53)) .done))))))))) false 10 [0, 5, 8, 9, 54],
  .reg (.q (some 41) none (.mov (.tmp 0)) (.q (some 42) none (.mov (.tmp 5)) (.l (some 43) none (.call 34 [(.tmp 41), (.tmp 42)]) [] (.q (some 40) none (.mov (.tmp 43)) (.q (some 44) none (.ext 0 (.tmp 40)) (.q (some 45) none (.ext 1 (.tmp 40)) (.q (some 10) none (.mov (.tmp 44)) (.q (some 11) none (.mov (.tmp 45)) .done)))))))) false 11 [0, 5, 8, 9, 10, 11],
  .reg (.q (some 35) none (.mov (.tmp 0)) (.q (some 36) none (.mov (.tmp 5)) (.l (some 37) none (.call 33 [(.tmp 35), (.tmp 36)]) [] (.q (some 34) none (.mov (.tmp 37)) (.q (some 38) none (.ext 0 (.tmp 34)) (.q (some 39) none (.ext 1 (.tmp 34)) (.q (some 8) none (.mov (.tmp 38)) (.q (some 9) none (.mov (.tmp 39)) .done)))))))) false 12 [0, 5, 8, 9],
  .jmp 19,
  .reg (.q (some 33) none (.bin .add (.tmp 23) (.const (.int .i64 1))) (.q (some 23) none (.mov (.tmp 33)) .done)) false 14 [0, 5, 21, 22, 23],
  .reg (.q (some 27) none (.mov (.tmp 5)) (.q (some 28) none (.mov (.tmp 7)) (.l (some 29) none (.call 10 [(.tmp 28), (.const (.int .i64 40))]) [] (.l (some 30) none (.call 32 [(.tmp 29)]) [] (.l (some 31) none (.bldS 22 1 [(.tmp 30)]) [] (.l (some 32) none (.app 22 1 24 [(1, (.slice none 0 0))] (.tmp 27) (.tmp 31)) [] (.q (some 5) none (.mov (.tmp 32)) .done))))))) false 15 [0, 5, 21, 22, 23],
  .reg (.q (some 25) none (.iadrS 1 (.tmp 21) (.tmp 23)) (.q (some 26) none (.ld1 (.tmp 25)) (.q (some 7) none (.mov (.tmp 26)) .done))) false 16 [0, 5, 7, 21, 22, 23],
  .cnd (.tmp 24) 17 13,
  .reg (.q (some 24) none (.bin .lss (.tmp 23) (.tmp 22)) .done) false 18 [0, 5, 21, 22, 23, 24],
  .reg (.q (some 21) none (.mov (.tmp 1)) (.q (some 22) none (.len (.tmp 21)) (.q (some 23) none (.mov (.const (.int .i64 0))) .done))) false 19 [0, 5, 21, 22, 23],
  .reg (.q (some 5) none (.mov (.const (.slice none 0 0))) .done) false 20 [0, 1, 5],
  .reg (.q (some 19) none (.mov (.tmp 1)) (.q (some 20) none (.slcS 1 (.tmp 19) none (some (.const (.int .i64 20)))) (.q (some 1) none (.mov (.tmp 20)) .done))) false 21 [0, 1],
  .cnd (.tmp 18) 22 21,
  .reg (.q (some 16) none (.mov (.tmp 1)) (.q (some 17) none (.len (.tmp 16)) (.q (some 18) none (.bin .gtr (.tmp 17) (.const (.int .i64 20))) .done))) false 23 [0, 1, 18],
  .ret [.t 4],
  .reg (.q (some 4) none (.mov (.const (.bool false))) .done) false 25 [4],
  .cnd (.tmp 15) 26 24,
  .reg (.l (some 14) none (.call 9 []) [] (.q (some 15) none (.not (.tmp 14)) .done)) false 27 [0, 1, 15],
  .reg (.q (some 4) none (.mov (.const (.bool false))) .done) false 28 [0, 1]
  ]
theorem c7_ok : cfgL Try.prog 7 = some (74, 29, c7.map Vc.Node.bare) := by kernel_rfl
/- strongbox/strongboxlaw11.ScriptForms: entry 30 -/
def c8 : List Vc.Node := [
  .ret [.t 6],
  .ret [.t 6],
  .reg (.q (some 100) none (.mov (.tmp 19)) (.q (some 101) none (.mov (.tmp 100)) (.q (some 102) (some (101, true)) (.mov (.tmp 17)) (.q (some 103) (some (101, true)) (.mov (.tmp 1)) (.q (some 104) (some (101, true)) (.bin .eql (.tmp 102) (.tmp 103)) (.q (some 105) none (.pick (.tmp 101) (.tmp 104) (.const (.bool false))) (.q (some 106) none (.mov (.tmp 105)) (.q (some 107) (some (106, true)) (.mov (.tmp 18)) (.q (some 108) (some (106, true)) (.mov (.tmp 2)) (.l (some 109) (some (106, true)) (.call 17 [(.tmp 107), (.tmp 108)]) [] (.q (some 110) none (.pick (.tmp 106) (.tmp 109) (.const (.bool false))) (.q (some 6) none (.mov (.tmp 110)) .done)))))))))))) false 1 [6],
  .reg (.q (some 95) none (.mov (.tmp 13)) (.l (some 96) none (.call 23 [(.tmp 95)]) [] (.q (some 94) none (.mov (.tmp 96)) (.q (some 97) none (.ext 0 (.tmp 94)) (.q (some 98) none (.ext 1 (.tmp 94)) (.q (some 99) none (.ext 2 (.tmp 94)) (.q (some 17) none (.mov (.tmp 97)) (.q (some 18) none (.mov (.tmp 98)) (.q (some 19) none (.mov (.tmp 99)) .done))))))))) false 2 [1, 2, 17, 18, 19],
  .ret [.t 6],
  .reg (.q (some 6) none (.mov (.const (.bool true))) .done) false 4 [6],
  .cnd (.tmp 93) 5 3,
  .reg (.q (some 92) none (.mov (.tmp 14)) (.q (some 93) none (.bin .neq (.tmp 92) (.const (.int .i64 0))) .done)) false 6 [1, 2, 13, 93],
  .ret [.t 6],
  .reg (.q (some 6) none (.mov (.const (.bool false))) .done) false 8 [6],
  .cnd (.tmp 91) 9 7,
  .reg (.q (some 83) none (.mov (.tmp 13)) (.q (some 84) none (.mov (.tmp 15)) (.l (some 85) none (.call 17 [(.tmp 83), (.tmp 84)]) [] (.q (some 86) none (.not (.tmp 85)) (.q (some 87) none (.mov (.tmp 86)) (.q (some 88) (some (87, false)) (.mov (.tmp 14)) (.q (some 89) (some (87, false)) (.mov (.tmp 16)) (.q (some 90) (some (87, false)) (.bin .neq (.tmp 88) (.tmp 89)) (.q (some 91) none (.pick (.tmp 87) (.const (.bool true)) (.tmp 90)) .done))))))))) false 10 [1, 2, 13, 14, 91],
  .reg (.q (some 78) none (.mov (.tmp 1)) (.q (some 79) none (.mov (.tmp 2)) (.l (some 80) none (.call 40 [(.tmp 78), (.tmp 79)]) [] (.q (some 77) none (.mov (.tmp 80)) (.q (some 81) none (.ext 0 (.tmp 77)) (.q (some 82) none (.ext 1 (.tmp 77)) (.q (some 15) none (.mov (.tmp 81)) (.q (some 16) none (.mov (.tmp 82)) .done)))))))) false 11 [1, 2, 13, 14, 15, 16],
  .reg (.q (some 71) none (.mov (.tmp 1)) (.q (some 72) none (.mov (.tmp 2)) (.l (some 73) none (.call 32 [(.tmp 72)]) [] (.l (some 74) none (.call 39 [(.tmp 71), (.tmp 73)]) [] (.q (some 70) none (.mov (.tmp 74)) (.q (some 75) none (.ext 0 (.tmp 70)) (.q (some 76) none (.ext 1 (.tmp 70)) (.q (some 13) none (.mov (.tmp 75)) (.q (some 14) none (.mov (.tmp 76)) .done))))))))) false 12 [1, 2, 13, 14],
  .ret [.t 6],
  .reg (.q (some 6) none (.mov (.const (.bool false))) .done) false 14 [6],
  .cnd (.tmp 69) 15 13,
  .reg (.q (some 50) none (.mov (.tmp 9)) (.q (some 51) none (.bin .neq (.tmp 50) (.const (.int .i64 1))) (.q (some 52) none (.mov (.tmp 51)) (.q (some 53) (some (52, false)) (.mov (.tmp 11)) (.q (some 54) (some (52, false)) (.bin .neq (.tmp 53) (.const (.int .i64 2))) (.q (some 55) none (.pick (.tmp 52) (.const (.bool true)) (.tmp 54)) (.q (some 56) none (.mov (.tmp 55)) (.q (some 57) (some (56, false)) (.mov (.tmp 10)) (.q (some 58) (some (56, false)) (.slcA 20 1 (.tmp 3) none none) (.l (some 59) (some (56, false)) (.bldS 22 1 [(.tmp 58)]) [] (.l (some 60) (some (56, false)) (.call 22 [(.tmp 57), (.tmp 59)]) [] (.q (some 61) (some (56, false)) (.not (.tmp 60)) (.q (some 62) none (.pick (.tmp 56) (.const (.bool true)) (.tmp 61)) (.q (some 63) none (.mov (.tmp 62)) (.q (some 64) (some (63, false)) (.mov (.tmp 12)) (.q (some 65) (some (63, false)) (.slcA 20 1 (.tmp 3) none none) (.l (some 66) (some (63, false)) (.bldS 22 1 [(.tmp 65)]) [] (.l (some 67) (some (63, false)) (.call 22 [(.tmp 64), (.tmp 66)]) [] (.q (some 68) (some (63, false)) (.not (.tmp 67)) (.q (some 69) none (.pick (.tmp 63) (.const (.bool true)) (.tmp 68)) .done)))))))))))))))))))) false 16 [1, 2, 69],
  .reg (.q (some 46) none (.mov (.tmp 8)) (.l (some 47) none (.call 20 [(.tmp 46)]) [] (.q (some 45) none (.mov (.tmp 47)) (.q (some 48) none (.ext 0 (.tmp 45)) (.q (some 49) none (.ext 1 (.tmp 45)) (.q (some 11) none (.mov (.tmp 48)) (.q (some 12) none (.mov (.tmp 49)) .done))))))) false 17 [1, 2, 3, 9, 10, 11, 12],
  .reg (.q (some 41) none (.mov (.tmp 7)) (.l (some 42) none (.call 20 [(.tmp 41)]) [] (.q (some 40) none (.mov (.tmp 42)) (.q (some 43) none (.ext 0 (.tmp 40)) (.q (some 44) none (.ext 1 (.tmp 40)) (.q (some 9) none (.mov (.tmp 43)) (.q (some 10) none (.mov (.tmp 44)) .done))))))) false 18 [1, 2, 3, 8, 9, 10],
  .ret [.t 6],
  .reg (.q (some 6) none (.mov (.const (.bool false))) .done) false 20 [6],
  .cnd (.tmp 39) 21 19,
  .reg (.q (some 28) none (.mov (.tmp 7)) (.q (some 29) none (.slcA 20 1 (.tmp 3) none none) (.l (some 30) none (.call 37 [(.tmp 29)]) [] (.l (some 31) none (.call 17 [(.tmp 28), (.tmp 30)]) [] (.q (some 32) none (.not (.tmp 31)) (.q (some 33) none (.mov (.tmp 32)) (.q (some 34) (some (33, false)) (.mov (.tmp 8)) (.q (some 35) (some (33, false)) (.slcA 20 1 (.tmp 3) none none) (.l (some 36) (some (33, false)) (.call 38 [(.tmp 35)]) [] (.l (some 37) (some (33, false)) (.call 17 [(.tmp 34), (.tmp 36)]) [] (.q (some 38) (some (33, false)) (.not (.tmp 37)) (.q (some 39) none (.pick (.tmp 33) (.const (.bool true)) (.tmp 38)) .done)))))))))))) false 22 [1, 2, 3, 7, 8, 39],
  .reg (.q (some 24) none (.ldN 20 (.tmp 3)) (.q (some 26) none (.ldN 20 (.tmp 3)) (.l (some 25) none (.call 35 [(.tmp 24)]) [⟨26, none, (.ldN 20 (.tmp 3))⟩] (.l (some 27) none (.call 36 [(.tmp 26)]) [] (.q (some 7) none (.mov (.tmp 25)) (.q (some 8) none (.mov (.tmp 27)) .done)))))) true 23 [1, 2, 3, 7, 8],
  .reg (.q (some 22) none (.mov (.tmp 2)) (.l (some 23) none (.call 10 [(.tmp 22), (.const (.int .i64 60))]) [] (.q (some 2) none (.mov (.tmp 23)) .done))) false 24 [1, 2, 3],
  .ret [.t 6],
  .reg (.q (some 6) none (.mov (.const (.bool false))) .done) false 26 [6],
  .cnd (.tmp 21) 27 25,
  .reg (.l (some 20) none (.call 9 []) [] (.q (some 21) none (.not (.tmp 20)) .done)) false 28 [1, 2, 3, 21],
  .reg (.l (some 3) none (.box 60 (.tmp 0)) [] (.q (some 6) none (.mov (.const (.bool false))) .done)) false 29 [1, 2, 3]
  ]
theorem c8_ok : cfgL Try.prog 8 = some (111, 30, c8.map Vc.Node.bare) := by kernel_rfl
/- strongbox/strongboxlaw11.awake: entry 4 -/
def c9 : List Vc.Node := [
  .ret [.t 0],
  .ret [.t 0],
  .reg (.l (some 8) none (.bldS 5 1 [(.const (.int .u8 5))]) [] (.l (some 9) none (.call 18 [(.tmp 8)]) [] (.q (some 10) none (.len (.tmp 9)) (.q (some 11) none (.bin .eql (.tmp 10) (.const (.int .i64 1))) (.q (some 12) none (.mov (.tmp 11)) (.l (some 13) (some (12, true)) (.bldS 5 1 [(.const (.int .u8 5))]) [] (.l (some 14) (some (12, true)) (.call 18 [(.tmp 13)]) [] (.q (some 15) (some (12, true)) (.iadrS 1 (.tmp 14) (.const (.int .i64 0))) (.q (some 16) (some (12, true)) (.ld1 (.tmp 15)) (.q (some 17) (some (12, true)) (.bin .eql (.tmp 16) (.const (.int .u8 85))) (.q (some 18) none (.pick (.tmp 12) (.tmp 17) (.const (.bool false))) (.q (some 19) none (.mov (.tmp 18)) (.q (some 20) (some (19, true)) (.mov (.tmp 1)) (.q (some 21) (some (19, true)) (.bin .eql (.tmp 20) (.const (.int .i64 6))) (.q (some 22) none (.pick (.tmp 19) (.tmp 21) (.const (.bool false))) (.q (some 23) none (.mov (.tmp 22)) (.q (some 24) (some (23, true)) (.mov (.tmp 2)) (.q (some 25) (some (23, true)) (.len (.tmp 24)) (.q (some 26) (some (23, true)) (.bin .eql (.tmp 25) (.const (.int .i64 1))) (.q (some 27) none (.pick (.tmp 23) (.tmp 26) (.const (.bool false))) (.q (some 28) none (.mov (.tmp 27)) (.l (some 29) (some (28, true)) (.bldS 5 1 [(.const (.int .u8 1))]) [] (.l (some 30) (some (28, true)) (.call 28 [(.tmp 29)]) [] (.q (some 31) none (.pick (.tmp 28) (.tmp 30) (.const (.bool false))) (.q (some 32) none (.mov (.tmp 31)) (.l (some 33) (some (32, true)) (.call 26 [(.const (.int .i64 (-255)))]) [] (.q (some 34) (some (32, true)) (.len (.tmp 33)) (.q (some 35) (some (32, true)) (.bin .eql (.tmp 34) (.const (.int .i64 2))) (.q (some 36) none (.pick (.tmp 32) (.tmp 35) (.const (.bool false))) (.q (some 0) none (.mov (.tmp 36)) .done)))))))))))))))))))))))))))))) false 1 [0],
  .reg (.l (some 4) none (.bldS 5 1 [(.const (.int .u8 106)), (.const (.int .u8 1)), (.const (.int .u8 2))]) [] (.l (some 5) none (.call 20 [(.tmp 4)]) [] (.q (some 3) none (.mov (.tmp 5)) (.q (some 6) none (.ext 0 (.tmp 3)) (.q (some 7) none (.ext 1 (.tmp 3)) (.q (some 1) none (.mov (.tmp 6)) (.q (some 2) none (.mov (.tmp 7)) .done))))))) false 2 [1, 2],
  .reg (.q (some 0) none (.mov (.const (.bool false))) .done) false 3 []
  ]
theorem c9_ok : cfgL Try.prog 9 = some (37, 4, c9.map Vc.Node.bare) := by kernel_rfl
/- strongbox/strongboxlaw11.short: entry 7 -/
def c10 : List Vc.Node := [
  .ret [.t 4],
  .ret [.t 4],
  .reg (.q (some 12) none (.mov (.tmp 0)) (.q (some 4) none (.mov (.tmp 12)) .done)) false 1 [4],
  .ret [.t 4],
  .reg (.q (some 9) none (.mov (.tmp 0)) (.q (some 10) none (.mov (.tmp 1)) (.q (some 11) none (.slcS 1 (.tmp 9) none (some (.tmp 10))) (.q (some 4) none (.mov (.tmp 11)) .done)))) false 3 [4],
  .cnd (.tmp 8) 4 2,
  .reg (.q (some 5) none (.mov (.tmp 0)) (.q (some 6) none (.len (.tmp 5)) (.q (some 7) none (.mov (.tmp 1)) (.q (some 8) none (.bin .gtr (.tmp 6) (.tmp 7)) .done)))) false 5 [0, 1, 8],
  .reg (.q (some 4) none (.mov (.const (.slice none 0 0))) .done) false 6 [0, 1]
  ]
theorem c10_ok : cfgL Try.prog 10 = some (13, 7, c10.map Vc.Node.bare) := by kernel_rfl
/- strongbox/strongboxref01.Spare: entry 13 -/
def c11 : List Vc.Node := [
  .ret [.t 2, .t 3],
  .ret [.t 2, .t 3],
  .reg (.q (some 33) none (.mov (.tmp 4)) (.q (some 34) none (.mov (.tmp 0)) (.q (some 35) none (.len (.tmp 34)) (.q (some 36) none (.slcS 1 (.tmp 33) none (some (.tmp 35))) (.q (some 37) none (.mov (.tmp 4)) (.q (some 2) none (.mov (.tmp 36)) (.q (some 3) none (.mov (.tmp 37)) .done))))))) false 1 [2, 3],
  .jmp 10,
  .reg (.q (some 14) none (.mov (.tmp 5)) (.q (some 15) none (.bin .add (.tmp 14) (.const (.int .i64 1))) (.q (some 5) none (.mov (.tmp 15)) .done))) false 3 [0, 4, 5],
  .reg (.q (some 26) none (.mov (.tmp 4)) (.q (some 27) none (.mov (.tmp 5)) (.q (some 28) none (.mov (.tmp 0)) (.q (some 29) none (.mov (.tmp 5)) (.q (some 30) none (.iadrS 1 (.tmp 28) (.tmp 29)) (.q (some 31) none (.ld1 (.tmp 30)) (.q (some 32) none (.iadrS 1 (.tmp 26) (.tmp 27)) (.l none none (.st1 (.tmp 32) (.tmp 31)) [] .done)))))))) false 4 [0, 4, 5],
  .cnd (.tmp 25) 5 4,
  .reg (.q (some 22) none (.mov (.tmp 5)) (.q (some 23) none (.mov (.tmp 0)) (.q (some 24) none (.len (.tmp 23)) (.q (some 25) none (.bin .lss (.tmp 22) (.tmp 24)) .done)))) false 6 [0, 4, 5, 25],
  .reg (.q (some 16) none (.mov (.tmp 4)) (.q (some 17) none (.mov (.tmp 5)) (.q (some 18) none (.mov (.tmp 5)) (.q (some 19) none (.bin .add (.const (.int .i64 201)) (.tmp 18)) (.q (some 20) none (.cvi .u8 (.tmp 19)) (.q (some 21) none (.iadrS 1 (.tmp 16) (.tmp 17)) (.l none none (.st1 (.tmp 21) (.tmp 20)) [] .done))))))) false 7 [0, 4, 5],
  .cnd (.tmp 13) 8 2,
  .reg (.q (some 10) none (.mov (.tmp 5)) (.q (some 11) none (.mov (.tmp 4)) (.q (some 12) none (.len (.tmp 11)) (.q (some 13) none (.bin .lss (.tmp 10) (.tmp 12)) .done)))) false 9 [0, 4, 5, 13],
  .reg (.q (some 5) none (.mov (.const (.int .i64 0))) .done) false 10 [0, 4, 5],
  .reg (.q (some 6) none (.mov (.tmp 0)) (.q (some 7) none (.len (.tmp 6)) (.q (some 8) none (.bin .add (.tmp 7) (.const (.int .i64 9))) (.l (some 9) none (.mkS 5 1 1 [(1, (.int .u8 0))] (.tmp 8) (.tmp 8)) [] (.q (some 4) none (.mov (.tmp 9)) .done))))) false 11 [0, 4],
  .reg (.q (some 2) none (.mov (.const (.slice none 0 0))) (.q (some 3) none (.mov (.const (.slice none 0 0))) .done)) false 12 [0]
  ]
theorem c11_ok : cfgL Try.prog 11 = some (38, 13, c11.map Vc.Node.bare) := by kernel_rfl
/- strongbox/script.Parse: entry 13 -/
def c12 : List Vc.Node := [
  .ret [.t 2, .t 3],
  .ret [.t 2, .t 3],
  .reg (.q (some 24) none (.mov (.tmp 4)) (.q (some 2) none (.mov (.tmp 24)) (.q (some 3) none (.mov (.const (.int .i64 0))) .done))) false 1 [2, 3],
  .ret [.t 2, .t 3],
  .reg (.q (some 2) none (.mov (.const (.slice none 0 0))) (.q (some 3) none (.mov (.const (.int .i64 4))) .done)) false 3 [2, 3],
  .cnd (.tmp 23) 4 2,
  .reg (.q (some 21) none (.mov (.tmp 5)) (.l (some 22) none (.call 43 [(.tmp 21)]) [] (.q (some 23) none (.bin .neq (.tmp 22) (.const (.int .i64 0))) .done))) false 5 [4, 23],
  .jmp 10,
  .reg (.q (some 16) none (.mov (.tmp 4)) (.q (some 17) none (.mov (.tmp 5)) (.l (some 18) none (.call 44 [(.tmp 17)]) [] (.l (some 19) none (.bldS 37 2 [(.tmp 18)]) [] (.l (some 20) none (.app 37 2 32 [(1, (.int .u8 0)), (1, (.slice none 0 0))] (.tmp 16) (.tmp 19)) [] (.q (some 4) none (.mov (.tmp 20)) .done)))))) false 7 [4, 5],
  .cnd (.tmp 15) 8 6,
  .reg (.q (some 8) none (.mov (.tmp 5)) (.l (some 9) none (.call 42 [(.tmp 8)]) [] (.q (some 10) none (.bin .gtr (.tmp 9) (.const (.int .i64 0))) (.q (some 11) none (.mov (.tmp 10)) (.q (some 12) (some (11, true)) (.mov (.tmp 5)) (.l (some 13) (some (11, true)) (.call 43 [(.tmp 12)]) [] (.q (some 14) (some (11, true)) (.bin .eql (.tmp 13) (.const (.int .i64 0))) (.q (some 15) none (.pick (.tmp 11) (.tmp 14) (.const (.bool false))) .done)))))))) false 9 [4, 5, 15],
  .reg (.q (some 6) none (.mov (.tmp 0)) (.l (some 7) none (.call 41 [(.tmp 6)]) [] (.q (some 5) none (.mov (.tmp 7)) .done))) false 10 [4, 5],
  .reg (.q (some 4) none (.mov (.const (.slice none 0 0))) .done) false 11 [0, 4],
  .reg (.q (some 2) none (.mov (.const (.slice none 0 0))) (.q (some 3) none (.mov (.const (.int .i64 0))) .done)) false 12 [0]
  ]
theorem c12_ok : cfgL Try.prog 12 = some (25, 13, c12.map Vc.Node.bare) := by kernel_rfl
/- strongbox/strongboxref11.Parse: entry 38 -/
def c13 : List Vc.Node := [
  .ret [.t 2, .t 3],
  .ret [.t 2, .t 3],
  .reg (.q (some 73) none (.mov (.tmp 4)) (.q (some 2) none (.mov (.tmp 73)) (.q (some 3) none (.mov (.const (.bool true))) .done))) false 1 [2, 3],
  .jmp 35,
  .reg (.q (some 70) none (.mov (.tmp 5)) (.q (some 71) none (.mov (.tmp 7)) (.q (some 72) none (.bin .add (.tmp 70) (.tmp 71)) (.q (some 5) none (.mov (.tmp 72)) .done)))) false 3 [0, 4, 5],
  .reg (.q (some 58) none (.mov (.tmp 4)) (.q (some 59) none (.mov (.tmp 6)) (.q (some 60) none (.mov (.tmp 0)) (.q (some 61) none (.mov (.tmp 5)) (.q (some 62) none (.mov (.tmp 5)) (.q (some 63) none (.mov (.tmp 7)) (.q (some 64) none (.bin .add (.tmp 62) (.tmp 63)) (.q (some 65) none (.slcS 1 (.tmp 60) (some (.tmp 61)) (some (.tmp 64))) (.l (some 66) none (.call 32 [(.tmp 65)]) [] (.q (some 67) none (.bld [.x 1 (.tmp 59), .x 1 (.tmp 66)]) (.l (some 68) none (.bldS 38 2 [(.tmp 67)]) [] (.l (some 69) none (.app 38 2 32 [(1, (.int .u8 0)), (1, (.slice none 0 0))] (.tmp 58) (.tmp 68)) [] (.q (some 4) none (.mov (.tmp 69)) .done))))))))))))) false 4 [0, 4, 5, 7],
  .ret [.t 2, .t 3],
  .reg (.q (some 2) none (.mov (.const (.slice none 0 0))) (.q (some 3) none (.mov (.const (.bool false))) .done)) false 6 [2, 3],
  .cnd (.tmp 57) 7 5,
  .reg (.q (some 52) none (.mov (.tmp 7)) (.q (some 53) none (.mov (.tmp 0)) (.q (some 54) none (.len (.tmp 53)) (.q (some 55) none (.mov (.tmp 5)) (.q (some 56) none (.bin .sub (.tmp 54) (.tmp 55)) (.q (some 57) none (.bin .gtr (.tmp 52) (.tmp 56)) .done)))))) false 8 [0, 4, 5, 6, 7, 57],
  .reg (.q (some 49) none (.mov (.tmp 5)) (.q (some 50) none (.mov (.tmp 8)) (.q (some 51) none (.bin .add (.tmp 49) (.tmp 50)) (.q (some 5) none (.mov (.tmp 51)) .done)))) false 9 [0, 4, 5, 6, 7],
  .reg (.q (some 41) none (.mov (.tmp 0)) (.q (some 42) none (.mov (.tmp 5)) (.q (some 43) none (.mov (.tmp 5)) (.q (some 44) none (.mov (.tmp 8)) (.q (some 45) none (.bin .add (.tmp 43) (.tmp 44)) (.q (some 46) none (.slcS 1 (.tmp 41) (some (.tmp 42)) (some (.tmp 45))) (.l (some 47) none (.call 45 [(.tmp 46)]) [] (.q (some 48) none (.cvi .i64 (.tmp 47)) (.q (some 7) none (.mov (.tmp 48)) .done))))))))) false 10 [0, 4, 5, 6, 7, 8],
  .cnd (.tmp 40) 11 9,
  .reg (.q (some 39) none (.mov (.tmp 8)) (.q (some 40) none (.bin .gtr (.tmp 39) (.const (.int .i64 0))) .done)) false 12 [0, 4, 5, 6, 7, 8, 40],
  .ret [.t 2, .t 3],
  .reg (.q (some 2) none (.mov (.const (.slice none 0 0))) (.q (some 3) none (.mov (.const (.bool false))) .done)) false 14 [2, 3],
  .cnd (.tmp 38) 15 13,
  .reg (.q (some 33) none (.mov (.tmp 8)) (.q (some 34) none (.mov (.tmp 0)) (.q (some 35) none (.len (.tmp 34)) (.q (some 36) none (.mov (.tmp 5)) (.q (some 37) none (.bin .sub (.tmp 35) (.tmp 36)) (.q (some 38) none (.bin .gtr (.tmp 33) (.tmp 37)) .done)))))) false 16 [0, 4, 5, 6, 7, 8, 38],
  .reg (.q (some 22) none (.mov (.tmp 6)) (.q (some 23) none (.cvi .i64 (.tmp 22)) (.q (some 7) none (.mov (.tmp 23)) .done))) false 17 [0, 4, 5, 6, 7, 8],
  .reg (.q (some 8) none (.mov (.const (.int .i64 1))) .done) false 17 [0, 4, 5, 6, 7, 8],
  .reg (.q (some 8) none (.mov (.const (.int .i64 2))) .done) false 17 [0, 4, 5, 6, 7, 8],
  .reg (.q (some 8) none (.mov (.const (.int .i64 4))) .done) false 17 [0, 4, 5, 6, 7, 8],
  .cnd (.tmp 30) 21 17,
  .reg (.q (some 31) none (.mov (.tmp 6)) (.q (some 32) none (.bin .eql (.tmp 31) (.const (.int .u8 78))) (.q (some 30) none (.mov (.tmp 32)) .done))) false 22 [0, 4, 5, 6, 7, 8, 30],
  .cnd (.tmp 27) 20 23,
  .reg (.q (some 28) none (.mov (.tmp 6)) (.q (some 29) none (.bin .eql (.tmp 28) (.const (.int .u8 77))) (.q (some 27) none (.mov (.tmp 29)) .done))) false 24 [0, 4, 5, 6, 7, 8, 27],
  .cnd (.tmp 24) 19 25,
  .reg (.q (some 25) none (.mov (.tmp 6)) (.q (some 26) none (.bin .eql (.tmp 25) (.const (.int .u8 76))) (.q (some 24) none (.mov (.tmp 26)) .done))) false 26 [0, 4, 5, 6, 7, 8, 24],
  .cnd (.tmp 19) 18 27,
  .reg (.q (some 20) none (.mov (.tmp 6)) (.q (some 21) none (.bin .leq (.tmp 20) (.const (.int .u8 75))) (.q (some 19) none (.mov (.tmp 21)) .done))) false 28 [0, 4, 5, 6, 7, 8, 19],
  .reg (.q (some 8) none (.mov (.const (.int .i64 0))) .done) false 29 [0, 4, 5, 6, 7, 8],
  .reg (.q (some 7) none (.mov (.const (.int .i64 0))) .done) false 30 [0, 4, 5, 6, 7],
  .reg (.q (some 17) none (.mov (.tmp 5)) (.q (some 18) none (.bin .add (.tmp 17) (.const (.int .i64 1))) (.q (some 5) none (.mov (.tmp 18)) .done))) false 31 [0, 4, 5, 6],
  .reg (.q (some 13) none (.mov (.tmp 0)) (.q (some 14) none (.mov (.tmp 5)) (.q (some 15) none (.iadrS 1 (.tmp 13) (.tmp 14)) (.q (some 16) none (.ld1 (.tmp 15)) (.q (some 6) none (.mov (.tmp 16)) .done))))) false 32 [0, 4, 5, 6],
  .cnd (.tmp 12) 33 2,
  .reg (.q (some 9) none (.mov (.tmp 5)) (.q (some 10) none (.mov (.tmp 0)) (.q (some 11) none (.len (.tmp 10)) (.q (some 12) none (.bin .lss (.tmp 9) (.tmp 11)) .done)))) false 34 [0, 4, 5, 12],
  .reg (.q (some 5) none (.mov (.const (.int .i64 0))) .done) false 35 [0, 4, 5],
  .reg (.q (some 4) none (.mov (.const (.slice none 0 0))) .done) false 36 [0, 4],
  .reg (.q (some 2) none (.mov (.const (.slice none 0 0))) (.q (some 3) none (.mov (.const (.bool false))) .done)) false 37 [0]
  ]
theorem c13_ok : cfgL Try.prog 13 = some (74, 38, c13.map Vc.Node.bare) := by kernel_rfl
/- strongbox/script.Pushes: entry 4 -/
def c14 : List Vc.Node := [
  .ret [.t 2],
  .ret [.t 2],
  .reg (.q (some 10) none (.mov (.tmp 4)) (.q (some 11) none (.bin .eql (.tmp 10) (.const (.int .i64 0))) (.q (some 12) none (.mov (.tmp 11)) (.q (some 13) (some (12, true)) (.mov (.tmp 3)) (.l (some 14) (some (12, true)) (.call 46 [(.tmp 13), (.func 47)]) [] (.q (some 15) (some (12, true)) (.not (.tmp 14)) (.q (some 16) none (.pick (.tmp 12) (.tmp 15) (.const (.bool false))) (.q (some 2) none (.mov (.tmp 16)) .done)))))))) false 1 [2],
  .reg (.q (some 6) none (.mov (.tmp 0)) (.l (some 7) none (.call 12 [(.tmp 6)]) [] (.q (some 5) none (.mov (.tmp 7)) (.q (some 8) none (.ext 0 (.tmp 5)) (.q (some 9) none (.ext 1 (.tmp 5)) (.q (some 3) none (.mov (.tmp 8)) (.q (some 4) none (.mov (.tmp 9)) .done))))))) false 2 [3, 4],
  .reg (.q (some 2) none (.mov (.const (.bool false))) .done) false 3 [0]
  ]
theorem c14_ok : cfgL Try.prog 14 = some (17, 4, c14.map Vc.Node.bare) := by kernel_rfl
/- strongbox/strongboxref11.Pushes: entry 13 -/
def c15 : List Vc.Node := [
  .ret [.t 2],
  .ret [.t 2],
  .reg (.q (some 23) none (.mov (.tmp 4)) (.q (some 2) none (.mov (.tmp 23)) .done)) false 1 [2],
  .jmp 10,
  .reg (.q (some 15) none (.mov (.tmp 5)) (.q (some 16) none (.bin .add (.tmp 15) (.const (.int .i64 1))) (.q (some 5) none (.mov (.tmp 16)) .done))) false 3 [3, 4, 5],
  .ret [.t 2],
  .reg (.q (some 2) none (.mov (.const (.bool false))) .done) false 5 [2],
  .cnd (.tmp 22) 6 4,
  .reg (.q (some 17) none (.mov (.tmp 3)) (.q (some 18) none (.mov (.tmp 5)) (.q (some 19) none (.iadrS 2 (.tmp 17) (.tmp 18)) (.q (some 20) none (.fadr 0 (.tmp 19)) (.q (some 21) none (.ld1 (.tmp 20)) (.q (some 22) none (.bin .gtr (.tmp 21) (.const (.int .u8 96))) .done)))))) false 7 [3, 4, 5, 22],
  .cnd (.tmp 14) 8 2,
  .reg (.q (some 11) none (.mov (.tmp 5)) (.q (some 12) none (.mov (.tmp 3)) (.q (some 13) none (.len (.tmp 12)) (.q (some 14) none (.bin .lss (.tmp 11) (.tmp 13)) .done)))) false 9 [3, 4, 5, 14],
  .reg (.q (some 5) none (.mov (.const (.int .i64 0))) .done) false 10 [3, 4, 5],
  .reg (.q (some 7) none (.mov (.tmp 0)) (.l (some 8) none (.call 13 [(.tmp 7)]) [] (.q (some 6) none (.mov (.tmp 8)) (.q (some 9) none (.ext 0 (.tmp 6)) (.q (some 10) none (.ext 1 (.tmp 6)) (.q (some 3) none (.mov (.tmp 9)) (.q (some 4) none (.mov (.tmp 10)) .done))))))) false 11 [3, 4],
  .reg (.q (some 2) none (.mov (.const (.bool false))) .done) false 12 [0]
  ]
theorem c15_ok : cfgL Try.prog 15 = some (24, 13, c15.map Vc.Node.bare) := by kernel_rfl
/- strongbox/strongboxref01.Kept: entry 16 -/
def c16 : List Vc.Node := [
  .ret [.t 4],
  .ret [.t 4],
  .reg (.q (some 4) none (.mov (.const (.bool true))) .done) false 1 [4],
  .jmp 10,
  .reg (.q (some 16) none (.mov (.tmp 5)) (.q (some 17) none (.bin .add (.tmp 16) (.const (.int .i64 1))) (.q (some 5) none (.mov (.tmp 17)) .done))) false 3 [0, 1, 5],
  .ret [.t 4],
  .reg (.q (some 4) none (.mov (.const (.bool false))) .done) false 5 [4],
  .cnd (.tmp 48) 6 4,
  .reg (.q (some 18) none (.mov (.tmp 5)) (.q (some 19) none (.mov (.tmp 1)) (.q (some 20) none (.len (.tmp 19)) (.q (some 21) none (.bin .lss (.tmp 18) (.tmp 20)) (.q (some 22) none (.mov (.tmp 21)) (.q (some 23) (some (22, true)) (.mov (.tmp 0)) (.q (some 24) (some (22, true)) (.mov (.tmp 5)) (.q (some 25) (some (22, true)) (.iadrS 1 (.tmp 23) (.tmp 24)) (.q (some 26) (some (22, true)) (.ld1 (.tmp 25)) (.q (some 27) (some (22, true)) (.mov (.tmp 1)) (.q (some 28) (some (22, true)) (.mov (.tmp 5)) (.q (some 29) (some (22, true)) (.iadrS 1 (.tmp 27) (.tmp 28)) (.q (some 30) (some (22, true)) (.ld1 (.tmp 29)) (.q (some 31) (some (22, true)) (.bin .neq (.tmp 26) (.tmp 30)) (.q (some 32) none (.pick (.tmp 22) (.tmp 31) (.const (.bool false))) (.q (some 33) none (.mov (.tmp 32)) (.q (some 34) (some (33, false)) (.mov (.tmp 5)) (.q (some 35) (some (33, false)) (.mov (.tmp 1)) (.q (some 36) (some (33, false)) (.len (.tmp 35)) (.q (some 37) (some (33, false)) (.bin .geq (.tmp 34) (.tmp 36)) (.q (some 38) (some (33, false)) (.mov (.tmp 37)) (.q (some 39) (some (38, true)) (.mov (.tmp 0)) (.q (some 40) (some (38, true)) (.mov (.tmp 5)) (.q (some 41) (some (38, true)) (.iadrS 1 (.tmp 39) (.tmp 40)) (.q (some 42) (some (38, true)) (.ld1 (.tmp 41)) (.q (some 43) (some (38, true)) (.mov (.tmp 5)) (.q (some 44) (some (38, true)) (.bin .add (.const (.int .i64 201)) (.tmp 43)) (.q (some 45) (some (38, true)) (.cvi .u8 (.tmp 44)) (.q (some 46) (some (38, true)) (.bin .neq (.tmp 42) (.tmp 45)) (.q (some 47) (some (33, false)) (.pick (.tmp 38) (.tmp 46) (.const (.bool false))) (.q (some 48) none (.pick (.tmp 33) (.const (.bool true)) (.tmp 47)) .done))))))))))))))))))))))))))))))) true 7 [0, 1, 5, 48],
  .cnd (.tmp 15) 8 2,
  .reg (.q (some 12) none (.mov (.tmp 5)) (.q (some 13) none (.mov (.tmp 0)) (.q (some 14) none (.len (.tmp 13)) (.q (some 15) none (.bin .lss (.tmp 12) (.tmp 14)) .done)))) false 9 [0, 1, 5, 15],
  .reg (.q (some 5) none (.mov (.const (.int .i64 0))) .done) false 10 [0, 1, 5],
  .ret [.t 4],
  .reg (.q (some 4) none (.mov (.const (.bool false))) .done) false 12 [4],
  .cnd (.tmp 11) 13 11,
  .reg (.q (some 6) none (.mov (.tmp 0)) (.q (some 7) none (.len (.tmp 6)) (.q (some 8) none (.mov (.tmp 1)) (.q (some 9) none (.len (.tmp 8)) (.q (some 10) none (.bin .add (.tmp 9) (.const (.int .i64 9))) (.q (some 11) none (.bin .neq (.tmp 7) (.tmp 10)) .done)))))) false 14 [0, 1, 11],
  .reg (.q (some 4) none (.mov (.const (.bool false))) .done) false 15 [0, 1]
  ]
theorem c16_ok : cfgL Try.prog 16 = some (49, 16, c16.map Vc.Node.bare) := by kernel_rfl
/- strongbox/strongboxref01.Equal: entry 3 -/
def c17 : List Vc.Node := [
  .ret [.t 4],
  .ret [.t 4],
  .reg (.q (some 5) none (.mov (.tmp 0)) (.q (some 6) none (.b2s (.tmp 5)) (.q (some 7) none (.mov (.tmp 1)) (.q (some 8) none (.b2s (.tmp 7)) (.q (some 9) none (.bin .eql (.tmp 6) (.tmp 8)) (.q (some 4) none (.mov (.tmp 9)) .done)))))) false 1 [4],
  .reg (.q (some 4) none (.mov (.const (.bool false))) .done) false 2 [0, 1]
  ]
theorem c17_ok : cfgL Try.prog 17 = some (10, 3, c17.map Vc.Node.bare) := by kernel_rfl
/- strongbox/script.Push: entry 26 -/
def c18 : List Vc.Node := [
  .ret [.t 2],
  .ret [.t 2],
  .reg (.l (some 64) none (.call 52 [(.tmp 3)]) [] (.q (some 2) none (.mov (.tmp 64)) .done)) false 1 [2],
  .reg (.q (some 62) none (.mov (.tmp 0)) (.l (some 63) none (.call 49 [(.tmp 3), (.tmp 62)]) [] .done)) false 2 [3],
  .ret [.t 2],
  .reg (.q (some 26) none (.mov (.tmp 0)) (.q (some 27) none (.iadrS 1 (.tmp 26) (.const (.int .i64 0))) (.q (some 28) none (.ld1 (.tmp 27)) (.q (some 29) none (.bin .add (.const (.int .u8 81)) (.tmp 28)) (.q (some 30) none (.bin .sub (.tmp 29) (.const (.int .u8 1))) (.l (some 31) none (.bldS 5 1 [(.tmp 30)]) [] (.q (some 2) none (.mov (.tmp 31)) .done))))))) false 4 [2],
  .ret [.t 2],
  .reg (.l (some 41) none (.bldS 5 1 [(.const (.int .u8 79))]) [] (.q (some 2) none (.mov (.tmp 41)) .done)) false 6 [2],
  .reg (.q (some 45) none (.mov (.tmp 4)) (.q (some 46) none (.cvi .u8 (.tmp 45)) (.l (some 47) none (.call 48 [(.tmp 3), (.tmp 46)]) [] .done))) false 3 [0, 3],
  .reg (.q (some 51) none (.mov (.tmp 4)) (.q (some 52) none (.cvi .u8 (.tmp 51)) (.l (some 53) none (.bldS 5 1 [(.const (.int .u8 76)), (.tmp 52)]) [] (.l (some 54) none (.call 49 [(.tmp 3), (.tmp 53)]) [] .done)))) false 3 [0, 3],
  .reg (.q (some 59) none (.mov (.tmp 4)) (.q (some 60) none (.cvi .u16 (.tmp 59)) (.l (some 61) none (.call 50 [(.tmp 3), (.tmp 60)]) [] .done))) false 3 [0, 3],
  .reg (.l (some 58) none (.call 48 [(.tmp 3), (.const (.int .u8 77))]) [] .done) false 10 [0, 3, 4],
  .reg (.q (some 8) none (.mov (.tmp 4)) (.q (some 9) none (.cvi .u32 (.tmp 8)) (.l (some 10) none (.call 51 [(.tmp 3), (.tmp 9)]) [] .done))) false 3 [0, 3],
  .reg (.l (some 7) none (.call 48 [(.tmp 3), (.const (.int .u8 78))]) [] .done) false 12 [0, 3, 4],
  .cnd (.tmp 55) 11 13,
  .reg (.q (some 56) none (.mov (.tmp 4)) (.q (some 57) none (.bin .lss (.tmp 56) (.const (.int .i64 65536))) (.q (some 55) none (.mov (.tmp 57)) .done))) false 14 [0, 3, 4, 55],
  .cnd (.tmp 48) 9 15,
  .reg (.q (some 49) none (.mov (.tmp 4)) (.q (some 50) none (.bin .lss (.tmp 49) (.const (.int .i64 256))) (.q (some 48) none (.mov (.tmp 50)) .done))) false 16 [0, 3, 4, 48],
  .cnd (.tmp 42) 8 17,
  .reg (.q (some 43) none (.mov (.tmp 4)) (.q (some 44) none (.bin .lss (.tmp 43) (.const (.int .i64 76))) (.q (some 42) none (.mov (.tmp 44)) .done))) false 18 [0, 3, 4, 42],
  .cnd (.tmp 32) 7 19,
  .reg (.q (some 33) none (.mov (.tmp 4)) (.q (some 34) none (.bin .eql (.tmp 33) (.const (.int .i64 1))) (.q (some 35) none (.mov (.tmp 34)) (.q (some 36) (some (35, true)) (.mov (.tmp 0)) (.q (some 37) (some (35, true)) (.iadrS 1 (.tmp 36) (.const (.int .i64 0))) (.q (some 38) (some (35, true)) (.ld1 (.tmp 37)) (.q (some 39) (some (35, true)) (.bin .eql (.tmp 38) (.const (.int .u8 129))) (.q (some 40) none (.pick (.tmp 35) (.tmp 39) (.const (.bool false))) (.q (some 32) none (.mov (.tmp 40)) .done))))))))) false 20 [0, 3, 4, 32],
  .cnd (.tmp 11) 5 21,
  .reg (.q (some 12) none (.mov (.tmp 4)) (.q (some 13) none (.bin .eql (.tmp 12) (.const (.int .i64 1))) (.q (some 14) none (.mov (.tmp 13)) (.q (some 15) (some (14, true)) (.mov (.tmp 0)) (.q (some 16) (some (14, true)) (.iadrS 1 (.tmp 15) (.const (.int .i64 0))) (.q (some 17) (some (14, true)) (.ld1 (.tmp 16)) (.q (some 18) (some (14, true)) (.bin .geq (.tmp 17) (.const (.int .u8 1))) (.q (some 19) none (.pick (.tmp 14) (.tmp 18) (.const (.bool false))) (.q (some 20) none (.mov (.tmp 19)) (.q (some 21) (some (20, true)) (.mov (.tmp 0)) (.q (some 22) (some (20, true)) (.iadrS 1 (.tmp 21) (.const (.int .i64 0))) (.q (some 23) (some (20, true)) (.ld1 (.tmp 22)) (.q (some 24) (some (20, true)) (.bin .leq (.tmp 23) (.const (.int .u8 16))) (.q (some 25) none (.pick (.tmp 20) (.tmp 24) (.const (.bool false))) (.q (some 11) none (.mov (.tmp 25)) .done))))))))))))))) false 22 [0, 3, 4, 11],
  .reg (.q (some 5) none (.mov (.tmp 0)) (.q (some 6) none (.len (.tmp 5)) (.q (some 4) none (.mov (.tmp 6)) .done))) false 23 [0, 3, 4],
  .reg (.l (some 3) none (.alloc 75 [(1, (.slice none 0 0))]) [] .done) false 24 [0, 3],
  .reg (.q (some 2) none (.mov (.const (.slice none 0 0))) .done) false 25 [0]
  ]
theorem c18_ok : cfgL Try.prog 18 = some (65, 26, c18.map Vc.Node.bare) := by kernel_rfl
/- strongbox/strongboxref11.Push: entry 23 -/
def c19 : List Vc.Node := [
  .ret [.t 2],
  .ret [.t 2],
  .reg (.q (some 60) none (.mov (.tmp 4)) (.q (some 61) none (.mov (.tmp 0)) (.l (some 62) none (.app 5 1 1 [(1, (.int .u8 0))] (.tmp 60) (.tmp 61)) [] (.q (some 2) none (.mov (.tmp 62)) .done)))) false 1 [2],
  .reg (.q (some 43) none (.mov (.tmp 3)) (.q (some 44) none (.cvi .u8 (.tmp 43)) (.l (some 45) none (.bldS 5 1 [(.tmp 44)]) [] (.q (some 4) none (.mov (.tmp 45)) .done)))) false 2 [0, 4],
  .reg (.q (some 49) none (.mov (.tmp 3)) (.q (some 50) none (.cvi .u8 (.tmp 49)) (.l (some 51) none (.bldS 5 1 [(.const (.int .u8 76)), (.tmp 50)]) [] (.q (some 4) none (.mov (.tmp 51)) .done)))) false 2 [0, 4],
  .reg (.l (some 55) none (.bldS 5 1 [(.const (.int .u8 77))]) [] (.q (some 56) none (.mov (.tmp 3)) (.q (some 57) none (.cvi .u64 (.tmp 56)) (.l (some 58) none (.call 53 [(.tmp 57), (.const (.int .i64 2))]) [] (.l (some 59) none (.app 5 1 1 [(1, (.int .u8 0))] (.tmp 55) (.tmp 58)) [] (.q (some 4) none (.mov (.tmp 59)) .done)))))) false 2 [0, 4],
  .reg (.l (some 35) none (.bldS 5 1 [(.const (.int .u8 78))]) [] (.q (some 36) none (.mov (.tmp 3)) (.q (some 37) none (.cvi .u64 (.tmp 36)) (.l (some 38) none (.call 53 [(.tmp 37), (.const (.int .i64 4))]) [] (.l (some 39) none (.app 5 1 1 [(1, (.int .u8 0))] (.tmp 35) (.tmp 38)) [] (.q (some 4) none (.mov (.tmp 39)) .done)))))) false 2 [0, 4],
  .cnd (.tmp 52) 5 6,
  .reg (.q (some 53) none (.mov (.tmp 3)) (.q (some 54) none (.bin .leq (.tmp 53) (.const (.int .i64 65535))) (.q (some 52) none (.mov (.tmp 54)) .done))) false 7 [0, 3, 52],
  .cnd (.tmp 46) 4 8,
  .reg (.q (some 47) none (.mov (.tmp 3)) (.q (some 48) none (.bin .leq (.tmp 47) (.const (.int .i64 255))) (.q (some 46) none (.mov (.tmp 48)) .done))) false 9 [0, 3, 46],
  .cnd (.tmp 40) 3 10,
  .reg (.q (some 41) none (.mov (.tmp 3)) (.q (some 42) none (.bin .leq (.tmp 41) (.const (.int .i64 75))) (.q (some 40) none (.mov (.tmp 42)) .done))) false 11 [0, 3, 40],
  .reg (.q (some 4) none (.mov (.const (.slice none 0 0))) .done) false 12 [0, 3],
  .ret [.t 2],
  .reg (.l (some 34) none (.bldS 5 1 [(.const (.int .u8 79))]) [] (.q (some 2) none (.mov (.tmp 34)) .done)) false 14 [2],
  .cnd (.tmp 33) 15 13,
  .reg (.q (some 26) none (.mov (.tmp 3)) (.q (some 27) none (.bin .eql (.tmp 26) (.const (.int .i64 1))) (.q (some 28) none (.mov (.tmp 27)) (.q (some 29) (some (28, true)) (.mov (.tmp 0)) (.q (some 30) (some (28, true)) (.iadrS 1 (.tmp 29) (.const (.int .i64 0))) (.q (some 31) (some (28, true)) (.ld1 (.tmp 30)) (.q (some 32) (some (28, true)) (.bin .eql (.tmp 31) (.const (.int .u8 129))) (.q (some 33) none (.pick (.tmp 28) (.tmp 32) (.const (.bool false))) .done)))))))) false 16 [0, 3, 33],
  .ret [.t 2],
  .reg (.q (some 21) none (.mov (.tmp 0)) (.q (some 22) none (.iadrS 1 (.tmp 21) (.const (.int .i64 0))) (.q (some 23) none (.ld1 (.tmp 22)) (.q (some 24) none (.bin .add (.const (.int .u8 80)) (.tmp 23)) (.l (some 25) none (.bldS 5 1 [(.tmp 24)]) [] (.q (some 2) none (.mov (.tmp 25)) .done)))))) false 18 [2],
  .cnd (.tmp 20) 19 17,
  .reg (.q (some 7) none (.mov (.tmp 3)) (.q (some 8) none (.bin .eql (.tmp 7) (.const (.int .i64 1))) (.q (some 9) none (.mov (.tmp 8)) (.q (some 10) (some (9, true)) (.mov (.tmp 0)) (.q (some 11) (some (9, true)) (.iadrS 1 (.tmp 10) (.const (.int .i64 0))) (.q (some 12) (some (9, true)) (.ld1 (.tmp 11)) (.q (some 13) (some (9, true)) (.bin .geq (.tmp 12) (.const (.int .u8 1))) (.q (some 14) none (.pick (.tmp 9) (.tmp 13) (.const (.bool false))) (.q (some 15) none (.mov (.tmp 14)) (.q (some 16) (some (15, true)) (.mov (.tmp 0)) (.q (some 17) (some (15, true)) (.iadrS 1 (.tmp 16) (.const (.int .i64 0))) (.q (some 18) (some (15, true)) (.ld1 (.tmp 17)) (.q (some 19) (some (15, true)) (.bin .leq (.tmp 18) (.const (.int .u8 16))) (.q (some 20) none (.pick (.tmp 15) (.tmp 19) (.const (.bool false))) .done)))))))))))))) false 20 [0, 3, 20],
  .reg (.q (some 5) none (.mov (.tmp 0)) (.q (some 6) none (.len (.tmp 5)) (.q (some 3) none (.mov (.tmp 6)) .done))) false 21 [0, 3],
  .reg (.q (some 2) none (.mov (.const (.slice none 0 0))) .done) false 22 [0]
  ]
theorem c19_ok : cfgL Try.prog 19 = some (63, 23, c19.map Vc.Node.bare) := by kernel_rfl
/- strongbox/script.Kind: entry 37 -/
def c20 : List Vc.Node := [
  .ret [.t 2, .t 3],
  .ret [.t 2, .t 3],
  .reg (.q (some 2) none (.mov (.const (.int .i64 0))) (.q (some 3) none (.mov (.const (.slice none 0 0))) .done)) false 1 [2, 3],
  .ret [.t 2, .t 3],
  .reg (.q (some 84) none (.mov (.tmp 12)) (.l (some 85) none (.bldS 22 1 [(.tmp 84)]) [] (.q (some 2) none (.mov (.const (.int .i64 6))) (.q (some 3) none (.mov (.tmp 85)) .done)))) false 3 [2, 3],
  .cnd (.tmp 83) 4 2,
  .reg (.q (some 79) none (.mov (.tmp 13)) (.q (some 80) none (.mov (.tmp 79)) (.q (some 81) (some (80, true)) (.mov (.tmp 12)) (.l (some 82) (some (80, true)) (.call 14 [(.tmp 81)]) [] (.q (some 83) none (.pick (.tmp 80) (.tmp 82) (.const (.bool false))) .done))))) false 5 [12, 83],
  .reg (.q (some 74) none (.mov (.tmp 0)) (.l (some 75) none (.bldS 5 1 [(.const (.int .u8 106))]) [] (.l (some 76) none (.call 57 [(.tmp 74), (.tmp 75)]) [] (.q (some 73) none (.mov (.tmp 76)) (.q (some 77) none (.ext 0 (.tmp 73)) (.q (some 78) none (.ext 1 (.tmp 73)) (.q (some 12) none (.mov (.tmp 77)) (.q (some 13) none (.mov (.tmp 78)) .done)))))))) false 6 [12, 13],
  .ret [.t 2, .t 3],
  .reg (.q (some 72) none (.mov (.tmp 11)) (.q (some 2) none (.mov (.const (.int .i64 5))) (.q (some 3) none (.mov (.tmp 72)) .done))) false 8 [2, 3],
  .cnd (.tmp 71) 9 7,
  .reg (.q (some 70) none (.mov (.tmp 11)) (.q (some 71) none (.eqS true (.tmp 70) (.const (.slice none 0 0))) .done)) false 10 [0, 11, 71],
  .reg (.q (some 68) none (.mov (.tmp 0)) (.l (some 69) none (.call 56 [(.tmp 68)]) [] (.q (some 11) none (.mov (.tmp 69)) .done))) false 11 [0, 11],
  .ret [.t 2, .t 3],
  .reg (.q (some 63) none (.mov (.tmp 8)) (.q (some 64) none (.cvi .u8 (.tmp 63)) (.l (some 65) none (.bldS 5 1 [(.tmp 64)]) [] (.q (some 66) none (.mov (.tmp 9)) (.l (some 67) none (.bldS 22 1 [(.tmp 65), (.tmp 66)]) [] (.q (some 2) none (.mov (.const (.int .i64 7))) (.q (some 3) none (.mov (.tmp 67)) .done))))))) false 13 [2, 3],
  .ret [.t 2, .t 3],
  .reg (.q (some 51) none (.mov (.tmp 9)) (.l (some 52) none (.bldS 22 1 [(.tmp 51)]) [] (.q (some 2) none (.mov (.const (.int .i64 3))) (.q (some 3) none (.mov (.tmp 52)) .done)))) false 15 [2, 3],
  .ret [.t 2, .t 3],
  .reg (.q (some 61) none (.mov (.tmp 9)) (.l (some 62) none (.bldS 22 1 [(.tmp 61)]) [] (.q (some 2) none (.mov (.const (.int .i64 4))) (.q (some 3) none (.mov (.tmp 62)) .done)))) false 17 [2, 3],
  .cnd (.tmp 53) 18 14,
  .reg (.q (some 54) none (.mov (.tmp 8)) (.q (some 55) none (.bin .eql (.tmp 54) (.const (.int .i64 0))) (.q (some 56) none (.mov (.tmp 55)) (.q (some 57) (some (56, true)) (.mov (.tmp 9)) (.q (some 58) (some (56, true)) (.len (.tmp 57)) (.q (some 59) (some (56, true)) (.bin .eql (.tmp 58) (.const (.int .i64 32))) (.q (some 60) none (.pick (.tmp 56) (.tmp 59) (.const (.bool false))) (.q (some 53) none (.mov (.tmp 60)) .done)))))))) false 19 [8, 9, 53],
  .cnd (.tmp 43) 16 20,
  .reg (.q (some 44) none (.mov (.tmp 8)) (.q (some 45) none (.bin .eql (.tmp 44) (.const (.int .i64 0))) (.q (some 46) none (.mov (.tmp 45)) (.q (some 47) (some (46, true)) (.mov (.tmp 9)) (.q (some 48) (some (46, true)) (.len (.tmp 47)) (.q (some 49) (some (46, true)) (.bin .eql (.tmp 48) (.const (.int .i64 20))) (.q (some 50) none (.pick (.tmp 46) (.tmp 49) (.const (.bool false))) (.q (some 43) none (.mov (.tmp 50)) .done)))))))) false 21 [8, 9, 43],
  .cnd (.tmp 42) 22 12,
  .reg (.q (some 42) none (.mov (.tmp 10)) .done) false 23 [0, 8, 9, 42],
  .reg (.q (some 37) none (.mov (.tmp 0)) (.l (some 38) none (.call 23 [(.tmp 37)]) [] (.q (some 36) none (.mov (.tmp 38)) (.q (some 39) none (.ext 0 (.tmp 36)) (.q (some 40) none (.ext 1 (.tmp 36)) (.q (some 41) none (.ext 2 (.tmp 36)) (.q (some 8) none (.mov (.tmp 39)) (.q (some 9) none (.mov (.tmp 40)) (.q (some 10) none (.mov (.tmp 41)) .done))))))))) false 24 [0, 8, 9, 10],
  .ret [.t 2, .t 3],
  .reg (.q (some 34) none (.mov (.tmp 6)) (.l (some 35) none (.bldS 22 1 [(.tmp 34)]) [] (.q (some 2) none (.mov (.const (.int .i64 2))) (.q (some 3) none (.mov (.tmp 35)) .done)))) false 26 [2, 3],
  .cnd (.tmp 33) 27 25,
  .reg (.q (some 33) none (.mov (.tmp 7)) .done) false 28 [0, 6, 33],
  .reg (.q (some 27) none (.mov (.tmp 0)) (.l (some 28) none (.bldS 5 1 [(.const (.int .u8 169)), (.const (.int .u8 20))]) [] (.l (some 29) none (.bldS 5 1 [(.const (.int .u8 135))]) [] (.l (some 30) none (.call 55 [(.tmp 27), (.tmp 28), (.tmp 29), (.const (.int .i64 20))]) [] (.q (some 26) none (.mov (.tmp 30)) (.q (some 31) none (.ext 0 (.tmp 26)) (.q (some 32) none (.ext 1 (.tmp 26)) (.q (some 6) none (.mov (.tmp 31)) (.q (some 7) none (.mov (.tmp 32)) .done))))))))) false 29 [0, 6, 7],
  .ret [.t 2, .t 3],
  .reg (.q (some 24) none (.mov (.tmp 4)) (.l (some 25) none (.bldS 22 1 [(.tmp 24)]) [] (.q (some 2) none (.mov (.const (.int .i64 1))) (.q (some 3) none (.mov (.tmp 25)) .done)))) false 31 [2, 3],
  .cnd (.tmp 23) 32 30,
  .reg (.q (some 23) none (.mov (.tmp 5)) .done) false 33 [0, 4, 23],
  .reg (.q (some 17) none (.mov (.tmp 0)) (.l (some 18) none (.bldS 5 1 [(.const (.int .u8 118)), (.const (.int .u8 169)), (.const (.int .u8 20))]) [] (.l (some 19) none (.bldS 5 1 [(.const (.int .u8 136)), (.const (.int .u8 172))]) [] (.l (some 20) none (.call 55 [(.tmp 17), (.tmp 18), (.tmp 19), (.const (.int .i64 20))]) [] (.q (some 16) none (.mov (.tmp 20)) (.q (some 21) none (.ext 0 (.tmp 16)) (.q (some 22) none (.ext 1 (.tmp 16)) (.q (some 4) none (.mov (.tmp 21)) (.q (some 5) none (.mov (.tmp 22)) .done))))))))) false 34 [0, 4, 5],
  .reg (.q (some 14) none (.mov (.tmp 0)) (.l (some 15) none (.call 54 [(.tmp 14)]) [] (.q (some 0) none (.mov (.tmp 15)) .done))) false 35 [0],
  .reg (.q (some 2) none (.mov (.const (.int .i64 0))) (.q (some 3) none (.mov (.const (.slice none 0 0))) .done)) false 36 [0]
  ]
theorem c20_ok : cfgL Try.prog 20 = some (86, 37, c20.map Vc.Node.bare) := by kernel_rfl
/- strongbox/strongboxref11.Kind: entry 48 -/
def c21 : List Vc.Node := [
  .ret [.t 2, .t 3],
  .ret [.t 2, .t 3],
  .reg (.q (some 2) none (.mov (.const (.int .i64 0))) (.q (some 3) none (.mov (.const (.slice none 0 0))) .done)) false 1 [2, 3],
  .ret [.t 2, .t 3],
  .reg (.q (some 194) none (.mov (.tmp 0)) (.q (some 195) none (.slcS 1 (.tmp 194) (some (.const (.int .i64 1))) none) (.l (some 196) none (.call 32 [(.tmp 195)]) [] (.l (some 197) none (.bldS 22 1 [(.tmp 196)]) [] (.q (some 2) none (.mov (.const (.int .i64 6))) (.q (some 3) none (.mov (.tmp 197)) .done)))))) false 3 [2, 3],
  .cnd (.tmp 193) 4 2,
  .reg (.q (some 181) none (.mov (.tmp 4)) (.q (some 182) none (.bin .gtr (.tmp 181) (.const (.int .i64 0))) (.q (some 183) none (.mov (.tmp 182)) (.q (some 184) (some (183, true)) (.mov (.tmp 0)) (.q (some 185) (some (183, true)) (.iadrS 1 (.tmp 184) (.const (.int .i64 0))) (.q (some 186) (some (183, true)) (.ld1 (.tmp 185)) (.q (some 187) (some (183, true)) (.bin .eql (.tmp 186) (.const (.int .u8 106))) (.q (some 188) none (.pick (.tmp 183) (.tmp 187) (.const (.bool false))) (.q (some 189) none (.mov (.tmp 188)) (.q (some 190) (some (189, true)) (.mov (.tmp 0)) (.q (some 191) (some (189, true)) (.slcS 1 (.tmp 190) (some (.const (.int .i64 1))) none) (.l (some 192) (some (189, true)) (.call 15 [(.tmp 191)]) [] (.q (some 193) none (.pick (.tmp 189) (.tmp 192) (.const (.bool false))) .done))))))))))))) false 5 [0, 193],
  .ret [.t 2, .t 3],
  .reg (.q (some 180) none (.mov (.tmp 10)) (.q (some 2) none (.mov (.const (.int .i64 5))) (.q (some 3) none (.mov (.tmp 180)) .done))) false 7 [2, 3],
  .cnd (.tmp 179) 8 6,
  .reg (.q (some 179) none (.mov (.tmp 11)) .done) false 9 [0, 4, 10, 179],
  .jmp 16,
  .reg (.q (some 160) none (.mov (.tmp 12)) (.q (some 161) none (.bin .add (.tmp 160) (.const (.int .i64 1))) (.q (some 12) none (.mov (.tmp 161)) .done))) false 11 [0, 4, 7, 9, 10, 11, 12],
  .reg (.q (some 171) none (.mov (.tmp 10)) (.q (some 172) none (.mov (.tmp 7)) (.q (some 173) none (.mov (.tmp 12)) (.q (some 174) none (.iadrS 2 (.tmp 172) (.tmp 173)) (.q (some 175) none (.fadr 1 (.tmp 174)) (.q (some 176) none (.ld1 (.tmp 175)) (.l (some 177) none (.bldS 22 1 [(.tmp 176)]) [] (.l (some 178) none (.app 22 1 24 [(1, (.slice none 0 0))] (.tmp 171) (.tmp 177)) [] (.q (some 10) none (.mov (.tmp 178)) .done))))))))) false 12 [0, 4, 7, 9, 10, 11, 12],
  .reg (.q (some 162) none (.mov (.tmp 11)) (.q (some 163) none (.mov (.tmp 162)) (.q (some 164) (some (163, true)) (.mov (.tmp 7)) (.q (some 165) (some (163, true)) (.mov (.tmp 12)) (.q (some 166) (some (163, true)) (.iadrS 2 (.tmp 164) (.tmp 165)) (.q (some 167) (some (163, true)) (.fadr 0 (.tmp 166)) (.q (some 168) (some (163, true)) (.ld1 (.tmp 167)) (.q (some 169) (some (163, true)) (.bin .eql (.tmp 168) (.const (.int .u8 33))) (.q (some 170) none (.pick (.tmp 163) (.tmp 169) (.const (.bool false))) (.q (some 11) none (.mov (.tmp 170)) .done)))))))))) false 13 [0, 4, 7, 9, 10, 11, 12],
  .cnd (.tmp 159) 14 10,
  .reg (.q (some 157) none (.mov (.tmp 12)) (.q (some 158) none (.mov (.tmp 9)) (.q (some 159) none (.bin .leq (.tmp 157) (.tmp 158)) .done))) false 15 [0, 4, 7, 9, 10, 11, 12, 159],
  .reg (.q (some 12) none (.mov (.const (.int .i64 1))) .done) false 16 [0, 4, 7, 9, 10, 11, 12],
  .reg (.q (some 11) none (.mov (.const (.bool true))) .done) false 17 [0, 4, 7, 9, 10, 11],
  .reg (.q (some 149) none (.mov (.tmp 7)) (.q (some 150) none (.iadrS 2 (.tmp 149) (.const (.int .i64 0))) (.q (some 151) none (.fadr 0 (.tmp 150)) (.q (some 152) none (.ld1 (.tmp 151)) (.l (some 153) none (.call 59 [(.tmp 152)]) [] (.q (some 154) none (.cvi .u8 (.tmp 153)) (.l (some 155) none (.bldS 5 1 [(.tmp 154)]) [] (.l (some 156) none (.bldS 22 1 [(.tmp 155)]) [] (.q (some 10) none (.mov (.tmp 156)) .done))))))))) false 18 [0, 4, 7, 9, 10],
  .cnd (.tmp 148) 19 6,
  .reg (.q (some 103) none (.mov (.tmp 8)) (.q (some 104) none (.mov (.tmp 103)) (.q (some 105) (some (104, true)) (.mov (.tmp 9)) (.q (some 106) (some (104, true)) (.bin .geq (.tmp 105) (.const (.int .i64 1))) (.q (some 107) none (.pick (.tmp 104) (.tmp 106) (.const (.bool false))) (.q (some 108) none (.mov (.tmp 107)) (.q (some 109) (some (108, true)) (.mov (.tmp 9)) (.q (some 110) (some (108, true)) (.bin .leq (.tmp 109) (.const (.int .i64 16))) (.q (some 111) none (.pick (.tmp 108) (.tmp 110) (.const (.bool false))) (.q (some 112) none (.mov (.tmp 111)) (.q (some 113) (some (112, true)) (.mov (.tmp 7)) (.q (some 114) (some (112, true)) (.iadrS 2 (.tmp 113) (.const (.int .i64 0))) (.q (some 115) (some (112, true)) (.fadr 0 (.tmp 114)) (.q (some 116) (some (112, true)) (.ld1 (.tmp 115)) (.l (some 117) (some (112, true)) (.call 59 [(.tmp 116)]) [] (.q (some 118) (some (112, true)) (.bin .geq (.tmp 117) (.const (.int .i64 1))) (.q (some 119) none (.pick (.tmp 112) (.tmp 118) (.const (.bool false))) (.q (some 120) none (.mov (.tmp 119)) (.q (some 121) (some (120, true)) (.mov (.tmp 7)) (.q (some 122) (some (120, true)) (.iadrS 2 (.tmp 121) (.const (.int .i64 0))) (.q (some 123) (some (120, true)) (.fadr 0 (.tmp 122)) (.q (some 124) (some (120, true)) (.ld1 (.tmp 123)) (.l (some 125) (some (120, true)) (.call 59 [(.tmp 124)]) [] (.q (some 126) (some (120, true)) (.mov (.tmp 9)) (.q (some 127) (some (120, true)) (.bin .leq (.tmp 125) (.tmp 126)) (.q (some 128) none (.pick (.tmp 120) (.tmp 127) (.const (.bool false))) (.q (some 129) none (.mov (.tmp 128)) (.q (some 130) (some (129, true)) (.mov (.tmp 7)) (.q (some 131) (some (129, true)) (.mov (.tmp 9)) (.q (some 132) (some (129, true)) (.bin .add (.tmp 131) (.const (.int .i64 1))) (.q (some 133) (some (129, true)) (.iadrS 2 (.tmp 130) (.tmp 132)) (.q (some 134) (some (129, true)) (.fadr 0 (.tmp 133)) (.q (some 135) (some (129, true)) (.ld1 (.tmp 134)) (.l (some 136) (some (129, true)) (.call 59 [(.tmp 135)]) [] (.q (some 137) (some (129, true)) (.mov (.tmp 9)) (.q (some 138) (some (129, true)) (.bin .eql (.tmp 136) (.tmp 137)) (.q (some 139) none (.pick (.tmp 129) (.tmp 138) (.const (.bool false))) (.q (some 140) none (.mov (.tmp 139)) (.q (some 141) (some (140, true)) (.mov (.tmp 7)) (.q (some 142) (some (140, true)) (.mov (.tmp 9)) (.q (some 143) (some (140, true)) (.bin .add (.tmp 142) (.const (.int .i64 2))) (.q (some 144) (some (140, true)) (.iadrS 2 (.tmp 141) (.tmp 143)) (.q (some 145) (some (140, true)) (.fadr 0 (.tmp 144)) (.q (some 146) (some (140, true)) (.ld1 (.tmp 145)) (.q (some 147) (some (140, true)) (.bin .eql (.tmp 146) (.const (.int .u8 174))) (.q (some 148) none (.pick (.tmp 140) (.tmp 147) (.const (.bool false))) .done)))))))))))))))))))))))))))))))))))))))))))))) false 20 [0, 4, 7, 9, 148],
  .reg (.q (some 100) none (.mov (.tmp 7)) (.q (some 101) none (.len (.tmp 100)) (.q (some 102) none (.bin .sub (.tmp 101) (.const (.int .i64 3))) (.q (some 9) none (.mov (.tmp 102)) .done)))) false 21 [0, 4, 7, 8, 9],
  .reg (.q (some 96) none (.mov (.tmp 0)) (.l (some 97) none (.call 13 [(.tmp 96)]) [] (.q (some 95) none (.mov (.tmp 97)) (.q (some 98) none (.ext 0 (.tmp 95)) (.q (some 99) none (.ext 1 (.tmp 95)) (.q (some 7) none (.mov (.tmp 98)) (.q (some 8) none (.mov (.tmp 99)) .done))))))) false 22 [0, 4, 7, 8],
  .cnd (.tmp 94) 23 6,
  .reg (.q (some 85) none (.mov (.tmp 4)) (.q (some 86) none (.bin .gtr (.tmp 85) (.const (.int .i64 0))) (.q (some 87) none (.mov (.tmp 86)) (.q (some 88) (some (87, true)) (.mov (.tmp 0)) (.q (some 89) (some (87, true)) (.mov (.tmp 4)) (.q (some 90) (some (87, true)) (.bin .sub (.tmp 89) (.const (.int .i64 1))) (.q (some 91) (some (87, true)) (.iadrS 1 (.tmp 88) (.tmp 90)) (.q (some 92) (some (87, true)) (.ld1 (.tmp 91)) (.q (some 93) (some (87, true)) (.bin .eql (.tmp 92) (.const (.int .u8 174))) (.q (some 94) none (.pick (.tmp 87) (.tmp 93) (.const (.bool false))) .done)))))))))) false 24 [0, 4, 94],
  .ret [.t 2, .t 3],
  .reg (.q (some 80) none (.mov (.tmp 5)) (.q (some 81) none (.cvi .u8 (.tmp 80)) (.l (some 82) none (.bldS 5 1 [(.tmp 81)]) [] (.q (some 83) none (.mov (.tmp 6)) (.l (some 84) none (.bldS 22 1 [(.tmp 82), (.tmp 83)]) [] (.q (some 2) none (.mov (.const (.int .i64 7))) (.q (some 3) none (.mov (.tmp 84)) .done))))))) false 26 [2, 3],
  .cnd (.tmp 79) 27 25,
  .reg (.q (some 78) none (.mov (.tmp 5)) (.q (some 79) none (.bin .geq (.tmp 78) (.const (.int .i64 0))) .done)) false 28 [0, 4, 5, 6, 79],
  .ret [.t 2, .t 3],
  .reg (.q (some 76) none (.mov (.tmp 6)) (.l (some 77) none (.bldS 22 1 [(.tmp 76)]) [] (.q (some 2) none (.mov (.const (.int .i64 4))) (.q (some 3) none (.mov (.tmp 77)) .done)))) false 30 [2, 3],
  .cnd (.tmp 75) 31 29,
  .reg (.q (some 69) none (.mov (.tmp 5)) (.q (some 70) none (.bin .eql (.tmp 69) (.const (.int .i64 0))) (.q (some 71) none (.mov (.tmp 70)) (.q (some 72) (some (71, true)) (.mov (.tmp 6)) (.q (some 73) (some (71, true)) (.len (.tmp 72)) (.q (some 74) (some (71, true)) (.bin .eql (.tmp 73) (.const (.int .i64 32))) (.q (some 75) none (.pick (.tmp 71) (.tmp 74) (.const (.bool false))) .done))))))) false 32 [0, 4, 5, 6, 75],
  .ret [.t 2, .t 3],
  .reg (.q (some 67) none (.mov (.tmp 6)) (.l (some 68) none (.bldS 22 1 [(.tmp 67)]) [] (.q (some 2) none (.mov (.const (.int .i64 3))) (.q (some 3) none (.mov (.tmp 68)) .done)))) false 34 [2, 3],
  .cnd (.tmp 66) 35 33,
  .reg (.q (some 60) none (.mov (.tmp 5)) (.q (some 61) none (.bin .eql (.tmp 60) (.const (.int .i64 0))) (.q (some 62) none (.mov (.tmp 61)) (.q (some 63) (some (62, true)) (.mov (.tmp 6)) (.q (some 64) (some (62, true)) (.len (.tmp 63)) (.q (some 65) (some (62, true)) (.bin .eql (.tmp 64) (.const (.int .i64 20))) (.q (some 66) none (.pick (.tmp 62) (.tmp 65) (.const (.bool false))) .done))))))) false 36 [0, 4, 5, 6, 66],
  .reg (.q (some 56) none (.mov (.tmp 0)) (.l (some 57) none (.call 24 [(.tmp 56)]) [] (.q (some 55) none (.mov (.tmp 57)) (.q (some 58) none (.ext 0 (.tmp 55)) (.q (some 59) none (.ext 1 (.tmp 55)) (.q (some 5) none (.mov (.tmp 58)) (.q (some 6) none (.mov (.tmp 59)) .done))))))) false 37 [0, 4, 5, 6],
  .ret [.t 2, .t 3],
  .reg (.q (some 51) none (.mov (.tmp 0)) (.q (some 52) none (.slcS 1 (.tmp 51) (some (.const (.int .i64 2))) (some (.const (.int .i64 22)))) (.l (some 53) none (.call 32 [(.tmp 52)]) [] (.l (some 54) none (.bldS 22 1 [(.tmp 53)]) [] (.q (some 2) none (.mov (.const (.int .i64 2))) (.q (some 3) none (.mov (.tmp 54)) .done)))))) false 39 [2, 3],
  .cnd (.tmp 50) 40 38,
  .reg (.q (some 38) none (.mov (.tmp 4)) (.q (some 39) none (.bin .eql (.tmp 38) (.const (.int .i64 23))) (.q (some 40) none (.mov (.tmp 39)) (.q (some 41) (some (40, true)) (.mov (.tmp 0)) (.l (some 42) (some (40, true)) (.bldS 5 1 [(.const (.int .u8 169)), (.const (.int .u8 20))]) [] (.l (some 43) (some (40, true)) (.call 58 [(.tmp 41), (.tmp 42)]) [] (.q (some 44) none (.pick (.tmp 40) (.tmp 43) (.const (.bool false))) (.q (some 45) none (.mov (.tmp 44)) (.q (some 46) (some (45, true)) (.mov (.tmp 0)) (.q (some 47) (some (45, true)) (.iadrS 1 (.tmp 46) (.const (.int .i64 22))) (.q (some 48) (some (45, true)) (.ld1 (.tmp 47)) (.q (some 49) (some (45, true)) (.bin .eql (.tmp 48) (.const (.int .u8 135))) (.q (some 50) none (.pick (.tmp 45) (.tmp 49) (.const (.bool false))) .done))))))))))))) false 41 [0, 4, 50],
  .ret [.t 2, .t 3],
  .reg (.q (some 34) none (.mov (.tmp 0)) (.q (some 35) none (.slcS 1 (.tmp 34) (some (.const (.int .i64 3))) (some (.const (.int .i64 23)))) (.l (some 36) none (.call 32 [(.tmp 35)]) [] (.l (some 37) none (.bldS 22 1 [(.tmp 36)]) [] (.q (some 2) none (.mov (.const (.int .i64 1))) (.q (some 3) none (.mov (.tmp 37)) .done)))))) false 43 [2, 3],
  .cnd (.tmp 33) 44 42,
  .reg (.q (some 15) none (.mov (.tmp 4)) (.q (some 16) none (.bin .eql (.tmp 15) (.const (.int .i64 25))) (.q (some 17) none (.mov (.tmp 16)) (.q (some 18) (some (17, true)) (.mov (.tmp 0)) (.l (some 19) (some (17, true)) (.bldS 5 1 [(.const (.int .u8 118)), (.const (.int .u8 169)), (.const (.int .u8 20))]) [] (.l (some 20) (some (17, true)) (.call 58 [(.tmp 18), (.tmp 19)]) [] (.q (some 21) none (.pick (.tmp 17) (.tmp 20) (.const (.bool false))) (.q (some 22) none (.mov (.tmp 21)) (.q (some 23) (some (22, true)) (.mov (.tmp 0)) (.q (some 24) (some (22, true)) (.iadrS 1 (.tmp 23) (.const (.int .i64 23))) (.q (some 25) (some (22, true)) (.ld1 (.tmp 24)) (.q (some 26) (some (22, true)) (.bin .eql (.tmp 25) (.const (.int .u8 136))) (.q (some 27) none (.pick (.tmp 22) (.tmp 26) (.const (.bool false))) (.q (some 28) none (.mov (.tmp 27)) (.q (some 29) (some (28, true)) (.mov (.tmp 0)) (.q (some 30) (some (28, true)) (.iadrS 1 (.tmp 29) (.const (.int .i64 24))) (.q (some 31) (some (28, true)) (.ld1 (.tmp 30)) (.q (some 32) (some (28, true)) (.bin .eql (.tmp 31) (.const (.int .u8 172))) (.q (some 33) none (.pick (.tmp 28) (.tmp 32) (.const (.bool false))) .done))))))))))))))))))) false 45 [0, 4, 33],
  .reg (.q (some 13) none (.mov (.tmp 0)) (.q (some 14) none (.len (.tmp 13)) (.q (some 4) none (.mov (.tmp 14)) .done))) false 46 [0, 4],
  .reg (.q (some 2) none (.mov (.const (.int .i64 0))) (.q (some 3) none (.mov (.const (.slice none 0 0))) .done)) false 47 [0]
  ]
theorem c21_ok : cfgL Try.prog 21 = some (198, 48, c21.map Vc.Node.bare) := by kernel_rfl
/- strongbox/strongboxref01.Same: entry 16 -/
def c22 : List Vc.Node := [
  .ret [.t 4],
  .ret [.t 4],
  .reg (.q (some 4) none (.mov (.const (.bool true))) .done) false 1 [4],
  .jmp 10,
  .reg (.q (some 15) none (.mov (.tmp 5)) (.q (some 16) none (.bin .add (.tmp 15) (.const (.int .i64 1))) (.q (some 5) none (.mov (.tmp 16)) .done))) false 3 [0, 1, 5],
  .ret [.t 4],
  .reg (.q (some 4) none (.mov (.const (.bool false))) .done) false 5 [4],
  .cnd (.tmp 26) 6 4,
  .reg (.q (some 17) none (.mov (.tmp 0)) (.q (some 18) none (.mov (.tmp 5)) (.q (some 19) none (.iadrS 1 (.tmp 17) (.tmp 18)) (.q (some 20) none (.ld1 (.tmp 19)) (.q (some 21) none (.mov (.tmp 1)) (.q (some 22) none (.mov (.tmp 5)) (.q (some 23) none (.iadrS 1 (.tmp 21) (.tmp 22)) (.q (some 24) none (.ld1 (.tmp 23)) (.l (some 25) none (.call 17 [(.tmp 20), (.tmp 24)]) [] (.q (some 26) none (.not (.tmp 25)) .done)))))))))) true 7 [0, 1, 5, 26],
  .cnd (.tmp 14) 8 2,
  .reg (.q (some 11) none (.mov (.tmp 5)) (.q (some 12) none (.mov (.tmp 0)) (.q (some 13) none (.len (.tmp 12)) (.q (some 14) none (.bin .lss (.tmp 11) (.tmp 13)) .done)))) false 9 [0, 1, 5, 14],
  .reg (.q (some 5) none (.mov (.const (.int .i64 0))) .done) false 10 [0, 1, 5],
  .ret [.t 4],
  .reg (.q (some 4) none (.mov (.const (.bool false))) .done) false 12 [4],
  .cnd (.tmp 10) 13 11,
  .reg (.q (some 6) none (.mov (.tmp 0)) (.q (some 7) none (.len (.tmp 6)) (.q (some 8) none (.mov (.tmp 1)) (.q (some 9) none (.len (.tmp 8)) (.q (some 10) none (.bin .neq (.tmp 7) (.tmp 9)) .done))))) false 14 [0, 1, 10],
  .reg (.q (some 4) none (.mov (.const (.bool false))) .done) false 15 [0, 1]
  ]
theorem c22_ok : cfgL Try.prog 22 = some (27, 16, c22.map Vc.Node.bare) := by kernel_rfl
/- strongbox/script.Program: entry 7 -/
def c23 : List Vc.Node := [
  .ret [.t 2, .t 3, .t 4],
  .ret [.t 2, .t 3, .t 4],
  .reg (.q (some 30) none (.mov (.tmp 0)) (.q (some 31) none (.iadrS 1 (.tmp 30) (.const (.int .i64 0))) (.q (some 32) none (.ld1 (.tmp 31)) (.q (some 34) none (.mov (.tmp 0)) (.q (some 35) none (.slcS 1 (.tmp 34) (some (.const (.int .i64 2))) none) (.l (some 33) none (.call 60 [(.tmp 32)]) [] (.l (some 36) none (.call 54 [(.tmp 35)]) [] (.q (some 2) none (.mov (.tmp 33)) (.q (some 3) none (.mov (.tmp 36)) (.q (some 4) none (.mov (.const (.bool true))) .done)))))))))) true 1 [2, 3, 4],
  .ret [.t 2, .t 3, .t 4],
  .reg (.q (some 2) none (.mov (.const (.int .i64 0))) (.q (some 3) none (.mov (.const (.slice none 0 0))) (.q (some 4) none (.mov (.const (.bool false))) .done))) false 3 [2, 3, 4],
  .cnd (.tmp 29) 4 2,
  .reg (.q (some 5) none (.mov (.tmp 0)) (.q (some 6) none (.len (.tmp 5)) (.q (some 7) none (.bin .lss (.tmp 6) (.const (.int .i64 4))) (.q (some 8) none (.mov (.tmp 7)) (.q (some 9) (some (8, false)) (.mov (.tmp 0)) (.q (some 10) (some (8, false)) (.len (.tmp 9)) (.q (some 11) (some (8, false)) (.bin .gtr (.tmp 10) (.const (.int .i64 42))) (.q (some 12) none (.pick (.tmp 8) (.const (.bool true)) (.tmp 11)) (.q (some 13) none (.mov (.tmp 12)) (.q (some 14) (some (13, false)) (.mov (.tmp 0)) (.q (some 15) (some (13, false)) (.iadrS 1 (.tmp 14) (.const (.int .i64 0))) (.q (some 16) (some (13, false)) (.ld1 (.tmp 15)) (.l (some 17) (some (13, false)) (.call 60 [(.tmp 16)]) [] (.q (some 18) (some (13, false)) (.bin .lss (.tmp 17) (.const (.int .i64 0))) (.q (some 19) none (.pick (.tmp 13) (.const (.bool true)) (.tmp 18)) (.q (some 20) none (.mov (.tmp 19)) (.q (some 21) (some (20, false)) (.mov (.tmp 0)) (.q (some 22) (some (20, false)) (.iadrS 1 (.tmp 21) (.const (.int .i64 1))) (.q (some 23) (some (20, false)) (.ld1 (.tmp 22)) (.q (some 24) (some (20, false)) (.cvi .i64 (.tmp 23)) (.q (some 25) (some (20, false)) (.mov (.tmp 0)) (.q (some 26) (some (20, false)) (.len (.tmp 25)) (.q (some 27) (some (20, false)) (.bin .sub (.tmp 26) (.const (.int .i64 2))) (.q (some 28) (some (20, false)) (.bin .neq (.tmp 24) (.tmp 27)) (.q (some 29) none (.pick (.tmp 20) (.const (.bool true)) (.tmp 28)) .done))))))))))))))))))))))))) false 5 [0, 29],
  .reg (.q (some 2) none (.mov (.const (.int .i64 0))) (.q (some 3) none (.mov (.const (.slice none 0 0))) (.q (some 4) none (.mov (.const (.bool false))) .done))) false 6 [0]
  ]
theorem c23_ok : cfgL Try.prog 23 = some (37, 7, c23.map Vc.Node.bare) := by kernel_rfl
/- strongbox/strongboxref11.Program: entry 7 -/
def c24 : List Vc.Node := [
  .ret [.t 2, .t 3],
  .ret [.t 2, .t 3],
  .reg (.q (some 29) none (.mov (.tmp 0)) (.q (some 30) none (.iadrS 1 (.tmp 29) (.const (.int .i64 0))) (.q (some 31) none (.ld1 (.tmp 30)) (.q (some 33) none (.mov (.tmp 0)) (.q (some 34) none (.slcS 1 (.tmp 33) (some (.const (.int .i64 2))) none) (.l (some 32) none (.call 59 [(.tmp 31)]) [] (.l (some 35) none (.call 32 [(.tmp 34)]) [] (.q (some 2) none (.mov (.tmp 32)) (.q (some 3) none (.mov (.tmp 35)) .done))))))))) true 1 [2, 3],
  .ret [.t 2, .t 3],
  .reg (.q (some 2) none (.mov (.const (.int .i64 (-1)))) (.q (some 3) none (.mov (.const (.slice none 0 0))) .done)) false 3 [2, 3],
  .cnd (.tmp 28) 4 2,
  .reg (.q (some 4) none (.mov (.tmp 0)) (.q (some 5) none (.len (.tmp 4)) (.q (some 6) none (.bin .lss (.tmp 5) (.const (.int .i64 4))) (.q (some 7) none (.mov (.tmp 6)) (.q (some 8) (some (7, false)) (.mov (.tmp 0)) (.q (some 9) (some (7, false)) (.len (.tmp 8)) (.q (some 10) (some (7, false)) (.bin .gtr (.tmp 9) (.const (.int .i64 42))) (.q (some 11) none (.pick (.tmp 7) (.const (.bool true)) (.tmp 10)) (.q (some 12) none (.mov (.tmp 11)) (.q (some 13) (some (12, false)) (.mov (.tmp 0)) (.q (some 14) (some (12, false)) (.iadrS 1 (.tmp 13) (.const (.int .i64 0))) (.q (some 15) (some (12, false)) (.ld1 (.tmp 14)) (.l (some 16) (some (12, false)) (.call 59 [(.tmp 15)]) [] (.q (some 17) (some (12, false)) (.bin .lss (.tmp 16) (.const (.int .i64 0))) (.q (some 18) none (.pick (.tmp 12) (.const (.bool true)) (.tmp 17)) (.q (some 19) none (.mov (.tmp 18)) (.q (some 20) (some (19, false)) (.mov (.tmp 0)) (.q (some 21) (some (19, false)) (.iadrS 1 (.tmp 20) (.const (.int .i64 1))) (.q (some 22) (some (19, false)) (.ld1 (.tmp 21)) (.q (some 23) (some (19, false)) (.cvi .i64 (.tmp 22)) (.q (some 24) (some (19, false)) (.mov (.tmp 0)) (.q (some 25) (some (19, false)) (.len (.tmp 24)) (.q (some 26) (some (19, false)) (.bin .sub (.tmp 25) (.const (.int .i64 2))) (.q (some 27) (some (19, false)) (.bin .neq (.tmp 23) (.tmp 26)) (.q (some 28) none (.pick (.tmp 19) (.const (.bool true)) (.tmp 27)) .done))))))))))))))))))))))))) false 5 [0, 28],
  .reg (.q (some 2) none (.mov (.const (.int .i64 0))) (.q (some 3) none (.mov (.const (.slice none 0 0))) .done)) false 6 [0]
  ]
theorem c24_ok : cfgL Try.prog 24 = some (36, 7, c24.map Vc.Node.bare) := by kernel_rfl
/- strongbox/strongboxref01.Apart: entry 35 -/
def c25 : List Vc.Node := [
  .ret [.t 2],
  .ret [.t 2],
  .reg (.q (some 2) none (.mov (.const (.bool true))) .done) false 1 [2],
  .jmp 15,
  .reg (.q (some 56) none (.mov (.tmp 7)) (.q (some 57) none (.bin .add (.tmp 56) (.const (.int .i64 1))) (.q (some 7) none (.mov (.tmp 57)) .done))) false 3 [0, 7],
  .jmp 12,
  .reg (.q (some 65) none (.mov (.tmp 8)) (.q (some 66) none (.bin .add (.tmp 65) (.const (.int .i64 1))) (.q (some 8) none (.mov (.tmp 66)) .done))) false 5 [0, 7, 8],
  .ret [.t 2],
  .reg (.q (some 2) none (.mov (.const (.bool false))) .done) false 7 [2],
  .cnd (.tmp 79) 8 6,
  .reg (.q (some 67) none (.mov (.tmp 0)) (.q (some 68) none (.mov (.tmp 7)) (.q (some 69) none (.iadrS 1 (.tmp 67) (.tmp 68)) (.q (some 70) none (.ld1 (.tmp 69)) (.q (some 71) none (.mov (.tmp 8)) (.q (some 72) none (.iadrS 1 (.tmp 70) (.tmp 71)) (.q (some 73) none (.ld1 (.tmp 72)) (.q (some 74) none (.mov (.tmp 7)) (.q (some 75) none (.bin .mul (.const (.int .i64 7)) (.tmp 74)) (.q (some 76) none (.mov (.tmp 8)) (.q (some 77) none (.bin .add (.tmp 75) (.tmp 76)) (.q (some 78) none (.cvi .u8 (.tmp 77)) (.q (some 79) none (.bin .neq (.tmp 73) (.tmp 78)) .done))))))))))))) false 9 [0, 7, 8, 79],
  .cnd (.tmp 64) 10 4,
  .reg (.q (some 58) none (.mov (.tmp 8)) (.q (some 59) none (.mov (.tmp 0)) (.q (some 60) none (.mov (.tmp 7)) (.q (some 61) none (.iadrS 1 (.tmp 59) (.tmp 60)) (.q (some 62) none (.ld1 (.tmp 61)) (.q (some 63) none (.len (.tmp 62)) (.q (some 64) none (.bin .lss (.tmp 58) (.tmp 63)) .done))))))) false 11 [0, 7, 8, 64],
  .reg (.q (some 8) none (.mov (.const (.int .i64 0))) .done) false 12 [0, 7, 8],
  .cnd (.tmp 55) 13 2,
  .reg (.q (some 52) none (.mov (.tmp 7)) (.q (some 53) none (.mov (.tmp 0)) (.q (some 54) none (.len (.tmp 53)) (.q (some 55) none (.bin .lss (.tmp 52) (.tmp 54)) .done)))) false 14 [0, 7, 55],
  .reg (.q (some 7) none (.mov (.const (.int .i64 0))) .done) false 15 [0, 7],
  .jmp 22,
  .reg (.q (some 39) none (.mov (.tmp 5)) (.q (some 40) none (.bin .add (.tmp 39) (.const (.int .i64 1))) (.q (some 5) none (.mov (.tmp 40)) .done))) false 17 [0, 5],
  .reg (.q (some 47) none (.mov (.tmp 6)) (.q (some 48) none (.mov (.tmp 6)) (.q (some 49) none (.len (.tmp 48)) (.q (some 50) none (.bin .sub (.tmp 49) (.const (.int .i64 1))) (.q (some 51) none (.iadrS 1 (.tmp 47) (.tmp 50)) (.l none none (.st1 (.tmp 51) (.const (.int .u8 96))) [] .done)))))) false 18 [0, 5],
  .reg (.q (some 41) none (.mov (.tmp 0)) (.q (some 42) none (.mov (.tmp 5)) (.q (some 43) none (.iadrS 1 (.tmp 41) (.tmp 42)) (.q (some 44) none (.ld1 (.tmp 43)) (.l (some 45) none (.bldS 5 1 [(.const (.int .u8 99)), (.const (.int .u8 98)), (.const (.int .u8 97))]) [] (.l (some 46) none (.app 5 1 1 [(1, (.int .u8 0))] (.tmp 44) (.tmp 45)) [] (.q (some 6) none (.mov (.tmp 46)) .done))))))) false 19 [0, 5, 6],
  .cnd (.tmp 38) 20 16,
  .reg (.q (some 35) none (.mov (.tmp 5)) (.q (some 36) none (.mov (.tmp 0)) (.q (some 37) none (.len (.tmp 36)) (.q (some 38) none (.bin .lss (.tmp 35) (.tmp 37)) .done)))) false 21 [0, 5, 38],
  .reg (.q (some 5) none (.mov (.const (.int .i64 0))) .done) false 22 [0, 5],
  .jmp 33,
  .reg (.q (some 13) none (.mov (.tmp 3)) (.q (some 14) none (.bin .add (.tmp 13) (.const (.int .i64 1))) (.q (some 3) none (.mov (.tmp 14)) .done))) false 24 [0, 3],
  .jmp 30,
  .reg (.q (some 22) none (.mov (.tmp 4)) (.q (some 23) none (.bin .add (.tmp 22) (.const (.int .i64 1))) (.q (some 4) none (.mov (.tmp 23)) .done))) false 26 [0, 3, 4],
  .reg (.q (some 24) none (.mov (.tmp 0)) (.q (some 25) none (.mov (.tmp 3)) (.q (some 26) none (.iadrS 1 (.tmp 24) (.tmp 25)) (.q (some 27) none (.ld1 (.tmp 26)) (.q (some 28) none (.mov (.tmp 4)) (.q (some 29) none (.mov (.tmp 3)) (.q (some 30) none (.bin .mul (.const (.int .i64 7)) (.tmp 29)) (.q (some 31) none (.mov (.tmp 4)) (.q (some 32) none (.bin .add (.tmp 30) (.tmp 31)) (.q (some 33) none (.cvi .u8 (.tmp 32)) (.q (some 34) none (.iadrS 1 (.tmp 27) (.tmp 28)) (.l none none (.st1 (.tmp 34) (.tmp 33)) [] .done)))))))))))) false 27 [0, 3, 4],
  .cnd (.tmp 21) 28 25,
  .reg (.q (some 15) none (.mov (.tmp 4)) (.q (some 16) none (.mov (.tmp 0)) (.q (some 17) none (.mov (.tmp 3)) (.q (some 18) none (.iadrS 1 (.tmp 16) (.tmp 17)) (.q (some 19) none (.ld1 (.tmp 18)) (.q (some 20) none (.len (.tmp 19)) (.q (some 21) none (.bin .lss (.tmp 15) (.tmp 20)) .done))))))) false 29 [0, 3, 4, 21],
  .reg (.q (some 4) none (.mov (.const (.int .i64 0))) .done) false 30 [0, 3, 4],
  .cnd (.tmp 12) 31 23,
  .reg (.q (some 9) none (.mov (.tmp 3)) (.q (some 10) none (.mov (.tmp 0)) (.q (some 11) none (.len (.tmp 10)) (.q (some 12) none (.bin .lss (.tmp 9) (.tmp 11)) .done)))) false 32 [0, 3, 12],
  .reg (.q (some 3) none (.mov (.const (.int .i64 0))) .done) false 33 [0, 3],
  .reg (.q (some 2) none (.mov (.const (.bool false))) .done) false 34 [0]
  ]
theorem c25_ok : cfgL Try.prog 25 = some (80, 35, c25.map Vc.Node.bare) := by kernel_rfl
/- strongbox/script.Number: entry 20 -/
def c26 : List Vc.Node := [
  .ret [.t 2],
  .ret [.t 2],
  .reg (.q (some 49) none (.mov (.tmp 3)) (.q (some 2) none (.mov (.tmp 49)) .done)) false 1 [2],
  .reg (.q (some 41) none (.mov (.tmp 3)) (.q (some 42) none (.mov (.tmp 3)) (.q (some 43) none (.len (.tmp 42)) (.q (some 44) none (.bin .sub (.tmp 43) (.const (.int .i64 1))) (.q (some 45) none (.iadrS 1 (.tmp 41) (.tmp 44)) (.q (some 46) none (.ld1 (.tmp 45)) (.q (some 47) none (.bin .or (.tmp 46) (.const (.int .u8 128))) (.q (some 48) none (.iadrS 1 (.tmp 41) (.tmp 44)) (.l none none (.st1 (.tmp 48) (.tmp 47)) [] .done))))))))) false 2 [3],
  .cnd (.tmp 40) 3 2,
  .reg (.q (some 40) none (.mov (.tmp 4)) .done) false 4 [3, 40],
  .reg (.q (some 37) none (.mov (.tmp 3)) (.l (some 38) none (.bldS 5 1 [(.const (.int .u8 0))]) [] (.l (some 39) none (.app 5 1 1 [(1, (.int .u8 0))] (.tmp 37) (.tmp 38)) [] (.q (some 3) none (.mov (.tmp 39)) .done)))) false 5 [3, 4],
  .cnd (.tmp 36) 6 5,
  .reg (.q (some 27) none (.mov (.tmp 5)) (.q (some 28) none (.bin .geq (.tmp 27) (.const (.int .i64 0))) (.q (some 29) none (.mov (.tmp 28)) (.q (some 30) (some (29, true)) (.mov (.tmp 3)) (.q (some 31) (some (29, true)) (.mov (.tmp 5)) (.q (some 32) (some (29, true)) (.iadrS 1 (.tmp 30) (.tmp 31)) (.q (some 33) (some (29, true)) (.ld1 (.tmp 32)) (.q (some 34) (some (29, true)) (.bin .and (.tmp 33) (.const (.int .u8 128))) (.q (some 35) (some (29, true)) (.bin .neq (.tmp 34) (.const (.int .u8 0))) (.q (some 36) none (.pick (.tmp 29) (.tmp 35) (.const (.bool false))) .done)))))))))) false 7 [3, 4, 36],
  .reg (.q (some 24) none (.mov (.tmp 3)) (.q (some 25) none (.len (.tmp 24)) (.q (some 26) none (.bin .sub (.tmp 25) (.const (.int .i64 1))) (.q (some 5) none (.mov (.tmp 26)) .done)))) false 8 [3, 4, 5],
  .jmp 14,
  .reg (.q (some 17) none (.mov (.tmp 0)) (.q (some 18) none (.bin .shr (.tmp 17) (.const (.int .u64 8))) (.q (some 0) none (.mov (.tmp 18)) .done))) false 10 [0, 3, 4],
  .reg (.q (some 19) none (.mov (.tmp 3)) (.q (some 20) none (.mov (.tmp 0)) (.q (some 21) none (.cvi .u8 (.tmp 20)) (.l (some 22) none (.bldS 5 1 [(.tmp 21)]) [] (.l (some 23) none (.app 5 1 1 [(1, (.int .u8 0))] (.tmp 19) (.tmp 22)) [] (.q (some 3) none (.mov (.tmp 23)) .done)))))) false 11 [0, 3, 4],
  .cnd (.tmp 16) 12 9,
  .reg (.q (some 15) none (.mov (.tmp 0)) (.q (some 16) none (.bin .gtr (.tmp 15) (.const (.int .i64 0))) .done)) false 13 [0, 3, 4, 16],
  .reg (.q (some 9) none (.mov (.tmp 0)) (.q (some 10) none (.neg (.tmp 9)) (.q (some 11) none (.mov (.tmp 0)) (.q (some 12) none (.bin .add (.tmp 11) (.const (.int .i64 1))) (.q (some 13) none (.neg (.tmp 12)) (.q (some 14) none (.max [(.tmp 10), (.tmp 13)]) (.q (some 0) none (.mov (.tmp 14)) .done))))))) false 14 [0, 3, 4],
  .cnd (.tmp 8) 15 14,
  .reg (.q (some 8) none (.mov (.tmp 4)) .done) false 16 [0, 3, 4, 8],
  .reg (.q (some 6) none (.mov (.tmp 0)) (.q (some 7) none (.bin .lss (.tmp 6) (.const (.int .i64 0))) (.q (some 4) none (.mov (.tmp 7)) .done))) false 17 [0, 3, 4],
  .reg (.q (some 3) none (.mov (.const (.slice none 0 0))) .done) false 18 [0, 3],
  .reg (.q (some 2) none (.mov (.const (.slice none 0 0))) .done) false 19 [0]
  ]
theorem c26_ok : cfgL Try.prog 26 = some (50, 20, c26.map Vc.Node.bare) := by kernel_rfl
/- strongbox/strongboxref11.Number: entry 22 -/
def c27 : List Vc.Node := [
  .ret [.t 2],
  .ret [.t 2],
  .reg (.q (some 54) none (.mov (.tmp 3)) (.q (some 2) none (.mov (.tmp 54)) .done)) false 1 [2],
  .reg (.q (some 42) none (.mov (.tmp 3)) (.q (some 43) none (.mov (.tmp 3)) (.q (some 44) none (.len (.tmp 43)) (.q (some 45) none (.bin .sub (.tmp 44) (.const (.int .i64 1))) (.q (some 46) none (.mov (.tmp 3)) (.q (some 47) none (.mov (.tmp 3)) (.q (some 48) none (.len (.tmp 47)) (.q (some 49) none (.bin .sub (.tmp 48) (.const (.int .i64 1))) (.q (some 50) none (.iadrS 1 (.tmp 46) (.tmp 49)) (.q (some 51) none (.ld1 (.tmp 50)) (.q (some 52) none (.bin .add (.tmp 51) (.const (.int .u8 128))) (.q (some 53) none (.iadrS 1 (.tmp 42) (.tmp 45)) (.l none none (.st1 (.tmp 53) (.tmp 52)) [] .done))))))))))))) false 2 [3],
  .cnd (.tmp 41) 3 2,
  .reg (.q (some 40) none (.mov (.tmp 0)) (.q (some 41) none (.bin .lss (.tmp 40) (.const (.int .i64 0))) .done)) false 4 [3, 41],
  .reg (.q (some 37) none (.mov (.tmp 3)) (.l (some 38) none (.bldS 5 1 [(.const (.int .u8 0))]) [] (.l (some 39) none (.app 5 1 1 [(1, (.int .u8 0))] (.tmp 37) (.tmp 38)) [] (.q (some 3) none (.mov (.tmp 39)) .done)))) false 5 [0, 3],
  .cnd (.tmp 36) 6 5,
  .reg (.q (some 25) none (.mov (.tmp 3)) (.q (some 26) none (.len (.tmp 25)) (.q (some 27) none (.bin .gtr (.tmp 26) (.const (.int .i64 0))) (.q (some 28) none (.mov (.tmp 27)) (.q (some 29) (some (28, true)) (.mov (.tmp 3)) (.q (some 30) (some (28, true)) (.mov (.tmp 3)) (.q (some 31) (some (28, true)) (.len (.tmp 30)) (.q (some 32) (some (28, true)) (.bin .sub (.tmp 31) (.const (.int .i64 1))) (.q (some 33) (some (28, true)) (.iadrS 1 (.tmp 29) (.tmp 32)) (.q (some 34) (some (28, true)) (.ld1 (.tmp 33)) (.q (some 35) (some (28, true)) (.bin .geq (.tmp 34) (.const (.int .u8 128))) (.q (some 36) none (.pick (.tmp 28) (.tmp 35) (.const (.bool false))) .done)))))))))))) false 7 [0, 3, 36],
  .jmp 13,
  .reg (.q (some 23) none (.mov (.tmp 4)) (.q (some 24) none (.bin .quo (.tmp 23) (.const (.int .u64 256))) (.q (some 4) none (.mov (.tmp 24)) .done))) false 9 [0, 3, 4],
  .reg (.q (some 17) none (.mov (.tmp 3)) (.q (some 18) none (.mov (.tmp 4)) (.q (some 19) none (.bin .rem (.tmp 18) (.const (.int .u64 256))) (.q (some 20) none (.cvi .u8 (.tmp 19)) (.l (some 21) none (.bldS 5 1 [(.tmp 20)]) [] (.l (some 22) none (.app 5 1 1 [(1, (.int .u8 0))] (.tmp 17) (.tmp 21)) [] (.q (some 3) none (.mov (.tmp 22)) .done))))))) false 10 [0, 3, 4],
  .cnd (.tmp 16) 11 8,
  .reg (.q (some 15) none (.mov (.tmp 4)) (.q (some 16) none (.bin .gtr (.tmp 15) (.const (.int .u64 0))) .done)) false 12 [0, 3, 4, 16],
  .reg (.q (some 13) none (.mov (.tmp 4)) (.q (some 14) none (.bin .sub (.tmp 13) (.const (.int .u64 1))) (.q (some 4) none (.mov (.tmp 14)) .done))) false 13 [0, 3, 4],
  .cnd (.tmp 12) 14 13,
  .reg (.q (some 11) none (.mov (.tmp 4)) (.q (some 12) none (.bin .eql (.tmp 11) (.const (.int .u64 9223372036854775808))) .done)) false 15 [0, 3, 4, 12],
  .reg (.q (some 9) none (.mov (.tmp 4)) (.q (some 10) none (.neg (.tmp 9)) (.q (some 4) none (.mov (.tmp 10)) .done))) false 16 [0, 3, 4],
  .cnd (.tmp 8) 17 13,
  .reg (.q (some 7) none (.mov (.tmp 0)) (.q (some 8) none (.bin .lss (.tmp 7) (.const (.int .i64 0))) .done)) false 18 [0, 3, 4, 8],
  .reg (.q (some 5) none (.mov (.tmp 0)) (.q (some 6) none (.cvi .u64 (.tmp 5)) (.q (some 4) none (.mov (.tmp 6)) .done))) false 19 [0, 3, 4],
  .reg (.q (some 3) none (.mov (.const (.slice none 0 0))) .done) false 20 [0, 3],
  .reg (.q (some 2) none (.mov (.const (.slice none 0 0))) .done) false 21 [0]
  ]
theorem c27_ok : cfgL Try.prog 27 = some (55, 22, c27.map Vc.Node.bare) := by kernel_rfl
/- strongbox/script.Truth: entry 13 -/
def c28 : List Vc.Node := [
  .ret [.t 2],
  .ret [.t 2],
  .reg (.q (some 2) none (.mov (.const (.bool false))) .done) false 1 [2],
  .jmp 11,
  .reg (.q (some 25) none (.bin .add (.tmp 7) (.const (.int .i64 1))) (.q (some 7) none (.mov (.tmp 25)) .done)) false 3 [0, 5, 6, 7],
  .ret [.t 2],
  .reg (.q (some 2) none (.mov (.const (.bool true))) .done) false 5 [2],
  .cnd (.tmp 24) 6 4,
  .reg (.q (some 12) none (.mov (.tmp 4)) (.q (some 13) none (.bin .neq (.tmp 12) (.const (.int .u8 0))) (.q (some 14) none (.mov (.tmp 13)) (.q (some 15) (some (14, true)) (.mov (.tmp 4)) (.q (some 16) (some (14, true)) (.bin .neq (.tmp 15) (.const (.int .u8 128))) (.q (some 17) (some (14, true)) (.mov (.tmp 16)) (.q (some 18) (some (17, false)) (.mov (.tmp 3)) (.q (some 19) (some (17, false)) (.mov (.tmp 0)) (.q (some 20) (some (17, false)) (.len (.tmp 19)) (.q (some 21) (some (17, false)) (.bin .sub (.tmp 20) (.const (.int .i64 1))) (.q (some 22) (some (17, false)) (.bin .lss (.tmp 18) (.tmp 21)) (.q (some 23) (some (14, true)) (.pick (.tmp 17) (.const (.bool true)) (.tmp 22)) (.q (some 24) none (.pick (.tmp 14) (.tmp 23) (.const (.bool false))) .done))))))))))))) false 7 [0, 5, 6, 7, 24],
  .reg (.q (some 9) none (.mov (.tmp 7)) (.q (some 10) none (.iadrS 1 (.tmp 5) (.tmp 7)) (.q (some 11) none (.ld1 (.tmp 10)) (.q (some 3) none (.mov (.tmp 9)) (.q (some 4) none (.mov (.tmp 11)) .done))))) false 8 [0, 3, 4, 5, 6, 7],
  .cnd (.tmp 8) 9 2,
  .reg (.q (some 8) none (.bin .lss (.tmp 7) (.tmp 6)) .done) false 10 [0, 5, 6, 7, 8],
  .reg (.q (some 5) none (.mov (.tmp 0)) (.q (some 6) none (.len (.tmp 5)) (.q (some 7) none (.mov (.const (.int .i64 0))) .done))) false 11 [0, 5, 6, 7],
  .reg (.q (some 2) none (.mov (.const (.bool false))) .done) false 12 [0]
  ]
theorem c28_ok : cfgL Try.prog 28 = some (26, 13, c28.map Vc.Node.bare) := by kernel_rfl
/- strongbox/strongboxref11.Truth: entry 12 -/
def c29 : List Vc.Node := [
  .ret [.t 2],
  .ret [.t 2],
  .reg (.q (some 2) none (.mov (.const (.bool false))) .done) false 1 [2],
  .jmp 10,
  .reg (.q (some 8) none (.mov (.tmp 3)) (.q (some 9) none (.bin .add (.tmp 8) (.const (.int .i64 1))) (.q (some 3) none (.mov (.tmp 9)) .done))) false 3 [0, 3],
  .ret [.t 2],
  .reg (.q (some 2) none (.mov (.const (.bool true))) .done) false 5 [2],
  .cnd (.tmp 29) 6 4,
  .reg (.q (some 10) none (.mov (.tmp 0)) (.q (some 11) none (.mov (.tmp 3)) (.q (some 12) none (.iadrS 1 (.tmp 10) (.tmp 11)) (.q (some 13) none (.ld1 (.tmp 12)) (.q (some 14) none (.bin .neq (.tmp 13) (.const (.int .u8 0))) (.q (some 15) none (.mov (.tmp 14)) (.q (some 16) (some (15, true)) (.mov (.tmp 0)) (.q (some 17) (some (15, true)) (.mov (.tmp 3)) (.q (some 18) (some (15, true)) (.iadrS 1 (.tmp 16) (.tmp 17)) (.q (some 19) (some (15, true)) (.ld1 (.tmp 18)) (.q (some 20) (some (15, true)) (.bin .eql (.tmp 19) (.const (.int .u8 128))) (.q (some 21) (some (15, true)) (.mov (.tmp 20)) (.q (some 22) (some (21, true)) (.mov (.tmp 3)) (.q (some 23) (some (21, true)) (.mov (.tmp 0)) (.q (some 24) (some (21, true)) (.len (.tmp 23)) (.q (some 25) (some (21, true)) (.bin .sub (.tmp 24) (.const (.int .i64 1))) (.q (some 26) (some (21, true)) (.bin .eql (.tmp 22) (.tmp 25)) (.q (some 27) (some (15, true)) (.pick (.tmp 21) (.tmp 26) (.const (.bool false))) (.q (some 28) (some (15, true)) (.not (.tmp 27)) (.q (some 29) none (.pick (.tmp 15) (.tmp 28) (.const (.bool false))) .done)))))))))))))))))))) false 7 [0, 3, 29],
  .cnd (.tmp 7) 8 2,
  .reg (.q (some 4) none (.mov (.tmp 3)) (.q (some 5) none (.mov (.tmp 0)) (.q (some 6) none (.len (.tmp 5)) (.q (some 7) none (.bin .lss (.tmp 4) (.tmp 6)) .done)))) false 9 [0, 3, 7],
  .reg (.q (some 3) none (.mov (.const (.int .i64 0))) .done) false 10 [0, 3],
  .reg (.q (some 2) none (.mov (.const (.bool false))) .done) false 11 [0]
  ]
theorem c29_ok : cfgL Try.prog 29 = some (30, 12, c29.map Vc.Node.bare) := by kernel_rfl
/- strongbox/script.FromNumber: entry 25 -/
def c30 : List Vc.Node := [
  .ret [.t 4, .t 5],
  .ret [.t 4, .t 5],
  .reg (.q (some 56) none (.mov (.tmp 6)) (.q (some 4) none (.mov (.tmp 56)) (.q (some 5) none (.mov (.const (.int .i64 0))) .done))) false 1 [4, 5],
  .ret [.t 4, .t 5],
  .reg (.q (some 4) none (.mov (.const (.int .i64 0))) (.q (some 5) none (.mov (.const (.int .i64 3))) .done)) false 3 [4, 5],
  .cnd (.tmp 55) 4 2,
  .reg (.q (some 51) none (.mov (.tmp 6)) (.l (some 52) none (.call 26 [(.tmp 51)]) [] (.q (some 53) none (.mov (.tmp 0)) (.l (some 54) none (.call 61 [(.tmp 52), (.tmp 53)]) [] (.q (some 55) none (.not (.tmp 54)) .done))))) false 5 [6, 55],
  .reg (.q (some 49) none (.mov (.tmp 6)) (.q (some 50) none (.neg (.tmp 49)) (.q (some 6) none (.mov (.tmp 50)) .done))) false 6 [0, 6],
  .cnd (.tmp 48) 7 6,
  .reg (.q (some 36) none (.mov (.tmp 0)) (.q (some 37) none (.len (.tmp 36)) (.q (some 38) none (.bin .gtr (.tmp 37) (.const (.int .i64 0))) (.q (some 39) none (.mov (.tmp 38)) (.q (some 40) (some (39, true)) (.mov (.tmp 0)) (.q (some 41) (some (39, true)) (.mov (.tmp 0)) (.q (some 42) (some (39, true)) (.len (.tmp 41)) (.q (some 43) (some (39, true)) (.bin .sub (.tmp 42) (.const (.int .i64 1))) (.q (some 44) (some (39, true)) (.iadrS 1 (.tmp 40) (.tmp 43)) (.q (some 45) (some (39, true)) (.ld1 (.tmp 44)) (.q (some 46) (some (39, true)) (.bin .and (.tmp 45) (.const (.int .u8 128))) (.q (some 47) (some (39, true)) (.bin .neq (.tmp 46) (.const (.int .u8 0))) (.q (some 48) none (.pick (.tmp 39) (.tmp 47) (.const (.bool false))) .done))))))))))))) false 8 [0, 6, 48],
  .jmp 18,
  .reg (.q (some 35) none (.bin .add (.tmp 16) (.const (.int .i64 1))) (.q (some 16) none (.mov (.tmp 35)) .done)) false 10 [0, 6, 14, 15, 16],
  .reg (.q (some 28) none (.mov (.tmp 6)) (.q (some 29) none (.mov (.tmp 8)) (.q (some 30) none (.cvi .i64 (.tmp 29)) (.q (some 31) none (.mov (.tmp 7)) (.q (some 32) none (.bin .mul (.const (.int .i64 8)) (.tmp 31)) (.q (some 33) none (.bin .shl (.tmp 30) (.tmp 32)) (.q (some 34) none (.bin .or (.tmp 28) (.tmp 33)) (.q (some 6) none (.mov (.tmp 34)) .done)))))))) false 11 [0, 6, 14, 15, 16],
  .reg (.q (some 26) none (.mov (.tmp 8)) (.q (some 27) none (.bin .andNot (.tmp 26) (.const (.int .u8 128))) (.q (some 8) none (.mov (.tmp 27)) .done))) false 12 [0, 6, 7, 8, 14, 15, 16],
  .cnd (.tmp 25) 13 12,
  .reg (.q (some 21) none (.mov (.tmp 7)) (.q (some 22) none (.mov (.tmp 0)) (.q (some 23) none (.len (.tmp 22)) (.q (some 24) none (.bin .sub (.tmp 23) (.const (.int .i64 1))) (.q (some 25) none (.bin .eql (.tmp 21) (.tmp 24)) .done))))) false 14 [0, 6, 7, 8, 14, 15, 16, 25],
  .reg (.q (some 18) none (.mov (.tmp 16)) (.q (some 19) none (.iadrS 1 (.tmp 14) (.tmp 16)) (.q (some 20) none (.ld1 (.tmp 19)) (.q (some 7) none (.mov (.tmp 18)) (.q (some 8) none (.mov (.tmp 20)) .done))))) false 15 [0, 6, 7, 8, 14, 15, 16],
  .cnd (.tmp 17) 16 9,
  .reg (.q (some 17) none (.bin .lss (.tmp 16) (.tmp 15)) .done) false 17 [0, 6, 14, 15, 16, 17],
  .reg (.q (some 14) none (.mov (.tmp 0)) (.q (some 15) none (.len (.tmp 14)) (.q (some 16) none (.mov (.const (.int .i64 0))) .done))) false 18 [0, 6, 14, 15, 16],
  .reg (.q (some 6) none (.mov (.const (.int .i64 0))) .done) false 19 [0, 6],
  .ret [.t 4, .t 5],
  .reg (.q (some 4) none (.mov (.const (.int .i64 0))) (.q (some 5) none (.mov (.const (.int .i64 2))) .done)) false 21 [4, 5],
  .cnd (.tmp 13) 22 20,
  .reg (.q (some 9) none (.mov (.tmp 0)) (.q (some 10) none (.len (.tmp 9)) (.q (some 11) none (.mov (.tmp 1)) (.q (some 12) none (.min [(.tmp 11), (.const (.int .i64 8))]) (.q (some 13) none (.bin .gtr (.tmp 10) (.tmp 12)) .done))))) false 23 [0, 13],
  .reg (.q (some 4) none (.mov (.const (.int .i64 0))) (.q (some 5) none (.mov (.const (.int .i64 0))) .done)) false 24 [0, 1]
  ]
theorem c30_ok : cfgL Try.prog 30 = some (57, 25, c30.map Vc.Node.bare) := by kernel_rfl
/- strongbox/strongboxref11.FromNumber: entry 31 -/
def c31 : List Vc.Node := [
  .ret [.t 4, .t 5],
  .ret [.t 4, .t 5],
  .reg (.q (some 73) none (.mov (.tmp 6)) (.q (some 74) none (.cvi .i64 (.tmp 73)) (.q (some 4) none (.mov (.tmp 74)) (.q (some 5) none (.mov (.const (.int .i64 0))) .done)))) false 1 [4, 5],
  .ret [.t 4, .t 5],
  .reg (.q (some 70) none (.mov (.tmp 6)) (.q (some 71) none (.cvi .i64 (.tmp 70)) (.q (some 72) none (.neg (.tmp 71)) (.q (some 4) none (.mov (.tmp 72)) (.q (some 5) none (.mov (.const (.int .i64 0))) .done))))) false 3 [4, 5],
  .cnd (.tmp 69) 4 2,
  .reg (.q (some 68) none (.mov (.tmp 9)) (.q (some 69) none (.bin .geq (.tmp 68) (.const (.int .u8 128))) .done)) false 5 [6, 69],
  .ret [.t 4, .t 5],
  .reg (.q (some 4) none (.mov (.const (.int .i64 0))) (.q (some 5) none (.mov (.const (.int .i64 3))) .done)) false 7 [4, 5],
  .cnd (.tmp 67) 8 6,
  .reg (.q (some 51) none (.mov (.tmp 9)) (.q (some 52) none (.bin .rem (.tmp 51) (.const (.int .u8 128))) (.q (some 53) none (.bin .eql (.tmp 52) (.const (.int .u8 0))) (.q (some 54) none (.mov (.tmp 53)) (.q (some 55) (some (54, true)) (.mov (.tmp 0)) (.q (some 56) (some (54, true)) (.len (.tmp 55)) (.q (some 57) (some (54, true)) (.bin .eql (.tmp 56) (.const (.int .i64 1))) (.q (some 58) (some (54, true)) (.mov (.tmp 57)) (.q (some 59) (some (58, false)) (.mov (.tmp 0)) (.q (some 60) (some (58, false)) (.mov (.tmp 0)) (.q (some 61) (some (58, false)) (.len (.tmp 60)) (.q (some 62) (some (58, false)) (.bin .sub (.tmp 61) (.const (.int .i64 2))) (.q (some 63) (some (58, false)) (.iadrS 1 (.tmp 59) (.tmp 62)) (.q (some 64) (some (58, false)) (.ld1 (.tmp 63)) (.q (some 65) (some (58, false)) (.bin .lss (.tmp 64) (.const (.int .u8 128))) (.q (some 66) (some (54, true)) (.pick (.tmp 58) (.const (.bool true)) (.tmp 65)) (.q (some 67) none (.pick (.tmp 54) (.tmp 66) (.const (.bool false))) .done))))))))))))))))) false 9 [6, 9, 67],
  .reg (.q (some 45) none (.mov (.tmp 0)) (.q (some 46) none (.mov (.tmp 0)) (.q (some 47) none (.len (.tmp 46)) (.q (some 48) none (.bin .sub (.tmp 47) (.const (.int .i64 1))) (.q (some 49) none (.iadrS 1 (.tmp 45) (.tmp 48)) (.q (some 50) none (.ld1 (.tmp 49)) (.q (some 9) none (.mov (.tmp 50)) .done))))))) false 10 [0, 6, 9],
  .jmp 20,
  .reg (.q (some 27) none (.mov (.tmp 7)) (.q (some 28) none (.bin .sub (.tmp 27) (.const (.int .i64 1))) (.q (some 7) none (.mov (.tmp 28)) .done))) false 12 [0, 6, 7],
  .reg (.q (some 40) none (.mov (.tmp 6)) (.q (some 41) none (.bin .mul (.tmp 40) (.const (.int .u64 256))) (.q (some 42) none (.mov (.tmp 8)) (.q (some 43) none (.cvi .u64 (.tmp 42)) (.q (some 44) none (.bin .add (.tmp 41) (.tmp 43)) (.q (some 6) none (.mov (.tmp 44)) .done)))))) false 13 [0, 6, 7],
  .reg (.q (some 38) none (.mov (.tmp 8)) (.q (some 39) none (.bin .rem (.tmp 38) (.const (.int .u8 128))) (.q (some 8) none (.mov (.tmp 39)) .done))) false 14 [0, 6, 7, 8],
  .cnd (.tmp 37) 15 14,
  .reg (.q (some 33) none (.mov (.tmp 7)) (.q (some 34) none (.mov (.tmp 0)) (.q (some 35) none (.len (.tmp 34)) (.q (some 36) none (.bin .sub (.tmp 35) (.const (.int .i64 1))) (.q (some 37) none (.bin .eql (.tmp 33) (.tmp 36)) .done))))) false 16 [0, 6, 7, 8, 37],
  .reg (.q (some 29) none (.mov (.tmp 0)) (.q (some 30) none (.mov (.tmp 7)) (.q (some 31) none (.iadrS 1 (.tmp 29) (.tmp 30)) (.q (some 32) none (.ld1 (.tmp 31)) (.q (some 8) none (.mov (.tmp 32)) .done))))) false 17 [0, 6, 7, 8],
  .cnd (.tmp 26) 18 11,
  .reg (.q (some 25) none (.mov (.tmp 7)) (.q (some 26) none (.bin .geq (.tmp 25) (.const (.int .i64 0))) .done)) false 19 [0, 6, 7, 26],
  .reg (.q (some 22) none (.mov (.tmp 0)) (.q (some 23) none (.len (.tmp 22)) (.q (some 24) none (.bin .sub (.tmp 23) (.const (.int .i64 1))) (.q (some 7) none (.mov (.tmp 24)) .done)))) false 20 [0, 6, 7],
  .reg (.q (some 6) none (.mov (.const (.int .u64 0))) .done) false 21 [0, 6],
  .ret [.t 4, .t 5],
  .reg (.q (some 4) none (.mov (.const (.int .i64 0))) (.q (some 5) none (.mov (.const (.int .i64 0))) .done)) false 23 [4, 5],
  .cnd (.tmp 21) 24 22,
  .reg (.q (some 19) none (.mov (.tmp 0)) (.q (some 20) none (.len (.tmp 19)) (.q (some 21) none (.bin .eql (.tmp 20) (.const (.int .i64 0))) .done))) false 25 [0, 21],
  .ret [.t 4, .t 5],
  .reg (.q (some 4) none (.mov (.const (.int .i64 0))) (.q (some 5) none (.mov (.const (.int .i64 2))) .done)) false 27 [4, 5],
  .cnd (.tmp 18) 28 26,
  .reg (.q (some 10) none (.mov (.tmp 0)) (.q (some 11) none (.len (.tmp 10)) (.q (some 12) none (.mov (.tmp 1)) (.q (some 13) none (.bin .gtr (.tmp 11) (.tmp 12)) (.q (some 14) none (.mov (.tmp 13)) (.q (some 15) (some (14, false)) (.mov (.tmp 0)) (.q (some 16) (some (14, false)) (.len (.tmp 15)) (.q (some 17) (some (14, false)) (.bin .gtr (.tmp 16) (.const (.int .i64 8))) (.q (some 18) none (.pick (.tmp 14) (.const (.bool true)) (.tmp 17)) .done))))))))) false 29 [0, 18],
  .reg (.q (some 4) none (.mov (.const (.int .i64 0))) (.q (some 5) none (.mov (.const (.int .i64 0))) .done)) false 30 [0, 1]
  ]
theorem c31_ok : cfgL Try.prog 31 = some (75, 31, c31.map Vc.Node.bare) := by kernel_rfl
/- strongbox/strongboxref01.Copy: entry 3 -/
def c32 : List Vc.Node := [
  .ret [.t 2],
  .ret [.t 2],
  .reg (.l (some 3) none (.bldS 5 1 []) [] (.q (some 4) none (.mov (.tmp 0)) (.l (some 5) none (.app 5 1 1 [(1, (.int .u8 0))] (.tmp 3) (.tmp 4)) [] (.q (some 2) none (.mov (.tmp 5)) .done)))) false 1 [2],
  .reg (.q (some 2) none (.mov (.const (.slice none 0 0))) .done) false 2 [0]
  ]
theorem c32_ok : cfgL Try.prog 32 = some (6, 3, c32.map Vc.Node.bare) := by kernel_rfl
/- strongbox/script.PayMulti: entry 20 -/
def c33 : List Vc.Node := [
  .ret [.t 4, .t 5],
  .ret [.t 4, .t 5],
  .reg (.q (some 45) none (.mov (.tmp 7)) (.q (some 46) none (.mov (.tmp 6)) (.l (some 47) none (.call 62 [(.tmp 46)]) [] (.l (some 48) none (.bldS 5 1 [(.tmp 47), (.const (.int .u8 174))]) [] (.l (some 49) none (.app 5 1 1 [(1, (.int .u8 0))] (.tmp 45) (.tmp 48)) [] (.q (some 4) none (.mov (.tmp 49)) (.q (some 5) none (.mov (.const (.int .i64 0))) .done))))))) false 1 [4, 5],
  .jmp 12,
  .reg (.q (some 44) none (.bin .add (.tmp 32) (.const (.int .i64 1))) (.q (some 32) none (.mov (.tmp 44)) .done)) false 3 [6, 7, 30, 31, 32],
  .reg (.q (some 39) none (.mov (.tmp 7)) (.l (some 40) none (.bldS 5 1 [(.const (.int .u8 33))]) [] (.l (some 41) none (.app 5 1 1 [(1, (.int .u8 0))] (.tmp 39) (.tmp 40)) [] (.q (some 42) none (.mov (.tmp 9)) (.l (some 43) none (.app 5 1 1 [(1, (.int .u8 0))] (.tmp 41) (.tmp 42)) [] (.q (some 7) none (.mov (.tmp 43)) .done)))))) false 4 [6, 7, 30, 31, 32],
  .ret [.t 4, .t 5],
  .reg (.q (some 4) none (.mov (.const (.slice none 0 0))) (.q (some 5) none (.mov (.const (.int .i64 3))) .done)) false 6 [4, 5],
  .cnd (.tmp 38) 7 5,
  .reg (.q (some 36) none (.mov (.tmp 9)) (.q (some 37) none (.len (.tmp 36)) (.q (some 38) none (.bin .neq (.tmp 37) (.const (.int .i64 33))) .done))) false 8 [6, 7, 9, 30, 31, 32, 38],
  .reg (.q (some 34) none (.iadrS 1 (.tmp 30) (.tmp 32)) (.q (some 35) none (.ld1 (.tmp 34)) (.q (some 9) none (.mov (.tmp 35)) .done))) false 9 [6, 7, 9, 30, 31, 32],
  .cnd (.tmp 33) 10 2,
  .reg (.q (some 33) none (.bin .lss (.tmp 32) (.tmp 31)) .done) false 11 [6, 7, 30, 31, 32, 33],
  .reg (.q (some 30) none (.mov (.tmp 1)) (.q (some 31) none (.len (.tmp 30)) (.q (some 32) none (.mov (.const (.int .i64 0))) .done))) false 12 [6, 7, 30, 31, 32],
  .reg (.q (some 27) none (.mov (.tmp 0)) (.l (some 28) none (.call 62 [(.tmp 27)]) [] (.l (some 29) none (.bldS 5 1 [(.tmp 28)]) [] (.q (some 7) none (.mov (.tmp 29)) .done)))) false 13 [1, 6, 7],
  .ret [.t 4, .t 5],
  .reg (.q (some 4) none (.mov (.const (.slice none 0 0))) (.q (some 5) none (.mov (.const (.int .i64 1))) .done)) false 15 [4, 5],
  .cnd (.tmp 26) 16 14,
  .reg (.q (some 12) none (.mov (.tmp 6)) (.q (some 13) none (.bin .lss (.tmp 12) (.const (.int .i64 1))) (.q (some 14) none (.mov (.tmp 13)) (.q (some 15) (some (14, false)) (.mov (.tmp 6)) (.q (some 16) (some (14, false)) (.bin .gtr (.tmp 15) (.const (.int .i64 16))) (.q (some 17) none (.pick (.tmp 14) (.const (.bool true)) (.tmp 16)) (.q (some 18) none (.mov (.tmp 17)) (.q (some 19) (some (18, false)) (.mov (.tmp 0)) (.q (some 20) (some (18, false)) (.bin .lss (.tmp 19) (.const (.int .i64 1))) (.q (some 21) none (.pick (.tmp 18) (.const (.bool true)) (.tmp 20)) (.q (some 22) none (.mov (.tmp 21)) (.q (some 23) (some (22, false)) (.mov (.tmp 0)) (.q (some 24) (some (22, false)) (.mov (.tmp 6)) (.q (some 25) (some (22, false)) (.bin .gtr (.tmp 23) (.tmp 24)) (.q (some 26) none (.pick (.tmp 22) (.const (.bool true)) (.tmp 25)) .done))))))))))))))) false 17 [0, 1, 6, 26],
  .reg (.q (some 10) none (.mov (.tmp 1)) (.q (some 11) none (.len (.tmp 10)) (.q (some 6) none (.mov (.tmp 11)) .done))) false 18 [0, 1, 6],
  .reg (.q (some 4) none (.mov (.const (.slice none 0 0))) (.q (some 5) none (.mov (.const (.int .i64 0))) .done)) false 19 [0, 1]
  ]
theorem c33_ok : cfgL Try.prog 33 = some (50, 20, c33.map Vc.Node.bare) := by kernel_rfl
/- strongbox/strongboxref11.PayMulti: entry 18 -/
def c34 : List Vc.Node := [
  .ret [.t 4, .t 5],
  .ret [.t 4, .t 5],
  .reg (.q (some 50) none (.mov (.tmp 6)) (.q (some 51) none (.mov (.tmp 1)) (.q (some 52) none (.len (.tmp 51)) (.q (some 53) none (.bin .add (.const (.int .i64 80)) (.tmp 52)) (.q (some 54) none (.cvi .u8 (.tmp 53)) (.l (some 55) none (.bldS 5 1 [(.tmp 54), (.const (.int .u8 174))]) [] (.l (some 56) none (.app 5 1 1 [(1, (.int .u8 0))] (.tmp 50) (.tmp 55)) [] (.q (some 4) none (.mov (.tmp 56)) (.q (some 5) none (.mov (.const (.int .i64 0))) .done))))))))) false 1 [4, 5],
  .jmp 11,
  .reg (.q (some 34) none (.mov (.tmp 7)) (.q (some 35) none (.bin .add (.tmp 34) (.const (.int .i64 1))) (.q (some 7) none (.mov (.tmp 35)) .done))) false 3 [1, 6, 7],
  .reg (.q (some 42) none (.mov (.tmp 6)) (.q (some 45) none (.mov (.tmp 1)) (.q (some 46) none (.mov (.tmp 7)) (.q (some 47) none (.iadrS 1 (.tmp 45) (.tmp 46)) (.q (some 48) none (.ld1 (.tmp 47)) (.l (some 43) none (.bldS 5 1 [(.const (.int .u8 33))]) [⟨48, none, (.ld1 (.tmp 47))⟩] (.l (some 44) none (.app 5 1 1 [(1, (.int .u8 0))] (.tmp 42) (.tmp 43)) [⟨48, none, (.ld1 (.tmp 47))⟩] (.l (some 49) none (.app 5 1 1 [(1, (.int .u8 0))] (.tmp 44) (.tmp 48)) [] (.q (some 6) none (.mov (.tmp 49)) .done))))))))) true 4 [1, 6, 7],
  .ret [.t 4, .t 5],
  .reg (.q (some 4) none (.mov (.const (.slice none 0 0))) (.q (some 5) none (.mov (.const (.int .i64 3))) .done)) false 6 [4, 5],
  .cnd (.tmp 41) 7 5,
  .reg (.q (some 36) none (.mov (.tmp 1)) (.q (some 37) none (.mov (.tmp 7)) (.q (some 38) none (.iadrS 1 (.tmp 36) (.tmp 37)) (.q (some 39) none (.ld1 (.tmp 38)) (.q (some 40) none (.len (.tmp 39)) (.q (some 41) none (.bin .neq (.tmp 40) (.const (.int .i64 33))) .done)))))) false 8 [1, 6, 7, 41],
  .cnd (.tmp 33) 9 2,
  .reg (.q (some 30) none (.mov (.tmp 7)) (.q (some 31) none (.mov (.tmp 1)) (.q (some 32) none (.len (.tmp 31)) (.q (some 33) none (.bin .lss (.tmp 30) (.tmp 32)) .done)))) false 10 [1, 6, 7, 33],
  .reg (.q (some 7) none (.mov (.const (.int .i64 0))) .done) false 11 [1, 6, 7],
  .reg (.q (some 26) none (.mov (.tmp 0)) (.q (some 27) none (.bin .add (.const (.int .i64 80)) (.tmp 26)) (.q (some 28) none (.cvi .u8 (.tmp 27)) (.l (some 29) none (.bldS 5 1 [(.tmp 28)]) [] (.q (some 6) none (.mov (.tmp 29)) .done))))) false 12 [1, 6],
  .ret [.t 4, .t 5],
  .reg (.q (some 4) none (.mov (.const (.slice none 0 0))) (.q (some 5) none (.mov (.const (.int .i64 1))) .done)) false 14 [4, 5],
  .cnd (.tmp 25) 15 13,
  .reg (.q (some 8) none (.mov (.tmp 1)) (.q (some 9) none (.len (.tmp 8)) (.q (some 10) none (.bin .lss (.tmp 9) (.const (.int .i64 1))) (.q (some 11) none (.mov (.tmp 10)) (.q (some 12) (some (11, false)) (.mov (.tmp 1)) (.q (some 13) (some (11, false)) (.len (.tmp 12)) (.q (some 14) (some (11, false)) (.bin .gtr (.tmp 13) (.const (.int .i64 16))) (.q (some 15) none (.pick (.tmp 11) (.const (.bool true)) (.tmp 14)) (.q (some 16) none (.mov (.tmp 15)) (.q (some 17) (some (16, false)) (.mov (.tmp 0)) (.q (some 18) (some (16, false)) (.bin .lss (.tmp 17) (.const (.int .i64 1))) (.q (some 19) none (.pick (.tmp 16) (.const (.bool true)) (.tmp 18)) (.q (some 20) none (.mov (.tmp 19)) (.q (some 21) (some (20, false)) (.mov (.tmp 0)) (.q (some 22) (some (20, false)) (.mov (.tmp 1)) (.q (some 23) (some (20, false)) (.len (.tmp 22)) (.q (some 24) (some (20, false)) (.bin .gtr (.tmp 21) (.tmp 23)) (.q (some 25) none (.pick (.tmp 20) (.const (.bool true)) (.tmp 24)) .done)))))))))))))))))) false 16 [0, 1, 25],
  .reg (.q (some 4) none (.mov (.const (.slice none 0 0))) (.q (some 5) none (.mov (.const (.int .i64 0))) .done)) false 17 [0, 1]
  ]
theorem c34_ok : cfgL Try.prog 34 = some (57, 18, c34.map Vc.Node.bare) := by kernel_rfl
/- strongbox/script.PayKey: entry 3 -/
def c35 : List Vc.Node := [
  .ret [.t 2],
  .ret [.t 2],
  .reg (.l (some 3) none (.bldS 5 1 [(.const (.int .u8 118)), (.const (.int .u8 169)), (.const (.int .u8 20))]) [] (.q (some 4) none (.slcA 20 1 (.tmp 1) none none) (.l (some 5) none (.app 5 1 1 [(1, (.int .u8 0))] (.tmp 3) (.tmp 4)) [] (.l (some 6) none (.bldS 5 1 [(.const (.int .u8 136)), (.const (.int .u8 172))]) [] (.l (some 7) none (.app 5 1 1 [(1, (.int .u8 0))] (.tmp 5) (.tmp 6)) [] (.q (some 2) none (.mov (.tmp 7)) .done)))))) false 1 [2],
  .reg (.l (some 1) none (.box 60 (.tmp 0)) [] (.q (some 2) none (.mov (.const (.slice none 0 0))) .done)) false 2 [1]
  ]
theorem c35_ok : cfgL Try.prog 35 = some (8, 3, c35.map Vc.Node.bare) := by kernel_rfl
/- strongbox/script.PayScript: entry 3 -/
def c36 : List Vc.Node := [
  .ret [.t 2],
  .ret [.t 2],
  .reg (.l (some 3) none (.bldS 5 1 [(.const (.int .u8 169)), (.const (.int .u8 20))]) [] (.q (some 4) none (.slcA 20 1 (.tmp 1) none none) (.l (some 5) none (.app 5 1 1 [(1, (.int .u8 0))] (.tmp 3) (.tmp 4)) [] (.l (some 6) none (.bldS 5 1 [(.const (.int .u8 135))]) [] (.l (some 7) none (.app 5 1 1 [(1, (.int .u8 0))] (.tmp 5) (.tmp 6)) [] (.q (some 2) none (.mov (.tmp 7)) .done)))))) false 1 [2],
  .reg (.l (some 1) none (.box 60 (.tmp 0)) [] (.q (some 2) none (.mov (.const (.slice none 0 0))) .done)) false 2 [1]
  ]
theorem c36_ok : cfgL Try.prog 36 = some (8, 3, c36.map Vc.Node.bare) := by kernel_rfl
/- strongbox/strongboxref11.PayKey: entry 3 -/
def c37 : List Vc.Node := [
  .ret [.t 2],
  .ret [.t 2],
  .reg (.l (some 3) none (.bldS 5 1 [(.const (.int .u8 118)), (.const (.int .u8 169)), (.const (.int .u8 20))]) [] (.q (some 4) none (.mov (.tmp 0)) (.l (some 5) none (.app 5 1 1 [(1, (.int .u8 0))] (.tmp 3) (.tmp 4)) [] (.l (some 6) none (.bldS 5 1 [(.const (.int .u8 136)), (.const (.int .u8 172))]) [] (.l (some 7) none (.app 5 1 1 [(1, (.int .u8 0))] (.tmp 5) (.tmp 6)) [] (.q (some 2) none (.mov (.tmp 7)) .done)))))) false 1 [2],
  .reg (.q (some 2) none (.mov (.const (.slice none 0 0))) .done) false 2 [0]
  ]
theorem c37_ok : cfgL Try.prog 37 = some (8, 3, c37.map Vc.Node.bare) := by kernel_rfl
/- strongbox/strongboxref11.PayScript: entry 3 -/
def c38 : List Vc.Node := [
  .ret [.t 2],
  .ret [.t 2],
  .reg (.l (some 3) none (.bldS 5 1 [(.const (.int .u8 169)), (.const (.int .u8 20))]) [] (.q (some 4) none (.mov (.tmp 0)) (.l (some 5) none (.app 5 1 1 [(1, (.int .u8 0))] (.tmp 3) (.tmp 4)) [] (.l (some 6) none (.bldS 5 1 [(.const (.int .u8 135))]) [] (.l (some 7) none (.app 5 1 1 [(1, (.int .u8 0))] (.tmp 5) (.tmp 6)) [] (.q (some 2) none (.mov (.tmp 7)) .done)))))) false 1 [2],
  .reg (.q (some 2) none (.mov (.const (.slice none 0 0))) .done) false 2 [0]
  ]
theorem c38_ok : cfgL Try.prog 38 = some (8, 3, c38.map Vc.Node.bare) := by kernel_rfl
/- strongbox/script.PayWitness: entry 11 -/
def c39 : List Vc.Node := [
  .ret [.t 4, .t 5],
  .ret [.t 4, .t 5],
  .reg (.q (some 22) none (.mov (.tmp 0)) (.l (some 23) none (.call 62 [(.tmp 22)]) [] (.q (some 24) none (.mov (.tmp 1)) (.q (some 25) none (.len (.tmp 24)) (.q (some 26) none (.cvi .u8 (.tmp 25)) (.l (some 27) none (.bldS 5 1 [(.tmp 23), (.tmp 26)]) [] (.q (some 28) none (.mov (.tmp 1)) (.l (some 29) none (.app 5 1 1 [(1, (.int .u8 0))] (.tmp 27) (.tmp 28)) [] (.q (some 4) none (.mov (.tmp 29)) (.q (some 5) none (.mov (.const (.int .i64 0))) .done)))))))))) false 1 [4, 5],
  .ret [.t 4, .t 5],
  .reg (.q (some 4) none (.mov (.const (.slice none 0 0))) (.q (some 5) none (.mov (.const (.int .i64 1))) .done)) false 3 [4, 5],
  .ret [.t 4, .t 5],
  .reg (.q (some 4) none (.mov (.const (.slice none 0 0))) (.q (some 5) none (.mov (.const (.int .i64 2))) .done)) false 5 [4, 5],
  .cnd (.tmp 13) 6 2,
  .reg (.q (some 14) none (.mov (.tmp 1)) (.q (some 15) none (.len (.tmp 14)) (.q (some 16) none (.bin .lss (.tmp 15) (.const (.int .i64 2))) (.q (some 17) none (.mov (.tmp 16)) (.q (some 18) (some (17, false)) (.mov (.tmp 1)) (.q (some 19) (some (17, false)) (.len (.tmp 18)) (.q (some 20) (some (17, false)) (.bin .gtr (.tmp 19) (.const (.int .i64 40))) (.q (some 21) none (.pick (.tmp 17) (.const (.bool true)) (.tmp 20)) (.q (some 13) none (.mov (.tmp 21)) .done))))))))) false 7 [0, 1, 13],
  .cnd (.tmp 6) 4 8,
  .reg (.q (some 7) none (.mov (.tmp 0)) (.q (some 8) none (.bin .lss (.tmp 7) (.const (.int .i64 0))) (.q (some 9) none (.mov (.tmp 8)) (.q (some 10) (some (9, false)) (.mov (.tmp 0)) (.q (some 11) (some (9, false)) (.bin .gtr (.tmp 10) (.const (.int .i64 16))) (.q (some 12) none (.pick (.tmp 9) (.const (.bool true)) (.tmp 11)) (.q (some 6) none (.mov (.tmp 12)) .done))))))) false 9 [0, 1, 6],
  .reg (.q (some 4) none (.mov (.const (.slice none 0 0))) (.q (some 5) none (.mov (.const (.int .i64 0))) .done)) false 10 [0, 1]
  ]
theorem c39_ok : cfgL Try.prog 39 = some (30, 11, c39.map Vc.Node.bare) := by kernel_rfl
/- strongbox/strongboxref11.PayWitness: entry 15 -/
def c40 : List Vc.Node := [
  .ret [.t 4, .t 5],
  .ret [.t 4, .t 5],
  .reg (.q (some 26) none (.mov (.tmp 6)) (.q (some 27) none (.mov (.tmp 1)) (.q (some 28) none (.len (.tmp 27)) (.q (some 29) none (.cvi .u8 (.tmp 28)) (.l (some 30) none (.bldS 5 1 [(.tmp 26), (.tmp 29)]) [] (.q (some 31) none (.mov (.tmp 1)) (.l (some 32) none (.app 5 1 1 [(1, (.int .u8 0))] (.tmp 30) (.tmp 31)) [] (.q (some 4) none (.mov (.tmp 32)) (.q (some 5) none (.mov (.const (.int .i64 0))) .done))))))))) false 1 [4, 5],
  .reg (.q (some 23) none (.mov (.tmp 0)) (.q (some 24) none (.bin .add (.const (.int .i64 80)) (.tmp 23)) (.q (some 25) none (.cvi .u8 (.tmp 24)) (.q (some 6) none (.mov (.tmp 25)) .done)))) false 2 [1, 6],
  .cnd (.tmp 22) 3 2,
  .reg (.q (some 21) none (.mov (.tmp 0)) (.q (some 22) none (.bin .gtr (.tmp 21) (.const (.int .i64 0))) .done)) false 4 [0, 1, 6, 22],
  .reg (.q (some 6) none (.mov (.const (.int .u8 0))) .done) false 5 [0, 1, 6],
  .ret [.t 4, .t 5],
  .reg (.q (some 4) none (.mov (.const (.slice none 0 0))) (.q (some 5) none (.mov (.const (.int .i64 2))) .done)) false 7 [4, 5],
  .cnd (.tmp 20) 8 6,
  .reg (.q (some 13) none (.mov (.tmp 1)) (.q (some 14) none (.len (.tmp 13)) (.q (some 15) none (.bin .lss (.tmp 14) (.const (.int .i64 2))) (.q (some 16) none (.mov (.tmp 15)) (.q (some 17) (some (16, false)) (.mov (.tmp 1)) (.q (some 18) (some (16, false)) (.len (.tmp 17)) (.q (some 19) (some (16, false)) (.bin .gtr (.tmp 18) (.const (.int .i64 40))) (.q (some 20) none (.pick (.tmp 16) (.const (.bool true)) (.tmp 19)) .done)))))))) false 9 [0, 1, 20],
  .ret [.t 4, .t 5],
  .reg (.q (some 4) none (.mov (.const (.slice none 0 0))) (.q (some 5) none (.mov (.const (.int .i64 1))) .done)) false 11 [4, 5],
  .cnd (.tmp 12) 12 10,
  .reg (.q (some 7) none (.mov (.tmp 0)) (.q (some 8) none (.bin .lss (.tmp 7) (.const (.int .i64 0))) (.q (some 9) none (.mov (.tmp 8)) (.q (some 10) (some (9, false)) (.mov (.tmp 0)) (.q (some 11) (some (9, false)) (.bin .gtr (.tmp 10) (.const (.int .i64 16))) (.q (some 12) none (.pick (.tmp 9) (.const (.bool true)) (.tmp 11)) .done)))))) false 13 [0, 1, 12],
  .reg (.q (some 4) none (.mov (.const (.slice none 0 0))) (.q (some 5) none (.mov (.const (.int .i64 0))) .done)) false 14 [0, 1]
  ]
theorem c40_ok : cfgL Try.prog 40 = some (33, 15, c40.map Vc.Node.bare) := by kernel_rfl
/- strongbox/wire.Open: entry 3 -/
def c41 : List Vc.Node := [
  .ret [.t 2],
  .ret [.t 2],
  .reg (.q (some 3) none (.mov (.tmp 0)) (.l (some 4) none (.call 54 [(.tmp 3)]) [] (.q (some 5) none (.bld [.x 1 (.tmp 4), .z [(1, (.int .i64 0))]]) (.l (some 6) none (.box 92 (.tmp 5)) [] (.q (some 2) none (.mov (.tmp 6)) .done))))) false 1 [2],
  .reg (.q (some 2) none (.mov (.const (.pointer none))) .done) false 2 [0]
  ]
theorem c41_ok : cfgL Try.prog 41 = some (7, 3, c41.map Vc.Node.bare) := by kernel_rfl
/- (*strongbox/wire.Reader).Left: entry 3 -/
def c42 : List Vc.Node := [
  .ret [.t 2],
  .ret [.t 2],
  .reg (.q (some 3) none (.mov (.tmp 0)) (.q (some 4) none (.nc (.tmp 3)) (.q (some 5) none (.fadr 0 (.tmp 4)) (.q (some 6) none (.ld1 (.tmp 5)) (.q (some 7) none (.len (.tmp 6)) (.q (some 2) none (.mov (.tmp 7)) .done)))))) false 1 [2],
  .reg (.q (some 2) none (.mov (.const (.int .i64 0))) .done) false 2 [0]
  ]
theorem c42_ok : cfgL Try.prog 42 = some (8, 3, c42.map Vc.Node.bare) := by kernel_rfl
/- (*strongbox/wire.Reader).Err: entry 3 -/
def c43 : List Vc.Node := [
  .ret [.t 2],
  .ret [.t 2],
  .reg (.q (some 3) none (.mov (.tmp 0)) (.q (some 4) none (.nc (.tmp 3)) (.q (some 5) none (.fadr 1 (.tmp 4)) (.q (some 6) none (.ld1 (.tmp 5)) (.q (some 2) none (.mov (.tmp 6)) .done))))) false 1 [2],
  .reg (.q (some 2) none (.mov (.const (.int .i64 0))) .done) false 2 [0]
  ]
theorem c43_ok : cfgL Try.prog 43 = some (7, 3, c43.map Vc.Node.bare) := by kernel_rfl
/- strongbox/script.op: entry 20 -/
def c44 : List Vc.Node := [
  .ret [.cN 2 2],
  .ret [.cN 2 2],
  .reg (.q (some 42) none (.ldN 2 (.tmp 3)) (.l none none (.stN 2 (.tmp 2) (.tmp 42)) [] .done)) false 1 [2],
  .reg (.q (some 38) none (.mov (.tmp 0)) (.q (some 39) none (.mov (.tmp 4)) (.l (some 40) none (.call 66 [(.tmp 38), (.tmp 39)]) [] (.q (some 41) none (.fadr 1 (.tmp 3)) (.l none none (.st1 (.tmp 41) (.tmp 40)) [] .done))))) false 2 [2, 3],
  .cnd (.tmp 37) 3 2,
  .reg (.q (some 36) none (.mov (.tmp 4)) (.q (some 37) none (.bin .gtr (.tmp 36) (.const (.int .i64 0))) .done)) false 4 [0, 2, 3, 4, 37],
  .reg (.q (some 12) none (.fadr 0 (.tmp 3)) (.q (some 13) none (.ld1 (.tmp 12)) (.q (some 14) none (.cvi .i64 (.tmp 13)) (.q (some 4) none (.mov (.tmp 14)) .done)))) false 5 [0, 2, 3, 4],
  .reg (.q (some 19) none (.mov (.tmp 0)) (.l (some 20) none (.call 63 [(.tmp 19)]) [] (.q (some 21) none (.cvi .i64 (.tmp 20)) (.q (some 4) none (.mov (.tmp 21)) .done)))) false 5 [0, 2, 3, 4],
  .reg (.q (some 26) none (.mov (.tmp 0)) (.l (some 27) none (.call 64 [(.tmp 26)]) [] (.q (some 28) none (.cvi .i64 (.tmp 27)) (.q (some 4) none (.mov (.tmp 28)) .done)))) false 5 [0, 2, 3, 4],
  .reg (.q (some 33) none (.mov (.tmp 0)) (.l (some 34) none (.call 65 [(.tmp 33)]) [] (.q (some 35) none (.cvi .i64 (.tmp 34)) (.q (some 4) none (.mov (.tmp 35)) .done)))) false 5 [0, 2, 3, 4],
  .cnd (.tmp 29) 9 5,
  .reg (.q (some 30) none (.fadr 0 (.tmp 3)) (.q (some 31) none (.ld1 (.tmp 30)) (.q (some 32) none (.bin .eql (.tmp 31) (.const (.int .u8 78))) (.q (some 29) none (.mov (.tmp 32)) .done)))) false 10 [0, 2, 3, 4, 29],
  .cnd (.tmp 22) 8 11,
  .reg (.q (some 23) none (.fadr 0 (.tmp 3)) (.q (some 24) none (.ld1 (.tmp 23)) (.q (some 25) none (.bin .eql (.tmp 24) (.const (.int .u8 77))) (.q (some 22) none (.mov (.tmp 25)) .done)))) false 12 [0, 2, 3, 4, 22],
  .cnd (.tmp 15) 7 13,
  .reg (.q (some 16) none (.fadr 0 (.tmp 3)) (.q (some 17) none (.ld1 (.tmp 16)) (.q (some 18) none (.bin .eql (.tmp 17) (.const (.int .u8 76))) (.q (some 15) none (.mov (.tmp 18)) .done)))) false 14 [0, 2, 3, 4, 15],
  .cnd (.tmp 8) 6 15,
  .reg (.q (some 9) none (.fadr 0 (.tmp 3)) (.q (some 10) none (.ld1 (.tmp 9)) (.q (some 11) none (.bin .lss (.tmp 10) (.const (.int .u8 76))) (.q (some 8) none (.mov (.tmp 11)) .done)))) false 16 [0, 2, 3, 4, 8],
  .reg (.q (some 4) none (.mov (.const (.int .i64 0))) .done) false 17 [0, 2, 3, 4],
  .reg (.q (some 5) none (.mov (.tmp 0)) (.l (some 6) none (.call 63 [(.tmp 5)]) [] (.q (some 7) none (.bld [.x 1 (.tmp 6), .z [(1, (.slice none 0 0))]]) (.l (some 3) none (.alloc 37 [(1, (.int .u8 0)), (1, (.slice none 0 0))]) [] (.l none none (.stN 2 (.tmp 3) (.tmp 7)) [] .done))))) false 18 [0, 2, 3],
  .reg (.l (some 2) none (.alloc 37 [(1, (.int .u8 0)), (1, (.slice none 0 0))]) [] .done) false 19 [0, 2]
  ]
theorem c44_ok : cfgL Try.prog 44 = some (43, 20, c44.map Vc.Node.bare) := by kernel_rfl
/- strongbox/strongboxref01.Value: entry 10 -/
def c45 : List Vc.Node := [
  .ret [.t 2],
  .ret [.t 2],
  .reg (.q (some 20) none (.mov (.tmp 3)) (.q (some 2) none (.mov (.tmp 20)) .done)) false 1 [2],
  .jmp 7,
  .reg (.q (some 10) none (.mov (.tmp 4)) (.q (some 11) none (.bin .sub (.tmp 10) (.const (.int .i64 1))) (.q (some 4) none (.mov (.tmp 11)) .done))) false 3 [0, 3, 4],
  .reg (.q (some 12) none (.mov (.tmp 3)) (.q (some 13) none (.bin .mul (.tmp 12) (.const (.int .u64 256))) (.q (some 14) none (.mov (.tmp 0)) (.q (some 15) none (.mov (.tmp 4)) (.q (some 16) none (.iadrS 1 (.tmp 14) (.tmp 15)) (.q (some 17) none (.ld1 (.tmp 16)) (.q (some 18) none (.cvi .u64 (.tmp 17)) (.q (some 19) none (.bin .add (.tmp 13) (.tmp 18)) (.q (some 3) none (.mov (.tmp 19)) .done))))))))) false 4 [0, 3, 4],
  .cnd (.tmp 9) 5 2,
  .reg (.q (some 8) none (.mov (.tmp 4)) (.q (some 9) none (.bin .geq (.tmp 8) (.const (.int .i64 0))) .done)) false 6 [0, 3, 4, 9],
  .reg (.q (some 5) none (.mov (.tmp 0)) (.q (some 6) none (.len (.tmp 5)) (.q (some 7) none (.bin .sub (.tmp 6) (.const (.int .i64 1))) (.q (some 4) none (.mov (.tmp 7)) .done)))) false 7 [0, 3, 4],
  .reg (.q (some 3) none (.mov (.const (.int .u64 0))) .done) false 8 [0, 3],
  .reg (.q (some 2) none (.mov (.const (.int .u64 0))) .done) false 9 [0]
  ]
theorem c45_ok : cfgL Try.prog 45 = some (21, 10, c45.map Vc.Node.bare) := by kernel_rfl
/- slices.ContainsFunc[[]strongbox/script.Op,strongbox/script.Op]: entry 3 -/
def c46 : List Vc.Node := [
  .ret [.t 4],
  .ret [.t 4],
  .reg (.q (some 5) none (.mov (.tmp 0)) (.q (some 6) none (.mov (.tmp 1)) (.l (some 7) none (.call 67 [(.tmp 5), (.tmp 6)]) [] (.q (some 8) none (.bin .geq (.tmp 7) (.const (.int .i64 0))) (.q (some 4) none (.mov (.tmp 8)) .done))))) false 1 [4],
  .reg (.q (some 4) none (.mov (.const (.bool false))) .done) false 2 [0, 1]
  ]
theorem c46_ok : cfgL Try.prog 46 = some (9, 3, c46.map Vc.Node.bare) := by kernel_rfl
/- strongbox/script.Pushes$1: entry 3 -/
def c47 : List Vc.Node := [
  .ret [.t 2],
  .ret [.t 2],
  .reg (.q (some 3) none (.fadr 0 (.tmp 1)) (.q (some 4) none (.ld1 (.tmp 3)) (.q (some 5) none (.bin .gtr (.tmp 4) (.const (.int .u8 96))) (.q (some 2) none (.mov (.tmp 5)) .done)))) false 1 [2],
  .reg (.l (some 1) none (.box 37 (.tmp 0)) [] (.q (some 2) none (.mov (.const (.bool false))) .done)) false 2 [1]
  ]
theorem c47_ok : cfgL Try.prog 47 = some (6, 3, c47.map Vc.Node.bare) := by kernel_rfl
/- (*strongbox/wire.Writer).U8: entry 1 -/
def c48 : List Vc.Node := [
  .ret [],
  .reg (.q (some 4) none (.mov (.tmp 0)) (.q (some 5) none (.mov (.tmp 1)) (.q (some 6) none (.cvi .u64 (.tmp 5)) (.l (some 7) none (.call 68 [(.tmp 4), (.tmp 6), (.const (.int .i64 1))]) [] .done)))) false 0 []
  ]
theorem c48_ok : cfgL Try.prog 48 = some (8, 1, c48.map Vc.Node.bare) := by kernel_rfl
/- (*strongbox/wire.Writer).Raw: entry 1 -/
def c49 : List Vc.Node := [
  .ret [],
  .reg (.q (some 4) none (.mov (.tmp 0)) (.q (some 5) none (.mov (.tmp 0)) (.q (some 6) none (.nc (.tmp 5)) (.q (some 7) none (.fadr 0 (.tmp 6)) (.q (some 8) none (.ld1 (.tmp 7)) (.q (some 9) none (.mov (.tmp 1)) (.l (some 10) none (.app 5 1 1 [(1, (.int .u8 0))] (.tmp 8) (.tmp 9)) [] (.q (some 11) none (.nc (.tmp 4)) (.q (some 12) none (.fadr 0 (.tmp 11)) (.l none none (.st1 (.tmp 12) (.tmp 10)) [] .done)))))))))) false 0 []
  ]
theorem c49_ok : cfgL Try.prog 49 = some (13, 1, c49.map Vc.Node.bare) := by kernel_rfl
/- (*strongbox/wire.Writer).U16: entry 1 -/
def c50 : List Vc.Node := [
  .ret [],
  .reg (.q (some 4) none (.mov (.tmp 0)) (.q (some 5) none (.mov (.tmp 1)) (.q (some 6) none (.cvi .u64 (.tmp 5)) (.l (some 7) none (.call 68 [(.tmp 4), (.tmp 6), (.const (.int .i64 2))]) [] .done)))) false 0 []
  ]
theorem c50_ok : cfgL Try.prog 50 = some (8, 1, c50.map Vc.Node.bare) := by kernel_rfl
/- (*strongbox/wire.Writer).U32: entry 1 -/
def c51 : List Vc.Node := [
  .ret [],
  .reg (.q (some 4) none (.mov (.tmp 0)) (.q (some 5) none (.mov (.tmp 1)) (.q (some 6) none (.cvi .u64 (.tmp 5)) (.l (some 7) none (.call 68 [(.tmp 4), (.tmp 6), (.const (.int .i64 4))]) [] .done)))) false 0 []
  ]
theorem c51_ok : cfgL Try.prog 51 = some (8, 1, c51.map Vc.Node.bare) := by kernel_rfl
/- (*strongbox/wire.Writer).Out: entry 3 -/
def c52 : List Vc.Node := [
  .ret [.t 2],
  .ret [.t 2],
  .reg (.q (some 3) none (.mov (.tmp 0)) (.q (some 4) none (.nc (.tmp 3)) (.q (some 5) none (.fadr 0 (.tmp 4)) (.q (some 6) none (.ld1 (.tmp 5)) (.l (some 7) none (.call 54 [(.tmp 6)]) [] (.q (some 2) none (.mov (.tmp 7)) .done)))))) false 1 [2],
  .reg (.q (some 2) none (.mov (.const (.slice none 0 0))) .done) false 2 [0]
  ]
theorem c52_ok : cfgL Try.prog 52 = some (8, 3, c52.map Vc.Node.bare) := by kernel_rfl
/- strongbox/strongboxref01.Low: entry 11 -/
def c53 : List Vc.Node := [
  .ret [.t 4],
  .ret [.t 4],
  .reg (.q (some 20) none (.mov (.tmp 5)) (.q (some 4) none (.mov (.tmp 20)) .done)) false 1 [4],
  .jmp 8,
  .reg (.q (some 10) none (.mov (.tmp 6)) (.q (some 11) none (.bin .add (.tmp 10) (.const (.int .i64 1))) (.q (some 6) none (.mov (.tmp 11)) .done))) false 3 [0, 1, 5, 6],
  .reg (.q (some 18) none (.mov (.tmp 0)) (.q (some 19) none (.bin .quo (.tmp 18) (.const (.int .u64 256))) (.q (some 0) none (.mov (.tmp 19)) .done))) false 4 [0, 1, 5, 6],
  .reg (.q (some 12) none (.mov (.tmp 5)) (.q (some 13) none (.mov (.tmp 0)) (.q (some 14) none (.bin .rem (.tmp 13) (.const (.int .u64 256))) (.q (some 15) none (.cvi .u8 (.tmp 14)) (.l (some 16) none (.bldS 5 1 [(.tmp 15)]) [] (.l (some 17) none (.app 5 1 1 [(1, (.int .u8 0))] (.tmp 12) (.tmp 16)) [] (.q (some 5) none (.mov (.tmp 17)) .done))))))) false 5 [0, 1, 5, 6],
  .cnd (.tmp 9) 6 2,
  .reg (.q (some 7) none (.mov (.tmp 6)) (.q (some 8) none (.mov (.tmp 1)) (.q (some 9) none (.bin .lss (.tmp 7) (.tmp 8)) .done))) false 7 [0, 1, 5, 6, 9],
  .reg (.q (some 6) none (.mov (.const (.int .i64 0))) .done) false 8 [0, 1, 5, 6],
  .reg (.q (some 5) none (.mov (.const (.slice none 0 0))) .done) false 9 [0, 1, 5],
  .reg (.q (some 4) none (.mov (.const (.slice none 0 0))) .done) false 10 [0, 1]
  ]
theorem c53_ok : cfgL Try.prog 53 = some (21, 11, c53.map Vc.Node.bare) := by kernel_rfl
/- bytes.Clone: entry 7 -/
def c54 : List Vc.Node := [
  .ret [.t 2],
  .ret [.t 2],
  .reg (.l (some 5) none (.bldS 5 1 []) [] (.q (some 6) none (.mov (.tmp 0)) (.l (some 7) none (.app 5 1 1 [(1, (.int .u8 0))] (.tmp 5) (.tmp 6)) [] (.q (some 2) none (.mov (.tmp 7)) .done)))) false 1 [2],
  .ret [.t 2],
  .reg (.q (some 2) none (.mov (.const (.slice none 0 0))) .done) false 3 [2],
  .cnd (.tmp 4) 4 2,
  .reg (.q (some 3) none (.mov (.tmp 0)) (.q (some 4) none (.eqS false (.tmp 3) (.const (.slice none 0 0))) .done)) false 5 [0, 4],
  .reg (.q (some 2) none (.mov (.const (.slice none 0 0))) .done) false 6 [0]
  ]
theorem c54_ok : cfgL Try.prog 54 = some (8, 7, c54.map Vc.Node.bare) := by kernel_rfl
/- strongbox/script.between: entry 5 -/
def c55 : List Vc.Node := [
  .ret [.t 8, .t 9],
  .ret [.t 8, .t 9],
  .reg (.q (some 24) none (.mov (.tmp 0)) (.q (some 25) none (.mov (.tmp 10)) (.q (some 26) none (.mov (.tmp 25)) (.q (some 27) (some (26, true)) (.mov (.tmp 11)) (.q (some 28) none (.pick (.tmp 26) (.tmp 27) (.const (.bool false))) (.q (some 29) none (.mov (.tmp 28)) (.q (some 30) (some (29, true)) (.mov (.tmp 0)) (.q (some 31) (some (29, true)) (.len (.tmp 30)) (.q (some 32) (some (29, true)) (.mov (.tmp 3)) (.q (some 33) (some (29, true)) (.bin .eql (.tmp 31) (.tmp 32)) (.q (some 34) none (.pick (.tmp 29) (.tmp 33) (.const (.bool false))) (.q (some 8) none (.mov (.tmp 24)) (.q (some 9) none (.mov (.tmp 34)) .done))))))))))))) false 1 [8, 9],
  .reg (.q (some 19) none (.mov (.tmp 0)) (.q (some 20) none (.mov (.tmp 2)) (.l (some 21) none (.call 69 [(.tmp 19), (.tmp 20)]) [] (.q (some 18) none (.mov (.tmp 21)) (.q (some 22) none (.ext 0 (.tmp 18)) (.q (some 23) none (.ext 1 (.tmp 18)) (.q (some 0) none (.mov (.tmp 22)) (.q (some 11) none (.mov (.tmp 23)) .done)))))))) false 2 [0, 3, 10, 11],
  .reg (.q (some 13) none (.mov (.tmp 0)) (.q (some 14) none (.mov (.tmp 1)) (.l (some 15) none (.call 57 [(.tmp 13), (.tmp 14)]) [] (.q (some 12) none (.mov (.tmp 15)) (.q (some 16) none (.ext 0 (.tmp 12)) (.q (some 17) none (.ext 1 (.tmp 12)) (.q (some 0) none (.mov (.tmp 16)) (.q (some 10) none (.mov (.tmp 17)) .done)))))))) false 3 [0, 2, 3, 10],
  .reg (.q (some 8) none (.mov (.const (.slice none 0 0))) (.q (some 9) none (.mov (.const (.bool false))) .done)) false 4 [0, 1, 2, 3]
  ]
theorem c55_ok : cfgL Try.prog 55 = some (35, 5, c55.map Vc.Node.bare) := by kernel_rfl
/- strongbox/script.multi: entry 16 -/
def c56 : List Vc.Node := [
  .ret [.c1 2],
  .ret [.c1 2],
  .reg (.q (some 67) none (.ld1 (.tmp 6)) (.l none none (.st1 (.tmp 2) (.tmp 67)) [] .done)) false 1 [2],
  .bad,
  .reg (.q (some 54) none (.mov (.tmp 5)) (.l (some 55) none (.call 70 [(.tmp 54), (.const (.int .i64 34))]) [] .done)) false 3 [],
  .reg (.q (some 50) none (.mov (.tmp 3)) (.q (some 51) none (.cvi .u8 (.tmp 50)) (.l (some 52) none (.bldS 5 1 [(.tmp 51)]) [] (.l (some 53) none (.bldS 22 1 [(.tmp 52)]) [] (.l (some 6) none (.alloc 40 [(1, (.slice none 0 0))]) [] (.l none none (.st1 (.tmp 6) (.tmp 53)) [] .done)))))) false 4 [5],
  .ret [.c1 2],
  .reg (.l none none (.st1 (.tmp 2) (.const (.slice none 0 0))) [] .done) false 6 [2],
  .cnd (.tmp 49) 7 5,
  .reg (.q (some 36) none (.mov (.tmp 3)) (.q (some 37) none (.bin .lss (.tmp 36) (.const (.int .i64 1))) (.q (some 38) none (.mov (.tmp 37)) (.q (some 39) (some (38, false)) (.mov (.tmp 3)) (.q (some 40) (some (38, false)) (.mov (.tmp 4)) (.q (some 41) (some (38, false)) (.bin .gtr (.tmp 39) (.tmp 40)) (.q (some 42) none (.pick (.tmp 38) (.const (.bool true)) (.tmp 41)) (.q (some 43) none (.mov (.tmp 42)) (.q (some 44) (some (43, false)) (.mov (.tmp 5)) (.q (some 45) (some (43, false)) (.len (.tmp 44)) (.q (some 46) (some (43, false)) (.mov (.tmp 4)) (.q (some 47) (some (43, false)) (.bin .mul (.tmp 46) (.const (.int .i64 34))) (.q (some 48) (some (43, false)) (.bin .neq (.tmp 45) (.tmp 47)) (.q (some 49) none (.pick (.tmp 43) (.const (.bool true)) (.tmp 48)) .done)))))))))))))) false 8 [2, 3, 5, 49],
  .reg (.q (some 31) none (.mov (.tmp 0)) (.q (some 32) none (.mov (.tmp 0)) (.q (some 33) none (.len (.tmp 32)) (.q (some 34) none (.bin .sub (.tmp 33) (.const (.int .i64 2))) (.q (some 35) none (.slcS 1 (.tmp 31) (some (.const (.int .i64 1))) (some (.tmp 34))) (.q (some 5) none (.mov (.tmp 35)) .done)))))) false 9 [2, 3, 4, 5],
  .reg (.q (some 20) none (.mov (.tmp 0)) (.q (some 21) none (.iadrS 1 (.tmp 20) (.const (.int .i64 0))) (.q (some 22) none (.ld1 (.tmp 21)) (.q (some 24) none (.mov (.tmp 0)) (.q (some 25) none (.mov (.tmp 0)) (.q (some 26) none (.len (.tmp 25)) (.q (some 27) none (.bin .sub (.tmp 26) (.const (.int .i64 2))) (.q (some 28) none (.iadrS 1 (.tmp 24) (.tmp 27)) (.q (some 29) none (.ld1 (.tmp 28)) (.l (some 23) none (.call 60 [(.tmp 22)]) [⟨29, none, (.ld1 (.tmp 28))⟩] (.l (some 30) none (.call 60 [(.tmp 29)]) [] (.q (some 3) none (.mov (.tmp 23)) (.q (some 4) none (.mov (.tmp 30)) .done))))))))))))) true 10 [0, 2, 3, 4],
  .ret [.c1 2],
  .reg (.l none none (.st1 (.tmp 2) (.const (.slice none 0 0))) [] .done) false 12 [2],
  .cnd (.tmp 19) 13 11,
  .reg (.q (some 8) none (.mov (.tmp 0)) (.q (some 9) none (.len (.tmp 8)) (.q (some 10) none (.bin .lss (.tmp 9) (.const (.int .i64 3))) (.q (some 11) none (.mov (.tmp 10)) (.q (some 12) (some (11, false)) (.mov (.tmp 0)) (.q (some 13) (some (11, false)) (.mov (.tmp 0)) (.q (some 14) (some (11, false)) (.len (.tmp 13)) (.q (some 15) (some (11, false)) (.bin .sub (.tmp 14) (.const (.int .i64 1))) (.q (some 16) (some (11, false)) (.iadrS 1 (.tmp 12) (.tmp 15)) (.q (some 17) (some (11, false)) (.ld1 (.tmp 16)) (.q (some 18) (some (11, false)) (.bin .neq (.tmp 17) (.const (.int .u8 174))) (.q (some 19) none (.pick (.tmp 11) (.const (.bool true)) (.tmp 18)) .done)))))))))))) false 14 [0, 2, 19],
  .reg (.l (some 2) none (.alloc 40 [(1, (.slice none 0 0))]) [] .done) false 15 [0, 2]
  ]
theorem c56_ok : cfgL Try.prog 56 = some (68, 16, c56.map Vc.Node.bare) := by kernel_rfl
/- bytes.CutPrefix: entry 7 -/
def c57 : List Vc.Node := [
  .ret [.t 4, .t 5],
  .ret [.t 4, .t 5],
  .reg (.q (some 11) none (.mov (.tmp 0)) (.q (some 12) none (.mov (.tmp 1)) (.q (some 13) none (.len (.tmp 12)) (.q (some 14) none (.slcS 1 (.tmp 11) (some (.tmp 13)) none) (.q (some 4) none (.mov (.tmp 14)) (.q (some 5) none (.mov (.const (.bool true))) .done)))))) false 1 [4, 5],
  .ret [.t 4, .t 5],
  .reg (.q (some 10) none (.mov (.tmp 0)) (.q (some 4) none (.mov (.tmp 10)) (.q (some 5) none (.mov (.const (.bool false))) .done))) false 3 [4, 5],
  .cnd (.tmp 9) 4 2,
  .reg (.q (some 6) none (.mov (.tmp 0)) (.q (some 7) none (.mov (.tmp 1)) (.l (some 8) none (.call 71 [(.tmp 6), (.tmp 7)]) [] (.q (some 9) none (.not (.tmp 8)) .done)))) false 5 [0, 1, 9],
  .reg (.q (some 4) none (.mov (.const (.slice none 0 0))) (.q (some 5) none (.mov (.const (.bool false))) .done)) false 6 [0, 1]
  ]
theorem c57_ok : cfgL Try.prog 57 = some (15, 7, c57.map Vc.Node.bare) := by kernel_rfl
/- strongbox/strongboxref11.begins: entry 7 -/
def c58 : List Vc.Node := [
  .ret [.t 4],
  .ret [.t 4],
  .reg (.q (some 10) none (.mov (.tmp 0)) (.q (some 11) none (.mov (.tmp 1)) (.q (some 12) none (.len (.tmp 11)) (.q (some 13) none (.slcS 1 (.tmp 10) none (some (.tmp 12))) (.q (some 14) none (.mov (.tmp 1)) (.l (some 15) none (.call 17 [(.tmp 13), (.tmp 14)]) [] (.q (some 4) none (.mov (.tmp 15)) .done))))))) false 1 [4],
  .ret [.t 4],
  .reg (.q (some 4) none (.mov (.const (.bool false))) .done) false 3 [4],
  .cnd (.tmp 9) 4 2,
  .reg (.q (some 5) none (.mov (.tmp 0)) (.q (some 6) none (.len (.tmp 5)) (.q (some 7) none (.mov (.tmp 1)) (.q (some 8) none (.len (.tmp 7)) (.q (some 9) none (.bin .lss (.tmp 6) (.tmp 8)) .done))))) false 5 [0, 1, 9],
  .reg (.q (some 4) none (.mov (.const (.bool false))) .done) false 6 [0, 1]
  ]
theorem c58_ok : cfgL Try.prog 58 = some (16, 7, c58.map Vc.Node.bare) := by kernel_rfl
/- strongbox/strongboxref11.Small: entry 11 -/
def c59 : List Vc.Node := [
  .ret [.t 2],
  .ret [.t 2],
  .reg (.q (some 2) none (.mov (.const (.int .i64 (-1)))) .done) false 1 [2],
  .ret [.t 2],
  .reg (.q (some 11) none (.mov (.tmp 0)) (.q (some 12) none (.cvi .i64 (.tmp 11)) (.q (some 13) none (.bin .sub (.tmp 12) (.const (.int .i64 80))) (.q (some 2) none (.mov (.tmp 13)) .done)))) false 3 [2],
  .cnd (.tmp 10) 4 2,
  .reg (.q (some 5) none (.mov (.tmp 0)) (.q (some 6) none (.bin .geq (.tmp 5) (.const (.int .u8 81))) (.q (some 7) none (.mov (.tmp 6)) (.q (some 8) (some (7, true)) (.mov (.tmp 0)) (.q (some 9) (some (7, true)) (.bin .leq (.tmp 8) (.const (.int .u8 96))) (.q (some 10) none (.pick (.tmp 7) (.tmp 9) (.const (.bool false))) .done)))))) false 5 [0, 10],
  .ret [.t 2],
  .reg (.q (some 2) none (.mov (.const (.int .i64 0))) .done) false 7 [2],
  .cnd (.tmp 4) 8 6,
  .reg (.q (some 3) none (.mov (.tmp 0)) (.q (some 4) none (.bin .eql (.tmp 3) (.const (.int .u8 0))) .done)) false 9 [0, 4],
  .reg (.q (some 2) none (.mov (.const (.int .i64 0))) .done) false 10 [0]
  ]
theorem c59_ok : cfgL Try.prog 59 = some (14, 11, c59.map Vc.Node.bare) := by kernel_rfl
/- strongbox/script.small: entry 11 -/
def c60 : List Vc.Node := [
  .ret [.t 2],
  .ret [.t 2],
  .reg (.q (some 2) none (.mov (.const (.int .i64 (-1)))) .done) false 1 [2],
  .ret [.t 2],
  .reg (.q (some 2) none (.mov (.const (.int .i64 0))) .done) false 3 [2],
  .ret [.t 2],
  .reg (.q (some 13) none (.mov (.tmp 0)) (.q (some 14) none (.bin .sub (.tmp 13) (.const (.int .u8 81))) (.q (some 15) none (.cvi .i64 (.tmp 14)) (.q (some 16) none (.bin .add (.tmp 15) (.const (.int .i64 1))) (.q (some 2) none (.mov (.tmp 16)) .done))))) false 5 [2],
  .cnd (.tmp 6) 6 2,
  .reg (.q (some 7) none (.mov (.tmp 0)) (.q (some 8) none (.bin .geq (.tmp 7) (.const (.int .u8 81))) (.q (some 9) none (.mov (.tmp 8)) (.q (some 10) (some (9, true)) (.mov (.tmp 0)) (.q (some 11) (some (9, true)) (.bin .leq (.tmp 10) (.const (.int .u8 96))) (.q (some 12) none (.pick (.tmp 9) (.tmp 11) (.const (.bool false))) (.q (some 6) none (.mov (.tmp 12)) .done))))))) false 7 [0, 6],
  .cnd (.tmp 3) 4 8,
  .reg (.q (some 4) none (.mov (.tmp 0)) (.q (some 5) none (.bin .eql (.tmp 4) (.const (.int .u8 0))) (.q (some 3) none (.mov (.tmp 5)) .done))) false 9 [0, 3],
  .reg (.q (some 2) none (.mov (.const (.int .i64 0))) .done) false 10 [0]
  ]
theorem c60_ok : cfgL Try.prog 60 = some (17, 11, c60.map Vc.Node.bare) := by kernel_rfl
/- bytes.Equal: entry 3 -/
def c61 : List Vc.Node := [
  .ret [.t 4],
  .ret [.t 4],
  .reg (.q (some 5) none (.mov (.tmp 0)) (.q (some 6) none (.b2s (.tmp 5)) (.q (some 7) none (.mov (.tmp 1)) (.q (some 8) none (.b2s (.tmp 7)) (.q (some 9) none (.bin .eql (.tmp 6) (.tmp 8)) (.q (some 4) none (.mov (.tmp 9)) .done)))))) false 1 [4],
  .reg (.q (some 4) none (.mov (.const (.bool false))) .done) false 2 [0, 1]
  ]
theorem c61_ok : cfgL Try.prog 61 = some (10, 3, c61.map Vc.Node.bare) := by kernel_rfl
/- strongbox/script.code: entry 7 -/
def c62 : List Vc.Node := [
  .ret [.t 2],
  .ret [.t 2],
  .reg (.q (some 5) none (.mov (.tmp 0)) (.q (some 6) none (.bin .add (.const (.int .i64 81)) (.tmp 5)) (.q (some 7) none (.bin .sub (.tmp 6) (.const (.int .i64 1))) (.q (some 8) none (.cvi .u8 (.tmp 7)) (.q (some 2) none (.mov (.tmp 8)) .done))))) false 1 [2],
  .ret [.t 2],
  .reg (.q (some 2) none (.mov (.const (.int .u8 0))) .done) false 3 [2],
  .cnd (.tmp 4) 4 2,
  .reg (.q (some 3) none (.mov (.tmp 0)) (.q (some 4) none (.bin .eql (.tmp 3) (.const (.int .i64 0))) .done)) false 5 [0, 4],
  .reg (.q (some 2) none (.mov (.const (.int .u8 0))) .done) false 6 [0]
  ]
theorem c62_ok : cfgL Try.prog 62 = some (9, 7, c62.map Vc.Node.bare) := by kernel_rfl
/- (*strongbox/wire.Reader).U8: entry 3 -/
def c63 : List Vc.Node := [
  .ret [.t 2],
  .ret [.t 2],
  .reg (.q (some 3) none (.mov (.tmp 0)) (.l (some 4) none (.call 72 [(.tmp 3), (.func 73)]) [] (.q (some 2) none (.mov (.tmp 4)) .done))) false 1 [2],
  .reg (.q (some 2) none (.mov (.const (.int .u8 0))) .done) false 2 [0]
  ]
theorem c63_ok : cfgL Try.prog 63 = some (5, 3, c63.map Vc.Node.bare) := by kernel_rfl
/- (*strongbox/wire.Reader).U16: entry 3 -/
def c64 : List Vc.Node := [
  .ret [.t 2],
  .ret [.t 2],
  .reg (.q (some 3) none (.mov (.tmp 0)) (.l (some 4) none (.call 75 [(.tmp 3), (.func 76)]) [] (.q (some 2) none (.mov (.tmp 4)) .done))) false 1 [2],
  .reg (.q (some 2) none (.mov (.const (.int .u16 0))) .done) false 2 [0]
  ]
theorem c64_ok : cfgL Try.prog 64 = some (5, 3, c64.map Vc.Node.bare) := by kernel_rfl
/- (*strongbox/wire.Reader).U32: entry 3 -/
def c65 : List Vc.Node := [
  .ret [.t 2],
  .ret [.t 2],
  .reg (.q (some 3) none (.mov (.tmp 0)) (.l (some 4) none (.call 77 [(.tmp 3), (.func 78)]) [] (.q (some 2) none (.mov (.tmp 4)) .done))) false 1 [2],
  .reg (.q (some 2) none (.mov (.const (.int .u32 0))) .done) false 2 [0]
  ]
theorem c65_ok : cfgL Try.prog 65 = some (5, 3, c65.map Vc.Node.bare) := by kernel_rfl
/- (*strongbox/wire.Reader).Raw: entry 3 -/
def c66 : List Vc.Node := [
  .ret [.t 4],
  .ret [.t 4],
  .reg (.q (some 5) none (.mov (.tmp 0)) (.q (some 6) none (.mkF 80 [] [(.tmp 3)]) (.l (some 7) none (.call 79 [(.tmp 5), (.tmp 6)]) [] (.q (some 4) none (.mov (.tmp 7)) .done)))) false 1 [4],
  .reg (.l (some 3) none (.box 3 (.tmp 1)) [] (.q (some 4) none (.mov (.const (.slice none 0 0))) .done)) false 2 [0, 3]
  ]
theorem c66_ok : cfgL Try.prog 66 = some (8, 3, c66.map Vc.Node.bare) := by kernel_rfl
/- slices.IndexFunc[[]strongbox/script.Op,strongbox/script.Op]: entry 13 -/
def c67 : List Vc.Node := [
  .ret [.t 4],
  .ret [.t 4],
  .reg (.q (some 4) none (.mov (.const (.int .i64 (-1)))) .done) false 1 [4],
  .jmp 11,
  .reg (.q (some 18) none (.bin .add (.tmp 8) (.const (.int .i64 1))) (.q (some 8) none (.mov (.tmp 18)) .done)) false 3 [0, 1, 7, 8],
  .ret [.t 4],
  .reg (.q (some 17) none (.mov (.tmp 5)) (.q (some 4) none (.mov (.tmp 17)) .done)) false 5 [4],
  .cnd (.tmp 16) 6 4,
  .reg (.q (some 11) none (.mov (.tmp 1)) (.q (some 12) none (.mov (.tmp 0)) (.q (some 13) none (.mov (.tmp 5)) (.q (some 14) none (.iadrS 2 (.tmp 12) (.tmp 13)) (.q (some 15) none (.ldN 2 (.tmp 14)) (.l (some 16) none (.callv (.tmp 11) [(.tmp 15)]) [] .done)))))) false 7 [0, 1, 5, 7, 8, 16],
  .reg (.q (some 10) none (.mov (.tmp 8)) (.q (some 5) none (.mov (.tmp 10)) .done)) false 8 [0, 1, 5, 7, 8],
  .cnd (.tmp 9) 9 2,
  .reg (.q (some 9) none (.bin .lss (.tmp 8) (.tmp 7)) .done) false 10 [0, 1, 7, 8, 9],
  .reg (.q (some 6) none (.mov (.tmp 0)) (.q (some 7) none (.len (.tmp 6)) (.q (some 8) none (.mov (.const (.int .i64 0))) .done))) false 11 [0, 1, 7, 8],
  .reg (.q (some 4) none (.mov (.const (.int .i64 0))) .done) false 12 [0, 1]
  ]
theorem c67_ok : cfgL Try.prog 67 = some (19, 13, c67.map Vc.Node.bare) := by kernel_rfl
/- (*strongbox/wire.Writer).number: entry 7 -/
def c68 : List Vc.Node := [
  .ret [],
  .jmp 6,
  .reg (.q (some 22) none (.bin .add (.tmp 7) (.const (.int .i64 1))) (.q (some 7) none (.mov (.tmp 22)) .done)) false 1 [0, 1, 6, 7],
  .reg (.q (some 20) none (.mov (.tmp 1)) (.q (some 21) none (.bin .shr (.tmp 20) (.const (.int .u64 8))) (.q (some 1) none (.mov (.tmp 21)) .done))) false 2 [0, 1, 6, 7],
  .reg (.q (some 9) none (.mov (.tmp 0)) (.q (some 10) none (.mov (.tmp 0)) (.q (some 11) none (.nc (.tmp 10)) (.q (some 12) none (.fadr 0 (.tmp 11)) (.q (some 13) none (.ld1 (.tmp 12)) (.q (some 14) none (.mov (.tmp 1)) (.q (some 15) none (.cvi .u8 (.tmp 14)) (.l (some 16) none (.bldS 5 1 [(.tmp 15)]) [] (.l (some 17) none (.app 5 1 1 [(1, (.int .u8 0))] (.tmp 13) (.tmp 16)) [] (.q (some 18) none (.nc (.tmp 9)) (.q (some 19) none (.fadr 0 (.tmp 18)) (.l none none (.st1 (.tmp 19) (.tmp 17)) [] .done)))))))))))) false 3 [0, 1, 6, 7],
  .cnd (.tmp 8) 4 0,
  .reg (.q (some 8) none (.bin .lss (.tmp 7) (.tmp 6)) .done) false 5 [0, 1, 6, 7, 8],
  .reg (.q (some 6) none (.mov (.tmp 2)) (.q (some 7) none (.mov (.const (.int .i64 0))) .done)) false 6 [0, 1, 6, 7]
  ]
theorem c68_ok : cfgL Try.prog 68 = some (23, 7, c68.map Vc.Node.bare) := by kernel_rfl
/- bytes.CutSuffix: entry 7 -/
def c69 : List Vc.Node := [
  .ret [.t 4, .t 5],
  .ret [.t 4, .t 5],
  .reg (.q (some 11) none (.mov (.tmp 0)) (.q (some 12) none (.mov (.tmp 0)) (.q (some 13) none (.len (.tmp 12)) (.q (some 14) none (.mov (.tmp 1)) (.q (some 15) none (.len (.tmp 14)) (.q (some 16) none (.bin .sub (.tmp 13) (.tmp 15)) (.q (some 17) none (.slcS 1 (.tmp 11) none (some (.tmp 16))) (.q (some 4) none (.mov (.tmp 17)) (.q (some 5) none (.mov (.const (.bool true))) .done))))))))) false 1 [4, 5],
  .ret [.t 4, .t 5],
  .reg (.q (some 10) none (.mov (.tmp 0)) (.q (some 4) none (.mov (.tmp 10)) (.q (some 5) none (.mov (.const (.bool false))) .done))) false 3 [4, 5],
  .cnd (.tmp 9) 4 2,
  .reg (.q (some 6) none (.mov (.tmp 0)) (.q (some 7) none (.mov (.tmp 1)) (.l (some 8) none (.call 82 [(.tmp 6), (.tmp 7)]) [] (.q (some 9) none (.not (.tmp 8)) .done)))) false 5 [0, 1, 9],
  .reg (.q (some 4) none (.mov (.const (.slice none 0 0))) (.q (some 5) none (.mov (.const (.bool false))) .done)) false 6 [0, 1]
  ]
theorem c69_ok : cfgL Try.prog 69 = some (18, 7, c69.map Vc.Node.bare) := by kernel_rfl
/- slices.Chunk[[]byte,byte]: entry 6 -/
def c70 : List Vc.Node := [
  .ret [.t 4],
  .ret [.t 4],
  .reg (.q (some 8) none (.mkF 83 [] [(.tmp 2), (.tmp 3)]) (.q (some 4) none (.mov (.tmp 8)) .done)) false 1 [4],
  .reg (.q (some 7) none (.mif 9 (.const (.string ⟨#[99, 97, 110, 110, 111, 116, 32, 98, 101, 32, 108, 101, 115, 115, 32, 116, 104, 97, 110, 32, 49]⟩))) (.l none none (.pan (.tmp 7)) [] .done)) false 2 [2, 3],
  .cnd (.tmp 6) 3 2,
  .reg (.q (some 5) none (.ld1 (.tmp 3)) (.q (some 6) none (.bin .lss (.tmp 5) (.const (.int .i64 1))) .done)) false 4 [2, 3, 6],
  .reg (.l (some 2) none (.box 22 (.tmp 0)) [] (.l (some 3) none (.box 3 (.tmp 1)) [] (.q (some 4) none (.mov (.const .nilFunc)) .done))) false 5 [2, 3]
  ]
theorem c70_ok : cfgL Try.prog 70 = some (9, 6, c70.map Vc.Node.bare) := by kernel_rfl
/- bytes.HasPrefix: entry 3 -/
def c71 : List Vc.Node := [
  .ret [.t 4],
  .ret [.t 4],
  .reg (.q (some 5) none (.mov (.tmp 0)) (.q (some 6) none (.len (.tmp 5)) (.q (some 7) none (.mov (.tmp 1)) (.q (some 8) none (.len (.tmp 7)) (.q (some 9) none (.bin .geq (.tmp 6) (.tmp 8)) (.q (some 10) none (.mov (.tmp 9)) (.q (some 11) (some (10, true)) (.mov (.tmp 0)) (.q (some 12) (some (10, true)) (.mov (.tmp 1)) (.q (some 13) (some (10, true)) (.len (.tmp 12)) (.q (some 14) (some (10, true)) (.slcS 1 (.tmp 11) none (some (.tmp 13))) (.q (some 15) (some (10, true)) (.mov (.tmp 1)) (.l (some 16) (some (10, true)) (.call 61 [(.tmp 14), (.tmp 15)]) [] (.q (some 17) none (.pick (.tmp 10) (.tmp 16) (.const (.bool false))) (.q (some 4) none (.mov (.tmp 17)) .done)))))))))))))) false 1 [4],
  .reg (.q (some 4) none (.mov (.const (.bool false))) .done) false 2 [0, 1]
  ]
theorem c71_ok : cfgL Try.prog 71 = some (18, 3, c71.map Vc.Node.bare) := by kernel_rfl
/- strongbox/wire.try[byte]: entry 8 -/
def c72 : List Vc.Node := [
  .ret [.c1 4],
  .ret [.c1 4],
  .reg (.q (some 16) none (.mov (.tmp 1)) (.q (some 17) none (.ld1 (.tmp 2)) (.l (some 18) none (.callv (.tmp 16) [(.tmp 17)]) [] (.l none none (.st1 (.tmp 4) (.tmp 18)) [] .done)))) false 1 [4],
  .ret [.c1 4],
  .cnd (.tmp 15) 3 2,
  .reg (.q (some 11) none (.ld1 (.tmp 2)) (.q (some 12) none (.nc (.tmp 11)) (.q (some 13) none (.fadr 1 (.tmp 12)) (.q (some 14) none (.ld1 (.tmp 13)) (.q (some 15) none (.bin .neq (.tmp 14) (.const (.int .i64 0))) .done))))) false 4 [1, 2, 4, 15],
  .dfr 10 84 [(.tmp 5), (.tmp 2), (.tmp 4)] 5 [1, 2, 4],
  .reg (.q (some 6) none (.ld1 (.tmp 2)) (.q (some 7) none (.nc (.tmp 6)) (.q (some 8) none (.fadr 0 (.tmp 7)) (.q (some 9) none (.ld1 (.tmp 8)) (.l (some 5) none (.alloc 22 [(1, (.slice none 0 0))]) [] (.l none none (.st1 (.tmp 5) (.tmp 9)) [] .done)))))) false 6 [1, 2, 4, 5],
  .reg (.l (some 2) none (.box 65 (.tmp 0)) [] (.l (some 4) none (.alloc 5 [(1, (.int .u8 0))]) [] .done)) false 7 [1, 2, 4]
  ]
theorem c72_ok : cfgL Try.prog 72 = some (19, 8, c72.map Vc.Node.bare) := by kernel_rfl
/- (*strongbox/wire.Reader).U8$1: entry 3 -/
def c73 : List Vc.Node := [
  .ret [.t 2],
  .ret [.t 2],
  .reg (.q (some 3) none (.mov (.tmp 0)) (.l (some 4) none (.call 74 [(.tmp 3), (.const (.int .i64 1))]) [] (.q (some 5) none (.cvi .u8 (.tmp 4)) (.q (some 2) none (.mov (.tmp 5)) .done)))) false 1 [2],
  .reg (.q (some 2) none (.mov (.const (.int .u8 0))) .done) false 2 [0]
  ]
theorem c73_ok : cfgL Try.prog 73 = some (6, 3, c73.map Vc.Node.bare) := by kernel_rfl
/- (*strongbox/wire.Reader).number: entry 11 -/
def c74 : List Vc.Node := [
  .ret [.t 4],
  .ret [.t 4],
  .reg (.q (some 25) none (.mov (.tmp 5)) (.q (some 4) none (.mov (.tmp 25)) .done)) false 1 [4],
  .jmp 8,
  .reg (.q (some 24) none (.bin .add (.tmp 12) (.const (.int .i64 1))) (.q (some 12) none (.mov (.tmp 24)) .done)) false 3 [5, 10, 11, 12],
  .reg (.q (some 17) none (.mov (.tmp 5)) (.q (some 18) none (.mov (.tmp 7)) (.q (some 19) none (.cvi .u64 (.tmp 18)) (.q (some 20) none (.mov (.tmp 6)) (.q (some 21) none (.bin .mul (.const (.int .i64 8)) (.tmp 20)) (.q (some 22) none (.bin .shl (.tmp 19) (.tmp 21)) (.q (some 23) none (.bin .or (.tmp 17) (.tmp 22)) (.q (some 5) none (.mov (.tmp 23)) .done)))))))) false 4 [5, 10, 11, 12],
  .reg (.q (some 14) none (.mov (.tmp 12)) (.q (some 15) none (.iadrS 1 (.tmp 10) (.tmp 12)) (.q (some 16) none (.ld1 (.tmp 15)) (.q (some 6) none (.mov (.tmp 14)) (.q (some 7) none (.mov (.tmp 16)) .done))))) false 5 [5, 6, 7, 10, 11, 12],
  .cnd (.tmp 13) 6 2,
  .reg (.q (some 13) none (.bin .lss (.tmp 12) (.tmp 11)) .done) false 7 [5, 10, 11, 12, 13],
  .reg (.q (some 8) none (.mov (.tmp 0)) (.q (some 9) none (.mov (.tmp 1)) (.l (some 10) none (.call 81 [(.tmp 8), (.tmp 9)]) [] (.q (some 11) none (.len (.tmp 10)) (.q (some 12) none (.mov (.const (.int .i64 0))) .done))))) false 8 [5, 10, 11, 12],
  .reg (.q (some 5) none (.mov (.const (.int .u64 0))) .done) false 9 [0, 1, 5],
  .reg (.q (some 4) none (.mov (.const (.int .u64 0))) .done) false 10 [0, 1]
  ]
theorem c74_ok : cfgL Try.prog 74 = some (26, 11, c74.map Vc.Node.bare) := by kernel_rfl
/- strongbox/wire.try[uint16]: entry 8 -/
def c75 : List Vc.Node := [
  .ret [.c1 4],
  .ret [.c1 4],
  .reg (.q (some 16) none (.mov (.tmp 1)) (.q (some 17) none (.ld1 (.tmp 2)) (.l (some 18) none (.callv (.tmp 16) [(.tmp 17)]) [] (.l none none (.st1 (.tmp 4) (.tmp 18)) [] .done)))) false 1 [4],
  .ret [.c1 4],
  .cnd (.tmp 15) 3 2,
  .reg (.q (some 11) none (.ld1 (.tmp 2)) (.q (some 12) none (.nc (.tmp 11)) (.q (some 13) none (.fadr 1 (.tmp 12)) (.q (some 14) none (.ld1 (.tmp 13)) (.q (some 15) none (.bin .neq (.tmp 14) (.const (.int .i64 0))) .done))))) false 4 [1, 2, 4, 15],
  .dfr 10 85 [(.tmp 5), (.tmp 2), (.tmp 4)] 5 [1, 2, 4],
  .reg (.q (some 6) none (.ld1 (.tmp 2)) (.q (some 7) none (.nc (.tmp 6)) (.q (some 8) none (.fadr 0 (.tmp 7)) (.q (some 9) none (.ld1 (.tmp 8)) (.l (some 5) none (.alloc 22 [(1, (.slice none 0 0))]) [] (.l none none (.st1 (.tmp 5) (.tmp 9)) [] .done)))))) false 6 [1, 2, 4, 5],
  .reg (.l (some 2) none (.box 65 (.tmp 0)) [] (.l (some 4) none (.alloc 79 [(1, (.int .u16 0))]) [] .done)) false 7 [1, 2, 4]
  ]
theorem c75_ok : cfgL Try.prog 75 = some (19, 8, c75.map Vc.Node.bare) := by kernel_rfl
/- (*strongbox/wire.Reader).U16$1: entry 3 -/
def c76 : List Vc.Node := [
  .ret [.t 2],
  .ret [.t 2],
  .reg (.q (some 3) none (.mov (.tmp 0)) (.l (some 4) none (.call 74 [(.tmp 3), (.const (.int .i64 2))]) [] (.q (some 5) none (.cvi .u16 (.tmp 4)) (.q (some 2) none (.mov (.tmp 5)) .done)))) false 1 [2],
  .reg (.q (some 2) none (.mov (.const (.int .u16 0))) .done) false 2 [0]
  ]
theorem c76_ok : cfgL Try.prog 76 = some (6, 3, c76.map Vc.Node.bare) := by kernel_rfl
/- strongbox/wire.try[uint32]: entry 8 -/
def c77 : List Vc.Node := [
  .ret [.c1 4],
  .ret [.c1 4],
  .reg (.q (some 16) none (.mov (.tmp 1)) (.q (some 17) none (.ld1 (.tmp 2)) (.l (some 18) none (.callv (.tmp 16) [(.tmp 17)]) [] (.l none none (.st1 (.tmp 4) (.tmp 18)) [] .done)))) false 1 [4],
  .ret [.c1 4],
  .cnd (.tmp 15) 3 2,
  .reg (.q (some 11) none (.ld1 (.tmp 2)) (.q (some 12) none (.nc (.tmp 11)) (.q (some 13) none (.fadr 1 (.tmp 12)) (.q (some 14) none (.ld1 (.tmp 13)) (.q (some 15) none (.bin .neq (.tmp 14) (.const (.int .i64 0))) .done))))) false 4 [1, 2, 4, 15],
  .dfr 10 86 [(.tmp 5), (.tmp 2), (.tmp 4)] 5 [1, 2, 4],
  .reg (.q (some 6) none (.ld1 (.tmp 2)) (.q (some 7) none (.nc (.tmp 6)) (.q (some 8) none (.fadr 0 (.tmp 7)) (.q (some 9) none (.ld1 (.tmp 8)) (.l (some 5) none (.alloc 22 [(1, (.slice none 0 0))]) [] (.l none none (.st1 (.tmp 5) (.tmp 9)) [] .done)))))) false 6 [1, 2, 4, 5],
  .reg (.l (some 2) none (.box 65 (.tmp 0)) [] (.l (some 4) none (.alloc 81 [(1, (.int .u32 0))]) [] .done)) false 7 [1, 2, 4]
  ]
theorem c77_ok : cfgL Try.prog 77 = some (19, 8, c77.map Vc.Node.bare) := by kernel_rfl
/- (*strongbox/wire.Reader).U32$1: entry 3 -/
def c78 : List Vc.Node := [
  .ret [.t 2],
  .ret [.t 2],
  .reg (.q (some 3) none (.mov (.tmp 0)) (.l (some 4) none (.call 74 [(.tmp 3), (.const (.int .i64 4))]) [] (.q (some 5) none (.cvi .u32 (.tmp 4)) (.q (some 2) none (.mov (.tmp 5)) .done)))) false 1 [2],
  .reg (.q (some 2) none (.mov (.const (.int .u32 0))) .done) false 2 [0]
  ]
theorem c78_ok : cfgL Try.prog 78 = some (6, 3, c78.map Vc.Node.bare) := by kernel_rfl
/- strongbox/wire.try[[]byte]: entry 8 -/
def c79 : List Vc.Node := [
  .ret [.c1 4],
  .ret [.c1 4],
  .reg (.q (some 16) none (.mov (.tmp 1)) (.q (some 17) none (.ld1 (.tmp 2)) (.l (some 18) none (.callv (.tmp 16) [(.tmp 17)]) [] (.l none none (.st1 (.tmp 4) (.tmp 18)) [] .done)))) false 1 [4],
  .ret [.c1 4],
  .cnd (.tmp 15) 3 2,
  .reg (.q (some 11) none (.ld1 (.tmp 2)) (.q (some 12) none (.nc (.tmp 11)) (.q (some 13) none (.fadr 1 (.tmp 12)) (.q (some 14) none (.ld1 (.tmp 13)) (.q (some 15) none (.bin .neq (.tmp 14) (.const (.int .i64 0))) .done))))) false 4 [1, 2, 4, 15],
  .dfr 10 87 [(.tmp 5), (.tmp 2), (.tmp 4)] 5 [1, 2, 4],
  .reg (.q (some 6) none (.ld1 (.tmp 2)) (.q (some 7) none (.nc (.tmp 6)) (.q (some 8) none (.fadr 0 (.tmp 7)) (.q (some 9) none (.ld1 (.tmp 8)) (.l (some 5) none (.alloc 22 [(1, (.slice none 0 0))]) [] (.l none none (.st1 (.tmp 5) (.tmp 9)) [] .done)))))) false 6 [1, 2, 4, 5],
  .reg (.l (some 2) none (.box 65 (.tmp 0)) [] (.l (some 4) none (.alloc 22 [(1, (.slice none 0 0))]) [] .done)) false 7 [1, 2, 4]
  ]
theorem c79_ok : cfgL Try.prog 79 = some (19, 8, c79.map Vc.Node.bare) := by kernel_rfl
/- (*strongbox/wire.Reader).Raw$1: entry 3 -/
def c80 : List Vc.Node := [
  .ret [.t 3],
  .ret [.t 3],
  .reg (.q (some 4) none (.mov (.tmp 0)) (.q (some 5) none (.ld1 (.tmp 1)) (.q (some 6) none (.max [(.tmp 5), (.const (.int .i64 0))]) (.l (some 7) none (.call 81 [(.tmp 4), (.tmp 6)]) [] (.l (some 8) none (.call 54 [(.tmp 7)]) [] (.q (some 3) none (.mov (.tmp 8)) .done)))))) false 1 [3],
  .reg (.q (some 3) none (.mov (.const (.slice none 0 0))) .done) false 2 [0, 1]
  ]
theorem c80_ok : cfgL Try.prog 80 = some (9, 3, c80.map Vc.Node.bare) := by kernel_rfl
/- (*strongbox/wire.Reader).take: entry 8 -/
def c81 : List Vc.Node := [
  .ret [.t 4],
  .ret [.t 4],
  .reg (.q (some 29) none (.mov (.tmp 5)) (.q (some 4) none (.mov (.tmp 29)) .done)) false 1 [4],
  .reg (.q (some 20) none (.mov (.tmp 0)) (.q (some 21) none (.mov (.tmp 0)) (.q (some 22) none (.nc (.tmp 21)) (.q (some 23) none (.fadr 0 (.tmp 22)) (.q (some 24) none (.ld1 (.tmp 23)) (.q (some 25) none (.mov (.tmp 1)) (.q (some 26) none (.slcS 1 (.tmp 24) (some (.tmp 25)) none) (.q (some 27) none (.nc (.tmp 20)) (.q (some 28) none (.fadr 0 (.tmp 27)) (.l none none (.st1 (.tmp 28) (.tmp 26)) [] .done)))))))))) false 2 [5],
  .reg (.q (some 14) none (.mov (.tmp 0)) (.q (some 15) none (.nc (.tmp 14)) (.q (some 16) none (.fadr 0 (.tmp 15)) (.q (some 17) none (.ld1 (.tmp 16)) (.q (some 18) none (.mov (.tmp 1)) (.q (some 19) none (.slcS 1 (.tmp 17) none (some (.tmp 18))) (.q (some 5) none (.mov (.tmp 19)) .done))))))) false 3 [0, 1, 5],
  .reg (.q (some 13) none (.mif 112 (.const (.int .i64 4))) (.l none none (.pan (.tmp 13)) [] .done)) false 4 [0, 1],
  .cnd (.tmp 12) 5 4,
  .reg (.q (some 6) none (.mov (.tmp 1)) (.q (some 7) none (.mov (.tmp 0)) (.q (some 8) none (.nc (.tmp 7)) (.q (some 9) none (.fadr 0 (.tmp 8)) (.q (some 10) none (.ld1 (.tmp 9)) (.q (some 11) none (.len (.tmp 10)) (.q (some 12) none (.bin .gtr (.tmp 6) (.tmp 11)) .done))))))) false 6 [0, 1, 12],
  .reg (.q (some 4) none (.mov (.const (.slice none 0 0))) .done) false 7 [0, 1]
  ]
theorem c81_ok : cfgL Try.prog 81 = some (30, 8, c81.map Vc.Node.bare) := by kernel_rfl
/- bytes.HasSuffix: entry 3 -/
def c82 : List Vc.Node := [
  .ret [.t 4],
  .ret [.t 4],
  .reg (.q (some 5) none (.mov (.tmp 0)) (.q (some 6) none (.len (.tmp 5)) (.q (some 7) none (.mov (.tmp 1)) (.q (some 8) none (.len (.tmp 7)) (.q (some 9) none (.bin .geq (.tmp 6) (.tmp 8)) (.q (some 10) none (.mov (.tmp 9)) (.q (some 11) (some (10, true)) (.mov (.tmp 0)) (.q (some 12) (some (10, true)) (.mov (.tmp 0)) (.q (some 13) (some (10, true)) (.len (.tmp 12)) (.q (some 14) (some (10, true)) (.mov (.tmp 1)) (.q (some 15) (some (10, true)) (.len (.tmp 14)) (.q (some 16) (some (10, true)) (.bin .sub (.tmp 13) (.tmp 15)) (.q (some 17) (some (10, true)) (.slcS 1 (.tmp 11) (some (.tmp 16)) none) (.q (some 18) (some (10, true)) (.mov (.tmp 1)) (.l (some 19) (some (10, true)) (.call 61 [(.tmp 17), (.tmp 18)]) [] (.q (some 20) none (.pick (.tmp 10) (.tmp 19) (.const (.bool false))) (.q (some 4) none (.mov (.tmp 20)) .done))))))))))))))))) false 1 [4],
  .reg (.q (some 4) none (.mov (.const (.bool false))) .done) false 2 [0, 1]
  ]
theorem c82_ok : cfgL Try.prog 82 = some (21, 3, c82.map Vc.Node.bare) := by kernel_rfl
/- slices.Chunk[[]byte,byte]$1: entry 9 -/
def c83 : List Vc.Node := [
  .ret [],
  .jmp 8,
  .reg (.q (some 10) none (.mov (.tmp 4)) (.q (some 11) none (.ld1 (.tmp 2)) (.q (some 12) none (.bin .add (.tmp 10) (.tmp 11)) (.q (some 4) none (.mov (.tmp 12)) .done)))) false 1 [0, 1, 2, 4],
  .ret [],
  .cnd (.tmp 30) 3 2,
  .reg (.q (some 19) none (.mov (.tmp 0)) (.q (some 20) none (.ld1 (.tmp 1)) (.q (some 21) none (.mov (.tmp 4)) (.q (some 22) none (.mov (.tmp 4)) (.q (some 23) none (.mov (.tmp 5)) (.q (some 24) none (.bin .add (.tmp 22) (.tmp 23)) (.q (some 25) none (.mov (.tmp 4)) (.q (some 26) none (.mov (.tmp 5)) (.q (some 27) none (.bin .add (.tmp 25) (.tmp 26)) (.q (some 28) none (.slc3 1 (.tmp 20) (some (.tmp 21)) (.tmp 24) (.tmp 27)) (.l (some 29) none (.callv (.tmp 19) [(.tmp 28)]) [] (.q (some 30) none (.not (.tmp 29)) .done)))))))))))) false 4 [0, 1, 2, 4, 30],
  .reg (.q (some 13) none (.ld1 (.tmp 2)) (.q (some 14) none (.ld1 (.tmp 1)) (.q (some 15) none (.mov (.tmp 4)) (.q (some 16) none (.slcS 1 (.tmp 14) (some (.tmp 15)) none) (.q (some 17) none (.len (.tmp 16)) (.q (some 18) none (.min [(.tmp 13), (.tmp 17)]) (.q (some 5) none (.mov (.tmp 18)) .done))))))) true 5 [0, 1, 2, 4, 5],
  .cnd (.tmp 9) 6 0,
  .reg (.q (some 6) none (.mov (.tmp 4)) (.q (some 7) none (.ld1 (.tmp 1)) (.q (some 8) none (.len (.tmp 7)) (.q (some 9) none (.bin .lss (.tmp 6) (.tmp 8)) .done)))) false 7 [0, 1, 2, 4, 9],
  .reg (.q (some 4) none (.mov (.const (.int .i64 0))) .done) false 8 [0, 1, 2, 4]
  ]
theorem c83_ok : cfgL Try.prog 83 = some (31, 9, c83.map Vc.Node.bare) := by kernel_rfl
/- strongbox/wire.try[byte]$1: entry 9 -/
def c84 : List Vc.Node := [
  .ret [],
  .reg (.q (some 18) none (.ld1 (.tmp 1)) (.q (some 19) none (.ld1 (.tmp 1)) (.q (some 20) none (.ld1 (.tmp 0)) (.q (some 21) none (.mov (.tmp 4)) (.q (some 22) none (.mov (.tmp 6)) (.q (some 23) none (.nc (.tmp 18)) (.q (some 24) none (.fadr 0 (.tmp 23)) (.l none none (.st1 (.tmp 24) (.tmp 20)) [] (.q (some 25) none (.nc (.tmp 19)) (.q (some 26) none (.fadr 1 (.tmp 25)) (.l none none (.st1 (.tmp 26) (.tmp 21)) [] (.l none none (.st1 (.tmp 2) (.tmp 22)) [] .done)))))))))))) false 0 [],
  .reg (.q (some 6) none (.mov (.const (.int .u8 0))) .done) false 1 [0, 1, 2, 4, 6],
  .reg (.q (some 17) none (.mov (.tmp 3)) (.l none none (.pan (.tmp 17)) [] .done)) false 2 [0, 1, 2, 4],
  .cnd (.tmp 16) 3 2,
  .reg (.q (some 15) none (.mov (.tmp 5)) (.q (some 16) none (.not (.tmp 15)) .done)) false 4 [0, 1, 2, 3, 4, 16],
  .reg (.q (some 11) none (.mov (.tmp 3)) (.q (some 12) none (.tas 112 .i64 (.tmp 11)) (.q (some 10) none (.mov (.tmp 12)) (.q (some 13) none (.ext 0 (.tmp 10)) (.q (some 14) none (.ext 1 (.tmp 10)) (.q (some 4) none (.mov (.tmp 13)) (.q (some 5) none (.mov (.tmp 14)) .done))))))) false 5 [0, 1, 2, 3, 4, 5],
  .cnd (.tmp 9) 6 0,
  .reg (.q (some 8) none (.mov (.tmp 3)) (.q (some 9) none (.eqI true (.tmp 8) (.const .nilIface)) .done)) false 7 [0, 1, 2, 3, 9],
  .rcv 7 3 8 [0, 1, 2, 3]
  ]
theorem c84_ok : cfgL Try.prog 84 = some (27, 9, c84.map Vc.Node.bare) := by kernel_rfl
/- strongbox/wire.try[uint16]$1: entry 9 -/
def c85 : List Vc.Node := [
  .ret [],
  .reg (.q (some 18) none (.ld1 (.tmp 1)) (.q (some 19) none (.ld1 (.tmp 1)) (.q (some 20) none (.ld1 (.tmp 0)) (.q (some 21) none (.mov (.tmp 4)) (.q (some 22) none (.mov (.tmp 6)) (.q (some 23) none (.nc (.tmp 18)) (.q (some 24) none (.fadr 0 (.tmp 23)) (.l none none (.st1 (.tmp 24) (.tmp 20)) [] (.q (some 25) none (.nc (.tmp 19)) (.q (some 26) none (.fadr 1 (.tmp 25)) (.l none none (.st1 (.tmp 26) (.tmp 21)) [] (.l none none (.st1 (.tmp 2) (.tmp 22)) [] .done)))))))))))) false 0 [],
  .reg (.q (some 6) none (.mov (.const (.int .u16 0))) .done) false 1 [0, 1, 2, 4, 6],
  .reg (.q (some 17) none (.mov (.tmp 3)) (.l none none (.pan (.tmp 17)) [] .done)) false 2 [0, 1, 2, 4],
  .cnd (.tmp 16) 3 2,
  .reg (.q (some 15) none (.mov (.tmp 5)) (.q (some 16) none (.not (.tmp 15)) .done)) false 4 [0, 1, 2, 3, 4, 16],
  .reg (.q (some 11) none (.mov (.tmp 3)) (.q (some 12) none (.tas 112 .i64 (.tmp 11)) (.q (some 10) none (.mov (.tmp 12)) (.q (some 13) none (.ext 0 (.tmp 10)) (.q (some 14) none (.ext 1 (.tmp 10)) (.q (some 4) none (.mov (.tmp 13)) (.q (some 5) none (.mov (.tmp 14)) .done))))))) false 5 [0, 1, 2, 3, 4, 5],
  .cnd (.tmp 9) 6 0,
  .reg (.q (some 8) none (.mov (.tmp 3)) (.q (some 9) none (.eqI true (.tmp 8) (.const .nilIface)) .done)) false 7 [0, 1, 2, 3, 9],
  .rcv 7 3 8 [0, 1, 2, 3]
  ]
theorem c85_ok : cfgL Try.prog 85 = some (27, 9, c85.map Vc.Node.bare) := by kernel_rfl
/- strongbox/wire.try[uint32]$1: entry 9 -/
def c86 : List Vc.Node := [
  .ret [],
  .reg (.q (some 18) none (.ld1 (.tmp 1)) (.q (some 19) none (.ld1 (.tmp 1)) (.q (some 20) none (.ld1 (.tmp 0)) (.q (some 21) none (.mov (.tmp 4)) (.q (some 22) none (.mov (.tmp 6)) (.q (some 23) none (.nc (.tmp 18)) (.q (some 24) none (.fadr 0 (.tmp 23)) (.l none none (.st1 (.tmp 24) (.tmp 20)) [] (.q (some 25) none (.nc (.tmp 19)) (.q (some 26) none (.fadr 1 (.tmp 25)) (.l none none (.st1 (.tmp 26) (.tmp 21)) [] (.l none none (.st1 (.tmp 2) (.tmp 22)) [] .done)))))))))))) false 0 [],
  .reg (.q (some 6) none (.mov (.const (.int .u32 0))) .done) false 1 [0, 1, 2, 4, 6],
  .reg (.q (some 17) none (.mov (.tmp 3)) (.l none none (.pan (.tmp 17)) [] .done)) false 2 [0, 1, 2, 4],
  .cnd (.tmp 16) 3 2,
  .reg (.q (some 15) none (.mov (.tmp 5)) (.q (some 16) none (.not (.tmp 15)) .done)) false 4 [0, 1, 2, 3, 4, 16],
  .reg (.q (some 11) none (.mov (.tmp 3)) (.q (some 12) none (.tas 112 .i64 (.tmp 11)) (.q (some 10) none (.mov (.tmp 12)) (.q (some 13) none (.ext 0 (.tmp 10)) (.q (some 14) none (.ext 1 (.tmp 10)) (.q (some 4) none (.mov (.tmp 13)) (.q (some 5) none (.mov (.tmp 14)) .done))))))) false 5 [0, 1, 2, 3, 4, 5],
  .cnd (.tmp 9) 6 0,
  .reg (.q (some 8) none (.mov (.tmp 3)) (.q (some 9) none (.eqI true (.tmp 8) (.const .nilIface)) .done)) false 7 [0, 1, 2, 3, 9],
  .rcv 7 3 8 [0, 1, 2, 3]
  ]
theorem c86_ok : cfgL Try.prog 86 = some (27, 9, c86.map Vc.Node.bare) := by kernel_rfl
/- strongbox/wire.try[[]byte]$1: entry 9 -/
def c87 : List Vc.Node := [
  .ret [],
  .reg (.q (some 18) none (.ld1 (.tmp 1)) (.q (some 19) none (.ld1 (.tmp 1)) (.q (some 20) none (.ld1 (.tmp 0)) (.q (some 21) none (.mov (.tmp 4)) (.q (some 22) none (.mov (.tmp 6)) (.q (some 23) none (.nc (.tmp 18)) (.q (some 24) none (.fadr 0 (.tmp 23)) (.l none none (.st1 (.tmp 24) (.tmp 20)) [] (.q (some 25) none (.nc (.tmp 19)) (.q (some 26) none (.fadr 1 (.tmp 25)) (.l none none (.st1 (.tmp 26) (.tmp 21)) [] (.l none none (.st1 (.tmp 2) (.tmp 22)) [] .done)))))))))))) false 0 [],
  .reg (.q (some 6) none (.mov (.const (.slice none 0 0))) .done) false 1 [0, 1, 2, 4, 6],
  .reg (.q (some 17) none (.mov (.tmp 3)) (.l none none (.pan (.tmp 17)) [] .done)) false 2 [0, 1, 2, 4],
  .cnd (.tmp 16) 3 2,
  .reg (.q (some 15) none (.mov (.tmp 5)) (.q (some 16) none (.not (.tmp 15)) .done)) false 4 [0, 1, 2, 3, 4, 16],
  .reg (.q (some 11) none (.mov (.tmp 3)) (.q (some 12) none (.tas 112 .i64 (.tmp 11)) (.q (some 10) none (.mov (.tmp 12)) (.q (some 13) none (.ext 0 (.tmp 10)) (.q (some 14) none (.ext 1 (.tmp 10)) (.q (some 4) none (.mov (.tmp 13)) (.q (some 5) none (.mov (.tmp 14)) .done))))))) false 5 [0, 1, 2, 3, 4, 5],
  .cnd (.tmp 9) 6 0,
  .reg (.q (some 8) none (.mov (.tmp 3)) (.q (some 9) none (.eqI true (.tmp 8) (.const .nilIface)) .done)) false 7 [0, 1, 2, 3, 9],
  .rcv 7 3 8 [0, 1, 2, 3]
  ]
theorem c87_ok : cfgL Try.prog 87 = some (27, 9, c87.map Vc.Node.bare) := by kernel_rfl
end Go.Proofs
