/- Laws that the last text of this claim uses, part 1: written for it, merged by program. -/
import Derived.KernelRfl
import Derived.Test.YthjijgmhicplaaaProg
import Derived.Test.YthjijgmhicplaaaVcF
import Derived.Test.YthjijgmhicplaaaVcJ
import Derived.Test.YthjijgmhicplaaaVcN
import Derived.Test.YthjijgmhicplaaaVcR
set_option linter.unusedSimpArgs false
set_option linter.unusedVariables false
set_option linter.constructorNameAsVariable false
namespace Go.Proofs
open Go.Vc
/- strongbox/strongboxlaw11.ScriptKinds: entry 21 -/
def c5 : List Vc.Node := [
  .ret [.t 2],
  .ret [.t 2],
  .reg (.q (some 90) none (.mov (.tmp 6)) (.q (some 91) none (.mov (.tmp 10)) (.q (some 92) none (.mov (.tmp 4)) (.l (some 93) none (.bldS 22 1 [(.tmp 91), (.tmp 92)]) [] (.l (some 94) none (.app 22 1 24 [(1, (.slice none 0 0))] (.tmp 90) (.tmp 93)) [] (.l (some 95) none (.call 25 [(.tmp 94)]) [] (.q (some 2) none (.mov (.tmp 95)) .done))))))) false 1 [2],
  .ret [.t 2],
  .reg (.q (some 2) none (.mov (.const (.bool false))) .done) false 3 [2],
  .cnd (.tmp 89) 4 2,
  .reg (.q (some 59) none (.mov (.tmp 11)) (.q (some 60) none (.mov (.tmp 12)) (.q (some 61) none (.bin .geq (.tmp 60) (.const (.int .i64 0))) (.q (some 62) none (.eqB true (.tmp 59) (.tmp 61)) (.q (some 63) none (.mov (.tmp 62)) (.q (some 64) (some (63, false)) (.mov (.tmp 11)) (.q (some 65) (some (63, false)) (.mov (.tmp 64)) (.q (some 66) (some (65, true)) (.mov (.tmp 9)) (.q (some 67) (some (65, true)) (.mov (.tmp 12)) (.q (some 68) (some (65, true)) (.bin .neq (.tmp 66) (.tmp 67)) (.q (some 69) (some (65, true)) (.mov (.tmp 68)) (.q (some 70) (some (69, false)) (.mov (.tmp 10)) (.q (some 71) (some (69, false)) (.mov (.tmp 13)) (.l (some 72) (some (69, false)) (.call 17 [(.tmp 70), (.tmp 71)]) [] (.q (some 73) (some (69, false)) (.not (.tmp 72)) (.q (some 74) (some (65, true)) (.pick (.tmp 69) (.const (.bool true)) (.tmp 73)) (.q (some 75) (some (63, false)) (.pick (.tmp 65) (.tmp 74) (.const (.bool false))) (.q (some 76) none (.pick (.tmp 63) (.const (.bool true)) (.tmp 75)) (.q (some 77) none (.mov (.tmp 76)) (.q (some 78) (some (77, false)) (.mov (.tmp 11)) (.q (some 79) (some (77, false)) (.not (.tmp 78)) (.q (some 80) (some (77, false)) (.mov (.tmp 79)) (.q (some 81) (some (80, true)) (.mov (.tmp 9)) (.q (some 82) (some (80, true)) (.bin .neq (.tmp 81) (.const (.int .i64 0))) (.q (some 83) (some (80, true)) (.mov (.tmp 82)) (.q (some 84) (some (83, false)) (.mov (.tmp 10)) (.q (some 85) (some (83, false)) (.len (.tmp 84)) (.q (some 86) (some (83, false)) (.bin .gtr (.tmp 85) (.const (.int .i64 0))) (.q (some 87) (some (80, true)) (.pick (.tmp 83) (.const (.bool true)) (.tmp 86)) (.q (some 88) (some (77, false)) (.pick (.tmp 80) (.tmp 87) (.const (.bool false))) (.q (some 89) none (.pick (.tmp 77) (.const (.bool true)) (.tmp 88)) .done))))))))))))))))))))))))))))))) false 5 [4, 6, 10, 89],
  .reg (.q (some 55) none (.mov (.tmp 0)) (.l (some 56) none (.call 24 [(.tmp 55)]) [] (.q (some 54) none (.mov (.tmp 56)) (.q (some 57) none (.ext 0 (.tmp 54)) (.q (some 58) none (.ext 1 (.tmp 54)) (.q (some 12) none (.mov (.tmp 57)) (.q (some 13) none (.mov (.tmp 58)) .done))))))) false 6 [4, 6, 9, 10, 11, 12, 13],
  .reg (.q (some 49) none (.mov (.tmp 3)) (.l (some 50) none (.call 23 [(.tmp 49)]) [] (.q (some 48) none (.mov (.tmp 50)) (.q (some 51) none (.ext 0 (.tmp 48)) (.q (some 52) none (.ext 1 (.tmp 48)) (.q (some 53) none (.ext 2 (.tmp 48)) (.q (some 9) none (.mov (.tmp 51)) (.q (some 10) none (.mov (.tmp 52)) (.q (some 11) none (.mov (.tmp 53)) .done))))))))) false 7 [0, 4, 6, 9, 10, 11],
  .ret [.t 2],
  .reg (.q (some 2) none (.mov (.const (.bool false))) .done) false 9 [2],
  .cnd (.tmp 47) 10 8,
  .reg (.q (some 33) none (.mov (.tmp 5)) (.q (some 34) none (.mov (.tmp 7)) (.q (some 35) none (.bin .neq (.tmp 33) (.tmp 34)) (.q (some 36) none (.mov (.tmp 35)) (.q (some 37) (some (36, false)) (.mov (.tmp 6)) (.q (some 38) (some (36, false)) (.mov (.tmp 8)) (.l (some 39) (some (36, false)) (.call 22 [(.tmp 37), (.tmp 38)]) [] (.q (some 40) (some (36, false)) (.not (.tmp 39)) (.q (some 41) none (.pick (.tmp 36) (.const (.bool true)) (.tmp 40)) (.q (some 42) none (.mov (.tmp 41)) (.q (some 43) (some (42, false)) (.mov (.tmp 4)) (.q (some 44) (some (42, false)) (.mov (.tmp 0)) (.l (some 45) (some (42, false)) (.call 16 [(.tmp 43), (.tmp 44)]) [] (.q (some 46) (some (42, false)) (.not (.tmp 45)) (.q (some 47) none (.pick (.tmp 42) (.const (.bool true)) (.tmp 46)) .done))))))))))))))) false 11 [0, 3, 4, 6, 47],
  .reg (.q (some 29) none (.mov (.tmp 0)) (.l (some 30) none (.call 21 [(.tmp 29)]) [] (.q (some 28) none (.mov (.tmp 30)) (.q (some 31) none (.ext 0 (.tmp 28)) (.q (some 32) none (.ext 1 (.tmp 28)) (.q (some 7) none (.mov (.tmp 31)) (.q (some 8) none (.mov (.tmp 32)) .done))))))) false 12 [0, 3, 4, 5, 6, 7, 8],
  .reg (.q (some 24) none (.mov (.tmp 3)) (.l (some 25) none (.call 20 [(.tmp 24)]) [] (.q (some 23) none (.mov (.tmp 25)) (.q (some 26) none (.ext 0 (.tmp 23)) (.q (some 27) none (.ext 1 (.tmp 23)) (.q (some 5) none (.mov (.tmp 26)) (.q (some 6) none (.mov (.tmp 27)) .done))))))) false 13 [0, 3, 4, 5, 6],
  .reg (.q (some 19) none (.mov (.tmp 0)) (.l (some 20) none (.call 11 [(.tmp 19)]) [] (.q (some 18) none (.mov (.tmp 20)) (.q (some 21) none (.ext 0 (.tmp 18)) (.q (some 22) none (.ext 1 (.tmp 18)) (.q (some 3) none (.mov (.tmp 21)) (.q (some 4) none (.mov (.tmp 22)) .done))))))) false 14 [0, 3, 4],
  .reg (.q (some 16) none (.mov (.tmp 0)) (.l (some 17) none (.call 10 [(.tmp 16), (.const (.int .i64 1000))]) [] (.q (some 0) none (.mov (.tmp 17)) .done))) false 15 [0],
  .ret [.t 2],
  .reg (.q (some 2) none (.mov (.const (.bool false))) .done) false 17 [2],
  .cnd (.tmp 15) 18 16,
  .reg (.l (some 14) none (.call 9 []) [] (.q (some 15) none (.not (.tmp 14)) .done)) false 19 [0, 15],
  .reg (.q (some 2) none (.mov (.const (.bool false))) .done) false 20 [0]
  ]
theorem c5_ok : cfgL Try.prog 5 = some (96, 21, c5.map Vc.Node.bare) := by kernel_rfl
/- strongbox/strongboxlaw11.awake: entry 4 -/
def c9 : List Vc.Node := [
  .ret [.t 0],
  .ret [.t 0],
  .reg (.l (some 8) none (.bldS 5 1 [(.const (.int .u8 5))]) [] (.l (some 9) none (.call 18 [(.tmp 8)]) [] (.q (some 10) none (.len (.tmp 9)) (.q (some 11) none (.bin .eql (.tmp 10) (.const (.int .i64 1))) (.q (some 12) none (.mov (.tmp 11)) (.l (some 13) (some (12, true)) (.bldS 5 1 [(.const (.int .u8 5))]) [] (.l (some 14) (some (12, true)) (.call 18 [(.tmp 13)]) [] (.q (some 15) (some (12, true)) (.iadrS 1 (.tmp 14) (.const (.int .i64 0))) (.q (some 16) (some (12, true)) (.ld1 (.tmp 15)) (.q (some 17) (some (12, true)) (.bin .eql (.tmp 16) (.const (.int .u8 85))) (.q (some 18) none (.pick (.tmp 12) (.tmp 17) (.const (.bool false))) (.q (some 19) none (.mov (.tmp 18)) (.q (some 20) (some (19, true)) (.mov (.tmp 1)) (.q (some 21) (some (19, true)) (.bin .eql (.tmp 20) (.const (.int .i64 6))) (.q (some 22) none (.pick (.tmp 19) (.tmp 21) (.const (.bool false))) (.q (some 23) none (.mov (.tmp 22)) (.q (some 24) (some (23, true)) (.mov (.tmp 2)) (.q (some 25) (some (23, true)) (.len (.tmp 24)) (.q (some 26) (some (23, true)) (.bin .eql (.tmp 25) (.const (.int .i64 1))) (.q (some 27) none (.pick (.tmp 23) (.tmp 26) (.const (.bool false))) (.q (some 28) none (.mov (.tmp 27)) (.l (some 29) (some (28, true)) (.bldS 5 1 [(.const (.int .u8 1))]) [] (.l (some 30) (some (28, true)) (.call 28 [(.tmp 29)]) [] (.q (some 31) none (.pick (.tmp 28) (.tmp 30) (.const (.bool false))) (.q (some 32) none (.mov (.tmp 31)) (.l (some 33) (some (32, true)) (.call 26 [(.const (.int .i64 (-255)))]) [] (.q (some 34) (some (32, true)) (.len (.tmp 33)) (.q (some 35) (some (32, true)) (.bin .eql (.tmp 34) (.const (.int .i64 2))) (.q (some 36) none (.pick (.tmp 32) (.tmp 35) (.const (.bool false))) (.q (some 0) none (.mov (.tmp 36)) .done)))))))))))))))))))))))))))))) false 1 [0],
  .reg (.l (some 4) none (.bldS 5 1 [(.const (.int .u8 106)), (.const (.int .u8 1)), (.const (.int .u8 2))]) [] (.l (some 5) none (.call 20 [(.tmp 4)]) [] (.q (some 3) none (.mov (.tmp 5)) (.q (some 6) none (.ext 0 (.tmp 3)) (.q (some 7) none (.ext 1 (.tmp 3)) (.q (some 1) none (.mov (.tmp 6)) (.q (some 2) none (.mov (.tmp 7)) .done))))))) false 2 [1, 2],
  .reg (.q (some 0) none (.mov (.const (.bool false))) .done) false 3 []
  ]
theorem c9_ok : cfgL Try.prog 9 = some (37, 4, c9.map Vc.Node.bare) := by kernel_rfl
/- strongbox/strongboxlaw11.short: entry 7 -/
def c10 : List Vc.Node := [
  .ret [.t 4],
  .ret [.t 4],
  .reg (.q (some 12) none (.mov (.tmp 0)) (.q (some 4) none (.mov (.tmp 12)) .done)) false 1 [4],
  .ret [.t 4],
  .reg (.q (some 9) none (.mov (.tmp 0)) (.q (some 10) none (.mov (.tmp 1)) (.q (some 11) none (.slcS 1 (.tmp 9) none (some (.tmp 10))) (.q (some 4) none (.mov (.tmp 11)) .done)))) false 3 [4],
  .cnd (.tmp 8) 4 2,
  .reg (.q (some 5) none (.mov (.tmp 0)) (.q (some 6) none (.len (.tmp 5)) (.q (some 7) none (.mov (.tmp 1)) (.q (some 8) none (.bin .gtr (.tmp 6) (.tmp 7)) .done)))) false 5 [0, 1, 8],
  .reg (.q (some 4) none (.mov (.const (.slice none 0 0))) .done) false 6 [0, 1]
  ]
theorem c10_ok : cfgL Try.prog 10 = some (13, 7, c10.map Vc.Node.bare) := by kernel_rfl
/- strongbox/strongboxref01.Spare: entry 13 -/
def c11 : List Vc.Node := [
  .ret [.t 2, .t 3],
  .ret [.t 2, .t 3],
  .reg (.q (some 33) none (.mov (.tmp 4)) (.q (some 34) none (.mov (.tmp 0)) (.q (some 35) none (.len (.tmp 34)) (.q (some 36) none (.slcS 1 (.tmp 33) none (some (.tmp 35))) (.q (some 37) none (.mov (.tmp 4)) (.q (some 2) none (.mov (.tmp 36)) (.q (some 3) none (.mov (.tmp 37)) .done))))))) false 1 [2, 3],
  .jmp 10,
  .reg (.q (some 14) none (.mov (.tmp 5)) (.q (some 15) none (.bin .add (.tmp 14) (.const (.int .i64 1))) (.q (some 5) none (.mov (.tmp 15)) .done))) false 3 [0, 4, 5],
  .reg (.q (some 26) none (.mov (.tmp 4)) (.q (some 27) none (.mov (.tmp 5)) (.q (some 28) none (.mov (.tmp 0)) (.q (some 29) none (.mov (.tmp 5)) (.q (some 30) none (.iadrS 1 (.tmp 28) (.tmp 29)) (.q (some 31) none (.ld1 (.tmp 30)) (.q (some 32) none (.iadrS 1 (.tmp 26) (.tmp 27)) (.l none none (.st1 (.tmp 32) (.tmp 31)) [] .done)))))))) false 4 [0, 4, 5],
  .cnd (.tmp 25) 5 4,
  .reg (.q (some 22) none (.mov (.tmp 5)) (.q (some 23) none (.mov (.tmp 0)) (.q (some 24) none (.len (.tmp 23)) (.q (some 25) none (.bin .lss (.tmp 22) (.tmp 24)) .done)))) false 6 [0, 4, 5, 25],
  .reg (.q (some 16) none (.mov (.tmp 4)) (.q (some 17) none (.mov (.tmp 5)) (.q (some 18) none (.mov (.tmp 5)) (.q (some 19) none (.bin .add (.const (.int .i64 201)) (.tmp 18)) (.q (some 20) none (.cvi .u8 (.tmp 19)) (.q (some 21) none (.iadrS 1 (.tmp 16) (.tmp 17)) (.l none none (.st1 (.tmp 21) (.tmp 20)) [] .done))))))) false 7 [0, 4, 5],
  .cnd (.tmp 13) 8 2,
  .reg (.q (some 10) none (.mov (.tmp 5)) (.q (some 11) none (.mov (.tmp 4)) (.q (some 12) none (.len (.tmp 11)) (.q (some 13) none (.bin .lss (.tmp 10) (.tmp 12)) .done)))) false 9 [0, 4, 5, 13],
  .reg (.q (some 5) none (.mov (.const (.int .i64 0))) .done) false 10 [0, 4, 5],
  .reg (.q (some 6) none (.mov (.tmp 0)) (.q (some 7) none (.len (.tmp 6)) (.q (some 8) none (.bin .add (.tmp 7) (.const (.int .i64 9))) (.l (some 9) none (.mkS 5 1 1 [(1, (.int .u8 0))] (.tmp 8) (.tmp 8)) [] (.q (some 4) none (.mov (.tmp 9)) .done))))) false 11 [0, 4],
  .reg (.q (some 2) none (.mov (.const (.slice none 0 0))) (.q (some 3) none (.mov (.const (.slice none 0 0))) .done)) false 12 [0]
  ]
theorem c11_ok : cfgL Try.prog 11 = some (38, 13, c11.map Vc.Node.bare) := by kernel_rfl
/- strongbox/script.Parse: entry 13 -/
def c12 : List Vc.Node := [
  .ret [.t 2, .t 3],
  .ret [.t 2, .t 3],
  .reg (.q (some 24) none (.mov (.tmp 4)) (.q (some 2) none (.mov (.tmp 24)) (.q (some 3) none (.mov (.const (.int .i64 0))) .done))) false 1 [2, 3],
  .ret [.t 2, .t 3],
  .reg (.q (some 2) none (.mov (.const (.slice none 0 0))) (.q (some 3) none (.mov (.const (.int .i64 4))) .done)) false 3 [2, 3],
  .cnd (.tmp 23) 4 2,
  .reg (.q (some 21) none (.mov (.tmp 5)) (.l (some 22) none (.call 43 [(.tmp 21)]) [] (.q (some 23) none (.bin .neq (.tmp 22) (.const (.int .i64 0))) .done))) false 5 [4, 23],
  .jmp 10,
  .reg (.q (some 16) none (.mov (.tmp 4)) (.q (some 17) none (.mov (.tmp 5)) (.l (some 18) none (.call 44 [(.tmp 17)]) [] (.l (some 19) none (.bldS 37 2 [(.tmp 18)]) [] (.l (some 20) none (.app 37 2 32 [(1, (.int .u8 0)), (1, (.slice none 0 0))] (.tmp 16) (.tmp 19)) [] (.q (some 4) none (.mov (.tmp 20)) .done)))))) false 7 [4, 5],
  .cnd (.tmp 15) 8 6,
  .reg (.q (some 8) none (.mov (.tmp 5)) (.l (some 9) none (.call 42 [(.tmp 8)]) [] (.q (some 10) none (.bin .gtr (.tmp 9) (.const (.int .i64 0))) (.q (some 11) none (.mov (.tmp 10)) (.q (some 12) (some (11, true)) (.mov (.tmp 5)) (.l (some 13) (some (11, true)) (.call 43 [(.tmp 12)]) [] (.q (some 14) (some (11, true)) (.bin .eql (.tmp 13) (.const (.int .i64 0))) (.q (some 15) none (.pick (.tmp 11) (.tmp 14) (.const (.bool false))) .done)))))))) false 9 [4, 5, 15],
  .reg (.q (some 6) none (.mov (.tmp 0)) (.l (some 7) none (.call 41 [(.tmp 6)]) [] (.q (some 5) none (.mov (.tmp 7)) .done))) false 10 [4, 5],
  .reg (.q (some 4) none (.mov (.const (.slice none 0 0))) .done) false 11 [0, 4],
  .reg (.q (some 2) none (.mov (.const (.slice none 0 0))) (.q (some 3) none (.mov (.const (.int .i64 0))) .done)) false 12 [0]
  ]
theorem c12_ok : cfgL Try.prog 12 = some (25, 13, c12.map Vc.Node.bare) := by kernel_rfl
/- strongbox/strongboxref11.Parse: entry 38 -/
def c13 : List Vc.Node := [
  .ret [.t 2, .t 3],
  .ret [.t 2, .t 3],
  .reg (.q (some 73) none (.mov (.tmp 4)) (.q (some 2) none (.mov (.tmp 73)) (.q (some 3) none (.mov (.const (.bool true))) .done))) false 1 [2, 3],
  .jmp 35,
  .reg (.q (some 70) none (.mov (.tmp 5)) (.q (some 71) none (.mov (.tmp 7)) (.q (some 72) none (.bin .add (.tmp 70) (.tmp 71)) (.q (some 5) none (.mov (.tmp 72)) .done)))) false 3 [0, 4, 5],
  .reg (.q (some 58) none (.mov (.tmp 4)) (.q (some 59) none (.mov (.tmp 6)) (.q (some 60) none (.mov (.tmp 0)) (.q (some 61) none (.mov (.tmp 5)) (.q (some 62) none (.mov (.tmp 5)) (.q (some 63) none (.mov (.tmp 7)) (.q (some 64) none (.bin .add (.tmp 62) (.tmp 63)) (.q (some 65) none (.slcS 1 (.tmp 60) (some (.tmp 61)) (some (.tmp 64))) (.l (some 66) none (.call 32 [(.tmp 65)]) [] (.q (some 67) none (.bld [.x 1 (.tmp 59), .x 1 (.tmp 66)]) (.l (some 68) none (.bldS 38 2 [(.tmp 67)]) [] (.l (some 69) none (.app 38 2 32 [(1, (.int .u8 0)), (1, (.slice none 0 0))] (.tmp 58) (.tmp 68)) [] (.q (some 4) none (.mov (.tmp 69)) .done))))))))))))) false 4 [0, 4, 5, 7],
  .ret [.t 2, .t 3],
  .reg (.q (some 2) none (.mov (.const (.slice none 0 0))) (.q (some 3) none (.mov (.const (.bool false))) .done)) false 6 [2, 3],
  .cnd (.tmp 57) 7 5,
  .reg (.q (some 52) none (.mov (.tmp 7)) (.q (some 53) none (.mov (.tmp 0)) (.q (some 54) none (.len (.tmp 53)) (.q (some 55) none (.mov (.tmp 5)) (.q (some 56) none (.bin .sub (.tmp 54) (.tmp 55)) (.q (some 57) none (.bin .gtr (.tmp 52) (.tmp 56)) .done)))))) false 8 [0, 4, 5, 6, 7, 57],
  .reg (.q (some 49) none (.mov (.tmp 5)) (.q (some 50) none (.mov (.tmp 8)) (.q (some 51) none (.bin .add (.tmp 49) (.tmp 50)) (.q (some 5) none (.mov (.tmp 51)) .done)))) false 9 [0, 4, 5, 6, 7],
  .reg (.q (some 41) none (.mov (.tmp 0)) (.q (some 42) none (.mov (.tmp 5)) (.q (some 43) none (.mov (.tmp 5)) (.q (some 44) none (.mov (.tmp 8)) (.q (some 45) none (.bin .add (.tmp 43) (.tmp 44)) (.q (some 46) none (.slcS 1 (.tmp 41) (some (.tmp 42)) (some (.tmp 45))) (.l (some 47) none (.call 45 [(.tmp 46)]) [] (.q (some 48) none (.cvi .i64 (.tmp 47)) (.q (some 7) none (.mov (.tmp 48)) .done))))))))) false 10 [0, 4, 5, 6, 7, 8],
  .cnd (.tmp 40) 11 9,
  .reg (.q (some 39) none (.mov (.tmp 8)) (.q (some 40) none (.bin .gtr (.tmp 39) (.const (.int .i64 0))) .done)) false 12 [0, 4, 5, 6, 7, 8, 40],
  .ret [.t 2, .t 3],
  .reg (.q (some 2) none (.mov (.const (.slice none 0 0))) (.q (some 3) none (.mov (.const (.bool false))) .done)) false 14 [2, 3],
  .cnd (.tmp 38) 15 13,
  .reg (.q (some 33) none (.mov (.tmp 8)) (.q (some 34) none (.mov (.tmp 0)) (.q (some 35) none (.len (.tmp 34)) (.q (some 36) none (.mov (.tmp 5)) (.q (some 37) none (.bin .sub (.tmp 35) (.tmp 36)) (.q (some 38) none (.bin .gtr (.tmp 33) (.tmp 37)) .done)))))) false 16 [0, 4, 5, 6, 7, 8, 38],
  .reg (.q (some 22) none (.mov (.tmp 6)) (.q (some 23) none (.cvi .i64 (.tmp 22)) (.q (some 7) none (.mov (.tmp 23)) .done))) false 17 [0, 4, 5, 6, 7, 8],
  .reg (.q (some 8) none (.mov (.const (.int .i64 1))) .done) false 17 [0, 4, 5, 6, 7, 8],
  .reg (.q (some 8) none (.mov (.const (.int .i64 2))) .done) false 17 [0, 4, 5, 6, 7, 8],
  .reg (.q (some 8) none (.mov (.const (.int .i64 4))) .done) false 17 [0, 4, 5, 6, 7, 8],
  .cnd (.tmp 30) 21 17,
  .reg (.q (some 31) none (.mov (.tmp 6)) (.q (some 32) none (.bin .eql (.tmp 31) (.const (.int .u8 78))) (.q (some 30) none (.mov (.tmp 32)) .done))) false 22 [0, 4, 5, 6, 7, 8, 30],
  .cnd (.tmp 27) 20 23,
  .reg (.q (some 28) none (.mov (.tmp 6)) (.q (some 29) none (.bin .eql (.tmp 28) (.const (.int .u8 77))) (.q (some 27) none (.mov (.tmp 29)) .done))) false 24 [0, 4, 5, 6, 7, 8, 27],
  .cnd (.tmp 24) 19 25,
  .reg (.q (some 25) none (.mov (.tmp 6)) (.q (some 26) none (.bin .eql (.tmp 25) (.const (.int .u8 76))) (.q (some 24) none (.mov (.tmp 26)) .done))) false 26 [0, 4, 5, 6, 7, 8, 24],
  .cnd (.tmp 19) 18 27,
  .reg (.q (some 20) none (.mov (.tmp 6)) (.q (some 21) none (.bin .leq (.tmp 20) (.const (.int .u8 75))) (.q (some 19) none (.mov (.tmp 21)) .done))) false 28 [0, 4, 5, 6, 7, 8, 19],
  .reg (.q (some 8) none (.mov (.const (.int .i64 0))) .done) false 29 [0, 4, 5, 6, 7, 8],
  .reg (.q (some 7) none (.mov (.const (.int .i64 0))) .done) false 30 [0, 4, 5, 6, 7],
  .reg (.q (some 17) none (.mov (.tmp 5)) (.q (some 18) none (.bin .add (.tmp 17) (.const (.int .i64 1))) (.q (some 5) none (.mov (.tmp 18)) .done))) false 31 [0, 4, 5, 6],
  .reg (.q (some 13) none (.mov (.tmp 0)) (.q (some 14) none (.mov (.tmp 5)) (.q (some 15) none (.iadrS 1 (.tmp 13) (.tmp 14)) (.q (some 16) none (.ld1 (.tmp 15)) (.q (some 6) none (.mov (.tmp 16)) .done))))) false 32 [0, 4, 5, 6],
  .cnd (.tmp 12) 33 2,
  .reg (.q (some 9) none (.mov (.tmp 5)) (.q (some 10) none (.mov (.tmp 0)) (.q (some 11) none (.len (.tmp 10)) (.q (some 12) none (.bin .lss (.tmp 9) (.tmp 11)) .done)))) false 34 [0, 4, 5, 12],
  .reg (.q (some 5) none (.mov (.const (.int .i64 0))) .done) false 35 [0, 4, 5],
  .reg (.q (some 4) none (.mov (.const (.slice none 0 0))) .done) false 36 [0, 4],
  .reg (.q (some 2) none (.mov (.const (.slice none 0 0))) (.q (some 3) none (.mov (.const (.bool false))) .done)) false 37 [0]
  ]
theorem c13_ok : cfgL Try.prog 13 = some (74, 38, c13.map Vc.Node.bare) := by kernel_rfl
/- strongbox/script.Pushes: entry 4 -/
def c14 : List Vc.Node := [
  .ret [.t 2],
  .ret [.t 2],
  .reg (.q (some 10) none (.mov (.tmp 4)) (.q (some 11) none (.bin .eql (.tmp 10) (.const (.int .i64 0))) (.q (some 12) none (.mov (.tmp 11)) (.q (some 13) (some (12, true)) (.mov (.tmp 3)) (.l (some 14) (some (12, true)) (.call 46 [(.tmp 13), (.func 47)]) [] (.q (some 15) (some (12, true)) (.not (.tmp 14)) (.q (some 16) none (.pick (.tmp 12) (.tmp 15) (.const (.bool false))) (.q (some 2) none (.mov (.tmp 16)) .done)))))))) false 1 [2],
  .reg (.q (some 6) none (.mov (.tmp 0)) (.l (some 7) none (.call 12 [(.tmp 6)]) [] (.q (some 5) none (.mov (.tmp 7)) (.q (some 8) none (.ext 0 (.tmp 5)) (.q (some 9) none (.ext 1 (.tmp 5)) (.q (some 3) none (.mov (.tmp 8)) (.q (some 4) none (.mov (.tmp 9)) .done))))))) false 2 [3, 4],
  .reg (.q (some 2) none (.mov (.const (.bool false))) .done) false 3 [0]
  ]
theorem c14_ok : cfgL Try.prog 14 = some (17, 4, c14.map Vc.Node.bare) := by kernel_rfl
/- strongbox/strongboxref11.Pushes: entry 13 -/
def c15 : List Vc.Node := [
  .ret [.t 2],
  .ret [.t 2],
  .reg (.q (some 23) none (.mov (.tmp 4)) (.q (some 2) none (.mov (.tmp 23)) .done)) false 1 [2],
  .jmp 10,
  .reg (.q (some 15) none (.mov (.tmp 5)) (.q (some 16) none (.bin .add (.tmp 15) (.const (.int .i64 1))) (.q (some 5) none (.mov (.tmp 16)) .done))) false 3 [3, 4, 5],
  .ret [.t 2],
  .reg (.q (some 2) none (.mov (.const (.bool false))) .done) false 5 [2],
  .cnd (.tmp 22) 6 4,
  .reg (.q (some 17) none (.mov (.tmp 3)) (.q (some 18) none (.mov (.tmp 5)) (.q (some 19) none (.iadrS 2 (.tmp 17) (.tmp 18)) (.q (some 20) none (.fadr 0 (.tmp 19)) (.q (some 21) none (.ld1 (.tmp 20)) (.q (some 22) none (.bin .gtr (.tmp 21) (.const (.int .u8 96))) .done)))))) false 7 [3, 4, 5, 22],
  .cnd (.tmp 14) 8 2,
  .reg (.q (some 11) none (.mov (.tmp 5)) (.q (some 12) none (.mov (.tmp 3)) (.q (some 13) none (.len (.tmp 12)) (.q (some 14) none (.bin .lss (.tmp 11) (.tmp 13)) .done)))) false 9 [3, 4, 5, 14],
  .reg (.q (some 5) none (.mov (.const (.int .i64 0))) .done) false 10 [3, 4, 5],
  .reg (.q (some 7) none (.mov (.tmp 0)) (.l (some 8) none (.call 13 [(.tmp 7)]) [] (.q (some 6) none (.mov (.tmp 8)) (.q (some 9) none (.ext 0 (.tmp 6)) (.q (some 10) none (.ext 1 (.tmp 6)) (.q (some 3) none (.mov (.tmp 9)) (.q (some 4) none (.mov (.tmp 10)) .done))))))) false 11 [3, 4],
  .reg (.q (some 2) none (.mov (.const (.bool false))) .done) false 12 [0]
  ]
theorem c15_ok : cfgL Try.prog 15 = some (24, 13, c15.map Vc.Node.bare) := by kernel_rfl
/- strongbox/strongboxref01.Kept: entry 16 -/
def c16 : List Vc.Node := [
  .ret [.t 4],
  .ret [.t 4],
  .reg (.q (some 4) none (.mov (.const (.bool true))) .done) false 1 [4],
  .jmp 10,
  .reg (.q (some 16) none (.mov (.tmp 5)) (.q (some 17) none (.bin .add (.tmp 16) (.const (.int .i64 1))) (.q (some 5) none (.mov (.tmp 17)) .done))) false 3 [0, 1, 5],
  .ret [.t 4],
  .reg (.q (some 4) none (.mov (.const (.bool false))) .done) false 5 [4],
  .cnd (.tmp 48) 6 4,
  .reg (.q (some 18) none (.mov (.tmp 5)) (.q (some 19) none (.mov (.tmp 1)) (.q (some 20) none (.len (.tmp 19)) (.q (some 21) none (.bin .lss (.tmp 18) (.tmp 20)) (.q (some 22) none (.mov (.tmp 21)) (.q (some 23) (some (22, true)) (.mov (.tmp 0)) (.q (some 24) (some (22, true)) (.mov (.tmp 5)) (.q (some 25) (some (22, true)) (.iadrS 1 (.tmp 23) (.tmp 24)) (.q (some 26) (some (22, true)) (.ld1 (.tmp 25)) (.q (some 27) (some (22, true)) (.mov (.tmp 1)) (.q (some 28) (some (22, true)) (.mov (.tmp 5)) (.q (some 29) (some (22, true)) (.iadrS 1 (.tmp 27) (.tmp 28)) (.q (some 30) (some (22, true)) (.ld1 (.tmp 29)) (.q (some 31) (some (22, true)) (.bin .neq (.tmp 26) (.tmp 30)) (.q (some 32) none (.pick (.tmp 22) (.tmp 31) (.const (.bool false))) (.q (some 33) none (.mov (.tmp 32)) (.q (some 34) (some (33, false)) (.mov (.tmp 5)) (.q (some 35) (some (33, false)) (.mov (.tmp 1)) (.q (some 36) (some (33, false)) (.len (.tmp 35)) (.q (some 37) (some (33, false)) (.bin .geq (.tmp 34) (.tmp 36)) (.q (some 38) (some (33, false)) (.mov (.tmp 37)) (.q (some 39) (some (38, true)) (.mov (.tmp 0)) (.q (some 40) (some (38, true)) (.mov (.tmp 5)) (.q (some 41) (some (38, true)) (.iadrS 1 (.tmp 39) (.tmp 40)) (.q (some 42) (some (38, true)) (.ld1 (.tmp 41)) (.q (some 43) (some (38, true)) (.mov (.tmp 5)) (.q (some 44) (some (38, true)) (.bin .add (.const (.int .i64 201)) (.tmp 43)) (.q (some 45) (some (38, true)) (.cvi .u8 (.tmp 44)) (.q (some 46) (some (38, true)) (.bin .neq (.tmp 42) (.tmp 45)) (.q (some 47) (some (33, false)) (.pick (.tmp 38) (.tmp 46) (.const (.bool false))) (.q (some 48) none (.pick (.tmp 33) (.const (.bool true)) (.tmp 47)) .done))))))))))))))))))))))))))))))) true 7 [0, 1, 5, 48],
  .cnd (.tmp 15) 8 2,
  .reg (.q (some 12) none (.mov (.tmp 5)) (.q (some 13) none (.mov (.tmp 0)) (.q (some 14) none (.len (.tmp 13)) (.q (some 15) none (.bin .lss (.tmp 12) (.tmp 14)) .done)))) false 9 [0, 1, 5, 15],
  .reg (.q (some 5) none (.mov (.const (.int .i64 0))) .done) false 10 [0, 1, 5],
  .ret [.t 4],
  .reg (.q (some 4) none (.mov (.const (.bool false))) .done) false 12 [4],
  .cnd (.tmp 11) 13 11,
  .reg (.q (some 6) none (.mov (.tmp 0)) (.q (some 7) none (.len (.tmp 6)) (.q (some 8) none (.mov (.tmp 1)) (.q (some 9) none (.len (.tmp 8)) (.q (some 10) none (.bin .add (.tmp 9) (.const (.int .i64 9))) (.q (some 11) none (.bin .neq (.tmp 7) (.tmp 10)) .done)))))) false 14 [0, 1, 11],
  .reg (.q (some 4) none (.mov (.const (.bool false))) .done) false 15 [0, 1]
  ]
theorem c16_ok : cfgL Try.prog 16 = some (49, 16, c16.map Vc.Node.bare) := by kernel_rfl
/- strongbox/strongboxref01.Equal: entry 3 -/
def c17 : List Vc.Node := [
  .ret [.t 4],
  .ret [.t 4],
  .reg (.q (some 5) none (.mov (.tmp 0)) (.q (some 6) none (.b2s (.tmp 5)) (.q (some 7) none (.mov (.tmp 1)) (.q (some 8) none (.b2s (.tmp 7)) (.q (some 9) none (.bin .eql (.tmp 6) (.tmp 8)) (.q (some 4) none (.mov (.tmp 9)) .done)))))) false 1 [4],
  .reg (.q (some 4) none (.mov (.const (.bool false))) .done) false 2 [0, 1]
  ]
theorem c17_ok : cfgL Try.prog 17 = some (10, 3, c17.map Vc.Node.bare) := by kernel_rfl
/- strongbox/script.Push: entry 26 -/
def c18 : List Vc.Node := [
  .ret [.t 2],
  .ret [.t 2],
  .reg (.l (some 64) none (.call 52 [(.tmp 3)]) [] (.q (some 2) none (.mov (.tmp 64)) .done)) false 1 [2],
  .reg (.q (some 62) none (.mov (.tmp 0)) (.l (some 63) none (.call 49 [(.tmp 3), (.tmp 62)]) [] .done)) false 2 [3],
  .ret [.t 2],
  .reg (.q (some 26) none (.mov (.tmp 0)) (.q (some 27) none (.iadrS 1 (.tmp 26) (.const (.int .i64 0))) (.q (some 28) none (.ld1 (.tmp 27)) (.q (some 29) none (.bin .add (.const (.int .u8 81)) (.tmp 28)) (.q (some 30) none (.bin .sub (.tmp 29) (.const (.int .u8 1))) (.l (some 31) none (.bldS 5 1 [(.tmp 30)]) [] (.q (some 2) none (.mov (.tmp 31)) .done))))))) false 4 [2],
  .ret [.t 2],
  .reg (.l (some 41) none (.bldS 5 1 [(.const (.int .u8 79))]) [] (.q (some 2) none (.mov (.tmp 41)) .done)) false 6 [2],
  .reg (.q (some 45) none (.mov (.tmp 4)) (.q (some 46) none (.cvi .u8 (.tmp 45)) (.l (some 47) none (.call 48 [(.tmp 3), (.tmp 46)]) [] .done))) false 3 [0, 3],
  .reg (.q (some 51) none (.mov (.tmp 4)) (.q (some 52) none (.cvi .u8 (.tmp 51)) (.l (some 53) none (.bldS 5 1 [(.const (.int .u8 76)), (.tmp 52)]) [] (.l (some 54) none (.call 49 [(.tmp 3), (.tmp 53)]) [] .done)))) false 3 [0, 3],
  .reg (.q (some 59) none (.mov (.tmp 4)) (.q (some 60) none (.cvi .u16 (.tmp 59)) (.l (some 61) none (.call 50 [(.tmp 3), (.tmp 60)]) [] .done))) false 3 [0, 3],
  .reg (.l (some 58) none (.call 48 [(.tmp 3), (.const (.int .u8 77))]) [] .done) false 10 [0, 3, 4],
  .reg (.q (some 8) none (.mov (.tmp 4)) (.q (some 9) none (.cvi .u32 (.tmp 8)) (.l (some 10) none (.call 51 [(.tmp 3), (.tmp 9)]) [] .done))) false 3 [0, 3],
  .reg (.l (some 7) none (.call 48 [(.tmp 3), (.const (.int .u8 78))]) [] .done) false 12 [0, 3, 4],
  .cnd (.tmp 55) 11 13,
  .reg (.q (some 56) none (.mov (.tmp 4)) (.q (some 57) none (.bin .lss (.tmp 56) (.const (.int .i64 65536))) (.q (some 55) none (.mov (.tmp 57)) .done))) false 14 [0, 3, 4, 55],
  .cnd (.tmp 48) 9 15,
  .reg (.q (some 49) none (.mov (.tmp 4)) (.q (some 50) none (.bin .lss (.tmp 49) (.const (.int .i64 256))) (.q (some 48) none (.mov (.tmp 50)) .done))) false 16 [0, 3, 4, 48],
  .cnd (.tmp 42) 8 17,
  .reg (.q (some 43) none (.mov (.tmp 4)) (.q (some 44) none (.bin .lss (.tmp 43) (.const (.int .i64 76))) (.q (some 42) none (.mov (.tmp 44)) .done))) false 18 [0, 3, 4, 42],
  .cnd (.tmp 32) 7 19,
  .reg (.q (some 33) none (.mov (.tmp 4)) (.q (some 34) none (.bin .eql (.tmp 33) (.const (.int .i64 1))) (.q (some 35) none (.mov (.tmp 34)) (.q (some 36) (some (35, true)) (.mov (.tmp 0)) (.q (some 37) (some (35, true)) (.iadrS 1 (.tmp 36) (.const (.int .i64 0))) (.q (some 38) (some (35, true)) (.ld1 (.tmp 37)) (.q (some 39) (some (35, true)) (.bin .eql (.tmp 38) (.const (.int .u8 129))) (.q (some 40) none (.pick (.tmp 35) (.tmp 39) (.const (.bool false))) (.q (some 32) none (.mov (.tmp 40)) .done))))))))) false 20 [0, 3, 4, 32],
  .cnd (.tmp 11) 5 21,
  .reg (.q (some 12) none (.mov (.tmp 4)) (.q (some 13) none (.bin .eql (.tmp 12) (.const (.int .i64 1))) (.q (some 14) none (.mov (.tmp 13)) (.q (some 15) (some (14, true)) (.mov (.tmp 0)) (.q (some 16) (some (14, true)) (.iadrS 1 (.tmp 15) (.const (.int .i64 0))) (.q (some 17) (some (14, true)) (.ld1 (.tmp 16)) (.q (some 18) (some (14, true)) (.bin .geq (.tmp 17) (.const (.int .u8 1))) (.q (some 19) none (.pick (.tmp 14) (.tmp 18) (.const (.bool false))) (.q (some 20) none (.mov (.tmp 19)) (.q (some 21) (some (20, true)) (.mov (.tmp 0)) (.q (some 22) (some (20, true)) (.iadrS 1 (.tmp 21) (.const (.int .i64 0))) (.q (some 23) (some (20, true)) (.ld1 (.tmp 22)) (.q (some 24) (some (20, true)) (.bin .leq (.tmp 23) (.const (.int .u8 16))) (.q (some 25) none (.pick (.tmp 20) (.tmp 24) (.const (.bool false))) (.q (some 11) none (.mov (.tmp 25)) .done))))))))))))))) false 22 [0, 3, 4, 11],
  .reg (.q (some 5) none (.mov (.tmp 0)) (.q (some 6) none (.len (.tmp 5)) (.q (some 4) none (.mov (.tmp 6)) .done))) false 23 [0, 3, 4],
  .reg (.l (some 3) none (.alloc 75 [(1, (.slice none 0 0))]) [] .done) false 24 [0, 3],
  .reg (.q (some 2) none (.mov (.const (.slice none 0 0))) .done) false 25 [0]
  ]
theorem c18_ok : cfgL Try.prog 18 = some (65, 26, c18.map Vc.Node.bare) := by kernel_rfl
/- strongbox/script.Kind: entry 37 -/
def c20 : List Vc.Node := [
  .ret [.t 2, .t 3],
  .ret [.t 2, .t 3],
  .reg (.q (some 2) none (.mov (.const (.int .i64 0))) (.q (some 3) none (.mov (.const (.slice none 0 0))) .done)) false 1 [2, 3],
  .ret [.t 2, .t 3],
  .reg (.q (some 84) none (.mov (.tmp 12)) (.l (some 85) none (.bldS 22 1 [(.tmp 84)]) [] (.q (some 2) none (.mov (.const (.int .i64 6))) (.q (some 3) none (.mov (.tmp 85)) .done)))) false 3 [2, 3],
  .cnd (.tmp 83) 4 2,
  .reg (.q (some 79) none (.mov (.tmp 13)) (.q (some 80) none (.mov (.tmp 79)) (.q (some 81) (some (80, true)) (.mov (.tmp 12)) (.l (some 82) (some (80, true)) (.call 14 [(.tmp 81)]) [] (.q (some 83) none (.pick (.tmp 80) (.tmp 82) (.const (.bool false))) .done))))) false 5 [12, 83],
  .reg (.q (some 74) none (.mov (.tmp 0)) (.l (some 75) none (.bldS 5 1 [(.const (.int .u8 106))]) [] (.l (some 76) none (.call 57 [(.tmp 74), (.tmp 75)]) [] (.q (some 73) none (.mov (.tmp 76)) (.q (some 77) none (.ext 0 (.tmp 73)) (.q (some 78) none (.ext 1 (.tmp 73)) (.q (some 12) none (.mov (.tmp 77)) (.q (some 13) none (.mov (.tmp 78)) .done)))))))) false 6 [12, 13],
  .ret [.t 2, .t 3],
  .reg (.q (some 72) none (.mov (.tmp 11)) (.q (some 2) none (.mov (.const (.int .i64 5))) (.q (some 3) none (.mov (.tmp 72)) .done))) false 8 [2, 3],
  .cnd (.tmp 71) 9 7,
  .reg (.q (some 70) none (.mov (.tmp 11)) (.q (some 71) none (.eqS true (.tmp 70) (.const (.slice none 0 0))) .done)) false 10 [0, 11, 71],
  .reg (.q (some 68) none (.mov (.tmp 0)) (.l (some 69) none (.call 56 [(.tmp 68)]) [] (.q (some 11) none (.mov (.tmp 69)) .done))) false 11 [0, 11],
  .ret [.t 2, .t 3],
  .reg (.q (some 63) none (.mov (.tmp 8)) (.q (some 64) none (.cvi .u8 (.tmp 63)) (.l (some 65) none (.bldS 5 1 [(.tmp 64)]) [] (.q (some 66) none (.mov (.tmp 9)) (.l (some 67) none (.bldS 22 1 [(.tmp 65), (.tmp 66)]) [] (.q (some 2) none (.mov (.const (.int .i64 7))) (.q (some 3) none (.mov (.tmp 67)) .done))))))) false 13 [2, 3],
  .ret [.t 2, .t 3],
  .reg (.q (some 51) none (.mov (.tmp 9)) (.l (some 52) none (.bldS 22 1 [(.tmp 51)]) [] (.q (some 2) none (.mov (.const (.int .i64 3))) (.q (some 3) none (.mov (.tmp 52)) .done)))) false 15 [2, 3],
  .ret [.t 2, .t 3],
  .reg (.q (some 61) none (.mov (.tmp 9)) (.l (some 62) none (.bldS 22 1 [(.tmp 61)]) [] (.q (some 2) none (.mov (.const (.int .i64 4))) (.q (some 3) none (.mov (.tmp 62)) .done)))) false 17 [2, 3],
  .cnd (.tmp 53) 18 14,
  .reg (.q (some 54) none (.mov (.tmp 8)) (.q (some 55) none (.bin .eql (.tmp 54) (.const (.int .i64 0))) (.q (some 56) none (.mov (.tmp 55)) (.q (some 57) (some (56, true)) (.mov (.tmp 9)) (.q (some 58) (some (56, true)) (.len (.tmp 57)) (.q (some 59) (some (56, true)) (.bin .eql (.tmp 58) (.const (.int .i64 32))) (.q (some 60) none (.pick (.tmp 56) (.tmp 59) (.const (.bool false))) (.q (some 53) none (.mov (.tmp 60)) .done)))))))) false 19 [8, 9, 53],
  .cnd (.tmp 43) 16 20,
  .reg (.q (some 44) none (.mov (.tmp 8)) (.q (some 45) none (.bin .eql (.tmp 44) (.const (.int .i64 0))) (.q (some 46) none (.mov (.tmp 45)) (.q (some 47) (some (46, true)) (.mov (.tmp 9)) (.q (some 48) (some (46, true)) (.len (.tmp 47)) (.q (some 49) (some (46, true)) (.bin .eql (.tmp 48) (.const (.int .i64 20))) (.q (some 50) none (.pick (.tmp 46) (.tmp 49) (.const (.bool false))) (.q (some 43) none (.mov (.tmp 50)) .done)))))))) false 21 [8, 9, 43],
  .cnd (.tmp 42) 22 12,
  .reg (.q (some 42) none (.mov (.tmp 10)) .done) false 23 [0, 8, 9, 42],
  .reg (.q (some 37) none (.mov (.tmp 0)) (.l (some 38) none (.call 23 [(.tmp 37)]) [] (.q (some 36) none (.mov (.tmp 38)) (.q (some 39) none (.ext 0 (.tmp 36)) (.q (some 40) none (.ext 1 (.tmp 36)) (.q (some 41) none (.ext 2 (.tmp 36)) (.q (some 8) none (.mov (.tmp 39)) (.q (some 9) none (.mov (.tmp 40)) (.q (some 10) none (.mov (.tmp 41)) .done))))))))) false 24 [0, 8, 9, 10],
  .ret [.t 2, .t 3],
  .reg (.q (some 34) none (.mov (.tmp 6)) (.l (some 35) none (.bldS 22 1 [(.tmp 34)]) [] (.q (some 2) none (.mov (.const (.int .i64 2))) (.q (some 3) none (.mov (.tmp 35)) .done)))) false 26 [2, 3],
  .cnd (.tmp 33) 27 25,
  .reg (.q (some 33) none (.mov (.tmp 7)) .done) false 28 [0, 6, 33],
  .reg (.q (some 27) none (.mov (.tmp 0)) (.l (some 28) none (.bldS 5 1 [(.const (.int .u8 169)), (.const (.int .u8 20))]) [] (.l (some 29) none (.bldS 5 1 [(.const (.int .u8 135))]) [] (.l (some 30) none (.call 55 [(.tmp 27), (.tmp 28), (.tmp 29), (.const (.int .i64 20))]) [] (.q (some 26) none (.mov (.tmp 30)) (.q (some 31) none (.ext 0 (.tmp 26)) (.q (some 32) none (.ext 1 (.tmp 26)) (.q (some 6) none (.mov (.tmp 31)) (.q (some 7) none (.mov (.tmp 32)) .done))))))))) false 29 [0, 6, 7],
  .ret [.t 2, .t 3],
  .reg (.q (some 24) none (.mov (.tmp 4)) (.l (some 25) none (.bldS 22 1 [(.tmp 24)]) [] (.q (some 2) none (.mov (.const (.int .i64 1))) (.q (some 3) none (.mov (.tmp 25)) .done)))) false 31 [2, 3],
  .cnd (.tmp 23) 32 30,
  .reg (.q (some 23) none (.mov (.tmp 5)) .done) false 33 [0, 4, 23],
  .reg (.q (some 17) none (.mov (.tmp 0)) (.l (some 18) none (.bldS 5 1 [(.const (.int .u8 118)), (.const (.int .u8 169)), (.const (.int .u8 20))]) [] (.l (some 19) none (.bldS 5 1 [(.const (.int .u8 136)), (.const (.int .u8 172))]) [] (.l (some 20) none (.call 55 [(.tmp 17), (.tmp 18), (.tmp 19), (.const (.int .i64 20))]) [] (.q (some 16) none (.mov (.tmp 20)) (.q (some 21) none (.ext 0 (.tmp 16)) (.q (some 22) none (.ext 1 (.tmp 16)) (.q (some 4) none (.mov (.tmp 21)) (.q (some 5) none (.mov (.tmp 22)) .done))))))))) false 34 [0, 4, 5],
  .reg (.q (some 14) none (.mov (.tmp 0)) (.l (some 15) none (.call 54 [(.tmp 14)]) [] (.q (some 0) none (.mov (.tmp 15)) .done))) false 35 [0],
  .reg (.q (some 2) none (.mov (.const (.int .i64 0))) (.q (some 3) none (.mov (.const (.slice none 0 0))) .done)) false 36 [0]
  ]
theorem c20_ok : cfgL Try.prog 20 = some (86, 37, c20.map Vc.Node.bare) := by kernel_rfl
/- strongbox/strongboxref11.Kind: entry 48 -/
def c21 : List Vc.Node := [
  .ret [.t 2, .t 3],
  .ret [.t 2, .t 3],
  .reg (.q (some 2) none (.mov (.const (.int .i64 0))) (.q (some 3) none (.mov (.const (.slice none 0 0))) .done)) false 1 [2, 3],
  .ret [.t 2, .t 3],
  .reg (.q (some 194) none (.mov (.tmp 0)) (.q (some 195) none (.slcS 1 (.tmp 194) (some (.const (.int .i64 1))) none) (.l (some 196) none (.call 32 [(.tmp 195)]) [] (.l (some 197) none (.bldS 22 1 [(.tmp 196)]) [] (.q (some 2) none (.mov (.const (.int .i64 6))) (.q (some 3) none (.mov (.tmp 197)) .done)))))) false 3 [2, 3],
  .cnd (.tmp 193) 4 2,
  .reg (.q (some 181) none (.mov (.tmp 4)) (.q (some 182) none (.bin .gtr (.tmp 181) (.const (.int .i64 0))) (.q (some 183) none (.mov (.tmp 182)) (.q (some 184) (some (183, true)) (.mov (.tmp 0)) (.q (some 185) (some (183, true)) (.iadrS 1 (.tmp 184) (.const (.int .i64 0))) (.q (some 186) (some (183, true)) (.ld1 (.tmp 185)) (.q (some 187) (some (183, true)) (.bin .eql (.tmp 186) (.const (.int .u8 106))) (.q (some 188) none (.pick (.tmp 183) (.tmp 187) (.const (.bool false))) (.q (some 189) none (.mov (.tmp 188)) (.q (some 190) (some (189, true)) (.mov (.tmp 0)) (.q (some 191) (some (189, true)) (.slcS 1 (.tmp 190) (some (.const (.int .i64 1))) none) (.l (some 192) (some (189, true)) (.call 15 [(.tmp 191)]) [] (.q (some 193) none (.pick (.tmp 189) (.tmp 192) (.const (.bool false))) .done))))))))))))) false 5 [0, 193],
  .ret [.t 2, .t 3],
  .reg (.q (some 180) none (.mov (.tmp 10)) (.q (some 2) none (.mov (.const (.int .i64 5))) (.q (some 3) none (.mov (.tmp 180)) .done))) false 7 [2, 3],
  .cnd (.tmp 179) 8 6,
  .reg (.q (some 179) none (.mov (.tmp 11)) .done) false 9 [0, 4, 10, 179],
  .jmp 16,
  .reg (.q (some 160) none (.mov (.tmp 12)) (.q (some 161) none (.bin .add (.tmp 160) (.const (.int .i64 1))) (.q (some 12) none (.mov (.tmp 161)) .done))) false 11 [0, 4, 7, 9, 10, 11, 12],
  .reg (.q (some 171) none (.mov (.tmp 10)) (.q (some 172) none (.mov (.tmp 7)) (.q (some 173) none (.mov (.tmp 12)) (.q (some 174) none (.iadrS 2 (.tmp 172) (.tmp 173)) (.q (some 175) none (.fadr 1 (.tmp 174)) (.q (some 176) none (.ld1 (.tmp 175)) (.l (some 177) none (.bldS 22 1 [(.tmp 176)]) [] (.l (some 178) none (.app 22 1 24 [(1, (.slice none 0 0))] (.tmp 171) (.tmp 177)) [] (.q (some 10) none (.mov (.tmp 178)) .done))))))))) false 12 [0, 4, 7, 9, 10, 11, 12],
  .reg (.q (some 162) none (.mov (.tmp 11)) (.q (some 163) none (.mov (.tmp 162)) (.q (some 164) (some (163, true)) (.mov (.tmp 7)) (.q (some 165) (some (163, true)) (.mov (.tmp 12)) (.q (some 166) (some (163, true)) (.iadrS 2 (.tmp 164) (.tmp 165)) (.q (some 167) (some (163, true)) (.fadr 0 (.tmp 166)) (.q (some 168) (some (163, true)) (.ld1 (.tmp 167)) (.q (some 169) (some (163, true)) (.bin .eql (.tmp 168) (.const (.int .u8 33))) (.q (some 170) none (.pick (.tmp 163) (.tmp 169) (.const (.bool false))) (.q (some 11) none (.mov (.tmp 170)) .done)))))))))) false 13 [0, 4, 7, 9, 10, 11, 12],
  .cnd (.tmp 159) 14 10,
  .reg (.q (some 157) none (.mov (.tmp 12)) (.q (some 158) none (.mov (.tmp 9)) (.q (some 159) none (.bin .leq (.tmp 157) (.tmp 158)) .done))) false 15 [0, 4, 7, 9, 10, 11, 12, 159],
  .reg (.q (some 12) none (.mov (.const (.int .i64 1))) .done) false 16 [0, 4, 7, 9, 10, 11, 12],
  .reg (.q (some 11) none (.mov (.const (.bool true))) .done) false 17 [0, 4, 7, 9, 10, 11],
  .reg (.q (some 149) none (.mov (.tmp 7)) (.q (some 150) none (.iadrS 2 (.tmp 149) (.const (.int .i64 0))) (.q (some 151) none (.fadr 0 (.tmp 150)) (.q (some 152) none (.ld1 (.tmp 151)) (.l (some 153) none (.call 59 [(.tmp 152)]) [] (.q (some 154) none (.cvi .u8 (.tmp 153)) (.l (some 155) none (.bldS 5 1 [(.tmp 154)]) [] (.l (some 156) none (.bldS 22 1 [(.tmp 155)]) [] (.q (some 10) none (.mov (.tmp 156)) .done))))))))) false 18 [0, 4, 7, 9, 10],
  .cnd (.tmp 148) 19 6,
  .reg (.q (some 103) none (.mov (.tmp 8)) (.q (some 104) none (.mov (.tmp 103)) (.q (some 105) (some (104, true)) (.mov (.tmp 9)) (.q (some 106) (some (104, true)) (.bin .geq (.tmp 105) (.const (.int .i64 1))) (.q (some 107) none (.pick (.tmp 104) (.tmp 106) (.const (.bool false))) (.q (some 108) none (.mov (.tmp 107)) (.q (some 109) (some (108, true)) (.mov (.tmp 9)) (.q (some 110) (some (108, true)) (.bin .leq (.tmp 109) (.const (.int .i64 16))) (.q (some 111) none (.pick (.tmp 108) (.tmp 110) (.const (.bool false))) (.q (some 112) none (.mov (.tmp 111)) (.q (some 113) (some (112, true)) (.mov (.tmp 7)) (.q (some 114) (some (112, true)) (.iadrS 2 (.tmp 113) (.const (.int .i64 0))) (.q (some 115) (some (112, true)) (.fadr 0 (.tmp 114)) (.q (some 116) (some (112, true)) (.ld1 (.tmp 115)) (.l (some 117) (some (112, true)) (.call 59 [(.tmp 116)]) [] (.q (some 118) (some (112, true)) (.bin .geq (.tmp 117) (.const (.int .i64 1))) (.q (some 119) none (.pick (.tmp 112) (.tmp 118) (.const (.bool false))) (.q (some 120) none (.mov (.tmp 119)) (.q (some 121) (some (120, true)) (.mov (.tmp 7)) (.q (some 122) (some (120, true)) (.iadrS 2 (.tmp 121) (.const (.int .i64 0))) (.q (some 123) (some (120, true)) (.fadr 0 (.tmp 122)) (.q (some 124) (some (120, true)) (.ld1 (.tmp 123)) (.l (some 125) (some (120, true)) (.call 59 [(.tmp 124)]) [] (.q (some 126) (some (120, true)) (.mov (.tmp 9)) (.q (some 127) (some (120, true)) (.bin .leq (.tmp 125) (.tmp 126)) (.q (some 128) none (.pick (.tmp 120) (.tmp 127) (.const (.bool false))) (.q (some 129) none (.mov (.tmp 128)) (.q (some 130) (some (129, true)) (.mov (.tmp 7)) (.q (some 131) (some (129, true)) (.mov (.tmp 9)) (.q (some 132) (some (129, true)) (.bin .add (.tmp 131) (.const (.int .i64 1))) (.q (some 133) (some (129, true)) (.iadrS 2 (.tmp 130) (.tmp 132)) (.q (some 134) (some (129, true)) (.fadr 0 (.tmp 133)) (.q (some 135) (some (129, true)) (.ld1 (.tmp 134)) (.l (some 136) (some (129, true)) (.call 59 [(.tmp 135)]) [] (.q (some 137) (some (129, true)) (.mov (.tmp 9)) (.q (some 138) (some (129, true)) (.bin .eql (.tmp 136) (.tmp 137)) (.q (some 139) none (.pick (.tmp 129) (.tmp 138) (.const (.bool false))) (.q (some 140) none (.mov (.tmp 139)) (.q (some 141) (some (140, true)) (.mov (.tmp 7)) (.q (some 142) (some (140, true)) (.mov (.tmp 9)) (.q (some 143) (some (140, true)) (.bin .add (.tmp 142) (.const (.int .i64 2))) (.q (some 144) (some (140, true)) (.iadrS 2 (.tmp 141) (.tmp 143)) (.q (some 145) (some (140, true)) (.fadr 0 (.tmp 144)) (.q (some 146) (some (140, true)) (.ld1 (.tmp 145)) (.q (some 147) (some (140, true)) (.bin .eql (.tmp 146) (.const (.int .u8 174))) (.q (some 148) none (.pick (.tmp 140) (.tmp 147) (.const (.bool false))) .done)))))))))))))))))))))))))))))))))))))))))))))) false 20 [0, 4, 7, 9, 148],
  .reg (.q (some 100) none (.mov (.tmp 7)) (.q (some 101) none (.len (.tmp 100)) (.q (some 102) none (.bin .sub (.tmp 101) (.const (.int .i64 3))) (.q (some 9) none (.mov (.tmp 102)) .done)))) false 21 [0, 4, 7, 8, 9],
  .reg (.q (some 96) none (.mov (.tmp 0)) (.l (some 97) none (.call 13 [(.tmp 96)]) [] (.q (some 95) none (.mov (.tmp 97)) (.q (some 98) none (.ext 0 (.tmp 95)) (.q (some 99) none (.ext 1 (.tmp 95)) (.q (some 7) none (.mov (.tmp 98)) (.q (some 8) none (.mov (.tmp 99)) .done))))))) false 22 [0, 4, 7, 8],
  .cnd (.tmp 94) 23 6,
  .reg (.q (some 85) none (.mov (.tmp 4)) (.q (some 86) none (.bin .gtr (.tmp 85) (.const (.int .i64 0))) (.q (some 87) none (.mov (.tmp 86)) (.q (some 88) (some (87, true)) (.mov (.tmp 0)) (.q (some 89) (some (87, true)) (.mov (.tmp 4)) (.q (some 90) (some (87, true)) (.bin .sub (.tmp 89) (.const (.int .i64 1))) (.q (some 91) (some (87, true)) (.iadrS 1 (.tmp 88) (.tmp 90)) (.q (some 92) (some (87, true)) (.ld1 (.tmp 91)) (.q (some 93) (some (87, true)) (.bin .eql (.tmp 92) (.const (.int .u8 174))) (.q (some 94) none (.pick (.tmp 87) (.tmp 93) (.const (.bool false))) .done)))))))))) false 24 [0, 4, 94],
  .ret [.t 2, .t 3],
  .reg (.q (some 80) none (.mov (.tmp 5)) (.q (some 81) none (.cvi .u8 (.tmp 80)) (.l (some 82) none (.bldS 5 1 [(.tmp 81)]) [] (.q (some 83) none (.mov (.tmp 6)) (.l (some 84) none (.bldS 22 1 [(.tmp 82), (.tmp 83)]) [] (.q (some 2) none (.mov (.const (.int .i64 7))) (.q (some 3) none (.mov (.tmp 84)) .done))))))) false 26 [2, 3],
  .cnd (.tmp 79) 27 25,
  .reg (.q (some 78) none (.mov (.tmp 5)) (.q (some 79) none (.bin .geq (.tmp 78) (.const (.int .i64 0))) .done)) false 28 [0, 4, 5, 6, 79],
  .ret [.t 2, .t 3],
  .reg (.q (some 76) none (.mov (.tmp 6)) (.l (some 77) none (.bldS 22 1 [(.tmp 76)]) [] (.q (some 2) none (.mov (.const (.int .i64 4))) (.q (some 3) none (.mov (.tmp 77)) .done)))) false 30 [2, 3],
  .cnd (.tmp 75) 31 29,
  .reg (.q (some 69) none (.mov (.tmp 5)) (.q (some 70) none (.bin .eql (.tmp 69) (.const (.int .i64 0))) (.q (some 71) none (.mov (.tmp 70)) (.q (some 72) (some (71, true)) (.mov (.tmp 6)) (.q (some 73) (some (71, true)) (.len (.tmp 72)) (.q (some 74) (some (71, true)) (.bin .eql (.tmp 73) (.const (.int .i64 32))) (.q (some 75) none (.pick (.tmp 71) (.tmp 74) (.const (.bool false))) .done))))))) false 32 [0, 4, 5, 6, 75],
  .ret [.t 2, .t 3],
  .reg (.q (some 67) none (.mov (.tmp 6)) (.l (some 68) none (.bldS 22 1 [(.tmp 67)]) [] (.q (some 2) none (.mov (.const (.int .i64 3))) (.q (some 3) none (.mov (.tmp 68)) .done)))) false 34 [2, 3],
  .cnd (.tmp 66) 35 33,
  .reg (.q (some 60) none (.mov (.tmp 5)) (.q (some 61) none (.bin .eql (.tmp 60) (.const (.int .i64 0))) (.q (some 62) none (.mov (.tmp 61)) (.q (some 63) (some (62, true)) (.mov (.tmp 6)) (.q (some 64) (some (62, true)) (.len (.tmp 63)) (.q (some 65) (some (62, true)) (.bin .eql (.tmp 64) (.const (.int .i64 20))) (.q (some 66) none (.pick (.tmp 62) (.tmp 65) (.const (.bool false))) .done))))))) false 36 [0, 4, 5, 6, 66],
  .reg (.q (some 56) none (.mov (.tmp 0)) (.l (some 57) none (.call 24 [(.tmp 56)]) [] (.q (some 55) none (.mov (.tmp 57)) (.q (some 58) none (.ext 0 (.tmp 55)) (.q (some 59) none (.ext 1 (.tmp 55)) (.q (some 5) none (.mov (.tmp 58)) (.q (some 6) none (.mov (.tmp 59)) .done))))))) false 37 [0, 4, 5, 6],
  .ret [.t 2, .t 3],
  .reg (.q (some 51) none (.mov (.tmp 0)) (.q (some 52) none (.slcS 1 (.tmp 51) (some (.const (.int .i64 2))) (some (.const (.int .i64 22)))) (.l (some 53) none (.call 32 [(.tmp 52)]) [] (.l (some 54) none (.bldS 22 1 [(.tmp 53)]) [] (.q (some 2) none (.mov (.const (.int .i64 2))) (.q (some 3) none (.mov (.tmp 54)) .done)))))) false 39 [2, 3],
  .cnd (.tmp 50) 40 38,
  .reg (.q (some 38) none (.mov (.tmp 4)) (.q (some 39) none (.bin .eql (.tmp 38) (.const (.int .i64 23))) (.q (some 40) none (.mov (.tmp 39)) (.q (some 41) (some (40, true)) (.mov (.tmp 0)) (.l (some 42) (some (40, true)) (.bldS 5 1 [(.const (.int .u8 169)), (.const (.int .u8 20))]) [] (.l (some 43) (some (40, true)) (.call 58 [(.tmp 41), (.tmp 42)]) [] (.q (some 44) none (.pick (.tmp 40) (.tmp 43) (.const (.bool false))) (.q (some 45) none (.mov (.tmp 44)) (.q (some 46) (some (45, true)) (.mov (.tmp 0)) (.q (some 47) (some (45, true)) (.iadrS 1 (.tmp 46) (.const (.int .i64 22))) (.q (some 48) (some (45, true)) (.ld1 (.tmp 47)) (.q (some 49) (some (45, true)) (.bin .eql (.tmp 48) (.const (.int .u8 135))) (.q (some 50) none (.pick (.tmp 45) (.tmp 49) (.const (.bool false))) .done))))))))))))) false 41 [0, 4, 50],
  .ret [.t 2, .t 3],
  .reg (.q (some 34) none (.mov (.tmp 0)) (.q (some 35) none (.slcS 1 (.tmp 34) (some (.const (.int .i64 3))) (some (.const (.int .i64 23)))) (.l (some 36) none (.call 32 [(.tmp 35)]) [] (.l (some 37) none (.bldS 22 1 [(.tmp 36)]) [] (.q (some 2) none (.mov (.const (.int .i64 1))) (.q (some 3) none (.mov (.tmp 37)) .done)))))) false 43 [2, 3],
  .cnd (.tmp 33) 44 42,
  .reg (.q (some 15) none (.mov (.tmp 4)) (.q (some 16) none (.bin .eql (.tmp 15) (.const (.int .i64 25))) (.q (some 17) none (.mov (.tmp 16)) (.q (some 18) (some (17, true)) (.mov (.tmp 0)) (.l (some 19) (some (17, true)) (.bldS 5 1 [(.const (.int .u8 118)), (.const (.int .u8 169)), (.const (.int .u8 20))]) [] (.l (some 20) (some (17, true)) (.call 58 [(.tmp 18), (.tmp 19)]) [] (.q (some 21) none (.pick (.tmp 17) (.tmp 20) (.const (.bool false))) (.q (some 22) none (.mov (.tmp 21)) (.q (some 23) (some (22, true)) (.mov (.tmp 0)) (.q (some 24) (some (22, true)) (.iadrS 1 (.tmp 23) (.const (.int .i64 23))) (.q (some 25) (some (22, true)) (.ld1 (.tmp 24)) (.q (some 26) (some (22, true)) (.bin .eql (.tmp 25) (.const (.int .u8 136))) (.q (some 27) none (.pick (.tmp 22) (.tmp 26) (.const (.bool false))) (.q (some 28) none (.mov (.tmp 27)) (.q (some 29) (some (28, true)) (.mov (.tmp 0)) (.q (some 30) (some (28, true)) (.iadrS 1 (.tmp 29) (.const (.int .i64 24))) (.q (some 31) (some (28, true)) (.ld1 (.tmp 30)) (.q (some 32) (some (28, true)) (.bin .eql (.tmp 31) (.const (.int .u8 172))) (.q (some 33) none (.pick (.tmp 28) (.tmp 32) (.const (.bool false))) .done))))))))))))))))))) false 45 [0, 4, 33],
  .reg (.q (some 13) none (.mov (.tmp 0)) (.q (some 14) none (.len (.tmp 13)) (.q (some 4) none (.mov (.tmp 14)) .done))) false 46 [0, 4],
  .reg (.q (some 2) none (.mov (.const (.int .i64 0))) (.q (some 3) none (.mov (.const (.slice none 0 0))) .done)) false 47 [0]
  ]
theorem c21_ok : cfgL Try.prog 21 = some (198, 48, c21.map Vc.Node.bare) := by kernel_rfl
/- strongbox/strongboxref01.Same: entry 16 -/
def c22 : List Vc.Node := [
  .ret [.t 4],
  .ret [.t 4],
  .reg (.q (some 4) none (.mov (.const (.bool true))) .done) false 1 [4],
  .jmp 10,
  .reg (.q (some 15) none (.mov (.tmp 5)) (.q (some 16) none (.bin .add (.tmp 15) (.const (.int .i64 1))) (.q (some 5) none (.mov (.tmp 16)) .done))) false 3 [0, 1, 5],
  .ret [.t 4],
  .reg (.q (some 4) none (.mov (.const (.bool false))) .done) false 5 [4],
  .cnd (.tmp 26) 6 4,
  .reg (.q (some 17) none (.mov (.tmp 0)) (.q (some 18) none (.mov (.tmp 5)) (.q (some 19) none (.iadrS 1 (.tmp 17) (.tmp 18)) (.q (some 20) none (.ld1 (.tmp 19)) (.q (some 21) none (.mov (.tmp 1)) (.q (some 22) none (.mov (.tmp 5)) (.q (some 23) none (.iadrS 1 (.tmp 21) (.tmp 22)) (.q (some 24) none (.ld1 (.tmp 23)) (.l (some 25) none (.call 17 [(.tmp 20), (.tmp 24)]) [] (.q (some 26) none (.not (.tmp 25)) .done)))))))))) true 7 [0, 1, 5, 26],
  .cnd (.tmp 14) 8 2,
  .reg (.q (some 11) none (.mov (.tmp 5)) (.q (some 12) none (.mov (.tmp 0)) (.q (some 13) none (.len (.tmp 12)) (.q (some 14) none (.bin .lss (.tmp 11) (.tmp 13)) .done)))) false 9 [0, 1, 5, 14],
  .reg (.q (some 5) none (.mov (.const (.int .i64 0))) .done) false 10 [0, 1, 5],
  .ret [.t 4],
  .reg (.q (some 4) none (.mov (.const (.bool false))) .done) false 12 [4],
  .cnd (.tmp 10) 13 11,
  .reg (.q (some 6) none (.mov (.tmp 0)) (.q (some 7) none (.len (.tmp 6)) (.q (some 8) none (.mov (.tmp 1)) (.q (some 9) none (.len (.tmp 8)) (.q (some 10) none (.bin .neq (.tmp 7) (.tmp 9)) .done))))) false 14 [0, 1, 10],
  .reg (.q (some 4) none (.mov (.const (.bool false))) .done) false 15 [0, 1]
  ]
theorem c22_ok : cfgL Try.prog 22 = some (27, 16, c22.map Vc.Node.bare) := by kernel_rfl
/- strongbox/script.Program: entry 7 -/
def c23 : List Vc.Node := [
  .ret [.t 2, .t 3, .t 4],
  .ret [.t 2, .t 3, .t 4],
  .reg (.q (some 30) none (.mov (.tmp 0)) (.q (some 31) none (.iadrS 1 (.tmp 30) (.const (.int .i64 0))) (.q (some 32) none (.ld1 (.tmp 31)) (.q (some 34) none (.mov (.tmp 0)) (.q (some 35) none (.slcS 1 (.tmp 34) (some (.const (.int .i64 2))) none) (.l (some 33) none (.call 60 [(.tmp 32)]) [] (.l (some 36) none (.call 54 [(.tmp 35)]) [] (.q (some 2) none (.mov (.tmp 33)) (.q (some 3) none (.mov (.tmp 36)) (.q (some 4) none (.mov (.const (.bool true))) .done)))))))))) true 1 [2, 3, 4],
  .ret [.t 2, .t 3, .t 4],
  .reg (.q (some 2) none (.mov (.const (.int .i64 0))) (.q (some 3) none (.mov (.const (.slice none 0 0))) (.q (some 4) none (.mov (.const (.bool false))) .done))) false 3 [2, 3, 4],
  .cnd (.tmp 29) 4 2,
  .reg (.q (some 5) none (.mov (.tmp 0)) (.q (some 6) none (.len (.tmp 5)) (.q (some 7) none (.bin .lss (.tmp 6) (.const (.int .i64 4))) (.q (some 8) none (.mov (.tmp 7)) (.q (some 9) (some (8, false)) (.mov (.tmp 0)) (.q (some 10) (some (8, false)) (.len (.tmp 9)) (.q (some 11) (some (8, false)) (.bin .gtr (.tmp 10) (.const (.int .i64 42))) (.q (some 12) none (.pick (.tmp 8) (.const (.bool true)) (.tmp 11)) (.q (some 13) none (.mov (.tmp 12)) (.q (some 14) (some (13, false)) (.mov (.tmp 0)) (.q (some 15) (some (13, false)) (.iadrS 1 (.tmp 14) (.const (.int .i64 0))) (.q (some 16) (some (13, false)) (.ld1 (.tmp 15)) (.l (some 17) (some (13, false)) (.call 60 [(.tmp 16)]) [] (.q (some 18) (some (13, false)) (.bin .lss (.tmp 17) (.const (.int .i64 0))) (.q (some 19) none (.pick (.tmp 13) (.const (.bool true)) (.tmp 18)) (.q (some 20) none (.mov (.tmp 19)) (.q (some 21) (some (20, false)) (.mov (.tmp 0)) (.q (some 22) (some (20, false)) (.iadrS 1 (.tmp 21) (.const (.int .i64 1))) (.q (some 23) (some (20, false)) (.ld1 (.tmp 22)) (.q (some 24) (some (20, false)) (.cvi .i64 (.tmp 23)) (.q (some 25) (some (20, false)) (.mov (.tmp 0)) (.q (some 26) (some (20, false)) (.len (.tmp 25)) (.q (some 27) (some (20, false)) (.bin .sub (.tmp 26) (.const (.int .i64 2))) (.q (some 28) (some (20, false)) (.bin .neq (.tmp 24) (.tmp 27)) (.q (some 29) none (.pick (.tmp 20) (.const (.bool true)) (.tmp 28)) .done))))))))))))))))))))))))) false 5 [0, 29],
  .reg (.q (some 2) none (.mov (.const (.int .i64 0))) (.q (some 3) none (.mov (.const (.slice none 0 0))) (.q (some 4) none (.mov (.const (.bool false))) .done))) false 6 [0]
  ]
theorem c23_ok : cfgL Try.prog 23 = some (37, 7, c23.map Vc.Node.bare) := by kernel_rfl
/- strongbox/strongboxref11.Program: entry 7 -/
def c24 : List Vc.Node := [
  .ret [.t 2, .t 3],
  .ret [.t 2, .t 3],
  .reg (.q (some 29) none (.mov (.tmp 0)) (.q (some 30) none (.iadrS 1 (.tmp 29) (.const (.int .i64 0))) (.q (some 31) none (.ld1 (.tmp 30)) (.q (some 33) none (.mov (.tmp 0)) (.q (some 34) none (.slcS 1 (.tmp 33) (some (.const (.int .i64 2))) none) (.l (some 32) none (.call 59 [(.tmp 31)]) [] (.l (some 35) none (.call 32 [(.tmp 34)]) [] (.q (some 2) none (.mov (.tmp 32)) (.q (some 3) none (.mov (.tmp 35)) .done))))))))) true 1 [2, 3],
  .ret [.t 2, .t 3],
  .reg (.q (some 2) none (.mov (.const (.int .i64 (-1)))) (.q (some 3) none (.mov (.const (.slice none 0 0))) .done)) false 3 [2, 3],
  .cnd (.tmp 28) 4 2,
  .reg (.q (some 4) none (.mov (.tmp 0)) (.q (some 5) none (.len (.tmp 4)) (.q (some 6) none (.bin .lss (.tmp 5) (.const (.int .i64 4))) (.q (some 7) none (.mov (.tmp 6)) (.q (some 8) (some (7, false)) (.mov (.tmp 0)) (.q (some 9) (some (7, false)) (.len (.tmp 8)) (.q (some 10) (some (7, false)) (.bin .gtr (.tmp 9) (.const (.int .i64 42))) (.q (some 11) none (.pick (.tmp 7) (.const (.bool true)) (.tmp 10)) (.q (some 12) none (.mov (.tmp 11)) (.q (some 13) (some (12, false)) (.mov (.tmp 0)) (.q (some 14) (some (12, false)) (.iadrS 1 (.tmp 13) (.const (.int .i64 0))) (.q (some 15) (some (12, false)) (.ld1 (.tmp 14)) (.l (some 16) (some (12, false)) (.call 59 [(.tmp 15)]) [] (.q (some 17) (some (12, false)) (.bin .lss (.tmp 16) (.const (.int .i64 0))) (.q (some 18) none (.pick (.tmp 12) (.const (.bool true)) (.tmp 17)) (.q (some 19) none (.mov (.tmp 18)) (.q (some 20) (some (19, false)) (.mov (.tmp 0)) (.q (some 21) (some (19, false)) (.iadrS 1 (.tmp 20) (.const (.int .i64 1))) (.q (some 22) (some (19, false)) (.ld1 (.tmp 21)) (.q (some 23) (some (19, false)) (.cvi .i64 (.tmp 22)) (.q (some 24) (some (19, false)) (.mov (.tmp 0)) (.q (some 25) (some (19, false)) (.len (.tmp 24)) (.q (some 26) (some (19, false)) (.bin .sub (.tmp 25) (.const (.int .i64 2))) (.q (some 27) (some (19, false)) (.bin .neq (.tmp 23) (.tmp 26)) (.q (some 28) none (.pick (.tmp 19) (.const (.bool true)) (.tmp 27)) .done))))))))))))))))))))))))) false 5 [0, 28],
  .reg (.q (some 2) none (.mov (.const (.int .i64 0))) (.q (some 3) none (.mov (.const (.slice none 0 0))) .done)) false 6 [0]
  ]
theorem c24_ok : cfgL Try.prog 24 = some (36, 7, c24.map Vc.Node.bare) := by kernel_rfl
/- strongbox/strongboxref01.Apart: entry 35 -/
def c25 : List Vc.Node := [
  .ret [.t 2],
  .ret [.t 2],
  .reg (.q (some 2) none (.mov (.const (.bool true))) .done) false 1 [2],
  .jmp 15,
  .reg (.q (some 56) none (.mov (.tmp 7)) (.q (some 57) none (.bin .add (.tmp 56) (.const (.int .i64 1))) (.q (some 7) none (.mov (.tmp 57)) .done))) false 3 [0, 7],
  .jmp 12,
  .reg (.q (some 65) none (.mov (.tmp 8)) (.q (some 66) none (.bin .add (.tmp 65) (.const (.int .i64 1))) (.q (some 8) none (.mov (.tmp 66)) .done))) false 5 [0, 7, 8],
  .ret [.t 2],
  .reg (.q (some 2) none (.mov (.const (.bool false))) .done) false 7 [2],
  .cnd (.tmp 79) 8 6,
  .reg (.q (some 67) none (.mov (.tmp 0)) (.q (some 68) none (.mov (.tmp 7)) (.q (some 69) none (.iadrS 1 (.tmp 67) (.tmp 68)) (.q (some 70) none (.ld1 (.tmp 69)) (.q (some 71) none (.mov (.tmp 8)) (.q (some 72) none (.iadrS 1 (.tmp 70) (.tmp 71)) (.q (some 73) none (.ld1 (.tmp 72)) (.q (some 74) none (.mov (.tmp 7)) (.q (some 75) none (.bin .mul (.const (.int .i64 7)) (.tmp 74)) (.q (some 76) none (.mov (.tmp 8)) (.q (some 77) none (.bin .add (.tmp 75) (.tmp 76)) (.q (some 78) none (.cvi .u8 (.tmp 77)) (.q (some 79) none (.bin .neq (.tmp 73) (.tmp 78)) .done))))))))))))) false 9 [0, 7, 8, 79],
  .cnd (.tmp 64) 10 4,
  .reg (.q (some 58) none (.mov (.tmp 8)) (.q (some 59) none (.mov (.tmp 0)) (.q (some 60) none (.mov (.tmp 7)) (.q (some 61) none (.iadrS 1 (.tmp 59) (.tmp 60)) (.q (some 62) none (.ld1 (.tmp 61)) (.q (some 63) none (.len (.tmp 62)) (.q (some 64) none (.bin .lss (.tmp 58) (.tmp 63)) .done))))))) false 11 [0, 7, 8, 64],
  .reg (.q (some 8) none (.mov (.const (.int .i64 0))) .done) false 12 [0, 7, 8],
  .cnd (.tmp 55) 13 2,
  .reg (.q (some 52) none (.mov (.tmp 7)) (.q (some 53) none (.mov (.tmp 0)) (.q (some 54) none (.len (.tmp 53)) (.q (some 55) none (.bin .lss (.tmp 52) (.tmp 54)) .done)))) false 14 [0, 7, 55],
  .reg (.q (some 7) none (.mov (.const (.int .i64 0))) .done) false 15 [0, 7],
  .jmp 22,
  .reg (.q (some 39) none (.mov (.tmp 5)) (.q (some 40) none (.bin .add (.tmp 39) (.const (.int .i64 1))) (.q (some 5) none (.mov (.tmp 40)) .done))) false 17 [0, 5],
  .reg (.q (some 47) none (.mov (.tmp 6)) (.q (some 48) none (.mov (.tmp 6)) (.q (some 49) none (.len (.tmp 48)) (.q (some 50) none (.bin .sub (.tmp 49) (.const (.int .i64 1))) (.q (some 51) none (.iadrS 1 (.tmp 47) (.tmp 50)) (.l none none (.st1 (.tmp 51) (.const (.int .u8 96))) [] .done)))))) false 18 [0, 5],
  .reg (.q (some 41) none (.mov (.tmp 0)) (.q (some 42) none (.mov (.tmp 5)) (.q (some 43) none (.iadrS 1 (.tmp 41) (.tmp 42)) (.q (some 44) none (.ld1 (.tmp 43)) (.l (some 45) none (.bldS 5 1 [(.const (.int .u8 99)), (.const (.int .u8 98)), (.const (.int .u8 97))]) [] (.l (some 46) none (.app 5 1 1 [(1, (.int .u8 0))] (.tmp 44) (.tmp 45)) [] (.q (some 6) none (.mov (.tmp 46)) .done))))))) false 19 [0, 5, 6],
  .cnd (.tmp 38) 20 16,
  .reg (.q (some 35) none (.mov (.tmp 5)) (.q (some 36) none (.mov (.tmp 0)) (.q (some 37) none (.len (.tmp 36)) (.q (some 38) none (.bin .lss (.tmp 35) (.tmp 37)) .done)))) false 21 [0, 5, 38],
  .reg (.q (some 5) none (.mov (.const (.int .i64 0))) .done) false 22 [0, 5],
  .jmp 33,
  .reg (.q (some 13) none (.mov (.tmp 3)) (.q (some 14) none (.bin .add (.tmp 13) (.const (.int .i64 1))) (.q (some 3) none (.mov (.tmp 14)) .done))) false 24 [0, 3],
  .jmp 30,
  .reg (.q (some 22) none (.mov (.tmp 4)) (.q (some 23) none (.bin .add (.tmp 22) (.const (.int .i64 1))) (.q (some 4) none (.mov (.tmp 23)) .done))) false 26 [0, 3, 4],
  .reg (.q (some 24) none (.mov (.tmp 0)) (.q (some 25) none (.mov (.tmp 3)) (.q (some 26) none (.iadrS 1 (.tmp 24) (.tmp 25)) (.q (some 27) none (.ld1 (.tmp 26)) (.q (some 28) none (.mov (.tmp 4)) (.q (some 29) none (.mov (.tmp 3)) (.q (some 30) none (.bin .mul (.const (.int .i64 7)) (.tmp 29)) (.q (some 31) none (.mov (.tmp 4)) (.q (some 32) none (.bin .add (.tmp 30) (.tmp 31)) (.q (some 33) none (.cvi .u8 (.tmp 32)) (.q (some 34) none (.iadrS 1 (.tmp 27) (.tmp 28)) (.l none none (.st1 (.tmp 34) (.tmp 33)) [] .done)))))))))))) false 27 [0, 3, 4],
  .cnd (.tmp 21) 28 25,
  .reg (.q (some 15) none (.mov (.tmp 4)) (.q (some 16) none (.mov (.tmp 0)) (.q (some 17) none (.mov (.tmp 3)) (.q (some 18) none (.iadrS 1 (.tmp 16) (.tmp 17)) (.q (some 19) none (.ld1 (.tmp 18)) (.q (some 20) none (.len (.tmp 19)) (.q (some 21) none (.bin .lss (.tmp 15) (.tmp 20)) .done))))))) false 29 [0, 3, 4, 21],
  .reg (.q (some 4) none (.mov (.const (.int .i64 0))) .done) false 30 [0, 3, 4],
  .cnd (.tmp 12) 31 23,
  .reg (.q (some 9) none (.mov (.tmp 3)) (.q (some 10) none (.mov (.tmp 0)) (.q (some 11) none (.len (.tmp 10)) (.q (some 12) none (.bin .lss (.tmp 9) (.tmp 11)) .done)))) false 32 [0, 3, 12],
  .reg (.q (some 3) none (.mov (.const (.int .i64 0))) .done) false 33 [0, 3],
  .reg (.q (some 2) none (.mov (.const (.bool false))) .done) false 34 [0]
  ]
theorem c25_ok : cfgL Try.prog 25 = some (80, 35, c25.map Vc.Node.bare) := by kernel_rfl
/- strongbox/script.Number: entry 20 -/
def c26 : List Vc.Node := [
  .ret [.t 2],
  .ret [.t 2],
  .reg (.q (some 49) none (.mov (.tmp 3)) (.q (some 2) none (.mov (.tmp 49)) .done)) false 1 [2],
  .reg (.q (some 41) none (.mov (.tmp 3)) (.q (some 42) none (.mov (.tmp 3)) (.q (some 43) none (.len (.tmp 42)) (.q (some 44) none (.bin .sub (.tmp 43) (.const (.int .i64 1))) (.q (some 45) none (.iadrS 1 (.tmp 41) (.tmp 44)) (.q (some 46) none (.ld1 (.tmp 45)) (.q (some 47) none (.bin .or (.tmp 46) (.const (.int .u8 128))) (.q (some 48) none (.iadrS 1 (.tmp 41) (.tmp 44)) (.l none none (.st1 (.tmp 48) (.tmp 47)) [] .done))))))))) false 2 [3],
  .cnd (.tmp 40) 3 2,
  .reg (.q (some 40) none (.mov (.tmp 4)) .done) false 4 [3, 40],
  .reg (.q (some 37) none (.mov (.tmp 3)) (.l (some 38) none (.bldS 5 1 [(.const (.int .u8 0))]) [] (.l (some 39) none (.app 5 1 1 [(1, (.int .u8 0))] (.tmp 37) (.tmp 38)) [] (.q (some 3) none (.mov (.tmp 39)) .done)))) false 5 [3, 4],
  .cnd (.tmp 36) 6 5,
  .reg (.q (some 27) none (.mov (.tmp 5)) (.q (some 28) none (.bin .geq (.tmp 27) (.const (.int .i64 0))) (.q (some 29) none (.mov (.tmp 28)) (.q (some 30) (some (29, true)) (.mov (.tmp 3)) (.q (some 31) (some (29, true)) (.mov (.tmp 5)) (.q (some 32) (some (29, true)) (.iadrS 1 (.tmp 30) (.tmp 31)) (.q (some 33) (some (29, true)) (.ld1 (.tmp 32)) (.q (some 34) (some (29, true)) (.bin .and (.tmp 33) (.const (.int .u8 128))) (.q (some 35) (some (29, true)) (.bin .neq (.tmp 34) (.const (.int .u8 0))) (.q (some 36) none (.pick (.tmp 29) (.tmp 35) (.const (.bool false))) .done)))))))))) false 7 [3, 4, 36],
  .reg (.q (some 24) none (.mov (.tmp 3)) (.q (some 25) none (.len (.tmp 24)) (.q (some 26) none (.bin .sub (.tmp 25) (.const (.int .i64 1))) (.q (some 5) none (.mov (.tmp 26)) .done)))) false 8 [3, 4, 5],
  .jmp 14,
  .reg (.q (some 17) none (.mov (.tmp 0)) (.q (some 18) none (.bin .shr (.tmp 17) (.const (.int .u64 8))) (.q (some 0) none (.mov (.tmp 18)) .done))) false 10 [0, 3, 4],
  .reg (.q (some 19) none (.mov (.tmp 3)) (.q (some 20) none (.mov (.tmp 0)) (.q (some 21) none (.cvi .u8 (.tmp 20)) (.l (some 22) none (.bldS 5 1 [(.tmp 21)]) [] (.l (some 23) none (.app 5 1 1 [(1, (.int .u8 0))] (.tmp 19) (.tmp 22)) [] (.q (some 3) none (.mov (.tmp 23)) .done)))))) false 11 [0, 3, 4],
  .cnd (.tmp 16) 12 9,
  .reg (.q (some 15) none (.mov (.tmp 0)) (.q (some 16) none (.bin .gtr (.tmp 15) (.const (.int .i64 0))) .done)) false 13 [0, 3, 4, 16],
  .reg (.q (some 9) none (.mov (.tmp 0)) (.q (some 10) none (.neg (.tmp 9)) (.q (some 11) none (.mov (.tmp 0)) (.q (some 12) none (.bin .add (.tmp 11) (.const (.int .i64 1))) (.q (some 13) none (.neg (.tmp 12)) (.q (some 14) none (.max [(.tmp 10), (.tmp 13)]) (.q (some 0) none (.mov (.tmp 14)) .done))))))) false 14 [0, 3, 4],
  .cnd (.tmp 8) 15 14,
  .reg (.q (some 8) none (.mov (.tmp 4)) .done) false 16 [0, 3, 4, 8],
  .reg (.q (some 6) none (.mov (.tmp 0)) (.q (some 7) none (.bin .lss (.tmp 6) (.const (.int .i64 0))) (.q (some 4) none (.mov (.tmp 7)) .done))) false 17 [0, 3, 4],
  .reg (.q (some 3) none (.mov (.const (.slice none 0 0))) .done) false 18 [0, 3],
  .reg (.q (some 2) none (.mov (.const (.slice none 0 0))) .done) false 19 [0]
  ]
theorem c26_ok : cfgL Try.prog 26 = some (50, 20, c26.map Vc.Node.bare) := by kernel_rfl
/- strongbox/script.Truth: entry 13 -/
def c28 : List Vc.Node := [
  .ret [.t 2],
  .ret [.t 2],
  .reg (.q (some 2) none (.mov (.const (.bool false))) .done) false 1 [2],
  .jmp 11,
  .reg (.q (some 25) none (.bin .add (.tmp 7) (.const (.int .i64 1))) (.q (some 7) none (.mov (.tmp 25)) .done)) false 3 [0, 5, 6, 7],
  .ret [.t 2],
  .reg (.q (some 2) none (.mov (.const (.bool true))) .done) false 5 [2],
  .cnd (.tmp 24) 6 4,
  .reg (.q (some 12) none (.mov (.tmp 4)) (.q (some 13) none (.bin .neq (.tmp 12) (.const (.int .u8 0))) (.q (some 14) none (.mov (.tmp 13)) (.q (some 15) (some (14, true)) (.mov (.tmp 4)) (.q (some 16) (some (14, true)) (.bin .neq (.tmp 15) (.const (.int .u8 128))) (.q (some 17) (some (14, true)) (.mov (.tmp 16)) (.q (some 18) (some (17, false)) (.mov (.tmp 3)) (.q (some 19) (some (17, false)) (.mov (.tmp 0)) (.q (some 20) (some (17, false)) (.len (.tmp 19)) (.q (some 21) (some (17, false)) (.bin .sub (.tmp 20) (.const (.int .i64 1))) (.q (some 22) (some (17, false)) (.bin .lss (.tmp 18) (.tmp 21)) (.q (some 23) (some (14, true)) (.pick (.tmp 17) (.const (.bool true)) (.tmp 22)) (.q (some 24) none (.pick (.tmp 14) (.tmp 23) (.const (.bool false))) .done))))))))))))) false 7 [0, 5, 6, 7, 24],
  .reg (.q (some 9) none (.mov (.tmp 7)) (.q (some 10) none (.iadrS 1 (.tmp 5) (.tmp 7)) (.q (some 11) none (.ld1 (.tmp 10)) (.q (some 3) none (.mov (.tmp 9)) (.q (some 4) none (.mov (.tmp 11)) .done))))) false 8 [0, 3, 4, 5, 6, 7],
  .cnd (.tmp 8) 9 2,
  .reg (.q (some 8) none (.bin .lss (.tmp 7) (.tmp 6)) .done) false 10 [0, 5, 6, 7, 8],
  .reg (.q (some 5) none (.mov (.tmp 0)) (.q (some 6) none (.len (.tmp 5)) (.q (some 7) none (.mov (.const (.int .i64 0))) .done))) false 11 [0, 5, 6, 7],
  .reg (.q (some 2) none (.mov (.const (.bool false))) .done) false 12 [0]
  ]
theorem c28_ok : cfgL Try.prog 28 = some (26, 13, c28.map Vc.Node.bare) := by kernel_rfl
/- strongbox/strongboxref01.Copy: entry 3 -/
def c32 : List Vc.Node := [
  .ret [.t 2],
  .ret [.t 2],
  .reg (.l (some 3) none (.bldS 5 1 []) [] (.q (some 4) none (.mov (.tmp 0)) (.l (some 5) none (.app 5 1 1 [(1, (.int .u8 0))] (.tmp 3) (.tmp 4)) [] (.q (some 2) none (.mov (.tmp 5)) .done)))) false 1 [2],
  .reg (.q (some 2) none (.mov (.const (.slice none 0 0))) .done) false 2 [0]
  ]
theorem c32_ok : cfgL Try.prog 32 = some (6, 3, c32.map Vc.Node.bare) := by kernel_rfl
/- strongbox/wire.Open: entry 3 -/
def c41 : List Vc.Node := [
  .ret [.t 2],
  .ret [.t 2],
  .reg (.q (some 3) none (.mov (.tmp 0)) (.l (some 4) none (.call 54 [(.tmp 3)]) [] (.q (some 5) none (.bld [.x 1 (.tmp 4), .z [(1, (.int .i64 0))]]) (.l (some 6) none (.box 92 (.tmp 5)) [] (.q (some 2) none (.mov (.tmp 6)) .done))))) false 1 [2],
  .reg (.q (some 2) none (.mov (.const (.pointer none))) .done) false 2 [0]
  ]
theorem c41_ok : cfgL Try.prog 41 = some (7, 3, c41.map Vc.Node.bare) := by kernel_rfl
/- (*strongbox/wire.Reader).Left: entry 3 -/
def c42 : List Vc.Node := [
  .ret [.t 2],
  .ret [.t 2],
  .reg (.q (some 3) none (.mov (.tmp 0)) (.q (some 4) none (.nc (.tmp 3)) (.q (some 5) none (.fadr 0 (.tmp 4)) (.q (some 6) none (.ld1 (.tmp 5)) (.q (some 7) none (.len (.tmp 6)) (.q (some 2) none (.mov (.tmp 7)) .done)))))) false 1 [2],
  .reg (.q (some 2) none (.mov (.const (.int .i64 0))) .done) false 2 [0]
  ]
theorem c42_ok : cfgL Try.prog 42 = some (8, 3, c42.map Vc.Node.bare) := by kernel_rfl
/- (*strongbox/wire.Reader).Err: entry 3 -/
def c43 : List Vc.Node := [
  .ret [.t 2],
  .ret [.t 2],
  .reg (.q (some 3) none (.mov (.tmp 0)) (.q (some 4) none (.nc (.tmp 3)) (.q (some 5) none (.fadr 1 (.tmp 4)) (.q (some 6) none (.ld1 (.tmp 5)) (.q (some 2) none (.mov (.tmp 6)) .done))))) false 1 [2],
  .reg (.q (some 2) none (.mov (.const (.int .i64 0))) .done) false 2 [0]
  ]
theorem c43_ok : cfgL Try.prog 43 = some (7, 3, c43.map Vc.Node.bare) := by kernel_rfl
/- strongbox/script.op: entry 20 -/
def c44 : List Vc.Node := [
  .ret [.cN 2 2],
  .ret [.cN 2 2],
  .reg (.q (some 42) none (.ldN 2 (.tmp 3)) (.l none none (.stN 2 (.tmp 2) (.tmp 42)) [] .done)) false 1 [2],
  .reg (.q (some 38) none (.mov (.tmp 0)) (.q (some 39) none (.mov (.tmp 4)) (.l (some 40) none (.call 66 [(.tmp 38), (.tmp 39)]) [] (.q (some 41) none (.fadr 1 (.tmp 3)) (.l none none (.st1 (.tmp 41) (.tmp 40)) [] .done))))) false 2 [2, 3],
  .cnd (.tmp 37) 3 2,
  .reg (.q (some 36) none (.mov (.tmp 4)) (.q (some 37) none (.bin .gtr (.tmp 36) (.const (.int .i64 0))) .done)) false 4 [0, 2, 3, 4, 37],
  .reg (.q (some 12) none (.fadr 0 (.tmp 3)) (.q (some 13) none (.ld1 (.tmp 12)) (.q (some 14) none (.cvi .i64 (.tmp 13)) (.q (some 4) none (.mov (.tmp 14)) .done)))) false 5 [0, 2, 3, 4],
  .reg (.q (some 19) none (.mov (.tmp 0)) (.l (some 20) none (.call 63 [(.tmp 19)]) [] (.q (some 21) none (.cvi .i64 (.tmp 20)) (.q (some 4) none (.mov (.tmp 21)) .done)))) false 5 [0, 2, 3, 4],
  .reg (.q (some 26) none (.mov (.tmp 0)) (.l (some 27) none (.call 64 [(.tmp 26)]) [] (.q (some 28) none (.cvi .i64 (.tmp 27)) (.q (some 4) none (.mov (.tmp 28)) .done)))) false 5 [0, 2, 3, 4],
  .reg (.q (some 33) none (.mov (.tmp 0)) (.l (some 34) none (.call 65 [(.tmp 33)]) [] (.q (some 35) none (.cvi .i64 (.tmp 34)) (.q (some 4) none (.mov (.tmp 35)) .done)))) false 5 [0, 2, 3, 4],
  .cnd (.tmp 29) 9 5,
  .reg (.q (some 30) none (.fadr 0 (.tmp 3)) (.q (some 31) none (.ld1 (.tmp 30)) (.q (some 32) none (.bin .eql (.tmp 31) (.const (.int .u8 78))) (.q (some 29) none (.mov (.tmp 32)) .done)))) false 10 [0, 2, 3, 4, 29],
  .cnd (.tmp 22) 8 11,
  .reg (.q (some 23) none (.fadr 0 (.tmp 3)) (.q (some 24) none (.ld1 (.tmp 23)) (.q (some 25) none (.bin .eql (.tmp 24) (.const (.int .u8 77))) (.q (some 22) none (.mov (.tmp 25)) .done)))) false 12 [0, 2, 3, 4, 22],
  .cnd (.tmp 15) 7 13,
  .reg (.q (some 16) none (.fadr 0 (.tmp 3)) (.q (some 17) none (.ld1 (.tmp 16)) (.q (some 18) none (.bin .eql (.tmp 17) (.const (.int .u8 76))) (.q (some 15) none (.mov (.tmp 18)) .done)))) false 14 [0, 2, 3, 4, 15],
  .cnd (.tmp 8) 6 15,
  .reg (.q (some 9) none (.fadr 0 (.tmp 3)) (.q (some 10) none (.ld1 (.tmp 9)) (.q (some 11) none (.bin .lss (.tmp 10) (.const (.int .u8 76))) (.q (some 8) none (.mov (.tmp 11)) .done)))) false 16 [0, 2, 3, 4, 8],
  .reg (.q (some 4) none (.mov (.const (.int .i64 0))) .done) false 17 [0, 2, 3, 4],
  .reg (.q (some 5) none (.mov (.tmp 0)) (.l (some 6) none (.call 63 [(.tmp 5)]) [] (.q (some 7) none (.bld [.x 1 (.tmp 6), .z [(1, (.slice none 0 0))]]) (.l (some 3) none (.alloc 37 [(1, (.int .u8 0)), (1, (.slice none 0 0))]) [] (.l none none (.stN 2 (.tmp 3) (.tmp 7)) [] .done))))) false 18 [0, 2, 3],
  .reg (.l (some 2) none (.alloc 37 [(1, (.int .u8 0)), (1, (.slice none 0 0))]) [] .done) false 19 [0, 2]
  ]
theorem c44_ok : cfgL Try.prog 44 = some (43, 20, c44.map Vc.Node.bare) := by kernel_rfl
/- strongbox/strongboxref01.Value: entry 10 -/
def c45 : List Vc.Node := [
  .ret [.t 2],
  .ret [.t 2],
  .reg (.q (some 20) none (.mov (.tmp 3)) (.q (some 2) none (.mov (.tmp 20)) .done)) false 1 [2],
  .jmp 7,
  .reg (.q (some 10) none (.mov (.tmp 4)) (.q (some 11) none (.bin .sub (.tmp 10) (.const (.int .i64 1))) (.q (some 4) none (.mov (.tmp 11)) .done))) false 3 [0, 3, 4],
  .reg (.q (some 12) none (.mov (.tmp 3)) (.q (some 13) none (.bin .mul (.tmp 12) (.const (.int .u64 256))) (.q (some 14) none (.mov (.tmp 0)) (.q (some 15) none (.mov (.tmp 4)) (.q (some 16) none (.iadrS 1 (.tmp 14) (.tmp 15)) (.q (some 17) none (.ld1 (.tmp 16)) (.q (some 18) none (.cvi .u64 (.tmp 17)) (.q (some 19) none (.bin .add (.tmp 13) (.tmp 18)) (.q (some 3) none (.mov (.tmp 19)) .done))))))))) false 4 [0, 3, 4],
  .cnd (.tmp 9) 5 2,
  .reg (.q (some 8) none (.mov (.tmp 4)) (.q (some 9) none (.bin .geq (.tmp 8) (.const (.int .i64 0))) .done)) false 6 [0, 3, 4, 9],
  .reg (.q (some 5) none (.mov (.tmp 0)) (.q (some 6) none (.len (.tmp 5)) (.q (some 7) none (.bin .sub (.tmp 6) (.const (.int .i64 1))) (.q (some 4) none (.mov (.tmp 7)) .done)))) false 7 [0, 3, 4],
  .reg (.q (some 3) none (.mov (.const (.int .u64 0))) .done) false 8 [0, 3],
  .reg (.q (some 2) none (.mov (.const (.int .u64 0))) .done) false 9 [0]
  ]
theorem c45_ok : cfgL Try.prog 45 = some (21, 10, c45.map Vc.Node.bare) := by kernel_rfl
/- slices.ContainsFunc[[]strongbox/script.Op,strongbox/script.Op]: entry 3 -/
def c46 : List Vc.Node := [
  .ret [.t 4],
  .ret [.t 4],
  .reg (.q (some 5) none (.mov (.tmp 0)) (.q (some 6) none (.mov (.tmp 1)) (.l (some 7) none (.call 67 [(.tmp 5), (.tmp 6)]) [] (.q (some 8) none (.bin .geq (.tmp 7) (.const (.int .i64 0))) (.q (some 4) none (.mov (.tmp 8)) .done))))) false 1 [4],
  .reg (.q (some 4) none (.mov (.const (.bool false))) .done) false 2 [0, 1]
  ]
theorem c46_ok : cfgL Try.prog 46 = some (9, 3, c46.map Vc.Node.bare) := by kernel_rfl
/- strongbox/script.Pushes$1: entry 3 -/
def c47 : List Vc.Node := [
  .ret [.t 2],
  .ret [.t 2],
  .reg (.q (some 3) none (.fadr 0 (.tmp 1)) (.q (some 4) none (.ld1 (.tmp 3)) (.q (some 5) none (.bin .gtr (.tmp 4) (.const (.int .u8 96))) (.q (some 2) none (.mov (.tmp 5)) .done)))) false 1 [2],
  .reg (.l (some 1) none (.box 37 (.tmp 0)) [] (.q (some 2) none (.mov (.const (.bool false))) .done)) false 2 [1]
  ]
theorem c47_ok : cfgL Try.prog 47 = some (6, 3, c47.map Vc.Node.bare) := by kernel_rfl
/- (*strongbox/wire.Writer).U8: entry 1 -/
def c48 : List Vc.Node := [
  .ret [],
  .reg (.q (some 4) none (.mov (.tmp 0)) (.q (some 5) none (.mov (.tmp 1)) (.q (some 6) none (.cvi .u64 (.tmp 5)) (.l (some 7) none (.call 68 [(.tmp 4), (.tmp 6), (.const (.int .i64 1))]) [] .done)))) false 0 []
  ]
theorem c48_ok : cfgL Try.prog 48 = some (8, 1, c48.map Vc.Node.bare) := by kernel_rfl
/- (*strongbox/wire.Writer).Raw: entry 1 -/
def c49 : List Vc.Node := [
  .ret [],
  .reg (.q (some 4) none (.mov (.tmp 0)) (.q (some 5) none (.mov (.tmp 0)) (.q (some 6) none (.nc (.tmp 5)) (.q (some 7) none (.fadr 0 (.tmp 6)) (.q (some 8) none (.ld1 (.tmp 7)) (.q (some 9) none (.mov (.tmp 1)) (.l (some 10) none (.app 5 1 1 [(1, (.int .u8 0))] (.tmp 8) (.tmp 9)) [] (.q (some 11) none (.nc (.tmp 4)) (.q (some 12) none (.fadr 0 (.tmp 11)) (.l none none (.st1 (.tmp 12) (.tmp 10)) [] .done)))))))))) false 0 []
  ]
theorem c49_ok : cfgL Try.prog 49 = some (13, 1, c49.map Vc.Node.bare) := by kernel_rfl
/- (*strongbox/wire.Writer).U16: entry 1 -/
def c50 : List Vc.Node := [
  .ret [],
  .reg (.q (some 4) none (.mov (.tmp 0)) (.q (some 5) none (.mov (.tmp 1)) (.q (some 6) none (.cvi .u64 (.tmp 5)) (.l (some 7) none (.call 68 [(.tmp 4), (.tmp 6), (.const (.int .i64 2))]) [] .done)))) false 0 []
  ]
theorem c50_ok : cfgL Try.prog 50 = some (8, 1, c50.map Vc.Node.bare) := by kernel_rfl
/- (*strongbox/wire.Writer).U32: entry 1 -/
def c51 : List Vc.Node := [
  .ret [],
  .reg (.q (some 4) none (.mov (.tmp 0)) (.q (some 5) none (.mov (.tmp 1)) (.q (some 6) none (.cvi .u64 (.tmp 5)) (.l (some 7) none (.call 68 [(.tmp 4), (.tmp 6), (.const (.int .i64 4))]) [] .done)))) false 0 []
  ]
theorem c51_ok : cfgL Try.prog 51 = some (8, 1, c51.map Vc.Node.bare) := by kernel_rfl
/- (*strongbox/wire.Writer).Out: entry 3 -/
def c52 : List Vc.Node := [
  .ret [.t 2],
  .ret [.t 2],
  .reg (.q (some 3) none (.mov (.tmp 0)) (.q (some 4) none (.nc (.tmp 3)) (.q (some 5) none (.fadr 0 (.tmp 4)) (.q (some 6) none (.ld1 (.tmp 5)) (.l (some 7) none (.call 54 [(.tmp 6)]) [] (.q (some 2) none (.mov (.tmp 7)) .done)))))) false 1 [2],
  .reg (.q (some 2) none (.mov (.const (.slice none 0 0))) .done) false 2 [0]
  ]
theorem c52_ok : cfgL Try.prog 52 = some (8, 3, c52.map Vc.Node.bare) := by kernel_rfl
/- strongbox/strongboxref01.Low: entry 11 -/
def c53 : List Vc.Node := [
  .ret [.t 4],
  .ret [.t 4],
  .reg (.q (some 20) none (.mov (.tmp 5)) (.q (some 4) none (.mov (.tmp 20)) .done)) false 1 [4],
  .jmp 8,
  .reg (.q (some 10) none (.mov (.tmp 6)) (.q (some 11) none (.bin .add (.tmp 10) (.const (.int .i64 1))) (.q (some 6) none (.mov (.tmp 11)) .done))) false 3 [0, 1, 5, 6],
  .reg (.q (some 18) none (.mov (.tmp 0)) (.q (some 19) none (.bin .quo (.tmp 18) (.const (.int .u64 256))) (.q (some 0) none (.mov (.tmp 19)) .done))) false 4 [0, 1, 5, 6],
  .reg (.q (some 12) none (.mov (.tmp 5)) (.q (some 13) none (.mov (.tmp 0)) (.q (some 14) none (.bin .rem (.tmp 13) (.const (.int .u64 256))) (.q (some 15) none (.cvi .u8 (.tmp 14)) (.l (some 16) none (.bldS 5 1 [(.tmp 15)]) [] (.l (some 17) none (.app 5 1 1 [(1, (.int .u8 0))] (.tmp 12) (.tmp 16)) [] (.q (some 5) none (.mov (.tmp 17)) .done))))))) false 5 [0, 1, 5, 6],
  .cnd (.tmp 9) 6 2,
  .reg (.q (some 7) none (.mov (.tmp 6)) (.q (some 8) none (.mov (.tmp 1)) (.q (some 9) none (.bin .lss (.tmp 7) (.tmp 8)) .done))) false 7 [0, 1, 5, 6, 9],
  .reg (.q (some 6) none (.mov (.const (.int .i64 0))) .done) false 8 [0, 1, 5, 6],
  .reg (.q (some 5) none (.mov (.const (.slice none 0 0))) .done) false 9 [0, 1, 5],
  .reg (.q (some 4) none (.mov (.const (.slice none 0 0))) .done) false 10 [0, 1]
  ]
theorem c53_ok : cfgL Try.prog 53 = some (21, 11, c53.map Vc.Node.bare) := by kernel_rfl
/- bytes.Clone: entry 7 -/
def c54 : List Vc.Node := [
  .ret [.t 2],
  .ret [.t 2],
  .reg (.l (some 5) none (.bldS 5 1 []) [] (.q (some 6) none (.mov (.tmp 0)) (.l (some 7) none (.app 5 1 1 [(1, (.int .u8 0))] (.tmp 5) (.tmp 6)) [] (.q (some 2) none (.mov (.tmp 7)) .done)))) false 1 [2],
  .ret [.t 2],
  .reg (.q (some 2) none (.mov (.const (.slice none 0 0))) .done) false 3 [2],
  .cnd (.tmp 4) 4 2,
  .reg (.q (some 3) none (.mov (.tmp 0)) (.q (some 4) none (.eqS false (.tmp 3) (.const (.slice none 0 0))) .done)) false 5 [0, 4],
  .reg (.q (some 2) none (.mov (.const (.slice none 0 0))) .done) false 6 [0]
  ]
theorem c54_ok : cfgL Try.prog 54 = some (8, 7, c54.map Vc.Node.bare) := by kernel_rfl
/- strongbox/script.between: entry 5 -/
def c55 : List Vc.Node := [
  .ret [.t 8, .t 9],
  .ret [.t 8, .t 9],
  .reg (.q (some 24) none (.mov (.tmp 0)) (.q (some 25) none (.mov (.tmp 10)) (.q (some 26) none (.mov (.tmp 25)) (.q (some 27) (some (26, true)) (.mov (.tmp 11)) (.q (some 28) none (.pick (.tmp 26) (.tmp 27) (.const (.bool false))) (.q (some 29) none (.mov (.tmp 28)) (.q (some 30) (some (29, true)) (.mov (.tmp 0)) (.q (some 31) (some (29, true)) (.len (.tmp 30)) (.q (some 32) (some (29, true)) (.mov (.tmp 3)) (.q (some 33) (some (29, true)) (.bin .eql (.tmp 31) (.tmp 32)) (.q (some 34) none (.pick (.tmp 29) (.tmp 33) (.const (.bool false))) (.q (some 8) none (.mov (.tmp 24)) (.q (some 9) none (.mov (.tmp 34)) .done))))))))))))) false 1 [8, 9],
  .reg (.q (some 19) none (.mov (.tmp 0)) (.q (some 20) none (.mov (.tmp 2)) (.l (some 21) none (.call 69 [(.tmp 19), (.tmp 20)]) [] (.q (some 18) none (.mov (.tmp 21)) (.q (some 22) none (.ext 0 (.tmp 18)) (.q (some 23) none (.ext 1 (.tmp 18)) (.q (some 0) none (.mov (.tmp 22)) (.q (some 11) none (.mov (.tmp 23)) .done)))))))) false 2 [0, 3, 10, 11],
  .reg (.q (some 13) none (.mov (.tmp 0)) (.q (some 14) none (.mov (.tmp 1)) (.l (some 15) none (.call 57 [(.tmp 13), (.tmp 14)]) [] (.q (some 12) none (.mov (.tmp 15)) (.q (some 16) none (.ext 0 (.tmp 12)) (.q (some 17) none (.ext 1 (.tmp 12)) (.q (some 0) none (.mov (.tmp 16)) (.q (some 10) none (.mov (.tmp 17)) .done)))))))) false 3 [0, 2, 3, 10],
  .reg (.q (some 8) none (.mov (.const (.slice none 0 0))) (.q (some 9) none (.mov (.const (.bool false))) .done)) false 4 [0, 1, 2, 3]
  ]
theorem c55_ok : cfgL Try.prog 55 = some (35, 5, c55.map Vc.Node.bare) := by kernel_rfl
/- strongbox/script.multi: entry 16 -/
def c56 : List Vc.Node := [
  .ret [.c1 2],
  .ret [.c1 2],
  .reg (.q (some 67) none (.ld1 (.tmp 6)) (.l none none (.st1 (.tmp 2) (.tmp 67)) [] .done)) false 1 [2],
  .bad,
  .reg (.q (some 54) none (.mov (.tmp 5)) (.l (some 55) none (.call 70 [(.tmp 54), (.const (.int .i64 34))]) [] .done)) false 3 [],
  .reg (.q (some 50) none (.mov (.tmp 3)) (.q (some 51) none (.cvi .u8 (.tmp 50)) (.l (some 52) none (.bldS 5 1 [(.tmp 51)]) [] (.l (some 53) none (.bldS 22 1 [(.tmp 52)]) [] (.l (some 6) none (.alloc 40 [(1, (.slice none 0 0))]) [] (.l none none (.st1 (.tmp 6) (.tmp 53)) [] .done)))))) false 4 [5],
  .ret [.c1 2],
  .reg (.l none none (.st1 (.tmp 2) (.const (.slice none 0 0))) [] .done) false 6 [2],
  .cnd (.tmp 49) 7 5,
  .reg (.q (some 36) none (.mov (.tmp 3)) (.q (some 37) none (.bin .lss (.tmp 36) (.const (.int .i64 1))) (.q (some 38) none (.mov (.tmp 37)) (.q (some 39) (some (38, false)) (.mov (.tmp 3)) (.q (some 40) (some (38, false)) (.mov (.tmp 4)) (.q (some 41) (some (38, false)) (.bin .gtr (.tmp 39) (.tmp 40)) (.q (some 42) none (.pick (.tmp 38) (.const (.bool true)) (.tmp 41)) (.q (some 43) none (.mov (.tmp 42)) (.q (some 44) (some (43, false)) (.mov (.tmp 5)) (.q (some 45) (some (43, false)) (.len (.tmp 44)) (.q (some 46) (some (43, false)) (.mov (.tmp 4)) (.q (some 47) (some (43, false)) (.bin .mul (.tmp 46) (.const (.int .i64 34))) (.q (some 48) (some (43, false)) (.bin .neq (.tmp 45) (.tmp 47)) (.q (some 49) none (.pick (.tmp 43) (.const (.bool true)) (.tmp 48)) .done)))))))))))))) false 8 [2, 3, 5, 49],
  .reg (.q (some 31) none (.mov (.tmp 0)) (.q (some 32) none (.mov (.tmp 0)) (.q (some 33) none (.len (.tmp 32)) (.q (some 34) none (.bin .sub (.tmp 33) (.const (.int .i64 2))) (.q (some 35) none (.slcS 1 (.tmp 31) (some (.const (.int .i64 1))) (some (.tmp 34))) (.q (some 5) none (.mov (.tmp 35)) .done)))))) false 9 [2, 3, 4, 5],
  .reg (.q (some 20) none (.mov (.tmp 0)) (.q (some 21) none (.iadrS 1 (.tmp 20) (.const (.int .i64 0))) (.q (some 22) none (.ld1 (.tmp 21)) (.q (some 24) none (.mov (.tmp 0)) (.q (some 25) none (.mov (.tmp 0)) (.q (some 26) none (.len (.tmp 25)) (.q (some 27) none (.bin .sub (.tmp 26) (.const (.int .i64 2))) (.q (some 28) none (.iadrS 1 (.tmp 24) (.tmp 27)) (.q (some 29) none (.ld1 (.tmp 28)) (.l (some 23) none (.call 60 [(.tmp 22)]) [⟨29, none, (.ld1 (.tmp 28))⟩] (.l (some 30) none (.call 60 [(.tmp 29)]) [] (.q (some 3) none (.mov (.tmp 23)) (.q (some 4) none (.mov (.tmp 30)) .done))))))))))))) true 10 [0, 2, 3, 4],
  .ret [.c1 2],
  .reg (.l none none (.st1 (.tmp 2) (.const (.slice none 0 0))) [] .done) false 12 [2],
  .cnd (.tmp 19) 13 11,
  .reg (.q (some 8) none (.mov (.tmp 0)) (.q (some 9) none (.len (.tmp 8)) (.q (some 10) none (.bin .lss (.tmp 9) (.const (.int .i64 3))) (.q (some 11) none (.mov (.tmp 10)) (.q (some 12) (some (11, false)) (.mov (.tmp 0)) (.q (some 13) (some (11, false)) (.mov (.tmp 0)) (.q (some 14) (some (11, false)) (.len (.tmp 13)) (.q (some 15) (some (11, false)) (.bin .sub (.tmp 14) (.const (.int .i64 1))) (.q (some 16) (some (11, false)) (.iadrS 1 (.tmp 12) (.tmp 15)) (.q (some 17) (some (11, false)) (.ld1 (.tmp 16)) (.q (some 18) (some (11, false)) (.bin .neq (.tmp 17) (.const (.int .u8 174))) (.q (some 19) none (.pick (.tmp 11) (.const (.bool true)) (.tmp 18)) .done)))))))))))) false 14 [0, 2, 19],
  .reg (.l (some 2) none (.alloc 40 [(1, (.slice none 0 0))]) [] .done) false 15 [0, 2]
  ]
theorem c56_ok : cfgL Try.prog 56 = some (68, 16, c56.map Vc.Node.bare) := by kernel_rfl
/- bytes.CutPrefix: entry 7 -/
def c57 : List Vc.Node := [
  .ret [.t 4, .t 5],
  .ret [.t 4, .t 5],
  .reg (.q (some 11) none (.mov (.tmp 0)) (.q (some 12) none (.mov (.tmp 1)) (.q (some 13) none (.len (.tmp 12)) (.q (some 14) none (.slcS 1 (.tmp 11) (some (.tmp 13)) none) (.q (some 4) none (.mov (.tmp 14)) (.q (some 5) none (.mov (.const (.bool true))) .done)))))) false 1 [4, 5],
  .ret [.t 4, .t 5],
  .reg (.q (some 10) none (.mov (.tmp 0)) (.q (some 4) none (.mov (.tmp 10)) (.q (some 5) none (.mov (.const (.bool false))) .done))) false 3 [4, 5],
  .cnd (.tmp 9) 4 2,
  .reg (.q (some 6) none (.mov (.tmp 0)) (.q (some 7) none (.mov (.tmp 1)) (.l (some 8) none (.call 71 [(.tmp 6), (.tmp 7)]) [] (.q (some 9) none (.not (.tmp 8)) .done)))) false 5 [0, 1, 9],
  .reg (.q (some 4) none (.mov (.const (.slice none 0 0))) (.q (some 5) none (.mov (.const (.bool false))) .done)) false 6 [0, 1]
  ]
theorem c57_ok : cfgL Try.prog 57 = some (15, 7, c57.map Vc.Node.bare) := by kernel_rfl
/- strongbox/strongboxref11.begins: entry 7 -/
def c58 : List Vc.Node := [
  .ret [.t 4],
  .ret [.t 4],
  .reg (.q (some 10) none (.mov (.tmp 0)) (.q (some 11) none (.mov (.tmp 1)) (.q (some 12) none (.len (.tmp 11)) (.q (some 13) none (.slcS 1 (.tmp 10) none (some (.tmp 12))) (.q (some 14) none (.mov (.tmp 1)) (.l (some 15) none (.call 17 [(.tmp 13), (.tmp 14)]) [] (.q (some 4) none (.mov (.tmp 15)) .done))))))) false 1 [4],
  .ret [.t 4],
  .reg (.q (some 4) none (.mov (.const (.bool false))) .done) false 3 [4],
  .cnd (.tmp 9) 4 2,
  .reg (.q (some 5) none (.mov (.tmp 0)) (.q (some 6) none (.len (.tmp 5)) (.q (some 7) none (.mov (.tmp 1)) (.q (some 8) none (.len (.tmp 7)) (.q (some 9) none (.bin .lss (.tmp 6) (.tmp 8)) .done))))) false 5 [0, 1, 9],
  .reg (.q (some 4) none (.mov (.const (.bool false))) .done) false 6 [0, 1]
  ]
theorem c58_ok : cfgL Try.prog 58 = some (16, 7, c58.map Vc.Node.bare) := by kernel_rfl
/- strongbox/strongboxref11.Small: entry 11 -/
def c59 : List Vc.Node := [
  .ret [.t 2],
  .ret [.t 2],
  .reg (.q (some 2) none (.mov (.const (.int .i64 (-1)))) .done) false 1 [2],
  .ret [.t 2],
  .reg (.q (some 11) none (.mov (.tmp 0)) (.q (some 12) none (.cvi .i64 (.tmp 11)) (.q (some 13) none (.bin .sub (.tmp 12) (.const (.int .i64 80))) (.q (some 2) none (.mov (.tmp 13)) .done)))) false 3 [2],
  .cnd (.tmp 10) 4 2,
  .reg (.q (some 5) none (.mov (.tmp 0)) (.q (some 6) none (.bin .geq (.tmp 5) (.const (.int .u8 81))) (.q (some 7) none (.mov (.tmp 6)) (.q (some 8) (some (7, true)) (.mov (.tmp 0)) (.q (some 9) (some (7, true)) (.bin .leq (.tmp 8) (.const (.int .u8 96))) (.q (some 10) none (.pick (.tmp 7) (.tmp 9) (.const (.bool false))) .done)))))) false 5 [0, 10],
  .ret [.t 2],
  .reg (.q (some 2) none (.mov (.const (.int .i64 0))) .done) false 7 [2],
  .cnd (.tmp 4) 8 6,
  .reg (.q (some 3) none (.mov (.tmp 0)) (.q (some 4) none (.bin .eql (.tmp 3) (.const (.int .u8 0))) .done)) false 9 [0, 4],
  .reg (.q (some 2) none (.mov (.const (.int .i64 0))) .done) false 10 [0]
  ]
theorem c59_ok : cfgL Try.prog 59 = some (14, 11, c59.map Vc.Node.bare) := by kernel_rfl
/- strongbox/script.small: entry 11 -/
def c60 : List Vc.Node := [
  .ret [.t 2],
  .ret [.t 2],
  .reg (.q (some 2) none (.mov (.const (.int .i64 (-1)))) .done) false 1 [2],
  .ret [.t 2],
  .reg (.q (some 2) none (.mov (.const (.int .i64 0))) .done) false 3 [2],
  .ret [.t 2],
  .reg (.q (some 13) none (.mov (.tmp 0)) (.q (some 14) none (.bin .sub (.tmp 13) (.const (.int .u8 81))) (.q (some 15) none (.cvi .i64 (.tmp 14)) (.q (some 16) none (.bin .add (.tmp 15) (.const (.int .i64 1))) (.q (some 2) none (.mov (.tmp 16)) .done))))) false 5 [2],
  .cnd (.tmp 6) 6 2,
  .reg (.q (some 7) none (.mov (.tmp 0)) (.q (some 8) none (.bin .geq (.tmp 7) (.const (.int .u8 81))) (.q (some 9) none (.mov (.tmp 8)) (.q (some 10) (some (9, true)) (.mov (.tmp 0)) (.q (some 11) (some (9, true)) (.bin .leq (.tmp 10) (.const (.int .u8 96))) (.q (some 12) none (.pick (.tmp 9) (.tmp 11) (.const (.bool false))) (.q (some 6) none (.mov (.tmp 12)) .done))))))) false 7 [0, 6],
  .cnd (.tmp 3) 4 8,
  .reg (.q (some 4) none (.mov (.tmp 0)) (.q (some 5) none (.bin .eql (.tmp 4) (.const (.int .u8 0))) (.q (some 3) none (.mov (.tmp 5)) .done))) false 9 [0, 3],
  .reg (.q (some 2) none (.mov (.const (.int .i64 0))) .done) false 10 [0]
  ]
theorem c60_ok : cfgL Try.prog 60 = some (17, 11, c60.map Vc.Node.bare) := by kernel_rfl
/- bytes.Equal: entry 3 -/
def c61 : List Vc.Node := [
  .ret [.t 4],
  .ret [.t 4],
  .reg (.q (some 5) none (.mov (.tmp 0)) (.q (some 6) none (.b2s (.tmp 5)) (.q (some 7) none (.mov (.tmp 1)) (.q (some 8) none (.b2s (.tmp 7)) (.q (some 9) none (.bin .eql (.tmp 6) (.tmp 8)) (.q (some 4) none (.mov (.tmp 9)) .done)))))) false 1 [4],
  .reg (.q (some 4) none (.mov (.const (.bool false))) .done) false 2 [0, 1]
  ]
theorem c61_ok : cfgL Try.prog 61 = some (10, 3, c61.map Vc.Node.bare) := by kernel_rfl
/- (*strongbox/wire.Reader).U8: entry 3 -/
def c63 : List Vc.Node := [
  .ret [.t 2],
  .ret [.t 2],
  .reg (.q (some 3) none (.mov (.tmp 0)) (.l (some 4) none (.call 72 [(.tmp 3), (.func 73)]) [] (.q (some 2) none (.mov (.tmp 4)) .done))) false 1 [2],
  .reg (.q (some 2) none (.mov (.const (.int .u8 0))) .done) false 2 [0]
  ]
theorem c63_ok : cfgL Try.prog 63 = some (5, 3, c63.map Vc.Node.bare) := by kernel_rfl
/- (*strongbox/wire.Reader).U16: entry 3 -/
def c64 : List Vc.Node := [
  .ret [.t 2],
  .ret [.t 2],
  .reg (.q (some 3) none (.mov (.tmp 0)) (.l (some 4) none (.call 75 [(.tmp 3), (.func 76)]) [] (.q (some 2) none (.mov (.tmp 4)) .done))) false 1 [2],
  .reg (.q (some 2) none (.mov (.const (.int .u16 0))) .done) false 2 [0]
  ]
theorem c64_ok : cfgL Try.prog 64 = some (5, 3, c64.map Vc.Node.bare) := by kernel_rfl
/- (*strongbox/wire.Reader).U32: entry 3 -/
def c65 : List Vc.Node := [
  .ret [.t 2],
  .ret [.t 2],
  .reg (.q (some 3) none (.mov (.tmp 0)) (.l (some 4) none (.call 77 [(.tmp 3), (.func 78)]) [] (.q (some 2) none (.mov (.tmp 4)) .done))) false 1 [2],
  .reg (.q (some 2) none (.mov (.const (.int .u32 0))) .done) false 2 [0]
  ]
theorem c65_ok : cfgL Try.prog 65 = some (5, 3, c65.map Vc.Node.bare) := by kernel_rfl
/- (*strongbox/wire.Reader).Raw: entry 3 -/
def c66 : List Vc.Node := [
  .ret [.t 4],
  .ret [.t 4],
  .reg (.q (some 5) none (.mov (.tmp 0)) (.q (some 6) none (.mkF 80 [] [(.tmp 3)]) (.l (some 7) none (.call 79 [(.tmp 5), (.tmp 6)]) [] (.q (some 4) none (.mov (.tmp 7)) .done)))) false 1 [4],
  .reg (.l (some 3) none (.box 3 (.tmp 1)) [] (.q (some 4) none (.mov (.const (.slice none 0 0))) .done)) false 2 [0, 3]
  ]
theorem c66_ok : cfgL Try.prog 66 = some (8, 3, c66.map Vc.Node.bare) := by kernel_rfl
/- slices.IndexFunc[[]strongbox/script.Op,strongbox/script.Op]: entry 13 -/
def c67 : List Vc.Node := [
  .ret [.t 4],
  .ret [.t 4],
  .reg (.q (some 4) none (.mov (.const (.int .i64 (-1)))) .done) false 1 [4],
  .jmp 11,
  .reg (.q (some 18) none (.bin .add (.tmp 8) (.const (.int .i64 1))) (.q (some 8) none (.mov (.tmp 18)) .done)) false 3 [0, 1, 7, 8],
  .ret [.t 4],
  .reg (.q (some 17) none (.mov (.tmp 5)) (.q (some 4) none (.mov (.tmp 17)) .done)) false 5 [4],
  .cnd (.tmp 16) 6 4,
  .reg (.q (some 11) none (.mov (.tmp 1)) (.q (some 12) none (.mov (.tmp 0)) (.q (some 13) none (.mov (.tmp 5)) (.q (some 14) none (.iadrS 2 (.tmp 12) (.tmp 13)) (.q (some 15) none (.ldN 2 (.tmp 14)) (.l (some 16) none (.callv (.tmp 11) [(.tmp 15)]) [] .done)))))) false 7 [0, 1, 5, 7, 8, 16],
  .reg (.q (some 10) none (.mov (.tmp 8)) (.q (some 5) none (.mov (.tmp 10)) .done)) false 8 [0, 1, 5, 7, 8],
  .cnd (.tmp 9) 9 2,
  .reg (.q (some 9) none (.bin .lss (.tmp 8) (.tmp 7)) .done) false 10 [0, 1, 7, 8, 9],
  .reg (.q (some 6) none (.mov (.tmp 0)) (.q (some 7) none (.len (.tmp 6)) (.q (some 8) none (.mov (.const (.int .i64 0))) .done))) false 11 [0, 1, 7, 8],
  .reg (.q (some 4) none (.mov (.const (.int .i64 0))) .done) false 12 [0, 1]
  ]
theorem c67_ok : cfgL Try.prog 67 = some (19, 13, c67.map Vc.Node.bare) := by kernel_rfl
/- (*strongbox/wire.Writer).number: entry 7 -/
def c68 : List Vc.Node := [
  .ret [],
  .jmp 6,
  .reg (.q (some 22) none (.bin .add (.tmp 7) (.const (.int .i64 1))) (.q (some 7) none (.mov (.tmp 22)) .done)) false 1 [0, 1, 6, 7],
  .reg (.q (some 20) none (.mov (.tmp 1)) (.q (some 21) none (.bin .shr (.tmp 20) (.const (.int .u64 8))) (.q (some 1) none (.mov (.tmp 21)) .done))) false 2 [0, 1, 6, 7],
  .reg (.q (some 9) none (.mov (.tmp 0)) (.q (some 10) none (.mov (.tmp 0)) (.q (some 11) none (.nc (.tmp 10)) (.q (some 12) none (.fadr 0 (.tmp 11)) (.q (some 13) none (.ld1 (.tmp 12)) (.q (some 14) none (.mov (.tmp 1)) (.q (some 15) none (.cvi .u8 (.tmp 14)) (.l (some 16) none (.bldS 5 1 [(.tmp 15)]) [] (.l (some 17) none (.app 5 1 1 [(1, (.int .u8 0))] (.tmp 13) (.tmp 16)) [] (.q (some 18) none (.nc (.tmp 9)) (.q (some 19) none (.fadr 0 (.tmp 18)) (.l none none (.st1 (.tmp 19) (.tmp 17)) [] .done)))))))))))) false 3 [0, 1, 6, 7],
  .cnd (.tmp 8) 4 0,
  .reg (.q (some 8) none (.bin .lss (.tmp 7) (.tmp 6)) .done) false 5 [0, 1, 6, 7, 8],
  .reg (.q (some 6) none (.mov (.tmp 2)) (.q (some 7) none (.mov (.const (.int .i64 0))) .done)) false 6 [0, 1, 6, 7]
  ]
theorem c68_ok : cfgL Try.prog 68 = some (23, 7, c68.map Vc.Node.bare) := by kernel_rfl
/- bytes.CutSuffix: entry 7 -/
def c69 : List Vc.Node := [
  .ret [.t 4, .t 5],
  .ret [.t 4, .t 5],
  .reg (.q (some 11) none (.mov (.tmp 0)) (.q (some 12) none (.mov (.tmp 0)) (.q (some 13) none (.len (.tmp 12)) (.q (some 14) none (.mov (.tmp 1)) (.q (some 15) none (.len (.tmp 14)) (.q (some 16) none (.bin .sub (.tmp 13) (.tmp 15)) (.q (some 17) none (.slcS 1 (.tmp 11) none (some (.tmp 16))) (.q (some 4) none (.mov (.tmp 17)) (.q (some 5) none (.mov (.const (.bool true))) .done))))))))) false 1 [4, 5],
  .ret [.t 4, .t 5],
  .reg (.q (some 10) none (.mov (.tmp 0)) (.q (some 4) none (.mov (.tmp 10)) (.q (some 5) none (.mov (.const (.bool false))) .done))) false 3 [4, 5],
  .cnd (.tmp 9) 4 2,
  .reg (.q (some 6) none (.mov (.tmp 0)) (.q (some 7) none (.mov (.tmp 1)) (.l (some 8) none (.call 82 [(.tmp 6), (.tmp 7)]) [] (.q (some 9) none (.not (.tmp 8)) .done)))) false 5 [0, 1, 9],
  .reg (.q (some 4) none (.mov (.const (.slice none 0 0))) (.q (some 5) none (.mov (.const (.bool false))) .done)) false 6 [0, 1]
  ]
theorem c69_ok : cfgL Try.prog 69 = some (18, 7, c69.map Vc.Node.bare) := by kernel_rfl
/- slices.Chunk[[]byte,byte]: entry 6 -/
def c70 : List Vc.Node := [
  .ret [.t 4],
  .ret [.t 4],
  .reg (.q (some 8) none (.mkF 83 [] [(.tmp 2), (.tmp 3)]) (.q (some 4) none (.mov (.tmp 8)) .done)) false 1 [4],
  .reg (.q (some 7) none (.mif 9 (.const (.string ⟨#[99, 97, 110, 110, 111, 116, 32, 98, 101, 32, 108, 101, 115, 115, 32, 116, 104, 97, 110, 32, 49]⟩))) (.l none none (.pan (.tmp 7)) [] .done)) false 2 [2, 3],
  .cnd (.tmp 6) 3 2,
  .reg (.q (some 5) none (.ld1 (.tmp 3)) (.q (some 6) none (.bin .lss (.tmp 5) (.const (.int .i64 1))) .done)) false 4 [2, 3, 6],
  .reg (.l (some 2) none (.box 22 (.tmp 0)) [] (.l (some 3) none (.box 3 (.tmp 1)) [] (.q (some 4) none (.mov (.const .nilFunc)) .done))) false 5 [2, 3]
  ]
theorem c70_ok : cfgL Try.prog 70 = some (9, 6, c70.map Vc.Node.bare) := by kernel_rfl
/- bytes.HasPrefix: entry 3 -/
def c71 : List Vc.Node := [
  .ret [.t 4],
  .ret [.t 4],
  .reg (.q (some 5) none (.mov (.tmp 0)) (.q (some 6) none (.len (.tmp 5)) (.q (some 7) none (.mov (.tmp 1)) (.q (some 8) none (.len (.tmp 7)) (.q (some 9) none (.bin .geq (.tmp 6) (.tmp 8)) (.q (some 10) none (.mov (.tmp 9)) (.q (some 11) (some (10, true)) (.mov (.tmp 0)) (.q (some 12) (some (10, true)) (.mov (.tmp 1)) (.q (some 13) (some (10, true)) (.len (.tmp 12)) (.q (some 14) (some (10, true)) (.slcS 1 (.tmp 11) none (some (.tmp 13))) (.q (some 15) (some (10, true)) (.mov (.tmp 1)) (.l (some 16) (some (10, true)) (.call 61 [(.tmp 14), (.tmp 15)]) [] (.q (some 17) none (.pick (.tmp 10) (.tmp 16) (.const (.bool false))) (.q (some 4) none (.mov (.tmp 17)) .done)))))))))))))) false 1 [4],
  .reg (.q (some 4) none (.mov (.const (.bool false))) .done) false 2 [0, 1]
  ]
theorem c71_ok : cfgL Try.prog 71 = some (18, 3, c71.map Vc.Node.bare) := by kernel_rfl
/- strongbox/wire.try[byte]: entry 8 -/
def c72 : List Vc.Node := [
  .ret [.c1 4],
  .ret [.c1 4],
  .reg (.q (some 16) none (.mov (.tmp 1)) (.q (some 17) none (.ld1 (.tmp 2)) (.l (some 18) none (.callv (.tmp 16) [(.tmp 17)]) [] (.l none none (.st1 (.tmp 4) (.tmp 18)) [] .done)))) false 1 [4],
  .ret [.c1 4],
  .cnd (.tmp 15) 3 2,
  .reg (.q (some 11) none (.ld1 (.tmp 2)) (.q (some 12) none (.nc (.tmp 11)) (.q (some 13) none (.fadr 1 (.tmp 12)) (.q (some 14) none (.ld1 (.tmp 13)) (.q (some 15) none (.bin .neq (.tmp 14) (.const (.int .i64 0))) .done))))) false 4 [1, 2, 4, 15],
  .dfr 10 84 [(.tmp 5), (.tmp 2), (.tmp 4)] 5 [1, 2, 4],
  .reg (.q (some 6) none (.ld1 (.tmp 2)) (.q (some 7) none (.nc (.tmp 6)) (.q (some 8) none (.fadr 0 (.tmp 7)) (.q (some 9) none (.ld1 (.tmp 8)) (.l (some 5) none (.alloc 22 [(1, (.slice none 0 0))]) [] (.l none none (.st1 (.tmp 5) (.tmp 9)) [] .done)))))) false 6 [1, 2, 4, 5],
  .reg (.l (some 2) none (.box 65 (.tmp 0)) [] (.l (some 4) none (.alloc 5 [(1, (.int .u8 0))]) [] .done)) false 7 [1, 2, 4]
  ]
theorem c72_ok : cfgL Try.prog 72 = some (19, 8, c72.map Vc.Node.bare) := by kernel_rfl
/- (*strongbox/wire.Reader).U8$1: entry 3 -/
def c73 : List Vc.Node := [
  .ret [.t 2],
  .ret [.t 2],
  .reg (.q (some 3) none (.mov (.tmp 0)) (.l (some 4) none (.call 74 [(.tmp 3), (.const (.int .i64 1))]) [] (.q (some 5) none (.cvi .u8 (.tmp 4)) (.q (some 2) none (.mov (.tmp 5)) .done)))) false 1 [2],
  .reg (.q (some 2) none (.mov (.const (.int .u8 0))) .done) false 2 [0]
  ]
theorem c73_ok : cfgL Try.prog 73 = some (6, 3, c73.map Vc.Node.bare) := by kernel_rfl
/- (*strongbox/wire.Reader).number: entry 11 -/
def c74 : List Vc.Node := [
  .ret [.t 4],
  .ret [.t 4],
  .reg (.q (some 25) none (.mov (.tmp 5)) (.q (some 4) none (.mov (.tmp 25)) .done)) false 1 [4],
  .jmp 8,
  .reg (.q (some 24) none (.bin .add (.tmp 12) (.const (.int .i64 1))) (.q (some 12) none (.mov (.tmp 24)) .done)) false 3 [5, 10, 11, 12],
  .reg (.q (some 17) none (.mov (.tmp 5)) (.q (some 18) none (.mov (.tmp 7)) (.q (some 19) none (.cvi .u64 (.tmp 18)) (.q (some 20) none (.mov (.tmp 6)) (.q (some 21) none (.bin .mul (.const (.int .i64 8)) (.tmp 20)) (.q (some 22) none (.bin .shl (.tmp 19) (.tmp 21)) (.q (some 23) none (.bin .or (.tmp 17) (.tmp 22)) (.q (some 5) none (.mov (.tmp 23)) .done)))))))) false 4 [5, 10, 11, 12],
  .reg (.q (some 14) none (.mov (.tmp 12)) (.q (some 15) none (.iadrS 1 (.tmp 10) (.tmp 12)) (.q (some 16) none (.ld1 (.tmp 15)) (.q (some 6) none (.mov (.tmp 14)) (.q (some 7) none (.mov (.tmp 16)) .done))))) false 5 [5, 6, 7, 10, 11, 12],
  .cnd (.tmp 13) 6 2,
  .reg (.q (some 13) none (.bin .lss (.tmp 12) (.tmp 11)) .done) false 7 [5, 10, 11, 12, 13],
  .reg (.q (some 8) none (.mov (.tmp 0)) (.q (some 9) none (.mov (.tmp 1)) (.l (some 10) none (.call 81 [(.tmp 8), (.tmp 9)]) [] (.q (some 11) none (.len (.tmp 10)) (.q (some 12) none (.mov (.const (.int .i64 0))) .done))))) false 8 [5, 10, 11, 12],
  .reg (.q (some 5) none (.mov (.const (.int .u64 0))) .done) false 9 [0, 1, 5],
  .reg (.q (some 4) none (.mov (.const (.int .u64 0))) .done) false 10 [0, 1]
  ]
theorem c74_ok : cfgL Try.prog 74 = some (26, 11, c74.map Vc.Node.bare) := by kernel_rfl
/- strongbox/wire.try[uint16]: entry 8 -/
def c75 : List Vc.Node := [
  .ret [.c1 4],
  .ret [.c1 4],
  .reg (.q (some 16) none (.mov (.tmp 1)) (.q (some 17) none (.ld1 (.tmp 2)) (.l (some 18) none (.callv (.tmp 16) [(.tmp 17)]) [] (.l none none (.st1 (.tmp 4) (.tmp 18)) [] .done)))) false 1 [4],
  .ret [.c1 4],
  .cnd (.tmp 15) 3 2,
  .reg (.q (some 11) none (.ld1 (.tmp 2)) (.q (some 12) none (.nc (.tmp 11)) (.q (some 13) none (.fadr 1 (.tmp 12)) (.q (some 14) none (.ld1 (.tmp 13)) (.q (some 15) none (.bin .neq (.tmp 14) (.const (.int .i64 0))) .done))))) false 4 [1, 2, 4, 15],
  .dfr 10 85 [(.tmp 5), (.tmp 2), (.tmp 4)] 5 [1, 2, 4],
  .reg (.q (some 6) none (.ld1 (.tmp 2)) (.q (some 7) none (.nc (.tmp 6)) (.q (some 8) none (.fadr 0 (.tmp 7)) (.q (some 9) none (.ld1 (.tmp 8)) (.l (some 5) none (.alloc 22 [(1, (.slice none 0 0))]) [] (.l none none (.st1 (.tmp 5) (.tmp 9)) [] .done)))))) false 6 [1, 2, 4, 5],
  .reg (.l (some 2) none (.box 65 (.tmp 0)) [] (.l (some 4) none (.alloc 79 [(1, (.int .u16 0))]) [] .done)) false 7 [1, 2, 4]
  ]
theorem c75_ok : cfgL Try.prog 75 = some (19, 8, c75.map Vc.Node.bare) := by kernel_rfl
/- (*strongbox/wire.Reader).U16$1: entry 3 -/
def c76 : List Vc.Node := [
  .ret [.t 2],
  .ret [.t 2],
  .reg (.q (some 3) none (.mov (.tmp 0)) (.l (some 4) none (.call 74 [(.tmp 3), (.const (.int .i64 2))]) [] (.q (some 5) none (.cvi .u16 (.tmp 4)) (.q (some 2) none (.mov (.tmp 5)) .done)))) false 1 [2],
  .reg (.q (some 2) none (.mov (.const (.int .u16 0))) .done) false 2 [0]
  ]
theorem c76_ok : cfgL Try.prog 76 = some (6, 3, c76.map Vc.Node.bare) := by kernel_rfl
/- strongbox/wire.try[uint32]: entry 8 -/
def c77 : List Vc.Node := [
  .ret [.c1 4],
  .ret [.c1 4],
  .reg (.q (some 16) none (.mov (.tmp 1)) (.q (some 17) none (.ld1 (.tmp 2)) (.l (some 18) none (.callv (.tmp 16) [(.tmp 17)]) [] (.l none none (.st1 (.tmp 4) (.tmp 18)) [] .done)))) false 1 [4],
  .ret [.c1 4],
  .cnd (.tmp 15) 3 2,
  .reg (.q (some 11) none (.ld1 (.tmp 2)) (.q (some 12) none (.nc (.tmp 11)) (.q (some 13) none (.fadr 1 (.tmp 12)) (.q (some 14) none (.ld1 (.tmp 13)) (.q (some 15) none (.bin .neq (.tmp 14) (.const (.int .i64 0))) .done))))) false 4 [1, 2, 4, 15],
  .dfr 10 86 [(.tmp 5), (.tmp 2), (.tmp 4)] 5 [1, 2, 4],
  .reg (.q (some 6) none (.ld1 (.tmp 2)) (.q (some 7) none (.nc (.tmp 6)) (.q (some 8) none (.fadr 0 (.tmp 7)) (.q (some 9) none (.ld1 (.tmp 8)) (.l (some 5) none (.alloc 22 [(1, (.slice none 0 0))]) [] (.l none none (.st1 (.tmp 5) (.tmp 9)) [] .done)))))) false 6 [1, 2, 4, 5],
  .reg (.l (some 2) none (.box 65 (.tmp 0)) [] (.l (some 4) none (.alloc 81 [(1, (.int .u32 0))]) [] .done)) false 7 [1, 2, 4]
  ]
theorem c77_ok : cfgL Try.prog 77 = some (19, 8, c77.map Vc.Node.bare) := by kernel_rfl
/- (*strongbox/wire.Reader).U32$1: entry 3 -/
def c78 : List Vc.Node := [
  .ret [.t 2],
  .ret [.t 2],
  .reg (.q (some 3) none (.mov (.tmp 0)) (.l (some 4) none (.call 74 [(.tmp 3), (.const (.int .i64 4))]) [] (.q (some 5) none (.cvi .u32 (.tmp 4)) (.q (some 2) none (.mov (.tmp 5)) .done)))) false 1 [2],
  .reg (.q (some 2) none (.mov (.const (.int .u32 0))) .done) false 2 [0]
  ]
theorem c78_ok : cfgL Try.prog 78 = some (6, 3, c78.map Vc.Node.bare) := by kernel_rfl
/- strongbox/wire.try[[]byte]: entry 8 -/
def c79 : List Vc.Node := [
  .ret [.c1 4],
  .ret [.c1 4],
  .reg (.q (some 16) none (.mov (.tmp 1)) (.q (some 17) none (.ld1 (.tmp 2)) (.l (some 18) none (.callv (.tmp 16) [(.tmp 17)]) [] (.l none none (.st1 (.tmp 4) (.tmp 18)) [] .done)))) false 1 [4],
  .ret [.c1 4],
  .cnd (.tmp 15) 3 2,
  .reg (.q (some 11) none (.ld1 (.tmp 2)) (.q (some 12) none (.nc (.tmp 11)) (.q (some 13) none (.fadr 1 (.tmp 12)) (.q (some 14) none (.ld1 (.tmp 13)) (.q (some 15) none (.bin .neq (.tmp 14) (.const (.int .i64 0))) .done))))) false 4 [1, 2, 4, 15],
  .dfr 10 87 [(.tmp 5), (.tmp 2), (.tmp 4)] 5 [1, 2, 4],
  .reg (.q (some 6) none (.ld1 (.tmp 2)) (.q (some 7) none (.nc (.tmp 6)) (.q (some 8) none (.fadr 0 (.tmp 7)) (.q (some 9) none (.ld1 (.tmp 8)) (.l (some 5) none (.alloc 22 [(1, (.slice none 0 0))]) [] (.l none none (.st1 (.tmp 5) (.tmp 9)) [] .done)))))) false 6 [1, 2, 4, 5],
  .reg (.l (some 2) none (.box 65 (.tmp 0)) [] (.l (some 4) none (.alloc 22 [(1, (.slice none 0 0))]) [] .done)) false 7 [1, 2, 4]
  ]
theorem c79_ok : cfgL Try.prog 79 = some (19, 8, c79.map Vc.Node.bare) := by kernel_rfl
/- (*strongbox/wire.Reader).Raw$1: entry 3 -/
def c80 : List Vc.Node := [
  .ret [.t 3],
  .ret [.t 3],
  .reg (.q (some 4) none (.mov (.tmp 0)) (.q (some 5) none (.ld1 (.tmp 1)) (.q (some 6) none (.max [(.tmp 5), (.const (.int .i64 0))]) (.l (some 7) none (.call 81 [(.tmp 4), (.tmp 6)]) [] (.l (some 8) none (.call 54 [(.tmp 7)]) [] (.q (some 3) none (.mov (.tmp 8)) .done)))))) false 1 [3],
  .reg (.q (some 3) none (.mov (.const (.slice none 0 0))) .done) false 2 [0, 1]
  ]
theorem c80_ok : cfgL Try.prog 80 = some (9, 3, c80.map Vc.Node.bare) := by kernel_rfl
/- (*strongbox/wire.Reader).take: entry 8 -/
def c81 : List Vc.Node := [
  .ret [.t 4],
  .ret [.t 4],
  .reg (.q (some 29) none (.mov (.tmp 5)) (.q (some 4) none (.mov (.tmp 29)) .done)) false 1 [4],
  .reg (.q (some 20) none (.mov (.tmp 0)) (.q (some 21) none (.mov (.tmp 0)) (.q (some 22) none (.nc (.tmp 21)) (.q (some 23) none (.fadr 0 (.tmp 22)) (.q (some 24) none (.ld1 (.tmp 23)) (.q (some 25) none (.mov (.tmp 1)) (.q (some 26) none (.slcS 1 (.tmp 24) (some (.tmp 25)) none) (.q (some 27) none (.nc (.tmp 20)) (.q (some 28) none (.fadr 0 (.tmp 27)) (.l none none (.st1 (.tmp 28) (.tmp 26)) [] .done)))))))))) false 2 [5],
  .reg (.q (some 14) none (.mov (.tmp 0)) (.q (some 15) none (.nc (.tmp 14)) (.q (some 16) none (.fadr 0 (.tmp 15)) (.q (some 17) none (.ld1 (.tmp 16)) (.q (some 18) none (.mov (.tmp 1)) (.q (some 19) none (.slcS 1 (.tmp 17) none (some (.tmp 18))) (.q (some 5) none (.mov (.tmp 19)) .done))))))) false 3 [0, 1, 5],
  .reg (.q (some 13) none (.mif 112 (.const (.int .i64 4))) (.l none none (.pan (.tmp 13)) [] .done)) false 4 [0, 1],
  .cnd (.tmp 12) 5 4,
  .reg (.q (some 6) none (.mov (.tmp 1)) (.q (some 7) none (.mov (.tmp 0)) (.q (some 8) none (.nc (.tmp 7)) (.q (some 9) none (.fadr 0 (.tmp 8)) (.q (some 10) none (.ld1 (.tmp 9)) (.q (some 11) none (.len (.tmp 10)) (.q (some 12) none (.bin .gtr (.tmp 6) (.tmp 11)) .done))))))) false 6 [0, 1, 12],
  .reg (.q (some 4) none (.mov (.const (.slice none 0 0))) .done) false 7 [0, 1]
  ]
theorem c81_ok : cfgL Try.prog 81 = some (30, 8, c81.map Vc.Node.bare) := by kernel_rfl
/- bytes.HasSuffix: entry 3 -/
def c82 : List Vc.Node := [
  .ret [.t 4],
  .ret [.t 4],
  .reg (.q (some 5) none (.mov (.tmp 0)) (.q (some 6) none (.len (.tmp 5)) (.q (some 7) none (.mov (.tmp 1)) (.q (some 8) none (.len (.tmp 7)) (.q (some 9) none (.bin .geq (.tmp 6) (.tmp 8)) (.q (some 10) none (.mov (.tmp 9)) (.q (some 11) (some (10, true)) (.mov (.tmp 0)) (.q (some 12) (some (10, true)) (.mov (.tmp 0)) (.q (some 13) (some (10, true)) (.len (.tmp 12)) (.q (some 14) (some (10, true)) (.mov (.tmp 1)) (.q (some 15) (some (10, true)) (.len (.tmp 14)) (.q (some 16) (some (10, true)) (.bin .sub (.tmp 13) (.tmp 15)) (.q (some 17) (some (10, true)) (.slcS 1 (.tmp 11) (some (.tmp 16)) none) (.q (some 18) (some (10, true)) (.mov (.tmp 1)) (.l (some 19) (some (10, true)) (.call 61 [(.tmp 17), (.tmp 18)]) [] (.q (some 20) none (.pick (.tmp 10) (.tmp 19) (.const (.bool false))) (.q (some 4) none (.mov (.tmp 20)) .done))))))))))))))))) false 1 [4],
  .reg (.q (some 4) none (.mov (.const (.bool false))) .done) false 2 [0, 1]
  ]
theorem c82_ok : cfgL Try.prog 82 = some (21, 3, c82.map Vc.Node.bare) := by kernel_rfl
/- strongbox/wire.try[byte]$1: entry 9 -/
def c84 : List Vc.Node := [
  .ret [],
  .reg (.q (some 18) none (.ld1 (.tmp 1)) (.q (some 19) none (.ld1 (.tmp 1)) (.q (some 20) none (.ld1 (.tmp 0)) (.q (some 21) none (.mov (.tmp 4)) (.q (some 22) none (.mov (.tmp 6)) (.q (some 23) none (.nc (.tmp 18)) (.q (some 24) none (.fadr 0 (.tmp 23)) (.l none none (.st1 (.tmp 24) (.tmp 20)) [] (.q (some 25) none (.nc (.tmp 19)) (.q (some 26) none (.fadr 1 (.tmp 25)) (.l none none (.st1 (.tmp 26) (.tmp 21)) [] (.l none none (.st1 (.tmp 2) (.tmp 22)) [] .done)))))))))))) false 0 [],
  .reg (.q (some 6) none (.mov (.const (.int .u8 0))) .done) false 1 [0, 1, 2, 4, 6],
  .reg (.q (some 17) none (.mov (.tmp 3)) (.l none none (.pan (.tmp 17)) [] .done)) false 2 [0, 1, 2, 4],
  .cnd (.tmp 16) 3 2,
  .reg (.q (some 15) none (.mov (.tmp 5)) (.q (some 16) none (.not (.tmp 15)) .done)) false 4 [0, 1, 2, 3, 4, 16],
  .reg (.q (some 11) none (.mov (.tmp 3)) (.q (some 12) none (.tas 112 .i64 (.tmp 11)) (.q (some 10) none (.mov (.tmp 12)) (.q (some 13) none (.ext 0 (.tmp 10)) (.q (some 14) none (.ext 1 (.tmp 10)) (.q (some 4) none (.mov (.tmp 13)) (.q (some 5) none (.mov (.tmp 14)) .done))))))) false 5 [0, 1, 2, 3, 4, 5],
  .cnd (.tmp 9) 6 0,
  .reg (.q (some 8) none (.mov (.tmp 3)) (.q (some 9) none (.eqI true (.tmp 8) (.const .nilIface)) .done)) false 7 [0, 1, 2, 3, 9],
  .rcv 7 3 8 [0, 1, 2, 3]
  ]
theorem c84_ok : cfgL Try.prog 84 = some (27, 9, c84.map Vc.Node.bare) := by kernel_rfl
/- strongbox/wire.try[uint16]$1: entry 9 -/
def c85 : List Vc.Node := [
  .ret [],
  .reg (.q (some 18) none (.ld1 (.tmp 1)) (.q (some 19) none (.ld1 (.tmp 1)) (.q (some 20) none (.ld1 (.tmp 0)) (.q (some 21) none (.mov (.tmp 4)) (.q (some 22) none (.mov (.tmp 6)) (.q (some 23) none (.nc (.tmp 18)) (.q (some 24) none (.fadr 0 (.tmp 23)) (.l none none (.st1 (.tmp 24) (.tmp 20)) [] (.q (some 25) none (.nc (.tmp 19)) (.q (some 26) none (.fadr 1 (.tmp 25)) (.l none none (.st1 (.tmp 26) (.tmp 21)) [] (.l none none (.st1 (.tmp 2) (.tmp 22)) [] .done)))))))))))) false 0 [],
  .reg (.q (some 6) none (.mov (.const (.int .u16 0))) .done) false 1 [0, 1, 2, 4, 6],
  .reg (.q (some 17) none (.mov (.tmp 3)) (.l none none (.pan (.tmp 17)) [] .done)) false 2 [0, 1, 2, 4],
  .cnd (.tmp 16) 3 2,
  .reg (.q (some 15) none (.mov (.tmp 5)) (.q (some 16) none (.not (.tmp 15)) .done)) false 4 [0, 1, 2, 3, 4, 16],
  .reg (.q (some 11) none (.mov (.tmp 3)) (.q (some 12) none (.tas 112 .i64 (.tmp 11)) (.q (some 10) none (.mov (.tmp 12)) (.q (some 13) none (.ext 0 (.tmp 10)) (.q (some 14) none (.ext 1 (.tmp 10)) (.q (some 4) none (.mov (.tmp 13)) (.q (some 5) none (.mov (.tmp 14)) .done))))))) false 5 [0, 1, 2, 3, 4, 5],
  .cnd (.tmp 9) 6 0,
  .reg (.q (some 8) none (.mov (.tmp 3)) (.q (some 9) none (.eqI true (.tmp 8) (.const .nilIface)) .done)) false 7 [0, 1, 2, 3, 9],
  .rcv 7 3 8 [0, 1, 2, 3]
  ]
theorem c85_ok : cfgL Try.prog 85 = some (27, 9, c85.map Vc.Node.bare) := by kernel_rfl
/- strongbox/wire.try[uint32]$1: entry 9 -/
def c86 : List Vc.Node := [
  .ret [],
  .reg (.q (some 18) none (.ld1 (.tmp 1)) (.q (some 19) none (.ld1 (.tmp 1)) (.q (some 20) none (.ld1 (.tmp 0)) (.q (some 21) none (.mov (.tmp 4)) (.q (some 22) none (.mov (.tmp 6)) (.q (some 23) none (.nc (.tmp 18)) (.q (some 24) none (.fadr 0 (.tmp 23)) (.l none none (.st1 (.tmp 24) (.tmp 20)) [] (.q (some 25) none (.nc (.tmp 19)) (.q (some 26) none (.fadr 1 (.tmp 25)) (.l none none (.st1 (.tmp 26) (.tmp 21)) [] (.l none none (.st1 (.tmp 2) (.tmp 22)) [] .done)))))))))))) false 0 [],
  .reg (.q (some 6) none (.mov (.const (.int .u32 0))) .done) false 1 [0, 1, 2, 4, 6],
  .reg (.q (some 17) none (.mov (.tmp 3)) (.l none none (.pan (.tmp 17)) [] .done)) false 2 [0, 1, 2, 4],
  .cnd (.tmp 16) 3 2,
  .reg (.q (some 15) none (.mov (.tmp 5)) (.q (some 16) none (.not (.tmp 15)) .done)) false 4 [0, 1, 2, 3, 4, 16],
  .reg (.q (some 11) none (.mov (.tmp 3)) (.q (some 12) none (.tas 112 .i64 (.tmp 11)) (.q (some 10) none (.mov (.tmp 12)) (.q (some 13) none (.ext 0 (.tmp 10)) (.q (some 14) none (.ext 1 (.tmp 10)) (.q (some 4) none (.mov (.tmp 13)) (.q (some 5) none (.mov (.tmp 14)) .done))))))) false 5 [0, 1, 2, 3, 4, 5],
  .cnd (.tmp 9) 6 0,
  .reg (.q (some 8) none (.mov (.tmp 3)) (.q (some 9) none (.eqI true (.tmp 8) (.const .nilIface)) .done)) false 7 [0, 1, 2, 3, 9],
  .rcv 7 3 8 [0, 1, 2, 3]
  ]
theorem c86_ok : cfgL Try.prog 86 = some (27, 9, c86.map Vc.Node.bare) := by kernel_rfl
/- strongbox/wire.try[[]byte]$1: entry 9 -/
def c87 : List Vc.Node := [
  .ret [],
  .reg (.q (some 18) none (.ld1 (.tmp 1)) (.q (some 19) none (.ld1 (.tmp 1)) (.q (some 20) none (.ld1 (.tmp 0)) (.q (some 21) none (.mov (.tmp 4)) (.q (some 22) none (.mov (.tmp 6)) (.q (some 23) none (.nc (.tmp 18)) (.q (some 24) none (.fadr 0 (.tmp 23)) (.l none none (.st1 (.tmp 24) (.tmp 20)) [] (.q (some 25) none (.nc (.tmp 19)) (.q (some 26) none (.fadr 1 (.tmp 25)) (.l none none (.st1 (.tmp 26) (.tmp 21)) [] (.l none none (.st1 (.tmp 2) (.tmp 22)) [] .done)))))))))))) false 0 [],
  .reg (.q (some 6) none (.mov (.const (.slice none 0 0))) .done) false 1 [0, 1, 2, 4, 6],
  .reg (.q (some 17) none (.mov (.tmp 3)) (.l none none (.pan (.tmp 17)) [] .done)) false 2 [0, 1, 2, 4],
  .cnd (.tmp 16) 3 2,
  .reg (.q (some 15) none (.mov (.tmp 5)) (.q (some 16) none (.not (.tmp 15)) .done)) false 4 [0, 1, 2, 3, 4, 16],
  .reg (.q (some 11) none (.mov (.tmp 3)) (.q (some 12) none (.tas 112 .i64 (.tmp 11)) (.q (some 10) none (.mov (.tmp 12)) (.q (some 13) none (.ext 0 (.tmp 10)) (.q (some 14) none (.ext 1 (.tmp 10)) (.q (some 4) none (.mov (.tmp 13)) (.q (some 5) none (.mov (.tmp 14)) .done))))))) false 5 [0, 1, 2, 3, 4, 5],
  .cnd (.tmp 9) 6 0,
  .reg (.q (some 8) none (.mov (.tmp 3)) (.q (some 9) none (.eqI true (.tmp 8) (.const .nilIface)) .done)) false 7 [0, 1, 2, 3, 9],
  .rcv 7 3 8 [0, 1, 2, 3]
  ]
theorem c87_ok : cfgL Try.prog 87 = some (27, 9, c87.map Vc.Node.bare) := by kernel_rfl
end Go.Proofs
namespace Go.Proofs
open Go.Vc
set_option maxRecDepth 10000

/-- The bytes as values. -/
def bv (bs : List Int) : List Value := bs.map (.int .u8)
theorem bv_len (bs : List Int) : (bv bs).length = bs.length := by simp [bv]
theorem bv_app (a b : List Int) : bv (a ++ b) = bv a ++ bv b := by simp [bv]
theorem bv_flat (bs : List Int) : flat (bv bs).toArray := by
  intro v hv; simp [bv] at hv; obtain ⟨_, _, rfl⟩ := hv; rfl
def byt (bs : List Int) : Prop := ∀ b ∈ bs, 0 ≤ b ∧ b ≤ 255
theorem byt_app {a b : List Int} (h : byt a) (k : byt b) : byt (a ++ b) := by
  intro x hx; rcases List.mem_append.1 hx with hx | hx; exact h x hx; exact k x hx
theorem byt_take {a : List Int} (h : byt a) (n : Nat) : byt (a.take n) := fun x hx => h x (List.mem_of_mem_take hx)
theorem byt_drop {a : List Int} (h : byt a) (n : Nat) : byt (a.drop n) := fun x hx => h x (List.mem_of_mem_drop hx)
theorem byt_nil : byt [] := fun _ h => by cases h

/-- A slice that reads as bytes. -/
structure Rd (w : World) (v : Value) (bs : List Int) : Prop where
  is : ∃ q c, v = .slice q bs.length c ∧ bs.length ≤ c
  mx : bs.length ≤ maxLen
  rd : rdS w 1 v = some (bv bs).toArray
theorem Rd.keep {S : Nat → Prop} {w w' : World} {v : Value} {bs : List Int} (h : Rd w v bs) (k : Keep S w w') (hS : ∀ q n c, v = .slice (some q) n c → ¬ S q.block) : Rd w' v bs := by
  obtain ⟨⟨q, c, rfl, hc⟩, hm, hr⟩ := h
  refine ⟨⟨q, c, rfl, hc⟩, hm, ?_⟩
  simp only [rdS] at hr ⊢
  split
  · rename_i h0; rw [if_pos h0] at hr; exact hr
  · rename_i h0
    rw [if_neg h0] at hr
    split at hr
    · rename_i b o
      rw [rdN_heap] at hr ⊢
      cases hb : w.heap[b]? with
      | none => rw [hb] at hr; cases hr
      | some x =>
        have hk := k.at hb (hS _ _ _ rfl)
        simp only [rdN_heap, hk]
        rw [hb] at hr; exact hr
    · cases hr
theorem Rd.ext {w w' : World} {v : Value} {bs : List Int} (h : Rd w v bs) (k : Ext w w') : Rd w' v bs := h.keep k fun _ _ _ _ h => h
theorem Rd.len {w : World} {v : Value} {bs : List Int} (h : Rd w v bs) : lenR v = some (.int .i64 bs.length) := by
  obtain ⟨⟨q, c, rfl, _⟩, _, _⟩ := h; rfl
theorem Rd.one {w : World} {v : Value} {bs : List Int} (h : Rd w v bs) : v.oneCell' = true := by
  obtain ⟨⟨q, c, rfl, _⟩, _, _⟩ := h; rfl
theorem Rd.at {w : World} {v : Value} {bs : List Int} (h : Rd w v bs) {i : Nat} (hi : i < bs.length) :
    ∃ b o c, v = .slice (some ⟨b, o, none⟩) bs.length c ∧ cellO w.heap[b]? (o + i) = some (.int .u8 bs[i]) := by
  obtain ⟨⟨q, c, rfl, _⟩, hm, hr⟩ := h
  simp only [rdS] at hr
  rw [if_neg (by omega)] at hr
  split at hr
  · rename_i b o
    refine ⟨b, o, c, rfl, ?_⟩
    rw [rdN_heap] at hr
    cases hb : w.heap[b]? with
    | none => rw [hb] at hr; cases hr
    | some x =>
      rw [hb] at hr
      cases x with
      | cells d t fr =>
        simp only [rdO] at hr
        split at hr
        · rename_i hle
          simp only [Option.some.injEq] at hr
          rw [cellO_some]
          have h1 : (d.extract o (o + bs.length * 1))[i]? = some (.int .u8 bs[i]) := by rw [hr]; simp [bv, hi]
          rw [Array.getElem?_extract] at h1
          split at h1
          · exact h1
          · cases h1
        · cases hr
      | _ => cases hr
  · cases hr
/-- The text of some bytes. -/
def strOf (bs : List Int) : ByteArray := ⟨(bs.map fun m => UInt8.ofNat m.toNat).toArray⟩
theorem bytesOf_bv (bs : List Int) : bytesOf (bv bs) = some (bs.map fun m => UInt8.ofNat m.toNat) := by
  induction bs with
  | nil => rfl
  | cons b bs ih =>
    have : bv (b :: bs) = .int .u8 b :: bv bs := rfl
    rw [this, bytesOf, ih]; rfl
theorem Rd.b2s {w : World} {v : Value} {bs : List Int} (h : Rd w v bs) : b2sR w v = some (.string (strOf bs)) := by
  obtain ⟨⟨q, c, rfl, hc⟩, hm, hr⟩ := h
  cases q with
  | none =>
    have hb0 : bs = [] := by
      cases bs with
      | nil => rfl
      | cons b bs => simp [rdS] at hr
    subst hb0; rfl
  | some a =>
    simp only [b2sR]
    by_cases h0 : bs.length = 0
    · have : bs = [] := List.eq_nil_of_length_eq_zero h0
      subst this; rfl
    · rw [if_neg h0]
      simp only [rdS, if_neg h0] at hr
      obtain ⟨b, o, sp⟩ := a
      cases sp with
      | some x => cases hr
      | none =>
        simp only [Nat.mul_one] at hr
        simp only [hr, Option.bind_some, bytesOf_bv, Option.map_some]
        rfl
theorem strOf_inj : ∀ {a b : List Int}, byt a → byt b → (strOf a = strOf b ↔ a = b) := by
  intro a b ha hb
  constructor
  · intro h
    have h1 : a.map (fun m => UInt8.ofNat m.toNat) = b.map (fun m => UInt8.ofNat m.toNat) := by
      have := congrArg (fun x : ByteArray => x.data.toList) h
      simpa [strOf] using this
    clear h
    induction a generalizing b with
    | nil => cases b with
      | nil => rfl
      | cons y b => simp at h1
    | cons x a ih =>
      cases b with
      | nil => simp at h1
      | cons y b =>
        simp only [List.map_cons, List.cons.injEq] at h1
        have hx := ha x (by simp)
        have hy := hb y (by simp)
        have h2 := congrArg UInt8.toNat h1.1
        simp only [UInt8.toNat_ofNat'] at h2
        have e : x = y := by omega
        rw [e, ih (fun z hz => ha z (by simp [hz])) (fun z hz => hb z (by simp [hz])) h1.2]
  · rintro rfl; rfl
/-- A part of the bytes. -/
theorem Rd.cut {w : World} {q : Option Addr} {n c : Nat} {bs : List Int} (h : Rd w (.slice q n c) bs) {l j : Nat} (hl : l ≤ j) (hj : j ≤ n) : Rd w (.slice (advA 1 q c l) (j - l) (c - l)) ((bs.take j).drop l) := by
  obtain ⟨⟨q', c', e, hc⟩, hm, hr⟩ := h
  cases e
  have hlen : ((bs.take j).drop l).length = j - l := by rw [List.length_drop, List.length_take]; omega
  refine ⟨⟨_, _, by rw [hlen], by omega⟩, by omega, ?_⟩
  simp only [rdS] at hr ⊢
  split
  · rename_i h0
    have : (bs.take j).drop l = [] := List.eq_nil_of_length_eq_zero (by omega)
    rw [this]; rfl
  · rename_i h0
    rw [if_neg (by omega)] at hr
    split at hr
    · rename_i b o
      rw [rdN_heap] at hr
      have hadv : advA 1 (some ⟨b, o, none⟩) c l = some ⟨b, o + l, none⟩ := by
        unfold advA
        rw [if_neg (by omega)]
        simp only [Option.map_some, Addr.add, Nat.mul_one]
        split
        · rename_i h0; subst h0; rfl
        · rfl
      rw [hadv]
      simp only [rdN_heap]
      cases hb : w.heap[b]? with
      | none => rw [hb] at hr; cases hr
      | some x =>
        rw [hb] at hr
        cases x with
        | cells d t fr =>
          simp only [rdO] at hr ⊢
          split at hr
          · rw [if_pos (by omega)]
            simp only [Option.some.injEq] at hr ⊢
            apply Array.ext'
            have h3 := congrArg (fun x => (x.toList.take j).drop l) hr
            simp only [Array.toList_extract, List.extract_eq_take_drop, List.take_take, List.drop_take, List.drop_drop] at h3 ⊢
            rw [show o + l + (j - l) * 1 - (o + l) = j - l by omega]
            rw [show min j (o + bs.length * 1 - o) - l = j - l by omega] at h3
            rw [h3]; simp [bv, List.map_take, List.map_drop, List.drop_take]
          · cases hr
        | _ => cases hr
    · cases hr
theorem Rd.nil (w : World) : Rd w (.slice none 0 0) [] := ⟨⟨none, 0, rfl, Nat.le_refl _⟩, Nat.zero_le _, rfl⟩

/-- A slice of bytes of one's own. -/
abbrev Own1 (w : World) (v : Value) (bs : List Int) : Prop := w.ownsRow 0 5 1 v bs.length (bv bs)
theorem Own1.rd {w : World} {v : Value} {bs : List Int} (h : Own1 w v bs) : Rd w v bs := by
  refine ⟨?_, row_max h, rdS_own h⟩
  obtain ⟨_, ⟨rfl, h0⟩ | ⟨g, cap, cur, rfl, _, _, hn, _⟩⟩ := h
  · exact ⟨none, 0, by rw [h0], by omega⟩
  · exact ⟨_, _, rfl, hn⟩
theorem Own1.nil (w : World) : Own1 w (.slice none 0 0) [] := ⟨rfl, .inl ⟨rfl, rfl⟩⟩
theorem row_type {w : World} {base el size n : Nat} {v : Value} {xs : List Value} (h : w.ownsRow base el size v n xs) {g : Nat} (hg : v.ownBlock = some g) : ∃ cur, w.heap[g]? = some (.cells cur el (0, 0)) := by
  obtain ⟨_, ⟨rfl, _⟩ | ⟨g', cap, cur, rfl, hbg, hh, _⟩⟩ := h
  · cases hg
  · cases hg; exact ⟨cur, hh⟩
/-- 'b' is the block of the slice. -/
def blk (v : Value) (g : Nat) : Prop := v.ownBlock = some g
theorem Own1.lt {w : World} {v : Value} {bs : List Int} (h : Own1 w v bs) {g : Nat} (hg : blk v g) : g < w.heap.size := by
  obtain ⟨cur, hc⟩ := row_type h hg
  exact lt_of_heap hc
theorem Own1.keep {S : Nat → Prop} {w w' : World} {v : Value} {bs : List Int} (h : Own1 w v bs) (k : Keep S w w') (hS : ∀ g, blk v g → ¬ S g) : Own1 w' v bs := ownsRow_keep h k hS
theorem Own1.ext {w w' : World} {v : Value} {bs : List Int} (h : Own1 w v bs) (k : Ext w w') : Own1 w' v bs := ownsRow_keep h k fun _ _ h => h
theorem own_lit {w : World} {el size n : Nat} {cs : List Value} (hl : cs.length = n * size) (hn : n ≤ maxLen) : (w.alloc (.cells cs.toArray el)).ownsRow 0 el size (.slice (some ⟨w.heap.size, 0, none⟩) n n) n cs := by
  refine ⟨hl, .inr ⟨w.heap.size, n, cs.toArray, rfl, Nat.zero_le _, heap_new _ _ _ rfl, Nat.le_refl _, hn, by simp [hl], ?_⟩⟩
  rw [← hl]; simp
theorem own_lit1 {w : World} {bs : List Int} (hn : bs.length ≤ maxLen) : Own1 (w.alloc (.cells (bv bs).toArray 5)) (.slice (some ⟨w.heap.size, 0, none⟩) bs.length bs.length) bs :=
  own_lit (by rw [bv_len, Nat.mul_one]) hn

/-- 'append' of bytes onto a slice of one's own. -/
theorem appB {w : World} {v x : Value} {bs news : List Int} {K : Value → World → Prop} (h : Own1 w v bs) (hx : Rd w x news) (hlen : bs.length + news.length ≤ 1000000000)
    (hk : ∀ v' w', Own1 w' v' (bs ++ news) → Keep (blk v) w w' → (∀ g, blk v' g → blk v g ∨ w.heap.size ≤ g) → K v' w') : appV 5 1 1 [.int .u8 0] v x w K := by
  obtain ⟨⟨q, c, rfl, hc⟩, hm, hr⟩ := hx
  have hml : maxLen = 9223372036854775807 := rfl
  refine appV_own3 h rfl hr (bv_flat news) (by omega) (by omega) rfl (Nat.zero_le _) (by omega) fun v' w' ho hg hb => hk v' w' ?_ ?_ hb
  · have e : bv (bs ++ news) = bv bs ++ (bv news).toArray.toList := by rw [bv_app]
    show w'.ownsRow 0 5 1 v' (bs ++ news).length (bv (bs ++ news))
    rw [e, List.length_append]; exact ho
  · exact (Keep.refl _ w).grown hg fun k _ h => h
/-- The same, behind a literal of bytes. -/
theorem appL {w : World} {v : Value} {bs news : List Int} {K : Value → World → Prop} (h : Own1 w v bs) (hlen : bs.length + news.length ≤ 1000000000)
    (hk : ∀ v' w', Own1 w' v' (bs ++ news) → Keep (blk v) w w' → (∀ g, blk v' g → blk v g ∨ w.heap.size ≤ g) → K v' w') :
    appV 5 1 1 [.int .u8 0] v (.slice (some ⟨w.heap.size, 0, none⟩) news.length news.length) (w.alloc (.cells (bv news).toArray 5)) K := by
  have hE : Ext w (w.alloc (.cells (bv news).toArray 5)) := (Keep.refl _ w).alloc _
  have hml : maxLen = 9223372036854775807 := rfl
  refine appB (h.ext hE) (own_lit1 (w := w) (bs := news) (by omega)).rd hlen fun v' w' h1 h2 h3 => hk v' w' h1 ((hE.mono fun _ h => h.elim).trans h2 fun _ _ h => h) fun g hg => ?_
  rcases h3 g hg with h | h
  · exact .inl h
  · exact .inr (by rw [size_alloc] at h; omega)
end Go.Proofs
namespace Go.Proofs
open Go.Vc
set_option maxRecDepth 10000

theorem eqS_some (neg : Bool) (a : Addr) (n c m d : Nat) : eqSR neg (.slice (some a) n c) (.slice none m d) = some (.bool neg) := by simp [eqSR]
theorem eqS_none (neg : Bool) (n c m d : Nat) : eqSR neg (.slice none n c) (.slice none m d) = some (.bool (!neg)) := by simp [eqSR]

/-- A copy of one's own: what bytes.Clone hands back. -/
theorem clone_ok (w : World) (v : Value) (bs : List Int) (h : Rd w v bs) (hn : bs.length ≤ 1000000000) :
    Calls Try.prog 54 #[v] w (Ret fun u w' => Own1 w' u bs ∧ Ext w w' ∧ ∀ g, blk u g → w.heap.size ≤ g) := by
  refine calls_of_cfg c54_ok (Nat.le_of_ble_eq_true rfl) ?_
  simp only [argE_nil, argE_cons, Nat.reduceAdd, Nat.zero_add]
  have h0 := h
  obtain ⟨⟨q, c, rfl, hc⟩, hm, hr⟩ := h
  (refine W_at c54_ok ?_; refine ⟨_, rfl, ?_⟩; simp (disch := first | omega | assumption | rfl | (simp only [vcS] <;> omega) | fail) only [↓ptV_l, ↓vcA, vcB, ↓vcD, vcE, ↓reduceIte, Nat.reduceEqDiff, Nat.reduceAdd, Nat.reduceMul, Nat.reduceLeDiff, Int.reduceLE, Int.reduceLT, Int.reduceEq, Int.reduceToNat, Int.reduceAdd, Int.reduceSub, Int.reduceMul, Int.reduceNeg, reduceCtorEq, Option.bind_some, Option.map_some, List.length_cons, List.length_nil, vcM, List.getElem?_toArray, List.getElem?_cons_zero, List.getElem?_cons_succ])
  cases q with
  | none =>
    have hb0 : bs = [] := by
      cases bs with
      | nil => rfl
      | cons b bs =>
        simp only [rdS, List.length_cons] at hr
        rw [if_neg (by omega)] at hr; cases hr
    subst hb0
    (refine W_at c54_ok ?_; refine ⟨_, rfl, ?_⟩; simp (disch := first | omega | assumption | rfl | (simp only [vcS] <;> omega) | fail) only [↓ptV_l, ↓vcA, vcB, ↓vcD, vcE, ↓reduceIte, Nat.reduceEqDiff, Nat.reduceAdd, Nat.reduceMul, Nat.reduceLeDiff, Int.reduceLE, Int.reduceLT, Int.reduceEq, Int.reduceToNat, Int.reduceAdd, Int.reduceSub, Int.reduceMul, Int.reduceNeg, reduceCtorEq, Option.bind_some, Option.map_some, List.length_cons, List.length_nil, vcM, List.getElem?_toArray, List.getElem?_cons_zero, List.getElem?_cons_succ, eqS_none])
    (refine W_at c54_ok ?_; refine ⟨_, rfl, ?_⟩; simp (disch := first | omega | assumption | rfl | (simp only [vcS] <;> omega) | fail) only [↓ptV_l, ↓vcA, vcB, ↓vcD, vcE, ↓reduceIte, Nat.reduceEqDiff, Nat.reduceAdd, Nat.reduceMul, Nat.reduceLeDiff, Int.reduceLE, Int.reduceLT, Int.reduceEq, Int.reduceToNat, Int.reduceAdd, Int.reduceSub, Int.reduceMul, Int.reduceNeg, reduceCtorEq, Option.bind_some, Option.map_some, List.length_cons, List.length_nil, vcM, List.getElem?_toArray, List.getElem?_cons_zero, List.getElem?_cons_succ])
    (refine W_at c54_ok ?_; refine ⟨_, rfl, ?_⟩; simp (disch := first | omega | assumption | rfl | (simp only [vcS] <;> omega) | fail) only [↓ptV_l, ↓vcA, vcB, ↓vcD, vcE, ↓reduceIte, Nat.reduceEqDiff, Nat.reduceAdd, Nat.reduceMul, Nat.reduceLeDiff, Int.reduceLE, Int.reduceLT, Int.reduceEq, Int.reduceToNat, Int.reduceAdd, Int.reduceSub, Int.reduceMul, Int.reduceNeg, reduceCtorEq, Option.bind_some, Option.map_some, List.length_cons, List.length_nil, vcM, List.getElem?_toArray, List.getElem?_cons_zero, List.getElem?_cons_succ])
    (refine W_at c54_ok ?_; refine ⟨_, rfl, ?_⟩; simp (disch := first | omega | assumption | rfl | (simp only [vcS] <;> omega) | fail) only [↓ptV_l, ↓vcA, vcB, ↓vcD, vcE, ↓reduceIte, Nat.reduceEqDiff, Nat.reduceAdd, Nat.reduceMul, Nat.reduceLeDiff, Int.reduceLE, Int.reduceLT, Int.reduceEq, Int.reduceToNat, Int.reduceAdd, Int.reduceSub, Int.reduceMul, Int.reduceNeg, reduceCtorEq, Option.bind_some, Option.map_some, List.length_cons, List.length_nil, vcM, List.getElem?_toArray, List.getElem?_cons_zero, List.getElem?_cons_succ, Ret_returned])
    exact ⟨Own1.nil w, Keep.refl _ w, fun g hg => by cases hg⟩
  | some a =>
    (refine W_at c54_ok ?_; refine ⟨_, rfl, ?_⟩; simp (disch := first | omega | assumption | rfl | (simp only [vcS] <;> omega) | fail) only [↓ptV_l, ↓vcA, vcB, ↓vcD, vcE, ↓reduceIte, Nat.reduceEqDiff, Nat.reduceAdd, Nat.reduceMul, Nat.reduceLeDiff, Int.reduceLE, Int.reduceLT, Int.reduceEq, Int.reduceToNat, Int.reduceAdd, Int.reduceSub, Int.reduceMul, Int.reduceNeg, reduceCtorEq, Option.bind_some, Option.map_some, List.length_cons, List.length_nil, vcM, List.getElem?_toArray, List.getElem?_cons_zero, List.getElem?_cons_succ, eqS_some])
    (refine W_at c54_ok ?_; refine ⟨_, rfl, ?_⟩; simp (disch := first | omega | assumption | rfl | (simp only [vcS] <;> omega) | fail) only [↓ptV_l, ↓vcA, vcB, ↓vcD, vcE, ↓reduceIte, Nat.reduceEqDiff, Nat.reduceAdd, Nat.reduceMul, Nat.reduceLeDiff, Int.reduceLE, Int.reduceLT, Int.reduceEq, Int.reduceToNat, Int.reduceAdd, Int.reduceSub, Int.reduceMul, Int.reduceNeg, reduceCtorEq, Option.bind_some, Option.map_some, List.length_cons, List.length_nil, vcM, List.getElem?_toArray, List.getElem?_cons_zero, List.getElem?_cons_succ])
    (refine W_at c54_ok ?_; refine ⟨_, rfl, ?_⟩; simp (disch := first | omega | assumption | rfl | (simp only [vcS] <;> omega) | fail) only [↓ptV_l, ↓vcA, vcB, ↓vcD, vcE, ↓reduceIte, Nat.reduceEqDiff, Nat.reduceAdd, Nat.reduceMul, Nat.reduceLeDiff, Int.reduceLE, Int.reduceLT, Int.reduceEq, Int.reduceToNat, Int.reduceAdd, Int.reduceSub, Int.reduceMul, Int.reduceNeg, reduceCtorEq, Option.bind_some, Option.map_some, List.length_cons, List.length_nil, vcM, List.getElem?_toArray, List.getElem?_cons_zero, List.getElem?_cons_succ])
    have hE : Ext w (w.alloc (.cells #[] 5)) := by (repeat' first | exact Keep.refl _ _ | assumption | refine Keep.drew ?_ | refine Keep.alloc ?_ _ | refine Keep.putN ?_ _ ?_ | refine Keep.setCell ?_ _ ?_ | refine Keep.setO ?_ _ ?_ | exact fun _ => Or.inl rfl | exact fun _ => Or.inr rfl | exact fun _ => rfl | (intro hh; exfalso; ((try simp only [vcS] at hh) <;> omega)))
    have ho : Own1 (w.alloc (.cells #[] 5)) (.slice (some ⟨w.heap.size, 0, none⟩) 0 0) [] := own_lit1 (bs := []) (Nat.zero_le _)
    refine appB ho (h0.ext hE) (by simp; omega) fun v' w' h1 h2 h3 => ?_
    (refine W_at c54_ok ?_; refine ⟨_, rfl, ?_⟩; simp (disch := first | omega | assumption | rfl | (simp only [vcS] <;> omega) | fail) only [↓ptV_l, ↓vcA, vcB, ↓vcD, vcE, ↓reduceIte, Nat.reduceEqDiff, Nat.reduceAdd, Nat.reduceMul, Nat.reduceLeDiff, Int.reduceLE, Int.reduceLT, Int.reduceEq, Int.reduceToNat, Int.reduceAdd, Int.reduceSub, Int.reduceMul, Int.reduceNeg, reduceCtorEq, Option.bind_some, Option.map_some, List.length_cons, List.length_nil, vcM, List.getElem?_toArray, List.getElem?_cons_zero, List.getElem?_cons_succ, Ret_returned])
    refine ⟨h1, hE.trans h2 fun i hi hb => ?_, fun g hg => ?_⟩
    · cases hb; exact absurd hi (Nat.lt_irrefl _)
    · rcases h3 g hg with hb | hb
      · cases hb; exact Nat.le_refl _
      · rw [size_alloc] at hb; omega

/-- The writer's block. -/
structure WAt (w : World) (p : Nat) (v : Value) (bs : List Int) : Prop where
  at' : w.heap[p]? = some (.cells #[v] 75 (0, 0))
  own : Own1 w v bs
theorem WAt.keep {S : Nat → Prop} {w w' : World} {p : Nat} {v : Value} {bs : List Int} (h : WAt w p v bs) (k : Keep S w w') (hp : ¬ S p) (hS : ∀ g, blk v g → ¬ S g) : WAt w' p v bs := ⟨k.at h.at' hp, h.own.keep k hS⟩
theorem WAt.ne {w : World} {p : Nat} {v : Value} {bs : List Int} (h : WAt w p v bs) : ¬ blk v p := fun hb => by
  obtain ⟨cur, hc⟩ := row_type h.own hb
  rw [h.at'] at hc; cases hc
/-- What a step of the writer changes. -/
def WS (p : Nat) (v : Value) (i : Nat) : Prop := i = p ∨ blk v i
/-- What a step of the writer leaves: more bytes. -/
structure WTo (w w' : World) (p : Nat) (v : Value) (bs : List Int) : Prop where
  to : ∃ v', WAt w' p v' bs ∧ ∀ g, blk v' g → blk v g ∨ w.heap.size ≤ g
  keep : Keep (WS p v) w w'
theorem WAt.lt {w : World} {p : Nat} {v : Value} {bs : List Int} (h : WAt w p v bs) : p < w.heap.size := lt_of_heap h.at'
/-- The new slice is stored. -/
theorem WAt.store {w w1 : World} {p : Nat} {v v' : Value} {bs bs' : List Int} (h : WAt w p v bs) (ho : Own1 w1 v' bs') (hk : Keep (blk v) w w1) (hb : ∀ g, blk v' g → blk v g ∨ w.heap.size ≤ g) :
    w1.heap[p]? = some (.cells #[v] 75 (0, 0)) ∧ WAt (w1.setCell ⟨p, 0, none⟩ v') p v' bs' ∧ Keep (WS p v) w (w1.setCell ⟨p, 0, none⟩ v') := by
  have hp := hk.at h.at' h.ne
  refine ⟨hp, ⟨?_, ?_⟩, ?_⟩
  · rw [heap_setCell_eq hp]; rfl
  · refine ho.keep (S := fun i => i = p) ((Keep.refl _ w1).setCell _ fun _ => rfl) ?_
    rintro g hg rfl
    rcases hb _ hg with hb | hb
    · exact h.ne hb
    · have := h.lt; omega
  · exact (hk.mono fun _ h => .inr h).setCell _ fun _ => .inl rfl

/-- A number's lowest n bytes. -/
def lowF : Nat → Int → List Int
  | 0, _ => []
  | n + 1, x => x % 256 :: lowF n (x / 256)
theorem lowF_len : ∀ (n : Nat) (x : Int), (lowF n x).length = n
  | 0, _ => rfl
  | n + 1, x => by simp [lowF, lowF_len n]
theorem shr_8 (x : Int) : x.fdiv (2 ^ Nat.min 8 IntKind.u64.bits) = x / 256 := by
  show x.fdiv (2 ^ (Nat.min 8 64)) = x / 256
  rw [show Nat.min 8 64 = 8 from rfl, Int.fdiv_eq_ediv_of_nonneg _ (by decide)]
  rfl

theorem number_ok (w : World) (p : Nat) (v : Value) (bs : List Int) (x : Int) (n : Nat) (h : WAt w p v bs) (hn : n ≤ 8) (hl : bs.length ≤ 100000000) :
    Calls Try.prog 68 #[.pointer (some ⟨p, 0, none⟩), .int .u64 x, .int .i64 n] w (Ret fun _ w' => WTo w w' p v (bs ++ lowF n x)) := by
  refine calls_of_cfg c68_ok (Nat.le_of_ble_eq_true rfl) ?_
  simp only [argE_nil, argE_cons, Nat.reduceAdd, Nat.zero_add]
  (refine W_at c68_ok ?_; refine ⟨_, rfl, ?_⟩; simp (disch := first | omega | assumption | rfl | (simp only [vcS] <;> omega) | fail) only [↓ptV_l, ↓vcA, vcB, ↓vcD, vcE, ↓reduceIte, Nat.reduceEqDiff, Nat.reduceAdd, Nat.reduceMul, Nat.reduceLeDiff, Int.reduceLE, Int.reduceLT, Int.reduceEq, Int.reduceToNat, Int.reduceAdd, Int.reduceSub, Int.reduceMul, Int.reduceNeg, reduceCtorEq, Option.bind_some, Option.map_some, List.length_cons, List.length_nil, vcM, List.getElem?_toArray, List.getElem?_cons_zero, List.getElem?_cons_succ])
  generalize hT : bs ++ lowF n x = T
  have L : ∀ (k i : Nat) (x : Int) (wj : World) (vj : Value) (bj : List Int), k + i = n → WAt wj p vj bj → Keep (WS p v) w wj → (∀ g, blk vj g → blk v g ∨ w.heap.size ≤ g) → bj.length + k ≤ 1000000000 → bj ++ lowF k x = T →
      W Try.prog (Ret fun _ w' => WTo w w' p v T) 68 6 [(0, .pointer (some ⟨p, 0, none⟩)), (1, .int .u64 x), (6, .int .i64 n), (7, .int .i64 i)] wj := by
    intro k
    induction k with
    | zero =>
      intro i x wj vj bj hk hW hK hB hl hT
      have hlt : ¬ ((i : Int) < n) := by omega
      (refine W_at c68_ok ?_; refine ⟨_, rfl, ?_⟩; simp (disch := first | omega | assumption | rfl | (simp only [vcS] <;> omega) | fail) only [↓ptV_l, ↓vcA, vcB, ↓vcD, vcE, ↓reduceIte, Nat.reduceEqDiff, Nat.reduceAdd, Nat.reduceMul, Nat.reduceLeDiff, Int.reduceLE, Int.reduceLT, Int.reduceEq, Int.reduceToNat, Int.reduceAdd, Int.reduceSub, Int.reduceMul, Int.reduceNeg, reduceCtorEq, Option.bind_some, Option.map_some, List.length_cons, List.length_nil, vcM, List.getElem?_toArray, List.getElem?_cons_zero, List.getElem?_cons_succ, hlt])
      (refine W_at c68_ok ?_; refine ⟨_, rfl, ?_⟩; simp (disch := first | omega | assumption | rfl | (simp only [vcS] <;> omega) | fail) only [↓ptV_l, ↓vcA, vcB, ↓vcD, vcE, ↓reduceIte, Nat.reduceEqDiff, Nat.reduceAdd, Nat.reduceMul, Nat.reduceLeDiff, Int.reduceLE, Int.reduceLT, Int.reduceEq, Int.reduceToNat, Int.reduceAdd, Int.reduceSub, Int.reduceMul, Int.reduceNeg, reduceCtorEq, Option.bind_some, Option.map_some, List.length_cons, List.length_nil, vcM, List.getElem?_toArray, List.getElem?_cons_zero, List.getElem?_cons_succ])
      (refine W_at c68_ok ?_; refine ⟨_, rfl, ?_⟩; simp (disch := first | omega | assumption | rfl | (simp only [vcS] <;> omega) | fail) only [↓ptV_l, ↓vcA, vcB, ↓vcD, vcE, ↓reduceIte, Nat.reduceEqDiff, Nat.reduceAdd, Nat.reduceMul, Nat.reduceLeDiff, Int.reduceLE, Int.reduceLT, Int.reduceEq, Int.reduceToNat, Int.reduceAdd, Int.reduceSub, Int.reduceMul, Int.reduceNeg, reduceCtorEq, Option.bind_some, Option.map_some, List.length_cons, List.length_nil, vcM, List.getElem?_toArray, List.getElem?_cons_zero, List.getElem?_cons_succ, Ret_returned])
      rw [lowF, List.append_nil] at hT
      rw [← hT]
      exact ⟨⟨vj, hW, hB⟩, hK⟩
    | succ k ih =>
      intro i x wj vj bj hk hW hK hB hl hT
      have hlt : ((i : Int) < n) := by omega
      have hwi : IntKind.i64.wrap ((i : Int) + 1) = ((i + 1 : Nat) : Int) := wrap_i64 (by omega) (by omega)
      have hat := hW.at'
      (refine W_at c68_ok ?_; refine ⟨_, rfl, ?_⟩; simp (disch := first | omega | assumption | rfl | (simp only [vcS] <;> omega) | fail) only [↓ptV_l, ↓vcA, vcB, ↓vcD, vcE, ↓reduceIte, Nat.reduceEqDiff, Nat.reduceAdd, Nat.reduceMul, Nat.reduceLeDiff, Int.reduceLE, Int.reduceLT, Int.reduceEq, Int.reduceToNat, Int.reduceAdd, Int.reduceSub, Int.reduceMul, Int.reduceNeg, reduceCtorEq, Option.bind_some, Option.map_some, List.length_cons, List.length_nil, vcM, List.getElem?_toArray, List.getElem?_cons_zero, List.getElem?_cons_succ, hlt])
      (refine W_at c68_ok ?_; refine ⟨_, rfl, ?_⟩; simp (disch := first | omega | assumption | rfl | (simp only [vcS] <;> omega) | fail) only [↓ptV_l, ↓vcA, vcB, ↓vcD, vcE, ↓reduceIte, Nat.reduceEqDiff, Nat.reduceAdd, Nat.reduceMul, Nat.reduceLeDiff, Int.reduceLE, Int.reduceLT, Int.reduceEq, Int.reduceToNat, Int.reduceAdd, Int.reduceSub, Int.reduceMul, Int.reduceNeg, reduceCtorEq, Option.bind_some, Option.map_some, List.length_cons, List.length_nil, vcM, List.getElem?_toArray, List.getElem?_cons_zero, List.getElem?_cons_succ])
      (refine W_at c68_ok ?_; refine ⟨_, rfl, ?_⟩; simp (disch := first | omega | assumption | rfl | (simp only [vcS] <;> omega) | fail) only [↓ptV_l, ↓vcA, vcB, ↓vcD, vcE, ↓reduceIte, Nat.reduceEqDiff, Nat.reduceAdd, Nat.reduceMul, Nat.reduceLeDiff, Int.reduceLE, Int.reduceLT, Int.reduceEq, Int.reduceToNat, Int.reduceAdd, Int.reduceSub, Int.reduceMul, Int.reduceNeg, reduceCtorEq, Option.bind_some, Option.map_some, List.length_cons, List.length_nil, vcM, List.getElem?_toArray, List.getElem?_cons_zero, List.getElem?_cons_succ, hat, wrap_u8])
      refine appL (news := [x % 256]) hW.own (by simp; omega) fun v' w' h1 h2 h3 => ?_
      obtain ⟨hp, hW', hK'⟩ := hW.store h1 h2 h3
      refine ⟨one_row h1, wr1_of hp (by simp), ?_⟩
      generalize w'.setCell _ _ = w'' at hW' hK' ⊢
      (refine W_at c68_ok ?_; refine ⟨_, rfl, ?_⟩; simp (disch := first | omega | assumption | rfl | (simp only [vcS] <;> omega) | fail) only [↓ptV_l, ↓vcA, vcB, ↓vcD, vcE, ↓reduceIte, Nat.reduceEqDiff, Nat.reduceAdd, Nat.reduceMul, Nat.reduceLeDiff, Int.reduceLE, Int.reduceLT, Int.reduceEq, Int.reduceToNat, Int.reduceAdd, Int.reduceSub, Int.reduceMul, Int.reduceNeg, reduceCtorEq, Option.bind_some, Option.map_some, List.length_cons, List.length_nil, vcM, List.getElem?_toArray, List.getElem?_cons_zero, List.getElem?_cons_succ, shr_8])
      (refine W_at c68_ok ?_; refine ⟨_, rfl, ?_⟩; simp (disch := first | omega | assumption | rfl | (simp only [vcS] <;> omega) | fail) only [↓ptV_l, ↓vcA, vcB, ↓vcD, vcE, ↓reduceIte, Nat.reduceEqDiff, Nat.reduceAdd, Nat.reduceMul, Nat.reduceLeDiff, Int.reduceLE, Int.reduceLT, Int.reduceEq, Int.reduceToNat, Int.reduceAdd, Int.reduceSub, Int.reduceMul, Int.reduceNeg, reduceCtorEq, Option.bind_some, Option.map_some, List.length_cons, List.length_nil, vcM, List.getElem?_toArray, List.getElem?_cons_zero, List.getElem?_cons_succ, hwi])
      (refine W_at c68_ok ?_; refine ⟨_, rfl, ?_⟩; simp (disch := first | omega | assumption | rfl | (simp only [vcS] <;> omega) | fail) only [↓ptV_l, ↓vcA, vcB, ↓vcD, vcE, ↓reduceIte, Nat.reduceEqDiff, Nat.reduceAdd, Nat.reduceMul, Nat.reduceLeDiff, Int.reduceLE, Int.reduceLT, Int.reduceEq, Int.reduceToNat, Int.reduceAdd, Int.reduceSub, Int.reduceMul, Int.reduceNeg, reduceCtorEq, Option.bind_some, Option.map_some, List.length_cons, List.length_nil, vcM, List.getElem?_toArray, List.getElem?_cons_zero, List.getElem?_cons_succ])
      refine ih (i + 1) (x / 256) w'' v' _ (by omega) hW' (hK.trans hK' fun j hj hs => ?_) (fun g hg => ?_) (by simp; omega) (by rw [← hT]; simp [lowF])
      · rcases hs with rfl | hs
        · exact .inl rfl
        · rcases hB j hs with h | h
          · exact .inr h
          · omega
      · rcases h3 g hg with h | h
        · exact hB g h
        · exact .inr (Nat.le_trans hK.size h)
  exact L n 0 x w v bs (by omega) h (Keep.refl _ w) (fun g h => .inl h) (by omega) hT

theorem u8_ok (w : World) (p : Nat) (v : Value) (bs : List Int) (x : Int) (h : WAt w p v bs) (hl : bs.length ≤ 100000000) (hx : 0 ≤ x ∧ x ≤ 255) :
    Calls Try.prog 48 #[.pointer (some ⟨p, 0, none⟩), .int .u8 x] w (Ret fun _ w' => WTo w w' p v (bs ++ lowF 1 x)) := by
  refine calls_of_cfg c48_ok (Nat.le_of_ble_eq_true rfl) ?_
  simp only [argE_nil, argE_cons, Nat.reduceAdd, Nat.zero_add]
  have hw : IntKind.u64.wrap x = x := by rw [wrap_u64]; omega
  (refine W_at c48_ok ?_; refine ⟨_, rfl, ?_⟩; simp (disch := first | omega | assumption | rfl | (simp only [vcS] <;> omega) | fail) only [↓ptV_l, ↓vcA, vcB, ↓vcD, vcE, ↓reduceIte, Nat.reduceEqDiff, Nat.reduceAdd, Nat.reduceMul, Nat.reduceLeDiff, Int.reduceLE, Int.reduceLT, Int.reduceEq, Int.reduceToNat, Int.reduceAdd, Int.reduceSub, Int.reduceMul, Int.reduceNeg, reduceCtorEq, Option.bind_some, Option.map_some, List.length_cons, List.length_nil, vcM, List.getElem?_toArray, List.getElem?_cons_zero, List.getElem?_cons_succ, hw])
  refine callV_ret (number_ok w p v bs x 1 h (by omega) hl) ?_
  intro _ w1 hT
  (refine W_at c48_ok ?_; refine ⟨_, rfl, ?_⟩; simp (disch := first | omega | assumption | rfl | (simp only [vcS] <;> omega) | fail) only [↓ptV_l, ↓vcA, vcB, ↓vcD, vcE, ↓reduceIte, Nat.reduceEqDiff, Nat.reduceAdd, Nat.reduceMul, Nat.reduceLeDiff, Int.reduceLE, Int.reduceLT, Int.reduceEq, Int.reduceToNat, Int.reduceAdd, Int.reduceSub, Int.reduceMul, Int.reduceNeg, reduceCtorEq, Option.bind_some, Option.map_some, List.length_cons, List.length_nil, vcM, List.getElem?_toArray, List.getElem?_cons_zero, List.getElem?_cons_succ, Ret_returned])
  exact hT
theorem u16_ok (w : World) (p : Nat) (v : Value) (bs : List Int) (x : Int) (h : WAt w p v bs) (hl : bs.length ≤ 100000000) (hx : 0 ≤ x ∧ x ≤ 65535) :
    Calls Try.prog 50 #[.pointer (some ⟨p, 0, none⟩), .int .u16 x] w (Ret fun _ w' => WTo w w' p v (bs ++ lowF 2 x)) := by
  refine calls_of_cfg c50_ok (Nat.le_of_ble_eq_true rfl) ?_
  simp only [argE_nil, argE_cons, Nat.reduceAdd, Nat.zero_add]
  have hw : IntKind.u64.wrap x = x := by rw [wrap_u64]; omega
  (refine W_at c50_ok ?_; refine ⟨_, rfl, ?_⟩; simp (disch := first | omega | assumption | rfl | (simp only [vcS] <;> omega) | fail) only [↓ptV_l, ↓vcA, vcB, ↓vcD, vcE, ↓reduceIte, Nat.reduceEqDiff, Nat.reduceAdd, Nat.reduceMul, Nat.reduceLeDiff, Int.reduceLE, Int.reduceLT, Int.reduceEq, Int.reduceToNat, Int.reduceAdd, Int.reduceSub, Int.reduceMul, Int.reduceNeg, reduceCtorEq, Option.bind_some, Option.map_some, List.length_cons, List.length_nil, vcM, List.getElem?_toArray, List.getElem?_cons_zero, List.getElem?_cons_succ, hw])
  refine callV_ret (number_ok w p v bs x 2 h (by omega) hl) ?_
  intro _ w1 hT
  (refine W_at c50_ok ?_; refine ⟨_, rfl, ?_⟩; simp (disch := first | omega | assumption | rfl | (simp only [vcS] <;> omega) | fail) only [↓ptV_l, ↓vcA, vcB, ↓vcD, vcE, ↓reduceIte, Nat.reduceEqDiff, Nat.reduceAdd, Nat.reduceMul, Nat.reduceLeDiff, Int.reduceLE, Int.reduceLT, Int.reduceEq, Int.reduceToNat, Int.reduceAdd, Int.reduceSub, Int.reduceMul, Int.reduceNeg, reduceCtorEq, Option.bind_some, Option.map_some, List.length_cons, List.length_nil, vcM, List.getElem?_toArray, List.getElem?_cons_zero, List.getElem?_cons_succ, Ret_returned])
  exact hT
theorem u32_ok (w : World) (p : Nat) (v : Value) (bs : List Int) (x : Int) (h : WAt w p v bs) (hl : bs.length ≤ 100000000) (hx : 0 ≤ x ∧ x ≤ 4294967295) :
    Calls Try.prog 51 #[.pointer (some ⟨p, 0, none⟩), .int .u32 x] w (Ret fun _ w' => WTo w w' p v (bs ++ lowF 4 x)) := by
  refine calls_of_cfg c51_ok (Nat.le_of_ble_eq_true rfl) ?_
  simp only [argE_nil, argE_cons, Nat.reduceAdd, Nat.zero_add]
  have hw : IntKind.u64.wrap x = x := by rw [wrap_u64]; omega
  (refine W_at c51_ok ?_; refine ⟨_, rfl, ?_⟩; simp (disch := first | omega | assumption | rfl | (simp only [vcS] <;> omega) | fail) only [↓ptV_l, ↓vcA, vcB, ↓vcD, vcE, ↓reduceIte, Nat.reduceEqDiff, Nat.reduceAdd, Nat.reduceMul, Nat.reduceLeDiff, Int.reduceLE, Int.reduceLT, Int.reduceEq, Int.reduceToNat, Int.reduceAdd, Int.reduceSub, Int.reduceMul, Int.reduceNeg, reduceCtorEq, Option.bind_some, Option.map_some, List.length_cons, List.length_nil, vcM, List.getElem?_toArray, List.getElem?_cons_zero, List.getElem?_cons_succ, hw])
  refine callV_ret (number_ok w p v bs x 4 h (by omega) hl) ?_
  intro _ w1 hT
  (refine W_at c51_ok ?_; refine ⟨_, rfl, ?_⟩; simp (disch := first | omega | assumption | rfl | (simp only [vcS] <;> omega) | fail) only [↓ptV_l, ↓vcA, vcB, ↓vcD, vcE, ↓reduceIte, Nat.reduceEqDiff, Nat.reduceAdd, Nat.reduceMul, Nat.reduceLeDiff, Int.reduceLE, Int.reduceLT, Int.reduceEq, Int.reduceToNat, Int.reduceAdd, Int.reduceSub, Int.reduceMul, Int.reduceNeg, reduceCtorEq, Option.bind_some, Option.map_some, List.length_cons, List.length_nil, vcM, List.getElem?_toArray, List.getElem?_cons_zero, List.getElem?_cons_succ, Ret_returned])
  exact hT
end Go.Proofs
namespace Go.Proofs
open Go.Vc
set_option maxRecDepth 10000

theorem raw_ok (w : World) (p : Nat) (v : Value) (bs : List Int) (x : Value) (news : List Int) (h : WAt w p v bs) (hx : Rd w x news) (hl : bs.length + news.length ≤ 100000000) :
    Calls Try.prog 49 #[.pointer (some ⟨p, 0, none⟩), x] w (Ret fun _ w' => WTo w w' p v (bs ++ news)) := by
  refine calls_of_cfg c49_ok (Nat.le_of_ble_eq_true rfl) ?_
  simp only [argE_nil, argE_cons, Nat.reduceAdd, Nat.zero_add]
  have hat := h.at'
  (refine W_at c49_ok ?_; refine ⟨_, rfl, ?_⟩; simp (disch := first | omega | assumption | rfl | (simp only [vcS] <;> omega) | fail) only [↓ptV_l, ↓vcA, vcB, ↓vcD, vcE, ↓reduceIte, Nat.reduceEqDiff, Nat.reduceAdd, Nat.reduceMul, Nat.reduceLeDiff, Int.reduceLE, Int.reduceLT, Int.reduceEq, Int.reduceToNat, Int.reduceAdd, Int.reduceSub, Int.reduceMul, Int.reduceNeg, reduceCtorEq, Option.bind_some, Option.map_some, List.length_cons, List.length_nil, vcM, List.getElem?_toArray, List.getElem?_cons_zero, List.getElem?_cons_succ, hat])
  refine appB h.own hx (by omega) fun v' w' h1 h2 h3 => ?_
  obtain ⟨hp, hW', hK'⟩ := h.store h1 h2 h3
  refine ⟨one_row h1, wr1_of hp (by simp), ?_⟩
  (refine W_at c49_ok ?_; refine ⟨_, rfl, ?_⟩; simp (disch := first | omega | assumption | rfl | (simp only [vcS] <;> omega) | fail) only [↓ptV_l, ↓vcA, vcB, ↓vcD, vcE, ↓reduceIte, Nat.reduceEqDiff, Nat.reduceAdd, Nat.reduceMul, Nat.reduceLeDiff, Int.reduceLE, Int.reduceLT, Int.reduceEq, Int.reduceToNat, Int.reduceAdd, Int.reduceSub, Int.reduceMul, Int.reduceNeg, reduceCtorEq, Option.bind_some, Option.map_some, List.length_cons, List.length_nil, vcM, List.getElem?_toArray, List.getElem?_cons_zero, List.getElem?_cons_succ, Ret_returned])
  exact ⟨⟨v', hW', h3⟩, hK'⟩

theorem out_ok (w : World) (p : Nat) (v : Value) (bs : List Int) (h : WAt w p v bs) (hl : bs.length ≤ 100000000) :
    Calls Try.prog 52 #[.pointer (some ⟨p, 0, none⟩)] w (Ret fun u w' => Own1 w' u bs ∧ Ext w w' ∧ ∀ g, blk u g → w.heap.size ≤ g) := by
  refine calls_of_cfg c52_ok (Nat.le_of_ble_eq_true rfl) ?_
  simp only [argE_nil, argE_cons, Nat.reduceAdd, Nat.zero_add]
  have hat := h.at'
  (refine W_at c52_ok ?_; refine ⟨_, rfl, ?_⟩; simp (disch := first | omega | assumption | rfl | (simp only [vcS] <;> omega) | fail) only [↓ptV_l, ↓vcA, vcB, ↓vcD, vcE, ↓reduceIte, Nat.reduceEqDiff, Nat.reduceAdd, Nat.reduceMul, Nat.reduceLeDiff, Int.reduceLE, Int.reduceLT, Int.reduceEq, Int.reduceToNat, Int.reduceAdd, Int.reduceSub, Int.reduceMul, Int.reduceNeg, reduceCtorEq, Option.bind_some, Option.map_some, List.length_cons, List.length_nil, vcM, List.getElem?_toArray, List.getElem?_cons_zero, List.getElem?_cons_succ])
  (refine W_at c52_ok ?_; refine ⟨_, rfl, ?_⟩; simp (disch := first | omega | assumption | rfl | (simp only [vcS] <;> omega) | fail) only [↓ptV_l, ↓vcA, vcB, ↓vcD, vcE, ↓reduceIte, Nat.reduceEqDiff, Nat.reduceAdd, Nat.reduceMul, Nat.reduceLeDiff, Int.reduceLE, Int.reduceLT, Int.reduceEq, Int.reduceToNat, Int.reduceAdd, Int.reduceSub, Int.reduceMul, Int.reduceNeg, reduceCtorEq, Option.bind_some, Option.map_some, List.length_cons, List.length_nil, vcM, List.getElem?_toArray, List.getElem?_cons_zero, List.getElem?_cons_succ, hat])
  refine callV_ret (clone_ok w v bs h.own.rd (by omega)) ?_
  rintro u w1 ⟨h1, h2, h3⟩
  (refine W_at c52_ok ?_; refine ⟨_, rfl, ?_⟩; simp (disch := first | omega | assumption | rfl | (simp only [vcS] <;> omega) | fail) only [↓ptV_l, ↓vcA, vcB, ↓vcD, vcE, ↓reduceIte, Nat.reduceEqDiff, Nat.reduceAdd, Nat.reduceMul, Nat.reduceLeDiff, Int.reduceLE, Int.reduceLT, Int.reduceEq, Int.reduceToNat, Int.reduceAdd, Int.reduceSub, Int.reduceMul, Int.reduceNeg, reduceCtorEq, Option.bind_some, Option.map_some, List.length_cons, List.length_nil, vcM, List.getElem?_toArray, List.getElem?_cons_zero, List.getElem?_cons_succ, Ret_returned])
  exact ⟨h1, h2, h3⟩

end Go.Proofs
namespace Go.Proofs
open Go.Vc
set_option maxRecDepth 10000

/-- A slice of bytes that the call made. -/
structure New (w w' : World) (u : Value) (bs : List Int) : Prop where
  own : Own1 w' u bs
  ext : Ext w w'
  new : ∀ g, blk u g → w.heap.size ≤ g
theorem New.nil (w : World) : New w w (.slice none 0 0) [] := ⟨Own1.nil w, Keep.refl _ w, fun g h => by cases h⟩
theorem New.pre {w0 w w' : World} {u : Value} {bs : List Int} (h : New w w' u bs) (k : Ext w0 w) : New w0 w' u bs := ⟨h.own, k.ext h.ext, fun g hg => Nat.le_trans k.size (h.new g hg)⟩
theorem New.lit {w : World} {bs : List Int} (hn : bs.length ≤ maxLen) : New w (w.alloc (.cells (bv bs).toArray 5)) (.slice (some ⟨w.heap.size, 0, none⟩) bs.length bs.length) bs :=
  ⟨own_lit1 hn, (Keep.refl _ w).alloc _, fun g hg => by cases hg; exact Nat.le_refl _⟩
/-- 'append' of bytes onto such a slice. -/
theorem appN {w0 w : World} {v x : Value} {bs news : List Int} {K : Value → World → Prop} (h : New w0 w v bs) (hx : Rd w x news) (hlen : bs.length + news.length ≤ 1000000000)
    (hk : ∀ v' w', New w0 w' v' (bs ++ news) → Keep (blk v) w w' → (∀ g, blk v' g → blk v g ∨ w.heap.size ≤ g) → K v' w') : appV 5 1 1 [.int .u8 0] v x w K := by
  refine appB h.own hx hlen fun v' w' h1 h2 h3 => hk v' w' ⟨h1, ?_, fun g hg => ?_⟩ h2 h3
  · exact h.ext.trans h2 fun i hi hb => by have := h.new i hb; omega
  · rcases h3 g hg with h4 | h4
    · exact h.new g h4
    · exact Nat.le_trans h.ext.size h4
theorem appNL {w0 w : World} {v : Value} {bs news : List Int} {K : Value → World → Prop} (h : New w0 w v bs) (hlen : bs.length + news.length ≤ 1000000000)
    (hk : ∀ v' w', New w0 w' v' (bs ++ news) → Keep (blk v) w w' → (∀ g, blk v' g → blk v g ∨ w.heap.size ≤ g) → K v' w') :
    appV 5 1 1 [.int .u8 0] v (.slice (some ⟨w.heap.size, 0, none⟩) news.length news.length) (w.alloc (.cells (bv news).toArray 5)) K := by
  refine appL h.own hlen fun v' w' h1 h2 h3 => hk v' w' ⟨h1, ?_, fun g hg => ?_⟩ h2 h3
  · exact h.ext.trans h2 fun i hi hb => by have := h.new i hb; omega
  · rcases h3 g hg with h4 | h4
    · exact h.new g h4
    · exact Nat.le_trans h.ext.size h4

theorem low_ok (w : World) (x : Int) (n : Nat) (hx : 0 ≤ x ∧ x < 18446744073709551616) (hn : n ≤ 8) :
    Calls Try.prog 53 #[.int .u64 x, .int .i64 n] w (Ret fun u w' => New w w' u (lowF n x)) := by
  refine calls_of_cfg c53_ok (Nat.le_of_ble_eq_true rfl) ?_
  simp only [argE_nil, argE_cons, Nat.reduceAdd, Nat.zero_add]
  (refine W_at c53_ok ?_; refine ⟨_, rfl, ?_⟩; simp (disch := first | omega | assumption | rfl | (simp only [vcS] <;> omega) | fail) only [↓ptV_l, ↓vcA, vcB, ↓vcD, vcE, ↓reduceIte, Nat.reduceEqDiff, Nat.reduceAdd, Nat.reduceMul, Nat.reduceLeDiff, Int.reduceLE, Int.reduceLT, Int.reduceEq, Int.reduceToNat, Int.reduceAdd, Int.reduceSub, Int.reduceMul, Int.reduceNeg, reduceCtorEq, Option.bind_some, Option.map_some, List.length_cons, List.length_nil, vcM, List.getElem?_toArray, List.getElem?_cons_zero, List.getElem?_cons_succ])
  (refine W_at c53_ok ?_; refine ⟨_, rfl, ?_⟩; simp (disch := first | omega | assumption | rfl | (simp only [vcS] <;> omega) | fail) only [↓ptV_l, ↓vcA, vcB, ↓vcD, vcE, ↓reduceIte, Nat.reduceEqDiff, Nat.reduceAdd, Nat.reduceMul, Nat.reduceLeDiff, Int.reduceLE, Int.reduceLT, Int.reduceEq, Int.reduceToNat, Int.reduceAdd, Int.reduceSub, Int.reduceMul, Int.reduceNeg, reduceCtorEq, Option.bind_some, Option.map_some, List.length_cons, List.length_nil, vcM, List.getElem?_toArray, List.getElem?_cons_zero, List.getElem?_cons_succ])
  (refine W_at c53_ok ?_; refine ⟨_, rfl, ?_⟩; simp (disch := first | omega | assumption | rfl | (simp only [vcS] <;> omega) | fail) only [↓ptV_l, ↓vcA, vcB, ↓vcD, vcE, ↓reduceIte, Nat.reduceEqDiff, Nat.reduceAdd, Nat.reduceMul, Nat.reduceLeDiff, Int.reduceLE, Int.reduceLT, Int.reduceEq, Int.reduceToNat, Int.reduceAdd, Int.reduceSub, Int.reduceMul, Int.reduceNeg, reduceCtorEq, Option.bind_some, Option.map_some, List.length_cons, List.length_nil, vcM, List.getElem?_toArray, List.getElem?_cons_zero, List.getElem?_cons_succ])
  generalize hT : lowF n x = T
  have L : ∀ (k i : Nat) (x : Int) (wj : World) (vj : Value) (bj : List Int), k + i = n → 0 ≤ x ∧ x < 18446744073709551616 → New w wj vj bj → bj.length + k ≤ 1000000000 → bj ++ lowF k x = T →
      W Try.prog (Ret fun u w' => New w w' u T) 53 8 [(0, .int .u64 x), (1, .int .i64 n), (5, vj), (6, .int .i64 i)] wj := by
    intro k
    induction k with
    | zero =>
      intro i x wj vj bj hk hx hN hl hT
      have hlt : ¬ ((i : Int) < n) := by omega
      (refine W_at c53_ok ?_; refine ⟨_, rfl, ?_⟩; simp (disch := first | omega | assumption | rfl | (simp only [vcS] <;> omega) | fail) only [↓ptV_l, ↓vcA, vcB, ↓vcD, vcE, ↓reduceIte, Nat.reduceEqDiff, Nat.reduceAdd, Nat.reduceMul, Nat.reduceLeDiff, Int.reduceLE, Int.reduceLT, Int.reduceEq, Int.reduceToNat, Int.reduceAdd, Int.reduceSub, Int.reduceMul, Int.reduceNeg, reduceCtorEq, Option.bind_some, Option.map_some, List.length_cons, List.length_nil, vcM, List.getElem?_toArray, List.getElem?_cons_zero, List.getElem?_cons_succ, hlt])
      (refine W_at c53_ok ?_; refine ⟨_, rfl, ?_⟩; simp (disch := first | omega | assumption | rfl | (simp only [vcS] <;> omega) | fail) only [↓ptV_l, ↓vcA, vcB, ↓vcD, vcE, ↓reduceIte, Nat.reduceEqDiff, Nat.reduceAdd, Nat.reduceMul, Nat.reduceLeDiff, Int.reduceLE, Int.reduceLT, Int.reduceEq, Int.reduceToNat, Int.reduceAdd, Int.reduceSub, Int.reduceMul, Int.reduceNeg, reduceCtorEq, Option.bind_some, Option.map_some, List.length_cons, List.length_nil, vcM, List.getElem?_toArray, List.getElem?_cons_zero, List.getElem?_cons_succ])
      (refine W_at c53_ok ?_; refine ⟨_, rfl, ?_⟩; simp (disch := first | omega | assumption | rfl | (simp only [vcS] <;> omega) | fail) only [↓ptV_l, ↓vcA, vcB, ↓vcD, vcE, ↓reduceIte, Nat.reduceEqDiff, Nat.reduceAdd, Nat.reduceMul, Nat.reduceLeDiff, Int.reduceLE, Int.reduceLT, Int.reduceEq, Int.reduceToNat, Int.reduceAdd, Int.reduceSub, Int.reduceMul, Int.reduceNeg, reduceCtorEq, Option.bind_some, Option.map_some, List.length_cons, List.length_nil, vcM, List.getElem?_toArray, List.getElem?_cons_zero, List.getElem?_cons_succ])
      (refine W_at c53_ok ?_; refine ⟨_, rfl, ?_⟩; simp (disch := first | omega | assumption | rfl | (simp only [vcS] <;> omega) | fail) only [↓ptV_l, ↓vcA, vcB, ↓vcD, vcE, ↓reduceIte, Nat.reduceEqDiff, Nat.reduceAdd, Nat.reduceMul, Nat.reduceLeDiff, Int.reduceLE, Int.reduceLT, Int.reduceEq, Int.reduceToNat, Int.reduceAdd, Int.reduceSub, Int.reduceMul, Int.reduceNeg, reduceCtorEq, Option.bind_some, Option.map_some, List.length_cons, List.length_nil, vcM, List.getElem?_toArray, List.getElem?_cons_zero, List.getElem?_cons_succ, Ret_returned])
      rw [lowF, List.append_nil] at hT
      rw [← hT]; exact hN
    | succ k ih =>
      intro i x wj vj bj hk hx hN hl hT
      have hlt : ((i : Int) < n) := by omega
      have hwi : IntKind.i64.wrap ((i : Int) + 1) = ((i + 1 : Nat) : Int) := wrap_i64 (by omega) (by omega)
      have hm : Int.tmod x 256 = x % 256 := Int.tmod_eq_emod_of_nonneg hx.1
      have hc : IntKind.u8.wrap (x % 256) = x % 256 := by rw [wrap_u8]; omega
      have hd : IntKind.u64.wrap (Int.tdiv x 256) = x / 256 := by rw [Int.tdiv_eq_ediv_of_nonneg hx.1, wrap_u64]; omega
      (refine W_at c53_ok ?_; refine ⟨_, rfl, ?_⟩; simp (disch := first | omega | assumption | rfl | (simp only [vcS] <;> omega) | fail) only [↓ptV_l, ↓vcA, vcB, ↓vcD, vcE, ↓reduceIte, Nat.reduceEqDiff, Nat.reduceAdd, Nat.reduceMul, Nat.reduceLeDiff, Int.reduceLE, Int.reduceLT, Int.reduceEq, Int.reduceToNat, Int.reduceAdd, Int.reduceSub, Int.reduceMul, Int.reduceNeg, reduceCtorEq, Option.bind_some, Option.map_some, List.length_cons, List.length_nil, vcM, List.getElem?_toArray, List.getElem?_cons_zero, List.getElem?_cons_succ, hlt])
      (refine W_at c53_ok ?_; refine ⟨_, rfl, ?_⟩; simp (disch := first | omega | assumption | rfl | (simp only [vcS] <;> omega) | fail) only [↓ptV_l, ↓vcA, vcB, ↓vcD, vcE, ↓reduceIte, Nat.reduceEqDiff, Nat.reduceAdd, Nat.reduceMul, Nat.reduceLeDiff, Int.reduceLE, Int.reduceLT, Int.reduceEq, Int.reduceToNat, Int.reduceAdd, Int.reduceSub, Int.reduceMul, Int.reduceNeg, reduceCtorEq, Option.bind_some, Option.map_some, List.length_cons, List.length_nil, vcM, List.getElem?_toArray, List.getElem?_cons_zero, List.getElem?_cons_succ])
      (refine W_at c53_ok ?_; refine ⟨_, rfl, ?_⟩; simp (disch := first | omega | assumption | rfl | (simp only [vcS] <;> omega) | fail) only [↓ptV_l, ↓vcA, vcB, ↓vcD, vcE, ↓reduceIte, Nat.reduceEqDiff, Nat.reduceAdd, Nat.reduceMul, Nat.reduceLeDiff, Int.reduceLE, Int.reduceLT, Int.reduceEq, Int.reduceToNat, Int.reduceAdd, Int.reduceSub, Int.reduceMul, Int.reduceNeg, reduceCtorEq, Option.bind_some, Option.map_some, List.length_cons, List.length_nil, vcM, List.getElem?_toArray, List.getElem?_cons_zero, List.getElem?_cons_succ, hm, hc])
      refine appNL (news := [x % 256]) hN (by simp; omega) fun v' w' h1 _ _ => ?_
      (refine W_at c53_ok ?_; refine ⟨_, rfl, ?_⟩; simp (disch := first | omega | assumption | rfl | (simp only [vcS] <;> omega) | fail) only [↓ptV_l, ↓vcA, vcB, ↓vcD, vcE, ↓reduceIte, Nat.reduceEqDiff, Nat.reduceAdd, Nat.reduceMul, Nat.reduceLeDiff, Int.reduceLE, Int.reduceLT, Int.reduceEq, Int.reduceToNat, Int.reduceAdd, Int.reduceSub, Int.reduceMul, Int.reduceNeg, reduceCtorEq, Option.bind_some, Option.map_some, List.length_cons, List.length_nil, vcM, List.getElem?_toArray, List.getElem?_cons_zero, List.getElem?_cons_succ, hd])
      (refine W_at c53_ok ?_; refine ⟨_, rfl, ?_⟩; simp (disch := first | omega | assumption | rfl | (simp only [vcS] <;> omega) | fail) only [↓ptV_l, ↓vcA, vcB, ↓vcD, vcE, ↓reduceIte, Nat.reduceEqDiff, Nat.reduceAdd, Nat.reduceMul, Nat.reduceLeDiff, Int.reduceLE, Int.reduceLT, Int.reduceEq, Int.reduceToNat, Int.reduceAdd, Int.reduceSub, Int.reduceMul, Int.reduceNeg, reduceCtorEq, Option.bind_some, Option.map_some, List.length_cons, List.length_nil, vcM, List.getElem?_toArray, List.getElem?_cons_zero, List.getElem?_cons_succ, hwi])
      (refine W_at c53_ok ?_; refine ⟨_, rfl, ?_⟩; simp (disch := first | omega | assumption | rfl | (simp only [vcS] <;> omega) | fail) only [↓ptV_l, ↓vcA, vcB, ↓vcD, vcE, ↓reduceIte, Nat.reduceEqDiff, Nat.reduceAdd, Nat.reduceMul, Nat.reduceLeDiff, Int.reduceLE, Int.reduceLT, Int.reduceEq, Int.reduceToNat, Int.reduceAdd, Int.reduceSub, Int.reduceMul, Int.reduceNeg, reduceCtorEq, Option.bind_some, Option.map_some, List.length_cons, List.length_nil, vcM, List.getElem?_toArray, List.getElem?_cons_zero, List.getElem?_cons_succ])
      exact ih (i + 1) (x / 256) w' v' _ (by omega) (by omega) h1 (by simp; omega) (by rw [← hT]; simp [lowF])
  exact L n 0 x w _ [] (by omega) hx (New.nil w) (by simp; omega) hT

/-- 'Equal' of bytes. -/
theorem equal_ok (w : World) (x y : Value) (a b : List Int) (hx : Rd w x a) (hy : Rd w y b) (ha : byt a) (hb : byt b) :
    Calls Try.prog 17 #[x, y] w (Ret fun u w' => u = .bool (decide (a = b)) ∧ w' = w) := by
  refine calls_of_cfg c17_ok (Nat.le_of_ble_eq_true rfl) ?_
  simp only [argE_nil, argE_cons, Nat.reduceAdd, Nat.zero_add]
  have h1 := hx.b2s
  have h2 := hy.b2s
  have h3 := strOf_inj ha hb
  (refine W_at c17_ok ?_; refine ⟨_, rfl, ?_⟩; simp (disch := first | omega | assumption | rfl | (simp only [vcS] <;> omega) | fail) only [↓ptV_l, ↓vcA, vcB, ↓vcD, vcE, ↓reduceIte, Nat.reduceEqDiff, Nat.reduceAdd, Nat.reduceMul, Nat.reduceLeDiff, Int.reduceLE, Int.reduceLT, Int.reduceEq, Int.reduceToNat, Int.reduceAdd, Int.reduceSub, Int.reduceMul, Int.reduceNeg, reduceCtorEq, Option.bind_some, Option.map_some, List.length_cons, List.length_nil, vcM, List.getElem?_toArray, List.getElem?_cons_zero, List.getElem?_cons_succ])
  (refine W_at c17_ok ?_; refine ⟨_, rfl, ?_⟩; simp (disch := first | omega | assumption | rfl | (simp only [vcS] <;> omega) | fail) only [↓ptV_l, ↓vcA, vcB, ↓vcD, vcE, ↓reduceIte, Nat.reduceEqDiff, Nat.reduceAdd, Nat.reduceMul, Nat.reduceLeDiff, Int.reduceLE, Int.reduceLT, Int.reduceEq, Int.reduceToNat, Int.reduceAdd, Int.reduceSub, Int.reduceMul, Int.reduceNeg, reduceCtorEq, Option.bind_some, Option.map_some, List.length_cons, List.length_nil, vcM, List.getElem?_toArray, List.getElem?_cons_zero, List.getElem?_cons_succ, h1, h2, h3])
  (refine W_at c17_ok ?_; refine ⟨_, rfl, ?_⟩; simp (disch := first | omega | assumption | rfl | (simp only [vcS] <;> omega) | fail) only [↓ptV_l, ↓vcA, vcB, ↓vcD, vcE, ↓reduceIte, Nat.reduceEqDiff, Nat.reduceAdd, Nat.reduceMul, Nat.reduceLeDiff, Int.reduceLE, Int.reduceLT, Int.reduceEq, Int.reduceToNat, Int.reduceAdd, Int.reduceSub, Int.reduceMul, Int.reduceNeg, reduceCtorEq, Option.bind_some, Option.map_some, List.length_cons, List.length_nil, vcM, List.getElem?_toArray, List.getElem?_cons_zero, List.getElem?_cons_succ, Ret_returned])
end Go.Proofs
namespace Go.Proofs
open Go.Vc
set_option maxRecDepth 10000

/-- The reader's block; what is left lies in block B. -/
structure RAt (w : World) (r B : Nat) (v : Value) (bs : List Int) (e : Int) : Prop where
  at' : w.heap[r]? = some (.cells #[v, .int .i64 e] 92 (0, 0))
  rd : Rd w v bs
  bb : ∀ q n c, v = .slice (some q) n c → q.block = B ∧ B < w.heap.size ∧ B ≠ r
theorem RAt.keep {S : Nat → Prop} {w w' : World} {r B : Nat} {v : Value} {bs : List Int} {e : Int} (h : RAt w r B v bs e) (k : Keep S w w') (hr : ¬ S r) (hB : B < w.heap.size → ¬ S B) : RAt w' r B v bs e :=
  ⟨k.at h.at' hr, h.rd.keep k fun q n c hv => by obtain ⟨h1, h2, _⟩ := h.bb q n c hv; rw [h1]; exact hB h2, fun q n c hv => by obtain ⟨h1, h2, h3⟩ := h.bb q n c hv; exact ⟨h1, Nat.lt_of_lt_of_le h2 k.size, h3⟩⟩
theorem RAt.ext {w w' : World} {r B : Nat} {v : Value} {bs : List Int} {e : Int} (h : RAt w r B v bs e) (k : Ext w w') : RAt w' r B v bs e := h.keep k (fun h => h) fun _ h => h
theorem RAt.lt {w : World} {r B : Nat} {v : Value} {bs : List Int} {e : Int} (h : RAt w r B v bs e) : r < w.heap.size := lt_of_heap h.at'
/-- Other contents. -/
theorem RAt.set {w w' : World} {r B : Nat} {v v' : Value} {bs bs' : List Int} {e e' : Int} (h : RAt w r B v bs e) (hk : Keep (fun i => i = r) w w') (ha : w'.heap[r]? = some (.cells #[v', .int .i64 e'] 92 (0, 0))) (hv : Rd w v' bs') (hb : ∀ q n c, v' = .slice (some q) n c → ∃ q' n' c', v = .slice (some q') n' c' ∧ q.block = q'.block) :
    RAt w' r B v' bs' e' := by
  have hbb : ∀ q n c, v' = .slice (some q) n c → q.block = B ∧ B < w.heap.size ∧ B ≠ r := fun q n c hq => by
    obtain ⟨q', n', c', hv, hq'⟩ := hb q n c hq
    obtain ⟨h1, h2, h3⟩ := h.bb q' n' c' hv
    exact ⟨by rw [hq', h1], h2, h3⟩
  exact ⟨ha, hv.keep hk fun q n c hq => by obtain ⟨h1, _, h3⟩ := hbb q n c hq; rw [h1]; exact h3, fun q n c hq => by obtain ⟨h1, h2, h3⟩ := hbb q n c hq; exact ⟨h1, Nat.lt_of_lt_of_le h2 hk.size, h3⟩⟩

/-- How reading ends: with something, or it gives up. -/
def REnd (w : World) (r B : Nat) (e : Int) (ok : Option (List Int × (Value → World → Prop))) (er : Int) (en : Ending) (w' : World) : Prop :=
  Keep (fun i => i = r) w w' ∧ match ok with
    | some (rest, φ) => ∃ u v', en = .returned u ∧ φ u w' ∧ RAt w' r B v' rest e
    | none => en = .panicked [{ v := .iface 112 (.int .i64 er), recovered := false }] ∧ ∃ v' bs', RAt w' r B v' bs' e

def cTry (ty : Nat) (z : Value) (cl : Nat) : List Vc.Node := [
  .ret [.c1 4],
  .ret [.c1 4],
  .reg (.q (some 16) none (.mov (.tmp 1)) (.q (some 17) none (.ld1 (.tmp 2)) (.l (some 18) none (.callv (.tmp 16) [(.tmp 17)]) [] (.l none none (.st1 (.tmp 4) (.tmp 18)) [] .done)))) false 1 [4],
  .ret [.c1 4],
  .cnd (.tmp 15) 3 2,
  .reg (.q (some 11) none (.ld1 (.tmp 2)) (.q (some 12) none (.nc (.tmp 11)) (.q (some 13) none (.fadr 1 (.tmp 12)) (.q (some 14) none (.ld1 (.tmp 13)) (.q (some 15) none (.bin .neq (.tmp 14) (.const (.int .i64 0))) .done))))) false 4 [1, 2, 4, 15],
  .dfr 10 cl [(.tmp 5), (.tmp 2), (.tmp 4)] 5 [1, 2, 4],
  .reg (.q (some 6) none (.ld1 (.tmp 2)) (.q (some 7) none (.nc (.tmp 6)) (.q (some 8) none (.fadr 0 (.tmp 7)) (.q (some 9) none (.ld1 (.tmp 8)) (.l (some 5) none (.alloc 22 [(1, (.slice none 0 0))]) [] (.l none none (.st1 (.tmp 5) (.tmp 9)) [] .done)))))) false 6 [1, 2, 4, 5],
  .reg (.l (some 2) none (.box 65 (.tmp 0)) [] (.l (some 4) none (.alloc ty [(1, z)]) [] .done)) false 7 [1, 2, 4]]
def cClo (z : Value) : List Vc.Node := [
  .ret [],
  .reg (.q (some 18) none (.ld1 (.tmp 1)) (.q (some 19) none (.ld1 (.tmp 1)) (.q (some 20) none (.ld1 (.tmp 0)) (.q (some 21) none (.mov (.tmp 4)) (.q (some 22) none (.mov (.tmp 6)) (.q (some 23) none (.nc (.tmp 18)) (.q (some 24) none (.fadr 0 (.tmp 23)) (.l none none (.st1 (.tmp 24) (.tmp 20)) [] (.q (some 25) none (.nc (.tmp 19)) (.q (some 26) none (.fadr 1 (.tmp 25)) (.l none none (.st1 (.tmp 26) (.tmp 21)) [] (.l none none (.st1 (.tmp 2) (.tmp 22)) [] .done)))))))))))) false 0 [],
  .reg (.q (some 6) none (.mov (.const z)) .done) false 1 [0, 1, 2, 4, 6],
  .reg (.q (some 17) none (.mov (.tmp 3)) (.l none none (.pan (.tmp 17)) [] .done)) false 2 [0, 1, 2, 4],
  .cnd (.tmp 16) 3 2,
  .reg (.q (some 15) none (.mov (.tmp 5)) (.q (some 16) none (.not (.tmp 15)) .done)) false 4 [0, 1, 2, 3, 4, 16],
  .reg (.q (some 11) none (.mov (.tmp 3)) (.q (some 12) none (.tas 112 .i64 (.tmp 11)) (.q (some 10) none (.mov (.tmp 12)) (.q (some 13) none (.ext 0 (.tmp 10)) (.q (some 14) none (.ext 1 (.tmp 10)) (.q (some 4) none (.mov (.tmp 13)) (.q (some 5) none (.mov (.tmp 14)) .done))))))) false 5 [0, 1, 2, 3, 4, 5],
  .cnd (.tmp 9) 6 0,
  .reg (.q (some 8) none (.mov (.tmp 3)) (.q (some 9) none (.eqI true (.tmp 8) (.const .nilIface)) .done)) false 7 [0, 1, 2, 3, 9],
  .rcv 7 3 8 [0, 1, 2, 3]]

section
variable {cl : Nat} {z : Value} (hD : cfgL Try.prog cl = some (27, 9, (cClo z).map Vc.Node.bare))
include hD
theorem clo_idle (a b c : Value) (w : World) : CallsD Try.prog cl #[a, b, c] .returning w (fun en u' w' => (∃ v, en = .returned v) ∧ u' = .returning ∧ w' = w) := by
  refine callsD_of_cfg hD rfl (Nat.le_of_ble_eq_true rfl) ?_
  simp only [argE_nil, argE_cons, Nat.reduceAdd, Nat.zero_add]
  simp (disch := first | omega | assumption | rfl | (simp only [vcS] <;> omega) | fail) only [↓ptV_l, ↓vcA, vcB, ↓vcD, vcE, ↓reduceIte, Nat.reduceEqDiff, Nat.reduceAdd, Nat.reduceMul, Nat.reduceLeDiff, Int.reduceLE, Int.reduceLT, Int.reduceEq, Int.reduceToNat, Int.reduceAdd, Int.reduceSub, Int.reduceMul, Int.reduceNeg, reduceCtorEq, Option.bind_some, Option.map_some, List.length_cons, List.length_nil, vcM, List.getElem?_toArray, List.getElem?_cons_zero, List.getElem?_cons_succ, rcvM]
  (refine V_at hD rfl (by simp) ?_; refine ⟨_, rfl, ?_⟩; simp (disch := first | omega | assumption | rfl | (simp only [vcS] <;> omega) | fail) only [↓ptV_l, ↓vcA, vcB, ↓vcD, vcE, ↓reduceIte, Nat.reduceEqDiff, Nat.reduceAdd, Nat.reduceMul, Nat.reduceLeDiff, Int.reduceLE, Int.reduceLT, Int.reduceEq, Int.reduceToNat, Int.reduceAdd, Int.reduceSub, Int.reduceMul, Int.reduceNeg, reduceCtorEq, Option.bind_some, Option.map_some, List.length_cons, List.length_nil, vcM, List.getElem?_toArray, List.getElem?_cons_zero, List.getElem?_cons_succ])
  (refine V_at hD rfl (by simp) ?_; refine ⟨_, rfl, ?_⟩; simp (disch := first | omega | assumption | rfl | (simp only [vcS] <;> omega) | fail) only [↓ptV_l, ↓vcA, vcB, ↓vcD, vcE, ↓reduceIte, Nat.reduceEqDiff, Nat.reduceAdd, Nat.reduceMul, Nat.reduceLeDiff, Int.reduceLE, Int.reduceLT, Int.reduceEq, Int.reduceToNat, Int.reduceAdd, Int.reduceSub, Int.reduceMul, Int.reduceNeg, reduceCtorEq, Option.bind_some, Option.map_some, List.length_cons, List.length_nil, vcM, List.getElem?_toArray, List.getElem?_cons_zero, List.getElem?_cons_succ])
  (refine V_at hD rfl (by simp) ?_; refine ⟨_, rfl, ?_⟩; simp (disch := first | omega | assumption | rfl | (simp only [vcS] <;> omega) | fail) only [↓ptV_l, ↓vcA, vcB, ↓vcD, vcE, ↓reduceIte, Nat.reduceEqDiff, Nat.reduceAdd, Nat.reduceMul, Nat.reduceLeDiff, Int.reduceLE, Int.reduceLT, Int.reduceEq, Int.reduceToNat, Int.reduceAdd, Int.reduceSub, Int.reduceMul, Int.reduceNeg, reduceCtorEq, Option.bind_some, Option.map_some, List.length_cons, List.length_nil, vcM, List.getElem?_toArray, List.getElem?_cons_zero, List.getElem?_cons_succ, LV_nil])
  exact ⟨_, rfl⟩
theorem clo_catch (b5 b2 b4 r : Nat) (ty : Nat) (er e : Int) (was v o : Value) (w : World) (h5 : w.heap[b5]? = some (.cells #[was] 22 (0, 0))) (h2 : w.heap[b2]? = some (.cells #[.pointer (some ⟨r, 0, none⟩)] 65 (0, 0)))
    (h4 : w.heap[b4]? = some (.cells #[o] ty (0, 0))) (hr : w.heap[r]? = some (.cells #[v, .int .i64 e] 92 (0, 0))) (hr4 : r ≠ b4) (hw : was.oneCell' = true) (hz : z.oneCell' = true) :
    CallsD Try.prog cl #[.pointer (some ⟨b5, 0, none⟩), .pointer (some ⟨b2, 0, none⟩), .pointer (some ⟨b4, 0, none⟩)] (.panicking [{ v := .iface 112 (.int .i64 er), recovered := false }]) w
      (fun en u' w' => (∃ v, en = .returned v) ∧ settle u' = .returning ∧ w' = ((w.setCell ⟨r, 0, none⟩ was).setCell ⟨r, 1, none⟩ (.int .i64 er)).setCell ⟨b4, 0, none⟩ z) := by
  refine callsD_of_cfg hD rfl (Nat.le_of_ble_eq_true rfl) ?_
  simp only [argE_nil, argE_cons, Nat.reduceAdd, Nat.zero_add]
  simp (disch := first | omega | assumption | rfl | (simp only [vcS] <;> omega) | fail) only [↓ptV_l, ↓vcA, vcB, ↓vcD, vcE, ↓reduceIte, Nat.reduceEqDiff, Nat.reduceAdd, Nat.reduceMul, Nat.reduceLeDiff, Int.reduceLE, Int.reduceLT, Int.reduceEq, Int.reduceToNat, Int.reduceAdd, Int.reduceSub, Int.reduceMul, Int.reduceNeg, reduceCtorEq, Option.bind_some, Option.map_some, List.length_cons, List.length_nil, vcM, List.getElem?_toArray, List.getElem?_cons_zero, List.getElem?_cons_succ, rcvM]
  (refine V_at hD rfl (by simp) ?_; refine ⟨_, rfl, ?_⟩; simp (disch := first | omega | assumption | rfl | (simp only [vcS] <;> omega) | fail) only [↓ptV_l, ↓vcA, vcB, ↓vcD, vcE, ↓reduceIte, Nat.reduceEqDiff, Nat.reduceAdd, Nat.reduceMul, Nat.reduceLeDiff, Int.reduceLE, Int.reduceLT, Int.reduceEq, Int.reduceToNat, Int.reduceAdd, Int.reduceSub, Int.reduceMul, Int.reduceNeg, reduceCtorEq, Option.bind_some, Option.map_some, List.length_cons, List.length_nil, vcM, List.getElem?_toArray, List.getElem?_cons_zero, List.getElem?_cons_succ])
  (refine V_at hD rfl (by simp) ?_; refine ⟨_, rfl, ?_⟩; simp (disch := first | omega | assumption | rfl | (simp only [vcS] <;> omega) | fail) only [↓ptV_l, ↓vcA, vcB, ↓vcD, vcE, ↓reduceIte, Nat.reduceEqDiff, Nat.reduceAdd, Nat.reduceMul, Nat.reduceLeDiff, Int.reduceLE, Int.reduceLT, Int.reduceEq, Int.reduceToNat, Int.reduceAdd, Int.reduceSub, Int.reduceMul, Int.reduceNeg, reduceCtorEq, Option.bind_some, Option.map_some, List.length_cons, List.length_nil, vcM, List.getElem?_toArray, List.getElem?_cons_zero, List.getElem?_cons_succ])
  (refine V_at hD rfl (by simp) ?_; refine ⟨_, rfl, ?_⟩; simp (disch := first | omega | assumption | rfl | (simp only [vcS] <;> omega) | fail) only [↓ptV_l, ↓vcA, vcB, ↓vcD, vcE, ↓reduceIte, Nat.reduceEqDiff, Nat.reduceAdd, Nat.reduceMul, Nat.reduceLeDiff, Int.reduceLE, Int.reduceLT, Int.reduceEq, Int.reduceToNat, Int.reduceAdd, Int.reduceSub, Int.reduceMul, Int.reduceNeg, reduceCtorEq, Option.bind_some, Option.map_some, List.length_cons, List.length_nil, vcM, List.getElem?_toArray, List.getElem?_cons_zero, List.getElem?_cons_succ])
  (refine V_at hD rfl (by simp) ?_; refine ⟨_, rfl, ?_⟩; simp (disch := first | omega | assumption | rfl | (simp only [vcS] <;> omega) | fail) only [↓ptV_l, ↓vcA, vcB, ↓vcD, vcE, ↓reduceIte, Nat.reduceEqDiff, Nat.reduceAdd, Nat.reduceMul, Nat.reduceLeDiff, Int.reduceLE, Int.reduceLT, Int.reduceEq, Int.reduceToNat, Int.reduceAdd, Int.reduceSub, Int.reduceMul, Int.reduceNeg, reduceCtorEq, Option.bind_some, Option.map_some, List.length_cons, List.length_nil, vcM, List.getElem?_toArray, List.getElem?_cons_zero, List.getElem?_cons_succ])
  (refine V_at hD rfl (by simp) ?_; refine ⟨_, rfl, ?_⟩; simp (disch := first | omega | assumption | rfl | (simp only [vcS] <;> omega) | fail) only [↓ptV_l, ↓vcA, vcB, ↓vcD, vcE, ↓reduceIte, Nat.reduceEqDiff, Nat.reduceAdd, Nat.reduceMul, Nat.reduceLeDiff, Int.reduceLE, Int.reduceLT, Int.reduceEq, Int.reduceToNat, Int.reduceAdd, Int.reduceSub, Int.reduceMul, Int.reduceNeg, reduceCtorEq, Option.bind_some, Option.map_some, List.length_cons, List.length_nil, vcM, List.getElem?_toArray, List.getElem?_cons_zero, List.getElem?_cons_succ])
  (refine V_at hD rfl (by simp) ?_; refine ⟨_, rfl, ?_⟩; simp (disch := first | omega | assumption | rfl | (simp only [vcS] <;> omega) | fail) only [↓ptV_l, ↓vcA, vcB, ↓vcD, vcE, ↓reduceIte, Nat.reduceEqDiff, Nat.reduceAdd, Nat.reduceMul, Nat.reduceLeDiff, Int.reduceLE, Int.reduceLT, Int.reduceEq, Int.reduceToNat, Int.reduceAdd, Int.reduceSub, Int.reduceMul, Int.reduceNeg, reduceCtorEq, Option.bind_some, Option.map_some, List.length_cons, List.length_nil, vcM, List.getElem?_toArray, List.getElem?_cons_zero, List.getElem?_cons_succ])
  have hr1 : (w.setCell ⟨r, 0, none⟩ was).heap[r]? = some (.cells #[was, .int .i64 e] 92 (0, 0)) := by rw [heap_setCell_eq hr]; rfl
  have h41 : ((w.setCell ⟨r, 0, none⟩ was).setCell ⟨r, 1, none⟩ (.int .i64 er)).heap[b4]? = some (.cells #[o] ty (0, 0)) := by rw [heap_setCell_ne _ _ _ _ _ _ (Ne.symm hr4), heap_setCell_ne _ _ _ _ _ _ (Ne.symm hr4)]; exact h4
  have g1 : wr1 w r 0 := wr1_of hr (by simp)
  have g2 : wr1 (w.setCell ⟨r, 0, none⟩ was) r 1 := wr1_of hr1 (by simp)
  have g3 : wr1 ((w.setCell ⟨r, 0, none⟩ was).setCell ⟨r, 1, none⟩ (.int .i64 er)) b4 0 := wr1_of h41 (by simp)
  (refine V_at hD rfl (by simp) ?_; refine ⟨_, rfl, ?_⟩; simp (disch := first | omega | assumption | rfl | (simp only [vcS] <;> omega) | fail) only [↓ptV_l, ↓vcA, vcB, ↓vcD, vcE, ↓reduceIte, Nat.reduceEqDiff, Nat.reduceAdd, Nat.reduceMul, Nat.reduceLeDiff, Int.reduceLE, Int.reduceLT, Int.reduceEq, Int.reduceToNat, Int.reduceAdd, Int.reduceSub, Int.reduceMul, Int.reduceNeg, reduceCtorEq, Option.bind_some, Option.map_some, List.length_cons, List.length_nil, vcM, List.getElem?_toArray, List.getElem?_cons_zero, List.getElem?_cons_succ, h2, h5, hw, hz, g1, g2, g3])
  (refine V_at hD rfl (by simp) ?_; refine ⟨_, rfl, ?_⟩; simp (disch := first | omega | assumption | rfl | (simp only [vcS] <;> omega) | fail) only [↓ptV_l, ↓vcA, vcB, ↓vcD, vcE, ↓reduceIte, Nat.reduceEqDiff, Nat.reduceAdd, Nat.reduceMul, Nat.reduceLeDiff, Int.reduceLE, Int.reduceLT, Int.reduceEq, Int.reduceToNat, Int.reduceAdd, Int.reduceSub, Int.reduceMul, Int.reduceNeg, reduceCtorEq, Option.bind_some, Option.map_some, List.length_cons, List.length_nil, vcM, List.getElem?_toArray, List.getElem?_cons_zero, List.getElem?_cons_succ, LV_nil])
  exact ⟨⟨_, rfl⟩, rfl⟩
end

/-- 'try': what reads is called; where that gives up, nothing was read. -/
theorem try_gen {f cl ty : Nat} {z : Value} (hC : cfgL Try.prog f = some (19, 8, (cTry ty z cl).map Vc.Node.bare)) (hD : cfgL Try.prog cl = some (27, 9, (cClo z).map Vc.Node.bare)) (hpc : plainF Try.prog cl = true) (hz : z.oneCell' = true) (hty : ty ≠ 92)
    (w : World) (g : Nat) (cap : Array Value) (hpg : plainF Try.prog g = true) (r B : Nat) (v : Value) (bs : List Int) (e : Int) (h : RAt w r B v bs e) (hBw : B < w.heap.size) (ok : Option (List Int × (Value → World → Prop))) (er : Int)
    (hread : e = 0 → ∀ w1, Ext w w1 → Calls Try.prog g (#[.pointer (some ⟨r, 0, none⟩)] ++ cap) w1 (REnd w1 r B 0 ok er))
    (hφ1 : ∀ rest φ, ok = some (rest, φ) → ∀ u w', φ u w' → u.oneCell' = true)
    (hφ2 : ∀ rest φ, ok = some (rest, φ) → ∀ u w' w'' p c, w.heap.size ≤ p → w'.heap[p]? = some (.cells c ty (0, 0)) → Keep (fun i => i = p) w' w'' → φ u w' → φ u w'')
    (Q : Value → World → Prop) (q0 : e ≠ 0 → ∀ w', Ext w w' → RAt w' r B v bs e → Q z w') (q1 : e = 0 → ∀ rest φ, ok = some (rest, φ) → ∀ u w' v', Keep (fun i => i = r) w w' → φ u w' → RAt w' r B v' rest 0 → Q u w')
    (q2 : e = 0 → ok = none → ∀ w', Keep (fun i => i = r) w w' → RAt w' r B v bs er → Q z w') :
    Calls Try.prog f #[.pointer (some ⟨r, 0, none⟩), .func (.func g) #[] cap] w (Ret Q) := by
  refine calls_of_cfgD hC (Nat.le_of_ble_eq_true rfl) ?_
  simp only [argE_nil, argE_cons, Nat.reduceAdd, Nat.zero_add]
  have hz1 : zc [(1, z)] = #[z] := rfl
  have hat := h.at'
  have hlt := h.lt
  have hv1 := h.rd.one
  (refine V_at hC rfl (by simp) ?_; refine ⟨_, rfl, ?_⟩; simp (disch := first | omega | assumption | rfl | (simp only [vcS] <;> omega) | fail) only [↓ptV_l, ↓vcA, vcB, ↓vcD, vcE, ↓reduceIte, Nat.reduceEqDiff, Nat.reduceAdd, Nat.reduceMul, Nat.reduceLeDiff, Int.reduceLE, Int.reduceLT, Int.reduceEq, Int.reduceToNat, Int.reduceAdd, Int.reduceSub, Int.reduceMul, Int.reduceNeg, reduceCtorEq, Option.bind_some, Option.map_some, List.length_cons, List.length_nil, vcM, List.getElem?_toArray, List.getElem?_cons_zero, List.getElem?_cons_succ, hz1])
  have h2 : ((w.alloc (Obj.cells #[Value.pointer (some ⟨r, 0, none⟩)] 65)).alloc (Obj.cells #[z] ty)).heap[w.heap.size]? = some (.cells #[.pointer (some ⟨r, 0, none⟩)] 65 (0, 0)) := by simp (disch := first | omega | assumption | rfl | (simp only [vcS] <;> omega) | fail) only [↓ptV_l, ↓vcA, vcB, ↓vcD, vcE, ↓reduceIte, Nat.reduceEqDiff, Nat.reduceAdd, Nat.reduceMul, Nat.reduceLeDiff, Int.reduceLE, Int.reduceLT, Int.reduceEq, Int.reduceToNat, Int.reduceAdd, Int.reduceSub, Int.reduceMul, Int.reduceNeg, reduceCtorEq, Option.bind_some, Option.map_some, List.length_cons, List.length_nil, vcM, List.getElem?_toArray, List.getElem?_cons_zero, List.getElem?_cons_succ]
  have h4 : ((w.alloc (Obj.cells #[Value.pointer (some ⟨r, 0, none⟩)] 65)).alloc (Obj.cells #[z] ty)).heap[w.heap.size + 1]? = some (.cells #[z] ty (0, 0)) := by simp (disch := first | omega | assumption | rfl | (simp only [vcS] <;> omega) | fail) only [↓ptV_l, ↓vcA, vcB, ↓vcD, vcE, ↓reduceIte, Nat.reduceEqDiff, Nat.reduceAdd, Nat.reduceMul, Nat.reduceLeDiff, Int.reduceLE, Int.reduceLT, Int.reduceEq, Int.reduceToNat, Int.reduceAdd, Int.reduceSub, Int.reduceMul, Int.reduceNeg, reduceCtorEq, Option.bind_some, Option.map_some, List.length_cons, List.length_nil, vcM, List.getElem?_toArray, List.getElem?_cons_zero, List.getElem?_cons_succ]
  have hE1 : Ext w ((w.alloc (Obj.cells #[Value.pointer (some ⟨r, 0, none⟩)] 65)).alloc (Obj.cells #[z] ty)) := by (repeat' first | exact Keep.refl _ _ | assumption | refine Keep.drew ?_ | refine Keep.alloc ?_ _ | refine Keep.putN ?_ _ ?_ | refine Keep.setCell ?_ _ ?_ | refine Keep.setO ?_ _ ?_ | exact fun _ => Or.inl rfl | exact fun _ => Or.inr rfl | exact fun _ => rfl | (intro hh; exfalso; ((try simp only [vcS] at hh) <;> omega)))
  have hs1 : ((w.alloc (Obj.cells #[Value.pointer (some ⟨r, 0, none⟩)] 65)).alloc (Obj.cells #[z] ty)).heap.size = w.heap.size + 2 := by simp only [size_alloc]
  generalize World.alloc (World.alloc _ _) _ = w1 at h2 h4 hE1 hs1 ⊢
  generalize hb2 : w.heap.size = b2 at h2 h4 hs1 ⊢
  have hat1 := hE1.at hat fun h => h
  (refine V_at hC rfl (by simp) ?_; refine ⟨_, rfl, ?_⟩; simp (disch := first | omega | assumption | rfl | (simp only [vcS] <;> omega) | fail) only [↓ptV_l, ↓vcA, vcB, ↓vcD, vcE, ↓reduceIte, Nat.reduceEqDiff, Nat.reduceAdd, Nat.reduceMul, Nat.reduceLeDiff, Int.reduceLE, Int.reduceLT, Int.reduceEq, Int.reduceToNat, Int.reduceAdd, Int.reduceSub, Int.reduceMul, Int.reduceNeg, reduceCtorEq, Option.bind_some, Option.map_some, List.length_cons, List.length_nil, vcM, List.getElem?_toArray, List.getElem?_cons_zero, List.getElem?_cons_succ, h2, hat1])
  have h5 : (w1.alloc (Obj.cells (zc [(1, .slice none 0 0)]) 22)).heap[w1.heap.size]? = some (.cells #[.slice none 0 0] 22 (0, 0)) := heap_new _ _ _ rfl
  refine ⟨hv1, wr1_of h5 (by simp), ?_⟩
  have h5' : ((w1.alloc (Obj.cells (zc [(1, .slice none 0 0)]) 22)).setCell ⟨w1.heap.size, 0, none⟩ v).heap[w1.heap.size]? = some (.cells #[v] 22 (0, 0)) := by rw [heap_setCell_eq h5]; rfl
  have hE2 : Ext w1 ((w1.alloc (Obj.cells (zc [(1, .slice none 0 0)]) 22)).setCell ⟨w1.heap.size, 0, none⟩ v) := by (repeat' first | exact Keep.refl _ _ | assumption | refine Keep.drew ?_ | refine Keep.alloc ?_ _ | refine Keep.putN ?_ _ ?_ | refine Keep.setCell ?_ _ ?_ | refine Keep.setO ?_ _ ?_ | exact fun _ => Or.inl rfl | exact fun _ => Or.inr rfl | exact fun _ => rfl | (intro hh; exfalso; ((try simp only [vcS] at hh) <;> omega)))
  have hb5 : b2 + 2 = w1.heap.size := hs1.symm
  generalize World.setCell _ _ _ = w2 at h5' hE2 ⊢
  generalize w1.heap.size = b5 at h5' hb5 ⊢
  have hE02 := hE1.ext hE2
  have h2' := hE2.at h2 fun h => h
  have h4' := hE2.at h4 fun h => h
  have hat2 := hE02.at hat fun h => h
  have hR2 := h.ext hE02
  have hrb4 : r ≠ b2 + 1 := by omega
  (refine V_at hC rfl (by simp) ?_; refine ⟨_, rfl, ?_⟩; simp (disch := first | omega | assumption | rfl | (simp only [vcS] <;> omega) | fail) only [↓ptV_l, ↓vcA, vcB, ↓vcD, vcE, ↓reduceIte, Nat.reduceEqDiff, Nat.reduceAdd, Nat.reduceMul, Nat.reduceLeDiff, Int.reduceLE, Int.reduceLT, Int.reduceEq, Int.reduceToNat, Int.reduceAdd, Int.reduceSub, Int.reduceMul, Int.reduceNeg, reduceCtorEq, Option.bind_some, Option.map_some, List.length_cons, List.length_nil, vcM, List.getElem?_toArray, List.getElem?_cons_zero, List.getElem?_cons_succ])
  (refine V_at hC rfl (by simp) ?_; refine ⟨_, rfl, ?_⟩; simp (disch := first | omega | assumption | rfl | (simp only [vcS] <;> omega) | fail) only [↓ptV_l, ↓vcA, vcB, ↓vcD, vcE, ↓reduceIte, Nat.reduceEqDiff, Nat.reduceAdd, Nat.reduceMul, Nat.reduceLeDiff, Int.reduceLE, Int.reduceLT, Int.reduceEq, Int.reduceToNat, Int.reduceAdd, Int.reduceSub, Int.reduceMul, Int.reduceNeg, reduceCtorEq, Option.bind_some, Option.map_some, List.length_cons, List.length_nil, vcM, List.getElem?_toArray, List.getElem?_cons_zero, List.getElem?_cons_succ, h2', hat2])
  by_cases he : e = 0
  · subst he
    (refine V_at hC rfl (by simp) ?_; refine ⟨_, rfl, ?_⟩; simp (disch := first | omega | assumption | rfl | (simp only [vcS] <;> omega) | fail) only [↓ptV_l, ↓vcA, vcB, ↓vcD, vcE, ↓reduceIte, Nat.reduceEqDiff, Nat.reduceAdd, Nat.reduceMul, Nat.reduceLeDiff, Int.reduceLE, Int.reduceLT, Int.reduceEq, Int.reduceToNat, Int.reduceAdd, Int.reduceSub, Int.reduceMul, Int.reduceNeg, reduceCtorEq, Option.bind_some, Option.map_some, List.length_cons, List.length_nil, vcM, List.getElem?_toArray, List.getElem?_cons_zero, List.getElem?_cons_succ])
    (refine V_at hC rfl (by simp) ?_; refine ⟨_, rfl, ?_⟩; simp (disch := first | omega | assumption | rfl | (simp only [vcS] <;> omega) | fail) only [↓ptV_l, ↓vcA, vcB, ↓vcD, vcE, ↓reduceIte, Nat.reduceEqDiff, Nat.reduceAdd, Nat.reduceMul, Nat.reduceLeDiff, Int.reduceLE, Int.reduceLT, Int.reduceEq, Int.reduceToNat, Int.reduceAdd, Int.reduceSub, Int.reduceMul, Int.reduceNeg, reduceCtorEq, Option.bind_some, Option.map_some, List.length_cons, List.length_nil, vcM, List.getElem?_toArray, List.getElem?_cons_zero, List.getElem?_cons_succ, h2'])
    refine ⟨hpg, ?_⟩
    have hcall := hread rfl w2 hE02
    unfold callV
    have ea : (([] : List Value) ++ [Value.pointer (some ⟨r, 0, none⟩)] ++ cap.toList).toArray = #[Value.pointer (some ⟨r, 0, none⟩)] ++ cap := by apply Array.ext'; simp
    rw [ea]
    refine Calls.mono hcall fun en w3 hR => ?_
    obtain ⟨hk, hm⟩ := hR
    have h23 := hk.at h2' (by show ¬ b2 = r; omega)
    have h43 := hk.at h4' (by show ¬ b2 + 1 = r; omega)
    have h53 := hk.at h5' (by show ¬ b5 = r; omega)
    have hk03 : Keep (fun i => i = r) w w3 := (hE02.mono fun _ h => h.elim).trans hk fun _ _ h => h
    cases hok : ok with
    | some p =>
      obtain ⟨rest, φ⟩ := p
      rw [hok] at hm
      obtain ⟨u, v', rfl, hu, hR3⟩ := hm
      refine ⟨hφ1 rest φ hok u w3 hu, wr1_of h43 (by simp), ?_⟩
      have h44 : (w3.setCell ⟨b2 + 1, 0, none⟩ u).heap[b2 + 1]? = some (.cells #[u] ty (0, 0)) := by rw [heap_setCell_eq h43]; rfl
      have hk4 : Keep (fun i => i = b2 + 1) w3 (w3.setCell ⟨b2 + 1, 0, none⟩ u) := (Keep.refl _ w3).setCell _ fun _ => rfl
      have hu4 := hφ2 rest φ hok u w3 _ (b2 + 1) _ (by omega) h43 hk4 hu
      have hk04 := hk03.trans hk4 (T := fun i => i = b2 + 1) fun i hi (e : i = b2 + 1) => by omega
      have hR4 : RAt (w3.setCell ⟨b2 + 1, 0, none⟩ u) r B v' rest 0 := by
        exact hR3.keep hk4 hrb4 fun _ (e : B = b2 + 1) => by omega
      generalize World.setCell _ _ _ = w4 at h44 hu4 hk04 hR4 ⊢
      (refine V_at hC rfl (by simp) ?_; refine ⟨_, rfl, ?_⟩; simp (disch := first | omega | assumption | rfl | (simp only [vcS] <;> omega) | fail) only [↓ptV_l, ↓vcA, vcB, ↓vcD, vcE, ↓reduceIte, Nat.reduceEqDiff, Nat.reduceAdd, Nat.reduceMul, Nat.reduceLeDiff, Int.reduceLE, Int.reduceLT, Int.reduceEq, Int.reduceToNat, Int.reduceAdd, Int.reduceSub, Int.reduceMul, Int.reduceNeg, reduceCtorEq, Option.bind_some, Option.map_some, List.length_cons, List.length_nil, vcM, List.getElem?_toArray, List.getElem?_cons_zero, List.getElem?_cons_succ])
      refine LV_cons hpc (by simp) (clo_idle hD _ _ _ w4) ?_
      rintro en u' w5 ⟨hv, rfl, rfl⟩
      refine ⟨hv.choose, hv.choose_spec, ?_⟩
      simp (disch := first | omega | assumption | rfl | (simp only [vcS] <;> omega) | fail) only [↓ptV_l, ↓vcA, vcB, ↓vcD, vcE, ↓reduceIte, Nat.reduceEqDiff, Nat.reduceAdd, Nat.reduceMul, Nat.reduceLeDiff, Int.reduceLE, Int.reduceLT, Int.reduceEq, Int.reduceToNat, Int.reduceAdd, Int.reduceSub, Int.reduceMul, Int.reduceNeg, reduceCtorEq, Option.bind_some, Option.map_some, List.length_cons, List.length_nil, vcM, List.getElem?_toArray, List.getElem?_cons_zero, List.getElem?_cons_succ, settle, LV_nil, h44, Ret_returned]
      exact q1 rfl rest φ hok _ _ v' hk04 hu4 hR4
    | none =>
      rw [hok] at hm
      obtain ⟨rfl, v', bs', hR3⟩ := hm
      refine ⟨rfl, ?_, ?_⟩
      · intro rr hrr; simp at hrr; subst hrr; simp [rvSlot, dstsPT]
      · refine LV_cons hpc (by simp) (clo_catch hD b5 b2 (b2 + 1) r ty er 0 v v' z w3 h53 h23 h43 hR3.at' hrb4 hv1 hz) ?_
        rintro en u' w5 ⟨hv, hse, rfl⟩
        refine ⟨hv.choose, hv.choose_spec, ?_⟩
        rw [hse]
        have hw3 : w3.heap[r]? = some (.cells #[v', .int .i64 0] 92 (0, 0)) := hR3.at'
        have hr1 : (w3.setCell ⟨r, 0, none⟩ v).heap[r]? = some (.cells #[v, .int .i64 0] 92 (0, 0)) := by rw [heap_setCell_eq hw3]; rfl
        have hr2 : ((w3.setCell ⟨r, 0, none⟩ v).setCell ⟨r, 1, none⟩ (.int .i64 er)).heap[r]? = some (.cells #[v, .int .i64 er] 92 (0, 0)) := by rw [heap_setCell_eq hr1]; rfl
        have hr3 : (((w3.setCell ⟨r, 0, none⟩ v).setCell ⟨r, 1, none⟩ (.int .i64 er)).setCell ⟨b2 + 1, 0, none⟩ z).heap[r]? = some (.cells #[v, .int .i64 er] 92 (0, 0)) := by rw [heap_setCell_ne _ _ _ _ _ _ hrb4]; exact hr2
        have h41 : ((w3.setCell ⟨r, 0, none⟩ v).setCell ⟨r, 1, none⟩ (.int .i64 er)).heap[b2 + 1]? = some (.cells #[z] ty (0, 0)) := by rw [heap_setCell_ne _ _ _ _ _ _ (Ne.symm hrb4), heap_setCell_ne _ _ _ _ _ _ (Ne.symm hrb4)]; exact h43
        have h44 : (((w3.setCell ⟨r, 0, none⟩ v).setCell ⟨r, 1, none⟩ (.int .i64 er)).setCell ⟨b2 + 1, 0, none⟩ z).heap[b2 + 1]? = some (.cells #[z] ty (0, 0)) := by rw [heap_setCell_eq h41]; rfl
        have hk5 : Keep (fun i => i = r) w (((w3.setCell ⟨r, 0, none⟩ v).setCell ⟨r, 1, none⟩ (.int .i64 er)).setCell ⟨b2 + 1, 0, none⟩ z) :=
          ((hk03.setCell v fun _ => rfl).setCell (.int .i64 er) fun _ => rfl).setCell z fun hlt => by omega
        generalize World.setCell _ _ _ = w4 at hr3 h44 hk5 ⊢
        simp (disch := first | omega | assumption | rfl | (simp only [vcS] <;> omega) | fail) only [↓ptV_l, ↓vcA, vcB, ↓vcD, vcE, ↓reduceIte, Nat.reduceEqDiff, Nat.reduceAdd, Nat.reduceMul, Nat.reduceLeDiff, Int.reduceLE, Int.reduceLT, Int.reduceEq, Int.reduceToNat, Int.reduceAdd, Int.reduceSub, Int.reduceMul, Int.reduceNeg, reduceCtorEq, Option.bind_some, Option.map_some, List.length_cons, List.length_nil, vcM, List.getElem?_toArray, List.getElem?_cons_zero, List.getElem?_cons_succ, LV_nil, h44, Ret_returned]
        exact q2 rfl hok _ hk5 (h.set hk5 hr3 h.rd fun q n c hq => ⟨q, n, c, hq, rfl⟩)
  · (refine V_at hC rfl (by simp) ?_; refine ⟨_, rfl, ?_⟩; simp (disch := first | omega | assumption | rfl | (simp only [vcS] <;> omega) | fail) only [↓ptV_l, ↓vcA, vcB, ↓vcD, vcE, ↓reduceIte, Nat.reduceEqDiff, Nat.reduceAdd, Nat.reduceMul, Nat.reduceLeDiff, Int.reduceLE, Int.reduceLT, Int.reduceEq, Int.reduceToNat, Int.reduceAdd, Int.reduceSub, Int.reduceMul, Int.reduceNeg, reduceCtorEq, Option.bind_some, Option.map_some, List.length_cons, List.length_nil, vcM, List.getElem?_toArray, List.getElem?_cons_zero, List.getElem?_cons_succ, he])
    (refine V_at hC rfl (by simp) ?_; refine ⟨_, rfl, ?_⟩; simp (disch := first | omega | assumption | rfl | (simp only [vcS] <;> omega) | fail) only [↓ptV_l, ↓vcA, vcB, ↓vcD, vcE, ↓reduceIte, Nat.reduceEqDiff, Nat.reduceAdd, Nat.reduceMul, Nat.reduceLeDiff, Int.reduceLE, Int.reduceLT, Int.reduceEq, Int.reduceToNat, Int.reduceAdd, Int.reduceSub, Int.reduceMul, Int.reduceNeg, reduceCtorEq, Option.bind_some, Option.map_some, List.length_cons, List.length_nil, vcM, List.getElem?_toArray, List.getElem?_cons_zero, List.getElem?_cons_succ])
    refine LV_cons hpc (by simp) (clo_idle hD _ _ _ w2) ?_
    rintro en u' w5 ⟨hv, rfl, rfl⟩
    refine ⟨hv.choose, hv.choose_spec, ?_⟩
    simp (disch := first | omega | assumption | rfl | (simp only [vcS] <;> omega) | fail) only [↓ptV_l, ↓vcA, vcB, ↓vcD, vcE, ↓reduceIte, Nat.reduceEqDiff, Nat.reduceAdd, Nat.reduceMul, Nat.reduceLeDiff, Int.reduceLE, Int.reduceLT, Int.reduceEq, Int.reduceToNat, Int.reduceAdd, Int.reduceSub, Int.reduceMul, Int.reduceNeg, reduceCtorEq, Option.bind_some, Option.map_some, List.length_cons, List.length_nil, vcM, List.getElem?_toArray, List.getElem?_cons_zero, List.getElem?_cons_succ, settle, LV_nil, h4', Ret_returned]
    exact q0 he _ hE02 hR2
end Go.Proofs
namespace Go.Proofs
open Go.Vc
set_option maxRecDepth 10000

theorem callV_all {P : Program} {R : Ending → World → Prop} {f : FuncId} {vs : List Value} {w : World} {K : Value → World → Prop} {φ : Ending → World → Prop}
    (h : Calls P f vs.toArray w φ) (h1 : ∀ v w', φ (.returned v) w' → K v w') (h2 : ∀ c w', φ (.panicked c) w' → R (.panicked c) w') (h3 : ∀ w', φ .outgrown w' → R .outgrown w') : callV P R f vs w K := by
  unfold callV
  refine Calls.mono h fun en w' hp => ?_
  cases en with
  | returned v => exact h1 v w' hp
  | panicked c => exact h2 c w' hp
  | outgrown => exact h3 w' hp
theorem REnd.no_out {w w' : World} {r B : Nat} {e : Int} {ok : Option (List Int × (Value → World → Prop))} {er : Int} (h : REnd w r B e ok er .outgrown w') : False := by
  obtain ⟨_, h⟩ := h
  split at h
  · obtain ⟨_, _, h, _⟩ := h; cases h
  · cases h.1
/-- A reading part is called, and what it hands back is gone on with. -/
theorem callR {P : Program} {f : FuncId} {vs : List Value} {w w0 : World} {K : Value → World → Prop} {r B : Nat} {e : Int} {ok ok' : Option (List Int × (Value → World → Prop))} {er er' : Int}
    (h : Calls P f vs.toArray w (REnd w r B e ok er)) (hk0 : Keep (fun i => i = r) w0 w)
    (h1 : ∀ rest φ, ok = some (rest, φ) → ∀ u w' v', Keep (fun i => i = r) w w' → φ u w' → RAt w' r B v' rest e → K u w') (h2 : ok = none → ok' = none ∧ er' = er) : callV P (REnd w0 r B e ok' er') f vs w K := by
  refine callV_all h (fun v w' hp => ?_) (fun c w' hp => ?_) fun w' hp => (REnd.no_out hp).elim
  · obtain ⟨hk, hp⟩ := hp
    cases hok : ok with
    | some p =>
      obtain ⟨rest, φ⟩ := p
      rw [hok] at hp
      obtain ⟨u, v', hu, hφ, hR⟩ := hp
      cases hu
      exact h1 rest φ hok _ w' v' hk hφ hR
    | none => rw [hok] at hp; cases hp.1
  · obtain ⟨hk, hp⟩ := hp
    cases hok : ok with
    | some p => rw [hok] at hp; obtain ⟨_, _, hu, _⟩ := hp; cases hu
    | none =>
      rw [hok] at hp
      obtain ⟨e1, e2⟩ := h2 hok
      subst e1 e2
      exact ⟨hk0.trans hk fun _ _ h => h, hp⟩

def valF : List Int → Int
  | [] => 0
  | b :: bs => b + 256 * valF bs
theorem valF_lt : ∀ {bs : List Int}, byt bs → 0 ≤ valF bs ∧ valF bs < 256 ^ bs.length
  | [], _ => by simp [valF]
  | b :: bs, h => by
    have h1 := h b (by simp)
    have h2 := valF_lt (bs := bs) fun x hx => h x (by simp [hx])
    simp only [valF, List.length_cons, Int.pow_succ]
    omega
theorem valF_snoc : ∀ (bs : List Int) (b : Int), valF (bs ++ [b]) = valF bs + b * 256 ^ bs.length
  | [], b => by simp [valF]
  | x :: bs, b => by
    have ih := valF_snoc bs b
    simp only [List.cons_append, valF, ih, List.length_cons, Int.pow_succ]
    rw [Int.mul_add, ← Int.mul_assoc, ← Int.mul_assoc, Int.mul_comm 256 b, Int.mul_assoc b 256, Int.mul_comm 256 (256 ^ bs.length)]
    rw [Int.mul_assoc]; omega
theorem or_add {x c : Int} {i : Nat} (hx : 0 ≤ x ∧ x < 256 ^ i) (hc : 0 ≤ c ∧ c ≤ 255) (hi : i < 8) :
    IntKind.u64.wrap (((BitVec.ofInt IntKind.u64.bits x ||| BitVec.ofInt IntKind.u64.bits (c * 256 ^ i)).toNat : Nat) : Int) = x + c * 256 ^ i := by
  show IntKind.u64.wrap (((BitVec.ofInt 64 x ||| BitVec.ofInt 64 (c * 256 ^ i)).toNat : Nat) : Int) = _
  obtain ⟨X, rfl⟩ := Int.eq_ofNat_of_zero_le hx.1
  obtain ⟨C, rfl⟩ := Int.eq_ofNat_of_zero_le hc.1
  have e1 : ((256 : Int) ^ i) = ((2 ^ (8 * i) : Nat) : Int) := by rw [Nat.pow_mul]; simp
  rw [e1] at hx ⊢
  have hX : X < 2 ^ (8 * i) := by omega
  have hle : 2 ^ (8 * i) ≤ 2 ^ 56 := Nat.pow_le_pow_right (by decide) (by omega)
  have hC : C ≤ 255 := by omega
  have hm : C * 2 ^ (8 * i) ≤ 255 * 2 ^ 56 := Nat.mul_le_mul hC hle
  have e2 : ((C : Int) * ((2 ^ (8 * i) : Nat) : Int)) = ((C * 2 ^ (8 * i) : Nat) : Int) := by simp
  rw [e2, BitVec.toNat_or]
  have t : ∀ n : Nat, n < 2 ^ 64 → (BitVec.ofInt 64 (n : Int)).toNat = n := fun n hn => by
    rw [BitVec.toNat_ofInt]
    have : ((n : Int) % ((2 ^ 64 : Nat) : Int)).toNat = n := by
      rw [Int.emod_eq_of_lt (by omega) (by omega)]; simp
    exact this
  rw [t X (by omega), t _ (by omega)]
  have e3 : X ||| C * 2 ^ (8 * i) = X + C * 2 ^ (8 * i) := by
    have := Nat.two_pow_add_eq_or_of_lt hX C
    rw [Nat.mul_comm (2 ^ (8 * i)) C] at this
    rw [Nat.or_comm, ← this, Nat.add_comm]
  rw [e3, wrap_u64]
  omega

theorem advA_blk {s c l : Nat} {q : Option Addr} {a : Addr} (h : advA s q c l = some a) : ∃ a', q = some a' ∧ a.block = a'.block := by
  unfold advA at h
  split at h
  · exact ⟨a, h, rfl⟩
  · cases q with
    | none => cases h
    | some a' =>
      simp only [Option.map_some, Option.some.injEq] at h
      refine ⟨a', rfl, ?_⟩
      rw [← h]; unfold Addr.add; split <;> rfl

theorem take_ok (w : World) (r B : Nat) (v : Value) (bs : List Int) (e : Int) (n : Nat) (h : RAt w r B v bs e) :
    Calls Try.prog 81 #[.pointer (some ⟨r, 0, none⟩), .int .i64 n] w (REnd w r B e (if n ≤ bs.length then some (bs.drop n, fun u w' => Rd w' u (bs.take n)) else none) 4) := by
  refine calls_of_cfg c81_ok (Nat.le_of_ble_eq_true rfl) ?_
  simp only [argE_nil, argE_cons, Nat.reduceAdd, Nat.zero_add]
  have hat := h.at'
  have hlen := h.rd.len
  have h0 := h.rd
  (refine W_at c81_ok ?_; refine ⟨_, rfl, ?_⟩; simp (disch := first | omega | assumption | rfl | (simp only [vcS] <;> omega) | fail) only [↓ptV_l, ↓vcA, vcB, ↓vcD, vcE, ↓reduceIte, Nat.reduceEqDiff, Nat.reduceAdd, Nat.reduceMul, Nat.reduceLeDiff, Int.reduceLE, Int.reduceLT, Int.reduceEq, Int.reduceToNat, Int.reduceAdd, Int.reduceSub, Int.reduceMul, Int.reduceNeg, reduceCtorEq, Option.bind_some, Option.map_some, List.length_cons, List.length_nil, vcM, List.getElem?_toArray, List.getElem?_cons_zero, List.getElem?_cons_succ])
  by_cases hn : (bs.length : Int) < n
  · rw [if_neg (by omega)]
    (refine W_at c81_ok ?_; refine ⟨_, rfl, ?_⟩; simp (disch := first | omega | assumption | rfl | (simp only [vcS] <;> omega) | fail) only [↓ptV_l, ↓vcA, vcB, ↓vcD, vcE, ↓reduceIte, Nat.reduceEqDiff, Nat.reduceAdd, Nat.reduceMul, Nat.reduceLeDiff, Int.reduceLE, Int.reduceLT, Int.reduceEq, Int.reduceToNat, Int.reduceAdd, Int.reduceSub, Int.reduceMul, Int.reduceNeg, reduceCtorEq, Option.bind_some, Option.map_some, List.length_cons, List.length_nil, vcM, List.getElem?_toArray, List.getElem?_cons_zero, List.getElem?_cons_succ, hat, hlen, hn])
    (refine W_at c81_ok ?_; refine ⟨_, rfl, ?_⟩; simp (disch := first | omega | assumption | rfl | (simp only [vcS] <;> omega) | fail) only [↓ptV_l, ↓vcA, vcB, ↓vcD, vcE, ↓reduceIte, Nat.reduceEqDiff, Nat.reduceAdd, Nat.reduceMul, Nat.reduceLeDiff, Int.reduceLE, Int.reduceLT, Int.reduceEq, Int.reduceToNat, Int.reduceAdd, Int.reduceSub, Int.reduceMul, Int.reduceNeg, reduceCtorEq, Option.bind_some, Option.map_some, List.length_cons, List.length_nil, vcM, List.getElem?_toArray, List.getElem?_cons_zero, List.getElem?_cons_succ])
    (refine W_at c81_ok ?_; refine ⟨_, rfl, ?_⟩; simp (disch := first | omega | assumption | rfl | (simp only [vcS] <;> omega) | fail) only [↓ptV_l, ↓vcA, vcB, ↓vcD, vcE, ↓reduceIte, Nat.reduceEqDiff, Nat.reduceAdd, Nat.reduceMul, Nat.reduceLeDiff, Int.reduceLE, Int.reduceLT, Int.reduceEq, Int.reduceToNat, Int.reduceAdd, Int.reduceSub, Int.reduceMul, Int.reduceNeg, reduceCtorEq, Option.bind_some, Option.map_some, List.length_cons, List.length_nil, vcM, List.getElem?_toArray, List.getElem?_cons_zero, List.getElem?_cons_succ])
    exact ⟨Keep.refl _ w, rfl, v, bs, h⟩
  · rw [if_pos (by omega)]
    obtain ⟨⟨q, c, rfl, hc⟩, hm, hr⟩ := h.rd
    have hh : 0 ≤ (n : Int) ∧ (n : Int) ≤ c := by omega
    have hl : 0 ≤ (n : Int) ∧ (n : Int) ≤ bs.length := by omega
    (refine W_at c81_ok ?_; refine ⟨_, rfl, ?_⟩; simp (disch := first | omega | assumption | rfl | (simp only [vcS] <;> omega) | fail) only [↓ptV_l, ↓vcA, vcB, ↓vcD, vcE, ↓reduceIte, Nat.reduceEqDiff, Nat.reduceAdd, Nat.reduceMul, Nat.reduceLeDiff, Int.reduceLE, Int.reduceLT, Int.reduceEq, Int.reduceToNat, Int.reduceAdd, Int.reduceSub, Int.reduceMul, Int.reduceNeg, reduceCtorEq, Option.bind_some, Option.map_some, List.length_cons, List.length_nil, vcM, List.getElem?_toArray, List.getElem?_cons_zero, List.getElem?_cons_succ, hat, hlen, hn])
    (refine W_at c81_ok ?_; refine ⟨_, rfl, ?_⟩; simp (disch := first | omega | assumption | rfl | (simp only [vcS] <;> omega) | fail) only [↓ptV_l, ↓vcA, vcB, ↓vcD, vcE, ↓reduceIte, Nat.reduceEqDiff, Nat.reduceAdd, Nat.reduceMul, Nat.reduceLeDiff, Int.reduceLE, Int.reduceLT, Int.reduceEq, Int.reduceToNat, Int.reduceAdd, Int.reduceSub, Int.reduceMul, Int.reduceNeg, reduceCtorEq, Option.bind_some, Option.map_some, List.length_cons, List.length_nil, vcM, List.getElem?_toArray, List.getElem?_cons_zero, List.getElem?_cons_succ])
    (refine W_at c81_ok ?_; refine ⟨_, rfl, ?_⟩; simp (disch := first | omega | assumption | rfl | (simp only [vcS] <;> omega) | fail) only [↓ptV_l, ↓vcA, vcB, ↓vcD, vcE, ↓reduceIte, Nat.reduceEqDiff, Nat.reduceAdd, Nat.reduceMul, Nat.reduceLeDiff, Int.reduceLE, Int.reduceLT, Int.reduceEq, Int.reduceToNat, Int.reduceAdd, Int.reduceSub, Int.reduceMul, Int.reduceNeg, reduceCtorEq, Option.bind_some, Option.map_some, List.length_cons, List.length_nil, vcM, List.getElem?_toArray, List.getElem?_cons_zero, List.getElem?_cons_succ, hat, hh, Int.toNat_natCast, Nat.sub_zero])
    (refine W_at c81_ok ?_; refine ⟨_, rfl, ?_⟩; simp (disch := first | omega | assumption | rfl | (simp only [vcS] <;> omega) | fail) only [↓ptV_l, ↓vcA, vcB, ↓vcD, vcE, ↓reduceIte, Nat.reduceEqDiff, Nat.reduceAdd, Nat.reduceMul, Nat.reduceLeDiff, Int.reduceLE, Int.reduceLT, Int.reduceEq, Int.reduceToNat, Int.reduceAdd, Int.reduceSub, Int.reduceMul, Int.reduceNeg, reduceCtorEq, Option.bind_some, Option.map_some, List.length_cons, List.length_nil, vcM, List.getElem?_toArray, List.getElem?_cons_zero, List.getElem?_cons_succ, hat, hl, Int.toNat_natCast])
    have h1 := h0.cut (l := 0) (j := n) (by omega) (by omega)
    have h2 := h0.cut (l := n) (j := bs.length) (by omega) (by omega)
    rw [advA_0, Nat.sub_zero, Nat.sub_zero, List.drop_zero] at h1
    rw [List.take_length] at h2
    refine ⟨wr1_of hat (by simp), ?_⟩
    have hk : Keep (fun i => i = r) w (w.setCell ⟨r, 0, none⟩ (.slice (advA 1 q c n) (bs.length - n) (c - n))) := (Keep.refl _ w).setCell _ fun _ => rfl
    have ha : (w.setCell ⟨r, 0, none⟩ (.slice (advA 1 q c n) (bs.length - n) (c - n))).heap[r]? = some (.cells #[.slice (advA 1 q c n) (bs.length - n) (c - n), .int .i64 e] 92 (0, 0)) := by rw [heap_setCell_eq hat]; rfl
    have hR := h.set hk ha h2 (fun q' n' c' hq => by
      cases hq' : advA 1 q c n with
      | none => rw [hq'] at hq; cases hq
      | some a =>
        rw [hq'] at hq; cases hq
        obtain ⟨a', h3, h4⟩ := advA_blk hq'
        exact ⟨a', _, _, by rw [h3], h4⟩)
    have hu : Rd (w.setCell ⟨r, 0, none⟩ (.slice (advA 1 q c n) (bs.length - n) (c - n))) (.slice q n c) (bs.take n) := h1.keep hk fun q' n' c' hq => by
      cases hq
      obtain ⟨h3, _, h4⟩ := h.bb q' _ _ rfl
      rw [h3]; exact h4
    generalize World.setCell _ _ _ = w1 at hk hR hu ⊢
    (refine W_at c81_ok ?_; refine ⟨_, rfl, ?_⟩; simp (disch := first | omega | assumption | rfl | (simp only [vcS] <;> omega) | fail) only [↓ptV_l, ↓vcA, vcB, ↓vcD, vcE, ↓reduceIte, Nat.reduceEqDiff, Nat.reduceAdd, Nat.reduceMul, Nat.reduceLeDiff, Int.reduceLE, Int.reduceLT, Int.reduceEq, Int.reduceToNat, Int.reduceAdd, Int.reduceSub, Int.reduceMul, Int.reduceNeg, reduceCtorEq, Option.bind_some, Option.map_some, List.length_cons, List.length_nil, vcM, List.getElem?_toArray, List.getElem?_cons_zero, List.getElem?_cons_succ])
    (refine W_at c81_ok ?_; refine ⟨_, rfl, ?_⟩; simp (disch := first | omega | assumption | rfl | (simp only [vcS] <;> omega) | fail) only [↓ptV_l, ↓vcA, vcB, ↓vcD, vcE, ↓reduceIte, Nat.reduceEqDiff, Nat.reduceAdd, Nat.reduceMul, Nat.reduceLeDiff, Int.reduceLE, Int.reduceLT, Int.reduceEq, Int.reduceToNat, Int.reduceAdd, Int.reduceSub, Int.reduceMul, Int.reduceNeg, reduceCtorEq, Option.bind_some, Option.map_some, List.length_cons, List.length_nil, vcM, List.getElem?_toArray, List.getElem?_cons_zero, List.getElem?_cons_succ])
    exact ⟨hk, _, _, rfl, hu, hR⟩

theorem numb_ok (w : World) (r B : Nat) (v : Value) (bs : List Int) (e : Int) (n : Nat) (h : RAt w r B v bs e) (hb : byt bs) (hn : n ≤ 8) :
    Calls Try.prog 74 #[.pointer (some ⟨r, 0, none⟩), .int .i64 n] w (REnd w r B e (if n ≤ bs.length then some (bs.drop n, fun u _ => u = .int .u64 (valF (bs.take n))) else none) 4) := by
  refine calls_of_cfg c74_ok (Nat.le_of_ble_eq_true rfl) ?_
  simp only [argE_nil, argE_cons, Nat.reduceAdd, Nat.zero_add]
  (refine W_at c74_ok ?_; refine ⟨_, rfl, ?_⟩; simp (disch := first | omega | assumption | rfl | (simp only [vcS] <;> omega) | fail) only [↓ptV_l, ↓vcA, vcB, ↓vcD, vcE, ↓reduceIte, Nat.reduceEqDiff, Nat.reduceAdd, Nat.reduceMul, Nat.reduceLeDiff, Int.reduceLE, Int.reduceLT, Int.reduceEq, Int.reduceToNat, Int.reduceAdd, Int.reduceSub, Int.reduceMul, Int.reduceNeg, reduceCtorEq, Option.bind_some, Option.map_some, List.length_cons, List.length_nil, vcM, List.getElem?_toArray, List.getElem?_cons_zero, List.getElem?_cons_succ])
  (refine W_at c74_ok ?_; refine ⟨_, rfl, ?_⟩; simp (disch := first | omega | assumption | rfl | (simp only [vcS] <;> omega) | fail) only [↓ptV_l, ↓vcA, vcB, ↓vcD, vcE, ↓reduceIte, Nat.reduceEqDiff, Nat.reduceAdd, Nat.reduceMul, Nat.reduceLeDiff, Int.reduceLE, Int.reduceLT, Int.reduceEq, Int.reduceToNat, Int.reduceAdd, Int.reduceSub, Int.reduceMul, Int.reduceNeg, reduceCtorEq, Option.bind_some, Option.map_some, List.length_cons, List.length_nil, vcM, List.getElem?_toArray, List.getElem?_cons_zero, List.getElem?_cons_succ])
  (refine W_at c74_ok ?_; refine ⟨_, rfl, ?_⟩; simp (disch := first | omega | assumption | rfl | (simp only [vcS] <;> omega) | fail) only [↓ptV_l, ↓vcA, vcB, ↓vcD, vcE, ↓reduceIte, Nat.reduceEqDiff, Nat.reduceAdd, Nat.reduceMul, Nat.reduceLeDiff, Int.reduceLE, Int.reduceLT, Int.reduceEq, Int.reduceToNat, Int.reduceAdd, Int.reduceSub, Int.reduceMul, Int.reduceNeg, reduceCtorEq, Option.bind_some, Option.map_some, List.length_cons, List.length_nil, vcM, List.getElem?_toArray, List.getElem?_cons_zero, List.getElem?_cons_succ])
  refine callR (take_ok w r B v bs e n h) (Keep.refl _ w) ?_ ?_
  · intro rest φ hok u w1 v1 hk hφ hR
    by_cases hl : n ≤ bs.length
    · rw [if_pos hl] at hok ⊢
      simp only [Option.some.injEq, Prod.mk.injEq] at hok
      obtain ⟨rfl, rfl⟩ := hok
      have hlen : (bs.take n).length = n := by rw [List.length_take]; omega
      have hbt := byt_take hb n
      have hul := hφ.len
      rw [hlen] at hul
      generalize bs.take n = ts at hφ hlen hbt ⊢
      simp (disch := first | omega | assumption | rfl | (simp only [vcS] <;> omega) | fail) only [↓ptV_l, ↓vcA, vcB, ↓vcD, vcE, ↓reduceIte, Nat.reduceEqDiff, Nat.reduceAdd, Nat.reduceMul, Nat.reduceLeDiff, Int.reduceLE, Int.reduceLT, Int.reduceEq, Int.reduceToNat, Int.reduceAdd, Int.reduceSub, Int.reduceMul, Int.reduceNeg, reduceCtorEq, Option.bind_some, Option.map_some, List.length_cons, List.length_nil, vcM, List.getElem?_toArray, List.getElem?_cons_zero, List.getElem?_cons_succ, hul]
      have L : ∀ (k i : Nat), k + i = n → W Try.prog (REnd w r B e (some (bs.drop n, fun u _ => u = .int .u64 (valF ts))) 4) 74 8 [(5, .int .u64 (valF (ts.take i))), (10, u), (11, .int .i64 n), (12, .int .i64 i)] w1 := by
        intro k
        induction k with
        | zero =>
          intro i hi
          have hlt : ¬ ((i : Int) < n) := by omega
          have ei : ts.take i = ts := List.take_of_length_le (by omega)
          rw [ei]
          (refine W_at c74_ok ?_; refine ⟨_, rfl, ?_⟩; simp (disch := first | omega | assumption | rfl | (simp only [vcS] <;> omega) | fail) only [↓ptV_l, ↓vcA, vcB, ↓vcD, vcE, ↓reduceIte, Nat.reduceEqDiff, Nat.reduceAdd, Nat.reduceMul, Nat.reduceLeDiff, Int.reduceLE, Int.reduceLT, Int.reduceEq, Int.reduceToNat, Int.reduceAdd, Int.reduceSub, Int.reduceMul, Int.reduceNeg, reduceCtorEq, Option.bind_some, Option.map_some, List.length_cons, List.length_nil, vcM, List.getElem?_toArray, List.getElem?_cons_zero, List.getElem?_cons_succ, hlt])
          (refine W_at c74_ok ?_; refine ⟨_, rfl, ?_⟩; simp (disch := first | omega | assumption | rfl | (simp only [vcS] <;> omega) | fail) only [↓ptV_l, ↓vcA, vcB, ↓vcD, vcE, ↓reduceIte, Nat.reduceEqDiff, Nat.reduceAdd, Nat.reduceMul, Nat.reduceLeDiff, Int.reduceLE, Int.reduceLT, Int.reduceEq, Int.reduceToNat, Int.reduceAdd, Int.reduceSub, Int.reduceMul, Int.reduceNeg, reduceCtorEq, Option.bind_some, Option.map_some, List.length_cons, List.length_nil, vcM, List.getElem?_toArray, List.getElem?_cons_zero, List.getElem?_cons_succ])
          (refine W_at c74_ok ?_; refine ⟨_, rfl, ?_⟩; simp (disch := first | omega | assumption | rfl | (simp only [vcS] <;> omega) | fail) only [↓ptV_l, ↓vcA, vcB, ↓vcD, vcE, ↓reduceIte, Nat.reduceEqDiff, Nat.reduceAdd, Nat.reduceMul, Nat.reduceLeDiff, Int.reduceLE, Int.reduceLT, Int.reduceEq, Int.reduceToNat, Int.reduceAdd, Int.reduceSub, Int.reduceMul, Int.reduceNeg, reduceCtorEq, Option.bind_some, Option.map_some, List.length_cons, List.length_nil, vcM, List.getElem?_toArray, List.getElem?_cons_zero, List.getElem?_cons_succ])
          (refine W_at c74_ok ?_; refine ⟨_, rfl, ?_⟩; simp (disch := first | omega | assumption | rfl | (simp only [vcS] <;> omega) | fail) only [↓ptV_l, ↓vcA, vcB, ↓vcD, vcE, ↓reduceIte, Nat.reduceEqDiff, Nat.reduceAdd, Nat.reduceMul, Nat.reduceLeDiff, Int.reduceLE, Int.reduceLT, Int.reduceEq, Int.reduceToNat, Int.reduceAdd, Int.reduceSub, Int.reduceMul, Int.reduceNeg, reduceCtorEq, Option.bind_some, Option.map_some, List.length_cons, List.length_nil, vcM, List.getElem?_toArray, List.getElem?_cons_zero, List.getElem?_cons_succ])
          exact ⟨hk, _, v1, rfl, rfl, hR⟩
        | succ k ih =>
          intro i hi
          have hlt : ((i : Int) < n) := by omega
          have hi2 : 0 ≤ (i : Int) ∧ (i : Int) < n := by omega
          have hwi : IntKind.i64.wrap ((i : Int) + 1) = ((i + 1 : Nat) : Int) := wrap_i64 (by omega) (by omega)
          have hil : i < ts.length := by omega
          obtain ⟨b, o, c, hu, hcell⟩ := hφ.at hil
          subst hu
          have hbi := hbt _ (List.getElem_mem hil)
          have hx := valF_lt (byt_take hbt i)
          have hlen2 : (ts.take i).length = i := by rw [List.length_take]; omega
          rw [hlen2] at hx
          have hc1 : IntKind.u64.wrap ts[i] = ts[i] := by rw [wrap_u64]; omega
          have hm8 : IntKind.i64.wrap (8 * (i : Int)) = 8 * (i : Int) := wrap_i64 (by omega) (by omega)
          have h8 : 0 ≤ 8 * (i : Int) := by omega
          have hsh : IntKind.u64.wrap (ts[i] * 2 ^ Nat.min (8 * (i : Int)).toNat IntKind.u64.bits) = ts[i] * 256 ^ i := by
            have e1 : Nat.min (8 * (i : Int)).toNat IntKind.u64.bits = 8 * i := by
              show Nat.min (8 * (i : Int)).toNat 64 = 8 * i
              rw [show (8 * (i : Int)).toNat = 8 * i by omega]; exact Nat.min_eq_left (by omega)
            rw [e1]
            have e2 : (2 : Int) ^ (8 * i) = 256 ^ i := by rw [Int.pow_mul]; rfl
            rw [e2, wrap_u64]
            have h3 : (256 : Int) ^ i ≤ 256 ^ 7 := by
              have : (256 : Nat) ^ i ≤ 256 ^ 7 := Nat.pow_le_pow_right (by decide) (by omega)
              have e3 : ((256 ^ i : Nat) : Int) = (256 : Int) ^ i := by simp
              omega
            have h4 : ts[i] * 256 ^ i ≤ 255 * 256 ^ 7 := Int.mul_le_mul hbi.2 h3 (Int.le_of_lt (Int.pow_pos (by decide))) (by decide)
            have h5 : 0 ≤ ts[i] * (256 : Int) ^ i := Int.mul_nonneg hbi.1 (Int.le_of_lt (Int.pow_pos (by decide)))
            omega
          have hor := or_add hx hbi (by omega : i < 8)
          have hnx : valF (ts.take i) + ts[i] * 256 ^ i = valF (ts.take (i + 1)) := by
            rw [List.take_succ_eq_append_getElem hil, valF_snoc, hlen2]
          rw [hnx] at hor
          rw [hlen]
          (refine W_at c74_ok ?_; refine ⟨_, rfl, ?_⟩; simp (disch := first | omega | assumption | rfl | (simp only [vcS] <;> omega) | fail) only [↓ptV_l, ↓vcA, vcB, ↓vcD, vcE, ↓reduceIte, Nat.reduceEqDiff, Nat.reduceAdd, Nat.reduceMul, Nat.reduceLeDiff, Int.reduceLE, Int.reduceLT, Int.reduceEq, Int.reduceToNat, Int.reduceAdd, Int.reduceSub, Int.reduceMul, Int.reduceNeg, reduceCtorEq, Option.bind_some, Option.map_some, List.length_cons, List.length_nil, vcM, List.getElem?_toArray, List.getElem?_cons_zero, List.getElem?_cons_succ, hlt])
          (refine W_at c74_ok ?_; refine ⟨_, rfl, ?_⟩; simp (disch := first | omega | assumption | rfl | (simp only [vcS] <;> omega) | fail) only [↓ptV_l, ↓vcA, vcB, ↓vcD, vcE, ↓reduceIte, Nat.reduceEqDiff, Nat.reduceAdd, Nat.reduceMul, Nat.reduceLeDiff, Int.reduceLE, Int.reduceLT, Int.reduceEq, Int.reduceToNat, Int.reduceAdd, Int.reduceSub, Int.reduceMul, Int.reduceNeg, reduceCtorEq, Option.bind_some, Option.map_some, List.length_cons, List.length_nil, vcM, List.getElem?_toArray, List.getElem?_cons_zero, List.getElem?_cons_succ])
          (refine W_at c74_ok ?_; refine ⟨_, rfl, ?_⟩; simp (disch := first | omega | assumption | rfl | (simp only [vcS] <;> omega) | fail) only [↓ptV_l, ↓vcA, vcB, ↓vcD, vcE, ↓reduceIte, Nat.reduceEqDiff, Nat.reduceAdd, Nat.reduceMul, Nat.reduceLeDiff, Int.reduceLE, Int.reduceLT, Int.reduceEq, Int.reduceToNat, Int.reduceAdd, Int.reduceSub, Int.reduceMul, Int.reduceNeg, reduceCtorEq, Option.bind_some, Option.map_some, List.length_cons, List.length_nil, vcM, List.getElem?_toArray, List.getElem?_cons_zero, List.getElem?_cons_succ, hi2, Int.toNat_natCast, Nat.mul_one, hcell])
          (refine W_at c74_ok ?_; refine ⟨_, rfl, ?_⟩; simp (disch := first | omega | assumption | rfl | (simp only [vcS] <;> omega) | fail) only [↓ptV_l, ↓vcA, vcB, ↓vcD, vcE, ↓reduceIte, Nat.reduceEqDiff, Nat.reduceAdd, Nat.reduceMul, Nat.reduceLeDiff, Int.reduceLE, Int.reduceLT, Int.reduceEq, Int.reduceToNat, Int.reduceAdd, Int.reduceSub, Int.reduceMul, Int.reduceNeg, reduceCtorEq, Option.bind_some, Option.map_some, List.length_cons, List.length_nil, vcM, List.getElem?_toArray, List.getElem?_cons_zero, List.getElem?_cons_succ, hc1, hm8, h8, hsh, hor])
          (refine W_at c74_ok ?_; refine ⟨_, rfl, ?_⟩; simp (disch := first | omega | assumption | rfl | (simp only [vcS] <;> omega) | fail) only [↓ptV_l, ↓vcA, vcB, ↓vcD, vcE, ↓reduceIte, Nat.reduceEqDiff, Nat.reduceAdd, Nat.reduceMul, Nat.reduceLeDiff, Int.reduceLE, Int.reduceLT, Int.reduceEq, Int.reduceToNat, Int.reduceAdd, Int.reduceSub, Int.reduceMul, Int.reduceNeg, reduceCtorEq, Option.bind_some, Option.map_some, List.length_cons, List.length_nil, vcM, List.getElem?_toArray, List.getElem?_cons_zero, List.getElem?_cons_succ, hwi])
          (refine W_at c74_ok ?_; refine ⟨_, rfl, ?_⟩; simp (disch := first | omega | assumption | rfl | (simp only [vcS] <;> omega) | fail) only [↓ptV_l, ↓vcA, vcB, ↓vcD, vcE, ↓reduceIte, Nat.reduceEqDiff, Nat.reduceAdd, Nat.reduceMul, Nat.reduceLeDiff, Int.reduceLE, Int.reduceLT, Int.reduceEq, Int.reduceToNat, Int.reduceAdd, Int.reduceSub, Int.reduceMul, Int.reduceNeg, reduceCtorEq, Option.bind_some, Option.map_some, List.length_cons, List.length_nil, vcM, List.getElem?_toArray, List.getElem?_cons_zero, List.getElem?_cons_succ])
          have := ih (i + 1) (by omega)
          rw [hlen] at this
          exact this
      have h0 := L n 0 (by omega)
      exact h0
    · rw [if_neg hl] at hok; cases hok
  · intro hok
    split at hok
    · cases hok
    · rename_i hl; exact ⟨by rw [if_neg hl], rfl⟩
end Go.Proofs
namespace Go.Proofs
open Go.Vc
set_option maxRecDepth 10000

/-- A reading's end, as data. -/
def toOk {α : Type} (x : Except Int (α × List Int)) (φ : α → Value → World → Prop) : Option (List Int × (Value → World → Prop)) :=
  match x with
  | .ok (a, rest) => some (rest, φ a)
  | .error _ => none
def toEr {α : Type} (x : Except Int (α × List Int)) : Int :=
  match x with
  | .ok _ => 0
  | .error e => e
def numR (n : Nat) (bs : List Int) : Except Int (Int × List Int) := if n ≤ bs.length then .ok (valF (bs.take n), bs.drop n) else .error 4
theorem REnd.of_er {w w' : World} {r B : Nat} {e : Int} {ok : Option (List Int × (Value → World → Prop))} {er er' : Int} {en : Ending} (h : REnd w r B e ok er en w') (hk : ok = none → er' = er) : REnd w r B e ok er' en w' := by
  refine ⟨h.1, ?_⟩
  have h2 := h.2
  cases ok with
  | some p => exact h2
  | none => rw [hk rfl]; exact h2
theorem num_ok (w : World) (r B : Nat) (v : Value) (bs : List Int) (e : Int) (n : Nat) (h : RAt w r B v bs e) (hb : byt bs) (hn : n ≤ 8) :
    Calls Try.prog 74 #[.pointer (some ⟨r, 0, none⟩), .int .i64 n] w (REnd w r B e (toOk (numR n bs) fun x u _ => u = .int .u64 x) (toEr (numR n bs))) := by
  refine (numb_ok w r B v bs e n h hb hn).mono fun en w' hR => ?_
  unfold numR
  by_cases hl : n ≤ bs.length
  · rw [if_pos hl] at hR ⊢
    exact hR.of_er fun h => by cases h
  · rw [if_neg hl] at hR ⊢
    exact hR

end Go.Proofs
namespace Go.Proofs
open Go.Vc
set_option maxRecDepth 10000

/-- What a method of the reader leaves. -/
structure RTo {α : Type} (w w' : World) (r B : Nat) (v : Value) (bs : List Int) (e : Int) (x : Except Int (α × List Int)) (φ : α → Value → World → Prop) (z u : Value) : Prop where
  keep : Keep (fun i => i = r) w w'
  was : e ≠ 0 → u = z ∧ RAt w' r B v bs e
  ok : e = 0 → ∀ a rest, x = .ok (a, rest) → φ a u w' ∧ ∃ v', RAt w' r B v' rest 0
  er : e = 0 → ∀ n, x = .error n → u = z ∧ RAt w' r B v bs n
theorem try_ok {α : Type} {f cl ty : Nat} {z : Value} (hC : cfgL Try.prog f = some (19, 8, (cTry ty z cl).map Vc.Node.bare)) (hD : cfgL Try.prog cl = some (27, 9, (cClo z).map Vc.Node.bare)) (hpc : plainF Try.prog cl = true) (hz : z.oneCell' = true) (hty : ty ≠ 92)
    (w : World) (g : Nat) (cap : Array Value) (hpg : plainF Try.prog g = true) (r B : Nat) (v : Value) (bs : List Int) (e : Int) (h : RAt w r B v bs e) (hBw : B < w.heap.size) (x : Except Int (α × List Int)) (φ : α → Value → World → Prop)
    (hread : e = 0 → ∀ w1, Ext w w1 → Calls Try.prog g (#[.pointer (some ⟨r, 0, none⟩)] ++ cap) w1 (REnd w1 r B 0 (toOk x φ) (toEr x)))
    (hφ1 : ∀ a u w', φ a u w' → u.oneCell' = true)
    (hφ2 : ∀ a u w' w'' p c, w.heap.size ≤ p → w'.heap[p]? = some (.cells c ty (0, 0)) → Keep (fun i => i = p) w' w'' → φ a u w' → φ a u w'') :
    Calls Try.prog f #[.pointer (some ⟨r, 0, none⟩), .func (.func g) #[] cap] w (Ret fun u w' => RTo w w' r B v bs e x φ z u) := by
  refine try_gen hC hD hpc hz hty w g cap hpg r B v bs e h hBw (toOk x φ) (toEr x) hread ?_ ?_ _ ?_ ?_ ?_
  · intro rest ψ hok
    cases x with
    | ok p => simp only [toOk, Option.some.injEq, Prod.mk.injEq] at hok; obtain ⟨_, rfl⟩ := hok; exact hφ1 _
    | error n => cases hok
  · intro rest ψ hok
    cases x with
    | ok p => simp only [toOk, Option.some.injEq, Prod.mk.injEq] at hok; obtain ⟨_, rfl⟩ := hok; exact hφ2 _
    | error n => cases hok
  · intro he w' hk hR
    exact ⟨hk.mono fun _ h => h.elim, fun _ => ⟨rfl, hR⟩, fun h => absurd h he, fun h => absurd h he⟩
  · intro he rest ψ hok u w' v' hk hu hR
    cases x with
    | ok p =>
      simp only [toOk, Option.some.injEq, Prod.mk.injEq] at hok
      obtain ⟨rfl, rfl⟩ := hok
      exact ⟨hk, fun h => absurd he h, fun _ a rest hx => (by cases hx; exact ⟨hu, v', hR⟩), fun _ n hx => (by cases hx)⟩
    | error n => cases hok
  · intro he hok w' hk hR
    cases x with
    | ok p => cases hok
    | error n => exact ⟨hk, fun h => absurd he h, fun _ a rest hx => (by cases hx), fun _ m hx => (by cases hx; exact ⟨rfl, hR⟩)⟩

theorem u81_ok (w : World) (r B : Nat) (v : Value) (bs : List Int) (e : Int) (h : RAt w r B v bs e) (hb : byt bs) :
    Calls Try.prog 73 #[.pointer (some ⟨r, 0, none⟩)] w (REnd w r B e (toOk (numR 1 bs) fun x u _ => u = .int .u8 x) (toEr (numR 1 bs))) := by
  refine calls_of_cfg c73_ok (Nat.le_of_ble_eq_true rfl) ?_
  simp only [argE_nil, argE_cons, Nat.reduceAdd, Nat.zero_add]
  (refine W_at c73_ok ?_; refine ⟨_, rfl, ?_⟩; simp (disch := first | omega | assumption | rfl | (simp only [vcS] <;> omega) | fail) only [↓ptV_l, ↓vcA, vcB, ↓vcD, vcE, ↓reduceIte, Nat.reduceEqDiff, Nat.reduceAdd, Nat.reduceMul, Nat.reduceLeDiff, Int.reduceLE, Int.reduceLT, Int.reduceEq, Int.reduceToNat, Int.reduceAdd, Int.reduceSub, Int.reduceMul, Int.reduceNeg, reduceCtorEq, Option.bind_some, Option.map_some, List.length_cons, List.length_nil, vcM, List.getElem?_toArray, List.getElem?_cons_zero, List.getElem?_cons_succ])
  (refine W_at c73_ok ?_; refine ⟨_, rfl, ?_⟩; simp (disch := first | omega | assumption | rfl | (simp only [vcS] <;> omega) | fail) only [↓ptV_l, ↓vcA, vcB, ↓vcD, vcE, ↓reduceIte, Nat.reduceEqDiff, Nat.reduceAdd, Nat.reduceMul, Nat.reduceLeDiff, Int.reduceLE, Int.reduceLT, Int.reduceEq, Int.reduceToNat, Int.reduceAdd, Int.reduceSub, Int.reduceMul, Int.reduceNeg, reduceCtorEq, Option.bind_some, Option.map_some, List.length_cons, List.length_nil, vcM, List.getElem?_toArray, List.getElem?_cons_zero, List.getElem?_cons_succ])
  refine callR (num_ok w r B v bs e 1 h hb (by omega)) (Keep.refl _ w) ?_ ?_
  · intro rest φ hok u w1 v1 hk hφ hR
    have hok' := hok
    unfold numR at hok ⊢
    split at hok
    · rename_i hl
      rw [if_pos hl]
      simp only [toOk, Option.some.injEq, Prod.mk.injEq] at hok
      obtain ⟨rfl, rfl⟩ := hok
      subst hφ
      have hv := valF_lt (byt_take hb 1)
      have hlen : (bs.take 1).length = 1 := by rw [List.length_take]; omega
      rw [hlen] at hv
      have hcv : IntKind.u8.wrap (valF (bs.take 1)) = valF (bs.take 1) := by rw [wrap_u8]; omega
      simp (disch := first | omega | assumption | rfl | (simp only [vcS] <;> omega) | fail) only [↓ptV_l, ↓vcA, vcB, ↓vcD, vcE, ↓reduceIte, Nat.reduceEqDiff, Nat.reduceAdd, Nat.reduceMul, Nat.reduceLeDiff, Int.reduceLE, Int.reduceLT, Int.reduceEq, Int.reduceToNat, Int.reduceAdd, Int.reduceSub, Int.reduceMul, Int.reduceNeg, reduceCtorEq, Option.bind_some, Option.map_some, List.length_cons, List.length_nil, vcM, List.getElem?_toArray, List.getElem?_cons_zero, List.getElem?_cons_succ, hcv]
      (refine W_at c73_ok ?_; refine ⟨_, rfl, ?_⟩; simp (disch := first | omega | assumption | rfl | (simp only [vcS] <;> omega) | fail) only [↓ptV_l, ↓vcA, vcB, ↓vcD, vcE, ↓reduceIte, Nat.reduceEqDiff, Nat.reduceAdd, Nat.reduceMul, Nat.reduceLeDiff, Int.reduceLE, Int.reduceLT, Int.reduceEq, Int.reduceToNat, Int.reduceAdd, Int.reduceSub, Int.reduceMul, Int.reduceNeg, reduceCtorEq, Option.bind_some, Option.map_some, List.length_cons, List.length_nil, vcM, List.getElem?_toArray, List.getElem?_cons_zero, List.getElem?_cons_succ])
      exact ⟨hk, _, v1, rfl, rfl, hR⟩
    · cases hok
  · intro hok; exact ⟨by
      unfold numR at hok ⊢
      split at hok
      · cases hok
      · rename_i hl; rw [if_neg hl]; rfl, rfl⟩
theorem ru8_ok (w : World) (r B : Nat) (v : Value) (bs : List Int) (e : Int) (h : RAt w r B v bs e) (hBw : B < w.heap.size) (hb : byt bs) :
    Calls Try.prog 63 #[.pointer (some ⟨r, 0, none⟩)] w (Ret fun u w' => RTo w w' r B v bs e (numR 1 bs) (fun x u _ => u = .int .u8 x) (.int .u8 0) u) := by
  refine calls_of_cfg c63_ok (Nat.le_of_ble_eq_true rfl) ?_
  simp only [argE_nil, argE_cons, Nat.reduceAdd, Nat.zero_add]
  (refine W_at c63_ok ?_; refine ⟨_, rfl, ?_⟩; simp (disch := first | omega | assumption | rfl | (simp only [vcS] <;> omega) | fail) only [↓ptV_l, ↓vcA, vcB, ↓vcD, vcE, ↓reduceIte, Nat.reduceEqDiff, Nat.reduceAdd, Nat.reduceMul, Nat.reduceLeDiff, Int.reduceLE, Int.reduceLT, Int.reduceEq, Int.reduceToNat, Int.reduceAdd, Int.reduceSub, Int.reduceMul, Int.reduceNeg, reduceCtorEq, Option.bind_some, Option.map_some, List.length_cons, List.length_nil, vcM, List.getElem?_toArray, List.getElem?_cons_zero, List.getElem?_cons_succ])
  (refine W_at c63_ok ?_; refine ⟨_, rfl, ?_⟩; simp (disch := first | omega | assumption | rfl | (simp only [vcS] <;> omega) | fail) only [↓ptV_l, ↓vcA, vcB, ↓vcD, vcE, ↓reduceIte, Nat.reduceEqDiff, Nat.reduceAdd, Nat.reduceMul, Nat.reduceLeDiff, Int.reduceLE, Int.reduceLT, Int.reduceEq, Int.reduceToNat, Int.reduceAdd, Int.reduceSub, Int.reduceMul, Int.reduceNeg, reduceCtorEq, Option.bind_some, Option.map_some, List.length_cons, List.length_nil, vcM, List.getElem?_toArray, List.getElem?_cons_zero, List.getElem?_cons_succ])
  refine callV_ret (try_ok (ty := 5) c72_ok c84_ok (by kernel_rfl) rfl (by decide) w 73 #[] (by kernel_rfl) r B v bs e h hBw (numR 1 bs) (fun x u _ => u = .int .u8 x)
    (fun he w1 hE => ?_) (fun a u w' hu => by subst hu; rfl) (fun a u w' w'' p c _ _ _ hu => hu)) ?_
  · subst he
    rw [Array.append_empty]
    exact u81_ok w1 r B v bs 0 (h.ext hE) hb
  · intro u w1 hT
    (refine W_at c63_ok ?_; refine ⟨_, rfl, ?_⟩; simp (disch := first | omega | assumption | rfl | (simp only [vcS] <;> omega) | fail) only [↓ptV_l, ↓vcA, vcB, ↓vcD, vcE, ↓reduceIte, Nat.reduceEqDiff, Nat.reduceAdd, Nat.reduceMul, Nat.reduceLeDiff, Int.reduceLE, Int.reduceLT, Int.reduceEq, Int.reduceToNat, Int.reduceAdd, Int.reduceSub, Int.reduceMul, Int.reduceNeg, reduceCtorEq, Option.bind_some, Option.map_some, List.length_cons, List.length_nil, vcM, List.getElem?_toArray, List.getElem?_cons_zero, List.getElem?_cons_succ, Ret_returned])
    exact hT

theorem u161_ok (w : World) (r B : Nat) (v : Value) (bs : List Int) (e : Int) (h : RAt w r B v bs e) (hb : byt bs) :
    Calls Try.prog 76 #[.pointer (some ⟨r, 0, none⟩)] w (REnd w r B e (toOk (numR 2 bs) fun x u _ => u = .int .u16 x) (toEr (numR 2 bs))) := by
  refine calls_of_cfg c76_ok (Nat.le_of_ble_eq_true rfl) ?_
  simp only [argE_nil, argE_cons, Nat.reduceAdd, Nat.zero_add]
  (refine W_at c76_ok ?_; refine ⟨_, rfl, ?_⟩; simp (disch := first | omega | assumption | rfl | (simp only [vcS] <;> omega) | fail) only [↓ptV_l, ↓vcA, vcB, ↓vcD, vcE, ↓reduceIte, Nat.reduceEqDiff, Nat.reduceAdd, Nat.reduceMul, Nat.reduceLeDiff, Int.reduceLE, Int.reduceLT, Int.reduceEq, Int.reduceToNat, Int.reduceAdd, Int.reduceSub, Int.reduceMul, Int.reduceNeg, reduceCtorEq, Option.bind_some, Option.map_some, List.length_cons, List.length_nil, vcM, List.getElem?_toArray, List.getElem?_cons_zero, List.getElem?_cons_succ])
  (refine W_at c76_ok ?_; refine ⟨_, rfl, ?_⟩; simp (disch := first | omega | assumption | rfl | (simp only [vcS] <;> omega) | fail) only [↓ptV_l, ↓vcA, vcB, ↓vcD, vcE, ↓reduceIte, Nat.reduceEqDiff, Nat.reduceAdd, Nat.reduceMul, Nat.reduceLeDiff, Int.reduceLE, Int.reduceLT, Int.reduceEq, Int.reduceToNat, Int.reduceAdd, Int.reduceSub, Int.reduceMul, Int.reduceNeg, reduceCtorEq, Option.bind_some, Option.map_some, List.length_cons, List.length_nil, vcM, List.getElem?_toArray, List.getElem?_cons_zero, List.getElem?_cons_succ])
  refine callR (num_ok w r B v bs e 2 h hb (by omega)) (Keep.refl _ w) ?_ ?_
  · intro rest φ hok u w1 v1 hk hφ hR
    have hok' := hok
    unfold numR at hok ⊢
    split at hok
    · rename_i hl
      rw [if_pos hl]
      simp only [toOk, Option.some.injEq, Prod.mk.injEq] at hok
      obtain ⟨rfl, rfl⟩ := hok
      subst hφ
      have hv := valF_lt (byt_take hb 2)
      have hlen : (bs.take 2).length = 2 := by rw [List.length_take]; omega
      rw [hlen] at hv
      have hcv : IntKind.u16.wrap (valF (bs.take 2)) = valF (bs.take 2) := by rw [wrap_u16]; omega
      simp (disch := first | omega | assumption | rfl | (simp only [vcS] <;> omega) | fail) only [↓ptV_l, ↓vcA, vcB, ↓vcD, vcE, ↓reduceIte, Nat.reduceEqDiff, Nat.reduceAdd, Nat.reduceMul, Nat.reduceLeDiff, Int.reduceLE, Int.reduceLT, Int.reduceEq, Int.reduceToNat, Int.reduceAdd, Int.reduceSub, Int.reduceMul, Int.reduceNeg, reduceCtorEq, Option.bind_some, Option.map_some, List.length_cons, List.length_nil, vcM, List.getElem?_toArray, List.getElem?_cons_zero, List.getElem?_cons_succ, hcv]
      (refine W_at c76_ok ?_; refine ⟨_, rfl, ?_⟩; simp (disch := first | omega | assumption | rfl | (simp only [vcS] <;> omega) | fail) only [↓ptV_l, ↓vcA, vcB, ↓vcD, vcE, ↓reduceIte, Nat.reduceEqDiff, Nat.reduceAdd, Nat.reduceMul, Nat.reduceLeDiff, Int.reduceLE, Int.reduceLT, Int.reduceEq, Int.reduceToNat, Int.reduceAdd, Int.reduceSub, Int.reduceMul, Int.reduceNeg, reduceCtorEq, Option.bind_some, Option.map_some, List.length_cons, List.length_nil, vcM, List.getElem?_toArray, List.getElem?_cons_zero, List.getElem?_cons_succ])
      exact ⟨hk, _, v1, rfl, rfl, hR⟩
    · cases hok
  · intro hok; exact ⟨by
      unfold numR at hok ⊢
      split at hok
      · cases hok
      · rename_i hl; rw [if_neg hl]; rfl, rfl⟩
theorem ru16_ok (w : World) (r B : Nat) (v : Value) (bs : List Int) (e : Int) (h : RAt w r B v bs e) (hBw : B < w.heap.size) (hb : byt bs) :
    Calls Try.prog 64 #[.pointer (some ⟨r, 0, none⟩)] w (Ret fun u w' => RTo w w' r B v bs e (numR 2 bs) (fun x u _ => u = .int .u16 x) (.int .u16 0) u) := by
  refine calls_of_cfg c64_ok (Nat.le_of_ble_eq_true rfl) ?_
  simp only [argE_nil, argE_cons, Nat.reduceAdd, Nat.zero_add]
  (refine W_at c64_ok ?_; refine ⟨_, rfl, ?_⟩; simp (disch := first | omega | assumption | rfl | (simp only [vcS] <;> omega) | fail) only [↓ptV_l, ↓vcA, vcB, ↓vcD, vcE, ↓reduceIte, Nat.reduceEqDiff, Nat.reduceAdd, Nat.reduceMul, Nat.reduceLeDiff, Int.reduceLE, Int.reduceLT, Int.reduceEq, Int.reduceToNat, Int.reduceAdd, Int.reduceSub, Int.reduceMul, Int.reduceNeg, reduceCtorEq, Option.bind_some, Option.map_some, List.length_cons, List.length_nil, vcM, List.getElem?_toArray, List.getElem?_cons_zero, List.getElem?_cons_succ])
  (refine W_at c64_ok ?_; refine ⟨_, rfl, ?_⟩; simp (disch := first | omega | assumption | rfl | (simp only [vcS] <;> omega) | fail) only [↓ptV_l, ↓vcA, vcB, ↓vcD, vcE, ↓reduceIte, Nat.reduceEqDiff, Nat.reduceAdd, Nat.reduceMul, Nat.reduceLeDiff, Int.reduceLE, Int.reduceLT, Int.reduceEq, Int.reduceToNat, Int.reduceAdd, Int.reduceSub, Int.reduceMul, Int.reduceNeg, reduceCtorEq, Option.bind_some, Option.map_some, List.length_cons, List.length_nil, vcM, List.getElem?_toArray, List.getElem?_cons_zero, List.getElem?_cons_succ])
  refine callV_ret (try_ok (ty := 79) c75_ok c85_ok (by kernel_rfl) rfl (by decide) w 76 #[] (by kernel_rfl) r B v bs e h hBw (numR 2 bs) (fun x u _ => u = .int .u16 x)
    (fun he w1 hE => ?_) (fun a u w' hu => by subst hu; rfl) (fun a u w' w'' p c _ _ _ hu => hu)) ?_
  · subst he
    rw [Array.append_empty]
    exact u161_ok w1 r B v bs 0 (h.ext hE) hb
  · intro u w1 hT
    (refine W_at c64_ok ?_; refine ⟨_, rfl, ?_⟩; simp (disch := first | omega | assumption | rfl | (simp only [vcS] <;> omega) | fail) only [↓ptV_l, ↓vcA, vcB, ↓vcD, vcE, ↓reduceIte, Nat.reduceEqDiff, Nat.reduceAdd, Nat.reduceMul, Nat.reduceLeDiff, Int.reduceLE, Int.reduceLT, Int.reduceEq, Int.reduceToNat, Int.reduceAdd, Int.reduceSub, Int.reduceMul, Int.reduceNeg, reduceCtorEq, Option.bind_some, Option.map_some, List.length_cons, List.length_nil, vcM, List.getElem?_toArray, List.getElem?_cons_zero, List.getElem?_cons_succ, Ret_returned])
    exact hT

theorem u321_ok (w : World) (r B : Nat) (v : Value) (bs : List Int) (e : Int) (h : RAt w r B v bs e) (hb : byt bs) :
    Calls Try.prog 78 #[.pointer (some ⟨r, 0, none⟩)] w (REnd w r B e (toOk (numR 4 bs) fun x u _ => u = .int .u32 x) (toEr (numR 4 bs))) := by
  refine calls_of_cfg c78_ok (Nat.le_of_ble_eq_true rfl) ?_
  simp only [argE_nil, argE_cons, Nat.reduceAdd, Nat.zero_add]
  (refine W_at c78_ok ?_; refine ⟨_, rfl, ?_⟩; simp (disch := first | omega | assumption | rfl | (simp only [vcS] <;> omega) | fail) only [↓ptV_l, ↓vcA, vcB, ↓vcD, vcE, ↓reduceIte, Nat.reduceEqDiff, Nat.reduceAdd, Nat.reduceMul, Nat.reduceLeDiff, Int.reduceLE, Int.reduceLT, Int.reduceEq, Int.reduceToNat, Int.reduceAdd, Int.reduceSub, Int.reduceMul, Int.reduceNeg, reduceCtorEq, Option.bind_some, Option.map_some, List.length_cons, List.length_nil, vcM, List.getElem?_toArray, List.getElem?_cons_zero, List.getElem?_cons_succ])
  (refine W_at c78_ok ?_; refine ⟨_, rfl, ?_⟩; simp (disch := first | omega | assumption | rfl | (simp only [vcS] <;> omega) | fail) only [↓ptV_l, ↓vcA, vcB, ↓vcD, vcE, ↓reduceIte, Nat.reduceEqDiff, Nat.reduceAdd, Nat.reduceMul, Nat.reduceLeDiff, Int.reduceLE, Int.reduceLT, Int.reduceEq, Int.reduceToNat, Int.reduceAdd, Int.reduceSub, Int.reduceMul, Int.reduceNeg, reduceCtorEq, Option.bind_some, Option.map_some, List.length_cons, List.length_nil, vcM, List.getElem?_toArray, List.getElem?_cons_zero, List.getElem?_cons_succ])
  refine callR (num_ok w r B v bs e 4 h hb (by omega)) (Keep.refl _ w) ?_ ?_
  · intro rest φ hok u w1 v1 hk hφ hR
    have hok' := hok
    unfold numR at hok ⊢
    split at hok
    · rename_i hl
      rw [if_pos hl]
      simp only [toOk, Option.some.injEq, Prod.mk.injEq] at hok
      obtain ⟨rfl, rfl⟩ := hok
      subst hφ
      have hv := valF_lt (byt_take hb 4)
      have hlen : (bs.take 4).length = 4 := by rw [List.length_take]; omega
      rw [hlen] at hv
      have hcv : IntKind.u32.wrap (valF (bs.take 4)) = valF (bs.take 4) := by rw [wrap_u32]; omega
      simp (disch := first | omega | assumption | rfl | (simp only [vcS] <;> omega) | fail) only [↓ptV_l, ↓vcA, vcB, ↓vcD, vcE, ↓reduceIte, Nat.reduceEqDiff, Nat.reduceAdd, Nat.reduceMul, Nat.reduceLeDiff, Int.reduceLE, Int.reduceLT, Int.reduceEq, Int.reduceToNat, Int.reduceAdd, Int.reduceSub, Int.reduceMul, Int.reduceNeg, reduceCtorEq, Option.bind_some, Option.map_some, List.length_cons, List.length_nil, vcM, List.getElem?_toArray, List.getElem?_cons_zero, List.getElem?_cons_succ, hcv]
      (refine W_at c78_ok ?_; refine ⟨_, rfl, ?_⟩; simp (disch := first | omega | assumption | rfl | (simp only [vcS] <;> omega) | fail) only [↓ptV_l, ↓vcA, vcB, ↓vcD, vcE, ↓reduceIte, Nat.reduceEqDiff, Nat.reduceAdd, Nat.reduceMul, Nat.reduceLeDiff, Int.reduceLE, Int.reduceLT, Int.reduceEq, Int.reduceToNat, Int.reduceAdd, Int.reduceSub, Int.reduceMul, Int.reduceNeg, reduceCtorEq, Option.bind_some, Option.map_some, List.length_cons, List.length_nil, vcM, List.getElem?_toArray, List.getElem?_cons_zero, List.getElem?_cons_succ])
      exact ⟨hk, _, v1, rfl, rfl, hR⟩
    · cases hok
  · intro hok; exact ⟨by
      unfold numR at hok ⊢
      split at hok
      · cases hok
      · rename_i hl; rw [if_neg hl]; rfl, rfl⟩
theorem ru32_ok (w : World) (r B : Nat) (v : Value) (bs : List Int) (e : Int) (h : RAt w r B v bs e) (hBw : B < w.heap.size) (hb : byt bs) :
    Calls Try.prog 65 #[.pointer (some ⟨r, 0, none⟩)] w (Ret fun u w' => RTo w w' r B v bs e (numR 4 bs) (fun x u _ => u = .int .u32 x) (.int .u32 0) u) := by
  refine calls_of_cfg c65_ok (Nat.le_of_ble_eq_true rfl) ?_
  simp only [argE_nil, argE_cons, Nat.reduceAdd, Nat.zero_add]
  (refine W_at c65_ok ?_; refine ⟨_, rfl, ?_⟩; simp (disch := first | omega | assumption | rfl | (simp only [vcS] <;> omega) | fail) only [↓ptV_l, ↓vcA, vcB, ↓vcD, vcE, ↓reduceIte, Nat.reduceEqDiff, Nat.reduceAdd, Nat.reduceMul, Nat.reduceLeDiff, Int.reduceLE, Int.reduceLT, Int.reduceEq, Int.reduceToNat, Int.reduceAdd, Int.reduceSub, Int.reduceMul, Int.reduceNeg, reduceCtorEq, Option.bind_some, Option.map_some, List.length_cons, List.length_nil, vcM, List.getElem?_toArray, List.getElem?_cons_zero, List.getElem?_cons_succ])
  (refine W_at c65_ok ?_; refine ⟨_, rfl, ?_⟩; simp (disch := first | omega | assumption | rfl | (simp only [vcS] <;> omega) | fail) only [↓ptV_l, ↓vcA, vcB, ↓vcD, vcE, ↓reduceIte, Nat.reduceEqDiff, Nat.reduceAdd, Nat.reduceMul, Nat.reduceLeDiff, Int.reduceLE, Int.reduceLT, Int.reduceEq, Int.reduceToNat, Int.reduceAdd, Int.reduceSub, Int.reduceMul, Int.reduceNeg, reduceCtorEq, Option.bind_some, Option.map_some, List.length_cons, List.length_nil, vcM, List.getElem?_toArray, List.getElem?_cons_zero, List.getElem?_cons_succ])
  refine callV_ret (try_ok (ty := 81) c77_ok c86_ok (by kernel_rfl) rfl (by decide) w 78 #[] (by kernel_rfl) r B v bs e h hBw (numR 4 bs) (fun x u _ => u = .int .u32 x)
    (fun he w1 hE => ?_) (fun a u w' hu => by subst hu; rfl) (fun a u w' w'' p c _ _ _ hu => hu)) ?_
  · subst he
    rw [Array.append_empty]
    exact u321_ok w1 r B v bs 0 (h.ext hE) hb
  · intro u w1 hT
    (refine W_at c65_ok ?_; refine ⟨_, rfl, ?_⟩; simp (disch := first | omega | assumption | rfl | (simp only [vcS] <;> omega) | fail) only [↓ptV_l, ↓vcA, vcB, ↓vcD, vcE, ↓reduceIte, Nat.reduceEqDiff, Nat.reduceAdd, Nat.reduceMul, Nat.reduceLeDiff, Int.reduceLE, Int.reduceLT, Int.reduceEq, Int.reduceToNat, Int.reduceAdd, Int.reduceSub, Int.reduceMul, Int.reduceNeg, reduceCtorEq, Option.bind_some, Option.map_some, List.length_cons, List.length_nil, vcM, List.getElem?_toArray, List.getElem?_cons_zero, List.getElem?_cons_succ, Ret_returned])
    exact hT

end Go.Proofs
