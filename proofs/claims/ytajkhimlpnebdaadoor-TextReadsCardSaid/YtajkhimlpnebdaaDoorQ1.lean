/- Laws that the last text of this claim uses, part 1: written for it, merged by program. -/
import Derived.Ground.NamesProg
import Derived.KernelRfl
import Derived.LaidHandle
import Derived.LaidMore
import Derived.Laws.Externs
import Derived.Lay
import Derived.Lib.AppendZerosOnto
import Derived.Lib.Builder
import Derived.Lib.MakeNoZero
import Derived.Lib.UnsafeStr
import Derived.MakeChecks
import Derived.OpenShut
import Derived.ProofKit
import Derived.SevenTiedAt
import Derived.Shelf.Strings.LastIndex
import Derived.Shelf.Strings.OnBuilder
import Derived.Test.YtajkhimlpnebdaaDoorProg
import Derived.Test.YtajkhimlpnebdaaDoorVcF
import Derived.Test.YtajkhimlpnebdaaDoorVcJ
import Derived.Test.YtajkhimlpnebdaaDoorVcN
import Derived.Test.YtajkhimlpnebdaaDoorVcR
set_option linter.unusedSimpArgs false
set_option linter.unusedVariables false
set_option linter.constructorNameAsVariable false
namespace Go.Proofs
open Go.Vc
/- gosem.cut.init: entry 1 -/
def c2 : List Vc.Node := [
  .ret [],
  .reg (.l (some 0) none (.callx 1 []) [] .done) false 0 []
  ]
/- strongbox/strongboxlaw03.TextBech: entry 23 -/
def c3 : List Vc.Node := [
  .ret [.t 6],
  .ret [.t 6],
  .reg (.q (some 68) none (.mov (.tmp 16)) (.q (some 69) none (.bin .eql (.tmp 68) (.const (.int .i64 0))) (.q (some 70) none (.mov (.tmp 69)) (.q (some 71) (some (70, true)) (.mov (.tmp 13)) (.q (some 72) (some (70, true)) (.mov (.tmp 0)) (.q (some 73) (some (70, true)) (.bin .eql (.tmp 71) (.tmp 72)) (.q (some 74) none (.pick (.tmp 70) (.tmp 73) (.const (.bool false))) (.q (some 75) none (.mov (.tmp 74)) (.q (some 76) (some (75, true)) (.mov (.tmp 14)) (.q (some 77) (some (75, true)) (.mov (.tmp 1)) (.l (some 78) (some (75, true)) (.call 14 [(.tmp 76), (.tmp 77)]) [] (.q (some 79) none (.pick (.tmp 75) (.tmp 78) (.const (.bool false))) (.q (some 80) none (.mov (.tmp 79)) (.q (some 81) (some (80, true)) (.mov (.tmp 15)) (.q (some 82) (some (80, true)) (.mov (.tmp 2)) (.q (some 83) (some (80, true)) (.eqB false (.tmp 81) (.tmp 82)) (.q (some 84) none (.pick (.tmp 80) (.tmp 83) (.const (.bool false))) (.q (some 6) none (.mov (.tmp 84)) .done)))))))))))))))))) false 1 [6],
  .reg (.q (some 62) none (.mov (.tmp 9)) (.l (some 63) none (.call 13 [(.tmp 62)]) [] (.q (some 61) none (.mov (.tmp 63)) (.q (some 64) none (.ext 0 (.tmp 61)) (.q (some 65) none (.ext 1 (.tmp 61)) (.q (some 66) none (.ext 2 (.tmp 61)) (.q (some 67) none (.ext 3 (.tmp 61)) (.q (some 13) none (.mov (.tmp 64)) (.q (some 14) none (.mov (.tmp 65)) (.q (some 15) none (.mov (.tmp 66)) (.q (some 16) none (.mov (.tmp 67)) .done))))))))))) false 2 [0, 1, 2, 13, 14, 15, 16],
  .ret [.t 6],
  .reg (.q (some 6) none (.mov (.const (.bool true))) .done) false 4 [6],
  .cnd (.tmp 60) 5 3,
  .reg (.q (some 59) none (.mov (.tmp 10)) (.q (some 60) none (.bin .neq (.tmp 59) (.const (.int .i64 0))) .done)) false 6 [0, 1, 2, 9, 60],
  .ret [.t 6],
  .reg (.q (some 6) none (.mov (.const (.bool false))) .done) false 8 [6],
  .cnd (.tmp 58) 9 7,
  .reg (.q (some 45) none (.mov (.tmp 9)) (.q (some 46) none (.mov (.tmp 11)) (.q (some 47) none (.bin .neq (.tmp 45) (.tmp 46)) (.q (some 48) none (.mov (.tmp 47)) (.q (some 49) (some (48, false)) (.mov (.tmp 10)) (.q (some 50) (some (48, false)) (.mov (.tmp 12)) (.q (some 51) (some (48, false)) (.bin .neq (.tmp 49) (.tmp 50)) (.q (some 52) none (.pick (.tmp 48) (.const (.bool true)) (.tmp 51)) (.q (some 53) none (.mov (.tmp 52)) (.q (some 54) (some (53, false)) (.mov (.tmp 8)) (.q (some 55) (some (53, false)) (.mov (.tmp 1)) (.l (some 56) (some (53, false)) (.call 12 [(.tmp 54), (.tmp 55)]) [] (.q (some 57) (some (53, false)) (.not (.tmp 56)) (.q (some 58) none (.pick (.tmp 53) (.const (.bool true)) (.tmp 57)) .done)))))))))))))) false 10 [0, 1, 2, 9, 10, 58],
  .reg (.q (some 39) none (.mov (.tmp 0)) (.q (some 40) none (.mov (.tmp 1)) (.q (some 41) none (.mov (.tmp 2)) (.l (some 42) none (.call 11 [(.tmp 39), (.tmp 40), (.tmp 41)]) [] (.q (some 38) none (.mov (.tmp 42)) (.q (some 43) none (.ext 0 (.tmp 38)) (.q (some 44) none (.ext 1 (.tmp 38)) (.q (some 11) none (.mov (.tmp 43)) (.q (some 12) none (.mov (.tmp 44)) .done))))))))) false 11 [0, 1, 2, 8, 9, 10, 11, 12],
  .reg (.q (some 32) none (.mov (.tmp 0)) (.q (some 33) none (.mov (.tmp 7)) (.q (some 34) none (.mov (.tmp 2)) (.l (some 35) none (.call 10 [(.tmp 32), (.tmp 33), (.tmp 34)]) [] (.q (some 31) none (.mov (.tmp 35)) (.q (some 36) none (.ext 0 (.tmp 31)) (.q (some 37) none (.ext 1 (.tmp 31)) (.q (some 9) none (.mov (.tmp 36)) (.q (some 10) none (.mov (.tmp 37)) .done))))))))) false 12 [0, 1, 2, 8, 9, 10],
  .reg (.q (some 27) none (.mov (.tmp 1)) (.l (some 28) none (.call 9 [(.tmp 27)]) [] (.q (some 26) none (.mov (.tmp 28)) (.q (some 29) none (.ext 0 (.tmp 26)) (.q (some 30) none (.ext 1 (.tmp 26)) (.q (some 7) none (.mov (.tmp 29)) (.q (some 8) none (.mov (.tmp 30)) .done))))))) false 13 [0, 1, 2, 7, 8],
  .reg (.q (some 24) none (.mov (.tmp 0)) (.q (some 25) none (.slcT (.tmp 24) none (some (.const (.int .i64 100)))) (.q (some 0) none (.mov (.tmp 25)) .done))) false 14 [0, 1, 2],
  .cnd (.tmp 23) 15 14,
  .reg (.q (some 21) none (.mov (.tmp 0)) (.q (some 22) none (.lenT (.tmp 21)) (.q (some 23) none (.bin .gtr (.tmp 22) (.const (.int .i64 100))) .done))) false 16 [0, 1, 2, 23],
  .reg (.q (some 19) none (.mov (.tmp 1)) (.l (some 20) none (.call 8 [(.tmp 19), (.const (.int .i64 100))]) [] (.q (some 1) none (.mov (.tmp 20)) .done))) false 17 [0, 1, 2],
  .ret [.t 6],
  .reg (.q (some 6) none (.mov (.const (.bool false))) .done) false 19 [6],
  .cnd (.tmp 18) 20 18,
  .reg (.l (some 17) none (.call 7 []) [] (.q (some 18) none (.not (.tmp 17)) .done)) false 21 [0, 1, 2, 18],
  .reg (.q (some 6) none (.mov (.const (.bool false))) .done) false 22 [0, 1, 2]
  ]
/- strongbox/strongboxlaw03.TextOneLetter: entry 25 -/
def c4 : List Vc.Node := [
  .ret [.t 6],
  .ret [.t 6],
  .reg (.q (some 6) none (.mov (.const (.bool true))) .done) false 1 [6],
  .jmp 13,
  .reg (.q (some 50) none (.mov (.tmp 9)) (.q (some 51) none (.bin .add (.tmp 50) (.const (.int .i64 1))) (.q (some 9) none (.mov (.tmp 51)) .done))) false 3 [2, 7, 9],
  .ret [.t 6],
  .reg (.q (some 6) none (.mov (.const (.bool false))) .done) false 5 [6],
  .cnd (.tmp 78) 6 4,
  .reg (.q (some 77) none (.mov (.tmp 13)) (.q (some 78) none (.bin .neq (.tmp 77) (.const (.int .i64 5))) .done)) false 7 [2, 7, 9, 78],
  .reg (.q (some 59) none (.mov (.tmp 7)) (.q (some 60) none (.mov (.tmp 2)) (.q (some 61) none (.slcT (.tmp 59) none (some (.tmp 60))) (.q (some 62) none (.mov (.tmp 9)) (.q (some 63) none (.mov (.tmp 9)) (.q (some 64) none (.bin .add (.tmp 63) (.const (.int .i64 1))) (.q (some 65) none (.slcT (.const (.string ⟨#[113, 112, 122, 114, 121, 57, 120, 56, 103, 102, 50, 116, 118, 100, 119, 48, 115, 51, 106, 110, 53, 52, 107, 104, 99, 101, 54, 109, 117, 97, 55, 108]⟩)) (some (.tmp 62)) (some (.tmp 64))) (.q (some 66) none (.bin .add (.tmp 61) (.tmp 65)) (.q (some 67) none (.mov (.tmp 7)) (.q (some 68) none (.mov (.tmp 2)) (.q (some 69) none (.bin .add (.tmp 68) (.const (.int .i64 1))) (.q (some 70) none (.slcT (.tmp 67) (some (.tmp 69)) none) (.q (some 71) none (.bin .add (.tmp 66) (.tmp 70)) (.l (some 72) none (.call 13 [(.tmp 71)]) [] (.q (some 58) none (.mov (.tmp 72)) (.q (some 73) none (.ext 0 (.tmp 58)) (.q (some 74) none (.ext 1 (.tmp 58)) (.q (some 75) none (.ext 2 (.tmp 58)) (.q (some 76) none (.ext 3 (.tmp 58)) (.q (some 10) none (.mov (.tmp 73)) (.q (some 11) none (.mov (.tmp 74)) (.q (some 12) none (.mov (.tmp 75)) (.q (some 13) none (.mov (.tmp 76)) .done))))))))))))))))))))))) true 8 [2, 7, 9, 13],
  .cnd (.tmp 57) 4 9,
  .reg (.q (some 52) none (.mov (.tmp 9)) (.q (some 53) none (.idxS (.const (.string ⟨#[113, 112, 122, 114, 121, 57, 120, 56, 103, 102, 50, 116, 118, 100, 119, 48, 115, 51, 106, 110, 53, 52, 107, 104, 99, 101, 54, 109, 117, 97, 55, 108]⟩)) (.tmp 52)) (.q (some 54) none (.mov (.tmp 7)) (.q (some 55) none (.mov (.tmp 2)) (.q (some 56) none (.idxS (.tmp 54) (.tmp 55)) (.q (some 57) none (.bin .eql (.tmp 53) (.tmp 56)) .done)))))) true 10 [2, 7, 9, 57],
  .cnd (.tmp 49) 11 2,
  .reg (.q (some 48) none (.mov (.tmp 9)) (.q (some 49) none (.bin .lss (.tmp 48) (.const (.int .i64 32))) .done)) false 12 [2, 7, 9, 49],
  .reg (.q (some 9) none (.mov (.const (.int .i64 0))) .done) false 13 [2, 7, 9],
  .reg (.q (some 43) none (.mov (.tmp 2)) (.q (some 44) none (.mov (.tmp 0)) (.q (some 45) none (.lenT (.tmp 44)) (.q (some 46) none (.bin .add (.tmp 45) (.const (.int .i64 1))) (.q (some 47) none (.bin .add (.tmp 43) (.tmp 46)) (.q (some 2) none (.mov (.tmp 47)) .done)))))) false 14 [2, 7],
  .ret [.t 6],
  .reg (.q (some 6) none (.mov (.const (.bool true))) .done) false 16 [6],
  .cnd (.tmp 42) 17 15,
  .reg (.q (some 27) none (.mov (.tmp 8)) (.q (some 28) none (.bin .neq (.tmp 27) (.const (.int .i64 0))) (.q (some 29) none (.mov (.tmp 28)) (.q (some 30) (some (29, false)) (.mov (.tmp 2)) (.q (some 31) (some (29, false)) (.bin .lss (.tmp 30) (.const (.int .i64 0))) (.q (some 32) none (.pick (.tmp 29) (.const (.bool true)) (.tmp 31)) (.q (some 33) none (.mov (.tmp 32)) (.q (some 34) (some (33, false)) (.mov (.tmp 2)) (.q (some 35) (some (33, false)) (.mov (.tmp 7)) (.q (some 36) (some (33, false)) (.lenT (.tmp 35)) (.q (some 37) (some (33, false)) (.mov (.tmp 0)) (.q (some 38) (some (33, false)) (.lenT (.tmp 37)) (.q (some 39) (some (33, false)) (.bin .sub (.tmp 36) (.tmp 38)) (.q (some 40) (some (33, false)) (.bin .sub (.tmp 39) (.const (.int .i64 1))) (.q (some 41) (some (33, false)) (.bin .geq (.tmp 34) (.tmp 40)) (.q (some 42) none (.pick (.tmp 33) (.const (.bool true)) (.tmp 41)) .done)))))))))))))))) false 18 [0, 2, 7, 42],
  .reg (.q (some 17) none (.mov (.tmp 0)) (.q (some 18) none (.mov (.tmp 1)) (.l (some 19) none (.call 8 [(.tmp 18), (.const (.int .i64 60))]) [] (.q (some 20) none (.mov (.tmp 1)) (.q (some 21) none (.len (.tmp 20)) (.q (some 22) none (.bin .rem (.tmp 21) (.const (.int .i64 2))) (.q (some 23) none (.bin .eql (.tmp 22) (.const (.int .i64 0))) (.l (some 24) none (.call 10 [(.tmp 17), (.tmp 19), (.tmp 23)]) [] (.q (some 16) none (.mov (.tmp 24)) (.q (some 25) none (.ext 0 (.tmp 16)) (.q (some 26) none (.ext 1 (.tmp 16)) (.q (some 7) none (.mov (.tmp 25)) (.q (some 8) none (.mov (.tmp 26)) .done))))))))))))) false 19 [0, 2, 7, 8],
  .ret [.t 6],
  .reg (.q (some 6) none (.mov (.const (.bool false))) .done) false 21 [6],
  .cnd (.tmp 15) 22 20,
  .reg (.l (some 14) none (.call 7 []) [] (.q (some 15) none (.not (.tmp 14)) .done)) false 23 [0, 1, 2, 15],
  .reg (.q (some 6) none (.mov (.const (.bool false))) .done) false 24 [0, 1, 2]
  ]
/- strongbox/strongboxlaw03.TextReads: entry 28 -/
def c5 : List Vc.Node := [
  .ret [.t 4],
  .ret [.t 4],
  .reg (.q (some 103) none (.mov (.tmp 19)) (.q (some 104) none (.lenT (.tmp 103)) (.q (some 105) none (.bin .gtr (.tmp 104) (.const (.int .i64 0))) (.q (some 106) none (.mov (.tmp 105)) (.q (some 107) (some (106, true)) (.mov (.tmp 18)) (.q (some 108) (some (106, true)) (.bin .eql (.tmp 107) (.const (.int .i64 0))) (.q (some 109) none (.pick (.tmp 106) (.tmp 108) (.const (.bool false))) (.q (some 110) none (.mov (.tmp 109)) (.q (some 111) (some (110, true)) (.mov (.tmp 17)) (.q (some 112) (some (110, true)) (.lenT (.tmp 111)) (.q (some 113) (some (110, true)) (.mov (.tmp 0)) (.q (some 114) (some (110, true)) (.lenT (.tmp 113)) (.q (some 115) (some (110, true)) (.bin .eql (.tmp 112) (.tmp 114)) (.q (some 116) none (.pick (.tmp 110) (.tmp 115) (.const (.bool false))) (.q (some 4) none (.mov (.tmp 116)) .done))))))))))))))) false 1 [4],
  .reg (.q (some 99) none (.mov (.tmp 1)) (.l (some 100) none (.call 11 [(.tmp 99), (.const (.slice none 0 0)), (.const (.bool false))]) [] (.q (some 98) none (.mov (.tmp 100)) (.q (some 101) none (.ext 0 (.tmp 98)) (.q (some 102) none (.ext 1 (.tmp 98)) (.q (some 19) none (.mov (.tmp 101)) (.q (some 20) none (.mov (.tmp 102)) .done))))))) false 2 [0, 17, 18, 19],
  .reg (.q (some 92) none (.mov (.tmp 1)) (.q (some 93) none (.mov (.tmp 13)) (.q (some 94) none (.mov (.tmp 14)) (.l (some 95) none (.call 18 [(.tmp 92), (.tmp 93), (.tmp 94)]) [] (.q (some 91) none (.mov (.tmp 95)) (.q (some 96) none (.ext 0 (.tmp 91)) (.q (some 97) none (.ext 1 (.tmp 91)) (.q (some 17) none (.mov (.tmp 96)) (.q (some 18) none (.mov (.tmp 97)) .done))))))))) false 3 [0, 1, 17, 18],
  .ret [.t 4],
  .reg (.q (some 4) none (.mov (.const (.bool true))) .done) false 5 [4],
  .cnd (.tmp 90) 6 4,
  .reg (.q (some 89) none (.mov (.tmp 8)) (.q (some 90) none (.bin .neq (.tmp 89) (.const (.int .i64 0))) .done)) false 7 [0, 1, 13, 14, 90],
  .ret [.t 4],
  .reg (.q (some 4) none (.mov (.const (.bool false))) .done) false 9 [4],
  .cnd (.tmp 88) 10 8,
  .reg (.q (some 75) none (.mov (.tmp 13)) (.q (some 76) none (.mov (.tmp 15)) (.q (some 77) none (.bin .neq (.tmp 75) (.tmp 76)) (.q (some 78) none (.mov (.tmp 77)) (.q (some 79) (some (78, false)) (.mov (.tmp 14)) (.q (some 80) (some (78, false)) (.mov (.tmp 16)) (.l (some 81) (some (78, false)) (.call 14 [(.tmp 79), (.tmp 80)]) [] (.q (some 82) (some (78, false)) (.not (.tmp 81)) (.q (some 83) none (.pick (.tmp 78) (.const (.bool true)) (.tmp 82)) (.q (some 84) none (.mov (.tmp 83)) (.q (some 85) (some (84, false)) (.mov (.tmp 8)) (.q (some 86) (some (84, false)) (.mov (.tmp 12)) (.q (some 87) (some (84, false)) (.bin .neq (.tmp 85) (.tmp 86)) (.q (some 88) none (.pick (.tmp 84) (.const (.bool true)) (.tmp 87)) .done)))))))))))))) false 11 [0, 1, 8, 13, 14, 88],
  .reg (.q (some 69) none (.mov (.tmp 1)) (.q (some 70) none (.mov (.tmp 0)) (.l (some 71) none (.call 17 [(.tmp 69), (.tmp 70)]) [] (.q (some 68) none (.mov (.tmp 71)) (.q (some 72) none (.ext 0 (.tmp 68)) (.q (some 73) none (.ext 1 (.tmp 68)) (.q (some 74) none (.ext 2 (.tmp 68)) (.q (some 15) none (.mov (.tmp 72)) (.q (some 16) none (.mov (.tmp 73)) (.q (some 12) none (.mov (.tmp 74)) .done)))))))))) false 12 [0, 1, 8, 12, 13, 14, 15, 16],
  .reg (.q (some 62) none (.mov (.tmp 1)) (.q (some 63) none (.mov (.tmp 0)) (.l (some 64) none (.call 16 [(.tmp 62), (.tmp 63)]) [] (.q (some 61) none (.mov (.tmp 64)) (.q (some 65) none (.ext 0 (.tmp 61)) (.q (some 66) none (.ext 1 (.tmp 61)) (.q (some 67) none (.ext 2 (.tmp 61)) (.q (some 13) none (.mov (.tmp 65)) (.q (some 14) none (.mov (.tmp 66)) (.q (some 8) none (.mov (.tmp 67)) .done)))))))))) false 13 [0, 1, 8, 13, 14],
  .ret [.t 4],
  .reg (.q (some 4) none (.mov (.const (.bool false))) .done) false 15 [4],
  .cnd (.tmp 60) 16 14,
  .reg (.q (some 42) none (.mov (.tmp 5)) (.q (some 43) none (.mov (.tmp 9)) (.q (some 44) none (.bin .neq (.tmp 42) (.tmp 43)) (.q (some 45) none (.mov (.tmp 44)) (.q (some 46) (some (45, false)) (.mov (.tmp 6)) (.q (some 47) (some (45, false)) (.mov (.tmp 10)) (.l (some 48) (some (45, false)) (.call 14 [(.tmp 46), (.tmp 47)]) [] (.q (some 49) (some (45, false)) (.not (.tmp 48)) (.q (some 50) none (.pick (.tmp 45) (.const (.bool true)) (.tmp 49)) (.q (some 51) none (.mov (.tmp 50)) (.q (some 52) (some (51, false)) (.mov (.tmp 7)) (.q (some 53) (some (51, false)) (.mov (.tmp 11)) (.q (some 54) (some (51, false)) (.eqB true (.tmp 52) (.tmp 53)) (.q (some 55) none (.pick (.tmp 51) (.const (.bool true)) (.tmp 54)) (.q (some 56) none (.mov (.tmp 55)) (.q (some 57) (some (56, false)) (.mov (.tmp 8)) (.q (some 58) (some (56, false)) (.mov (.tmp 12)) (.q (some 59) (some (56, false)) (.bin .neq (.tmp 57) (.tmp 58)) (.q (some 60) none (.pick (.tmp 56) (.const (.bool true)) (.tmp 59)) .done))))))))))))))))))) false 17 [0, 1, 60],
  .reg (.q (some 36) none (.mov (.tmp 0)) (.l (some 37) none (.call 15 [(.tmp 36)]) [] (.q (some 35) none (.mov (.tmp 37)) (.q (some 38) none (.ext 0 (.tmp 35)) (.q (some 39) none (.ext 1 (.tmp 35)) (.q (some 40) none (.ext 2 (.tmp 35)) (.q (some 41) none (.ext 3 (.tmp 35)) (.q (some 9) none (.mov (.tmp 38)) (.q (some 10) none (.mov (.tmp 39)) (.q (some 11) none (.mov (.tmp 40)) (.q (some 12) none (.mov (.tmp 41)) .done))))))))))) false 18 [0, 1, 5, 6, 7, 8, 9, 10, 11, 12],
  .reg (.q (some 29) none (.mov (.tmp 0)) (.l (some 30) none (.call 13 [(.tmp 29)]) [] (.q (some 28) none (.mov (.tmp 30)) (.q (some 31) none (.ext 0 (.tmp 28)) (.q (some 32) none (.ext 1 (.tmp 28)) (.q (some 33) none (.ext 2 (.tmp 28)) (.q (some 34) none (.ext 3 (.tmp 28)) (.q (some 5) none (.mov (.tmp 31)) (.q (some 6) none (.mov (.tmp 32)) (.q (some 7) none (.mov (.tmp 33)) (.q (some 8) none (.mov (.tmp 34)) .done))))))))))) false 19 [0, 1, 5, 6, 7, 8],
  .reg (.q (some 26) none (.mov (.tmp 0)) (.q (some 27) none (.slcT (.tmp 26) none (some (.const (.int .i64 200)))) (.q (some 0) none (.mov (.tmp 27)) .done))) false 20 [0, 1],
  .cnd (.tmp 25) 21 20,
  .reg (.q (some 23) none (.mov (.tmp 0)) (.q (some 24) none (.lenT (.tmp 23)) (.q (some 25) none (.bin .gtr (.tmp 24) (.const (.int .i64 200))) .done))) false 22 [0, 1, 25],
  .ret [.t 4],
  .reg (.q (some 4) none (.mov (.const (.bool false))) .done) false 24 [4],
  .cnd (.tmp 22) 25 23,
  .reg (.l (some 21) none (.call 7 []) [] (.q (some 22) none (.not (.tmp 21)) .done)) false 26 [0, 1, 22],
  .reg (.q (some 4) none (.mov (.const (.bool false))) .done) false 27 [0, 1]
  ]
theorem c5_ok : cfgL Tryd.prog 5 = some (117, 28, c5.map Vc.Node.bare) := by kernel_rfl
/- strongbox/strongboxlaw03.awake: entry 4 -/
def c7 : List Vc.Node := [
  .ret [.t 0],
  .ret [.t 0],
  .reg (.l (some 7) none (.bldS 5 1 [(.const (.int .u8 0)), (.const (.int .u8 0)), (.const (.int .u8 1))]) [] (.l (some 8) none (.call 22 [(.tmp 7)]) [] (.q (some 9) none (.bin .eql (.tmp 8) (.const (.string ⟨#[49, 49, 50]⟩))) (.q (some 10) none (.mov (.tmp 9)) (.q (some 11) (some (10, true)) (.mov (.tmp 2)) (.q (some 12) (some (10, true)) (.bin .eql (.tmp 11) (.const (.int .i64 0))) (.q (some 13) none (.pick (.tmp 10) (.tmp 12) (.const (.bool false))) (.q (some 14) none (.mov (.tmp 13)) (.q (some 15) (some (14, true)) (.mov (.tmp 1)) (.q (some 16) (some (14, true)) (.bin .eql (.tmp 15) (.const (.string ⟨#[56, 57, 102, 56, 115, 112, 120, 109]⟩))) (.q (some 17) none (.pick (.tmp 14) (.tmp 16) (.const (.bool false))) (.q (some 18) none (.mov (.tmp 17)) (.l (some 19) (some (18, true)) (.bldS 5 1 [(.const (.int .u8 10))]) [] (.l (some 20) (some (18, true)) (.call 23 [(.tmp 19)]) [] (.q (some 21) (some (18, true)) (.bin .eql (.tmp 20) (.const (.string ⟨#[48, 97]⟩))) (.q (some 22) none (.pick (.tmp 18) (.tmp 21) (.const (.bool false))) (.q (some 0) none (.mov (.tmp 22)) .done))))))))))))))))) false 1 [0],
  .reg (.l (some 4) none (.call 21 [(.const (.string ⟨#[114, 97, 119, 40, 100, 101, 97, 100, 98, 101, 101, 102, 41]⟩))]) [] (.q (some 3) none (.mov (.tmp 4)) (.q (some 5) none (.ext 0 (.tmp 3)) (.q (some 6) none (.ext 1 (.tmp 3)) (.q (some 1) none (.mov (.tmp 5)) (.q (some 2) none (.mov (.tmp 6)) .done)))))) false 2 [1, 2],
  .reg (.q (some 0) none (.mov (.const (.bool false))) .done) false 3 []
  ]
theorem c7_ok : cfgL Tryd.prog 7 = some (23, 4, c7.map Vc.Node.bare) := by kernel_rfl
/- strongbox/text.Bech32: entry 36 -/
def c10 : List Vc.Node := [
  .ret [.t 6, .t 7],
  .ret [.t 6, .t 7],
  .reg (.q (some 105) none (.mov (.tmp 14)) (.q (some 106) none (.b2s (.tmp 105)) (.q (some 6) none (.mov (.tmp 106)) (.q (some 7) none (.mov (.const (.int .i64 0))) .done)))) false 1 [6, 7],
  .jmp 8,
  .reg (.q (some 104) none (.bin .add (.tmp 95) (.const (.int .i64 1))) (.q (some 95) none (.mov (.tmp 104)) .done)) false 3 [14, 93, 94, 95],
  .reg (.q (some 99) none (.mov (.tmp 14)) (.q (some 100) none (.mov (.tmp 16)) (.q (some 101) none (.idxS (.const (.string ⟨#[113, 112, 122, 114, 121, 57, 120, 56, 103, 102, 50, 116, 118, 100, 119, 48, 115, 51, 106, 110, 53, 52, 107, 104, 99, 101, 54, 109, 117, 97, 55, 108]⟩)) (.tmp 100)) (.l (some 102) none (.bldS 5 1 [(.tmp 101)]) [] (.l (some 103) none (.app 5 1 1 [(1, (.int .u8 0))] (.tmp 99) (.tmp 102)) [] (.q (some 14) none (.mov (.tmp 103)) .done)))))) false 4 [14, 93, 94, 95],
  .reg (.q (some 97) none (.iadrS 1 (.tmp 93) (.tmp 95)) (.q (some 98) none (.ld1 (.tmp 97)) (.q (some 16) none (.mov (.tmp 98)) .done))) false 5 [14, 16, 93, 94, 95],
  .cnd (.tmp 96) 6 2,
  .reg (.q (some 96) none (.bin .lss (.tmp 95) (.tmp 94)) .done) false 7 [14, 93, 94, 95, 96],
  .reg (.q (some 90) none (.mov (.tmp 1)) (.l (some 91) none (.call 29 [(.tmp 90)]) [] (.q (some 92) none (.mov (.tmp 13)) (.l (some 93) none (.app 5 1 1 [(1, (.int .u8 0))] (.tmp 91) (.tmp 92)) [] (.q (some 94) none (.len (.tmp 93)) (.q (some 95) none (.mov (.const (.int .i64 0))) .done)))))) false 8 [14, 93, 94, 95],
  .reg (.q (some 87) none (.mov (.tmp 0)) (.q (some 88) none (.bin .add (.tmp 87) (.const (.string ⟨#[49]⟩))) (.l (some 89) none (.s2b 5 (.tmp 88)) [] (.q (some 14) none (.mov (.tmp 89)) .done)))) false 9 [1, 13, 14],
  .reg (.l (some 80) none (.call 26 []) [] (.q (some 81) none (.mov (.tmp 12)) (.l (some 82) none (.call 27 [(.tmp 80), (.tmp 81), (.const (.int .i64 6))]) [] (.q (some 83) none (.mov (.tmp 2)) (.l (some 84) none (.call 28 [(.tmp 83)]) [] (.q (some 85) none (.bin .xor (.tmp 82) (.tmp 84)) (.l (some 86) none (.call 25 [(.tmp 85), (.const (.int .i64 6))]) [] (.q (some 13) none (.mov (.tmp 86)) .done)))))))) false 10 [0, 1, 13],
  .reg (.q (some 76) none (.mov (.tmp 0)) (.l (some 77) none (.call 24 [(.tmp 76)]) [] (.q (some 78) none (.mov (.tmp 1)) (.l (some 79) none (.app 5 1 1 [(1, (.int .u8 0))] (.tmp 77) (.tmp 78)) [] (.q (some 12) none (.mov (.tmp 79)) .done))))) false 11 [0, 1, 2, 12],
  .ret [.t 6, .t 7],
  .reg (.q (some 6) none (.mov (.const (.string ⟨#[]⟩))) (.q (some 7) none (.mov (.const (.int .i64 3))) .done)) false 13 [6, 7],
  .cnd (.tmp 75) 14 12,
  .reg (.q (some 75) none (.mov (.tmp 8)) .done) false 15 [0, 1, 2, 75],
  .jmp 22,
  .reg (.q (some 74) none (.bin .add (.tmp 65) (.const (.int .i64 1))) (.q (some 65) none (.mov (.tmp 74)) .done)) false 17 [0, 1, 2, 8, 63, 64, 65],
  .reg (.q (some 69) none (.mov (.tmp 8)) (.q (some 70) none (.mov (.tmp 69)) (.q (some 71) (some (70, false)) (.mov (.tmp 11)) (.q (some 72) (some (70, false)) (.bin .gtr (.tmp 71) (.const (.int .u8 31))) (.q (some 73) none (.pick (.tmp 70) (.const (.bool true)) (.tmp 72)) (.q (some 8) none (.mov (.tmp 73)) .done)))))) false 18 [0, 1, 2, 8, 63, 64, 65],
  .reg (.q (some 67) none (.iadrS 1 (.tmp 63) (.tmp 65)) (.q (some 68) none (.ld1 (.tmp 67)) (.q (some 11) none (.mov (.tmp 68)) .done))) false 19 [0, 1, 2, 8, 11, 63, 64, 65],
  .cnd (.tmp 66) 20 16,
  .reg (.q (some 66) none (.bin .lss (.tmp 65) (.tmp 64)) .done) false 21 [0, 1, 2, 8, 63, 64, 65, 66],
  .reg (.q (some 63) none (.mov (.tmp 1)) (.q (some 64) none (.len (.tmp 63)) (.q (some 65) none (.mov (.const (.int .i64 0))) .done))) false 22 [0, 1, 2, 8, 63, 64, 65],
  .jmp 29,
  .reg (.q (some 62) none (.bin .add (.tmp 34) (.const (.int .i64 1))) (.q (some 34) none (.mov (.tmp 62)) .done)) false 24 [0, 1, 2, 8, 33, 34],
  .reg (.q (some 37) none (.mov (.tmp 8)) (.q (some 38) none (.mov (.tmp 37)) (.q (some 39) (some (38, false)) (.mov (.tmp 0)) (.q (some 40) (some (38, false)) (.mov (.tmp 9)) (.q (some 41) (some (38, false)) (.idxS (.tmp 39) (.tmp 40)) (.q (some 42) (some (38, false)) (.bin .lss (.tmp 41) (.const (.int .u8 33))) (.q (some 43) none (.pick (.tmp 38) (.const (.bool true)) (.tmp 42)) (.q (some 44) none (.mov (.tmp 43)) (.q (some 45) (some (44, false)) (.mov (.tmp 0)) (.q (some 46) (some (44, false)) (.mov (.tmp 9)) (.q (some 47) (some (44, false)) (.idxS (.tmp 45) (.tmp 46)) (.q (some 48) (some (44, false)) (.bin .gtr (.tmp 47) (.const (.int .u8 126))) (.q (some 49) none (.pick (.tmp 44) (.const (.bool true)) (.tmp 48)) (.q (some 50) none (.mov (.tmp 49)) (.q (some 51) (some (50, false)) (.mov (.tmp 0)) (.q (some 52) (some (50, false)) (.mov (.tmp 9)) (.q (some 53) (some (50, false)) (.idxS (.tmp 51) (.tmp 52)) (.q (some 54) (some (50, false)) (.bin .geq (.tmp 53) (.const (.int .u8 65))) (.q (some 55) (some (50, false)) (.mov (.tmp 54)) (.q (some 56) (some (55, true)) (.mov (.tmp 0)) (.q (some 57) (some (55, true)) (.mov (.tmp 9)) (.q (some 58) (some (55, true)) (.idxS (.tmp 56) (.tmp 57)) (.q (some 59) (some (55, true)) (.bin .leq (.tmp 58) (.const (.int .u8 90))) (.q (some 60) (some (50, false)) (.pick (.tmp 55) (.tmp 59) (.const (.bool false))) (.q (some 61) none (.pick (.tmp 50) (.const (.bool true)) (.tmp 60)) (.q (some 8) none (.mov (.tmp 61)) .done)))))))))))))))))))))))))) false 25 [0, 1, 2, 8, 33, 34],
  .reg (.q (some 36) none (.mov (.tmp 34)) (.q (some 9) none (.mov (.tmp 36)) .done)) false 26 [0, 1, 2, 8, 9, 33, 34],
  .cnd (.tmp 35) 27 23,
  .reg (.q (some 35) none (.bin .lss (.tmp 34) (.tmp 33)) .done) false 28 [0, 1, 2, 8, 33, 34, 35],
  .reg (.q (some 32) none (.mov (.tmp 0)) (.q (some 33) none (.lenT (.tmp 32)) (.q (some 34) none (.mov (.const (.int .i64 0))) .done))) false 29 [0, 1, 2, 8, 33, 34],
  .reg (.q (some 30) none (.mov (.tmp 0)) (.q (some 31) none (.bin .eql (.tmp 30) (.const (.string ⟨#[]⟩))) (.q (some 8) none (.mov (.tmp 31)) .done))) false 30 [0, 1, 2, 8],
  .ret [.t 6, .t 7],
  .reg (.q (some 6) none (.mov (.const (.string ⟨#[]⟩))) (.q (some 7) none (.mov (.const (.int .i64 2))) .done)) false 32 [6, 7],
  .cnd (.tmp 29) 33 31,
  .reg (.q (some 17) none (.mov (.tmp 0)) (.q (some 18) none (.lenT (.tmp 17)) (.q (some 19) none (.bin .gtr (.tmp 18) (.const (.int .i64 83))) (.q (some 20) none (.mov (.tmp 19)) (.q (some 21) (some (20, false)) (.mov (.tmp 0)) (.q (some 22) (some (20, false)) (.lenT (.tmp 21)) (.q (some 23) (some (20, false)) (.bin .add (.tmp 22) (.const (.int .i64 1))) (.q (some 24) (some (20, false)) (.mov (.tmp 1)) (.q (some 25) (some (20, false)) (.len (.tmp 24)) (.q (some 26) (some (20, false)) (.bin .add (.tmp 23) (.tmp 25)) (.q (some 27) (some (20, false)) (.bin .add (.tmp 26) (.const (.int .i64 6))) (.q (some 28) (some (20, false)) (.bin .gtr (.tmp 27) (.const (.int .i64 90))) (.q (some 29) none (.pick (.tmp 20) (.const (.bool true)) (.tmp 28)) .done))))))))))))) false 34 [0, 1, 2, 29],
  .reg (.q (some 6) none (.mov (.const (.string ⟨#[]⟩))) (.q (some 7) none (.mov (.const (.int .i64 0))) .done)) false 35 [0, 1, 2]
  ]
theorem c10_ok : cfgL Tryd.prog 10 = some (107, 36, c10.map Vc.Node.bare) := by kernel_rfl
/- strongbox/strongboxref03.Bech32: entry 42 -/
def c11 : List Vc.Node := [
  .ret [.t 6, .t 7],
  .ret [.t 6, .t 7],
  .reg (.q (some 104) none (.mov (.tmp 9)) (.q (some 6) none (.mov (.tmp 104)) (.q (some 7) none (.mov (.const (.int .i64 0))) .done))) false 1 [6, 7],
  .jmp 7,
  .reg (.q (some 91) none (.mov (.tmp 12)) (.q (some 92) none (.bin .sub (.tmp 91) (.const (.int .i64 1))) (.q (some 12) none (.mov (.tmp 92)) .done))) false 3 [9, 11, 12],
  .reg (.q (some 93) none (.mov (.tmp 9)) (.q (some 94) none (.mov (.tmp 11)) (.q (some 95) none (.mov (.tmp 12)) (.q (some 96) none (.bin .mul (.const (.int .i64 5)) (.tmp 95)) (.q (some 97) none (.cvi .u64 (.tmp 96)) (.q (some 98) none (.bin .shr (.tmp 94) (.tmp 97)) (.q (some 99) none (.bin .rem (.tmp 98) (.const (.int .u64 32))) (.q (some 100) none (.idxS (.const (.string ⟨#[113, 112, 122, 114, 121, 57, 120, 56, 103, 102, 50, 116, 118, 100, 119, 48, 115, 51, 106, 110, 53, 52, 107, 104, 99, 101, 54, 109, 117, 97, 55, 108]⟩)) (.tmp 99)) (.l (some 101) none (.bldS 5 1 [(.tmp 100)]) [] (.q (some 102) none (.b2s (.tmp 101)) (.q (some 103) none (.bin .add (.tmp 93) (.tmp 102)) (.q (some 9) none (.mov (.tmp 103)) .done)))))))))))) false 4 [9, 11, 12],
  .cnd (.tmp 90) 5 2,
  .reg (.q (some 89) none (.mov (.tmp 12)) (.q (some 90) none (.bin .geq (.tmp 89) (.const (.int .i64 0))) .done)) false 6 [9, 11, 12, 90],
  .reg (.q (some 12) none (.mov (.const (.int .i64 5))) .done) false 7 [9, 11, 12],
  .reg (.q (some 85) none (.mov (.tmp 11)) (.q (some 86) none (.bin .xor (.tmp 85) (.const (.int .u64 734539939))) (.q (some 11) none (.mov (.tmp 86)) .done))) false 8 [9, 11],
  .reg (.q (some 87) none (.mov (.tmp 11)) (.q (some 88) none (.bin .xor (.tmp 87) (.const (.int .u64 1))) (.q (some 11) none (.mov (.tmp 88)) .done))) false 8 [9, 11],
  .cnd (.tmp 84) 9 10,
  .reg (.q (some 84) none (.mov (.tmp 2)) .done) false 11 [9, 11, 84],
  .reg (.q (some 77) none (.mov (.tmp 0)) (.l (some 78) none (.bldS 5 1 []) [] (.q (some 79) none (.mov (.tmp 1)) (.l (some 80) none (.app 5 1 1 [(1, (.int .u8 0))] (.tmp 78) (.tmp 79)) [] (.l (some 81) none (.bldS 5 1 [(.const (.int .u8 0)), (.const (.int .u8 0)), (.const (.int .u8 0)), (.const (.int .u8 0)), (.const (.int .u8 0)), (.const (.int .u8 0))]) [] (.l (some 82) none (.app 5 1 1 [(1, (.int .u8 0))] (.tmp 80) (.tmp 81)) [] (.l (some 83) none (.call 30 [(.tmp 77), (.tmp 82)]) [] (.q (some 11) none (.mov (.tmp 83)) .done)))))))) false 12 [2, 9, 11],
  .jmp 22,
  .reg (.q (some 61) none (.mov (.tmp 10)) (.q (some 62) none (.bin .add (.tmp 61) (.const (.int .i64 1))) (.q (some 10) none (.mov (.tmp 62)) .done))) false 14 [0, 1, 2, 9, 10],
  .reg (.q (some 68) none (.mov (.tmp 9)) (.q (some 69) none (.mov (.tmp 1)) (.q (some 70) none (.mov (.tmp 10)) (.q (some 71) none (.iadrS 1 (.tmp 69) (.tmp 70)) (.q (some 72) none (.ld1 (.tmp 71)) (.q (some 73) none (.idxS (.const (.string ⟨#[113, 112, 122, 114, 121, 57, 120, 56, 103, 102, 50, 116, 118, 100, 119, 48, 115, 51, 106, 110, 53, 52, 107, 104, 99, 101, 54, 109, 117, 97, 55, 108]⟩)) (.tmp 72)) (.l (some 74) none (.bldS 5 1 [(.tmp 73)]) [] (.q (some 75) none (.b2s (.tmp 74)) (.q (some 76) none (.bin .add (.tmp 68) (.tmp 75)) (.q (some 9) none (.mov (.tmp 76)) .done)))))))))) false 15 [0, 1, 2, 9, 10],
  .ret [.t 6, .t 7],
  .reg (.q (some 6) none (.mov (.const (.string ⟨#[]⟩))) (.q (some 7) none (.mov (.const (.int .i64 3))) .done)) false 17 [6, 7],
  .cnd (.tmp 67) 18 16,
  .reg (.q (some 63) none (.mov (.tmp 1)) (.q (some 64) none (.mov (.tmp 10)) (.q (some 65) none (.iadrS 1 (.tmp 63) (.tmp 64)) (.q (some 66) none (.ld1 (.tmp 65)) (.q (some 67) none (.bin .gtr (.tmp 66) (.const (.int .u8 31))) .done))))) false 19 [0, 1, 2, 9, 10, 67],
  .cnd (.tmp 60) 20 13,
  .reg (.q (some 57) none (.mov (.tmp 10)) (.q (some 58) none (.mov (.tmp 1)) (.q (some 59) none (.len (.tmp 58)) (.q (some 60) none (.bin .lss (.tmp 57) (.tmp 59)) .done)))) false 21 [0, 1, 2, 9, 10, 60],
  .reg (.q (some 10) none (.mov (.const (.int .i64 0))) .done) false 22 [0, 1, 2, 9, 10],
  .reg (.q (some 55) none (.mov (.tmp 0)) (.q (some 56) none (.bin .add (.tmp 55) (.const (.string ⟨#[49]⟩))) (.q (some 9) none (.mov (.tmp 56)) .done))) false 23 [0, 1, 2, 9],
  .jmp 32,
  .reg (.q (some 31) none (.mov (.tmp 8)) (.q (some 32) none (.bin .add (.tmp 31) (.const (.int .i64 1))) (.q (some 8) none (.mov (.tmp 32)) .done))) false 25 [0, 1, 2, 8],
  .ret [.t 6, .t 7],
  .reg (.q (some 6) none (.mov (.const (.string ⟨#[]⟩))) (.q (some 7) none (.mov (.const (.int .i64 3))) .done)) false 27 [6, 7],
  .cnd (.tmp 54) 28 26,
  .reg (.q (some 33) none (.mov (.tmp 0)) (.q (some 34) none (.mov (.tmp 8)) (.q (some 35) none (.idxS (.tmp 33) (.tmp 34)) (.q (some 36) none (.bin .lss (.tmp 35) (.const (.int .u8 33))) (.q (some 37) none (.mov (.tmp 36)) (.q (some 38) (some (37, false)) (.mov (.tmp 0)) (.q (some 39) (some (37, false)) (.mov (.tmp 8)) (.q (some 40) (some (37, false)) (.idxS (.tmp 38) (.tmp 39)) (.q (some 41) (some (37, false)) (.bin .gtr (.tmp 40) (.const (.int .u8 126))) (.q (some 42) none (.pick (.tmp 37) (.const (.bool true)) (.tmp 41)) (.q (some 43) none (.mov (.tmp 42)) (.q (some 44) (some (43, false)) (.mov (.tmp 0)) (.q (some 45) (some (43, false)) (.mov (.tmp 8)) (.q (some 46) (some (43, false)) (.idxS (.tmp 44) (.tmp 45)) (.q (some 47) (some (43, false)) (.bin .geq (.tmp 46) (.const (.int .u8 65))) (.q (some 48) (some (43, false)) (.mov (.tmp 47)) (.q (some 49) (some (48, true)) (.mov (.tmp 0)) (.q (some 50) (some (48, true)) (.mov (.tmp 8)) (.q (some 51) (some (48, true)) (.idxS (.tmp 49) (.tmp 50)) (.q (some 52) (some (48, true)) (.bin .leq (.tmp 51) (.const (.int .u8 90))) (.q (some 53) (some (43, false)) (.pick (.tmp 48) (.tmp 52) (.const (.bool false))) (.q (some 54) none (.pick (.tmp 43) (.const (.bool true)) (.tmp 53)) .done)))))))))))))))))))))) false 29 [0, 1, 2, 8, 54],
  .cnd (.tmp 30) 30 24,
  .reg (.q (some 27) none (.mov (.tmp 8)) (.q (some 28) none (.mov (.tmp 0)) (.q (some 29) none (.lenT (.tmp 28)) (.q (some 30) none (.bin .lss (.tmp 27) (.tmp 29)) .done)))) false 31 [0, 1, 2, 8, 30],
  .reg (.q (some 8) none (.mov (.const (.int .i64 0))) .done) false 32 [0, 1, 2, 8],
  .ret [.t 6, .t 7],
  .reg (.q (some 6) none (.mov (.const (.string ⟨#[]⟩))) (.q (some 7) none (.mov (.const (.int .i64 3))) .done)) false 34 [6, 7],
  .cnd (.tmp 26) 35 33,
  .reg (.q (some 25) none (.mov (.tmp 0)) (.q (some 26) none (.bin .eql (.tmp 25) (.const (.string ⟨#[]⟩))) .done)) false 36 [0, 1, 2, 26],
  .ret [.t 6, .t 7],
  .reg (.q (some 6) none (.mov (.const (.string ⟨#[]⟩))) (.q (some 7) none (.mov (.const (.int .i64 2))) .done)) false 38 [6, 7],
  .cnd (.tmp 24) 39 37,
  .reg (.q (some 13) none (.mov (.tmp 0)) (.q (some 14) none (.lenT (.tmp 13)) (.q (some 15) none (.bin .gtr (.tmp 14) (.const (.int .i64 83))) (.q (some 16) none (.mov (.tmp 15)) (.q (some 17) (some (16, false)) (.mov (.tmp 0)) (.q (some 18) (some (16, false)) (.lenT (.tmp 17)) (.q (some 19) (some (16, false)) (.mov (.tmp 1)) (.q (some 20) (some (16, false)) (.len (.tmp 19)) (.q (some 21) (some (16, false)) (.bin .add (.tmp 18) (.tmp 20)) (.q (some 22) (some (16, false)) (.bin .add (.tmp 21) (.const (.int .i64 7))) (.q (some 23) (some (16, false)) (.bin .gtr (.tmp 22) (.const (.int .i64 90))) (.q (some 24) none (.pick (.tmp 16) (.const (.bool true)) (.tmp 23)) .done)))))))))))) false 40 [0, 1, 2, 24],
  .reg (.q (some 6) none (.mov (.const (.string ⟨#[]⟩))) (.q (some 7) none (.mov (.const (.int .i64 0))) .done)) false 41 [0, 1, 2]
  ]
theorem c11_ok : cfgL Tryd.prog 11 = some (105, 42, c11.map Vc.Node.bare) := by kernel_rfl
/- strongbox/text.FromBech32: entry 30 -/
def c13 : List Vc.Node := [
  .ret [.t 2, .t 3, .t 4, .t 5],
  .ret [.t 2, .t 3, .t 4, .t 5],
  .reg (.q (some 69) none (.mov (.tmp 0)) (.q (some 70) none (.mov (.tmp 7)) (.q (some 71) none (.slcT (.tmp 69) none (some (.tmp 70))) (.q (some 72) none (.mov (.tmp 8)) (.q (some 73) none (.mov (.tmp 8)) (.q (some 74) none (.len (.tmp 73)) (.q (some 75) none (.bin .sub (.tmp 74) (.const (.int .i64 6))) (.q (some 76) none (.slcS 1 (.tmp 72) none (some (.tmp 75))) (.q (some 78) none (.mov (.tmp 11)) (.q (some 79) none (.bin .eql (.tmp 78) (.const (.int .u64 734539939))) (.l (some 77) none (.call 34 [(.tmp 76)]) [] (.q (some 2) none (.mov (.tmp 71)) (.q (some 3) none (.mov (.tmp 77)) (.q (some 4) none (.mov (.tmp 79)) (.q (some 5) none (.mov (.const (.int .i64 0))) .done))))))))))))))) true 1 [2, 3, 4, 5],
  .ret [.t 2, .t 3, .t 4, .t 5],
  .reg (.q (some 2) none (.mov (.const (.string ⟨#[]⟩))) (.q (some 3) none (.mov (.const (.slice none 0 0))) (.q (some 4) none (.mov (.const (.bool false))) (.q (some 5) none (.mov (.const (.int .i64 5))) .done)))) false 3 [2, 3, 4, 5],
  .cnd (.tmp 68) 4 2,
  .reg (.q (some 63) none (.mov (.tmp 11)) (.q (some 64) none (.bin .neq (.tmp 63) (.const (.int .u64 1))) (.q (some 65) none (.mov (.tmp 64)) (.q (some 66) (some (65, true)) (.mov (.tmp 11)) (.q (some 67) (some (65, true)) (.bin .neq (.tmp 66) (.const (.int .u64 734539939))) (.q (some 68) none (.pick (.tmp 65) (.tmp 67) (.const (.bool false))) .done)))))) false 5 [0, 7, 8, 11, 68],
  .reg (.q (some 56) none (.mov (.tmp 0)) (.q (some 57) none (.mov (.tmp 7)) (.q (some 58) none (.slcT (.tmp 56) none (some (.tmp 57))) (.q (some 60) none (.mov (.tmp 8)) (.l (some 55) none (.call 26 []) [] (.l (some 59) none (.call 24 [(.tmp 58)]) [] (.l (some 61) none (.app 5 1 1 [(1, (.int .u8 0))] (.tmp 59) (.tmp 60)) [] (.l (some 62) none (.call 27 [(.tmp 55), (.tmp 61), (.const (.int .i64 0))]) [] (.q (some 11) none (.mov (.tmp 62)) .done))))))))) true 6 [0, 7, 8, 11],
  .jmp 17,
  .reg (.q (some 42) none (.mov (.tmp 9)) (.q (some 43) none (.bin .add (.tmp 42) (.const (.int .i64 1))) (.q (some 9) none (.mov (.tmp 43)) .done))) false 8 [0, 7, 8, 9],
  .reg (.q (some 50) none (.mov (.tmp 8)) (.q (some 51) none (.mov (.tmp 10)) (.q (some 52) none (.cvi .u8 (.tmp 51)) (.l (some 53) none (.bldS 5 1 [(.tmp 52)]) [] (.l (some 54) none (.app 5 1 1 [(1, (.int .u8 0))] (.tmp 50) (.tmp 53)) [] (.q (some 8) none (.mov (.tmp 54)) .done)))))) false 9 [0, 7, 8, 9],
  .ret [.t 2, .t 3, .t 4, .t 5],
  .reg (.q (some 2) none (.mov (.const (.string ⟨#[]⟩))) (.q (some 3) none (.mov (.const (.slice none 0 0))) (.q (some 4) none (.mov (.const (.bool false))) (.q (some 5) none (.mov (.const (.int .i64 3))) .done)))) false 11 [2, 3, 4, 5],
  .cnd (.tmp 49) 12 10,
  .reg (.q (some 48) none (.mov (.tmp 10)) (.q (some 49) none (.bin .lss (.tmp 48) (.const (.int .i64 0))) .done)) false 13 [0, 7, 8, 9, 10, 49],
  .reg (.q (some 44) none (.mov (.tmp 0)) (.q (some 45) none (.mov (.tmp 9)) (.q (some 46) none (.idxS (.tmp 44) (.tmp 45)) (.l (some 47) none (.call 33 [(.const (.string ⟨#[113, 112, 122, 114, 121, 57, 120, 56, 103, 102, 50, 116, 118, 100, 119, 48, 115, 51, 106, 110, 53, 52, 107, 104, 99, 101, 54, 109, 117, 97, 55, 108]⟩)), (.tmp 46)]) [] (.q (some 10) none (.mov (.tmp 47)) .done))))) false 14 [0, 7, 8, 9, 10],
  .cnd (.tmp 41) 15 7,
  .reg (.q (some 38) none (.mov (.tmp 9)) (.q (some 39) none (.mov (.tmp 0)) (.q (some 40) none (.lenT (.tmp 39)) (.q (some 41) none (.bin .lss (.tmp 38) (.tmp 40)) .done)))) false 16 [0, 7, 8, 9, 41],
  .reg (.q (some 36) none (.mov (.tmp 7)) (.q (some 37) none (.bin .add (.tmp 36) (.const (.int .i64 1))) (.q (some 9) none (.mov (.tmp 37)) .done))) false 17 [0, 7, 8, 9],
  .reg (.q (some 8) none (.mov (.const (.slice none 0 0))) .done) false 18 [0, 7, 8],
  .ret [.t 2, .t 3, .t 4, .t 5],
  .reg (.q (some 2) none (.mov (.const (.string ⟨#[]⟩))) (.q (some 3) none (.mov (.const (.slice none 0 0))) (.q (some 4) none (.mov (.const (.bool false))) (.q (some 5) none (.mov (.const (.int .i64 3))) .done)))) false 20 [2, 3, 4, 5],
  .cnd (.tmp 35) 21 19,
  .reg (.q (some 22) none (.mov (.tmp 6)) (.q (some 23) none (.not (.tmp 22)) (.q (some 24) none (.mov (.tmp 23)) (.q (some 25) (some (24, false)) (.mov (.tmp 7)) (.q (some 26) (some (24, false)) (.bin .lss (.tmp 25) (.const (.int .i64 1))) (.q (some 27) none (.pick (.tmp 24) (.const (.bool true)) (.tmp 26)) (.q (some 28) none (.mov (.tmp 27)) (.q (some 29) (some (28, false)) (.mov (.tmp 0)) (.q (some 30) (some (28, false)) (.lenT (.tmp 29)) (.q (some 31) (some (28, false)) (.mov (.tmp 7)) (.q (some 32) (some (28, false)) (.bin .sub (.tmp 30) (.tmp 31)) (.q (some 33) (some (28, false)) (.bin .sub (.tmp 32) (.const (.int .i64 1))) (.q (some 34) (some (28, false)) (.bin .lss (.tmp 33) (.const (.int .i64 6))) (.q (some 35) none (.pick (.tmp 28) (.const (.bool true)) (.tmp 34)) .done)))))))))))))) false 22 [0, 7, 35],
  .reg (.q (some 20) none (.mov (.tmp 0)) (.l (some 21) none (.call 32 [(.tmp 20), (.const (.int .u8 49))]) [] (.q (some 7) none (.mov (.tmp 21)) .done))) false 23 [0, 6, 7],
  .reg (.q (some 16) none (.mov (.tmp 0)) (.l (some 17) none (.call 31 [(.tmp 16)]) [] (.q (some 15) none (.mov (.tmp 17)) (.q (some 18) none (.ext 0 (.tmp 15)) (.q (some 19) none (.ext 1 (.tmp 15)) (.q (some 0) none (.mov (.tmp 18)) (.q (some 6) none (.mov (.tmp 19)) .done))))))) false 24 [0, 6],
  .ret [.t 2, .t 3, .t 4, .t 5],
  .reg (.q (some 2) none (.mov (.const (.string ⟨#[]⟩))) (.q (some 3) none (.mov (.const (.slice none 0 0))) (.q (some 4) none (.mov (.const (.bool false))) (.q (some 5) none (.mov (.const (.int .i64 2))) .done)))) false 26 [2, 3, 4, 5],
  .cnd (.tmp 14) 27 25,
  .reg (.q (some 12) none (.mov (.tmp 0)) (.q (some 13) none (.lenT (.tmp 12)) (.q (some 14) none (.bin .gtr (.tmp 13) (.const (.int .i64 90))) .done))) false 28 [0, 14],
  .reg (.q (some 2) none (.mov (.const (.string ⟨#[]⟩))) (.q (some 3) none (.mov (.const (.slice none 0 0))) (.q (some 4) none (.mov (.const (.bool false))) (.q (some 5) none (.mov (.const (.int .i64 0))) .done)))) false 29 [0]
  ]
theorem c13_ok : cfgL Tryd.prog 13 = some (80, 30, c13.map Vc.Node.bare) := by kernel_rfl
/- strongbox/strongboxref01.Equal: entry 3 -/
def c14 : List Vc.Node := [
  .ret [.t 4],
  .ret [.t 4],
  .reg (.q (some 5) none (.mov (.tmp 0)) (.q (some 6) none (.b2s (.tmp 5)) (.q (some 7) none (.mov (.tmp 1)) (.q (some 8) none (.b2s (.tmp 7)) (.q (some 9) none (.bin .eql (.tmp 6) (.tmp 8)) (.q (some 4) none (.mov (.tmp 9)) .done)))))) false 1 [4],
  .reg (.q (some 4) none (.mov (.const (.bool false))) .done) false 2 [0, 1]
  ]
theorem c14_ok : cfgL Tryd.prog 14 = some (10, 3, c14.map Vc.Node.bare) := by kernel_rfl
/- strongbox/strongboxref03.FromBech32: entry 51 -/
def c15 : List Vc.Node := [
  .ret [.t 2, .t 3, .t 4, .t 5],
  .ret [.t 2, .t 3, .t 4, .t 5],
  .reg (.q (some 114) none (.mov (.tmp 9)) (.q (some 115) none (.mov (.tmp 8)) (.q (some 116) none (.slcS 1 (.tmp 114) none (some (.tmp 115))) (.q (some 117) none (.b2s (.tmp 116)) (.q (some 118) none (.mov (.tmp 12)) (.q (some 119) none (.mov (.tmp 12)) (.q (some 120) none (.len (.tmp 119)) (.q (some 121) none (.bin .sub (.tmp 120) (.const (.int .i64 6))) (.q (some 122) none (.slcS 1 (.tmp 118) none (some (.tmp 121))) (.q (some 123) none (.mov (.tmp 15)) (.q (some 124) none (.bin .neq (.tmp 123) (.const (.int .u64 1))) (.q (some 2) none (.mov (.tmp 117)) (.q (some 3) none (.mov (.tmp 122)) (.q (some 4) none (.mov (.tmp 124)) (.q (some 5) none (.mov (.const (.int .i64 0))) .done))))))))))))))) true 1 [2, 3, 4, 5],
  .ret [.t 2, .t 3, .t 4, .t 5],
  .reg (.q (some 2) none (.mov (.const (.string ⟨#[]⟩))) (.q (some 3) none (.mov (.const (.slice none 0 0))) (.q (some 4) none (.mov (.const (.bool false))) (.q (some 5) none (.mov (.const (.int .i64 5))) .done)))) false 3 [2, 3, 4, 5],
  .cnd (.tmp 113) 4 2,
  .reg (.q (some 108) none (.mov (.tmp 15)) (.q (some 109) none (.bin .neq (.tmp 108) (.const (.int .u64 1))) (.q (some 110) none (.mov (.tmp 109)) (.q (some 111) (some (110, true)) (.mov (.tmp 15)) (.q (some 112) (some (110, true)) (.bin .neq (.tmp 111) (.const (.int .u64 734539939))) (.q (some 113) none (.pick (.tmp 110) (.tmp 112) (.const (.bool false))) .done)))))) false 5 [8, 9, 12, 15, 113],
  .reg (.q (some 102) none (.mov (.tmp 9)) (.q (some 103) none (.mov (.tmp 8)) (.q (some 104) none (.slcS 1 (.tmp 102) none (some (.tmp 103))) (.q (some 105) none (.b2s (.tmp 104)) (.q (some 106) none (.mov (.tmp 12)) (.l (some 107) none (.call 30 [(.tmp 105), (.tmp 106)]) [] (.q (some 15) none (.mov (.tmp 107)) .done))))))) false 6 [8, 9, 12, 15],
  .jmp 17,
  .reg (.q (some 88) none (.mov (.tmp 13)) (.q (some 89) none (.bin .add (.tmp 88) (.const (.int .i64 1))) (.q (some 13) none (.mov (.tmp 89)) .done))) false 8 [8, 9, 12, 13],
  .reg (.q (some 97) none (.mov (.tmp 12)) (.q (some 98) none (.mov (.tmp 14)) (.q (some 99) none (.cvi .u8 (.tmp 98)) (.l (some 100) none (.bldS 5 1 [(.tmp 99)]) [] (.l (some 101) none (.app 5 1 1 [(1, (.int .u8 0))] (.tmp 97) (.tmp 100)) [] (.q (some 12) none (.mov (.tmp 101)) .done)))))) false 9 [8, 9, 12, 13],
  .ret [.t 2, .t 3, .t 4, .t 5],
  .reg (.q (some 2) none (.mov (.const (.string ⟨#[]⟩))) (.q (some 3) none (.mov (.const (.slice none 0 0))) (.q (some 4) none (.mov (.const (.bool false))) (.q (some 5) none (.mov (.const (.int .i64 3))) .done)))) false 11 [2, 3, 4, 5],
  .cnd (.tmp 96) 12 10,
  .reg (.q (some 95) none (.mov (.tmp 14)) (.q (some 96) none (.bin .lss (.tmp 95) (.const (.int .i64 0))) .done)) false 13 [8, 9, 12, 13, 14, 96],
  .reg (.q (some 90) none (.mov (.tmp 9)) (.q (some 91) none (.mov (.tmp 13)) (.q (some 92) none (.iadrS 1 (.tmp 90) (.tmp 91)) (.q (some 93) none (.ld1 (.tmp 92)) (.l (some 94) none (.call 35 [(.const (.string ⟨#[113, 112, 122, 114, 121, 57, 120, 56, 103, 102, 50, 116, 118, 100, 119, 48, 115, 51, 106, 110, 53, 52, 107, 104, 99, 101, 54, 109, 117, 97, 55, 108]⟩)), (.tmp 93)]) [] (.q (some 14) none (.mov (.tmp 94)) .done)))))) false 14 [8, 9, 12, 13, 14],
  .cnd (.tmp 87) 15 7,
  .reg (.q (some 84) none (.mov (.tmp 13)) (.q (some 85) none (.mov (.tmp 9)) (.q (some 86) none (.len (.tmp 85)) (.q (some 87) none (.bin .lss (.tmp 84) (.tmp 86)) .done)))) false 16 [8, 9, 12, 13, 87],
  .reg (.q (some 82) none (.mov (.tmp 8)) (.q (some 83) none (.bin .add (.tmp 82) (.const (.int .i64 1))) (.q (some 13) none (.mov (.tmp 83)) .done))) false 17 [8, 9, 12, 13],
  .reg (.q (some 12) none (.mov (.const (.slice none 0 0))) .done) false 18 [8, 9, 12],
  .ret [.t 2, .t 3, .t 4, .t 5],
  .reg (.q (some 2) none (.mov (.const (.string ⟨#[]⟩))) (.q (some 3) none (.mov (.const (.slice none 0 0))) (.q (some 4) none (.mov (.const (.bool false))) (.q (some 5) none (.mov (.const (.int .i64 3))) .done)))) false 20 [2, 3, 4, 5],
  .cnd (.tmp 81) 21 19,
  .reg (.q (some 67) none (.mov (.tmp 6)) (.q (some 68) none (.mov (.tmp 67)) (.q (some 69) (some (68, true)) (.mov (.tmp 7)) (.q (some 70) none (.pick (.tmp 68) (.tmp 69) (.const (.bool false))) (.q (some 71) none (.mov (.tmp 70)) (.q (some 72) (some (71, false)) (.mov (.tmp 8)) (.q (some 73) (some (71, false)) (.bin .lss (.tmp 72) (.const (.int .i64 1))) (.q (some 74) none (.pick (.tmp 71) (.const (.bool true)) (.tmp 73)) (.q (some 75) none (.mov (.tmp 74)) (.q (some 76) (some (75, false)) (.mov (.tmp 0)) (.q (some 77) (some (75, false)) (.lenT (.tmp 76)) (.q (some 78) (some (75, false)) (.mov (.tmp 8)) (.q (some 79) (some (75, false)) (.bin .sub (.tmp 77) (.tmp 78)) (.q (some 80) (some (75, false)) (.bin .lss (.tmp 79) (.const (.int .i64 7))) (.q (some 81) none (.pick (.tmp 75) (.const (.bool true)) (.tmp 80)) .done))))))))))))))) false 22 [8, 9, 81],
  .jmp 41,
  .reg (.q (some 23) none (.mov (.tmp 10)) (.q (some 24) none (.bin .add (.tmp 23) (.const (.int .i64 1))) (.q (some 10) none (.mov (.tmp 24)) .done))) false 24 [0, 6, 7, 8, 9, 10],
  .reg (.q (some 66) none (.mov (.tmp 10)) (.q (some 8) none (.mov (.tmp 66)) .done)) false 25 [0, 6, 7, 8, 9, 10],
  .cnd (.tmp 65) 26 25,
  .reg (.q (some 64) none (.mov (.tmp 11)) (.q (some 65) none (.bin .eql (.tmp 64) (.const (.int .u8 49))) .done)) false 27 [0, 6, 7, 8, 9, 10, 65],
  .reg (.q (some 60) none (.mov (.tmp 9)) (.q (some 61) none (.mov (.tmp 11)) (.l (some 62) none (.bldS 5 1 [(.tmp 61)]) [] (.l (some 63) none (.app 5 1 1 [(1, (.int .u8 0))] (.tmp 60) (.tmp 62)) [] (.q (some 9) none (.mov (.tmp 63)) .done))))) false 28 [0, 6, 7, 8, 9, 10, 11],
  .reg (.q (some 58) none (.mov (.tmp 11)) (.q (some 59) none (.bin .add (.tmp 58) (.const (.int .u8 32))) (.q (some 11) none (.mov (.tmp 59)) .done))) false 29 [0, 6, 7, 8, 9, 10, 11],
  .cnd (.tmp 57) 30 29,
  .reg (.q (some 52) none (.mov (.tmp 11)) (.q (some 53) none (.bin .geq (.tmp 52) (.const (.int .u8 65))) (.q (some 54) none (.mov (.tmp 53)) (.q (some 55) (some (54, true)) (.mov (.tmp 11)) (.q (some 56) (some (54, true)) (.bin .leq (.tmp 55) (.const (.int .u8 90))) (.q (some 57) none (.pick (.tmp 54) (.tmp 56) (.const (.bool false))) .done)))))) false 31 [0, 6, 7, 8, 9, 10, 11, 57],
  .reg (.q (some 43) none (.mov (.tmp 7)) (.q (some 44) none (.mov (.tmp 43)) (.q (some 45) (some (44, false)) (.mov (.tmp 11)) (.q (some 46) (some (44, false)) (.bin .geq (.tmp 45) (.const (.int .u8 97))) (.q (some 47) (some (44, false)) (.mov (.tmp 46)) (.q (some 48) (some (47, true)) (.mov (.tmp 11)) (.q (some 49) (some (47, true)) (.bin .leq (.tmp 48) (.const (.int .u8 122))) (.q (some 50) (some (44, false)) (.pick (.tmp 47) (.tmp 49) (.const (.bool false))) (.q (some 51) none (.pick (.tmp 44) (.const (.bool true)) (.tmp 50)) (.q (some 7) none (.mov (.tmp 51)) .done)))))))))) false 32 [0, 6, 7, 8, 9, 10, 11],
  .reg (.q (some 34) none (.mov (.tmp 6)) (.q (some 35) none (.mov (.tmp 34)) (.q (some 36) (some (35, false)) (.mov (.tmp 11)) (.q (some 37) (some (35, false)) (.bin .geq (.tmp 36) (.const (.int .u8 65))) (.q (some 38) (some (35, false)) (.mov (.tmp 37)) (.q (some 39) (some (38, true)) (.mov (.tmp 11)) (.q (some 40) (some (38, true)) (.bin .leq (.tmp 39) (.const (.int .u8 90))) (.q (some 41) (some (35, false)) (.pick (.tmp 38) (.tmp 40) (.const (.bool false))) (.q (some 42) none (.pick (.tmp 35) (.const (.bool true)) (.tmp 41)) (.q (some 6) none (.mov (.tmp 42)) .done)))))))))) false 33 [0, 6, 7, 8, 9, 10, 11],
  .ret [.t 2, .t 3, .t 4, .t 5],
  .reg (.q (some 2) none (.mov (.const (.string ⟨#[]⟩))) (.q (some 3) none (.mov (.const (.slice none 0 0))) (.q (some 4) none (.mov (.const (.bool false))) (.q (some 5) none (.mov (.const (.int .i64 3))) .done)))) false 35 [2, 3, 4, 5],
  .cnd (.tmp 33) 36 34,
  .reg (.q (some 28) none (.mov (.tmp 11)) (.q (some 29) none (.bin .lss (.tmp 28) (.const (.int .u8 33))) (.q (some 30) none (.mov (.tmp 29)) (.q (some 31) (some (30, false)) (.mov (.tmp 11)) (.q (some 32) (some (30, false)) (.bin .gtr (.tmp 31) (.const (.int .u8 126))) (.q (some 33) none (.pick (.tmp 30) (.const (.bool true)) (.tmp 32)) .done)))))) false 37 [0, 6, 7, 8, 9, 10, 11, 33],
  .reg (.q (some 25) none (.mov (.tmp 0)) (.q (some 26) none (.mov (.tmp 10)) (.q (some 27) none (.idxS (.tmp 25) (.tmp 26)) (.q (some 11) none (.mov (.tmp 27)) .done)))) false 38 [0, 6, 7, 8, 9, 10, 11],
  .cnd (.tmp 22) 39 23,
  .reg (.q (some 19) none (.mov (.tmp 10)) (.q (some 20) none (.mov (.tmp 0)) (.q (some 21) none (.lenT (.tmp 20)) (.q (some 22) none (.bin .lss (.tmp 19) (.tmp 21)) .done)))) false 40 [0, 6, 7, 8, 9, 10, 22],
  .reg (.q (some 10) none (.mov (.const (.int .i64 0))) .done) false 41 [0, 6, 7, 8, 9, 10],
  .reg (.q (some 9) none (.mov (.const (.slice none 0 0))) .done) false 42 [0, 6, 7, 8, 9],
  .reg (.q (some 8) none (.mov (.const (.int .i64 (-1)))) .done) false 43 [0, 6, 7, 8],
  .reg (.q (some 7) none (.mov (.const (.bool false))) .done) false 44 [0, 6, 7],
  .reg (.q (some 6) none (.mov (.const (.bool false))) .done) false 45 [0, 6],
  .ret [.t 2, .t 3, .t 4, .t 5],
  .reg (.q (some 2) none (.mov (.const (.string ⟨#[]⟩))) (.q (some 3) none (.mov (.const (.slice none 0 0))) (.q (some 4) none (.mov (.const (.bool false))) (.q (some 5) none (.mov (.const (.int .i64 2))) .done)))) false 47 [2, 3, 4, 5],
  .cnd (.tmp 18) 48 46,
  .reg (.q (some 16) none (.mov (.tmp 0)) (.q (some 17) none (.lenT (.tmp 16)) (.q (some 18) none (.bin .gtr (.tmp 17) (.const (.int .i64 90))) .done))) false 49 [0, 18],
  .reg (.q (some 2) none (.mov (.const (.string ⟨#[]⟩))) (.q (some 3) none (.mov (.const (.slice none 0 0))) (.q (some 4) none (.mov (.const (.bool false))) (.q (some 5) none (.mov (.const (.int .i64 0))) .done)))) false 50 [0]
  ]
theorem c15_ok : cfgL Tryd.prog 15 = some (125, 51, c15.map Vc.Node.bare) := by kernel_rfl
/- strongbox/text.FromSegwit: entry 25 -/
def c16 : List Vc.Node := [
  .ret [.t 4, .t 5, .t 6],
  .ret [.t 4, .t 5, .t 6],
  .reg (.q (some 62) none (.mov (.tmp 8)) (.q (some 63) none (.iadrS 1 (.tmp 62) (.const (.int .i64 0))) (.q (some 64) none (.ld1 (.tmp 63)) (.q (some 65) none (.cvi .i64 (.tmp 64)) (.q (some 66) none (.mov (.tmp 11)) (.q (some 4) none (.mov (.tmp 65)) (.q (some 5) none (.mov (.tmp 66)) (.q (some 6) none (.mov (.const (.int .i64 0))) .done)))))))) false 1 [4, 5, 6],
  .ret [.t 4, .t 5, .t 6],
  .reg (.q (some 4) none (.mov (.const (.int .i64 0))) (.q (some 5) none (.mov (.const (.slice none 0 0))) (.q (some 6) none (.mov (.const (.int .i64 2))) .done))) false 3 [4, 5, 6],
  .cnd (.tmp 61) 4 2,
  .reg (.q (some 54) none (.mov (.tmp 8)) (.q (some 55) none (.iadrS 1 (.tmp 54) (.const (.int .i64 0))) (.q (some 56) none (.ld1 (.tmp 55)) (.q (some 57) none (.cvi .i64 (.tmp 56)) (.q (some 58) none (.mov (.tmp 11)) (.q (some 59) none (.len (.tmp 58)) (.l (some 60) none (.call 37 [(.tmp 57), (.tmp 59)]) [] (.q (some 61) none (.not (.tmp 60)) .done)))))))) false 5 [8, 11, 61],
  .ret [.t 4, .t 5, .t 6],
  .reg (.q (some 53) none (.mov (.tmp 10)) (.q (some 4) none (.mov (.const (.int .i64 0))) (.q (some 5) none (.mov (.const (.slice none 0 0))) (.q (some 6) none (.mov (.tmp 53)) .done)))) false 7 [4, 5, 6],
  .cnd (.tmp 52) 8 6,
  .reg (.q (some 51) none (.mov (.tmp 10)) (.q (some 52) none (.bin .neq (.tmp 51) (.const (.int .i64 0))) .done)) false 9 [8, 10, 11, 52],
  .reg (.q (some 46) none (.mov (.tmp 8)) (.q (some 47) none (.slcS 1 (.tmp 46) (some (.const (.int .i64 1))) none) (.l (some 48) none (.call 36 [(.tmp 47), (.const (.int .i64 5)), (.const (.int .i64 8)), (.const (.bool false))]) [] (.q (some 45) none (.mov (.tmp 48)) (.q (some 49) none (.ext 0 (.tmp 45)) (.q (some 50) none (.ext 1 (.tmp 45)) (.q (some 11) none (.mov (.tmp 49)) (.q (some 10) none (.mov (.tmp 50)) .done)))))))) false 10 [8, 10, 11],
  .ret [.t 4, .t 5, .t 6],
  .reg (.q (some 22) none (.mov (.tmp 10)) (.q (some 4) none (.mov (.const (.int .i64 0))) (.q (some 5) none (.mov (.const (.slice none 0 0))) (.q (some 6) none (.mov (.tmp 22)) .done)))) false 12 [4, 5, 6],
  .ret [.t 4, .t 5, .t 6],
  .reg (.q (some 4) none (.mov (.const (.int .i64 0))) (.q (some 5) none (.mov (.const (.slice none 0 0))) (.q (some 6) none (.mov (.const (.int .i64 7))) .done))) false 14 [4, 5, 6],
  .ret [.t 4, .t 5, .t 6],
  .reg (.q (some 4) none (.mov (.const (.int .i64 0))) (.q (some 5) none (.mov (.const (.slice none 0 0))) (.q (some 6) none (.mov (.const (.int .i64 3))) .done))) false 16 [4, 5, 6],
  .cnd (.tmp 27) 17 11,
  .reg (.q (some 28) none (.mov (.tmp 8)) (.q (some 29) none (.len (.tmp 28)) (.q (some 30) none (.bin .eql (.tmp 29) (.const (.int .i64 0))) (.q (some 31) none (.mov (.tmp 30)) (.q (some 32) (some (31, false)) (.mov (.tmp 8)) (.q (some 33) (some (31, false)) (.iadrS 1 (.tmp 32) (.const (.int .i64 0))) (.q (some 34) (some (31, false)) (.ld1 (.tmp 33)) (.q (some 35) (some (31, false)) (.bin .gtr (.tmp 34) (.const (.int .u8 16))) (.q (some 36) none (.pick (.tmp 31) (.const (.bool true)) (.tmp 35)) (.q (some 37) none (.mov (.tmp 36)) (.q (some 38) (some (37, false)) (.mov (.tmp 9)) (.q (some 39) (some (37, false)) (.mov (.tmp 8)) (.q (some 40) (some (37, false)) (.iadrS 1 (.tmp 39) (.const (.int .i64 0))) (.q (some 41) (some (37, false)) (.ld1 (.tmp 40)) (.q (some 42) (some (37, false)) (.bin .neq (.tmp 41) (.const (.int .u8 0))) (.q (some 43) (some (37, false)) (.eqB true (.tmp 38) (.tmp 42)) (.q (some 44) none (.pick (.tmp 37) (.const (.bool true)) (.tmp 43)) (.q (some 27) none (.mov (.tmp 44)) .done)))))))))))))))))) false 18 [8, 27],
  .cnd (.tmp 23) 15 19,
  .reg (.q (some 24) none (.mov (.tmp 7)) (.q (some 25) none (.mov (.tmp 0)) (.q (some 26) none (.bin .neq (.tmp 24) (.tmp 25)) (.q (some 23) none (.mov (.tmp 26)) .done)))) false 20 [8, 9, 23],
  .cnd (.tmp 19) 13 21,
  .reg (.q (some 20) none (.mov (.tmp 10)) (.q (some 21) none (.bin .neq (.tmp 20) (.const (.int .i64 0))) (.q (some 19) none (.mov (.tmp 21)) .done))) false 22 [0, 7, 8, 9, 10, 19],
  .reg (.q (some 13) none (.mov (.tmp 1)) (.l (some 14) none (.call 13 [(.tmp 13)]) [] (.q (some 12) none (.mov (.tmp 14)) (.q (some 15) none (.ext 0 (.tmp 12)) (.q (some 16) none (.ext 1 (.tmp 12)) (.q (some 17) none (.ext 2 (.tmp 12)) (.q (some 18) none (.ext 3 (.tmp 12)) (.q (some 7) none (.mov (.tmp 15)) (.q (some 8) none (.mov (.tmp 16)) (.q (some 9) none (.mov (.tmp 17)) (.q (some 10) none (.mov (.tmp 18)) .done))))))))))) false 23 [0, 7, 8, 9, 10],
  .reg (.q (some 4) none (.mov (.const (.int .i64 0))) (.q (some 5) none (.mov (.const (.slice none 0 0))) (.q (some 6) none (.mov (.const (.int .i64 0))) .done))) false 24 [0, 1]
  ]
theorem c16_ok : cfgL Tryd.prog 16 = some (67, 25, c16.map Vc.Node.bare) := by kernel_rfl
/- strongbox/strongboxref03.FromSegwit: entry 25 -/
def c17 : List Vc.Node := [
  .ret [.t 4, .t 5, .t 6],
  .ret [.t 4, .t 5, .t 6],
  .reg (.q (some 59) none (.mov (.tmp 8)) (.q (some 60) none (.iadrS 1 (.tmp 59) (.const (.int .i64 0))) (.q (some 61) none (.ld1 (.tmp 60)) (.q (some 62) none (.cvi .i64 (.tmp 61)) (.q (some 63) none (.mov (.tmp 11)) (.q (some 4) none (.mov (.tmp 62)) (.q (some 5) none (.mov (.tmp 63)) (.q (some 6) none (.mov (.const (.int .i64 0))) .done)))))))) false 1 [4, 5, 6],
  .ret [.t 4, .t 5, .t 6],
  .reg (.q (some 4) none (.mov (.const (.int .i64 0))) (.q (some 5) none (.mov (.const (.slice none 0 0))) (.q (some 6) none (.mov (.const (.int .i64 2))) .done))) false 3 [4, 5, 6],
  .cnd (.tmp 58) 4 2,
  .reg (.q (some 51) none (.mov (.tmp 8)) (.q (some 52) none (.iadrS 1 (.tmp 51) (.const (.int .i64 0))) (.q (some 53) none (.ld1 (.tmp 52)) (.q (some 54) none (.cvi .i64 (.tmp 53)) (.q (some 55) none (.mov (.tmp 11)) (.q (some 56) none (.len (.tmp 55)) (.l (some 57) none (.call 39 [(.tmp 54), (.tmp 56)]) [] (.q (some 58) none (.not (.tmp 57)) .done)))))))) false 5 [8, 11, 58],
  .ret [.t 4, .t 5, .t 6],
  .reg (.q (some 50) none (.mov (.tmp 10)) (.q (some 4) none (.mov (.const (.int .i64 0))) (.q (some 5) none (.mov (.const (.slice none 0 0))) (.q (some 6) none (.mov (.tmp 50)) .done)))) false 7 [4, 5, 6],
  .cnd (.tmp 49) 8 6,
  .reg (.q (some 48) none (.mov (.tmp 10)) (.q (some 49) none (.bin .neq (.tmp 48) (.const (.int .i64 0))) .done)) false 9 [8, 10, 11, 49],
  .reg (.q (some 43) none (.mov (.tmp 8)) (.q (some 44) none (.slcS 1 (.tmp 43) (some (.const (.int .i64 1))) none) (.l (some 45) none (.call 38 [(.tmp 44), (.const (.int .i64 5)), (.const (.int .i64 8)), (.const (.bool false))]) [] (.q (some 42) none (.mov (.tmp 45)) (.q (some 46) none (.ext 0 (.tmp 42)) (.q (some 47) none (.ext 1 (.tmp 42)) (.q (some 11) none (.mov (.tmp 46)) (.q (some 10) none (.mov (.tmp 47)) .done)))))))) false 10 [8, 10, 11],
  .ret [.t 4, .t 5, .t 6],
  .reg (.q (some 4) none (.mov (.const (.int .i64 0))) (.q (some 5) none (.mov (.const (.slice none 0 0))) (.q (some 6) none (.mov (.const (.int .i64 3))) .done))) false 12 [4, 5, 6],
  .cnd (.tmp 41) 13 11,
  .reg (.q (some 25) none (.mov (.tmp 8)) (.q (some 26) none (.len (.tmp 25)) (.q (some 27) none (.bin .eql (.tmp 26) (.const (.int .i64 0))) (.q (some 28) none (.mov (.tmp 27)) (.q (some 29) (some (28, false)) (.mov (.tmp 8)) (.q (some 30) (some (28, false)) (.iadrS 1 (.tmp 29) (.const (.int .i64 0))) (.q (some 31) (some (28, false)) (.ld1 (.tmp 30)) (.q (some 32) (some (28, false)) (.bin .gtr (.tmp 31) (.const (.int .u8 16))) (.q (some 33) none (.pick (.tmp 28) (.const (.bool true)) (.tmp 32)) (.q (some 34) none (.mov (.tmp 33)) (.q (some 35) (some (34, false)) (.mov (.tmp 9)) (.q (some 36) (some (34, false)) (.mov (.tmp 8)) (.q (some 37) (some (34, false)) (.iadrS 1 (.tmp 36) (.const (.int .i64 0))) (.q (some 38) (some (34, false)) (.ld1 (.tmp 37)) (.q (some 39) (some (34, false)) (.bin .gtr (.tmp 38) (.const (.int .u8 0))) (.q (some 40) (some (34, false)) (.eqB true (.tmp 35) (.tmp 39)) (.q (some 41) none (.pick (.tmp 34) (.const (.bool true)) (.tmp 40)) .done))))))))))))))))) false 14 [8, 41],
  .ret [.t 4, .t 5, .t 6],
  .reg (.q (some 4) none (.mov (.const (.int .i64 0))) (.q (some 5) none (.mov (.const (.slice none 0 0))) (.q (some 6) none (.mov (.const (.int .i64 7))) .done))) false 16 [4, 5, 6],
  .cnd (.tmp 24) 17 15,
  .reg (.q (some 22) none (.mov (.tmp 7)) (.q (some 23) none (.mov (.tmp 0)) (.q (some 24) none (.bin .neq (.tmp 22) (.tmp 23)) .done))) false 18 [8, 9, 24],
  .ret [.t 4, .t 5, .t 6],
  .reg (.q (some 21) none (.mov (.tmp 10)) (.q (some 4) none (.mov (.const (.int .i64 0))) (.q (some 5) none (.mov (.const (.slice none 0 0))) (.q (some 6) none (.mov (.tmp 21)) .done)))) false 20 [4, 5, 6],
  .cnd (.tmp 20) 21 19,
  .reg (.q (some 19) none (.mov (.tmp 10)) (.q (some 20) none (.bin .neq (.tmp 19) (.const (.int .i64 0))) .done)) false 22 [0, 7, 8, 9, 10, 20],
  .reg (.q (some 13) none (.mov (.tmp 1)) (.l (some 14) none (.call 15 [(.tmp 13)]) [] (.q (some 12) none (.mov (.tmp 14)) (.q (some 15) none (.ext 0 (.tmp 12)) (.q (some 16) none (.ext 1 (.tmp 12)) (.q (some 17) none (.ext 2 (.tmp 12)) (.q (some 18) none (.ext 3 (.tmp 12)) (.q (some 7) none (.mov (.tmp 15)) (.q (some 8) none (.mov (.tmp 16)) (.q (some 9) none (.mov (.tmp 17)) (.q (some 10) none (.mov (.tmp 18)) .done))))))))))) false 23 [0, 7, 8, 9, 10],
  .reg (.q (some 4) none (.mov (.const (.int .i64 0))) (.q (some 5) none (.mov (.const (.slice none 0 0))) (.q (some 6) none (.mov (.const (.int .i64 0))) .done))) false 24 [0, 1]
  ]
theorem c17_ok : cfgL Tryd.prog 17 = some (64, 25, c17.map Vc.Node.bare) := by kernel_rfl
/- strongbox/text.Segwit: entry 12 -/
def c18 : List Vc.Node := [
  .ret [.t 6, .t 7],
  .ret [.t 6, .t 7],
  .reg (.q (some 26) none (.mov (.tmp 0)) (.q (some 27) none (.mov (.tmp 1)) (.q (some 28) none (.cvi .u8 (.tmp 27)) (.l (some 29) none (.bldS 5 1 [(.tmp 28)]) [] (.q (some 30) none (.mov (.tmp 8)) (.l (some 31) none (.app 5 1 1 [(1, (.int .u8 0))] (.tmp 29) (.tmp 30)) [] (.q (some 32) none (.mov (.tmp 1)) (.q (some 33) none (.bin .neq (.tmp 32) (.const (.int .i64 0))) (.l (some 34) none (.call 10 [(.tmp 26), (.tmp 31), (.tmp 33)]) [] (.q (some 35) none (.ext 0 (.tmp 34)) (.q (some 36) none (.ext 1 (.tmp 34)) (.q (some 6) none (.mov (.tmp 35)) (.q (some 7) none (.mov (.tmp 36)) .done))))))))))))) false 1 [6, 7],
  .reg (.q (some 22) none (.mov (.tmp 2)) (.l (some 23) none (.call 36 [(.tmp 22), (.const (.int .i64 8)), (.const (.int .i64 5)), (.const (.bool true))]) [] (.q (some 21) none (.mov (.tmp 23)) (.q (some 24) none (.ext 0 (.tmp 21)) (.q (some 25) none (.ext 1 (.tmp 21)) (.q (some 8) none (.mov (.tmp 24)) (.q (some 9) none (.mov (.tmp 25)) .done))))))) false 2 [0, 1, 8],
  .ret [.t 6, .t 7],
  .reg (.q (some 6) none (.mov (.const (.string ⟨#[]⟩))) (.q (some 7) none (.mov (.const (.int .i64 2))) .done)) false 4 [6, 7],
  .cnd (.tmp 20) 5 3,
  .reg (.q (some 16) none (.mov (.tmp 1)) (.q (some 17) none (.mov (.tmp 2)) (.q (some 18) none (.len (.tmp 17)) (.l (some 19) none (.call 37 [(.tmp 16), (.tmp 18)]) [] (.q (some 20) none (.not (.tmp 19)) .done))))) false 6 [0, 1, 2, 20],
  .ret [.t 6, .t 7],
  .reg (.q (some 6) none (.mov (.const (.string ⟨#[]⟩))) (.q (some 7) none (.mov (.const (.int .i64 1))) .done)) false 8 [6, 7],
  .cnd (.tmp 15) 9 7,
  .reg (.q (some 10) none (.mov (.tmp 1)) (.q (some 11) none (.bin .lss (.tmp 10) (.const (.int .i64 0))) (.q (some 12) none (.mov (.tmp 11)) (.q (some 13) (some (12, false)) (.mov (.tmp 1)) (.q (some 14) (some (12, false)) (.bin .gtr (.tmp 13) (.const (.int .i64 16))) (.q (some 15) none (.pick (.tmp 12) (.const (.bool true)) (.tmp 14)) .done)))))) false 10 [0, 1, 2, 15],
  .reg (.q (some 6) none (.mov (.const (.string ⟨#[]⟩))) (.q (some 7) none (.mov (.const (.int .i64 0))) .done)) false 11 [0, 1, 2]
  ]
theorem c18_ok : cfgL Tryd.prog 18 = some (37, 12, c18.map Vc.Node.bare) := by kernel_rfl
/- strongbox/strongboxref01.Copy: entry 3 -/
def c19 : List Vc.Node := [
  .ret [.t 2],
  .ret [.t 2],
  .reg (.l (some 3) none (.bldS 5 1 []) [] (.q (some 4) none (.mov (.tmp 0)) (.l (some 5) none (.app 5 1 1 [(1, (.int .u8 0))] (.tmp 3) (.tmp 4)) [] (.q (some 2) none (.mov (.tmp 5)) .done)))) false 1 [2],
  .reg (.q (some 2) none (.mov (.const (.slice none 0 0))) .done) false 2 [0]
  ]
theorem c19_ok : cfgL Tryd.prog 19 = some (6, 3, c19.map Vc.Node.bare) := by kernel_rfl
/- strongbox/text.Checksum: entry 34 -/
def c21 : List Vc.Node := [
  .ret [.t 2, .t 3],
  .ret [.t 2, .t 3],
  .reg (.q (some 93) none (.mov (.tmp 8)) (.q (some 94) none (.b2s (.tmp 93)) (.q (some 2) none (.mov (.tmp 94)) (.q (some 3) none (.mov (.const (.int .i64 0))) .done)))) false 1 [2, 3],
  .jmp 8,
  .reg (.q (some 92) none (.bin .add (.tmp 83) (.const (.int .i64 1))) (.q (some 83) none (.mov (.tmp 92)) .done)) false 3 [8, 81, 82, 83],
  .reg (.q (some 87) none (.mov (.tmp 8)) (.q (some 88) none (.mov (.tmp 10)) (.q (some 89) none (.idxS (.const (.string ⟨#[113, 112, 122, 114, 121, 57, 120, 56, 103, 102, 50, 116, 118, 100, 119, 48, 115, 51, 106, 110, 53, 52, 107, 104, 99, 101, 54, 109, 117, 97, 55, 108]⟩)) (.tmp 88)) (.l (some 90) none (.bldS 5 1 [(.tmp 89)]) [] (.l (some 91) none (.app 5 1 1 [(1, (.int .u8 0))] (.tmp 87) (.tmp 90)) [] (.q (some 8) none (.mov (.tmp 91)) .done)))))) false 4 [8, 81, 82, 83],
  .reg (.q (some 85) none (.iadrS 1 (.tmp 81) (.tmp 83)) (.q (some 86) none (.ld1 (.tmp 85)) (.q (some 10) none (.mov (.tmp 86)) .done))) false 5 [8, 10, 81, 82, 83],
  .cnd (.tmp 84) 6 2,
  .reg (.q (some 84) none (.bin .lss (.tmp 83) (.tmp 82)) .done) false 7 [8, 81, 82, 83, 84],
  .reg (.l (some 77) none (.call 40 []) [] (.q (some 78) none (.mov (.tmp 4)) (.l (some 79) none (.call 27 [(.tmp 77), (.tmp 78), (.const (.int .i64 8))]) [] (.q (some 80) none (.bin .xor (.tmp 79) (.const (.int .u64 1))) (.l (some 81) none (.call 25 [(.tmp 80), (.const (.int .i64 8))]) [] (.q (some 82) none (.len (.tmp 81)) (.q (some 83) none (.mov (.const (.int .i64 0))) .done))))))) false 8 [8, 81, 82, 83],
  .reg (.q (some 8) none (.mov (.const (.slice none 0 0))) .done) false 9 [4, 8],
  .reg (.q (some 58) none (.mov (.tmp 4)) (.q (some 59) none (.mov (.tmp 5)) (.q (some 60) none (.iadrS 1 (.tmp 59) (.const (.int .i64 0))) (.q (some 61) none (.ld1 (.tmp 60)) (.l (some 62) none (.bldS 5 1 [(.tmp 61)]) [] (.l (some 63) none (.app 5 1 1 [(1, (.int .u8 0))] (.tmp 58) (.tmp 62)) [] (.q (some 4) none (.mov (.tmp 63)) .done))))))) false 10 [4],
  .reg (.q (some 66) none (.mov (.tmp 4)) (.q (some 67) none (.mov (.tmp 5)) (.q (some 68) none (.iadrS 1 (.tmp 67) (.const (.int .i64 0))) (.q (some 69) none (.ld1 (.tmp 68)) (.q (some 70) none (.bin .mul (.const (.int .u8 3)) (.tmp 69)) (.q (some 71) none (.mov (.tmp 5)) (.q (some 72) none (.iadrS 1 (.tmp 71) (.const (.int .i64 1))) (.q (some 73) none (.ld1 (.tmp 72)) (.q (some 74) none (.bin .add (.tmp 70) (.tmp 73)) (.l (some 75) none (.bldS 5 1 [(.tmp 74)]) [] (.l (some 76) none (.app 5 1 1 [(1, (.int .u8 0))] (.tmp 66) (.tmp 75)) [] (.q (some 4) none (.mov (.tmp 76)) .done)))))))))))) true 10 [4],
  .cnd (.tmp 64) 12 10,
  .reg (.q (some 65) none (.bin .eql (.tmp 55) (.const (.int .i64 2))) (.q (some 64) none (.mov (.tmp 65)) .done)) false 13 [4, 5, 64],
  .cnd (.tmp 56) 11 14,
  .reg (.q (some 57) none (.bin .eql (.tmp 55) (.const (.int .i64 1))) (.q (some 56) none (.mov (.tmp 57)) .done)) false 15 [4, 5, 55, 56],
  .reg (.q (some 54) none (.mov (.tmp 5)) (.q (some 55) none (.len (.tmp 54)) .done)) false 16 [4, 5, 55],
  .jmp 31,
  .reg (.q (some 53) none (.bin .add (.tmp 13) (.const (.int .i64 1))) (.q (some 13) none (.mov (.tmp 53)) .done)) false 18 [0, 4, 5, 12, 13],
  .reg (.q (some 37) none (.mov (.tmp 4)) (.q (some 38) none (.mov (.tmp 5)) (.q (some 39) none (.iadrS 1 (.tmp 38) (.const (.int .i64 0))) (.q (some 40) none (.ld1 (.tmp 39)) (.q (some 41) none (.bin .mul (.const (.int .u8 9)) (.tmp 40)) (.q (some 42) none (.mov (.tmp 5)) (.q (some 43) none (.iadrS 1 (.tmp 42) (.const (.int .i64 1))) (.q (some 44) none (.ld1 (.tmp 43)) (.q (some 45) none (.bin .mul (.const (.int .u8 3)) (.tmp 44)) (.q (some 46) none (.bin .add (.tmp 41) (.tmp 45)) (.q (some 47) none (.mov (.tmp 5)) (.q (some 48) none (.iadrS 1 (.tmp 47) (.const (.int .i64 2))) (.q (some 49) none (.ld1 (.tmp 48)) (.q (some 50) none (.bin .add (.tmp 46) (.tmp 49)) (.l (some 51) none (.bldS 5 1 [(.tmp 50)]) [] (.l (some 52) none (.app 5 1 1 [(1, (.int .u8 0))] (.tmp 37) (.tmp 51)) [] (.q (some 4) none (.mov (.tmp 52)) (.q (some 5) none (.mov (.const (.slice none 0 0))) .done)))))))))))))))))) true 19 [0, 4, 5, 12, 13],
  .cnd (.tmp 36) 20 19,
  .reg (.q (some 34) none (.mov (.tmp 5)) (.q (some 35) none (.len (.tmp 34)) (.q (some 36) none (.bin .eql (.tmp 35) (.const (.int .i64 3))) .done))) false 21 [0, 4, 5, 12, 13, 36],
  .reg (.q (some 22) none (.mov (.tmp 4)) (.q (some 23) none (.mov (.tmp 7)) (.q (some 24) none (.bin .and (.tmp 23) (.const (.int .i64 31))) (.q (some 25) none (.cvi .u8 (.tmp 24)) (.l (some 26) none (.bldS 5 1 [(.tmp 25)]) [] (.l (some 27) none (.app 5 1 1 [(1, (.int .u8 0))] (.tmp 22) (.tmp 26)) [] (.q (some 28) none (.mov (.tmp 5)) (.q (some 29) none (.mov (.tmp 7)) (.q (some 30) none (.bin .shr (.tmp 29) (.const (.int .u64 5))) (.q (some 31) none (.cvi .u8 (.tmp 30)) (.l (some 32) none (.bldS 5 1 [(.tmp 31)]) [] (.l (some 33) none (.app 5 1 1 [(1, (.int .u8 0))] (.tmp 28) (.tmp 32)) [] (.q (some 4) none (.mov (.tmp 27)) (.q (some 5) none (.mov (.tmp 33)) .done)))))))))))))) false 22 [0, 4, 5, 12, 13],
  .ret [.t 2, .t 3],
  .reg (.q (some 2) none (.mov (.const (.string ⟨#[]⟩))) (.q (some 3) none (.mov (.const (.int .i64 3))) .done)) false 24 [2, 3],
  .cnd (.tmp 21) 25 23,
  .reg (.q (some 20) none (.mov (.tmp 7)) (.q (some 21) none (.bin .lss (.tmp 20) (.const (.int .i64 0))) .done)) false 26 [0, 4, 5, 7, 12, 13, 21],
  .reg (.q (some 16) none (.mov (.tmp 0)) (.q (some 17) none (.mov (.tmp 6)) (.q (some 18) none (.idxS (.tmp 16) (.tmp 17)) (.l (some 19) none (.call 33 [(.const (.string ⟨#[48, 49, 50, 51, 52, 53, 54, 55, 56, 57, 40, 41, 91, 93, 44, 39, 47, 42, 97, 98, 99, 100, 101, 102, 103, 104, 64, 58, 36, 37, 123, 125, 73, 74, 75, 76, 77, 78, 79, 80, 81, 82, 83, 84, 85, 86, 87, 88, 89, 90, 38, 43, 45, 46, 59, 60, 61, 62, 63, 33, 94, 95, 124, 126, 105, 106, 107, 108, 109, 110, 111, 112, 113, 114, 115, 116, 117, 118, 119, 120, 121, 122, 65, 66, 67, 68, 69, 70, 71, 72, 96, 35, 34, 92, 32]⟩)), (.tmp 18)]) [] (.q (some 7) none (.mov (.tmp 19)) .done))))) false 27 [0, 4, 5, 7, 12, 13],
  .reg (.q (some 15) none (.mov (.tmp 13)) (.q (some 6) none (.mov (.tmp 15)) .done)) false 28 [0, 4, 5, 6, 12, 13],
  .cnd (.tmp 14) 29 17,
  .reg (.q (some 14) none (.bin .lss (.tmp 13) (.tmp 12)) .done) false 30 [0, 4, 5, 12, 13, 14],
  .reg (.q (some 11) none (.mov (.tmp 0)) (.q (some 12) none (.lenT (.tmp 11)) (.q (some 13) none (.mov (.const (.int .i64 0))) .done))) false 31 [0, 4, 5, 12, 13],
  .reg (.q (some 4) none (.mov (.const (.slice none 0 0))) (.q (some 5) none (.mov (.const (.slice none 0 0))) .done)) false 32 [0, 4, 5],
  .reg (.q (some 2) none (.mov (.const (.string ⟨#[]⟩))) (.q (some 3) none (.mov (.const (.int .i64 0))) .done)) false 33 [0]
  ]
theorem c21_ok : cfgL Tryd.prog 21 = some (95, 34, c21.map Vc.Node.bare) := by kernel_rfl
/- strongbox/text.Hex: entry 12 -/
def c23 : List Vc.Node := [
  .ret [.t 2],
  .ret [.t 2],
  .reg (.l (some 21) none (.call 46 [(.tmp 3)]) [] (.q (some 2) none (.mov (.tmp 21)) .done)) false 1 [2],
  .jmp 9,
  .reg (.q (some 20) none (.bin .add (.tmp 8) (.const (.int .i64 1))) (.q (some 8) none (.mov (.tmp 20)) .done)) false 3 [3, 6, 7, 8],
  .reg (.q (some 16) none (.mov (.tmp 5)) (.q (some 17) none (.bin .and (.tmp 16) (.const (.int .u8 15))) (.q (some 18) none (.idxS (.const (.string ⟨#[48, 49, 50, 51, 52, 53, 54, 55, 56, 57, 97, 98, 99, 100, 101, 102]⟩)) (.tmp 17)) (.l (some 19) none (.call 45 [(.tmp 3), (.tmp 18)]) [] .done)))) false 4 [3, 6, 7, 8],
  .reg (.q (some 12) none (.mov (.tmp 5)) (.q (some 13) none (.bin .shr (.tmp 12) (.const (.int .u64 4))) (.q (some 14) none (.idxS (.const (.string ⟨#[48, 49, 50, 51, 52, 53, 54, 55, 56, 57, 97, 98, 99, 100, 101, 102]⟩)) (.tmp 13)) (.l (some 15) none (.call 45 [(.tmp 3), (.tmp 14)]) [] .done)))) false 5 [3, 5, 6, 7, 8],
  .reg (.q (some 10) none (.iadrS 1 (.tmp 6) (.tmp 8)) (.q (some 11) none (.ld1 (.tmp 10)) (.q (some 5) none (.mov (.tmp 11)) .done))) false 6 [3, 5, 6, 7, 8],
  .cnd (.tmp 9) 7 2,
  .reg (.q (some 9) none (.bin .lss (.tmp 8) (.tmp 7)) .done) false 8 [3, 6, 7, 8, 9],
  .reg (.q (some 6) none (.mov (.tmp 0)) (.q (some 7) none (.len (.tmp 6)) (.q (some 8) none (.mov (.const (.int .i64 0))) .done))) false 9 [3, 6, 7, 8],
  .reg (.l (some 3) none (.alloc 75 [(1, (.pointer none)), (1, (.slice none 0 0))]) [] .done) false 10 [0, 3],
  .reg (.q (some 2) none (.mov (.const (.string ⟨#[]⟩))) .done) false 11 [0]
  ]
theorem c23_ok : cfgL Tryd.prog 23 = some (22, 12, c23.map Vc.Node.bare) := by kernel_rfl
/- strongbox/text.spread: entry 11 -/
def c24 : List Vc.Node := [
  .ret [.t 2],
  .ret [.t 2],
  .reg (.q (some 26) none (.mov (.tmp 3)) (.l (some 27) none (.bldS 5 1 [(.const (.int .u8 0))]) [] (.l (some 28) none (.app 5 1 1 [(1, (.int .u8 0))] (.tmp 26) (.tmp 27)) [] (.q (some 29) none (.mov (.tmp 4)) (.l (some 30) none (.app 5 1 1 [(1, (.int .u8 0))] (.tmp 28) (.tmp 29)) [] (.q (some 2) none (.mov (.tmp 30)) .done)))))) false 1 [2],
  .jmp 8,
  .reg (.q (some 25) none (.bin .add (.tmp 8) (.const (.int .i64 1))) (.q (some 8) none (.mov (.tmp 25)) .done)) false 3 [0, 3, 4, 7, 8],
  .reg (.q (some 11) none (.mov (.tmp 3)) (.q (some 12) none (.mov (.tmp 0)) (.q (some 13) none (.mov (.tmp 5)) (.q (some 14) none (.idxS (.tmp 12) (.tmp 13)) (.q (some 15) none (.bin .shr (.tmp 14) (.const (.int .u64 5))) (.q (some 18) none (.mov (.tmp 4)) (.q (some 19) none (.mov (.tmp 0)) (.q (some 20) none (.mov (.tmp 5)) (.q (some 21) none (.idxS (.tmp 19) (.tmp 20)) (.q (some 22) none (.bin .and (.tmp 21) (.const (.int .u8 31))) (.alt (.l (some 16) none (.bldS 5 1 [(.tmp 15)]) [] (.alt (.l (some 17) none (.app 5 1 1 [(1, (.int .u8 0))] (.tmp 11) (.tmp 16)) [] (.l (some 23) none (.bldS 5 1 [(.tmp 22)]) [] (.l (some 24) none (.app 5 1 1 [(1, (.int .u8 0))] (.tmp 18) (.tmp 23)) [] (.q (some 3) none (.mov (.tmp 17)) (.q (some 4) none (.mov (.tmp 24)) .done))))) (.l (some 23) none (.bldS 5 1 [(.tmp 22)]) [] (.l (some 17) none (.app 5 1 1 [(1, (.int .u8 0))] (.tmp 11) (.tmp 16)) [] (.l (some 24) none (.app 5 1 1 [(1, (.int .u8 0))] (.tmp 18) (.tmp 23)) [] (.q (some 3) none (.mov (.tmp 17)) (.q (some 4) none (.mov (.tmp 24)) .done))))))) (.l (some 23) none (.bldS 5 1 [(.tmp 22)]) [] (.l (some 16) none (.bldS 5 1 [(.tmp 15)]) [] (.l (some 17) none (.app 5 1 1 [(1, (.int .u8 0))] (.tmp 11) (.tmp 16)) [] (.l (some 24) none (.app 5 1 1 [(1, (.int .u8 0))] (.tmp 18) (.tmp 23)) [] (.q (some 3) none (.mov (.tmp 17)) (.q (some 4) none (.mov (.tmp 24)) .done))))))))))))))))) true 4 [0, 3, 4, 7, 8],
  .reg (.q (some 10) none (.mov (.tmp 8)) (.q (some 5) none (.mov (.tmp 10)) .done)) false 5 [0, 3, 4, 5, 7, 8],
  .cnd (.tmp 9) 6 2,
  .reg (.q (some 9) none (.bin .lss (.tmp 8) (.tmp 7)) .done) false 7 [0, 3, 4, 7, 8, 9],
  .reg (.q (some 6) none (.mov (.tmp 0)) (.q (some 7) none (.lenT (.tmp 6)) (.q (some 8) none (.mov (.const (.int .i64 0))) .done))) false 8 [0, 3, 4, 7, 8],
  .reg (.q (some 3) none (.mov (.const (.slice none 0 0))) (.q (some 4) none (.mov (.const (.slice none 0 0))) .done)) false 9 [0, 3, 4],
  .reg (.q (some 2) none (.mov (.const (.slice none 0 0))) .done) false 10 [0]
  ]
theorem c24_ok : cfgL Tryd.prog 24 = some (31, 11, c24.map Vc.Node.bare) := by kernel_rfl
/- strongbox/text.letters: entry 11 -/
def c25 : List Vc.Node := [
  .ret [.t 4],
  .ret [.t 4],
  .reg (.q (some 24) none (.mov (.tmp 5)) (.q (some 4) none (.mov (.tmp 24)) .done)) false 1 [4],
  .jmp 8,
  .reg (.q (some 23) none (.bin .add (.tmp 8) (.const (.int .i64 1))) (.q (some 8) none (.mov (.tmp 23)) .done)) false 3 [0, 1, 5, 7, 8],
  .reg (.q (some 11) none (.mov (.tmp 5)) (.q (some 12) none (.mov (.tmp 0)) (.q (some 13) none (.mov (.tmp 1)) (.q (some 14) none (.bin .sub (.tmp 13) (.const (.int .i64 1))) (.q (some 15) none (.mov (.tmp 6)) (.q (some 16) none (.bin .sub (.tmp 14) (.tmp 15)) (.q (some 17) none (.bin .mul (.const (.int .i64 5)) (.tmp 16)) (.q (some 18) none (.bin .shr (.tmp 12) (.tmp 17)) (.q (some 19) none (.bin .and (.tmp 18) (.const (.int .u64 31))) (.q (some 20) none (.cvi .u8 (.tmp 19)) (.l (some 21) none (.bldS 5 1 [(.tmp 20)]) [] (.l (some 22) none (.app 5 1 1 [(1, (.int .u8 0))] (.tmp 11) (.tmp 21)) [] (.q (some 5) none (.mov (.tmp 22)) .done))))))))))))) false 4 [0, 1, 5, 7, 8],
  .reg (.q (some 10) none (.mov (.tmp 8)) (.q (some 6) none (.mov (.tmp 10)) .done)) false 5 [0, 1, 5, 6, 7, 8],
  .cnd (.tmp 9) 6 2,
  .reg (.q (some 9) none (.bin .lss (.tmp 8) (.tmp 7)) .done) false 7 [0, 1, 5, 7, 8, 9],
  .reg (.q (some 7) none (.mov (.tmp 1)) (.q (some 8) none (.mov (.const (.int .i64 0))) .done)) false 8 [0, 1, 5, 7, 8],
  .reg (.q (some 5) none (.mov (.const (.slice none 0 0))) .done) false 9 [0, 1, 5],
  .reg (.q (some 4) none (.mov (.const (.slice none 0 0))) .done) false 10 [0, 1]
  ]
theorem c25_ok : cfgL Tryd.prog 25 = some (25, 11, c25.map Vc.Node.bare) := by kernel_rfl
/- strongbox/text.bech: entry 3 -/
def c26 : List Vc.Node := [
  .ret [.cN 0 6],
  .ret [.cN 0 6],
  .reg (.q (some 1) none (.bld [.x 1 (.const (.int .u64 996825010)), .x 1 (.const (.int .u64 642813549)), .x 1 (.const (.int .u64 513874426)), .x 1 (.const (.int .u64 1027748829)), .x 1 (.const (.int .u64 705979059))]) (.q (some 2) none (.bld [.x 1 (.const (.int .i64 25)), .x 5 (.tmp 1)]) (.l none none (.stN 6 (.tmp 0) (.tmp 2)) [] .done))) false 1 [0],
  .reg (.l (some 0) none (.alloc 55 [(1, (.int .i64 0)), (5, (.int .u64 0))]) [] .done) false 2 [0]
  ]
theorem c26_ok : cfgL Tryd.prog 26 = some (3, 3, c26.map Vc.Node.bare) := by kernel_rfl
/- (strongbox/text.code).run: entry 21 -/
def c27 : List Vc.Node := [
  .ret [.t 6],
  .ret [.t 6],
  .reg (.q (some 52) none (.mov (.tmp 7)) (.q (some 6) none (.mov (.tmp 52)) .done)) false 1 [6],
  .jmp 18,
  .reg (.q (some 51) none (.bin .add (.tmp 18) (.const (.int .i64 1))) (.q (some 18) none (.mov (.tmp 51)) .done)) false 3 [3, 7, 16, 17, 18],
  .jmp 12,
  .reg (.q (some 50) none (.bin .add (.tmp 38) (.const (.int .i64 1))) (.q (some 38) none (.mov (.tmp 50)) .done)) false 5 [3, 7, 10, 16, 17, 18, 37, 38],
  .reg (.q (some 47) none (.mov (.tmp 7)) (.q (some 48) none (.mov (.tmp 12)) (.q (some 49) none (.bin .xor (.tmp 47) (.tmp 48)) (.q (some 7) none (.mov (.tmp 49)) .done)))) false 6 [3, 7, 10, 16, 17, 18, 37, 38],
  .cnd (.tmp 46) 7 6,
  .reg (.q (some 42) none (.mov (.tmp 10)) (.q (some 43) none (.mov (.tmp 11)) (.q (some 44) none (.bin .shr (.tmp 42) (.tmp 43)) (.q (some 45) none (.bin .and (.tmp 44) (.const (.int .u64 1))) (.q (some 46) none (.bin .eql (.tmp 45) (.const (.int .u64 1))) .done))))) false 8 [3, 7, 10, 12, 16, 17, 18, 37, 38, 46],
  .reg (.q (some 40) none (.mov (.tmp 38)) (.q (some 41) none (.idxA 5 1 false (.tmp 37) (.tmp 38)) (.q (some 11) none (.mov (.tmp 40)) (.q (some 12) none (.mov (.tmp 41)) .done)))) false 9 [3, 7, 10, 11, 12, 16, 17, 18, 37, 38],
  .cnd (.tmp 39) 10 4,
  .reg (.q (some 39) none (.bin .lss (.tmp 38) (.const (.int .i64 5))) .done) false 11 [3, 7, 10, 16, 17, 18, 37, 38, 39],
  .reg (.q (some 36) none (.fadr 1 (.tmp 3)) (.q (some 37) none (.ldN 5 (.tmp 36)) (.q (some 38) none (.mov (.const (.int .i64 0))) .done))) false 12 [3, 7, 10, 16, 17, 18, 37, 38],
  .reg (.q (some 26) none (.mov (.tmp 7)) (.q (some 27) none (.fadr 0 (.tmp 3)) (.q (some 28) none (.ld1 (.tmp 27)) (.q (some 29) none (.bin .shl (.const (.int .u64 1)) (.tmp 28)) (.q (some 30) none (.bin .sub (.tmp 29) (.const (.int .u64 1))) (.q (some 31) none (.bin .and (.tmp 26) (.tmp 30)) (.q (some 32) none (.bin .shl (.tmp 31) (.const (.int .u64 5))) (.q (some 33) none (.mov (.tmp 9)) (.q (some 34) none (.cvi .u64 (.tmp 33)) (.q (some 35) none (.bin .xor (.tmp 32) (.tmp 34)) (.q (some 7) none (.mov (.tmp 35)) .done))))))))))) false 13 [3, 7, 10, 16, 17, 18],
  .reg (.q (some 22) none (.mov (.tmp 7)) (.q (some 23) none (.fadr 0 (.tmp 3)) (.q (some 24) none (.ld1 (.tmp 23)) (.q (some 25) none (.bin .shr (.tmp 22) (.tmp 24)) (.q (some 10) none (.mov (.tmp 25)) .done))))) false 14 [3, 7, 9, 10, 16, 17, 18],
  .reg (.q (some 20) none (.iadrS 1 (.tmp 16) (.tmp 18)) (.q (some 21) none (.ld1 (.tmp 20)) (.q (some 9) none (.mov (.tmp 21)) .done))) false 15 [3, 7, 9, 16, 17, 18],
  .cnd (.tmp 19) 16 2,
  .reg (.q (some 19) none (.bin .lss (.tmp 18) (.tmp 17)) .done) false 17 [3, 7, 16, 17, 18, 19],
  .reg (.q (some 13) none (.mov (.tmp 1)) (.l (some 14) none (.call 29 [(.tmp 13)]) [] (.q (some 15) none (.mov (.tmp 2)) (.l (some 16) none (.bix .append [22, 3] 22 [false, false] [(.tmp 14), (.tmp 15)]) [] (.q (some 17) none (.len (.tmp 16)) (.q (some 18) none (.mov (.const (.int .i64 0))) .done)))))) false 18 [3, 7, 16, 17, 18],
  .reg (.q (some 7) none (.mov (.const (.int .u64 1))) .done) false 19 [1, 2, 3, 7],
  .reg (.l (some 3) none (.box 55 (.tmp 0)) [] (.q (some 6) none (.mov (.const (.int .u64 0))) .done)) false 20 [1, 2, 3]
  ]
theorem c27_ok : cfgL Tryd.prog 27 = some (53, 21, c27.map Vc.Node.bare) := by kernel_rfl
/- strongbox/text.constant: entry 7 -/
def c28 : List Vc.Node := [
  .ret [.t 2],
  .ret [.t 2],
  .reg (.q (some 2) none (.mov (.const (.int .u64 1))) .done) false 1 [2],
  .ret [.t 2],
  .reg (.q (some 2) none (.mov (.const (.int .u64 734539939))) .done) false 3 [2],
  .cnd (.tmp 3) 4 2,
  .reg (.q (some 3) none (.mov (.tmp 0)) .done) false 5 [3],
  .reg (.q (some 2) none (.mov (.const (.int .u64 0))) .done) false 6 [0]
  ]
theorem c28_ok : cfgL Tryd.prog 28 = some (4, 7, c28.map Vc.Node.bare) := by kernel_rfl
/- slices.Clone[[]byte,byte]: entry 7 -/
def c29 : List Vc.Node := [
  .ret [.t 2],
  .ret [.t 2],
  .reg (.l (some 5) none (.bldS 5 1 []) [] (.q (some 6) none (.mov (.tmp 0)) (.l (some 7) none (.app 5 1 1 [(1, (.int .u8 0))] (.tmp 5) (.tmp 6)) [] (.q (some 2) none (.mov (.tmp 7)) .done)))) false 1 [2],
  .ret [.t 2],
  .reg (.q (some 2) none (.mov (.const (.slice none 0 0))) .done) false 3 [2],
  .cnd (.tmp 4) 4 2,
  .reg (.q (some 3) none (.mov (.tmp 0)) (.q (some 4) none (.eqS false (.tmp 3) (.const (.slice none 0 0))) .done)) false 5 [0, 4],
  .reg (.q (some 2) none (.mov (.const (.slice none 0 0))) .done) false 6 [0]
  ]
theorem c29_ok : cfgL Tryd.prog 29 = some (8, 7, c29.map Vc.Node.bare) := by kernel_rfl
/- strongbox/strongboxref03.sum: entry 23 -/
def c30 : List Vc.Node := [
  .ret [.t 4],
  .ret [.t 4],
  .reg (.q (some 47) none (.mov (.tmp 5)) (.q (some 4) none (.mov (.tmp 47)) .done)) false 1 [4],
  .jmp 7,
  .reg (.q (some 39) none (.mov (.tmp 8)) (.q (some 40) none (.bin .add (.tmp 39) (.const (.int .i64 1))) (.q (some 8) none (.mov (.tmp 40)) .done))) false 3 [1, 5, 8],
  .reg (.q (some 41) none (.mov (.tmp 5)) (.q (some 42) none (.mov (.tmp 1)) (.q (some 43) none (.mov (.tmp 8)) (.q (some 44) none (.iadrS 1 (.tmp 42) (.tmp 43)) (.q (some 45) none (.ld1 (.tmp 44)) (.l (some 46) none (.call 47 [(.tmp 41), (.tmp 45)]) [] (.q (some 5) none (.mov (.tmp 46)) .done))))))) false 4 [1, 5, 8],
  .cnd (.tmp 38) 5 2,
  .reg (.q (some 35) none (.mov (.tmp 8)) (.q (some 36) none (.mov (.tmp 1)) (.q (some 37) none (.len (.tmp 36)) (.q (some 38) none (.bin .lss (.tmp 35) (.tmp 37)) .done)))) false 6 [1, 5, 8, 38],
  .reg (.q (some 8) none (.mov (.const (.int .i64 0))) .done) false 7 [1, 5, 8],
  .jmp 13,
  .reg (.q (some 27) none (.mov (.tmp 7)) (.q (some 28) none (.bin .add (.tmp 27) (.const (.int .i64 1))) (.q (some 7) none (.mov (.tmp 28)) .done))) false 9 [0, 1, 5, 7],
  .reg (.q (some 29) none (.mov (.tmp 5)) (.q (some 30) none (.mov (.tmp 0)) (.q (some 31) none (.mov (.tmp 7)) (.q (some 32) none (.idxS (.tmp 30) (.tmp 31)) (.q (some 33) none (.bin .rem (.tmp 32) (.const (.int .u8 32))) (.l (some 34) none (.call 47 [(.tmp 29), (.tmp 33)]) [] (.q (some 5) none (.mov (.tmp 34)) .done))))))) false 10 [0, 1, 5, 7],
  .cnd (.tmp 26) 11 8,
  .reg (.q (some 23) none (.mov (.tmp 7)) (.q (some 24) none (.mov (.tmp 0)) (.q (some 25) none (.lenT (.tmp 24)) (.q (some 26) none (.bin .lss (.tmp 23) (.tmp 25)) .done)))) false 12 [0, 1, 5, 7, 26],
  .reg (.q (some 7) none (.mov (.const (.int .i64 0))) .done) false 13 [0, 1, 5, 7],
  .reg (.q (some 21) none (.mov (.tmp 5)) (.l (some 22) none (.call 47 [(.tmp 21), (.const (.int .u8 0))]) [] (.q (some 5) none (.mov (.tmp 22)) .done))) false 14 [0, 1, 5],
  .jmp 20,
  .reg (.q (some 13) none (.mov (.tmp 6)) (.q (some 14) none (.bin .add (.tmp 13) (.const (.int .i64 1))) (.q (some 6) none (.mov (.tmp 14)) .done))) false 16 [0, 1, 5, 6],
  .reg (.q (some 15) none (.mov (.tmp 5)) (.q (some 16) none (.mov (.tmp 0)) (.q (some 17) none (.mov (.tmp 6)) (.q (some 18) none (.idxS (.tmp 16) (.tmp 17)) (.q (some 19) none (.bin .quo (.tmp 18) (.const (.int .u8 32))) (.l (some 20) none (.call 47 [(.tmp 15), (.tmp 19)]) [] (.q (some 5) none (.mov (.tmp 20)) .done))))))) false 17 [0, 1, 5, 6],
  .cnd (.tmp 12) 18 15,
  .reg (.q (some 9) none (.mov (.tmp 6)) (.q (some 10) none (.mov (.tmp 0)) (.q (some 11) none (.lenT (.tmp 10)) (.q (some 12) none (.bin .lss (.tmp 9) (.tmp 11)) .done)))) false 19 [0, 1, 5, 6, 12],
  .reg (.q (some 6) none (.mov (.const (.int .i64 0))) .done) false 20 [0, 1, 5, 6],
  .reg (.q (some 5) none (.mov (.const (.int .u64 1))) .done) false 21 [0, 1, 5],
  .reg (.q (some 4) none (.mov (.const (.int .u64 0))) .done) false 22 [0, 1]
  ]
theorem c30_ok : cfgL Tryd.prog 30 = some (48, 23, c30.map Vc.Node.bare) := by kernel_rfl
/- strongbox/text.plain: entry 14 -/
def c31 : List Vc.Node := [
  .ret [.t 2, .t 3],
  .ret [.t 2, .t 3],
  .reg (.q (some 24) none (.mov (.tmp 5)) (.q (some 25) none (.mov (.tmp 0)) (.q (some 26) none (.mov (.tmp 5)) (.q (some 27) none (.bin .eql (.tmp 25) (.tmp 26)) (.q (some 28) none (.mov (.tmp 27)) (.q (some 29) (some (28, false)) (.mov (.tmp 0)) (.q (some 30) (some (28, false)) (.mov (.tmp 0)) (.l (some 31) (some (28, false)) (.call 49 [(.tmp 30)]) [] (.q (some 32) (some (28, false)) (.bin .eql (.tmp 29) (.tmp 31)) (.q (some 33) none (.pick (.tmp 28) (.const (.bool true)) (.tmp 32)) (.q (some 2) none (.mov (.tmp 24)) (.q (some 3) none (.mov (.tmp 33)) .done)))))))))))) false 1 [2, 3],
  .reg (.q (some 22) none (.mov (.tmp 0)) (.l (some 23) none (.call 48 [(.tmp 22)]) [] (.q (some 5) none (.mov (.tmp 23)) .done))) false 2 [0, 5],
  .jmp 12,
  .reg (.q (some 21) none (.bin .add (.tmp 8) (.const (.int .i64 1))) (.q (some 8) none (.mov (.tmp 21)) .done)) false 4 [0, 7, 8],
  .ret [.t 2, .t 3],
  .reg (.q (some 2) none (.mov (.const (.string ⟨#[]⟩))) (.q (some 3) none (.mov (.const (.bool false))) .done)) false 6 [2, 3],
  .cnd (.tmp 20) 7 5,
  .reg (.q (some 11) none (.mov (.tmp 0)) (.q (some 12) none (.mov (.tmp 4)) (.q (some 13) none (.idxS (.tmp 11) (.tmp 12)) (.q (some 14) none (.bin .lss (.tmp 13) (.const (.int .u8 33))) (.q (some 15) none (.mov (.tmp 14)) (.q (some 16) (some (15, false)) (.mov (.tmp 0)) (.q (some 17) (some (15, false)) (.mov (.tmp 4)) (.q (some 18) (some (15, false)) (.idxS (.tmp 16) (.tmp 17)) (.q (some 19) (some (15, false)) (.bin .gtr (.tmp 18) (.const (.int .u8 126))) (.q (some 20) none (.pick (.tmp 15) (.const (.bool true)) (.tmp 19)) .done)))))))))) false 8 [0, 7, 8, 20],
  .reg (.q (some 10) none (.mov (.tmp 8)) (.q (some 4) none (.mov (.tmp 10)) .done)) false 9 [0, 4, 7, 8],
  .cnd (.tmp 9) 10 3,
  .reg (.q (some 9) none (.bin .lss (.tmp 8) (.tmp 7)) .done) false 11 [0, 7, 8, 9],
  .reg (.q (some 6) none (.mov (.tmp 0)) (.q (some 7) none (.lenT (.tmp 6)) (.q (some 8) none (.mov (.const (.int .i64 0))) .done))) false 12 [0, 7, 8],
  .reg (.q (some 2) none (.mov (.const (.string ⟨#[]⟩))) (.q (some 3) none (.mov (.const (.bool false))) .done)) false 13 [0]
  ]
theorem c31_ok : cfgL Tryd.prog 31 = some (34, 14, c31.map Vc.Node.bare) := by kernel_rfl
/- strings.IndexByte: entry 3 -/
def c33 : List Vc.Node := [
  .ret [.t 4],
  .ret [.t 4],
  .reg (.q (some 5) none (.mov (.tmp 0)) (.q (some 6) none (.mov (.tmp 1)) (.l (some 7) none (.call 51 [(.tmp 5), (.tmp 6)]) [] (.q (some 4) none (.mov (.tmp 7)) .done)))) false 1 [4],
  .reg (.q (some 4) none (.mov (.const (.int .i64 0))) .done) false 2 [0, 1]
  ]
theorem c33_ok : cfgL Tryd.prog 33 = some (8, 3, c33.map Vc.Node.bare) := by kernel_rfl
/- slices.Clip[[]byte,byte]: entry 3 -/
def c34 : List Vc.Node := [
  .ret [.t 2],
  .ret [.t 2],
  .reg (.q (some 3) none (.mov (.tmp 0)) (.q (some 4) none (.mov (.tmp 0)) (.q (some 5) none (.len (.tmp 4)) (.q (some 6) none (.mov (.tmp 0)) (.q (some 7) none (.len (.tmp 6)) (.q (some 8) none (.slc3 1 (.tmp 3) none (.tmp 5) (.tmp 7)) (.q (some 2) none (.mov (.tmp 8)) .done))))))) false 1 [2],
  .reg (.q (some 2) none (.mov (.const (.slice none 0 0))) .done) false 2 [0]
  ]
theorem c34_ok : cfgL Tryd.prog 34 = some (9, 3, c34.map Vc.Node.bare) := by kernel_rfl
/- strongbox/strongboxref03.place: entry 12 -/
def c35 : List Vc.Node := [
  .ret [.t 4],
  .ret [.t 4],
  .reg (.q (some 4) none (.mov (.const (.int .i64 (-1)))) .done) false 1 [4],
  .jmp 10,
  .reg (.q (some 10) none (.mov (.tmp 5)) (.q (some 11) none (.bin .add (.tmp 10) (.const (.int .i64 1))) (.q (some 5) none (.mov (.tmp 11)) .done))) false 3 [0, 1, 5],
  .ret [.t 4],
  .reg (.q (some 17) none (.mov (.tmp 5)) (.q (some 4) none (.mov (.tmp 17)) .done)) false 5 [4],
  .cnd (.tmp 16) 6 4,
  .reg (.q (some 12) none (.mov (.tmp 0)) (.q (some 13) none (.mov (.tmp 5)) (.q (some 14) none (.idxS (.tmp 12) (.tmp 13)) (.q (some 15) none (.mov (.tmp 1)) (.q (some 16) none (.bin .eql (.tmp 14) (.tmp 15)) .done))))) false 7 [0, 1, 5, 16],
  .cnd (.tmp 9) 8 2,
  .reg (.q (some 6) none (.mov (.tmp 5)) (.q (some 7) none (.mov (.tmp 0)) (.q (some 8) none (.lenT (.tmp 7)) (.q (some 9) none (.bin .lss (.tmp 6) (.tmp 8)) .done)))) false 9 [0, 1, 5, 9],
  .reg (.q (some 5) none (.mov (.const (.int .i64 0))) .done) false 10 [0, 1, 5],
  .reg (.q (some 4) none (.mov (.const (.int .i64 0))) .done) false 11 [0, 1]
  ]
theorem c35_ok : cfgL Tryd.prog 35 = some (18, 12, c35.map Vc.Node.bare) := by kernel_rfl
/- strongbox/text.Regroup: entry 33 -/
def c36 : List Vc.Node := [
  .ret [.t 8, .t 9],
  .ret [.t 8, .t 9],
  .reg (.q (some 103) none (.mov (.tmp 10)) (.q (some 8) none (.mov (.tmp 103)) (.q (some 9) none (.mov (.const (.int .i64 0))) .done))) false 1 [8, 9],
  .reg (.q (some 82) none (.mov (.tmp 10)) (.q (some 83) none (.mov (.tmp 15)) (.q (some 84) none (.mov (.tmp 2)) (.q (some 85) none (.mov (.tmp 12)) (.q (some 86) none (.bin .sub (.tmp 84) (.tmp 85)) (.q (some 87) none (.bin .shl (.tmp 83) (.tmp 86)) (.q (some 88) none (.cvi .u8 (.tmp 87)) (.l (some 89) none (.bldS 5 1 [(.tmp 88)]) [] (.l (some 90) none (.app 5 1 1 [(1, (.int .u8 0))] (.tmp 82) (.tmp 89)) [] (.q (some 10) none (.mov (.tmp 90)) .done)))))))))) false 2 [10],
  .ret [.t 8, .t 9],
  .reg (.q (some 8) none (.mov (.const (.slice none 0 0))) (.q (some 9) none (.mov (.const (.int .i64 3))) .done)) false 4 [8, 9],
  .cnd (.tmp 91) 5 2,
  .reg (.q (some 92) none (.mov (.tmp 3)) (.q (some 93) none (.not (.tmp 92)) (.q (some 94) none (.mov (.tmp 93)) (.q (some 95) (some (94, true)) (.mov (.tmp 12)) (.q (some 96) (some (94, true)) (.mov (.tmp 1)) (.q (some 97) (some (94, true)) (.bin .geq (.tmp 95) (.tmp 96)) (.q (some 98) (some (94, true)) (.mov (.tmp 97)) (.q (some 99) (some (98, false)) (.mov (.tmp 15)) (.q (some 100) (some (98, false)) (.bin .neq (.tmp 99) (.const (.int .i64 0))) (.q (some 101) (some (94, true)) (.pick (.tmp 98) (.const (.bool true)) (.tmp 100)) (.q (some 102) none (.pick (.tmp 94) (.tmp 101) (.const (.bool false))) (.q (some 91) none (.mov (.tmp 102)) .done)))))))))))) false 6 [10, 91],
  .cnd (.tmp 76) 3 7,
  .reg (.q (some 77) none (.mov (.tmp 3)) (.q (some 78) none (.mov (.tmp 77)) (.q (some 79) (some (78, true)) (.mov (.tmp 12)) (.q (some 80) (some (78, true)) (.bin .gtr (.tmp 79) (.const (.int .i64 0))) (.q (some 81) none (.pick (.tmp 78) (.tmp 80) (.const (.bool false))) (.q (some 76) none (.mov (.tmp 81)) .done)))))) false 8 [1, 2, 3, 10, 12, 15, 76],
  .reg (.q (some 71) none (.mov (.tmp 11)) (.q (some 72) none (.mov (.tmp 12)) (.q (some 73) none (.bin .shl (.const (.int .i64 1)) (.tmp 72)) (.q (some 74) none (.bin .sub (.tmp 73) (.const (.int .i64 1))) (.q (some 75) none (.bin .and (.tmp 71) (.tmp 74)) (.q (some 15) none (.mov (.tmp 75)) .done)))))) false 9 [1, 2, 3, 10, 12, 15],
  .jmp 25,
  .reg (.q (some 70) none (.bin .add (.tmp 32) (.const (.int .i64 1))) (.q (some 32) none (.mov (.tmp 70)) .done)) false 11 [1, 2, 3, 10, 11, 12, 30, 31, 32],
  .jmp 17,
  .reg (.q (some 54) none (.mov (.tmp 12)) (.q (some 55) none (.mov (.tmp 2)) (.q (some 56) none (.bin .sub (.tmp 54) (.tmp 55)) (.q (some 12) none (.mov (.tmp 56)) .done)))) false 13 [1, 2, 3, 10, 11, 12, 30, 31, 32],
  .reg (.q (some 57) none (.mov (.tmp 10)) (.q (some 58) none (.mov (.tmp 11)) (.q (some 59) none (.mov (.tmp 12)) (.q (some 60) none (.mov (.tmp 2)) (.q (some 61) none (.bin .sub (.tmp 59) (.tmp 60)) (.q (some 62) none (.bin .shr (.tmp 58) (.tmp 61)) (.q (some 63) none (.mov (.tmp 2)) (.q (some 64) none (.bin .shl (.const (.int .i64 1)) (.tmp 63)) (.q (some 65) none (.bin .sub (.tmp 64) (.const (.int .i64 1))) (.q (some 66) none (.bin .and (.tmp 62) (.tmp 65)) (.q (some 67) none (.cvi .u8 (.tmp 66)) (.l (some 68) none (.bldS 5 1 [(.tmp 67)]) [] (.l (some 69) none (.app 5 1 1 [(1, (.int .u8 0))] (.tmp 57) (.tmp 68)) [] (.q (some 10) none (.mov (.tmp 69)) .done)))))))))))))) true 14 [1, 2, 3, 10, 11, 12, 30, 31, 32],
  .cnd (.tmp 53) 15 12,
  .reg (.q (some 51) none (.mov (.tmp 12)) (.q (some 52) none (.mov (.tmp 2)) (.q (some 53) none (.bin .geq (.tmp 51) (.tmp 52)) .done))) false 16 [1, 2, 3, 10, 11, 12, 30, 31, 32, 53],
  .reg (.q (some 41) none (.mov (.tmp 11)) (.q (some 42) none (.mov (.tmp 1)) (.q (some 43) none (.bin .shl (.tmp 41) (.tmp 42)) (.q (some 44) none (.mov (.tmp 14)) (.q (some 45) none (.cvi .i64 (.tmp 44)) (.q (some 46) none (.bin .or (.tmp 43) (.tmp 45)) (.q (some 47) none (.bin .and (.tmp 46) (.const (.int .i64 65535))) (.q (some 48) none (.mov (.tmp 12)) (.q (some 49) none (.mov (.tmp 1)) (.q (some 50) none (.bin .add (.tmp 48) (.tmp 49)) (.q (some 11) none (.mov (.tmp 47)) (.q (some 12) none (.mov (.tmp 50)) .done)))))))))))) false 17 [1, 2, 3, 10, 11, 12, 30, 31, 32],
  .ret [.t 8, .t 9],
  .reg (.q (some 8) none (.mov (.const (.slice none 0 0))) (.q (some 9) none (.mov (.const (.int .i64 3))) .done)) false 19 [8, 9],
  .cnd (.tmp 40) 20 18,
  .reg (.q (some 36) none (.mov (.tmp 14)) (.q (some 37) none (.cvi .i64 (.tmp 36)) (.q (some 38) none (.mov (.tmp 1)) (.q (some 39) none (.bin .shr (.tmp 37) (.tmp 38)) (.q (some 40) none (.bin .neq (.tmp 39) (.const (.int .i64 0))) .done))))) false 21 [1, 2, 3, 10, 11, 12, 14, 30, 31, 32, 40],
  .reg (.q (some 34) none (.iadrS 1 (.tmp 30) (.tmp 32)) (.q (some 35) none (.ld1 (.tmp 34)) (.q (some 14) none (.mov (.tmp 35)) .done))) false 22 [1, 2, 3, 10, 11, 12, 14, 30, 31, 32],
  .cnd (.tmp 33) 23 10,
  .reg (.q (some 33) none (.bin .lss (.tmp 32) (.tmp 31)) .done) false 24 [1, 2, 3, 10, 11, 12, 30, 31, 32, 33],
  .reg (.q (some 30) none (.mov (.tmp 0)) (.q (some 31) none (.len (.tmp 30)) (.q (some 32) none (.mov (.const (.int .i64 0))) .done))) false 25 [1, 2, 3, 10, 11, 12, 30, 31, 32],
  .reg (.q (some 11) none (.mov (.const (.int .i64 0))) (.q (some 12) none (.mov (.const (.int .i64 0))) .done)) false 26 [0, 1, 2, 3, 10, 11, 12],
  .reg (.q (some 10) none (.mov (.const (.slice none 0 0))) .done) false 27 [0, 1, 2, 3, 10],
  .ret [.t 8, .t 9],
  .reg (.q (some 8) none (.mov (.const (.slice none 0 0))) (.q (some 9) none (.mov (.const (.int .i64 1))) .done)) false 29 [8, 9],
  .cnd (.tmp 29) 30 28,
  .reg (.q (some 16) none (.mov (.tmp 1)) (.q (some 17) none (.bin .lss (.tmp 16) (.const (.int .i64 1))) (.q (some 18) none (.mov (.tmp 17)) (.q (some 19) (some (18, false)) (.mov (.tmp 1)) (.q (some 20) (some (18, false)) (.bin .gtr (.tmp 19) (.const (.int .i64 8))) (.q (some 21) none (.pick (.tmp 18) (.const (.bool true)) (.tmp 20)) (.q (some 22) none (.mov (.tmp 21)) (.q (some 23) (some (22, false)) (.mov (.tmp 2)) (.q (some 24) (some (22, false)) (.bin .lss (.tmp 23) (.const (.int .i64 1))) (.q (some 25) none (.pick (.tmp 22) (.const (.bool true)) (.tmp 24)) (.q (some 26) none (.mov (.tmp 25)) (.q (some 27) (some (26, false)) (.mov (.tmp 2)) (.q (some 28) (some (26, false)) (.bin .gtr (.tmp 27) (.const (.int .i64 8))) (.q (some 29) none (.pick (.tmp 26) (.const (.bool true)) (.tmp 28)) .done)))))))))))))) false 31 [0, 1, 2, 3, 29],
  .reg (.q (some 8) none (.mov (.const (.slice none 0 0))) (.q (some 9) none (.mov (.const (.int .i64 0))) .done)) false 32 [0, 1, 2, 3]
  ]
theorem c36_ok : cfgL Tryd.prog 36 = some (104, 33, c36.map Vc.Node.bare) := by kernel_rfl
/- strongbox/text.fits: entry 3 -/
def c37 : List Vc.Node := [
  .ret [.t 4],
  .ret [.t 4],
  .reg (.q (some 5) none (.mov (.tmp 1)) (.q (some 6) none (.bin .geq (.tmp 5) (.const (.int .i64 2))) (.q (some 7) none (.mov (.tmp 6)) (.q (some 8) (some (7, true)) (.mov (.tmp 1)) (.q (some 9) (some (7, true)) (.bin .leq (.tmp 8) (.const (.int .i64 40))) (.q (some 10) none (.pick (.tmp 7) (.tmp 9) (.const (.bool false))) (.q (some 11) none (.mov (.tmp 10)) (.q (some 12) (some (11, true)) (.mov (.tmp 0)) (.q (some 13) (some (11, true)) (.bin .neq (.tmp 12) (.const (.int .i64 0))) (.q (some 14) (some (11, true)) (.mov (.tmp 13)) (.q (some 15) (some (14, false)) (.mov (.tmp 1)) (.q (some 16) (some (14, false)) (.bin .eql (.tmp 15) (.const (.int .i64 20))) (.q (some 17) (some (11, true)) (.pick (.tmp 14) (.const (.bool true)) (.tmp 16)) (.q (some 18) (some (11, true)) (.mov (.tmp 17)) (.q (some 19) (some (18, false)) (.mov (.tmp 1)) (.q (some 20) (some (18, false)) (.bin .eql (.tmp 19) (.const (.int .i64 32))) (.q (some 21) (some (11, true)) (.pick (.tmp 18) (.const (.bool true)) (.tmp 20)) (.q (some 22) none (.pick (.tmp 11) (.tmp 21) (.const (.bool false))) (.q (some 4) none (.mov (.tmp 22)) .done))))))))))))))))))) false 1 [4],
  .reg (.q (some 4) none (.mov (.const (.bool false))) .done) false 2 [0, 1]
  ]
theorem c37_ok : cfgL Tryd.prog 37 = some (23, 3, c37.map Vc.Node.bare) := by kernel_rfl
/- strongbox/strongboxref03.Regroup: entry 59 -/
def c38 : List Vc.Node := [
  .ret [.t 8, .t 9],
  .ret [.t 8, .t 9],
  .reg (.q (some 131) none (.mov (.tmp 12)) (.q (some 8) none (.mov (.tmp 131)) (.q (some 9) none (.mov (.const (.int .i64 0))) .done))) false 1 [8, 9],
  .jmp 10,
  .reg (.q (some 124) none (.mov (.tmp 13)) (.q (some 125) none (.bin .add (.tmp 124) (.const (.int .i64 1))) (.q (some 13) none (.mov (.tmp 125)) .done))) false 3 [11, 12, 13],
  .ret [.t 8, .t 9],
  .reg (.q (some 8) none (.mov (.const (.slice none 0 0))) (.q (some 9) none (.mov (.const (.int .i64 3))) .done)) false 5 [8, 9],
  .cnd (.tmp 130) 6 4,
  .reg (.q (some 126) none (.mov (.tmp 11)) (.q (some 127) none (.mov (.tmp 13)) (.q (some 128) none (.iadrS 1 (.tmp 126) (.tmp 127)) (.q (some 129) none (.ld1 (.tmp 128)) (.q (some 130) none (.bin .neq (.tmp 129) (.const (.int .u8 0))) .done))))) false 7 [11, 12, 13, 130],
  .cnd (.tmp 123) 8 2,
  .reg (.q (some 120) none (.mov (.tmp 13)) (.q (some 121) none (.mov (.tmp 11)) (.q (some 122) none (.len (.tmp 121)) (.q (some 123) none (.bin .lss (.tmp 120) (.tmp 122)) .done)))) false 9 [11, 12, 13, 123],
  .ret [.t 8, .t 9],
  .reg (.q (some 8) none (.mov (.const (.slice none 0 0))) (.q (some 9) none (.mov (.const (.int .i64 3))) .done)) false 11 [8, 9],
  .cnd (.tmp 119) 12 10,
  .reg (.q (some 117) none (.mov (.tmp 16)) (.q (some 118) none (.mov (.tmp 1)) (.q (some 119) none (.bin .geq (.tmp 117) (.tmp 118)) .done))) false 13 [11, 12, 13, 119],
  .cnd (.tmp 116) 14 2,
  .reg (.q (some 115) none (.mov (.tmp 3)) (.q (some 116) none (.not (.tmp 115)) .done)) false 15 [1, 11, 12, 13, 16, 116],
  .reg (.q (some 111) none (.mov (.tmp 12)) (.q (some 112) none (.mov (.tmp 17)) (.l (some 113) none (.bldS 5 1 [(.tmp 112)]) [] (.l (some 114) none (.app 5 1 1 [(1, (.int .u8 0))] (.tmp 111) (.tmp 113)) [] (.q (some 12) none (.mov (.tmp 114)) .done))))) false 16 [1, 3, 11, 12, 13, 16],
  .jmp 25,
  .reg (.q (some 93) none (.mov (.tmp 18)) (.q (some 94) none (.bin .add (.tmp 93) (.const (.int .i64 1))) (.q (some 18) none (.mov (.tmp 94)) .done))) false 18 [1, 2, 3, 11, 12, 13, 16, 17, 18],
  .reg (.q (some 103) none (.mov (.tmp 17)) (.q (some 104) none (.mov (.tmp 11)) (.q (some 105) none (.mov (.tmp 13)) (.q (some 106) none (.mov (.tmp 18)) (.q (some 107) none (.bin .add (.tmp 105) (.tmp 106)) (.q (some 108) none (.iadrS 1 (.tmp 104) (.tmp 107)) (.q (some 109) none (.ld1 (.tmp 108)) (.q (some 110) none (.bin .add (.tmp 103) (.tmp 109)) (.q (some 17) none (.mov (.tmp 110)) .done))))))))) false 19 [1, 2, 3, 11, 12, 13, 16, 17, 18],
  .cnd (.tmp 102) 20 19,
  .reg (.q (some 97) none (.mov (.tmp 13)) (.q (some 98) none (.mov (.tmp 18)) (.q (some 99) none (.bin .add (.tmp 97) (.tmp 98)) (.q (some 100) none (.mov (.tmp 11)) (.q (some 101) none (.len (.tmp 100)) (.q (some 102) none (.bin .lss (.tmp 99) (.tmp 101)) .done)))))) false 21 [1, 2, 3, 11, 12, 13, 16, 17, 18, 102],
  .reg (.q (some 95) none (.mov (.tmp 17)) (.q (some 96) none (.bin .mul (.tmp 95) (.const (.int .u8 2))) (.q (some 17) none (.mov (.tmp 96)) .done))) false 22 [1, 2, 3, 11, 12, 13, 16, 17, 18],
  .cnd (.tmp 92) 23 17,
  .reg (.q (some 90) none (.mov (.tmp 18)) (.q (some 91) none (.mov (.tmp 2)) (.q (some 92) none (.bin .lss (.tmp 90) (.tmp 91)) .done))) false 24 [1, 2, 3, 11, 12, 13, 16, 17, 18, 92],
  .reg (.q (some 18) none (.mov (.const (.int .i64 0))) .done) false 25 [1, 2, 3, 11, 12, 13, 16, 17, 18],
  .reg (.q (some 17) none (.mov (.const (.int .u8 0))) .done) false 26 [1, 2, 3, 11, 12, 13, 16, 17],
  .cnd (.tmp 89) 27 16,
  .reg (.q (some 85) none (.mov (.tmp 3)) (.q (some 86) none (.mov (.tmp 85)) (.q (some 87) (some (86, true)) (.mov (.tmp 16)) (.q (some 88) (some (86, true)) (.bin .gtr (.tmp 87) (.const (.int .i64 0))) (.q (some 89) none (.pick (.tmp 86) (.tmp 88) (.const (.bool false))) .done))))) false 28 [1, 2, 3, 11, 12, 13, 16, 89],
  .reg (.q (some 81) none (.mov (.tmp 11)) (.q (some 82) none (.len (.tmp 81)) (.q (some 83) none (.mov (.tmp 13)) (.q (some 84) none (.bin .sub (.tmp 82) (.tmp 83)) (.q (some 16) none (.mov (.tmp 84)) .done))))) false 29 [1, 2, 3, 11, 12, 13, 16],
  .jmp 42,
  .reg (.q (some 78) none (.mov (.tmp 13)) (.q (some 79) none (.mov (.tmp 2)) (.q (some 80) none (.bin .add (.tmp 78) (.tmp 79)) (.q (some 13) none (.mov (.tmp 80)) .done)))) false 31 [1, 2, 3, 11, 12, 13],
  .reg (.q (some 74) none (.mov (.tmp 12)) (.q (some 75) none (.mov (.tmp 14)) (.l (some 76) none (.bldS 5 1 [(.tmp 75)]) [] (.l (some 77) none (.app 5 1 1 [(1, (.int .u8 0))] (.tmp 74) (.tmp 76)) [] (.q (some 12) none (.mov (.tmp 77)) .done))))) false 32 [1, 2, 3, 11, 12, 13],
  .jmp 38,
  .reg (.q (some 63) none (.mov (.tmp 15)) (.q (some 64) none (.bin .add (.tmp 63) (.const (.int .i64 1))) (.q (some 15) none (.mov (.tmp 64)) .done))) false 34 [1, 2, 3, 11, 12, 13, 14, 15],
  .reg (.q (some 65) none (.mov (.tmp 14)) (.q (some 66) none (.bin .mul (.tmp 65) (.const (.int .u8 2))) (.q (some 67) none (.mov (.tmp 11)) (.q (some 68) none (.mov (.tmp 13)) (.q (some 69) none (.mov (.tmp 15)) (.q (some 70) none (.bin .add (.tmp 68) (.tmp 69)) (.q (some 71) none (.iadrS 1 (.tmp 67) (.tmp 70)) (.q (some 72) none (.ld1 (.tmp 71)) (.q (some 73) none (.bin .add (.tmp 66) (.tmp 72)) (.q (some 14) none (.mov (.tmp 73)) .done)))))))))) false 35 [1, 2, 3, 11, 12, 13, 14, 15],
  .cnd (.tmp 62) 36 33,
  .reg (.q (some 60) none (.mov (.tmp 15)) (.q (some 61) none (.mov (.tmp 2)) (.q (some 62) none (.bin .lss (.tmp 60) (.tmp 61)) .done))) false 37 [1, 2, 3, 11, 12, 13, 14, 15, 62],
  .reg (.q (some 15) none (.mov (.const (.int .i64 0))) .done) false 38 [1, 2, 3, 11, 12, 13, 14, 15],
  .reg (.q (some 14) none (.mov (.const (.int .u8 0))) .done) false 39 [1, 2, 3, 11, 12, 13, 14],
  .cnd (.tmp 59) 40 30,
  .reg (.q (some 54) none (.mov (.tmp 13)) (.q (some 55) none (.mov (.tmp 2)) (.q (some 56) none (.bin .add (.tmp 54) (.tmp 55)) (.q (some 57) none (.mov (.tmp 11)) (.q (some 58) none (.len (.tmp 57)) (.q (some 59) none (.bin .leq (.tmp 56) (.tmp 58)) .done)))))) false 41 [1, 2, 3, 11, 12, 13, 59],
  .reg (.q (some 13) none (.mov (.const (.int .i64 0))) .done) false 42 [1, 2, 3, 11, 12, 13],
  .reg (.q (some 12) none (.mov (.const (.slice none 0 0))) .done) false 43 [1, 2, 3, 11, 12],
  .reg (.q (some 51) none (.mov (.tmp 0)) (.q (some 52) none (.mov (.tmp 1)) (.l (some 53) none (.call 52 [(.tmp 51), (.tmp 52)]) [] (.q (some 11) none (.mov (.tmp 53)) .done)))) false 44 [1, 2, 3, 11],
  .jmp 53,
  .reg (.q (some 37) none (.mov (.tmp 10)) (.q (some 38) none (.bin .add (.tmp 37) (.const (.int .i64 1))) (.q (some 10) none (.mov (.tmp 38)) .done))) false 46 [0, 1, 2, 3, 10],
  .ret [.t 8, .t 9],
  .reg (.q (some 8) none (.mov (.const (.slice none 0 0))) (.q (some 9) none (.mov (.const (.int .i64 3))) .done)) false 48 [8, 9],
  .cnd (.tmp 50) 49 47,
  .reg (.q (some 39) none (.mov (.tmp 1)) (.q (some 40) none (.bin .lss (.tmp 39) (.const (.int .i64 8))) (.q (some 41) none (.mov (.tmp 40)) (.q (some 42) (some (41, true)) (.mov (.tmp 0)) (.q (some 43) (some (41, true)) (.mov (.tmp 10)) (.q (some 44) (some (41, true)) (.iadrS 1 (.tmp 42) (.tmp 43)) (.q (some 45) (some (41, true)) (.ld1 (.tmp 44)) (.q (some 46) (some (41, true)) (.mov (.tmp 1)) (.q (some 47) (some (41, true)) (.cvi .u64 (.tmp 46)) (.q (some 48) (some (41, true)) (.bin .shr (.tmp 45) (.tmp 47)) (.q (some 49) (some (41, true)) (.bin .neq (.tmp 48) (.const (.int .u8 0))) (.q (some 50) none (.pick (.tmp 41) (.tmp 49) (.const (.bool false))) .done)))))))))))) false 50 [0, 1, 2, 3, 10, 50],
  .cnd (.tmp 36) 51 45,
  .reg (.q (some 33) none (.mov (.tmp 10)) (.q (some 34) none (.mov (.tmp 0)) (.q (some 35) none (.len (.tmp 34)) (.q (some 36) none (.bin .lss (.tmp 33) (.tmp 35)) .done)))) false 52 [0, 1, 2, 3, 10, 36],
  .reg (.q (some 10) none (.mov (.const (.int .i64 0))) .done) false 53 [0, 1, 2, 3, 10],
  .ret [.t 8, .t 9],
  .reg (.q (some 8) none (.mov (.const (.slice none 0 0))) (.q (some 9) none (.mov (.const (.int .i64 1))) .done)) false 55 [8, 9],
  .cnd (.tmp 32) 56 54,
  .reg (.q (some 19) none (.mov (.tmp 1)) (.q (some 20) none (.bin .lss (.tmp 19) (.const (.int .i64 1))) (.q (some 21) none (.mov (.tmp 20)) (.q (some 22) (some (21, false)) (.mov (.tmp 1)) (.q (some 23) (some (21, false)) (.bin .gtr (.tmp 22) (.const (.int .i64 8))) (.q (some 24) none (.pick (.tmp 21) (.const (.bool true)) (.tmp 23)) (.q (some 25) none (.mov (.tmp 24)) (.q (some 26) (some (25, false)) (.mov (.tmp 2)) (.q (some 27) (some (25, false)) (.bin .lss (.tmp 26) (.const (.int .i64 1))) (.q (some 28) none (.pick (.tmp 25) (.const (.bool true)) (.tmp 27)) (.q (some 29) none (.mov (.tmp 28)) (.q (some 30) (some (29, false)) (.mov (.tmp 2)) (.q (some 31) (some (29, false)) (.bin .gtr (.tmp 30) (.const (.int .i64 8))) (.q (some 32) none (.pick (.tmp 29) (.const (.bool true)) (.tmp 31)) .done)))))))))))))) false 57 [0, 1, 2, 3, 32],
  .reg (.q (some 8) none (.mov (.const (.slice none 0 0))) (.q (some 9) none (.mov (.const (.int .i64 0))) .done)) false 58 [0, 1, 2, 3]
  ]
theorem c38_ok : cfgL Tryd.prog 38 = some (132, 59, c38.map Vc.Node.bare) := by kernel_rfl
/- strongbox/strongboxref03.fits: entry 7 -/
def c39 : List Vc.Node := [
  .ret [.t 4],
  .ret [.t 4],
  .reg (.q (some 13) none (.mov (.tmp 1)) (.q (some 14) none (.bin .geq (.tmp 13) (.const (.int .i64 2))) (.q (some 15) none (.mov (.tmp 14)) (.q (some 16) (some (15, true)) (.mov (.tmp 1)) (.q (some 17) (some (15, true)) (.bin .leq (.tmp 16) (.const (.int .i64 40))) (.q (some 18) none (.pick (.tmp 15) (.tmp 17) (.const (.bool false))) (.q (some 4) none (.mov (.tmp 18)) .done))))))) false 1 [4],
  .ret [.t 4],
  .reg (.q (some 7) none (.mov (.tmp 1)) (.q (some 8) none (.bin .eql (.tmp 7) (.const (.int .i64 20))) (.q (some 9) none (.mov (.tmp 8)) (.q (some 10) (some (9, false)) (.mov (.tmp 1)) (.q (some 11) (some (9, false)) (.bin .eql (.tmp 10) (.const (.int .i64 32))) (.q (some 12) none (.pick (.tmp 9) (.const (.bool true)) (.tmp 11)) (.q (some 4) none (.mov (.tmp 12)) .done))))))) false 3 [4],
  .cnd (.tmp 6) 4 2,
  .reg (.q (some 5) none (.mov (.tmp 0)) (.q (some 6) none (.bin .eql (.tmp 5) (.const (.int .i64 0))) .done)) false 5 [1, 6],
  .reg (.q (some 4) none (.mov (.const (.bool false))) .done) false 6 [0, 1]
  ]
theorem c39_ok : cfgL Tryd.prog 39 = some (19, 7, c39.map Vc.Node.bare) := by kernel_rfl
/- strongbox/text.descs: entry 3 -/
def c40 : List Vc.Node := [
  .ret [.cN 0 6],
  .ret [.cN 0 6],
  .reg (.q (some 1) none (.bld [.x 1 (.const (.int .u64 1056006543753)), .x 1 (.const (.int .u64 730107360018)), .x 1 (.const (.int .u64 118834127661)), .x 1 (.const (.int .u64 236335490938)), .x 1 (.const (.int .u64 430795026429))]) (.q (some 2) none (.bld [.x 1 (.const (.int .i64 35)), .x 5 (.tmp 1)]) (.l none none (.stN 6 (.tmp 0) (.tmp 2)) [] .done))) false 1 [0],
  .reg (.l (some 0) none (.alloc 55 [(1, (.int .i64 0)), (5, (.int .u64 0))]) [] .done) false 2 [0]
  ]
theorem c40_ok : cfgL Tryd.prog 40 = some (3, 3, c40.map Vc.Node.bare) := by kernel_rfl
/- bytes.Repeat: entry 33 -/
def c41 : List Vc.Node := [
  .ret [.t 4],
  .ret [.t 4],
  .reg (.q (some 76) none (.mov (.tmp 9)) (.q (some 4) none (.mov (.tmp 76)) .done)) false 1 [4],
  .jmp 7,
  .reg (.q (some 67) none (.mov (.tmp 10)) (.q (some 68) none (.mov (.tmp 9)) (.q (some 69) none (.mov (.tmp 10)) (.q (some 70) none (.slcS 1 (.tmp 68) (some (.tmp 69)) none) (.q (some 71) none (.mov (.tmp 9)) (.q (some 72) none (.mov (.tmp 11)) (.q (some 73) none (.slcS 1 (.tmp 71) none (some (.tmp 72))) (.l (some 74) none (.cpy 1 (.tmp 70) (.tmp 73)) [] (.q (some 75) none (.bin .add (.tmp 67) (.tmp 74)) (.q (some 10) none (.mov (.tmp 75)) .done)))))))))) true 3 [7, 8, 9, 10],
  .reg (.q (some 64) none (.mov (.tmp 10)) (.q (some 65) none (.mov (.tmp 8)) (.q (some 66) none (.min [(.tmp 64), (.tmp 65)]) (.q (some 11) none (.mov (.tmp 66)) .done)))) false 4 [7, 8, 9, 10, 11],
  .cnd (.tmp 63) 5 2,
  .reg (.q (some 61) none (.mov (.tmp 10)) (.q (some 62) none (.mov (.tmp 7)) (.q (some 63) none (.bin .lss (.tmp 61) (.tmp 62)) .done))) false 6 [7, 8, 9, 10, 63],
  .reg (.q (some 58) none (.mov (.tmp 9)) (.q (some 59) none (.mov (.tmp 0)) (.l (some 60) none (.cpy 1 (.tmp 58) (.tmp 59)) [] (.q (some 10) none (.mov (.tmp 60)) .done)))) false 7 [7, 8, 9, 10],
  .reg (.q (some 53) none (.mov (.tmp 7)) (.l (some 54) none (.callx 54 [(.tmp 53)]) [] (.q (some 55) none (.mov (.tmp 7)) (.q (some 56) none (.mov (.tmp 7)) (.q (some 57) none (.slc3 1 (.tmp 54) none (.tmp 55) (.tmp 56)) (.q (some 9) none (.mov (.tmp 57)) .done)))))) false 8 [0, 7, 8, 9],
  .reg (.q (some 51) none (.mov (.tmp 0)) (.q (some 52) none (.len (.tmp 51)) (.q (some 8) none (.mov (.tmp 52)) .done))) false 9 [0, 7, 8],
  .cnd (.tmp 50) 10 9,
  .reg (.q (some 49) none (.mov (.tmp 8)) (.q (some 50) none (.bin .eql (.tmp 49) (.const (.int .i64 0))) .done)) false 11 [0, 7, 8, 50],
  .reg (.q (some 43) none (.mov (.tmp 0)) (.q (some 44) none (.len (.tmp 43)) (.q (some 45) none (.bin .quo (.const (.int .i64 8192)) (.tmp 44)) (.q (some 46) none (.mov (.tmp 0)) (.q (some 47) none (.len (.tmp 46)) (.q (some 48) none (.bin .mul (.tmp 45) (.tmp 47)) (.q (some 8) none (.mov (.tmp 48)) .done))))))) false 12 [0, 7, 8],
  .cnd (.tmp 42) 13 9,
  .reg (.q (some 41) none (.mov (.tmp 8)) (.q (some 42) none (.bin .gtr (.tmp 41) (.const (.int .i64 8192))) .done)) false 14 [0, 7, 8, 42],
  .reg (.q (some 40) none (.mov (.tmp 7)) (.q (some 8) none (.mov (.tmp 40)) .done)) false 15 [0, 7, 8],
  .ret [.t 4],
  .reg (.l (some 39) none (.bldS 5 1 []) [] (.q (some 4) none (.mov (.tmp 39)) .done)) false 17 [4],
  .cnd (.tmp 38) 18 16,
  .reg (.q (some 36) none (.mov (.tmp 0)) (.q (some 37) none (.len (.tmp 36)) (.q (some 38) none (.bin .eql (.tmp 37) (.const (.int .i64 0))) .done))) false 19 [0, 7, 38],
  .reg (.q (some 34) none (.mov (.tmp 6)) (.q (some 35) none (.cvi .i64 (.tmp 34)) (.q (some 7) none (.mov (.tmp 35)) .done))) false 20 [0, 7],
  .reg (.q (some 33) none (.mif 9 (.const (.string ⟨#[98, 121, 116, 101, 115, 58, 32, 82, 101, 112, 101, 97, 116, 32, 111, 117, 116, 112, 117, 116, 32, 108, 101, 110, 103, 116, 104, 32, 111, 118, 101, 114, 102, 108, 111, 119]⟩))) (.l none none (.pan (.tmp 33)) [] .done)) false 21 [0, 6],
  .cnd (.tmp 32) 22 21,
  .reg (.q (some 27) none (.mov (.tmp 5)) (.q (some 28) none (.bin .gtr (.tmp 27) (.const (.int .u64 0))) (.q (some 29) none (.mov (.tmp 28)) (.q (some 30) (some (29, false)) (.mov (.tmp 6)) (.q (some 31) (some (29, false)) (.bin .gtr (.tmp 30) (.const (.int .u64 9223372036854775807))) (.q (some 32) none (.pick (.tmp 29) (.const (.bool true)) (.tmp 31)) .done)))))) false 23 [0, 6, 32],
  .reg (.q (some 19) none (.mov (.tmp 0)) (.q (some 20) none (.len (.tmp 19)) (.q (some 21) none (.cvi .u64 (.tmp 20)) (.q (some 22) none (.mov (.tmp 1)) (.q (some 23) none (.cvi .u64 (.tmp 22)) (.l (some 24) none (.call 53 [(.tmp 21), (.tmp 23)]) [] (.q (some 18) none (.mov (.tmp 24)) (.q (some 25) none (.ext 0 (.tmp 18)) (.q (some 26) none (.ext 1 (.tmp 18)) (.q (some 5) none (.mov (.tmp 25)) (.q (some 6) none (.mov (.tmp 26)) .done))))))))))) false 24 [0, 5, 6],
  .reg (.q (some 17) none (.mif 9 (.const (.string ⟨#[98, 121, 116, 101, 115, 58, 32, 110, 101, 103, 97, 116, 105, 118, 101, 32, 82, 101, 112, 101, 97, 116, 32, 99, 111, 117, 110, 116]⟩))) (.l none none (.pan (.tmp 17)) [] .done)) false 25 [0, 1],
  .cnd (.tmp 16) 26 25,
  .reg (.q (some 15) none (.mov (.tmp 1)) (.q (some 16) none (.bin .lss (.tmp 15) (.const (.int .i64 0))) .done)) false 27 [0, 1, 16],
  .ret [.t 4],
  .reg (.l (some 14) none (.bldS 5 1 []) [] (.q (some 4) none (.mov (.tmp 14)) .done)) false 29 [4],
  .cnd (.tmp 13) 30 28,
  .reg (.q (some 12) none (.mov (.tmp 1)) (.q (some 13) none (.bin .eql (.tmp 12) (.const (.int .i64 0))) .done)) false 31 [0, 1, 13],
  .reg (.q (some 4) none (.mov (.const (.slice none 0 0))) .done) false 32 [0, 1]
  ]
theorem c41_ok : cfgL Tryd.prog 41 = some (77, 33, c41.map Vc.Node.bare) := by kernel_rfl
/- slices.Backward[[]byte,byte]: entry 3 -/
def c42 : List Vc.Node := [
  .ret [.t 2],
  .ret [.t 2],
  .reg (.q (some 3) none (.mkF 55 [] [(.tmp 1)]) (.q (some 2) none (.mov (.tmp 3)) .done)) false 1 [2],
  .reg (.l (some 1) none (.box 22 (.tmp 0)) [] (.q (some 2) none (.mov (.const .nilFunc)) .done)) false 2 [1]
  ]
theorem c42_ok : cfgL Tryd.prog 42 = some (4, 3, c42.map Vc.Node.bare) := by kernel_rfl
/- strongbox/text.turned: entry 5 -/
def c44 : List Vc.Node := [
  .ret [.t 2],
  .ret [.t 2],
  .reg (.q (some 8) none (.mov (.tmp 3)) (.q (some 2) none (.mov (.tmp 8)) .done)) false 1 [2],
  .reg (.q (some 6) none (.mov (.tmp 3)) (.l (some 7) none (.call 56 [(.tmp 6)]) [] .done)) false 2 [3],
  .reg (.q (some 4) none (.mov (.tmp 0)) (.l (some 5) none (.call 29 [(.tmp 4)]) [] (.q (some 3) none (.mov (.tmp 5)) .done))) false 3 [3],
  .reg (.q (some 2) none (.mov (.const (.slice none 0 0))) .done) false 4 [0]
  ]
theorem c44_ok : cfgL Tryd.prog 44 = some (9, 5, c44.map Vc.Node.bare) := by kernel_rfl
/- (*strings.Builder).WriteByte: entry 5 -/
def c45 : List Vc.Node := [
  .ret [.t 4],
  .ret [.t 4],
  .reg (.q (some 4) none (.mov (.const .nilIface)) .done) false 1 [4],
  .reg (.q (some 7) none (.mov (.tmp 0)) (.q (some 8) none (.mov (.tmp 0)) (.q (some 9) none (.nc (.tmp 8)) (.q (some 10) none (.fadr 1 (.tmp 9)) (.q (some 11) none (.ld1 (.tmp 10)) (.q (some 12) none (.mov (.tmp 1)) (.l (some 13) none (.bldS 5 1 [(.tmp 12)]) [] (.l (some 14) none (.app 5 1 1 [(1, (.int .u8 0))] (.tmp 11) (.tmp 13)) [] (.q (some 15) none (.nc (.tmp 7)) (.q (some 16) none (.fadr 1 (.tmp 15)) (.l none none (.st1 (.tmp 16) (.tmp 14)) [] .done))))))))))) false 2 [],
  .reg (.q (some 5) none (.mov (.tmp 0)) (.l (some 6) none (.call 57 [(.tmp 5)]) [] .done)) false 3 [0, 1],
  .reg (.q (some 4) none (.mov (.const .nilIface)) .done) false 4 [0, 1]
  ]
theorem c45_ok : cfgL Tryd.prog 45 = some (17, 5, c45.map Vc.Node.bare) := by kernel_rfl
/- (*strings.Builder).String: entry 3 -/
def c46 : List Vc.Node := [
  .ret [.t 2],
  .ret [.t 2],
  .reg (.q (some 3) none (.mov (.tmp 0)) (.q (some 4) none (.nc (.tmp 3)) (.q (some 5) none (.fadr 1 (.tmp 4)) (.q (some 6) none (.ld1 (.tmp 5)) (.q (some 8) none (.mov (.tmp 0)) (.q (some 9) none (.nc (.tmp 8)) (.q (some 10) none (.fadr 1 (.tmp 9)) (.q (some 11) none (.ld1 (.tmp 10)) (.q (some 12) none (.len (.tmp 11)) (.l (some 7) none (.bix .unsafeSliceData [22] 87 [false] [(.tmp 6)]) [⟨11, none, (.ld1 (.tmp 10))⟩] (.l (some 13) none (.bix .unsafeString [87, 3] 9 [false, false] [(.tmp 7), (.tmp 12)]) [] (.q (some 2) none (.mov (.tmp 13)) .done)))))))))))) true 1 [2],
  .reg (.q (some 2) none (.mov (.const (.string ⟨#[]⟩))) .done) false 2 [0]
  ]
theorem c46_ok : cfgL Tryd.prog 46 = some (14, 3, c46.map Vc.Node.bare) := by kernel_rfl
/- strongbox/strongboxref03.step: entry 15 -/
def c47 : List Vc.Node := [
  .ret [.t 4],
  .ret [.t 4],
  .reg (.q (some 31) none (.mov (.tmp 0)) (.q (some 4) none (.mov (.tmp 31)) .done)) false 1 [4],
  .jmp 10,
  .reg (.q (some 19) none (.mov (.tmp 7)) (.q (some 20) none (.bin .add (.tmp 19) (.const (.int .i64 1))) (.q (some 7) none (.mov (.tmp 20)) .done))) false 3 [0, 5, 6, 7],
  .reg (.q (some 29) none (.mov (.tmp 6)) (.q (some 30) none (.bin .quo (.tmp 29) (.const (.int .u64 2))) (.q (some 6) none (.mov (.tmp 30)) .done))) false 4 [0, 5, 6, 7],
  .reg (.q (some 24) none (.mov (.tmp 0)) (.q (some 25) none (.mov (.tmp 7)) (.q (some 26) none (.iadrA 5 1 (.tmp 5) (.tmp 25)) (.q (some 27) none (.ld1 (.tmp 26)) (.q (some 28) none (.bin .xor (.tmp 24) (.tmp 27)) (.q (some 0) none (.mov (.tmp 28)) .done)))))) false 5 [0, 5, 6, 7],
  .cnd (.tmp 23) 6 5,
  .reg (.q (some 21) none (.mov (.tmp 6)) (.q (some 22) none (.bin .rem (.tmp 21) (.const (.int .u64 2))) (.q (some 23) none (.bin .eql (.tmp 22) (.const (.int .u64 1))) .done))) false 7 [0, 5, 6, 7, 23],
  .cnd (.tmp 18) 8 2,
  .reg (.q (some 17) none (.mov (.tmp 7)) (.q (some 18) none (.bin .lss (.tmp 17) (.const (.int .i64 5))) .done)) false 9 [0, 5, 6, 7, 18],
  .reg (.q (some 7) none (.mov (.const (.int .i64 0))) .done) false 10 [0, 5, 6, 7],
  .reg (.q (some 11) none (.mov (.tmp 0)) (.q (some 12) none (.bin .rem (.tmp 11) (.const (.int .u64 33554432))) (.q (some 13) none (.bin .mul (.tmp 12) (.const (.int .u64 32))) (.q (some 14) none (.mov (.tmp 1)) (.q (some 15) none (.cvi .u64 (.tmp 14)) (.q (some 16) none (.bin .xor (.tmp 13) (.tmp 15)) (.q (some 0) none (.mov (.tmp 16)) .done))))))) false 11 [0, 5, 6],
  .reg (.q (some 9) none (.mov (.tmp 0)) (.q (some 10) none (.bin .quo (.tmp 9) (.const (.int .u64 33554432))) (.q (some 6) none (.mov (.tmp 10)) .done))) false 12 [0, 1, 5, 6],
  .reg (.q (some 8) none (.bld [.x 1 (.const (.int .u64 996825010)), .x 1 (.const (.int .u64 642813549)), .x 1 (.const (.int .u64 513874426)), .x 1 (.const (.int .u64 1027748829)), .x 1 (.const (.int .u64 705979059))]) (.l (some 5) none (.alloc 53 [(5, (.int .u64 0))]) [] (.l none none (.stN 5 (.tmp 5) (.tmp 8)) [] .done))) false 13 [0, 1, 5],
  .reg (.q (some 4) none (.mov (.const (.int .u64 0))) .done) false 14 [0, 1]
  ]
theorem c47_ok : cfgL Tryd.prog 47 = some (32, 15, c47.map Vc.Node.bare) := by kernel_rfl
/- internal/stringslite.IndexByte: entry 3 -/
def c51 : List Vc.Node := [
  .ret [.t 4],
  .ret [.t 4],
  .reg (.q (some 5) none (.mov (.tmp 0)) (.q (some 6) none (.mov (.tmp 1)) (.l (some 7) none (.callx 63 [(.tmp 5), (.tmp 6)]) [] (.q (some 4) none (.mov (.tmp 7)) .done)))) false 1 [4],
  .reg (.q (some 4) none (.mov (.const (.int .i64 0))) .done) false 2 [0, 1]
  ]
theorem c51_ok : cfgL Tryd.prog 51 = some (8, 3, c51.map Vc.Node.bare) := by kernel_rfl
/- strongbox/strongboxref03.bits: entry 15 -/
def c52 : List Vc.Node := [
  .ret [.t 4],
  .ret [.t 4],
  .reg (.q (some 31) none (.mov (.tmp 5)) (.q (some 4) none (.mov (.tmp 31)) .done)) false 1 [4],
  .jmp 12,
  .reg (.q (some 12) none (.mov (.tmp 6)) (.q (some 13) none (.bin .add (.tmp 12) (.const (.int .i64 1))) (.q (some 6) none (.mov (.tmp 13)) .done))) false 3 [0, 1, 5, 6],
  .jmp 9,
  .reg (.q (some 18) none (.mov (.tmp 7)) (.q (some 19) none (.bin .sub (.tmp 18) (.const (.int .i64 1))) (.q (some 7) none (.mov (.tmp 19)) .done))) false 5 [0, 1, 5, 6, 7],
  .reg (.q (some 20) none (.mov (.tmp 5)) (.q (some 21) none (.mov (.tmp 0)) (.q (some 22) none (.mov (.tmp 6)) (.q (some 23) none (.iadrS 1 (.tmp 21) (.tmp 22)) (.q (some 24) none (.ld1 (.tmp 23)) (.q (some 25) none (.mov (.tmp 7)) (.q (some 26) none (.cvi .u64 (.tmp 25)) (.q (some 27) none (.bin .shr (.tmp 24) (.tmp 26)) (.q (some 28) none (.bin .and (.tmp 27) (.const (.int .u8 1))) (.l (some 29) none (.bldS 5 1 [(.tmp 28)]) [] (.l (some 30) none (.app 5 1 1 [(1, (.int .u8 0))] (.tmp 20) (.tmp 29)) [] (.q (some 5) none (.mov (.tmp 30)) .done)))))))))))) false 6 [0, 1, 5, 6, 7],
  .cnd (.tmp 17) 7 4,
  .reg (.q (some 16) none (.mov (.tmp 7)) (.q (some 17) none (.bin .geq (.tmp 16) (.const (.int .i64 0))) .done)) false 8 [0, 1, 5, 6, 7, 17],
  .reg (.q (some 14) none (.mov (.tmp 1)) (.q (some 15) none (.bin .sub (.tmp 14) (.const (.int .i64 1))) (.q (some 7) none (.mov (.tmp 15)) .done))) false 9 [0, 1, 5, 6, 7],
  .cnd (.tmp 11) 10 2,
  .reg (.q (some 8) none (.mov (.tmp 6)) (.q (some 9) none (.mov (.tmp 0)) (.q (some 10) none (.len (.tmp 9)) (.q (some 11) none (.bin .lss (.tmp 8) (.tmp 10)) .done)))) false 11 [0, 1, 5, 6, 11],
  .reg (.q (some 6) none (.mov (.const (.int .i64 0))) .done) false 12 [0, 1, 5, 6],
  .reg (.q (some 5) none (.mov (.const (.slice none 0 0))) .done) false 13 [0, 1, 5],
  .reg (.q (some 4) none (.mov (.const (.slice none 0 0))) .done) false 14 [0, 1]
  ]
theorem c52_ok : cfgL Tryd.prog 52 = some (32, 15, c52.map Vc.Node.bare) := by kernel_rfl
/- math/bits.Mul: entry 8 -/
def c53 : List Vc.Node := [
  .ret [.t 4, .t 5],
  .ret [.t 4, .t 5],
  .reg (.q (some 28) none (.mov (.tmp 8)) (.q (some 29) none (.mov (.tmp 9)) (.q (some 4) none (.mov (.tmp 28)) (.q (some 5) none (.mov (.tmp 29)) .done)))) false 1 [4, 5],
  .reg (.q (some 23) none (.mov (.tmp 0)) (.q (some 24) none (.mov (.tmp 1)) (.l (some 25) none (.call 65 [(.tmp 23), (.tmp 24)]) [] (.q (some 22) none (.mov (.tmp 25)) (.q (some 26) none (.ext 0 (.tmp 22)) (.q (some 27) none (.ext 1 (.tmp 22)) (.q (some 8) none (.mov (.tmp 26)) (.q (some 9) none (.mov (.tmp 27)) .done)))))))) false 2 [8, 9],
  .ret [.t 4, .t 5],
  .reg (.q (some 18) none (.mov (.tmp 6)) (.q (some 19) none (.cvi .u64 (.tmp 18)) (.q (some 20) none (.mov (.tmp 7)) (.q (some 21) none (.cvi .u64 (.tmp 20)) (.q (some 4) none (.mov (.tmp 19)) (.q (some 5) none (.mov (.tmp 21)) .done)))))) false 4 [4, 5],
  .reg (.q (some 11) none (.mov (.tmp 0)) (.q (some 12) none (.cvi .u32 (.tmp 11)) (.q (some 13) none (.mov (.tmp 1)) (.q (some 14) none (.cvi .u32 (.tmp 13)) (.l (some 15) none (.call 64 [(.tmp 12), (.tmp 14)]) [] (.q (some 10) none (.mov (.tmp 15)) (.q (some 16) none (.ext 0 (.tmp 10)) (.q (some 17) none (.ext 1 (.tmp 10)) (.q (some 6) none (.mov (.tmp 16)) (.q (some 7) none (.mov (.tmp 17)) .done)))))))))) false 5 [6, 7],
  .cnd (.const (.bool false)) 6 3,
  .reg (.q (some 4) none (.mov (.const (.int .u64 0))) (.q (some 5) none (.mov (.const (.int .u64 0))) .done)) false 7 [0, 1]
  ]
theorem c53_ok : cfgL Tryd.prog 53 = some (30, 8, c53.map Vc.Node.bare) := by kernel_rfl
/- slices.Reverse[[]byte,byte]: entry 6 -/
def c56 : List Vc.Node := [
  .ret [],
  .jmp 5,
  .reg (.q (some 10) none (.mov (.tmp 2)) (.q (some 11) none (.bin .add (.tmp 10) (.const (.int .i64 1))) (.q (some 12) none (.mov (.tmp 3)) (.q (some 13) none (.bin .sub (.tmp 12) (.const (.int .i64 1))) (.q (some 2) none (.mov (.tmp 11)) (.q (some 3) none (.mov (.tmp 13)) .done)))))) false 1 [0, 2, 3],
  .reg (.q (some 14) none (.mov (.tmp 0)) (.q (some 15) none (.mov (.tmp 2)) (.q (some 16) none (.mov (.tmp 0)) (.q (some 17) none (.mov (.tmp 3)) (.q (some 18) none (.mov (.tmp 0)) (.q (some 19) none (.mov (.tmp 3)) (.q (some 20) none (.iadrS 1 (.tmp 18) (.tmp 19)) (.q (some 21) none (.ld1 (.tmp 20)) (.q (some 22) none (.mov (.tmp 0)) (.q (some 23) none (.mov (.tmp 2)) (.q (some 24) none (.iadrS 1 (.tmp 22) (.tmp 23)) (.q (some 25) none (.ld1 (.tmp 24)) (.q (some 26) none (.iadrS 1 (.tmp 14) (.tmp 15)) (.l none none (.st1 (.tmp 26) (.tmp 21)) [] (.q (some 27) none (.iadrS 1 (.tmp 16) (.tmp 17)) (.l none none (.st1 (.tmp 27) (.tmp 25)) [] .done)))))))))))))))) true 2 [0, 2, 3],
  .cnd (.tmp 9) 3 0,
  .reg (.q (some 7) none (.mov (.tmp 2)) (.q (some 8) none (.mov (.tmp 3)) (.q (some 9) none (.bin .lss (.tmp 7) (.tmp 8)) .done))) false 4 [0, 2, 3, 9],
  .reg (.q (some 4) none (.mov (.tmp 0)) (.q (some 5) none (.len (.tmp 4)) (.q (some 6) none (.bin .sub (.tmp 5) (.const (.int .i64 1))) (.q (some 2) none (.mov (.const (.int .i64 0))) (.q (some 3) none (.mov (.tmp 6)) .done))))) false 5 [0, 2, 3]
  ]
theorem c56_ok : cfgL Tryd.prog 56 = some (28, 6, c56.map Vc.Node.bare) := by kernel_rfl
/- (*strings.Builder).copyCheck: entry 6 -/
def c57 : List Vc.Node := [
  .ret [],
  .reg (.q (some 7) none (.mov (.tmp 0)) (.q (some 8) none (.mov (.tmp 0)) (.l (some 9) none (.cvx 73 98 (.tmp 8)) [] (.l (some 10) none (.callx 66 [(.tmp 9)]) [] (.l (some 11) none (.cvx 98 73 (.tmp 10)) [] (.q (some 12) none (.nc (.tmp 7)) (.q (some 13) none (.fadr 0 (.tmp 12)) (.l none none (.st1 (.tmp 13) (.tmp 11)) [] .done)))))))) false 0 [],
  .bad,
  .cnd (.tmp 19) 2 0,
  .reg (.q (some 14) none (.mov (.tmp 0)) (.q (some 15) none (.nc (.tmp 14)) (.q (some 16) none (.fadr 0 (.tmp 15)) (.q (some 17) none (.ld1 (.tmp 16)) (.q (some 18) none (.mov (.tmp 0)) (.q (some 19) none (.eqP true (.tmp 17) (.tmp 18)) .done)))))) false 3 [19],
  .cnd (.tmp 6) 1 4,
  .reg (.q (some 2) none (.mov (.tmp 0)) (.q (some 3) none (.nc (.tmp 2)) (.q (some 4) none (.fadr 0 (.tmp 3)) (.q (some 5) none (.ld1 (.tmp 4)) (.q (some 6) none (.eqP false (.tmp 5) (.const (.pointer none))) .done))))) false 5 [0, 6]
  ]
theorem c57_ok : cfgL Tryd.prog 57 = some (20, 6, c57.map Vc.Node.bare) := by kernel_rfl
/- math/bits.Mul64: entry 13 -/
def c65 : List Vc.Node := [
  .ret [.t 4, .t 5],
  .ret [.t 4, .t 5],
  .reg (.q (some 48) none (.mov (.tmp 0)) (.q (some 49) none (.mov (.tmp 1)) (.q (some 50) none (.bin .mul (.tmp 48) (.tmp 49)) (.q (some 5) none (.mov (.tmp 50)) .done)))) false 1 [4, 5],
  .reg (.q (some 40) none (.mov (.tmp 7)) (.q (some 41) none (.mov (.tmp 9)) (.q (some 42) none (.bin .mul (.tmp 40) (.tmp 41)) (.q (some 43) none (.mov (.tmp 13)) (.q (some 44) none (.bin .add (.tmp 42) (.tmp 43)) (.q (some 45) none (.mov (.tmp 12)) (.q (some 46) none (.bin .shr (.tmp 45) (.const (.int .u64 32))) (.q (some 47) none (.bin .add (.tmp 44) (.tmp 46)) (.q (some 4) none (.mov (.tmp 47)) .done))))))))) false 2 [0, 1, 4],
  .reg (.q (some 35) none (.mov (.tmp 12)) (.q (some 36) none (.mov (.tmp 6)) (.q (some 37) none (.mov (.tmp 9)) (.q (some 38) none (.bin .mul (.tmp 36) (.tmp 37)) (.q (some 39) none (.bin .add (.tmp 35) (.tmp 38)) (.q (some 12) none (.mov (.tmp 39)) .done)))))) false 3 [0, 1, 7, 9, 12, 13],
  .reg (.q (some 33) none (.mov (.tmp 11)) (.q (some 34) none (.bin .shr (.tmp 33) (.const (.int .u64 32))) (.q (some 13) none (.mov (.tmp 34)) .done))) false 4 [0, 1, 6, 7, 9, 12, 13],
  .reg (.q (some 31) none (.mov (.tmp 11)) (.q (some 32) none (.bin .and (.tmp 31) (.const (.int .u64 4294967295))) (.q (some 12) none (.mov (.tmp 32)) .done))) false 5 [0, 1, 6, 7, 9, 11, 12],
  .reg (.q (some 25) none (.mov (.tmp 7)) (.q (some 26) none (.mov (.tmp 8)) (.q (some 27) none (.bin .mul (.tmp 25) (.tmp 26)) (.q (some 28) none (.mov (.tmp 10)) (.q (some 29) none (.bin .shr (.tmp 28) (.const (.int .u64 32))) (.q (some 30) none (.bin .add (.tmp 27) (.tmp 29)) (.q (some 11) none (.mov (.tmp 30)) .done))))))) false 6 [0, 1, 6, 7, 9, 11],
  .reg (.q (some 22) none (.mov (.tmp 6)) (.q (some 23) none (.mov (.tmp 8)) (.q (some 24) none (.bin .mul (.tmp 22) (.tmp 23)) (.q (some 10) none (.mov (.tmp 24)) .done)))) false 7 [0, 1, 6, 7, 8, 9, 10],
  .reg (.q (some 20) none (.mov (.tmp 1)) (.q (some 21) none (.bin .shr (.tmp 20) (.const (.int .u64 32))) (.q (some 9) none (.mov (.tmp 21)) .done))) false 8 [0, 1, 6, 7, 8, 9],
  .reg (.q (some 18) none (.mov (.tmp 1)) (.q (some 19) none (.bin .and (.tmp 18) (.const (.int .u64 4294967295))) (.q (some 8) none (.mov (.tmp 19)) .done))) false 9 [0, 1, 6, 7, 8],
  .reg (.q (some 16) none (.mov (.tmp 0)) (.q (some 17) none (.bin .shr (.tmp 16) (.const (.int .u64 32))) (.q (some 7) none (.mov (.tmp 17)) .done))) false 10 [0, 1, 6, 7],
  .reg (.q (some 14) none (.mov (.tmp 0)) (.q (some 15) none (.bin .and (.tmp 14) (.const (.int .u64 4294967295))) (.q (some 6) none (.mov (.tmp 15)) .done))) false 11 [0, 1, 6],
  .reg (.q (some 4) none (.mov (.const (.int .u64 0))) (.q (some 5) none (.mov (.const (.int .u64 0))) .done)) false 12 [0, 1]
  ]
theorem c65_ok : cfgL Tryd.prog 65 = some (51, 13, c65.map Vc.Node.bare) := by kernel_rfl
end Go.Proofs
namespace Go.Proofs
open Go.Vc
set_option maxRecDepth 10000

/-- The bytes as values. -/
def bv (bs : List Int) : List Value := bs.map (.int .u8)
theorem bv_len (bs : List Int) : (bv bs).length = bs.length := by simp [bv]
theorem bv_app (a b : List Int) : bv (a ++ b) = bv a ++ bv b := by simp [bv]
theorem bv_flat (bs : List Int) : flat (bv bs).toArray := by
  intro v hv; simp [bv] at hv; obtain ⟨_, _, rfl⟩ := hv; rfl
def byt (bs : List Int) : Prop := ∀ b ∈ bs, 0 ≤ b ∧ b ≤ 255
theorem byt_app {a b : List Int} (h : byt a) (k : byt b) : byt (a ++ b) := by
  intro x hx; rcases List.mem_append.1 hx with hx | hx; exact h x hx; exact k x hx
theorem byt_take {a : List Int} (h : byt a) (n : Nat) : byt (a.take n) := fun x hx => h x (List.mem_of_mem_take hx)
theorem byt_nil : byt [] := fun _ h => by cases h

/-- A slice that reads as bytes. -/
structure Rd (w : World) (v : Value) (bs : List Int) : Prop where
  is : ∃ q c, v = .slice q bs.length c ∧ bs.length ≤ c
  mx : bs.length ≤ maxLen
  rd : rdS w 1 v = some (bv bs).toArray
theorem Rd.keep {S : Nat → Prop} {w w' : World} {v : Value} {bs : List Int} (h : Rd w v bs) (k : Keep S w w') (hS : ∀ q n c, v = .slice (some q) n c → ¬ S q.block) : Rd w' v bs := by
  obtain ⟨⟨q, c, rfl, hc⟩, hm, hr⟩ := h
  refine ⟨⟨q, c, rfl, hc⟩, hm, ?_⟩
  simp only [rdS] at hr ⊢
  split
  · rename_i h0; rw [if_pos h0] at hr; exact hr
  · rename_i h0
    rw [if_neg h0] at hr
    split at hr
    · rename_i b o
      rw [rdN_heap] at hr ⊢
      cases hb : w.heap[b]? with
      | none => rw [hb] at hr; cases hr
      | some x =>
        have hk := k.at hb (hS _ _ _ rfl)
        simp only [rdN_heap, hk]
        rw [hb] at hr; exact hr
    · cases hr
theorem Rd.ext {w w' : World} {v : Value} {bs : List Int} (h : Rd w v bs) (k : Ext w w') : Rd w' v bs := h.keep k fun _ _ _ _ h => h
theorem Rd.len {w : World} {v : Value} {bs : List Int} (h : Rd w v bs) : lenR v = some (.int .i64 bs.length) := by
  obtain ⟨⟨q, c, rfl, _⟩, _, _⟩ := h; rfl
theorem Rd.one {w : World} {v : Value} {bs : List Int} (h : Rd w v bs) : v.oneCell' = true := by
  obtain ⟨⟨q, c, rfl, _⟩, _, _⟩ := h; rfl
theorem Rd.at {w : World} {v : Value} {bs : List Int} (h : Rd w v bs) {i : Nat} (hi : i < bs.length) :
    ∃ b o c, v = .slice (some ⟨b, o, none⟩) bs.length c ∧ cellO w.heap[b]? (o + i) = some (.int .u8 bs[i]) := by
  obtain ⟨⟨q, c, rfl, _⟩, hm, hr⟩ := h
  simp only [rdS] at hr
  rw [if_neg (by omega)] at hr
  split at hr
  · rename_i b o
    refine ⟨b, o, c, rfl, ?_⟩
    rw [rdN_heap] at hr
    cases hb : w.heap[b]? with
    | none => rw [hb] at hr; cases hr
    | some x =>
      rw [hb] at hr
      cases x with
      | cells d t fr =>
        simp only [rdO] at hr
        split at hr
        · rename_i hle
          simp only [Option.some.injEq] at hr
          rw [cellO_some]
          have h1 : (d.extract o (o + bs.length * 1))[i]? = some (.int .u8 bs[i]) := by rw [hr]; simp [bv, hi]
          rw [Array.getElem?_extract] at h1
          split at h1
          · exact h1
          · cases h1
        · cases hr
      | _ => cases hr
  · cases hr
/-- The text of some bytes. -/
def strOf (bs : List Int) : ByteArray := ⟨(bs.map fun m => UInt8.ofNat m.toNat).toArray⟩
theorem bytesOf_bv (bs : List Int) : bytesOf (bv bs) = some (bs.map fun m => UInt8.ofNat m.toNat) := by
  induction bs with
  | nil => rfl
  | cons b bs ih =>
    have : bv (b :: bs) = .int .u8 b :: bv bs := rfl
    rw [this, bytesOf, ih]; rfl
theorem Rd.b2s {w : World} {v : Value} {bs : List Int} (h : Rd w v bs) : b2sR w v = some (.string (strOf bs)) := by
  obtain ⟨⟨q, c, rfl, hc⟩, hm, hr⟩ := h
  cases q with
  | none =>
    have hb0 : bs = [] := by
      cases bs with
      | nil => rfl
      | cons b bs => simp [rdS] at hr
    subst hb0; rfl
  | some a =>
    simp only [b2sR]
    by_cases h0 : bs.length = 0
    · have : bs = [] := List.eq_nil_of_length_eq_zero h0
      subst this; rfl
    · rw [if_neg h0]
      simp only [rdS, if_neg h0] at hr
      obtain ⟨b, o, sp⟩ := a
      cases sp with
      | some x => cases hr
      | none =>
        simp only [Nat.mul_one] at hr
        simp only [hr, Option.bind_some, bytesOf_bv, Option.map_some]
        rfl
theorem strOf_inj : ∀ {a b : List Int}, byt a → byt b → (strOf a = strOf b ↔ a = b) := by
  intro a b ha hb
  constructor
  · intro h
    have h1 : a.map (fun m => UInt8.ofNat m.toNat) = b.map (fun m => UInt8.ofNat m.toNat) := by
      have := congrArg (fun x : ByteArray => x.data.toList) h
      simpa [strOf] using this
    clear h
    induction a generalizing b with
    | nil => cases b with
      | nil => rfl
      | cons y b => simp at h1
    | cons x a ih =>
      cases b with
      | nil => simp at h1
      | cons y b =>
        simp only [List.map_cons, List.cons.injEq] at h1
        have hx := ha x (by simp)
        have hy := hb y (by simp)
        have h2 := congrArg UInt8.toNat h1.1
        simp only [UInt8.toNat_ofNat'] at h2
        have e : x = y := by omega
        rw [e, ih (fun z hz => ha z (by simp [hz])) (fun z hz => hb z (by simp [hz])) h1.2]
  · rintro rfl; rfl
/-- A part of the bytes. -/
theorem Rd.cut {w : World} {q : Option Addr} {n c : Nat} {bs : List Int} (h : Rd w (.slice q n c) bs) {l j : Nat} (hl : l ≤ j) (hj : j ≤ n) : Rd w (.slice (advA 1 q c l) (j - l) (c - l)) ((bs.take j).drop l) := by
  obtain ⟨⟨q', c', e, hc⟩, hm, hr⟩ := h
  cases e
  have hlen : ((bs.take j).drop l).length = j - l := by rw [List.length_drop, List.length_take]; omega
  refine ⟨⟨_, _, by rw [hlen], by omega⟩, by omega, ?_⟩
  simp only [rdS] at hr ⊢
  split
  · rename_i h0
    have : (bs.take j).drop l = [] := List.eq_nil_of_length_eq_zero (by omega)
    rw [this]; rfl
  · rename_i h0
    rw [if_neg (by omega)] at hr
    split at hr
    · rename_i b o
      rw [rdN_heap] at hr
      have hadv : advA 1 (some ⟨b, o, none⟩) c l = some ⟨b, o + l, none⟩ := by
        unfold advA
        rw [if_neg (by omega)]
        simp only [Option.map_some, Addr.add, Nat.mul_one]
        split
        · rename_i h0; subst h0; rfl
        · rfl
      rw [hadv]
      simp only [rdN_heap]
      cases hb : w.heap[b]? with
      | none => rw [hb] at hr; cases hr
      | some x =>
        rw [hb] at hr
        cases x with
        | cells d t fr =>
          simp only [rdO] at hr ⊢
          split at hr
          · rw [if_pos (by omega)]
            simp only [Option.some.injEq] at hr ⊢
            apply Array.ext'
            have h3 := congrArg (fun x => (x.toList.take j).drop l) hr
            simp only [Array.toList_extract, List.extract_eq_take_drop, List.take_take, List.drop_take, List.drop_drop] at h3 ⊢
            rw [show o + l + (j - l) * 1 - (o + l) = j - l by omega]
            rw [show min j (o + bs.length * 1 - o) - l = j - l by omega] at h3
            rw [h3]; simp [bv, List.map_take, List.map_drop, List.drop_take]
          · cases hr
        | _ => cases hr
    · cases hr
theorem Rd.nil (w : World) : Rd w (.slice none 0 0) [] := ⟨⟨none, 0, rfl, Nat.le_refl _⟩, Nat.zero_le _, rfl⟩

/-- A slice of bytes of one's own. -/
abbrev Own1 (w : World) (v : Value) (bs : List Int) : Prop := w.ownsRow 0 5 1 v bs.length (bv bs)
theorem Own1.rd {w : World} {v : Value} {bs : List Int} (h : Own1 w v bs) : Rd w v bs := by
  refine ⟨?_, row_max h, rdS_own h⟩
  obtain ⟨_, ⟨rfl, h0⟩ | ⟨g, cap, cur, rfl, _, _, hn, _⟩⟩ := h
  · exact ⟨none, 0, by rw [h0], by omega⟩
  · exact ⟨_, _, rfl, hn⟩
theorem Own1.nil (w : World) : Own1 w (.slice none 0 0) [] := ⟨rfl, .inl ⟨rfl, rfl⟩⟩
theorem row_type {w : World} {base el size n : Nat} {v : Value} {xs : List Value} (h : w.ownsRow base el size v n xs) {g : Nat} (hg : v.ownBlock = some g) : ∃ cur, w.heap[g]? = some (.cells cur el (0, 0)) := by
  obtain ⟨_, ⟨rfl, _⟩ | ⟨g', cap, cur, rfl, hbg, hh, _⟩⟩ := h
  · cases hg
  · cases hg; exact ⟨cur, hh⟩
/-- 'b' is the block of the slice. -/
def blk (v : Value) (g : Nat) : Prop := v.ownBlock = some g
theorem Own1.lt {w : World} {v : Value} {bs : List Int} (h : Own1 w v bs) {g : Nat} (hg : blk v g) : g < w.heap.size := by
  obtain ⟨cur, hc⟩ := row_type h hg
  exact lt_of_heap hc
theorem Own1.keep {S : Nat → Prop} {w w' : World} {v : Value} {bs : List Int} (h : Own1 w v bs) (k : Keep S w w') (hS : ∀ g, blk v g → ¬ S g) : Own1 w' v bs := ownsRow_keep h k hS
theorem Own1.ext {w w' : World} {v : Value} {bs : List Int} (h : Own1 w v bs) (k : Ext w w') : Own1 w' v bs := ownsRow_keep h k fun _ _ h => h
theorem own_lit {w : World} {el size n : Nat} {cs : List Value} (hl : cs.length = n * size) (hn : n ≤ maxLen) : (w.alloc (.cells cs.toArray el)).ownsRow 0 el size (.slice (some ⟨w.heap.size, 0, none⟩) n n) n cs := by
  refine ⟨hl, .inr ⟨w.heap.size, n, cs.toArray, rfl, Nat.zero_le _, heap_new _ _ _ rfl, Nat.le_refl _, hn, by simp [hl], ?_⟩⟩
  rw [← hl]; simp
theorem own_lit1 {w : World} {bs : List Int} (hn : bs.length ≤ maxLen) : Own1 (w.alloc (.cells (bv bs).toArray 5)) (.slice (some ⟨w.heap.size, 0, none⟩) bs.length bs.length) bs :=
  own_lit (by rw [bv_len, Nat.mul_one]) hn

/-- 'append' of bytes onto a slice of one's own. -/
theorem appB {w : World} {v x : Value} {bs news : List Int} {K : Value → World → Prop} (h : Own1 w v bs) (hx : Rd w x news) (hlen : bs.length + news.length ≤ 1000000000)
    (hk : ∀ v' w', Own1 w' v' (bs ++ news) → Keep (blk v) w w' → (∀ g, blk v' g → blk v g ∨ w.heap.size ≤ g) → K v' w') : appV 5 1 1 [.int .u8 0] v x w K := by
  obtain ⟨⟨q, c, rfl, hc⟩, hm, hr⟩ := hx
  have hml : maxLen = 9223372036854775807 := rfl
  refine appV_own3 h rfl hr (bv_flat news) (by omega) (by omega) rfl (Nat.zero_le _) (by omega) fun v' w' ho hg hb => hk v' w' ?_ ?_ hb
  · have e : bv (bs ++ news) = bv bs ++ (bv news).toArray.toList := by rw [bv_app]
    show w'.ownsRow 0 5 1 v' (bs ++ news).length (bv (bs ++ news))
    rw [e, List.length_append]; exact ho
  · exact (Keep.refl _ w).grown hg fun k _ h => h
/-- The same, behind a literal of bytes. -/
theorem appL {w : World} {v : Value} {bs news : List Int} {K : Value → World → Prop} (h : Own1 w v bs) (hlen : bs.length + news.length ≤ 1000000000)
    (hk : ∀ v' w', Own1 w' v' (bs ++ news) → Keep (blk v) w w' → (∀ g, blk v' g → blk v g ∨ w.heap.size ≤ g) → K v' w') :
    appV 5 1 1 [.int .u8 0] v (.slice (some ⟨w.heap.size, 0, none⟩) news.length news.length) (w.alloc (.cells (bv news).toArray 5)) K := by
  have hE : Ext w (w.alloc (.cells (bv news).toArray 5)) := (Keep.refl _ w).alloc _
  have hml : maxLen = 9223372036854775807 := rfl
  refine appB (h.ext hE) (own_lit1 (w := w) (bs := news) (by omega)).rd hlen fun v' w' h1 h2 h3 => hk v' w' h1 ((hE.mono fun _ h => h.elim).trans h2 fun _ _ h => h) fun g hg => ?_
  rcases h3 g hg with h | h
  · exact .inl h
  · exact .inr (by rw [size_alloc] at h; omega)
end Go.Proofs
namespace Go.Proofs
open Go.Vc
set_option maxRecDepth 10000

theorem eqS_some (neg : Bool) (a : Addr) (n c m d : Nat) : eqSR neg (.slice (some a) n c) (.slice none m d) = some (.bool neg) := by simp [eqSR]
theorem eqS_none (neg : Bool) (n c m d : Nat) : eqSR neg (.slice none n c) (.slice none m d) = some (.bool (!neg)) := by simp [eqSR]

/-- What a step of the writer changes. -/
def WS (p : Nat) (v : Value) (i : Nat) : Prop := i = p ∨ blk v i
end Go.Proofs
namespace Go.Proofs
open Go.Vc
set_option maxRecDepth 10000

/-- A slice of bytes that the call made. -/
structure New (w w' : World) (u : Value) (bs : List Int) : Prop where
  own : Own1 w' u bs
  ext : Ext w w'
  new : ∀ g, blk u g → w.heap.size ≤ g
theorem New.nil (w : World) : New w w (.slice none 0 0) [] := ⟨Own1.nil w, Keep.refl _ w, fun g h => by cases h⟩
theorem New.keep {w w' w2 : World} {u : Value} {bs : List Int} (h : New w w' u bs) (k : Ext w' w2) : New w w2 u bs := ⟨h.own.ext k, h.ext.ext k, h.new⟩
theorem New.pre {w0 w w' : World} {u : Value} {bs : List Int} (h : New w w' u bs) (k : Ext w0 w) : New w0 w' u bs := ⟨h.own, k.ext h.ext, fun g hg => Nat.le_trans k.size (h.new g hg)⟩
theorem New.lit {w : World} {bs : List Int} (hn : bs.length ≤ maxLen) : New w (w.alloc (.cells (bv bs).toArray 5)) (.slice (some ⟨w.heap.size, 0, none⟩) bs.length bs.length) bs :=
  ⟨own_lit1 hn, (Keep.refl _ w).alloc _, fun g hg => by cases hg; exact Nat.le_refl _⟩
/-- 'append' of bytes onto such a slice. -/
theorem appN {w0 w : World} {v x : Value} {bs news : List Int} {K : Value → World → Prop} (h : New w0 w v bs) (hx : Rd w x news) (hlen : bs.length + news.length ≤ 1000000000)
    (hk : ∀ v' w', New w0 w' v' (bs ++ news) → Keep (blk v) w w' → (∀ g, blk v' g → blk v g ∨ w.heap.size ≤ g) → K v' w') : appV 5 1 1 [.int .u8 0] v x w K := by
  refine appB h.own hx hlen fun v' w' h1 h2 h3 => hk v' w' ⟨h1, ?_, fun g hg => ?_⟩ h2 h3
  · exact h.ext.trans h2 fun i hi hb => by have := h.new i hb; omega
  · rcases h3 g hg with h4 | h4
    · exact h.new g h4
    · exact Nat.le_trans h.ext.size h4
theorem appNL {w0 w : World} {v : Value} {bs news : List Int} {K : Value → World → Prop} (h : New w0 w v bs) (hlen : bs.length + news.length ≤ 1000000000)
    (hk : ∀ v' w', New w0 w' v' (bs ++ news) → Keep (blk v) w w' → (∀ g, blk v' g → blk v g ∨ w.heap.size ≤ g) → K v' w') :
    appV 5 1 1 [.int .u8 0] v (.slice (some ⟨w.heap.size, 0, none⟩) news.length news.length) (w.alloc (.cells (bv news).toArray 5)) K := by
  refine appL h.own hlen fun v' w' h1 h2 h3 => hk v' w' ⟨h1, ?_, fun g hg => ?_⟩ h2 h3
  · exact h.ext.trans h2 fun i hi hb => by have := h.new i hb; omega
  · rcases h3 g hg with h4 | h4
    · exact h.new g h4
    · exact Nat.le_trans h.ext.size h4

/-- 'Equal' of bytes. -/
theorem equal_ok (w : World) (x y : Value) (a b : List Int) (hx : Rd w x a) (hy : Rd w y b) (ha : byt a) (hb : byt b) :
    Calls Tryd.prog 14 #[x, y] w (Ret fun u w' => u = .bool (decide (a = b)) ∧ w' = w) := by
  refine calls_of_cfg c14_ok (Nat.le_of_ble_eq_true rfl) ?_
  simp only [argE_nil, argE_cons, Nat.reduceAdd, Nat.zero_add]
  have h1 := hx.b2s
  have h2 := hy.b2s
  have h3 := strOf_inj ha hb
  (refine W_at c14_ok ?_; refine ⟨_, rfl, ?_⟩; simp (disch := first | omega | assumption | rfl | (simp only [vcS] <;> omega) | fail) only [↓ptV_l, ↓vcA, vcB, ↓vcD, vcE, ↓reduceIte, Nat.reduceEqDiff, Nat.reduceAdd, Nat.reduceMul, Nat.reduceLeDiff, Int.reduceLE, Int.reduceLT, Int.reduceEq, Int.reduceToNat, Int.reduceAdd, Int.reduceSub, Int.reduceMul, Int.reduceNeg, reduceCtorEq, Option.bind_some, Option.map_some, List.length_cons, List.length_nil, vcM, List.getElem?_toArray, List.getElem?_cons_zero, List.getElem?_cons_succ])
  (refine W_at c14_ok ?_; refine ⟨_, rfl, ?_⟩; simp (disch := first | omega | assumption | rfl | (simp only [vcS] <;> omega) | fail) only [↓ptV_l, ↓vcA, vcB, ↓vcD, vcE, ↓reduceIte, Nat.reduceEqDiff, Nat.reduceAdd, Nat.reduceMul, Nat.reduceLeDiff, Int.reduceLE, Int.reduceLT, Int.reduceEq, Int.reduceToNat, Int.reduceAdd, Int.reduceSub, Int.reduceMul, Int.reduceNeg, reduceCtorEq, Option.bind_some, Option.map_some, List.length_cons, List.length_nil, vcM, List.getElem?_toArray, List.getElem?_cons_zero, List.getElem?_cons_succ, h1, h2, h3])
  (refine W_at c14_ok ?_; refine ⟨_, rfl, ?_⟩; simp (disch := first | omega | assumption | rfl | (simp only [vcS] <;> omega) | fail) only [↓ptV_l, ↓vcA, vcB, ↓vcD, vcE, ↓reduceIte, Nat.reduceEqDiff, Nat.reduceAdd, Nat.reduceMul, Nat.reduceLeDiff, Int.reduceLE, Int.reduceLT, Int.reduceEq, Int.reduceToNat, Int.reduceAdd, Int.reduceSub, Int.reduceMul, Int.reduceNeg, reduceCtorEq, Option.bind_some, Option.map_some, List.length_cons, List.length_nil, vcM, List.getElem?_toArray, List.getElem?_cons_zero, List.getElem?_cons_succ, Ret_returned])
end Go.Proofs
namespace Go.Proofs
open Go.Vc
set_option maxRecDepth 10000

theorem bv_set (bs : List Int) (i : Nat) (x : Int) : bv (bs.set i x) = (bv bs).set i (.int .u8 x) := by
  simp [bv, List.map_set]
theorem Own1.set {w : World} {v : Value} {bs : List Int} (h : Own1 w v bs) {i : Nat} (hi : i < bs.length) (x : Int) :
    ∃ g c, v = .slice (some ⟨g, 0, none⟩) bs.length c ∧ wr1 w g i ∧ Own1 (w.setCell ⟨g, i, none⟩ (.int .u8 x)) v (bs.set i x) := by
  obtain ⟨hl, ⟨rfl, h0⟩ | ⟨g, cap, cur, rfl, hb, hh, hn, hm, hs, ht⟩⟩ := h
  · omega
  · refine ⟨g, cap, rfl, wr1_of hh (by omega), ⟨by rw [bv_len, Nat.mul_one], .inr ⟨g, cap, cur.setIfInBounds i (.int .u8 x), ?_, hb, heap_setCell_eq hh, ?_, hm, by rw [Array.size_setIfInBounds]; exact hs, ?_⟩⟩⟩
    · rw [List.length_set]
    · rw [List.length_set]; exact hn
    · rw [List.length_set, Array.toList_setIfInBounds, List.take_set, ht, bv_set]
end Go.Proofs
namespace Go.Proofs
open Go.Vc
set_option maxRecDepth 10000

theorem take_snoc {l : List Int} {i : Nat} (h : i < l.length) : l.take (i + 1) = l.take i ++ [l[i]] := by
  rw [List.take_add_one, List.getElem?_eq_getElem h]; rfl
theorem set_mid (a rest : List Int) (x y : Int) : (a ++ y :: rest).set a.length x = a ++ x :: rest := by simp
theorem Own1.set1 {w : World} {g n c : Nat} {bs : List Int} (h : Own1 w (.slice (some ⟨g, 0, none⟩) n c) bs) {i : Nat} (hi : i < bs.length) (x : Int) :
    wr1 w g i ∧ Own1 (w.setCell ⟨g, i, none⟩ (.int .u8 x)) (.slice (some ⟨g, 0, none⟩) n c) (bs.set i x) := by
  obtain ⟨g', c', e, h1, h2⟩ := h.set hi x
  injection e with e1 e2 e3
  cases e1
  exact ⟨h1, h2⟩
end Go.Proofs
namespace Go.Proofs
open Go.Vc
set_option maxRecDepth 10000

/-! ### 64 bits -/
def U64 (x : BitVec 64) : Value := .int .u64 (x.toNat : Int)
theorem U64_inj {x y : BitVec 64} : U64 x = U64 y ↔ x = y := by
  constructor
  · intro h
    unfold U64 at h
    injection h with _ h
    exact BitVec.eq_of_toNat_eq (by omega)
  · rintro rfl; rfl
theorem w64_ofInt (x : BitVec 64) : BitVec.ofInt 64 (x.toNat : Int) = x := by
  rw [BitVec.ofInt_natCast, BitVec.ofNat_toNat, BitVec.setWidth_eq]
theorem w64_wrap (x : BitVec 64) : IntKind.u64.wrap (x.toNat : Int) = (x.toNat : Int) := by
  have := x.isLt
  rw [wrap_u64]; omega
theorem U64_of (n : Nat) (h : n < 18446744073709551616) : Value.int .u64 (n : Int) = U64 (BitVec.ofNat 64 n) := by
  unfold U64
  rw [BitVec.toNat_ofNat, Nat.mod_eq_of_lt h]
theorem U64_xor (x y : BitVec 64) : binR .xor (U64 x) (U64 y) = some (U64 (x ^^^ y)) := by
  unfold U64
  rw [bin_xor]
  show some (Value.int .u64 (IntKind.u64.wrap ((BitVec.ofInt 64 (x.toNat : Int) ^^^ BitVec.ofInt 64 (y.toNat : Int)).toNat : Int))) = _
  rw [w64_ofInt, w64_ofInt, w64_wrap]
theorem U64_and (x y : BitVec 64) : binR .and (U64 x) (U64 y) = some (U64 (x &&& y)) := by
  unfold U64
  rw [bin_and]
  show some (Value.int .u64 (IntKind.u64.wrap ((BitVec.ofInt 64 (x.toNat : Int) &&& BitVec.ofInt 64 (y.toNat : Int)).toNat : Int))) = _
  rw [w64_ofInt, w64_ofInt, w64_wrap]
theorem U64_sub (x y : BitVec 64) : binR .sub (U64 x) (U64 y) = some (U64 (x - y)) := by
  have h1 := x.isLt
  have h2 := y.isLt
  unfold U64
  rw [bin_sub, wrap_u64, BitVec.toNat_sub]
  congr 2
  omega
theorem U64_mul (x y : BitVec 64) : binR .mul (U64 x) (U64 y) = some (U64 (x * y)) := by
  unfold U64
  rw [bin_mul, wrap_u64, BitVec.toNat_mul]
  congr 2
theorem U64_shr (x : BitVec 64) (k : IntKind) (n : Nat) (h : n ≤ 64) : binR .shr (U64 x) (.int k (n : Int)) = some (U64 (x >>> n)) := by
  unfold U64
  rw [bin_shr, if_pos (by omega)]
  show some (Value.int .u64 ((x.toNat : Int).fdiv (2 ^ Nat.min (n : Int).toNat 64))) = _
  rw [Int.toNat_natCast, show Nat.min n 64 = n from Nat.min_eq_left h, Int.fdiv_eq_ediv_of_nonneg _ (Int.le_of_lt (Int.pow_pos (by decide))), BitVec.toNat_ushiftRight, Nat.shiftRight_eq_div_pow]
  congr 2
theorem U64_shl (x : BitVec 64) (k : IntKind) (n : Nat) (h : n ≤ 64) : binR .shl (U64 x) (.int k (n : Int)) = some (U64 (x <<< n)) := by
  unfold U64
  rw [bin_shl, if_pos (by omega)]
  show some (Value.int .u64 (IntKind.u64.wrap ((x.toNat : Int) * (2 ^ Nat.min (n : Int).toNat 64)))) = _
  rw [Int.toNat_natCast, show Nat.min n 64 = n from Nat.min_eq_left h, BitVec.toNat_shiftLeft, Nat.shiftLeft_eq, wrap_u64]
  congr 2
theorem U64_eql (x y : BitVec 64) : binR .eql (U64 x) (U64 y) = some (.bool (decide (x = y))) := by
  unfold U64
  rw [bin_eql]
  congr 2
  rw [decide_eq_decide]
  constructor
  · intro h; exact BitVec.eq_of_toNat_eq (by omega)
  · rintro rfl; rfl
theorem U64_quo (x y : BitVec 64) (h : y ≠ 0) : binR .quo (U64 x) (U64 y) = some (U64 (x / y)) := by
  have hy : ¬ ((y.toNat : Int) = 0) := fun e => h (BitVec.eq_of_toNat_eq (by simp; omega))
  have h2 := (x / y).isLt
  rw [BitVec.toNat_udiv] at h2
  unfold U64
  rw [bin_quo, if_neg hy, Int.tdiv_eq_ediv_of_nonneg (by omega), wrap_u64, BitVec.toNat_udiv]
  congr 2
  rw [← Int.natCast_ediv]
  generalize x.toNat / y.toNat = z at h2 ⊢
  omega
theorem U64_rem (x y : BitVec 64) (h : y ≠ 0) : binR .rem (U64 x) (U64 y) = some (U64 (x % y)) := by
  have hy : ¬ ((y.toNat : Int) = 0) := fun e => h (BitVec.eq_of_toNat_eq (by simp; omega))
  unfold U64
  rw [bin_rem, if_neg hy, Int.tmod_eq_emod_of_nonneg (by omega), BitVec.toNat_umod]
  congr 2
/-! ### 32 bits -/
end Go.Proofs
namespace Go.Proofs
open Go.Vc
set_option maxRecDepth 10000

/-! ### Texts as bytes -/
theorem u8i {x : Int} (h : 0 ≤ x ∧ x ≤ 255) : ((UInt8.ofNat x.toNat).toNat : Int) = x := by
  rw [UInt8.toNat_ofNat']
  omega
theorem str_size (bs : List Int) : (strOf bs).size = bs.length := by simp [strOf, ByteArray.size]
theorem str_get {bs : List Int} {i : Nat} (h : i < bs.length) : (strOf bs)[i]? = some (UInt8.ofNat bs[i].toNat) := by
  have h1 : i < (strOf bs).size := by rw [str_size]; exact h
  rw [getElem?_pos (strOf bs) i h1]
  congr 1
  show (strOf bs).data[i] = _
  simp [strOf]
theorem str_app (a b : List Int) : strOf a ++ strOf b = strOf (a ++ b) := by
  apply ByteArray.ext
  rw [ByteArray.data_append]
  simp [strOf]
theorem str_cut (bs : List Int) (l j : Nat) : (strOf bs).extract l j = strOf ((bs.take j).drop l) := by
  apply ByteArray.ext
  rw [ByteArray.data_extract]
  apply Array.ext'
  simp [strOf, List.extract_eq_take_drop, List.map_drop, List.map_take, List.drop_take]
theorem str_of (s : ByteArray) : ∃ bs, byt bs ∧ s = strOf bs := by
  refine ⟨s.data.toList.map fun b => (b.toNat : Int), fun x hx => ?_, ?_⟩
  · obtain ⟨b, _, rfl⟩ := List.mem_map.1 hx
    have := b.toNat_lt
    omega
  · apply ByteArray.ext
    apply Array.ext'
    simp only [strOf, List.map_map]
    have e : ((fun m : Int => UInt8.ofNat m.toNat) ∘ fun b : UInt8 => (b.toNat : Int)) = id := by
      funext b
      simp
    rw [e, List.map_id]
/-- The place of a byte in some; -1: none. -/
def placeF (c : Int) : List Int → Nat → Int
  | [], _ => -1
  | b :: bs, k => if b = c then k else placeF c bs (k + 1)
theorem placeF_lt (c : Int) : ∀ (bs : List Int) (k : Nat), -1 ≤ placeF c bs k ∧ (placeF c bs k < k + bs.length ∨ bs = [])
  | [], k => ⟨by simp [placeF], .inr rfl⟩
  | b :: bs, k => by
    simp only [placeF]
    split
    · exact ⟨by omega, .inl (by simp only [List.length_cons]; omega)⟩
    · have := placeF_lt c bs (k + 1)
      refine ⟨this.1, .inl ?_⟩
      rcases this.2 with h | h
      · simp only [List.length_cons]; omega
      · subst h; simp only [placeF, List.length_cons]; omega

/-! ### What the model itself does -/
theorem index_run {P : Program} {f : FuncId} {fn : Func} (hf : P.funcs[f]? = some fn) (hname : (fn.name == "runtime.NumGoroutine") = false) (hb : fn.body.isNone = true) (hn : Extern.findNext fn = none) (he : Extern.find fn = some Extern.BytealgIndexByte.indexByte)
    (w : World) (bs : List Int) (c : Int) (h : byt bs) (hc : 0 ≤ c ∧ c ≤ 255) :
    (callFunc f [Value.string (strOf bs), .int .u8 c].toArray).run P w = .ok (.value (.int .i64 (placeF c bs 0))) w := by
  rw [run_callFunc_extern hf hname hb hn he]
  have e : Extern.BytealgIndexByte.indexByte [Value.string (strOf bs), .int .u8 c].toArray = (match (List.range (strOf bs).size).find? fun i => (strOf bs)[i]! == c.toNat.toUInt8 with
      | some i => pure (goInt i)
      | none => pure (goInt (-1))) := rfl
  have e2 : ∀ (l : List Int) (pre : List Int), bs = pre ++ l → (match (List.range' pre.length l.length).find? fun i => (strOf bs)[i]! == c.toNat.toUInt8 with
      | some i => (i : Int)
      | none => -1) = placeF c l pre.length := by
    intro l
    induction l with
    | nil => intro pre _; rfl
    | cons b l ih =>
      intro pre hp
      have hg : (strOf bs)[pre.length]! = UInt8.ofNat b.toNat := by
        have h1 : (strOf bs)[pre.length]? = some (UInt8.ofNat b.toNat) := by
          rw [str_get (by rw [hp]; simp)]
          simp [hp]
        rw [getElem!_def, h1]
      rw [List.length_cons, List.range'_succ, List.find?_cons, hg]
      have hbb : 0 ≤ b ∧ b ≤ 255 := h b (by rw [hp]; simp)
      have hcc : (UInt8.ofNat b.toNat == c.toNat.toUInt8) = decide (b = c) := by
        rw [Bool.eq_iff_iff, beq_iff_eq, decide_eq_true_iff]
        constructor
        · intro hh
          have h3 := congrArg (fun x : UInt8 => (x.toNat : Int)) hh
          have h4 := u8i hc
          have h5 : c.toNat.toUInt8 = UInt8.ofNat c.toNat := rfl
          rw [h5] at h3
          exact (u8i hbb).symm.trans (h3.trans h4)
        · rintro rfl; rfl
      rw [hcc]
      simp only [placeF]
      by_cases hbc : b = c
      · rw [decide_eq_true hbc, if_pos hbc]
      · rw [decide_eq_false hbc, if_neg hbc]
        have := ih (pre ++ [b]) (by rw [hp]; simp)
        rw [List.length_append] at this
        exact this
  have e3 := e2 bs [] rfl
  rw [e, str_size]
  rw [List.length_nil, ← List.range_eq_range'] at e3
  cases hq : (List.range bs.length).find? fun i => (strOf bs)[i]! == c.toNat.toUInt8 with
  | some i => rw [hq] at e3; simp only at e3; rw [← e3]; rfl
  | none => rw [hq] at e3; simp only at e3; rw [← e3]; rfl
theorem index_ok (w : World) (bs : List Int) (c : Int) (h : byt bs) (hc : 0 ≤ c ∧ c ≤ 255) :
    Calls Tryd.prog 33 #[.string (strOf bs), .int .u8 c] w (Ret fun u w' => u = .int .i64 (placeF c bs 0) ∧ w' = w) := by
  refine calls_of_cfg c33_ok (Nat.le_of_ble_eq_true rfl) ?_
  simp only [argE_nil, argE_cons, Nat.reduceAdd, Nat.zero_add]
  (refine W_at c33_ok ?_; refine ⟨_, rfl, ?_⟩; simp (disch := first | omega | assumption | rfl | (simp only [vcS] <;> omega) | fail) only [↓ptV_l, ↓vcA, vcB, ↓vcD, vcE, ↓reduceIte, Nat.reduceEqDiff, Nat.reduceAdd, Nat.reduceMul, Nat.reduceLeDiff, Int.reduceLE, Int.reduceLT, Int.reduceEq, Int.reduceToNat, Int.reduceAdd, Int.reduceSub, Int.reduceMul, Int.reduceNeg, reduceCtorEq, Option.bind_some, Option.map_some, List.length_cons, List.length_nil, vcM, List.getElem?_toArray, List.getElem?_cons_zero, List.getElem?_cons_succ])
  (refine W_at c33_ok ?_; refine ⟨_, rfl, ?_⟩; simp (disch := first | omega | assumption | rfl | (simp only [vcS] <;> omega) | fail) only [↓ptV_l, ↓vcA, vcB, ↓vcD, vcE, ↓reduceIte, Nat.reduceEqDiff, Nat.reduceAdd, Nat.reduceMul, Nat.reduceLeDiff, Int.reduceLE, Int.reduceLT, Int.reduceEq, Int.reduceToNat, Int.reduceAdd, Int.reduceSub, Int.reduceMul, Int.reduceNeg, reduceCtorEq, Option.bind_some, Option.map_some, List.length_cons, List.length_nil, vcM, List.getElem?_toArray, List.getElem?_cons_zero, List.getElem?_cons_succ])
  have inner : Calls Tryd.prog 51 #[.string (strOf bs), .int .u8 c] w (Ret fun u w' => u = .int .i64 (placeF c bs 0) ∧ w' = w) := by
    refine calls_of_cfg c51_ok (Nat.le_of_ble_eq_true rfl) ?_
    simp only [argE_nil, argE_cons, Nat.reduceAdd, Nat.zero_add]
    (refine W_at c51_ok ?_; refine ⟨_, rfl, ?_⟩; simp (disch := first | omega | assumption | rfl | (simp only [vcS] <;> omega) | fail) only [↓ptV_l, ↓vcA, vcB, ↓vcD, vcE, ↓reduceIte, Nat.reduceEqDiff, Nat.reduceAdd, Nat.reduceMul, Nat.reduceLeDiff, Int.reduceLE, Int.reduceLT, Int.reduceEq, Int.reduceToNat, Int.reduceAdd, Int.reduceSub, Int.reduceMul, Int.reduceNeg, reduceCtorEq, Option.bind_some, Option.map_some, List.length_cons, List.length_nil, vcM, List.getElem?_toArray, List.getElem?_cons_zero, List.getElem?_cons_succ])
    (refine W_at c51_ok ?_; refine ⟨_, rfl, ?_⟩; simp (disch := first | omega | assumption | rfl | (simp only [vcS] <;> omega) | fail) only [↓ptV_l, ↓vcA, vcB, ↓vcD, vcE, ↓reduceIte, Nat.reduceEqDiff, Nat.reduceAdd, Nat.reduceMul, Nat.reduceLeDiff, Int.reduceLE, Int.reduceLT, Int.reduceEq, Int.reduceToNat, Int.reduceAdd, Int.reduceSub, Int.reduceMul, Int.reduceNeg, reduceCtorEq, Option.bind_some, Option.map_some, List.length_cons, List.length_nil, vcM, List.getElem?_toArray, List.getElem?_cons_zero, List.getElem?_cons_succ])
    refine ⟨_, _, index_run Tryd.func63 (by kernel_rfl) (by kernel_rfl) (by kernel_rfl) (by kernel_rfl) w bs c h hc, ?_⟩
    first | (simp (disch := first | omega | assumption | rfl | (simp only [vcS] <;> omega) | fail) only [↓ptV_l, ↓vcA, vcB, ↓vcD, vcE, ↓reduceIte, Nat.reduceEqDiff, Nat.reduceAdd, Nat.reduceMul, Nat.reduceLeDiff, Int.reduceLE, Int.reduceLT, Int.reduceEq, Int.reduceToNat, Int.reduceAdd, Int.reduceSub, Int.reduceMul, Int.reduceNeg, reduceCtorEq, Option.bind_some, Option.map_some, List.length_cons, List.length_nil, vcM, List.getElem?_toArray, List.getElem?_cons_zero, List.getElem?_cons_succ]) | skip
    (refine W_at c51_ok ?_; refine ⟨_, rfl, ?_⟩; simp (disch := first | omega | assumption | rfl | (simp only [vcS] <;> omega) | fail) only [↓ptV_l, ↓vcA, vcB, ↓vcD, vcE, ↓reduceIte, Nat.reduceEqDiff, Nat.reduceAdd, Nat.reduceMul, Nat.reduceLeDiff, Int.reduceLE, Int.reduceLT, Int.reduceEq, Int.reduceToNat, Int.reduceAdd, Int.reduceSub, Int.reduceMul, Int.reduceNeg, reduceCtorEq, Option.bind_some, Option.map_some, List.length_cons, List.length_nil, vcM, List.getElem?_toArray, List.getElem?_cons_zero, List.getElem?_cons_succ, Ret_returned])
  refine callV_ret inner ?_
  rintro _ w1 ⟨rfl, hw⟩
  obtain rfl : w = w1 := hw.symm
  first | (simp (disch := first | omega | assumption | rfl | (simp only [vcS] <;> omega) | fail) only [↓ptV_l, ↓vcA, vcB, ↓vcD, vcE, ↓reduceIte, Nat.reduceEqDiff, Nat.reduceAdd, Nat.reduceMul, Nat.reduceLeDiff, Int.reduceLE, Int.reduceLT, Int.reduceEq, Int.reduceToNat, Int.reduceAdd, Int.reduceSub, Int.reduceMul, Int.reduceNeg, reduceCtorEq, Option.bind_some, Option.map_some, List.length_cons, List.length_nil, vcM, List.getElem?_toArray, List.getElem?_cons_zero, List.getElem?_cons_succ]) | skip
  (refine W_at c33_ok ?_; refine ⟨_, rfl, ?_⟩; simp (disch := first | omega | assumption | rfl | (simp only [vcS] <;> omega) | fail) only [↓ptV_l, ↓vcA, vcB, ↓vcD, vcE, ↓reduceIte, Nat.reduceEqDiff, Nat.reduceAdd, Nat.reduceMul, Nat.reduceLeDiff, Int.reduceLE, Int.reduceLT, Int.reduceEq, Int.reduceToNat, Int.reduceAdd, Int.reduceSub, Int.reduceMul, Int.reduceNeg, reduceCtorEq, Option.bind_some, Option.map_some, List.length_cons, List.length_nil, vcM, List.getElem?_toArray, List.getElem?_cons_zero, List.getElem?_cons_succ, Ret_returned])
end Go.Proofs
namespace Go.Proofs
open Go.Vc
set_option maxRecDepth 10000

/-- A builder in a block of its own, with what it holds. -/
structure BAt (w : World) (p : Nat) (v : Value) (bs : List Int) : Prop where
  at' : ∃ a, (a = .pointer none ∨ a = .pointer (some ⟨p, 0, none⟩)) ∧ w.heap[p]? = some (.cells #[a, v] 75 (0, 0))
  own : Own1 w v bs
  nil : bs = [] → v = .slice none 0 0
theorem BAt.ne {w : World} {p : Nat} {v : Value} {bs : List Int} (h : BAt w p v bs) : ¬ blk v p := fun hb => by
  obtain ⟨cur, hc⟩ := row_type h.own hb
  obtain ⟨a, _, h⟩ := h.at'
  rw [h] at hc; cases hc
theorem BAt.lt {w : World} {p : Nat} {v : Value} {bs : List Int} (h : BAt w p v bs) : p < w.heap.size := by
  obtain ⟨a, _, h⟩ := h.at'
  exact lt_of_heap h
/-- What the call's own builder is, seen from the call's beginning. -/
structure BNew (w0 w : World) (p : Nat) (v : Value) (bs : List Int) : Prop where
  is : BAt w p v bs
  ext : Ext w0 w
  lo : w0.heap.size ≤ p
  blk : ∀ g, blk v g → w0.heap.size ≤ g
theorem BNew.start (w : World) : BNew w (w.alloc (.cells #[.pointer none, .slice none 0 0] 75)) w.heap.size (.slice none 0 0) [] :=
  ⟨⟨⟨_, .inl rfl, heap_new _ _ _ rfl⟩, Own1.nil _, fun _ => rfl⟩, (Keep.refl _ w).alloc _, Nat.le_refl _, fun g h => by cases h⟩

theorem same_run {P : Program} {f : FuncId} {fn : Func} (hf : P.funcs[f]? = some fn) (hname : (fn.name == "runtime.NumGoroutine") = false) (hb : fn.body.isNone = true) (hn : Extern.findNext fn = none) (he : Extern.find fn = some Extern.AbiNoEscape.same) (w : World) (x : Value) :
    (callFunc f [x].toArray).run P w = .ok (.value x) w := by
  rw [run_callFunc_extern hf hname hb hn he]
  have e : Extern.AbiNoEscape.same [x].toArray = pure x := rfl
  rw [e]
  simp [Result.andThen, go_sem]
theorem copyCheck_ok (w : World) (p : Nat) (v : Value) (bs : List Int) (h : BAt w p v bs) :
    Calls Tryd.prog 57 #[.pointer (some ⟨p, 0, none⟩)] w (Ret fun _ w' => w'.heap[p]? = some (.cells #[.pointer (some ⟨p, 0, none⟩), v] 75 (0, 0)) ∧ Keep (fun i => i = p) w w') := by
  refine calls_of_cfg c57_ok (Nat.le_of_ble_eq_true rfl) ?_
  simp only [argE_nil, argE_cons, Nat.reduceAdd, Nat.zero_add]
  obtain ⟨a, ha, hp⟩ := h.at'
  have g0 : (#[a, v] : Array Value)[0]? = some a := rfl
  rcases ha with rfl | rfl
  · (refine W_at c57_ok ?_; refine ⟨_, rfl, ?_⟩; simp (disch := first | omega | assumption | rfl | (simp only [vcS] <;> omega) | fail) only [↓ptV_l, ↓vcA, vcB, ↓vcD, vcE, ↓reduceIte, Nat.reduceEqDiff, Nat.reduceAdd, Nat.reduceMul, Nat.reduceLeDiff, Int.reduceLE, Int.reduceLT, Int.reduceEq, Int.reduceToNat, Int.reduceAdd, Int.reduceSub, Int.reduceMul, Int.reduceNeg, reduceCtorEq, Option.bind_some, Option.map_some, List.length_cons, List.length_nil, vcM, List.getElem?_toArray, List.getElem?_cons_zero, List.getElem?_cons_succ, hp, g0])
    (refine W_at c57_ok ?_; refine ⟨_, rfl, ?_⟩; simp (disch := first | omega | assumption | rfl | (simp only [vcS] <;> omega) | fail) only [↓ptV_l, ↓vcA, vcB, ↓vcD, vcE, ↓reduceIte, Nat.reduceEqDiff, Nat.reduceAdd, Nat.reduceMul, Nat.reduceLeDiff, Int.reduceLE, Int.reduceLT, Int.reduceEq, Int.reduceToNat, Int.reduceAdd, Int.reduceSub, Int.reduceMul, Int.reduceNeg, reduceCtorEq, Option.bind_some, Option.map_some, List.length_cons, List.length_nil, vcM, List.getElem?_toArray, List.getElem?_cons_zero, List.getElem?_cons_succ])
    (refine W_at c57_ok ?_; refine ⟨_, rfl, ?_⟩; simp (disch := first | omega | assumption | rfl | (simp only [vcS] <;> omega) | fail) only [↓ptV_l, ↓vcA, vcB, ↓vcD, vcE, ↓reduceIte, Nat.reduceEqDiff, Nat.reduceAdd, Nat.reduceMul, Nat.reduceLeDiff, Int.reduceLE, Int.reduceLT, Int.reduceEq, Int.reduceToNat, Int.reduceAdd, Int.reduceSub, Int.reduceMul, Int.reduceNeg, reduceCtorEq, Option.bind_some, Option.map_some, List.length_cons, List.length_nil, vcM, List.getElem?_toArray, List.getElem?_cons_zero, List.getElem?_cons_succ, hp])
    have hi : (Tryd.prog.info? 75).map (fun i => decide (i.size = 0)) = some false := by kernel_rfl
    obtain ⟨j, hj, hjs⟩ := Option.map_eq_some_iff.1 hi
    have hjs : j.size ≠ 0 := of_decide_eq_false hjs
    have hsh : w.shape? p = some (75, 2) := by simp [World.shape?, hp]
    refine ⟨_, _, Lib.run_to_unsafe _ _ Tryd.underlying73 Tryd.underlying98 hj hjs hsh (by simp), ?_⟩
    first | (simp (disch := first | omega | assumption | rfl | (simp only [vcS] <;> omega) | fail) only [↓ptV_l, ↓vcA, vcB, ↓vcD, vcE, ↓reduceIte, Nat.reduceEqDiff, Nat.reduceAdd, Nat.reduceMul, Nat.reduceLeDiff, Int.reduceLE, Int.reduceLT, Int.reduceEq, Int.reduceToNat, Int.reduceAdd, Int.reduceSub, Int.reduceMul, Int.reduceNeg, reduceCtorEq, Option.bind_some, Option.map_some, List.length_cons, List.length_nil, vcM, List.getElem?_toArray, List.getElem?_cons_zero, List.getElem?_cons_succ]) | skip
    refine ⟨_, _, same_run Tryd.func66 (by kernel_rfl) (by kernel_rfl) (by kernel_rfl) (by kernel_rfl) _ _, ?_⟩
    first | (simp (disch := first | omega | assumption | rfl | (simp only [vcS] <;> omega) | fail) only [↓ptV_l, ↓vcA, vcB, ↓vcD, vcE, ↓reduceIte, Nat.reduceEqDiff, Nat.reduceAdd, Nat.reduceMul, Nat.reduceLeDiff, Int.reduceLE, Int.reduceLT, Int.reduceEq, Int.reduceToNat, Int.reduceAdd, Int.reduceSub, Int.reduceMul, Int.reduceNeg, reduceCtorEq, Option.bind_some, Option.map_some, List.length_cons, List.length_nil, vcM, List.getElem?_toArray, List.getElem?_cons_zero, List.getElem?_cons_succ]) | skip
    refine ⟨_, _, Lib.run_from_unsafe _ _ Tryd.underlying98 Tryd.underlying73 hj hsh (by kernel_rfl), ?_⟩
    first | (simp (disch := first | omega | assumption | rfl | (simp only [vcS] <;> omega) | fail) only [↓ptV_l, ↓vcA, vcB, ↓vcD, vcE, ↓reduceIte, Nat.reduceEqDiff, Nat.reduceAdd, Nat.reduceMul, Nat.reduceLeDiff, Int.reduceLE, Int.reduceLT, Int.reduceEq, Int.reduceToNat, Int.reduceAdd, Int.reduceSub, Int.reduceMul, Int.reduceNeg, reduceCtorEq, Option.bind_some, Option.map_some, List.length_cons, List.length_nil, vcM, List.getElem?_toArray, List.getElem?_cons_zero, List.getElem?_cons_succ, hp]) | skip
    refine ⟨wr1_of hp (by simp), ?_⟩
    have hp2 : (w.setCell ⟨p, 0, none⟩ (.pointer (some ⟨p, 0, none⟩))).heap[p]? = some (.cells #[.pointer (some ⟨p, 0, none⟩), v] 75 (0, 0)) := by rw [heap_setCell_eq hp]; rfl
    have k2 : Keep (fun i => i = p) w (w.setCell ⟨p, 0, none⟩ (.pointer (some ⟨p, 0, none⟩))) := (Keep.refl _ w).setCell _ fun _ => rfl
    generalize World.setCell _ _ _ = w2 at hp2 k2 ⊢
    (refine W_at c57_ok ?_; refine ⟨_, rfl, ?_⟩; simp (disch := first | omega | assumption | rfl | (simp only [vcS] <;> omega) | fail) only [↓ptV_l, ↓vcA, vcB, ↓vcD, vcE, ↓reduceIte, Nat.reduceEqDiff, Nat.reduceAdd, Nat.reduceMul, Nat.reduceLeDiff, Int.reduceLE, Int.reduceLT, Int.reduceEq, Int.reduceToNat, Int.reduceAdd, Int.reduceSub, Int.reduceMul, Int.reduceNeg, reduceCtorEq, Option.bind_some, Option.map_some, List.length_cons, List.length_nil, vcM, List.getElem?_toArray, List.getElem?_cons_zero, List.getElem?_cons_succ, Ret_returned])
    exact ⟨hp2, k2⟩
  · (refine W_at c57_ok ?_; refine ⟨_, rfl, ?_⟩; simp (disch := first | omega | assumption | rfl | (simp only [vcS] <;> omega) | fail) only [↓ptV_l, ↓vcA, vcB, ↓vcD, vcE, ↓reduceIte, Nat.reduceEqDiff, Nat.reduceAdd, Nat.reduceMul, Nat.reduceLeDiff, Int.reduceLE, Int.reduceLT, Int.reduceEq, Int.reduceToNat, Int.reduceAdd, Int.reduceSub, Int.reduceMul, Int.reduceNeg, reduceCtorEq, Option.bind_some, Option.map_some, List.length_cons, List.length_nil, vcM, List.getElem?_toArray, List.getElem?_cons_zero, List.getElem?_cons_succ, hp, g0])
    (refine W_at c57_ok ?_; refine ⟨_, rfl, ?_⟩; simp (disch := first | omega | assumption | rfl | (simp only [vcS] <;> omega) | fail) only [↓ptV_l, ↓vcA, vcB, ↓vcD, vcE, ↓reduceIte, Nat.reduceEqDiff, Nat.reduceAdd, Nat.reduceMul, Nat.reduceLeDiff, Int.reduceLE, Int.reduceLT, Int.reduceEq, Int.reduceToNat, Int.reduceAdd, Int.reduceSub, Int.reduceMul, Int.reduceNeg, reduceCtorEq, Option.bind_some, Option.map_some, List.length_cons, List.length_nil, vcM, List.getElem?_toArray, List.getElem?_cons_zero, List.getElem?_cons_succ])
    (refine W_at c57_ok ?_; refine ⟨_, rfl, ?_⟩; simp (disch := first | omega | assumption | rfl | (simp only [vcS] <;> omega) | fail) only [↓ptV_l, ↓vcA, vcB, ↓vcD, vcE, ↓reduceIte, Nat.reduceEqDiff, Nat.reduceAdd, Nat.reduceMul, Nat.reduceLeDiff, Int.reduceLE, Int.reduceLT, Int.reduceEq, Int.reduceToNat, Int.reduceAdd, Int.reduceSub, Int.reduceMul, Int.reduceNeg, reduceCtorEq, Option.bind_some, Option.map_some, List.length_cons, List.length_nil, vcM, List.getElem?_toArray, List.getElem?_cons_zero, List.getElem?_cons_succ, hp, g0, eqP_pp])
    (refine W_at c57_ok ?_; refine ⟨_, rfl, ?_⟩; simp (disch := first | omega | assumption | rfl | (simp only [vcS] <;> omega) | fail) only [↓ptV_l, ↓vcA, vcB, ↓vcD, vcE, ↓reduceIte, Nat.reduceEqDiff, Nat.reduceAdd, Nat.reduceMul, Nat.reduceLeDiff, Int.reduceLE, Int.reduceLT, Int.reduceEq, Int.reduceToNat, Int.reduceAdd, Int.reduceSub, Int.reduceMul, Int.reduceNeg, reduceCtorEq, Option.bind_some, Option.map_some, List.length_cons, List.length_nil, vcM, List.getElem?_toArray, List.getElem?_cons_zero, List.getElem?_cons_succ])
    (refine W_at c57_ok ?_; refine ⟨_, rfl, ?_⟩; simp (disch := first | omega | assumption | rfl | (simp only [vcS] <;> omega) | fail) only [↓ptV_l, ↓vcA, vcB, ↓vcD, vcE, ↓reduceIte, Nat.reduceEqDiff, Nat.reduceAdd, Nat.reduceMul, Nat.reduceLeDiff, Int.reduceLE, Int.reduceLT, Int.reduceEq, Int.reduceToNat, Int.reduceAdd, Int.reduceSub, Int.reduceMul, Int.reduceNeg, reduceCtorEq, Option.bind_some, Option.map_some, List.length_cons, List.length_nil, vcM, List.getElem?_toArray, List.getElem?_cons_zero, List.getElem?_cons_succ, Ret_returned])
    exact ⟨hp, Keep.refl _ w⟩
theorem writeByte_ok2 (w0 w : World) (p : Nat) (v : Value) (bs : List Int) (c : Int) (h : BNew w0 w p v bs) (hl : bs.length ≤ 100000000) :
    Calls Tryd.prog 45 #[.pointer (some ⟨p, 0, none⟩), .int .u8 c] w (Ret fun _ w' => ∃ v', BNew w0 w' p v' (bs ++ [c]) ∧ Keep (fun g => g = p ∨ blk v g) w w' ∧ ∀ g, blk v' g → blk v g ∨ w.heap.size ≤ g) := by
  refine calls_of_cfg c45_ok (Nat.le_of_ble_eq_true rfl) ?_
  simp only [argE_nil, argE_cons, Nat.reduceAdd, Nat.zero_add]
  (refine W_at c45_ok ?_; refine ⟨_, rfl, ?_⟩; simp (disch := first | omega | assumption | rfl | (simp only [vcS] <;> omega) | fail) only [↓ptV_l, ↓vcA, vcB, ↓vcD, vcE, ↓reduceIte, Nat.reduceEqDiff, Nat.reduceAdd, Nat.reduceMul, Nat.reduceLeDiff, Int.reduceLE, Int.reduceLT, Int.reduceEq, Int.reduceToNat, Int.reduceAdd, Int.reduceSub, Int.reduceMul, Int.reduceNeg, reduceCtorEq, Option.bind_some, Option.map_some, List.length_cons, List.length_nil, vcM, List.getElem?_toArray, List.getElem?_cons_zero, List.getElem?_cons_succ])
  (refine W_at c45_ok ?_; refine ⟨_, rfl, ?_⟩; simp (disch := first | omega | assumption | rfl | (simp only [vcS] <;> omega) | fail) only [↓ptV_l, ↓vcA, vcB, ↓vcD, vcE, ↓reduceIte, Nat.reduceEqDiff, Nat.reduceAdd, Nat.reduceMul, Nat.reduceLeDiff, Int.reduceLE, Int.reduceLT, Int.reduceEq, Int.reduceToNat, Int.reduceAdd, Int.reduceSub, Int.reduceMul, Int.reduceNeg, reduceCtorEq, Option.bind_some, Option.map_some, List.length_cons, List.length_nil, vcM, List.getElem?_toArray, List.getElem?_cons_zero, List.getElem?_cons_succ])
  refine callV_ret (copyCheck_ok w p v bs h.is) ?_
  rintro _ w1 ⟨hp1, k1⟩
  first | (simp (disch := first | omega | assumption | rfl | (simp only [vcS] <;> omega) | fail) only [↓ptV_l, ↓vcA, vcB, ↓vcD, vcE, ↓reduceIte, Nat.reduceEqDiff, Nat.reduceAdd, Nat.reduceMul, Nat.reduceLeDiff, Int.reduceLE, Int.reduceLT, Int.reduceEq, Int.reduceToNat, Int.reduceAdd, Int.reduceSub, Int.reduceMul, Int.reduceNeg, reduceCtorEq, Option.bind_some, Option.map_some, List.length_cons, List.length_nil, vcM, List.getElem?_toArray, List.getElem?_cons_zero, List.getElem?_cons_succ]) | skip
  have ho1 : Own1 w1 v bs := h.is.own.keep k1 fun g hg e => h.is.ne (e ▸ hg)
  have hpl := h.is.lt
  have g1 : (#[.pointer (some ⟨p, 0, none⟩), v] : Array Value)[1]? = some v := rfl
  (refine W_at c45_ok ?_; refine ⟨_, rfl, ?_⟩; simp (disch := first | omega | assumption | rfl | (simp only [vcS] <;> omega) | fail) only [↓ptV_l, ↓vcA, vcB, ↓vcD, vcE, ↓reduceIte, Nat.reduceEqDiff, Nat.reduceAdd, Nat.reduceMul, Nat.reduceLeDiff, Int.reduceLE, Int.reduceLT, Int.reduceEq, Int.reduceToNat, Int.reduceAdd, Int.reduceSub, Int.reduceMul, Int.reduceNeg, reduceCtorEq, Option.bind_some, Option.map_some, List.length_cons, List.length_nil, vcM, List.getElem?_toArray, List.getElem?_cons_zero, List.getElem?_cons_succ, hp1, g1])
  refine appL (news := [c]) ho1 (by simp; omega) fun v' w2 h1 h2 h3 => ?_
  have hp2 : w2.heap[p]? = some (.cells #[.pointer (some ⟨p, 0, none⟩), v] 75 (0, 0)) := h2.at hp1 h.is.ne
  refine ⟨one_row h1, wr1_of hp2 (by simp), ?_⟩
  have hp3 : (w2.setCell ⟨p, 1, none⟩ v').heap[p]? = some (.cells #[.pointer (some ⟨p, 0, none⟩), v'] 75 (0, 0)) := by rw [heap_setCell_eq hp2]; rfl
  have k3 : Keep (fun i => i = p) w2 (w2.setCell ⟨p, 1, none⟩ v') := (Keep.refl _ w2).setCell _ fun _ => rfl
  generalize World.setCell _ _ _ = w3 at hp3 k3 ⊢
  (refine W_at c45_ok ?_; refine ⟨_, rfl, ?_⟩; simp (disch := first | omega | assumption | rfl | (simp only [vcS] <;> omega) | fail) only [↓ptV_l, ↓vcA, vcB, ↓vcD, vcE, ↓reduceIte, Nat.reduceEqDiff, Nat.reduceAdd, Nat.reduceMul, Nat.reduceLeDiff, Int.reduceLE, Int.reduceLT, Int.reduceEq, Int.reduceToNat, Int.reduceAdd, Int.reduceSub, Int.reduceMul, Int.reduceNeg, reduceCtorEq, Option.bind_some, Option.map_some, List.length_cons, List.length_nil, vcM, List.getElem?_toArray, List.getElem?_cons_zero, List.getElem?_cons_succ])
  (refine W_at c45_ok ?_; refine ⟨_, rfl, ?_⟩; simp (disch := first | omega | assumption | rfl | (simp only [vcS] <;> omega) | fail) only [↓ptV_l, ↓vcA, vcB, ↓vcD, vcE, ↓reduceIte, Nat.reduceEqDiff, Nat.reduceAdd, Nat.reduceMul, Nat.reduceLeDiff, Int.reduceLE, Int.reduceLT, Int.reduceEq, Int.reduceToNat, Int.reduceAdd, Int.reduceSub, Int.reduceMul, Int.reduceNeg, reduceCtorEq, Option.bind_some, Option.map_some, List.length_cons, List.length_nil, vcM, List.getElem?_toArray, List.getElem?_cons_zero, List.getElem?_cons_succ, Ret_returned])
  have hlo := h.lo
  have hb3 : ∀ g, blk v' g → w0.heap.size ≤ g ∧ g ≠ p := fun g hg => by
    rcases h3 g hg with hh | hh
    · exact ⟨h.blk g hh, fun e => h.is.ne (e ▸ hh)⟩
    · have := k1.size; exact ⟨by omega, by omega⟩
  refine ⟨v', ⟨⟨⟨_, .inr rfl, hp3⟩, h1.keep k3 fun g hg e => (hb3 g hg).2 e, fun e => by simp at e⟩, ?_, h.lo, fun g hg => (hb3 g hg).1⟩, ((k1.mono fun _ h => .inl h).trans h2 fun i hi hb => .inr hb).trans k3 fun i hi e => .inl e, fun g hg => (h3 g hg).elim .inl fun hh => .inr (Nat.le_trans k1.size hh)⟩
  refine ((h.ext.trans k1 fun i hi e => ?_).trans h2 fun i hi hg => ?_).trans k3 fun i hi e => ?_
  · omega
  · have := h.blk i hg; omega
  · omega
theorem writeByte_ok (w0 w : World) (p : Nat) (v : Value) (bs : List Int) (c : Int) (h : BNew w0 w p v bs) (hl : bs.length ≤ 100000000) :
    Calls Tryd.prog 45 #[.pointer (some ⟨p, 0, none⟩), .int .u8 c] w (Ret fun _ w' => ∃ v', BNew w0 w' p v' (bs ++ [c])) := by
  refine Calls.mono (writeByte_ok2 w0 w p v bs c h hl) ?_
  rintro en w' ⟨u, e, v', h1, _⟩
  exact ⟨u, e, v', h1⟩
theorem bix_sd {P : Program} {ts : List TypeId} {ty : TypeId} {cs : List Bool} {vs : List Value} {w w' : World} {v : Value} {K : Value → World → Prop} (h : (Builtin.unsafeSliceData_ ts.toArray ty vs.toArray).run P w = .ok v w') (hk : K v w') : bixV P .unsafeSliceData ts ty cs vs w K := by
  refine ⟨v, w', ?_, hk⟩
  show (do pure (Next.value (← Builtin.unsafeSliceData_ ts.toArray ty vs.toArray)) : Sem Next).run P w = _
  rw [Sem.run_bind, h]
  rfl
theorem bix_us {P : Program} {ts : List TypeId} {ty : TypeId} {cs : List Bool} {vs : List Value} {w w' : World} {v : Value} {K : Value → World → Prop} (h : (Builtin.unsafeString_ ts.toArray ty vs.toArray).run P w = .ok v w') (hk : K v w') : bixV P .unsafeString ts ty cs vs w K := by
  refine ⟨v, w', ?_, hk⟩
  show (do pure (Next.value (← Builtin.unsafeString_ ts.toArray ty vs.toArray)) : Sem Next).run P w = _
  rw [Sem.run_bind, h]
  rfl
theorem Keep.freeze {S : Nat → Prop} {a w : World} (h : Keep S a w) {g o n : Nat} (hg : g < a.heap.size → S g) : Keep S a (w.freeze ⟨g, o, none⟩ n) := by
  unfold World.freeze
  split
  · exact h
  · refine ⟨h.os, h.tape, h.output, ?_, fun k hk hs => ?_⟩
    · have := h.size; simpa using this
    · have hne : g ≠ k := by rintro rfl; exact hs (hg hk)
      show (w.heap.modify g _)[k]? = _
      rw [Array.getElem?_modify, if_neg hne]
      exact h.block k hk hs
theorem string_ok (w : World) (p : Nat) (v : Value) (bs : List Int) (h : BAt w p v bs) (hb : byt bs) :
    Calls Tryd.prog 46 #[.pointer (some ⟨p, 0, none⟩)] w (Ret fun u w' => u = .string (strOf bs) ∧ Keep (fun i => blk v i) w w') := by
  refine calls_of_cfg c46_ok (Nat.le_of_ble_eq_true rfl) ?_
  simp only [argE_nil, argE_cons, Nat.reduceAdd, Nat.zero_add]
  obtain ⟨a, _, hp⟩ := h.at'
  have g1 : (#[a, v] : Array Value)[1]? = some v := rfl
  have hlen := h.own.rd.len
  (refine W_at c46_ok ?_; refine ⟨_, rfl, ?_⟩; simp (disch := first | omega | assumption | rfl | (simp only [vcS] <;> omega) | fail) only [↓ptV_l, ↓vcA, vcB, ↓vcD, vcE, ↓reduceIte, Nat.reduceEqDiff, Nat.reduceAdd, Nat.reduceMul, Nat.reduceLeDiff, Int.reduceLE, Int.reduceLT, Int.reduceEq, Int.reduceToNat, Int.reduceAdd, Int.reduceSub, Int.reduceMul, Int.reduceNeg, reduceCtorEq, Option.bind_some, Option.map_some, List.length_cons, List.length_nil, vcM, List.getElem?_toArray, List.getElem?_cons_zero, List.getElem?_cons_succ])
  by_cases h0 : bs = []
  · obtain rfl := h.nil h0
    subst h0
    (refine W_at c46_ok ?_; refine ⟨_, rfl, ?_⟩; simp (disch := first | omega | assumption | rfl | (simp only [vcS] <;> omega) | fail) only [↓ptV_l, ↓vcA, vcB, ↓vcD, vcE, ↓reduceIte, Nat.reduceEqDiff, Nat.reduceAdd, Nat.reduceMul, Nat.reduceLeDiff, Int.reduceLE, Int.reduceLT, Int.reduceEq, Int.reduceToNat, Int.reduceAdd, Int.reduceSub, Int.reduceMul, Int.reduceNeg, reduceCtorEq, Option.bind_some, Option.map_some, List.length_cons, List.length_nil, vcM, List.getElem?_toArray, List.getElem?_cons_zero, List.getElem?_cons_succ, hp, g1])
    refine bix_sd (Lib.run_unsafeSliceData_nil _ _ _ _ _) ?_
    first | (simp (disch := first | omega | assumption | rfl | (simp only [vcS] <;> omega) | fail) only [↓ptV_l, ↓vcA, vcB, ↓vcD, vcE, ↓reduceIte, Nat.reduceEqDiff, Nat.reduceAdd, Nat.reduceMul, Nat.reduceLeDiff, Int.reduceLE, Int.reduceLT, Int.reduceEq, Int.reduceToNat, Int.reduceAdd, Int.reduceSub, Int.reduceMul, Int.reduceNeg, reduceCtorEq, Option.bind_some, Option.map_some, List.length_cons, List.length_nil, vcM, List.getElem?_toArray, List.getElem?_cons_zero, List.getElem?_cons_succ, hp, g1]) | skip
    refine bix_us (Lib.run_unsafeString_none _ _ _ _ _) ?_
    first | (simp (disch := first | omega | assumption | rfl | (simp only [vcS] <;> omega) | fail) only [↓ptV_l, ↓vcA, vcB, ↓vcD, vcE, ↓reduceIte, Nat.reduceEqDiff, Nat.reduceAdd, Nat.reduceMul, Nat.reduceLeDiff, Int.reduceLE, Int.reduceLT, Int.reduceEq, Int.reduceToNat, Int.reduceAdd, Int.reduceSub, Int.reduceMul, Int.reduceNeg, reduceCtorEq, Option.bind_some, Option.map_some, List.length_cons, List.length_nil, vcM, List.getElem?_toArray, List.getElem?_cons_zero, List.getElem?_cons_succ]) | skip
    (refine W_at c46_ok ?_; refine ⟨_, rfl, ?_⟩; simp (disch := first | omega | assumption | rfl | (simp only [vcS] <;> omega) | fail) only [↓ptV_l, ↓vcA, vcB, ↓vcD, vcE, ↓reduceIte, Nat.reduceEqDiff, Nat.reduceAdd, Nat.reduceMul, Nat.reduceLeDiff, Int.reduceLE, Int.reduceLT, Int.reduceEq, Int.reduceToNat, Int.reduceAdd, Int.reduceSub, Int.reduceMul, Int.reduceNeg, reduceCtorEq, Option.bind_some, Option.map_some, List.length_cons, List.length_nil, vcM, List.getElem?_toArray, List.getElem?_cons_zero, List.getElem?_cons_succ, Ret_returned])
    exact ⟨rfl, (Keep.refl _ w).drew⟩
  · have hown : w.drew.ownsRow 0 5 1 v bs.length (bv bs) := h.own.ext ((Keep.refl _ w).drew)
    have hpd : w.drew.heap[p]? = some (.cells #[a, v] 75 (0, 0)) := hp
    have hbs : bs.length ≠ 0 := fun e => h0 (List.eq_nil_of_length_eq_zero e)
    (refine W_at c46_ok ?_; refine ⟨_, rfl, ?_⟩; simp (disch := first | omega | assumption | rfl | (simp only [vcS] <;> omega) | fail) only [↓ptV_l, ↓vcA, vcB, ↓vcD, vcE, ↓reduceIte, Nat.reduceEqDiff, Nat.reduceAdd, Nat.reduceMul, Nat.reduceLeDiff, Int.reduceLE, Int.reduceLT, Int.reduceEq, Int.reduceToNat, Int.reduceAdd, Int.reduceSub, Int.reduceMul, Int.reduceNeg, reduceCtorEq, Option.bind_some, Option.map_some, List.length_cons, List.length_nil, vcM, List.getElem?_toArray, List.getElem?_cons_zero, List.getElem?_cons_succ, hp, g1, hlen])
    obtain ⟨g, cap, cur, rfl, hg, hnc, hcm, hcs⟩ : ∃ g cap cur, v = .slice (some ⟨g, 0, none⟩) bs.length cap ∧ w.drew.heap[g]? = some (.cells cur 5 (0, 0)) ∧ bs.length ≤ cap ∧ cap ≤ maxLen ∧ cur.size = cap * 1 := by
      rcases hown.2 with ⟨_, hz⟩ | ⟨g, cap, cur, hv, _, hg, hn, hcm, hcs, _⟩
      · exact absurd hz hbs
      · exact ⟨g, cap, cur, hv, hg, hn, hcm, hcs⟩
    refine bix_sd (Lib.run_unsafeSliceData_row _ _ _ _ _ _ (by omega)) ?_
    refine ⟨by rw [hpd]; rfl, ?_⟩
    have hl : (bs.map fun m => UInt8.ofNat m.toNat).length = bs.length := List.length_map _
    have hml : maxLen = 9223372036854775807 := rfl
    have hUS := Lib.run_unsafeString_row (P := Tryd.prog) w.drew 87 3 9 5 Tryd.underlying87 (by kernel_rfl) g cur.size (by simp [World.shape?, hg]) (bs.map fun m => UInt8.ofNat m.toNat) (by simpa using h0) (by rw [hl]; omega) (by rw [hl]; omega) (by
      intro j x hx
      refine hown.cells (g := g) rfl j (.int .u8 x.toNat) ?_
      rw [List.getElem?_map] at hx
      cases hj : bs[j]? with
      | none => rw [hj] at hx; cases hx
      | some m =>
        rw [hj] at hx
        obtain rfl := Option.some.inj hx
        have hm := hb m (List.mem_of_getElem? hj)
        simp only [bv, List.getElem?_map, hj, Option.map_some, u8i hm])
    rw [hl] at hUS
    refine bix_us hUS ?_
    (refine W_at c46_ok ?_; refine ⟨_, rfl, ?_⟩; simp (disch := first | omega | assumption | rfl | (simp only [vcS] <;> omega) | fail) only [↓ptV_l, ↓vcA, vcB, ↓vcD, vcE, ↓reduceIte, Nat.reduceEqDiff, Nat.reduceAdd, Nat.reduceMul, Nat.reduceLeDiff, Int.reduceLE, Int.reduceLT, Int.reduceEq, Int.reduceToNat, Int.reduceAdd, Int.reduceSub, Int.reduceMul, Int.reduceNeg, reduceCtorEq, Option.bind_some, Option.map_some, List.length_cons, List.length_nil, vcM, List.getElem?_toArray, List.getElem?_cons_zero, List.getElem?_cons_succ, Ret_returned])
    refine ⟨rfl, Keep.freeze ((Keep.refl _ w).drew) fun _ => rfl⟩
end Go.Proofs
namespace Go.Proofs
open Go.Vc
set_option maxRecDepth 10000

def hexF (x : Int) : Int := if x < 10 then 48 + x else 87 + x
theorem hexF_b {x : Int} (h : 0 ≤ x ∧ x < 16) : 0 ≤ hexF x ∧ hexF x ≤ 255 := by unfold hexF; split <;> omega
def hexL (bs : List Int) : List Int := bs.flatMap fun b => [hexF (b / 16), hexF (b % 16)]
theorem hexL_byt {bs : List Int} (h : byt bs) : byt (hexL bs) := by
  intro x hx
  obtain ⟨b, hb, hx⟩ := List.mem_flatMap.1 hx
  have := h b hb
  rcases List.mem_cons.1 hx with rfl | hx
  · exact hexF_b (by omega)
  · rw [List.mem_singleton.1 hx]; exact hexF_b (by omega)
theorem hexL_len (bs : List Int) : (hexL bs).length = 2 * bs.length := by
  induction bs with
  | nil => rfl
  | cons b bs ih => simp only [hexL, List.flatMap_cons, List.length_append, List.length_cons, List.length_nil] at ih ⊢; omega
theorem hexL_snoc (a : List Int) (b : Int) : hexL (a ++ [b]) = hexL a ++ [hexF (b / 16)] ++ [hexF (b % 16)] := by simp [hexL]
def hexS : List Int := [48, 49, 50, 51, 52, 53, 54, 55, 56, 57, 97, 98, 99, 100, 101, 102]
theorem hexS_is : (⟨#[48, 49, 50, 51, 52, 53, 54, 55, 56, 57, 97, 98, 99, 100, 101, 102]⟩ : ByteArray) = strOf hexS := by decide +kernel
theorem hex_at {x : Int} (h : 0 ≤ x ∧ x < 16) : (strOf hexS)[x.toNat]? = some (UInt8.ofNat (hexF x).toNat) := by
  obtain ⟨n, rfl⟩ := Int.eq_ofNat_of_zero_le h.1
  have hd : ∀ n : Fin 16, (strOf hexS)[n.val]? = some (UInt8.ofNat (hexF (n.val : Int)).toNat) := by decide +kernel
  have := hd ⟨n, by omega⟩
  simpa using this
theorem shr_4 {x : Int} (h : 0 ≤ x) : x.fdiv (2 ^ Nat.min 4 IntKind.u8.bits) = x / 16 := by
  show x.fdiv (2 ^ (Nat.min 4 8)) = x / 16
  rw [show Nat.min 4 8 = 4 from rfl, Int.fdiv_eq_ediv_of_nonneg _ (by decide)]
  rfl
theorem and_15 {x : Int} (h : 0 ≤ x ∧ x ≤ 255) : IntKind.u8.wrap (((BitVec.ofInt IntKind.u8.bits x &&& BitVec.ofInt IntKind.u8.bits 15).toNat : Nat) : Int) = x % 16 := by
  obtain ⟨n, rfl⟩ := Int.eq_ofNat_of_zero_le h.1
  have hd : ∀ n : Fin 256, IntKind.u8.wrap (((BitVec.ofInt IntKind.u8.bits ((n.val : Nat) : Int) &&& BitVec.ofInt IntKind.u8.bits 15).toNat : Nat) : Int) = ((n.val : Nat) : Int) % 16 := by decide +kernel
  exact hd ⟨n, by omega⟩
theorem hex_ok (w : World) (v : Value) (bs : List Int) (h : Rd w v bs) (hb : byt bs) (hl : bs.length ≤ 1000000) :
    Calls Tryd.prog 23 #[v] w (Ret fun u w' => u = .string (strOf (hexL bs)) ∧ Ext w w') := by
  refine calls_of_cfg c23_ok (Nat.le_of_ble_eq_true rfl) ?_
  simp only [argE_nil, argE_cons, Nat.reduceAdd, Nat.zero_add]
  (refine W_at c23_ok ?_; refine ⟨_, rfl, ?_⟩; simp (disch := first | omega | assumption | rfl | (simp only [vcS] <;> omega) | fail) only [↓ptV_l, ↓vcA, vcB, ↓vcD, vcE, ↓reduceIte, Nat.reduceEqDiff, Nat.reduceAdd, Nat.reduceMul, Nat.reduceLeDiff, Int.reduceLE, Int.reduceLT, Int.reduceEq, Int.reduceToNat, Int.reduceAdd, Int.reduceSub, Int.reduceMul, Int.reduceNeg, reduceCtorEq, Option.bind_some, Option.map_some, List.length_cons, List.length_nil, vcM, List.getElem?_toArray, List.getElem?_cons_zero, List.getElem?_cons_succ])
  have hz : zc [(1, Value.pointer none), (1, Value.slice none 0 0)] = #[.pointer none, .slice none 0 0] := rfl
  (refine W_at c23_ok ?_; refine ⟨_, rfl, ?_⟩; simp (disch := first | omega | assumption | rfl | (simp only [vcS] <;> omega) | fail) only [↓ptV_l, ↓vcA, vcB, ↓vcD, vcE, ↓reduceIte, Nat.reduceEqDiff, Nat.reduceAdd, Nat.reduceMul, Nat.reduceLeDiff, Int.reduceLE, Int.reduceLT, Int.reduceEq, Int.reduceToNat, Int.reduceAdd, Int.reduceSub, Int.reduceMul, Int.reduceNeg, reduceCtorEq, Option.bind_some, Option.map_some, List.length_cons, List.length_nil, vcM, List.getElem?_toArray, List.getElem?_cons_zero, List.getElem?_cons_succ, hz])
  have hN := BNew.start w
  generalize w.heap.size = p at hN ⊢
  generalize World.alloc _ _ = w1 at hN ⊢
  have hlen := h.len
  (refine W_at c23_ok ?_; refine ⟨_, rfl, ?_⟩; simp (disch := first | omega | assumption | rfl | (simp only [vcS] <;> omega) | fail) only [↓ptV_l, ↓vcA, vcB, ↓vcD, vcE, ↓reduceIte, Nat.reduceEqDiff, Nat.reduceAdd, Nat.reduceMul, Nat.reduceLeDiff, Int.reduceLE, Int.reduceLT, Int.reduceEq, Int.reduceToNat, Int.reduceAdd, Int.reduceSub, Int.reduceMul, Int.reduceNeg, reduceCtorEq, Option.bind_some, Option.map_some, List.length_cons, List.length_nil, vcM, List.getElem?_toArray, List.getElem?_cons_zero, List.getElem?_cons_succ, hlen])
  have L : ∀ (k i : Nat) (wj : World) (vb : Value) (tl : Env), k + i = bs.length → BNew w wj p vb (hexL (bs.take i)) →
      W Tryd.prog (Ret fun u w' => u = .string (strOf (hexL bs)) ∧ Ext w w') 23 9 ((3, .pointer (some ⟨p, 0, none⟩)) :: (6, v) :: (7, .int .i64 bs.length) :: (8, .int .i64 i) :: tl) wj := by
    intro k
    induction k with
    | zero =>
      intro i wj vb tl hi hB
      have hil : ¬ ((i : Int) < (bs.length : Int)) := by omega
      rw [List.take_of_length_le (by omega)] at hB
      (refine W_at c23_ok ?_; refine ⟨_, rfl, ?_⟩; simp (disch := first | omega | assumption | rfl | (simp only [vcS] <;> omega) | fail) only [↓ptV_l, ↓vcA, vcB, ↓vcD, vcE, ↓reduceIte, Nat.reduceEqDiff, Nat.reduceAdd, Nat.reduceMul, Nat.reduceLeDiff, Int.reduceLE, Int.reduceLT, Int.reduceEq, Int.reduceToNat, Int.reduceAdd, Int.reduceSub, Int.reduceMul, Int.reduceNeg, reduceCtorEq, Option.bind_some, Option.map_some, List.length_cons, List.length_nil, vcM, List.getElem?_toArray, List.getElem?_cons_zero, List.getElem?_cons_succ, hil])
      (refine W_at c23_ok ?_; refine ⟨_, rfl, ?_⟩; simp (disch := first | omega | assumption | rfl | (simp only [vcS] <;> omega) | fail) only [↓ptV_l, ↓vcA, vcB, ↓vcD, vcE, ↓reduceIte, Nat.reduceEqDiff, Nat.reduceAdd, Nat.reduceMul, Nat.reduceLeDiff, Int.reduceLE, Int.reduceLT, Int.reduceEq, Int.reduceToNat, Int.reduceAdd, Int.reduceSub, Int.reduceMul, Int.reduceNeg, reduceCtorEq, Option.bind_some, Option.map_some, List.length_cons, List.length_nil, vcM, List.getElem?_toArray, List.getElem?_cons_zero, List.getElem?_cons_succ])
      (refine W_at c23_ok ?_; refine ⟨_, rfl, ?_⟩; simp (disch := first | omega | assumption | rfl | (simp only [vcS] <;> omega) | fail) only [↓ptV_l, ↓vcA, vcB, ↓vcD, vcE, ↓reduceIte, Nat.reduceEqDiff, Nat.reduceAdd, Nat.reduceMul, Nat.reduceLeDiff, Int.reduceLE, Int.reduceLT, Int.reduceEq, Int.reduceToNat, Int.reduceAdd, Int.reduceSub, Int.reduceMul, Int.reduceNeg, reduceCtorEq, Option.bind_some, Option.map_some, List.length_cons, List.length_nil, vcM, List.getElem?_toArray, List.getElem?_cons_zero, List.getElem?_cons_succ])
      refine callV_ret (string_ok wj p vb _ hB.is (hexL_byt hb)) ?_
      rintro _ w2 ⟨rfl, hK⟩
      first | (simp (disch := first | omega | assumption | rfl | (simp only [vcS] <;> omega) | fail) only [↓ptV_l, ↓vcA, vcB, ↓vcD, vcE, ↓reduceIte, Nat.reduceEqDiff, Nat.reduceAdd, Nat.reduceMul, Nat.reduceLeDiff, Int.reduceLE, Int.reduceLT, Int.reduceEq, Int.reduceToNat, Int.reduceAdd, Int.reduceSub, Int.reduceMul, Int.reduceNeg, reduceCtorEq, Option.bind_some, Option.map_some, List.length_cons, List.length_nil, vcM, List.getElem?_toArray, List.getElem?_cons_zero, List.getElem?_cons_succ]) | skip
      (refine W_at c23_ok ?_; refine ⟨_, rfl, ?_⟩; simp (disch := first | omega | assumption | rfl | (simp only [vcS] <;> omega) | fail) only [↓ptV_l, ↓vcA, vcB, ↓vcD, vcE, ↓reduceIte, Nat.reduceEqDiff, Nat.reduceAdd, Nat.reduceMul, Nat.reduceLeDiff, Int.reduceLE, Int.reduceLT, Int.reduceEq, Int.reduceToNat, Int.reduceAdd, Int.reduceSub, Int.reduceMul, Int.reduceNeg, reduceCtorEq, Option.bind_some, Option.map_some, List.length_cons, List.length_nil, vcM, List.getElem?_toArray, List.getElem?_cons_zero, List.getElem?_cons_succ, Ret_returned])
      exact hB.ext.trans hK fun i hi hg => by have := hB.blk i hg; omega
    | succ k ih =>
      intro i wj vb tl hi hB
      have hil : (i : Int) < (bs.length : Int) := by omega
      have hi2 : 0 ≤ (i : Int) ∧ (i : Int) < (bs.length : Int) := by omega
      have hwi : IntKind.i64.wrap ((i : Int) + 1) = ((i + 1 : Nat) : Int) := wrap_i64 (by omega) (by omega)
      obtain ⟨b, o, c, rfl, hcell⟩ := (h.ext hB.ext).at (i := i) (by omega)
      have hbb := hb bs[i] (List.getElem_mem _)
      have ht : bs.take (i + 1) = bs.take i ++ [bs[i]] := List.take_succ_eq_append_getElem (by omega)
      have hhl := hexL_len (bs.take i)
      rw [List.length_take] at hhl
      (refine W_at c23_ok ?_; refine ⟨_, rfl, ?_⟩; simp (disch := first | omega | assumption | rfl | (simp only [vcS] <;> omega) | fail) only [↓ptV_l, ↓vcA, vcB, ↓vcD, vcE, ↓reduceIte, Nat.reduceEqDiff, Nat.reduceAdd, Nat.reduceMul, Nat.reduceLeDiff, Int.reduceLE, Int.reduceLT, Int.reduceEq, Int.reduceToNat, Int.reduceAdd, Int.reduceSub, Int.reduceMul, Int.reduceNeg, reduceCtorEq, Option.bind_some, Option.map_some, List.length_cons, List.length_nil, vcM, List.getElem?_toArray, List.getElem?_cons_zero, List.getElem?_cons_succ, hil])
      (refine W_at c23_ok ?_; refine ⟨_, rfl, ?_⟩; simp (disch := first | omega | assumption | rfl | (simp only [vcS] <;> omega) | fail) only [↓ptV_l, ↓vcA, vcB, ↓vcD, vcE, ↓reduceIte, Nat.reduceEqDiff, Nat.reduceAdd, Nat.reduceMul, Nat.reduceLeDiff, Int.reduceLE, Int.reduceLT, Int.reduceEq, Int.reduceToNat, Int.reduceAdd, Int.reduceSub, Int.reduceMul, Int.reduceNeg, reduceCtorEq, Option.bind_some, Option.map_some, List.length_cons, List.length_nil, vcM, List.getElem?_toArray, List.getElem?_cons_zero, List.getElem?_cons_succ])
      (refine W_at c23_ok ?_; refine ⟨_, rfl, ?_⟩; simp (disch := first | omega | assumption | rfl | (simp only [vcS] <;> omega) | fail) only [↓ptV_l, ↓vcA, vcB, ↓vcD, vcE, ↓reduceIte, Nat.reduceEqDiff, Nat.reduceAdd, Nat.reduceMul, Nat.reduceLeDiff, Int.reduceLE, Int.reduceLT, Int.reduceEq, Int.reduceToNat, Int.reduceAdd, Int.reduceSub, Int.reduceMul, Int.reduceNeg, reduceCtorEq, Option.bind_some, Option.map_some, List.length_cons, List.length_nil, vcM, List.getElem?_toArray, List.getElem?_cons_zero, List.getElem?_cons_succ, hi2, hcell, Int.toNat_natCast, Nat.mul_one])
      generalize bs[i] = x at *
      have s4 := shr_4 hbb.1
      have d0 : 0 ≤ x / 16 := by omega
      have x1 := hex_at (x := x / 16) (by omega)
      have x2 := hex_at (x := x % 16) (by omega)
      have u1 := u8i (hexF_b (x := x / 16) (by omega))
      have u2 := u8i (hexF_b (x := x % 16) (by omega))
      have a15 := and_15 hbb
      have m0 : 0 ≤ x % 16 := by omega
      (refine W_at c23_ok ?_; refine ⟨_, rfl, ?_⟩; simp (disch := first | omega | assumption | rfl | (simp only [vcS] <;> omega) | fail) only [↓ptV_l, ↓vcA, vcB, ↓vcD, vcE, ↓reduceIte, Nat.reduceEqDiff, Nat.reduceAdd, Nat.reduceMul, Nat.reduceLeDiff, Int.reduceLE, Int.reduceLT, Int.reduceEq, Int.reduceToNat, Int.reduceAdd, Int.reduceSub, Int.reduceMul, Int.reduceNeg, reduceCtorEq, Option.bind_some, Option.map_some, List.length_cons, List.length_nil, vcM, List.getElem?_toArray, List.getElem?_cons_zero, List.getElem?_cons_succ, s4, hexS_is, d0, x1, u1])
      refine callV_ret (writeByte_ok w wj p vb _ _ hB (by omega)) ?_
      rintro _ w2 ⟨v2, hB2⟩
      first | (simp (disch := first | omega | assumption | rfl | (simp only [vcS] <;> omega) | fail) only [↓ptV_l, ↓vcA, vcB, ↓vcD, vcE, ↓reduceIte, Nat.reduceEqDiff, Nat.reduceAdd, Nat.reduceMul, Nat.reduceLeDiff, Int.reduceLE, Int.reduceLT, Int.reduceEq, Int.reduceToNat, Int.reduceAdd, Int.reduceSub, Int.reduceMul, Int.reduceNeg, reduceCtorEq, Option.bind_some, Option.map_some, List.length_cons, List.length_nil, vcM, List.getElem?_toArray, List.getElem?_cons_zero, List.getElem?_cons_succ]) | skip
      (refine W_at c23_ok ?_; refine ⟨_, rfl, ?_⟩; simp (disch := first | omega | assumption | rfl | (simp only [vcS] <;> omega) | fail) only [↓ptV_l, ↓vcA, vcB, ↓vcD, vcE, ↓reduceIte, Nat.reduceEqDiff, Nat.reduceAdd, Nat.reduceMul, Nat.reduceLeDiff, Int.reduceLE, Int.reduceLT, Int.reduceEq, Int.reduceToNat, Int.reduceAdd, Int.reduceSub, Int.reduceMul, Int.reduceNeg, reduceCtorEq, Option.bind_some, Option.map_some, List.length_cons, List.length_nil, vcM, List.getElem?_toArray, List.getElem?_cons_zero, List.getElem?_cons_succ, a15, hexS_is, m0, x2, u2])
      refine callV_ret (writeByte_ok w w2 p v2 _ _ hB2 (by rw [List.length_append]; simp; omega)) ?_
      rintro _ w3 ⟨v3, hB3⟩
      first | (simp (disch := first | omega | assumption | rfl | (simp only [vcS] <;> omega) | fail) only [↓ptV_l, ↓vcA, vcB, ↓vcD, vcE, ↓reduceIte, Nat.reduceEqDiff, Nat.reduceAdd, Nat.reduceMul, Nat.reduceLeDiff, Int.reduceLE, Int.reduceLT, Int.reduceEq, Int.reduceToNat, Int.reduceAdd, Int.reduceSub, Int.reduceMul, Int.reduceNeg, reduceCtorEq, Option.bind_some, Option.map_some, List.length_cons, List.length_nil, vcM, List.getElem?_toArray, List.getElem?_cons_zero, List.getElem?_cons_succ]) | skip
      (refine W_at c23_ok ?_; refine ⟨_, rfl, ?_⟩; simp (disch := first | omega | assumption | rfl | (simp only [vcS] <;> omega) | fail) only [↓ptV_l, ↓vcA, vcB, ↓vcD, vcE, ↓reduceIte, Nat.reduceEqDiff, Nat.reduceAdd, Nat.reduceMul, Nat.reduceLeDiff, Int.reduceLE, Int.reduceLT, Int.reduceEq, Int.reduceToNat, Int.reduceAdd, Int.reduceSub, Int.reduceMul, Int.reduceNeg, reduceCtorEq, Option.bind_some, Option.map_some, List.length_cons, List.length_nil, vcM, List.getElem?_toArray, List.getElem?_cons_zero, List.getElem?_cons_succ, hwi])
      (refine W_at c23_ok ?_; refine ⟨_, rfl, ?_⟩; simp (disch := first | omega | assumption | rfl | (simp only [vcS] <;> omega) | fail) only [↓ptV_l, ↓vcA, vcB, ↓vcD, vcE, ↓reduceIte, Nat.reduceEqDiff, Nat.reduceAdd, Nat.reduceMul, Nat.reduceLeDiff, Int.reduceLE, Int.reduceLT, Int.reduceEq, Int.reduceToNat, Int.reduceAdd, Int.reduceSub, Int.reduceMul, Int.reduceNeg, reduceCtorEq, Option.bind_some, Option.map_some, List.length_cons, List.length_nil, vcM, List.getElem?_toArray, List.getElem?_cons_zero, List.getElem?_cons_succ])
      exact ih (i + 1) w3 v3 _ (by omega) (by rw [ht, hexL_snoc]; exact hB3)
  exact L bs.length 0 w1 _ _ (by omega) hN
end Go.Proofs
namespace Go.Proofs
open Go.Vc
set_option maxRecDepth 10000

theorem bix_app {P : Program} {ts : List TypeId} {ty : TypeId} {cs : List Bool} {vs : List Value} {w : World} {K : Value → World → Prop} (h : ∃ v w', (Builtin.append_ ts.toArray ty vs.toArray).run P w = .ok v w' ∧ K v w') : bixV P .append ts ty cs vs w K := by
  obtain ⟨v, w', h, hk⟩ := h
  refine ⟨v, w', ?_, hk⟩
  show (do pure (Next.value (← Builtin.append_ ts.toArray ty vs.toArray)) : Sem Next).run P w = _
  rw [Sem.run_bind, h]
  rfl
theorem zrep_u8 (k : Nat) : zrep k [Value.int .u8 0] = bv (List.replicate k 0) := by
  simp [zrep, bv]
theorem zeroCells_u8 (k : Nat) : Builtin.zeroCells #[Value.int .u8 0] k = (bv (List.replicate k 0)).toArray := by
  apply Array.ext'
  rw [zeroCells_eq]
  simp [zrep_u8]
/-- 'append(.., make([]byte, k)...)'. -/
theorem appZ {P : Program} {t tn : TypeId} {ty : TypeId} {i : TypeInfo} (ht : P.underlying t = some (.slice 5)) (htn : P.underlying tn = some (.int .i64)) (hi : P.info? 5 = some i) (hs : i.size = 1) (hb : i.bytes = 1) (hz : i.zero = some (.int .u8 0))
    {w : World} {v : Value} {bs : List Int} {k : Nat} {cs : List Bool} {K : Value → World → Prop} (h : Own1 w v bs) (hlen : bs.length + k ≤ 1000000000)
    (hk : ∀ v' w', Own1 w' v' (bs ++ List.replicate k 0) → Keep (blk v) w w' → (∀ g, blk v' g → blk v g ∨ w.heap.size ≤ g) → K v' w') : bixV P .append [t, tn] ty cs [v, .int .i64 k] w K := by
  refine bix_app ?_
  have hml : maxLen = 9223372036854775807 := rfl
  have hw : IntKind.i64.wrap (k : Int) = k := by rw [IntKind.wrap_i64]; omega
  have hxl : (bv (bs ++ List.replicate k 0)).length = (bs ++ List.replicate k 0).length * 1 := by rw [bv_len, Nat.mul_one]
  by_cases hk0 : k = 0
  · subst hk0
    rw [List.replicate_zero, List.append_nil] at hk
    refine ⟨v, w, ?_, hk v w h (Keep.refl _ w) fun g hg => .inl hg⟩
    obtain ⟨n, c, q, rfl, hnc⟩ : ∃ n c q, v = .slice q n c ∧ n ≤ c := by
      rcases h.2 with ⟨rfl, h0⟩ | ⟨g, cap, cur, rfl, _, _, hn, _⟩
      · exact ⟨0, 0, none, rfl, Nat.le_refl _⟩
      · exact ⟨_, _, _, rfl, hn⟩
    have h00 : IntKind.i64.wrap 0 = 0 := by decide
    cases q <;> simp [Builtin.append_, run_underlying ht, run_underlying htn, sizeOf, typeInfo, hi, hs, hb, asInt, asIntOf, h00, hnc, storeCells]
  · have hro := rdS_own h
    by_cases hc : ∃ g cap cur, v = .slice (some ⟨g, 0, none⟩) bs.length cap ∧ w.heap[g]? = some (.cells cur 5 (0, 0)) ∧ bs.length + k ≤ cap ∧ cap ≤ maxLen ∧ cur.size = cap * 1 ∧ cur.toList.take (bs.length * 1) = bv bs
    · obtain ⟨g, cap, cur, rfl, hg, hnc, hcm, hcs, htk⟩ := hc
      have hfl : flat (bv (List.replicate k 0)).toArray := bv_flat _
      have hokN : okN w g (0 + bs.length) (bv (List.replicate k 0)).toArray.size := okN_of hg (by simp [bv]; omega)
      have hst := storeCells_run (P := P) (b := g) (o := 0 + bs.length) hfl hokN
      have k1 : Keep (fun j => j = g) w (w.putN g (0 + bs.length) (bv (List.replicate k 0)).toArray) := (Keep.refl _ w).putN _ fun _ => rfl
      refine ⟨_, w.putN g (0 + bs.length) (bv (List.replicate k 0)).toArray, ?_, hk (.slice (some ⟨g, 0, none⟩) (bs.length + k) cap) _ ?_ (k1.mono fun j hj => by subst hj; rfl) fun j hj => .inl hj⟩
      · have hlt : ¬ (281474976710656 < (k : Int)) := by omega
        have hst' : (storeCells ⟨g, bs.length, none⟩ (bv (List.replicate k 0))).run P w = .ok () (w.putN g bs.length (bv (List.replicate k 0)).toArray) := by simpa using hst
        simp [Builtin.append_, run_underlying ht, run_underlying htn, sizeOf, typeInfo, hi, hs, hb, hz, asInt, asIntOf, hw, hnc, hk0, zeroValue, zeroCells_u8, addr_add, hlt, Value.cells, hst']
        intro hh; omega
      · refine ⟨by rw [bv_len, Nat.mul_one], .inr ⟨g, cap, _, by rw [List.length_append, List.length_replicate], Nat.zero_le _, heap_putN_eq hg, by rw [List.length_append, List.length_replicate]; exact hnc, hcm, ?_, ?_⟩⟩
        · simp only [spliceA, List.size_toArray, List.length_append, List.length_take, List.length_drop, Array.length_toList, bv_len, List.length_replicate]
          omega
        · simp only [spliceA, Nat.zero_add]
          rw [← Nat.mul_one bs.length, htk, ← hxl, bv_app]
          exact List.take_left
    · have hgrow : ∃ p c, v = .slice p bs.length c ∧ c < bs.length + k := by
        rcases h.2 with ⟨rfl, h0⟩ | ⟨g, cap, cur, rfl, _, hg, hn, hcm, hcs, htk⟩
        · exact ⟨none, 0, by rw [h0], by omega⟩
        · refine ⟨_, cap, rfl, ?_⟩
          rcases Nat.lt_or_ge cap (bs.length + k) with h1 | h1
          · exact h1
          · exact absurd ⟨g, cap, cur, rfl, hg, h1, hcm, hcs, htk⟩ hc
      obtain ⟨p, c, rfl, hcl⟩ := hgrow
      have hfirst : (Builtin.firstCells i.size bs.length (.slice p bs.length c)).run P w.drew = .ok (bv bs).toArray w.drew := by
        rw [hs]
        exact (rdS_run (P := P) (w := w.drew) (rdS_own (w := w.drew) (h.ext ((Keep.refl _ w).drew)))).1
      have hfit := growslice_fits (need := bs.length + k) (old := c) (bytes := i.bytes) hcl (by rw [hb]; omega)
      have hrun := Lib.run_append_grow_zeros (P := P) w t tn ty 5 i (.int .u8 0) .i64 .i64 ht htn hi hz p bs.length c (bv bs) hfirst k (by omega) (by rw [hs]; decide) hcl (by omega) (by rw [hb]; omega) (by omega)
      have hnl : (bs ++ List.replicate k 0).length = bs.length + k := by rw [List.length_append, List.length_replicate]
      refine ⟨_, _, hrun, hk _ _ ⟨by rw [bv_len, Nat.mul_one], .inr ⟨w.heap.size, grownCap w (bs.length + k) c 5, _, by rw [hnl], Nat.zero_le _, heap_alloc_new w.drew _, by rw [hnl]; exact grownCap_ge w _ _ _, grownCap_le_maxLen w _ _ _ (by omega), ?_, ?_⟩⟩ (((Keep.refl _ w).drew).alloc _) fun g hg => ?_⟩
      · have := grownCap_ge w (bs.length + k) c 5
        simp only [Value.cells, zeroCells_u8, Array.size_append, List.size_toArray, bv_len, List.length_replicate]
        omega
      · have e : ((bv bs).toArray ++ Builtin.zeroCells (Value.int .u8 0).cells k ++ Builtin.zeroCells (Value.int .u8 0).cells (grownCap w (bs.length + k) c 5 - (bs.length + k))).toList = bv (bs ++ List.replicate k 0) ++ bv (List.replicate (grownCap w (bs.length + k) c 5 - (bs.length + k)) 0) := by
          simp only [Value.cells, zeroCells_u8, Array.toList_append, bv_app]
        rw [e, ← hxl]
        exact List.take_left
      · cases hg; exact .inr (Nat.le_refl _)
end Go.Proofs
namespace Go.Proofs
open Go.Vc
set_option maxRecDepth 10000

/-- What slices.Clone hands back. -/
theorem sclone_ok (w : World) (v : Value) (bs : List Int) (h : Rd w v bs) (hn : bs.length ≤ 1000000000) :
    Calls Tryd.prog 29 #[v] w (Ret fun u w' => New w w' u bs) := by
  refine calls_of_cfg c29_ok (Nat.le_of_ble_eq_true rfl) ?_
  simp only [argE_nil, argE_cons, Nat.reduceAdd, Nat.zero_add]
  have h0 := h
  obtain ⟨⟨q, c, rfl, hc⟩, hm, hr⟩ := h
  (refine W_at c29_ok ?_; refine ⟨_, rfl, ?_⟩; simp (disch := first | omega | assumption | rfl | (simp only [vcS] <;> omega) | fail) only [↓ptV_l, ↓vcA, vcB, ↓vcD, vcE, ↓reduceIte, Nat.reduceEqDiff, Nat.reduceAdd, Nat.reduceMul, Nat.reduceLeDiff, Int.reduceLE, Int.reduceLT, Int.reduceEq, Int.reduceToNat, Int.reduceAdd, Int.reduceSub, Int.reduceMul, Int.reduceNeg, reduceCtorEq, Option.bind_some, Option.map_some, List.length_cons, List.length_nil, vcM, List.getElem?_toArray, List.getElem?_cons_zero, List.getElem?_cons_succ])
  cases q with
  | none =>
    have hb0 : bs = [] := by
      cases bs with
      | nil => rfl
      | cons b bs =>
        simp only [rdS, List.length_cons] at hr
        rw [if_neg (by omega)] at hr; cases hr
    subst hb0
    (refine W_at c29_ok ?_; refine ⟨_, rfl, ?_⟩; simp (disch := first | omega | assumption | rfl | (simp only [vcS] <;> omega) | fail) only [↓ptV_l, ↓vcA, vcB, ↓vcD, vcE, ↓reduceIte, Nat.reduceEqDiff, Nat.reduceAdd, Nat.reduceMul, Nat.reduceLeDiff, Int.reduceLE, Int.reduceLT, Int.reduceEq, Int.reduceToNat, Int.reduceAdd, Int.reduceSub, Int.reduceMul, Int.reduceNeg, reduceCtorEq, Option.bind_some, Option.map_some, List.length_cons, List.length_nil, vcM, List.getElem?_toArray, List.getElem?_cons_zero, List.getElem?_cons_succ, eqS_none])
    (refine W_at c29_ok ?_; refine ⟨_, rfl, ?_⟩; simp (disch := first | omega | assumption | rfl | (simp only [vcS] <;> omega) | fail) only [↓ptV_l, ↓vcA, vcB, ↓vcD, vcE, ↓reduceIte, Nat.reduceEqDiff, Nat.reduceAdd, Nat.reduceMul, Nat.reduceLeDiff, Int.reduceLE, Int.reduceLT, Int.reduceEq, Int.reduceToNat, Int.reduceAdd, Int.reduceSub, Int.reduceMul, Int.reduceNeg, reduceCtorEq, Option.bind_some, Option.map_some, List.length_cons, List.length_nil, vcM, List.getElem?_toArray, List.getElem?_cons_zero, List.getElem?_cons_succ])
    (refine W_at c29_ok ?_; refine ⟨_, rfl, ?_⟩; simp (disch := first | omega | assumption | rfl | (simp only [vcS] <;> omega) | fail) only [↓ptV_l, ↓vcA, vcB, ↓vcD, vcE, ↓reduceIte, Nat.reduceEqDiff, Nat.reduceAdd, Nat.reduceMul, Nat.reduceLeDiff, Int.reduceLE, Int.reduceLT, Int.reduceEq, Int.reduceToNat, Int.reduceAdd, Int.reduceSub, Int.reduceMul, Int.reduceNeg, reduceCtorEq, Option.bind_some, Option.map_some, List.length_cons, List.length_nil, vcM, List.getElem?_toArray, List.getElem?_cons_zero, List.getElem?_cons_succ])
    (refine W_at c29_ok ?_; refine ⟨_, rfl, ?_⟩; simp (disch := first | omega | assumption | rfl | (simp only [vcS] <;> omega) | fail) only [↓ptV_l, ↓vcA, vcB, ↓vcD, vcE, ↓reduceIte, Nat.reduceEqDiff, Nat.reduceAdd, Nat.reduceMul, Nat.reduceLeDiff, Int.reduceLE, Int.reduceLT, Int.reduceEq, Int.reduceToNat, Int.reduceAdd, Int.reduceSub, Int.reduceMul, Int.reduceNeg, reduceCtorEq, Option.bind_some, Option.map_some, List.length_cons, List.length_nil, vcM, List.getElem?_toArray, List.getElem?_cons_zero, List.getElem?_cons_succ, Ret_returned])
    exact New.nil w
  | some a =>
    (refine W_at c29_ok ?_; refine ⟨_, rfl, ?_⟩; simp (disch := first | omega | assumption | rfl | (simp only [vcS] <;> omega) | fail) only [↓ptV_l, ↓vcA, vcB, ↓vcD, vcE, ↓reduceIte, Nat.reduceEqDiff, Nat.reduceAdd, Nat.reduceMul, Nat.reduceLeDiff, Int.reduceLE, Int.reduceLT, Int.reduceEq, Int.reduceToNat, Int.reduceAdd, Int.reduceSub, Int.reduceMul, Int.reduceNeg, reduceCtorEq, Option.bind_some, Option.map_some, List.length_cons, List.length_nil, vcM, List.getElem?_toArray, List.getElem?_cons_zero, List.getElem?_cons_succ, eqS_some])
    (refine W_at c29_ok ?_; refine ⟨_, rfl, ?_⟩; simp (disch := first | omega | assumption | rfl | (simp only [vcS] <;> omega) | fail) only [↓ptV_l, ↓vcA, vcB, ↓vcD, vcE, ↓reduceIte, Nat.reduceEqDiff, Nat.reduceAdd, Nat.reduceMul, Nat.reduceLeDiff, Int.reduceLE, Int.reduceLT, Int.reduceEq, Int.reduceToNat, Int.reduceAdd, Int.reduceSub, Int.reduceMul, Int.reduceNeg, reduceCtorEq, Option.bind_some, Option.map_some, List.length_cons, List.length_nil, vcM, List.getElem?_toArray, List.getElem?_cons_zero, List.getElem?_cons_succ])
    (refine W_at c29_ok ?_; refine ⟨_, rfl, ?_⟩; simp (disch := first | omega | assumption | rfl | (simp only [vcS] <;> omega) | fail) only [↓ptV_l, ↓vcA, vcB, ↓vcD, vcE, ↓reduceIte, Nat.reduceEqDiff, Nat.reduceAdd, Nat.reduceMul, Nat.reduceLeDiff, Int.reduceLE, Int.reduceLT, Int.reduceEq, Int.reduceToNat, Int.reduceAdd, Int.reduceSub, Int.reduceMul, Int.reduceNeg, reduceCtorEq, Option.bind_some, Option.map_some, List.length_cons, List.length_nil, vcM, List.getElem?_toArray, List.getElem?_cons_zero, List.getElem?_cons_succ])
    have hN : New w (w.alloc (.cells #[] 5)) (.slice (some ⟨w.heap.size, 0, none⟩) 0 0) [] := New.lit (bs := []) (Nat.zero_le _)
    refine appN hN (h0.ext hN.ext) (by simp; omega) fun v' w' h1 _ _ => ?_
    first | (simp (disch := first | omega | assumption | rfl | (simp only [vcS] <;> omega) | fail) only [↓ptV_l, ↓vcA, vcB, ↓vcD, vcE, ↓reduceIte, Nat.reduceEqDiff, Nat.reduceAdd, Nat.reduceMul, Nat.reduceLeDiff, Int.reduceLE, Int.reduceLT, Int.reduceEq, Int.reduceToNat, Int.reduceAdd, Int.reduceSub, Int.reduceMul, Int.reduceNeg, reduceCtorEq, Option.bind_some, Option.map_some, List.length_cons, List.length_nil, vcM, List.getElem?_toArray, List.getElem?_cons_zero, List.getElem?_cons_succ]) | skip
    (refine W_at c29_ok ?_; refine ⟨_, rfl, ?_⟩; simp (disch := first | omega | assumption | rfl | (simp only [vcS] <;> omega) | fail) only [↓ptV_l, ↓vcA, vcB, ↓vcD, vcE, ↓reduceIte, Nat.reduceEqDiff, Nat.reduceAdd, Nat.reduceMul, Nat.reduceLeDiff, Int.reduceLE, Int.reduceLT, Int.reduceEq, Int.reduceToNat, Int.reduceAdd, Int.reduceSub, Int.reduceMul, Int.reduceNeg, reduceCtorEq, Option.bind_some, Option.map_some, List.length_cons, List.length_nil, vcM, List.getElem?_toArray, List.getElem?_cons_zero, List.getElem?_cons_succ, Ret_returned])
    exact h1

theorem U64_and1 (y : BitVec 64) : binR .and (U64 y) (.int .u64 1) = some (U64 (y &&& 1#64)) := U64_and y 1#64
theorem U64_eql1 (y : BitVec 64) : binR .eql (U64 y) (.int .u64 1) = some (.bool (decide (y = 1#64))) := U64_eql y 1#64
theorem U64_shl5 (y : BitVec 64) : binR .shl (U64 y) (.int .u64 5) = some (U64 (y <<< 5)) := U64_shl y .u64 5 (by decide)
theorem U64_sub1 (y : BitVec 64) : binR .sub (U64 y) (.int .u64 1) = some (U64 (y - 1#64)) := U64_sub y 1#64
theorem U64_1shl {k : Nat} (h : k ≤ 64) (q : IntKind) : binR .shl (.int .u64 1) (.int q (k : Int)) = some (U64 ((1#64) <<< k)) := U64_shl 1#64 q k h
/-- A byte as a word. -/
def b64 (v : Int) : BitVec 64 := BitVec.ofNat 64 v.toNat
theorem u64_byte {v : Int} (h : 0 ≤ v ∧ v ≤ 255) : Value.int .u64 (IntKind.u64.wrap v) = U64 (b64 v) := by
  have e : IntKind.u64.wrap v = (v.toNat : Int) := by rw [wrap_u64]; omega
  rw [e]
  exact U64_of _ (by omega)

/-- What is added where bits leave. -/
def mixF : List (BitVec 64) → Nat → BitVec 64 → BitVec 64 → BitVec 64
  | [], _, _, c => c
  | x :: g, j, b, c => mixF g (j + 1) b (if (b >>> j) &&& 1#64 = 1#64 then c ^^^ x else c)
def stepB (k : Nat) (g : List (BitVec 64)) (c : BitVec 64) (v : Int) : BitVec 64 := mixF g 0 (c >>> k) (((c &&& ((1#64 <<< k) - 1#64)) <<< 5) ^^^ b64 v)
def runB (k : Nat) (g : List (BitVec 64)) (vs : List Int) : BitVec 64 := vs.foldl (stepB k g) 1#64
def codeC (k : Nat) (g : List (BitVec 64)) : Array Value := #[.int .i64 (k : Int)] ++ (g.map U64).toArray
theorem codeC_size (k : Nat) {g : List (BitVec 64)} (h : g.length = 5) : (codeC k g).size = 6 := by simp [codeC, h]
theorem codeC_flat (k : Nat) (g : List (BitVec 64)) : flat (codeC k g) := by
  intro v hv
  simp [codeC] at hv
  rcases hv with rfl | ⟨x, _, rfl⟩ <;> rfl
theorem codeC_ext (k : Nat) {g : List (BitVec 64)} (h : g.length = 5) : (codeC k g).extract 1 6 = (g.map U64).toArray := by
  apply Array.ext'
  simp [codeC, h]
  exact List.take_of_length_le (by simp [h])
set_option maxHeartbeats 800000 in
theorem run_ok (w : World) (k : Nat) (g : List (BitVec 64)) (v : Value) (vs : List Int) (e : Nat) (hk : k ≤ 64) (hg : g.length = 5) (h : Rd w v vs) (hb : byt vs) (hl : vs.length ≤ 1000000) (he : e ≤ 100) :
    Calls Tryd.prog 27 #[.agg (codeC k g), v, .int .i64 e] w (Ret fun u w' => u = U64 (runB k g (vs ++ List.replicate e 0)) ∧ Ext w w') := by
  refine calls_of_cfg c27_ok (Nat.le_of_ble_eq_true rfl) ?_
  simp only [argE_nil, argE_cons, Nat.reduceAdd, Nat.zero_add]
  have hcs := codeC_size k hg
  have hcf := codeC_flat k g
  have hcx := codeC_ext k hg
  have hc0 : (codeC k g)[0]? = some (.int .i64 k) := by simp [codeC]
  have h1 : Value.int .u64 1 = U64 1#64 := rfl
  (refine W_at c27_ok ?_; refine ⟨_, rfl, ?_⟩; simp (disch := first | omega | assumption | rfl | (simp only [vcS] <;> omega) | fail) only [↓ptV_l, ↓vcA, vcB, ↓vcD, vcE, ↓reduceIte, Nat.reduceEqDiff, Nat.reduceAdd, Nat.reduceMul, Nat.reduceLeDiff, Int.reduceLE, Int.reduceLT, Int.reduceEq, Int.reduceToNat, Int.reduceAdd, Int.reduceSub, Int.reduceMul, Int.reduceNeg, reduceCtorEq, Option.bind_some, Option.map_some, List.length_cons, List.length_nil, vcM, List.getElem?_toArray, List.getElem?_cons_zero, List.getElem?_cons_succ, hcs, hcf])
  have hp3 : (w.alloc (.cells (codeC k g) 55)).heap[w.heap.size]? = some (.cells (codeC k g) 55 (0, 0)) := heap_new _ _ _ rfl
  have hE1 : Ext w (w.alloc (.cells (codeC k g) 55)) := (Keep.refl _ w).alloc _
  generalize World.alloc _ _ = w1 at hp3 hE1 ⊢
  have hpw : w.heap.size < w1.heap.size := lt_of_heap hp3
  generalize w.heap.size = p3 at hp3 hpw ⊢
  (refine W_at c27_ok ?_; refine ⟨_, rfl, ?_⟩; simp (disch := first | omega | assumption | rfl | (simp only [vcS] <;> omega) | fail) only [↓ptV_l, ↓vcA, vcB, ↓vcD, vcE, ↓reduceIte, Nat.reduceEqDiff, Nat.reduceAdd, Nat.reduceMul, Nat.reduceLeDiff, Int.reduceLE, Int.reduceLT, Int.reduceEq, Int.reduceToNat, Int.reduceAdd, Int.reduceSub, Int.reduceMul, Int.reduceNeg, reduceCtorEq, Option.bind_some, Option.map_some, List.length_cons, List.length_nil, vcM, List.getElem?_toArray, List.getElem?_cons_zero, List.getElem?_cons_succ])
  (refine W_at c27_ok ?_; refine ⟨_, rfl, ?_⟩; simp (disch := first | omega | assumption | rfl | (simp only [vcS] <;> omega) | fail) only [↓ptV_l, ↓vcA, vcB, ↓vcD, vcE, ↓reduceIte, Nat.reduceEqDiff, Nat.reduceAdd, Nat.reduceMul, Nat.reduceLeDiff, Int.reduceLE, Int.reduceLT, Int.reduceEq, Int.reduceToNat, Int.reduceAdd, Int.reduceSub, Int.reduceMul, Int.reduceNeg, reduceCtorEq, Option.bind_some, Option.map_some, List.length_cons, List.length_nil, vcM, List.getElem?_toArray, List.getElem?_cons_zero, List.getElem?_cons_succ])
  refine callV_ret (sclone_ok w1 v vs (h.ext hE1) (by omega)) ?_
  rintro u w2 hN2
  first | (simp (disch := first | omega | assumption | rfl | (simp only [vcS] <;> omega) | fail) only [↓ptV_l, ↓vcA, vcB, ↓vcD, vcE, ↓reduceIte, Nat.reduceEqDiff, Nat.reduceAdd, Nat.reduceMul, Nat.reduceLeDiff, Int.reduceLE, Int.reduceLT, Int.reduceEq, Int.reduceToNat, Int.reduceAdd, Int.reduceSub, Int.reduceMul, Int.reduceNeg, reduceCtorEq, Option.bind_some, Option.map_some, List.length_cons, List.length_nil, vcM, List.getElem?_toArray, List.getElem?_cons_zero, List.getElem?_cons_succ]) | skip
  refine appZ (i := (Tryd.prog.info? 5).get!) Tryd.underlying22 Tryd.underlying3 (by kernel_rfl) (by kernel_rfl) (by kernel_rfl) (by kernel_rfl) hN2.own (by omega) fun v' w3 ho3 hk3 _ => ?_
  have hlen := ho3.rd.len
  have hE3 : Ext w1 w3 := hN2.ext.trans hk3 fun i hi hg => by have := hN2.new i hg; omega
  have hp33 := hE3.at hp3 (fun h => h)
  have hEw := hE1.ext hE3
  have hbb : byt (vs ++ List.replicate e 0) := byt_app hb fun x hx => by rw [(List.mem_replicate.1 hx).2]; omega
  have hll : (vs ++ List.replicate e 0).length ≤ 2000000 := by simp; omega
  have hR := ho3.rd
  generalize vs ++ List.replicate e 0 = xs at *
  simp (disch := first | omega | assumption | rfl | (simp only [vcS] <;> omega) | fail) only [↓ptV_l, ↓vcA, vcB, ↓vcD, vcE, ↓reduceIte, Nat.reduceEqDiff, Nat.reduceAdd, Nat.reduceMul, Nat.reduceLeDiff, Int.reduceLE, Int.reduceLT, Int.reduceEq, Int.reduceToNat, Int.reduceAdd, Int.reduceSub, Int.reduceMul, Int.reduceNeg, reduceCtorEq, Option.bind_some, Option.map_some, List.length_cons, List.length_nil, vcM, List.getElem?_toArray, List.getElem?_cons_zero, List.getElem?_cons_succ, hlen]
  have hgs : (g.map U64).toArray.size = 5 := by simp [hg]
  have L : ∀ (n i : Nat) (c : BitVec 64) (tl : Env), n + i = xs.length → (xs.drop i).foldl (stepB k g) c = runB k g xs →
      W Tryd.prog (Ret fun u w' => u = U64 (runB k g xs) ∧ Ext w w') 27 18 ((3, .pointer (some ⟨p3, 0, none⟩)) :: (7, U64 c) :: (16, v') :: (17, .int .i64 xs.length) :: (18, .int .i64 i) :: tl) w3 := by
    intro n
    induction n with
    | zero =>
      intro i c tl hi hf
      have hil : ¬ ((i : Int) < (xs.length : Int)) := by omega
      rw [List.drop_eq_nil_of_le (by omega), List.foldl_nil] at hf
      (refine W_at c27_ok ?_; refine ⟨_, rfl, ?_⟩; simp (disch := first | omega | assumption | rfl | (simp only [vcS] <;> omega) | fail) only [↓ptV_l, ↓vcA, vcB, ↓vcD, vcE, ↓reduceIte, Nat.reduceEqDiff, Nat.reduceAdd, Nat.reduceMul, Nat.reduceLeDiff, Int.reduceLE, Int.reduceLT, Int.reduceEq, Int.reduceToNat, Int.reduceAdd, Int.reduceSub, Int.reduceMul, Int.reduceNeg, reduceCtorEq, Option.bind_some, Option.map_some, List.length_cons, List.length_nil, vcM, List.getElem?_toArray, List.getElem?_cons_zero, List.getElem?_cons_succ, hil])
      (refine W_at c27_ok ?_; refine ⟨_, rfl, ?_⟩; simp (disch := first | omega | assumption | rfl | (simp only [vcS] <;> omega) | fail) only [↓ptV_l, ↓vcA, vcB, ↓vcD, vcE, ↓reduceIte, Nat.reduceEqDiff, Nat.reduceAdd, Nat.reduceMul, Nat.reduceLeDiff, Int.reduceLE, Int.reduceLT, Int.reduceEq, Int.reduceToNat, Int.reduceAdd, Int.reduceSub, Int.reduceMul, Int.reduceNeg, reduceCtorEq, Option.bind_some, Option.map_some, List.length_cons, List.length_nil, vcM, List.getElem?_toArray, List.getElem?_cons_zero, List.getElem?_cons_succ])
      (refine W_at c27_ok ?_; refine ⟨_, rfl, ?_⟩; simp (disch := first | omega | assumption | rfl | (simp only [vcS] <;> omega) | fail) only [↓ptV_l, ↓vcA, vcB, ↓vcD, vcE, ↓reduceIte, Nat.reduceEqDiff, Nat.reduceAdd, Nat.reduceMul, Nat.reduceLeDiff, Int.reduceLE, Int.reduceLT, Int.reduceEq, Int.reduceToNat, Int.reduceAdd, Int.reduceSub, Int.reduceMul, Int.reduceNeg, reduceCtorEq, Option.bind_some, Option.map_some, List.length_cons, List.length_nil, vcM, List.getElem?_toArray, List.getElem?_cons_zero, List.getElem?_cons_succ])
      (refine W_at c27_ok ?_; refine ⟨_, rfl, ?_⟩; simp (disch := first | omega | assumption | rfl | (simp only [vcS] <;> omega) | fail) only [↓ptV_l, ↓vcA, vcB, ↓vcD, vcE, ↓reduceIte, Nat.reduceEqDiff, Nat.reduceAdd, Nat.reduceMul, Nat.reduceLeDiff, Int.reduceLE, Int.reduceLT, Int.reduceEq, Int.reduceToNat, Int.reduceAdd, Int.reduceSub, Int.reduceMul, Int.reduceNeg, reduceCtorEq, Option.bind_some, Option.map_some, List.length_cons, List.length_nil, vcM, List.getElem?_toArray, List.getElem?_cons_zero, List.getElem?_cons_succ, Ret_returned])
      exact ⟨by rw [hf], hEw⟩
    | succ n ih =>
      intro i c tl hi hf
      have hil : (i : Int) < (xs.length : Int) := by omega
      have hi2 : 0 ≤ (i : Int) ∧ (i : Int) < (xs.length : Int) := by omega
      have hwi : IntKind.i64.wrap ((i : Int) + 1) = ((i + 1 : Nat) : Int) := wrap_i64 (by omega) (by omega)
      obtain ⟨b, o, cc, rfl, hcell⟩ := hR.at (i := i) (by omega)
      have hxb := hbb xs[i] (List.getElem_mem _)
      rw [List.drop_eq_getElem_cons (by omega), List.foldl_cons] at hf
      have hbyte := u64_byte hxb
      have s1 := U64_shr c .i64 k hk
      have s2 := U64_1shl hk .i64
      (refine W_at c27_ok ?_; refine ⟨_, rfl, ?_⟩; simp (disch := first | omega | assumption | rfl | (simp only [vcS] <;> omega) | fail) only [↓ptV_l, ↓vcA, vcB, ↓vcD, vcE, ↓reduceIte, Nat.reduceEqDiff, Nat.reduceAdd, Nat.reduceMul, Nat.reduceLeDiff, Int.reduceLE, Int.reduceLT, Int.reduceEq, Int.reduceToNat, Int.reduceAdd, Int.reduceSub, Int.reduceMul, Int.reduceNeg, reduceCtorEq, Option.bind_some, Option.map_some, List.length_cons, List.length_nil, vcM, List.getElem?_toArray, List.getElem?_cons_zero, List.getElem?_cons_succ, hil])
      (refine W_at c27_ok ?_; refine ⟨_, rfl, ?_⟩; simp (disch := first | omega | assumption | rfl | (simp only [vcS] <;> omega) | fail) only [↓ptV_l, ↓vcA, vcB, ↓vcD, vcE, ↓reduceIte, Nat.reduceEqDiff, Nat.reduceAdd, Nat.reduceMul, Nat.reduceLeDiff, Int.reduceLE, Int.reduceLT, Int.reduceEq, Int.reduceToNat, Int.reduceAdd, Int.reduceSub, Int.reduceMul, Int.reduceNeg, reduceCtorEq, Option.bind_some, Option.map_some, List.length_cons, List.length_nil, vcM, List.getElem?_toArray, List.getElem?_cons_zero, List.getElem?_cons_succ])
      generalize xs[i] = x at *
      (refine W_at c27_ok ?_; refine ⟨_, rfl, ?_⟩; simp (disch := first | omega | assumption | rfl | (simp only [vcS] <;> omega) | fail) only [↓ptV_l, ↓vcA, vcB, ↓vcD, vcE, ↓reduceIte, Nat.reduceEqDiff, Nat.reduceAdd, Nat.reduceMul, Nat.reduceLeDiff, Int.reduceLE, Int.reduceLT, Int.reduceEq, Int.reduceToNat, Int.reduceAdd, Int.reduceSub, Int.reduceMul, Int.reduceNeg, reduceCtorEq, Option.bind_some, Option.map_some, List.length_cons, List.length_nil, vcM, List.getElem?_toArray, List.getElem?_cons_zero, List.getElem?_cons_succ, hi2, hcell, Int.toNat_natCast, Nat.mul_one])
      (refine W_at c27_ok ?_; refine ⟨_, rfl, ?_⟩; simp (disch := first | omega | assumption | rfl | (simp only [vcS] <;> omega) | fail) only [↓ptV_l, ↓vcA, vcB, ↓vcD, vcE, ↓reduceIte, Nat.reduceEqDiff, Nat.reduceAdd, Nat.reduceMul, Nat.reduceLeDiff, Int.reduceLE, Int.reduceLT, Int.reduceEq, Int.reduceToNat, Int.reduceAdd, Int.reduceSub, Int.reduceMul, Int.reduceNeg, reduceCtorEq, Option.bind_some, Option.map_some, List.length_cons, List.length_nil, vcM, List.getElem?_toArray, List.getElem?_cons_zero, List.getElem?_cons_succ, hp33, hc0, s1])
      (refine W_at c27_ok ?_; refine ⟨_, rfl, ?_⟩; simp (disch := first | omega | assumption | rfl | (simp only [vcS] <;> omega) | fail) only [↓ptV_l, ↓vcA, vcB, ↓vcD, vcE, ↓reduceIte, Nat.reduceEqDiff, Nat.reduceAdd, Nat.reduceMul, Nat.reduceLeDiff, Int.reduceLE, Int.reduceLT, Int.reduceEq, Int.reduceToNat, Int.reduceAdd, Int.reduceSub, Int.reduceMul, Int.reduceNeg, reduceCtorEq, Option.bind_some, Option.map_some, List.length_cons, List.length_nil, vcM, List.getElem?_toArray, List.getElem?_cons_zero, List.getElem?_cons_succ, hp33, hc0, ↓s2, U64_sub1, U64_and, U64_shl5, hbyte, U64_xor])
      (refine W_at c27_ok ?_; refine ⟨_, rfl, ?_⟩; simp (disch := first | omega | assumption | rfl | (simp only [vcS] <;> omega) | fail) only [↓ptV_l, ↓vcA, vcB, ↓vcD, vcE, ↓reduceIte, Nat.reduceEqDiff, Nat.reduceAdd, Nat.reduceMul, Nat.reduceLeDiff, Int.reduceLE, Int.reduceLT, Int.reduceEq, Int.reduceToNat, Int.reduceAdd, Int.reduceSub, Int.reduceMul, Int.reduceNeg, reduceCtorEq, Option.bind_some, Option.map_some, List.length_cons, List.length_nil, vcM, List.getElem?_toArray, List.getElem?_cons_zero, List.getElem?_cons_succ, hp33, hcs, hcx])
      have L2 : ∀ (gl : List (BitVec 64)) (j : Nat) (d : BitVec 64) (tl2 : Env), g.drop j = gl → j ≤ 5 → mixF gl j (c >>> k) d = stepB k g c x →
          W Tryd.prog (Ret fun u w' => u = U64 (runB k g xs) ∧ Ext w w') 27 12 ((3, .pointer (some ⟨p3, 0, none⟩)) :: (7, U64 d) :: (10, U64 (c >>> k)) :: (16, .slice (some ⟨b, o, none⟩) xs.length cc) :: (17, .int .i64 xs.length) :: (18, .int .i64 i) :: (37, .agg (g.map U64).toArray) :: (38, .int .i64 j) :: tl2) w3 := by
        intro gl
        induction gl with
        | nil =>
          intro j d tl2 hgj hj hm
          have hj5 : ¬ ((j : Int) < 5) := by
            have := List.drop_eq_nil_iff.1 hgj
            omega
          (refine W_at c27_ok ?_; refine ⟨_, rfl, ?_⟩; simp (disch := first | omega | assumption | rfl | (simp only [vcS] <;> omega) | fail) only [↓ptV_l, ↓vcA, vcB, ↓vcD, vcE, ↓reduceIte, Nat.reduceEqDiff, Nat.reduceAdd, Nat.reduceMul, Nat.reduceLeDiff, Int.reduceLE, Int.reduceLT, Int.reduceEq, Int.reduceToNat, Int.reduceAdd, Int.reduceSub, Int.reduceMul, Int.reduceNeg, reduceCtorEq, Option.bind_some, Option.map_some, List.length_cons, List.length_nil, vcM, List.getElem?_toArray, List.getElem?_cons_zero, List.getElem?_cons_succ, hj5])
          (refine W_at c27_ok ?_; refine ⟨_, rfl, ?_⟩; simp (disch := first | omega | assumption | rfl | (simp only [vcS] <;> omega) | fail) only [↓ptV_l, ↓vcA, vcB, ↓vcD, vcE, ↓reduceIte, Nat.reduceEqDiff, Nat.reduceAdd, Nat.reduceMul, Nat.reduceLeDiff, Int.reduceLE, Int.reduceLT, Int.reduceEq, Int.reduceToNat, Int.reduceAdd, Int.reduceSub, Int.reduceMul, Int.reduceNeg, reduceCtorEq, Option.bind_some, Option.map_some, List.length_cons, List.length_nil, vcM, List.getElem?_toArray, List.getElem?_cons_zero, List.getElem?_cons_succ])
          (refine W_at c27_ok ?_; refine ⟨_, rfl, ?_⟩; simp (disch := first | omega | assumption | rfl | (simp only [vcS] <;> omega) | fail) only [↓ptV_l, ↓vcA, vcB, ↓vcD, vcE, ↓reduceIte, Nat.reduceEqDiff, Nat.reduceAdd, Nat.reduceMul, Nat.reduceLeDiff, Int.reduceLE, Int.reduceLT, Int.reduceEq, Int.reduceToNat, Int.reduceAdd, Int.reduceSub, Int.reduceMul, Int.reduceNeg, reduceCtorEq, Option.bind_some, Option.map_some, List.length_cons, List.length_nil, vcM, List.getElem?_toArray, List.getElem?_cons_zero, List.getElem?_cons_succ, hwi])
          (refine W_at c27_ok ?_; refine ⟨_, rfl, ?_⟩; simp (disch := first | omega | assumption | rfl | (simp only [vcS] <;> omega) | fail) only [↓ptV_l, ↓vcA, vcB, ↓vcD, vcE, ↓reduceIte, Nat.reduceEqDiff, Nat.reduceAdd, Nat.reduceMul, Nat.reduceLeDiff, Int.reduceLE, Int.reduceLT, Int.reduceEq, Int.reduceToNat, Int.reduceAdd, Int.reduceSub, Int.reduceMul, Int.reduceNeg, reduceCtorEq, Option.bind_some, Option.map_some, List.length_cons, List.length_nil, vcM, List.getElem?_toArray, List.getElem?_cons_zero, List.getElem?_cons_succ])
          have hm' : d = stepB k g c x := hm
          exact ih (i + 1) d _ (by omega) (by rw [hm']; exact hf)
        | cons y gl ih2 =>
          intro j d tl2 hgj hj hm
          have hjl : j < g.length := by
            rcases Nat.lt_or_ge j g.length with h | h
            · exact h
            · rw [List.drop_eq_nil_of_le h] at hgj; cases hgj
          rw [List.drop_eq_getElem_cons hjl] at hgj
          obtain ⟨hy, hrest⟩ := List.cons.inj hgj
          have hj5 : (j : Int) < 5 := by omega
          have hj2 : 0 ≤ (j : Int) ∧ (j : Int) < 5 := by omega
          have hgj2 : (g.map U64).toArray[j]? = some (U64 y) := by simp [hjl, hy]
          have hwj : IntKind.i64.wrap ((j : Int) + 1) = ((j + 1 : Nat) : Int) := wrap_i64 (by omega) (by omega)
          have s3 := U64_shr (c >>> k) .i64 j (by omega)
          (refine W_at c27_ok ?_; refine ⟨_, rfl, ?_⟩; simp (disch := first | omega | assumption | rfl | (simp only [vcS] <;> omega) | fail) only [↓ptV_l, ↓vcA, vcB, ↓vcD, vcE, ↓reduceIte, Nat.reduceEqDiff, Nat.reduceAdd, Nat.reduceMul, Nat.reduceLeDiff, Int.reduceLE, Int.reduceLT, Int.reduceEq, Int.reduceToNat, Int.reduceAdd, Int.reduceSub, Int.reduceMul, Int.reduceNeg, reduceCtorEq, Option.bind_some, Option.map_some, List.length_cons, List.length_nil, vcM, List.getElem?_toArray, List.getElem?_cons_zero, List.getElem?_cons_succ, hj5])
          (refine W_at c27_ok ?_; refine ⟨_, rfl, ?_⟩; simp (disch := first | omega | assumption | rfl | (simp only [vcS] <;> omega) | fail) only [↓ptV_l, ↓vcA, vcB, ↓vcD, vcE, ↓reduceIte, Nat.reduceEqDiff, Nat.reduceAdd, Nat.reduceMul, Nat.reduceLeDiff, Int.reduceLE, Int.reduceLT, Int.reduceEq, Int.reduceToNat, Int.reduceAdd, Int.reduceSub, Int.reduceMul, Int.reduceNeg, reduceCtorEq, Option.bind_some, Option.map_some, List.length_cons, List.length_nil, vcM, List.getElem?_toArray, List.getElem?_cons_zero, List.getElem?_cons_succ])
          (refine W_at c27_ok ?_; refine ⟨_, rfl, ?_⟩; simp (disch := first | omega | assumption | rfl | (simp only [vcS] <;> omega) | fail) only [↓ptV_l, ↓vcA, vcB, ↓vcD, vcE, ↓reduceIte, Nat.reduceEqDiff, Nat.reduceAdd, Nat.reduceMul, Nat.reduceLeDiff, Int.reduceLE, Int.reduceLT, Int.reduceEq, Int.reduceToNat, Int.reduceAdd, Int.reduceSub, Int.reduceMul, Int.reduceNeg, reduceCtorEq, Option.bind_some, Option.map_some, List.length_cons, List.length_nil, vcM, List.getElem?_toArray, List.getElem?_cons_zero, List.getElem?_cons_succ, hj2, hgs, hgj2, Int.toNat_natCast, Nat.mul_one])
          simp only [mixF] at hm
          by_cases hbit : ((c >>> k) >>> j) &&& 1#64 = 1#64
          · have hbd : decide (((c >>> k) >>> j) &&& 1#64 = 1#64) = true := decide_eq_true hbit
            rw [if_pos hbit] at hm
            (refine W_at c27_ok ?_; refine ⟨_, rfl, ?_⟩; simp (disch := first | omega | assumption | rfl | (simp only [vcS] <;> omega) | fail) only [↓ptV_l, ↓vcA, vcB, ↓vcD, vcE, ↓reduceIte, Nat.reduceEqDiff, Nat.reduceAdd, Nat.reduceMul, Nat.reduceLeDiff, Int.reduceLE, Int.reduceLT, Int.reduceEq, Int.reduceToNat, Int.reduceAdd, Int.reduceSub, Int.reduceMul, Int.reduceNeg, reduceCtorEq, Option.bind_some, Option.map_some, List.length_cons, List.length_nil, vcM, List.getElem?_toArray, List.getElem?_cons_zero, List.getElem?_cons_succ, s3, U64_and1, U64_eql1, hbd])
            (refine W_at c27_ok ?_; refine ⟨_, rfl, ?_⟩; simp (disch := first | omega | assumption | rfl | (simp only [vcS] <;> omega) | fail) only [↓ptV_l, ↓vcA, vcB, ↓vcD, vcE, ↓reduceIte, Nat.reduceEqDiff, Nat.reduceAdd, Nat.reduceMul, Nat.reduceLeDiff, Int.reduceLE, Int.reduceLT, Int.reduceEq, Int.reduceToNat, Int.reduceAdd, Int.reduceSub, Int.reduceMul, Int.reduceNeg, reduceCtorEq, Option.bind_some, Option.map_some, List.length_cons, List.length_nil, vcM, List.getElem?_toArray, List.getElem?_cons_zero, List.getElem?_cons_succ])
            (refine W_at c27_ok ?_; refine ⟨_, rfl, ?_⟩; simp (disch := first | omega | assumption | rfl | (simp only [vcS] <;> omega) | fail) only [↓ptV_l, ↓vcA, vcB, ↓vcD, vcE, ↓reduceIte, Nat.reduceEqDiff, Nat.reduceAdd, Nat.reduceMul, Nat.reduceLeDiff, Int.reduceLE, Int.reduceLT, Int.reduceEq, Int.reduceToNat, Int.reduceAdd, Int.reduceSub, Int.reduceMul, Int.reduceNeg, reduceCtorEq, Option.bind_some, Option.map_some, List.length_cons, List.length_nil, vcM, List.getElem?_toArray, List.getElem?_cons_zero, List.getElem?_cons_succ, U64_xor])
            (refine W_at c27_ok ?_; refine ⟨_, rfl, ?_⟩; simp (disch := first | omega | assumption | rfl | (simp only [vcS] <;> omega) | fail) only [↓ptV_l, ↓vcA, vcB, ↓vcD, vcE, ↓reduceIte, Nat.reduceEqDiff, Nat.reduceAdd, Nat.reduceMul, Nat.reduceLeDiff, Int.reduceLE, Int.reduceLT, Int.reduceEq, Int.reduceToNat, Int.reduceAdd, Int.reduceSub, Int.reduceMul, Int.reduceNeg, reduceCtorEq, Option.bind_some, Option.map_some, List.length_cons, List.length_nil, vcM, List.getElem?_toArray, List.getElem?_cons_zero, List.getElem?_cons_succ, hwj])
            (refine W_at c27_ok ?_; refine ⟨_, rfl, ?_⟩; simp (disch := first | omega | assumption | rfl | (simp only [vcS] <;> omega) | fail) only [↓ptV_l, ↓vcA, vcB, ↓vcD, vcE, ↓reduceIte, Nat.reduceEqDiff, Nat.reduceAdd, Nat.reduceMul, Nat.reduceLeDiff, Int.reduceLE, Int.reduceLT, Int.reduceEq, Int.reduceToNat, Int.reduceAdd, Int.reduceSub, Int.reduceMul, Int.reduceNeg, reduceCtorEq, Option.bind_some, Option.map_some, List.length_cons, List.length_nil, vcM, List.getElem?_toArray, List.getElem?_cons_zero, List.getElem?_cons_succ])
            exact ih2 (j + 1) _ _ hrest (by omega) hm
          · have hbd : decide (((c >>> k) >>> j) &&& 1#64 = 1#64) = false := decide_eq_false hbit
            rw [if_neg hbit] at hm
            (refine W_at c27_ok ?_; refine ⟨_, rfl, ?_⟩; simp (disch := first | omega | assumption | rfl | (simp only [vcS] <;> omega) | fail) only [↓ptV_l, ↓vcA, vcB, ↓vcD, vcE, ↓reduceIte, Nat.reduceEqDiff, Nat.reduceAdd, Nat.reduceMul, Nat.reduceLeDiff, Int.reduceLE, Int.reduceLT, Int.reduceEq, Int.reduceToNat, Int.reduceAdd, Int.reduceSub, Int.reduceMul, Int.reduceNeg, reduceCtorEq, Option.bind_some, Option.map_some, List.length_cons, List.length_nil, vcM, List.getElem?_toArray, List.getElem?_cons_zero, List.getElem?_cons_succ, s3, U64_and1, U64_eql1, hbd])
            (refine W_at c27_ok ?_; refine ⟨_, rfl, ?_⟩; simp (disch := first | omega | assumption | rfl | (simp only [vcS] <;> omega) | fail) only [↓ptV_l, ↓vcA, vcB, ↓vcD, vcE, ↓reduceIte, Nat.reduceEqDiff, Nat.reduceAdd, Nat.reduceMul, Nat.reduceLeDiff, Int.reduceLE, Int.reduceLT, Int.reduceEq, Int.reduceToNat, Int.reduceAdd, Int.reduceSub, Int.reduceMul, Int.reduceNeg, reduceCtorEq, Option.bind_some, Option.map_some, List.length_cons, List.length_nil, vcM, List.getElem?_toArray, List.getElem?_cons_zero, List.getElem?_cons_succ])
            (refine W_at c27_ok ?_; refine ⟨_, rfl, ?_⟩; simp (disch := first | omega | assumption | rfl | (simp only [vcS] <;> omega) | fail) only [↓ptV_l, ↓vcA, vcB, ↓vcD, vcE, ↓reduceIte, Nat.reduceEqDiff, Nat.reduceAdd, Nat.reduceMul, Nat.reduceLeDiff, Int.reduceLE, Int.reduceLT, Int.reduceEq, Int.reduceToNat, Int.reduceAdd, Int.reduceSub, Int.reduceMul, Int.reduceNeg, reduceCtorEq, Option.bind_some, Option.map_some, List.length_cons, List.length_nil, vcM, List.getElem?_toArray, List.getElem?_cons_zero, List.getElem?_cons_succ, hwj])
            (refine W_at c27_ok ?_; refine ⟨_, rfl, ?_⟩; simp (disch := first | omega | assumption | rfl | (simp only [vcS] <;> omega) | fail) only [↓ptV_l, ↓vcA, vcB, ↓vcD, vcE, ↓reduceIte, Nat.reduceEqDiff, Nat.reduceAdd, Nat.reduceMul, Nat.reduceLeDiff, Int.reduceLE, Int.reduceLT, Int.reduceEq, Int.reduceToNat, Int.reduceAdd, Int.reduceSub, Int.reduceMul, Int.reduceNeg, reduceCtorEq, Option.bind_some, Option.map_some, List.length_cons, List.length_nil, vcM, List.getElem?_toArray, List.getElem?_cons_zero, List.getElem?_cons_succ])
            exact ih2 (j + 1) _ _ hrest (by omega) hm
      exact L2 g 0 _ _ rfl (by omega) rfl
  exact L xs.length 0 1#64 _ (by omega) rfl
end Go.Proofs
namespace Go.Proofs
open Go.Vc
set_option maxRecDepth 10000

def descG : List (BitVec 64) := [0xf5dee51989#64, 0xa9fdca3312#64, 0x1bab10e32d#64, 0x3706b1677a#64, 0x644d626ffd#64]
theorem descs_ok (w : World) : Calls Tryd.prog 40 #[] w (Ret fun u w' => u = .agg (codeC 35 descG) ∧ Ext w w') := by
  refine calls_of_cfg c40_ok (Nat.le_of_ble_eq_true rfl) ?_
  simp only [argE_nil, argE_cons, Nat.reduceAdd, Nat.zero_add]
  have e : #[Value.int .i64 35] ++ (#[Value.int .u64 1056006543753] ++ (#[Value.int .u64 730107360018] ++ (#[Value.int .u64 118834127661] ++ #[Value.int .u64 236335490938, Value.int .u64 430795026429])) : Array Value) = codeC 35 descG := by kernel_rfl
  have h5 : (#[Value.int .u64 1056006543753] ++ (#[Value.int .u64 730107360018] ++ (#[Value.int .u64 118834127661] ++ #[Value.int .u64 236335490938, Value.int .u64 430795026429])) : Array Value).size = 5 := rfl
  have h6 := codeC_size 35 (g := descG) rfl
  have hf := codeC_flat 35 descG
  have hz : (zc [(1, Value.int .i64 0), (5, .int .u64 0)]).size = 6 := by simp [size_zc]
  (refine W_at c40_ok ?_; refine ⟨_, rfl, ?_⟩; simp (disch := first | omega | assumption | rfl | (simp only [vcS] <;> omega) | fail) only [↓ptV_l, ↓vcA, vcB, ↓vcD, vcE, ↓reduceIte, Nat.reduceEqDiff, Nat.reduceAdd, Nat.reduceMul, Nat.reduceLeDiff, Int.reduceLE, Int.reduceLT, Int.reduceEq, Int.reduceToNat, Int.reduceAdd, Int.reduceSub, Int.reduceMul, Int.reduceNeg, reduceCtorEq, Option.bind_some, Option.map_some, List.length_cons, List.length_nil, vcM, List.getElem?_toArray, List.getElem?_cons_zero, List.getElem?_cons_succ])
  (refine W_at c40_ok ?_; refine ⟨_, rfl, ?_⟩; simp (disch := first | omega | assumption | rfl | (simp only [vcS] <;> omega) | fail) only [↓ptV_l, ↓vcA, vcB, ↓vcD, vcE, ↓reduceIte, Nat.reduceEqDiff, Nat.reduceAdd, Nat.reduceMul, Nat.reduceLeDiff, Int.reduceLE, Int.reduceLT, Int.reduceEq, Int.reduceToNat, Int.reduceAdd, Int.reduceSub, Int.reduceMul, Int.reduceNeg, reduceCtorEq, Option.bind_some, Option.map_some, List.length_cons, List.length_nil, vcM, List.getElem?_toArray, List.getElem?_cons_zero, List.getElem?_cons_succ, hz, h5, e, h6])
  refine ⟨hf, ?_⟩
  have hE : Ext w ((w.alloc (.cells (zc [(1, Value.int .i64 0), (5, .int .u64 0)]) 55)).putN w.heap.size 0 (codeC 35 descG)) := by (repeat' first | exact Keep.refl _ _ | assumption | refine Keep.drew ?_ | refine Keep.alloc ?_ _ | refine Keep.putN ?_ _ ?_ | refine Keep.setCell ?_ _ ?_ | refine Keep.setO ?_ _ ?_ | exact fun _ => Or.inl rfl | exact fun _ => Or.inr rfl | exact fun _ => rfl | (intro hh; exfalso; ((try simp only [vcS] at hh) <;> omega)))
  have hp : ((w.alloc (.cells (zc [(1, Value.int .i64 0), (5, .int .u64 0)]) 55)).putN w.heap.size 0 (codeC 35 descG)).heap[w.heap.size]? = some (.cells (codeC 35 descG) 55 (0, 0)) := by
    rw [heap_putN_eq (heap_new _ _ _ rfl), splice_all (by rw [h6, hz])]
  generalize World.putN _ _ _ _ = w1 at hE hp ⊢
  (refine W_at c40_ok ?_; refine ⟨_, rfl, ?_⟩; simp (disch := first | omega | assumption | rfl | (simp only [vcS] <;> omega) | fail) only [↓ptV_l, ↓vcA, vcB, ↓vcD, vcE, ↓reduceIte, Nat.reduceEqDiff, Nat.reduceAdd, Nat.reduceMul, Nat.reduceLeDiff, Int.reduceLE, Int.reduceLT, Int.reduceEq, Int.reduceToNat, Int.reduceAdd, Int.reduceSub, Int.reduceMul, Int.reduceNeg, reduceCtorEq, Option.bind_some, Option.map_some, List.length_cons, List.length_nil, vcM, List.getElem?_toArray, List.getElem?_cons_zero, List.getElem?_cons_succ, hp, h6, ext_all, Ret_returned])
  exact hE
def lettersF (c : BitVec 64) (n : Nat) : List Int := (List.range n).map fun i => (((c >>> (5 * (n - 1 - i))) &&& 31#64).toNat : Int)
theorem U64_and31 (y : BitVec 64) : binR .and (U64 y) (.int .u64 31) = some (U64 (y &&& 31#64)) := U64_and y 31#64
theorem U64_xor1 (y : BitVec 64) : binR .xor (U64 y) (.int .u64 1) = some (U64 (y ^^^ 1#64)) := U64_xor y 1#64
theorem and31_lt (y : BitVec 64) : (y &&& 31#64).toNat ≤ 31 := by
  rw [BitVec.toNat_and]
  exact Nat.and_le_right
theorem cvi_and31 (y : BitVec 64) : cviR .u8 (U64 (y &&& 31#64)) = some (.int .u8 ((y &&& 31#64).toNat : Int)) := by
  have h := and31_lt y
  show some (Value.int .u8 (IntKind.u8.wrap ((y &&& 31#64).toNat : Int))) = _
  rw [wrap_u8]
  congr 2
  omega
theorem letters_ok (w : World) (c : BitVec 64) (n : Nat) (hn : n ≤ 12) : Calls Tryd.prog 25 #[U64 c, .int .i64 n] w (Ret fun u w' => New w w' u (lettersF c n)) := by
  refine calls_of_cfg c25_ok (Nat.le_of_ble_eq_true rfl) ?_
  simp only [argE_nil, argE_cons, Nat.reduceAdd, Nat.zero_add]
  (refine W_at c25_ok ?_; refine ⟨_, rfl, ?_⟩; simp (disch := first | omega | assumption | rfl | (simp only [vcS] <;> omega) | fail) only [↓ptV_l, ↓vcA, vcB, ↓vcD, vcE, ↓reduceIte, Nat.reduceEqDiff, Nat.reduceAdd, Nat.reduceMul, Nat.reduceLeDiff, Int.reduceLE, Int.reduceLT, Int.reduceEq, Int.reduceToNat, Int.reduceAdd, Int.reduceSub, Int.reduceMul, Int.reduceNeg, reduceCtorEq, Option.bind_some, Option.map_some, List.length_cons, List.length_nil, vcM, List.getElem?_toArray, List.getElem?_cons_zero, List.getElem?_cons_succ])
  (refine W_at c25_ok ?_; refine ⟨_, rfl, ?_⟩; simp (disch := first | omega | assumption | rfl | (simp only [vcS] <;> omega) | fail) only [↓ptV_l, ↓vcA, vcB, ↓vcD, vcE, ↓reduceIte, Nat.reduceEqDiff, Nat.reduceAdd, Nat.reduceMul, Nat.reduceLeDiff, Int.reduceLE, Int.reduceLT, Int.reduceEq, Int.reduceToNat, Int.reduceAdd, Int.reduceSub, Int.reduceMul, Int.reduceNeg, reduceCtorEq, Option.bind_some, Option.map_some, List.length_cons, List.length_nil, vcM, List.getElem?_toArray, List.getElem?_cons_zero, List.getElem?_cons_succ])
  (refine W_at c25_ok ?_; refine ⟨_, rfl, ?_⟩; simp (disch := first | omega | assumption | rfl | (simp only [vcS] <;> omega) | fail) only [↓ptV_l, ↓vcA, vcB, ↓vcD, vcE, ↓reduceIte, Nat.reduceEqDiff, Nat.reduceAdd, Nat.reduceMul, Nat.reduceLeDiff, Int.reduceLE, Int.reduceLT, Int.reduceEq, Int.reduceToNat, Int.reduceAdd, Int.reduceSub, Int.reduceMul, Int.reduceNeg, reduceCtorEq, Option.bind_some, Option.map_some, List.length_cons, List.length_nil, vcM, List.getElem?_toArray, List.getElem?_cons_zero, List.getElem?_cons_succ])
  have hlen : (lettersF c n).length = n := by simp [lettersF]
  have L : ∀ (k i : Nat) (wj : World) (vb : Value) (tl : Env), k + i = n → New w wj vb ((lettersF c n).take i) →
      W Tryd.prog (Ret fun u w' => New w w' u (lettersF c n)) 25 8 ((0, U64 c) :: (1, .int .i64 n) :: (5, vb) :: (7, .int .i64 n) :: (8, .int .i64 i) :: tl) wj := by
    intro k
    induction k with
    | zero =>
      intro i wj vb tl hi hB
      have hil : ¬ ((i : Int) < (n : Int)) := by omega
      rw [List.take_of_length_le (by omega)] at hB
      (refine W_at c25_ok ?_; refine ⟨_, rfl, ?_⟩; simp (disch := first | omega | assumption | rfl | (simp only [vcS] <;> omega) | fail) only [↓ptV_l, ↓vcA, vcB, ↓vcD, vcE, ↓reduceIte, Nat.reduceEqDiff, Nat.reduceAdd, Nat.reduceMul, Nat.reduceLeDiff, Int.reduceLE, Int.reduceLT, Int.reduceEq, Int.reduceToNat, Int.reduceAdd, Int.reduceSub, Int.reduceMul, Int.reduceNeg, reduceCtorEq, Option.bind_some, Option.map_some, List.length_cons, List.length_nil, vcM, List.getElem?_toArray, List.getElem?_cons_zero, List.getElem?_cons_succ, hil])
      (refine W_at c25_ok ?_; refine ⟨_, rfl, ?_⟩; simp (disch := first | omega | assumption | rfl | (simp only [vcS] <;> omega) | fail) only [↓ptV_l, ↓vcA, vcB, ↓vcD, vcE, ↓reduceIte, Nat.reduceEqDiff, Nat.reduceAdd, Nat.reduceMul, Nat.reduceLeDiff, Int.reduceLE, Int.reduceLT, Int.reduceEq, Int.reduceToNat, Int.reduceAdd, Int.reduceSub, Int.reduceMul, Int.reduceNeg, reduceCtorEq, Option.bind_some, Option.map_some, List.length_cons, List.length_nil, vcM, List.getElem?_toArray, List.getElem?_cons_zero, List.getElem?_cons_succ])
      (refine W_at c25_ok ?_; refine ⟨_, rfl, ?_⟩; simp (disch := first | omega | assumption | rfl | (simp only [vcS] <;> omega) | fail) only [↓ptV_l, ↓vcA, vcB, ↓vcD, vcE, ↓reduceIte, Nat.reduceEqDiff, Nat.reduceAdd, Nat.reduceMul, Nat.reduceLeDiff, Int.reduceLE, Int.reduceLT, Int.reduceEq, Int.reduceToNat, Int.reduceAdd, Int.reduceSub, Int.reduceMul, Int.reduceNeg, reduceCtorEq, Option.bind_some, Option.map_some, List.length_cons, List.length_nil, vcM, List.getElem?_toArray, List.getElem?_cons_zero, List.getElem?_cons_succ])
      (refine W_at c25_ok ?_; refine ⟨_, rfl, ?_⟩; simp (disch := first | omega | assumption | rfl | (simp only [vcS] <;> omega) | fail) only [↓ptV_l, ↓vcA, vcB, ↓vcD, vcE, ↓reduceIte, Nat.reduceEqDiff, Nat.reduceAdd, Nat.reduceMul, Nat.reduceLeDiff, Int.reduceLE, Int.reduceLT, Int.reduceEq, Int.reduceToNat, Int.reduceAdd, Int.reduceSub, Int.reduceMul, Int.reduceNeg, reduceCtorEq, Option.bind_some, Option.map_some, List.length_cons, List.length_nil, vcM, List.getElem?_toArray, List.getElem?_cons_zero, List.getElem?_cons_succ, Ret_returned])
      exact hB
    | succ k ih =>
      intro i wj vb tl hi hB
      have hil : (i : Int) < (n : Int) := by omega
      have hwi : IntKind.i64.wrap ((i : Int) + 1) = ((i + 1 : Nat) : Int) := wrap_i64 (by omega) (by omega)
      have w1 : IntKind.i64.wrap ((n : Int) - 1) = (n : Int) - 1 := wrap_i64 (by omega) (by omega)
      have w2 : IntKind.i64.wrap ((n : Int) - 1 - i) = ((n - 1 - i : Nat) : Int) := by rw [wrap_i64 (by omega) (by omega)]; omega
      have w3 : IntKind.i64.wrap (5 * ((n - 1 - i : Nat) : Int)) = ((5 * (n - 1 - i) : Nat) : Int) := by rw [wrap_i64 (by omega) (by omega)]; omega
      have s1 := U64_shr c .i64 (5 * (n - 1 - i)) (by omega)
      have ht : (lettersF c n).take (i + 1) = (lettersF c n).take i ++ [(((c >>> (5 * (n - 1 - i))) &&& 31#64).toNat : Int)] := by
        rw [List.take_succ_eq_append_getElem (by omega)]
        simp [lettersF]
      (refine W_at c25_ok ?_; refine ⟨_, rfl, ?_⟩; simp (disch := first | omega | assumption | rfl | (simp only [vcS] <;> omega) | fail) only [↓ptV_l, ↓vcA, vcB, ↓vcD, vcE, ↓reduceIte, Nat.reduceEqDiff, Nat.reduceAdd, Nat.reduceMul, Nat.reduceLeDiff, Int.reduceLE, Int.reduceLT, Int.reduceEq, Int.reduceToNat, Int.reduceAdd, Int.reduceSub, Int.reduceMul, Int.reduceNeg, reduceCtorEq, Option.bind_some, Option.map_some, List.length_cons, List.length_nil, vcM, List.getElem?_toArray, List.getElem?_cons_zero, List.getElem?_cons_succ, hil])
      (refine W_at c25_ok ?_; refine ⟨_, rfl, ?_⟩; simp (disch := first | omega | assumption | rfl | (simp only [vcS] <;> omega) | fail) only [↓ptV_l, ↓vcA, vcB, ↓vcD, vcE, ↓reduceIte, Nat.reduceEqDiff, Nat.reduceAdd, Nat.reduceMul, Nat.reduceLeDiff, Int.reduceLE, Int.reduceLT, Int.reduceEq, Int.reduceToNat, Int.reduceAdd, Int.reduceSub, Int.reduceMul, Int.reduceNeg, reduceCtorEq, Option.bind_some, Option.map_some, List.length_cons, List.length_nil, vcM, List.getElem?_toArray, List.getElem?_cons_zero, List.getElem?_cons_succ])
      (refine W_at c25_ok ?_; refine ⟨_, rfl, ?_⟩; simp (disch := first | omega | assumption | rfl | (simp only [vcS] <;> omega) | fail) only [↓ptV_l, ↓vcA, vcB, ↓vcD, vcE, ↓reduceIte, Nat.reduceEqDiff, Nat.reduceAdd, Nat.reduceMul, Nat.reduceLeDiff, Int.reduceLE, Int.reduceLT, Int.reduceEq, Int.reduceToNat, Int.reduceAdd, Int.reduceSub, Int.reduceMul, Int.reduceNeg, reduceCtorEq, Option.bind_some, Option.map_some, List.length_cons, List.length_nil, vcM, List.getElem?_toArray, List.getElem?_cons_zero, List.getElem?_cons_succ])
      (refine W_at c25_ok ?_; refine ⟨_, rfl, ?_⟩; simp (disch := first | omega | assumption | rfl | (simp only [vcS] <;> omega) | fail) only [↓ptV_l, ↓vcA, vcB, ↓vcD, vcE, ↓reduceIte, Nat.reduceEqDiff, Nat.reduceAdd, Nat.reduceMul, Nat.reduceLeDiff, Int.reduceLE, Int.reduceLT, Int.reduceEq, Int.reduceToNat, Int.reduceAdd, Int.reduceSub, Int.reduceMul, Int.reduceNeg, reduceCtorEq, Option.bind_some, Option.map_some, List.length_cons, List.length_nil, vcM, List.getElem?_toArray, List.getElem?_cons_zero, List.getElem?_cons_succ, w1, w2, w3, s1, U64_and31, cvi_and31])
      refine appNL (news := [(((c >>> (5 * (n - 1 - i))) &&& 31#64).toNat : Int)]) hB (by simp [List.length_take]; omega) fun v' w' n1 _ _ => ?_
      (refine W_at c25_ok ?_; refine ⟨_, rfl, ?_⟩; simp (disch := first | omega | assumption | rfl | (simp only [vcS] <;> omega) | fail) only [↓ptV_l, ↓vcA, vcB, ↓vcD, vcE, ↓reduceIte, Nat.reduceEqDiff, Nat.reduceAdd, Nat.reduceMul, Nat.reduceLeDiff, Int.reduceLE, Int.reduceLT, Int.reduceEq, Int.reduceToNat, Int.reduceAdd, Int.reduceSub, Int.reduceMul, Int.reduceNeg, reduceCtorEq, Option.bind_some, Option.map_some, List.length_cons, List.length_nil, vcM, List.getElem?_toArray, List.getElem?_cons_zero, List.getElem?_cons_succ, hwi])
      (refine W_at c25_ok ?_; refine ⟨_, rfl, ?_⟩; simp (disch := first | omega | assumption | rfl | (simp only [vcS] <;> omega) | fail) only [↓ptV_l, ↓vcA, vcB, ↓vcD, vcE, ↓reduceIte, Nat.reduceEqDiff, Nat.reduceAdd, Nat.reduceMul, Nat.reduceLeDiff, Int.reduceLE, Int.reduceLT, Int.reduceEq, Int.reduceToNat, Int.reduceAdd, Int.reduceSub, Int.reduceMul, Int.reduceNeg, reduceCtorEq, Option.bind_some, Option.map_some, List.length_cons, List.length_nil, vcM, List.getElem?_toArray, List.getElem?_cons_zero, List.getElem?_cons_succ])
      exact ih (i + 1) w' v' _ (by omega) (by rw [ht]; exact n1)
  exact L n 0 w _ _ (by omega) (New.nil w)
end Go.Proofs
namespace Go.Proofs
open Go.Vc
set_option maxRecDepth 10000

def inS : List Int := [48, 49, 50, 51, 52, 53, 54, 55, 56, 57, 40, 41, 91, 93, 44, 39, 47, 42, 97, 98, 99, 100, 101, 102, 103, 104, 64, 58, 36, 37, 123, 125, 73, 74, 75, 76, 77, 78, 79, 80, 81, 82, 83, 84, 85, 86, 87, 88, 89, 90, 38, 43, 45, 46, 59, 60, 61, 62, 63, 33, 94, 95, 124, 126, 105, 106, 107, 108, 109, 110, 111, 112, 113, 114, 115, 116, 117, 118, 119, 120, 121, 122, 65, 66, 67, 68, 69, 70, 71, 72, 96, 35, 34, 92, 32]
theorem inS_byt : byt inS := by intro x hx; simp [inS] at hx; omega
theorem inS_is : (⟨#[48, 49, 50, 51, 52, 53, 54, 55, 56, 57, 40, 41, 91, 93, 44, 39, 47, 42, 97, 98, 99, 100, 101, 102, 103, 104, 64, 58, 36, 37, 123, 125, 73, 74, 75, 76, 77, 78, 79, 80, 81, 82, 83, 84, 85, 86, 87, 88, 89, 90, 38, 43, 45, 46, 59, 60, 61, 62, 63, 33, 94, 95, 124, 126, 105, 106, 107, 108, 109, 110, 111, 112, 113, 114, 115, 116, 117, 118, 119, 120, 121, 122, 65, 66, 67, 68, 69, 70, 71, 72, 96, 35, 34, 92, 32]⟩ : ByteArray) = strOf inS := by decide +kernel
def l32S : List Int := [113, 112, 122, 114, 121, 57, 120, 56, 103, 102, 50, 116, 118, 100, 119, 48, 115, 51, 106, 110, 53, 52, 107, 104, 99, 101, 54, 109, 117, 97, 55, 108]
theorem l32S_byt : byt l32S := by intro x hx; simp [l32S] at hx; omega
theorem l32S_is : (⟨#[113, 112, 122, 114, 121, 57, 120, 56, 103, 102, 50, 116, 118, 100, 119, 48, 115, 51, 106, 110, 53, 52, 107, 104, 99, 101, 54, 109, 117, 97, 55, 108]⟩ : ByteArray) = strOf l32S := by decide +kernel
def l32F (x : Int) : Int := l32S.getD x.toNat 0
theorem l32_at {x : Int} (h : 0 ≤ x ∧ x ≤ 31) : (strOf l32S)[x.toNat]? = some (UInt8.ofNat (l32F x).toNat) := by
  have hl : x.toNat < l32S.length := by simp [l32S]; omega
  rw [str_get hl]
  simp [l32F, List.getD, hl]
theorem l32F_b {x : Int} (h : 0 ≤ x ∧ x ≤ 31) : 0 ≤ l32F x ∧ l32F x ≤ 255 := by
  have hl : x.toNat < l32S.length := by simp [l32S]; omega
  have e : l32F x = l32S[x.toNat] := by simp [l32F, List.getD, hl]
  rw [e]
  exact l32S_byt _ (List.getElem_mem _)

/-- The values so far, and the groups of the last three. -/
def stepV (st : List Int × List Int) (p : Int) : List Int × List Int := match st.2 with
  | [a, b] => (st.1 ++ [p % 32] ++ [9 * a + 3 * b + p / 32], [])
  | gs => (st.1 ++ [p % 32], gs ++ [p / 32])
def endV (st : List Int × List Int) : List Int := match st.2 with
  | [a] => st.1 ++ [a]
  | [a, b] => st.1 ++ [3 * a + b]
  | _ => st.1
def placesF (bs : List Int) : List Int := bs.map fun b => placeF b inS 0
def valsOf (ps : List Int) : List Int := endV (ps.foldl stepV ([], []))
def sumOf (ps : List Int) : List Int := (lettersF (runB 35 descG (valsOf ps ++ List.replicate 8 0) ^^^ 1#64) 8).map l32F
def checkF (bs : List Int) : Option (List Int) := if (placesF bs).all (fun p => decide (0 ≤ p)) then some (sumOf (placesF bs)) else none
structure StOk (st : List Int × List Int) (n : Nat) : Prop where
  b1 : byt st.1
  b2 : ∀ a ∈ st.2, 0 ≤ a ∧ a ≤ 2
  l1 : st.1.length ≤ 2 * n
  l2 : st.2.length ≤ 2
theorem byt1 {x : Int} (h : 0 ≤ x ∧ x ≤ 255) : byt [x] := fun y hy => by rw [List.mem_singleton.1 hy]; exact h
theorem StOk.step {st : List Int × List Int} {n : Nat} (h : StOk st n) {p : Int} (hp : 0 ≤ p ∧ p ≤ 94) : StOk (stepV st p) (n + 1) := by
  obtain ⟨vs, gs⟩ := st
  obtain ⟨h1, h2, h3, h4⟩ := h
  simp only at h1 h2 h3 h4
  match gs, h2, h4 with
  | [], h2, h4 => exact ⟨byt_app h1 (byt1 (by omega)), fun a ha => by simp [stepV] at ha; subst ha; omega, by simp [stepV]; omega, by simp [stepV]⟩
  | [a], h2, h4 =>
    have ha := h2 a (by simp)
    exact ⟨byt_app h1 (byt1 (by omega)), fun x hx => by simp [stepV] at hx; rcases hx with rfl | rfl <;> omega, by simp [stepV]; omega, by simp [stepV]⟩
  | [a, b], h2, h4 =>
    have ha := h2 a (by simp)
    have hb := h2 b (by simp)
    exact ⟨byt_app (byt_app h1 (byt1 (by omega))) (byt1 (by omega)), fun x hx => by simp [stepV] at hx, by simp [stepV]; omega, by simp [stepV]⟩
theorem place_in (c : Int) : -1 ≤ placeF c inS 0 ∧ placeF c inS 0 ≤ 94 := by
  have := placeF_lt c inS 0
  refine ⟨this.1, ?_⟩
  have hl : inS.length = 95 := rfl
  rcases this.2 with h | h
  · omega
  · exact absurd h (by simp [inS])
theorem StOk.end {st : List Int × List Int} {n : Nat} (h : StOk st n) : byt (endV st) ∧ (endV st).length ≤ 2 * n + 1 := by
  obtain ⟨vs, gs⟩ := st
  obtain ⟨h1, h2, h3, h4⟩ := h
  simp only at h1 h2 h3 h4
  match gs, h2, h4 with
  | [], h2, h4 => exact ⟨h1, by simp [endV]; omega⟩
  | [a], h2, h4 =>
    have ha := h2 a (by simp)
    exact ⟨byt_app h1 (byt1 (by omega)), by simp [endV]; omega⟩
  | [a, b], h2, h4 =>
    have ha := h2 a (by simp)
    have hb := h2 b (by simp)
    exact ⟨byt_app h1 (byt1 (by omega)), by simp [endV]; omega⟩
theorem and_31 {x : Int} (h : 0 ≤ x ∧ x ≤ 94) : IntKind.u8.wrap (IntKind.i64.wrap (((BitVec.ofInt IntKind.i64.bits x &&& BitVec.ofInt IntKind.i64.bits 31).toNat : Nat) : Int)) = x % 32 := by
  obtain ⟨n, rfl⟩ := Int.eq_ofNat_of_zero_le h.1
  have hd : ∀ n : Fin 95, IntKind.u8.wrap (IntKind.i64.wrap (((BitVec.ofInt IntKind.i64.bits ((n.val : Nat) : Int) &&& BitVec.ofInt IntKind.i64.bits 31).toNat : Nat) : Int)) = ((n.val : Nat) : Int) % 32 := by decide +kernel
  exact hd ⟨n, by omega⟩
theorem shr_5 {x : Int} (h : 0 ≤ x ∧ x ≤ 94) : IntKind.u8.wrap (x.fdiv (2 ^ Nat.min 5 IntKind.i64.bits)) = x / 32 := by
  have e : x.fdiv (2 ^ Nat.min 5 IntKind.i64.bits) = x / 32 := by
    show x.fdiv (2 ^ (Nat.min 5 64)) = x / 32
    rw [show Nat.min 5 64 = 5 from rfl, Int.fdiv_eq_ediv_of_nonneg _ (by decide)]
    rfl
  rw [e, wrap_u8]; omega
end Go.Proofs
