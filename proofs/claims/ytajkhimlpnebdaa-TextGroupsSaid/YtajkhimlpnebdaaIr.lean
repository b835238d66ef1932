/- The graphs of this seat's functions, written by program, each held against the translation by the kernel. -/
import Derived.Test.YtajkhimlpnebdaaProg
import Derived.Test.YtajkhimlpnebdaaVcF
import Derived.KernelRfl
set_option linter.unusedSimpArgs false
set_option linter.unusedVariables false
set_option linter.constructorNameAsVariable false
namespace Go.Proofs
open Go.Vc
/- gosem.cut.init: entry 1 -/
def c2 : List Vc.Node := [
  .ret [],
  .reg (.l (some 0) none (.callx 1 []) [] .done) false 0 []
  ]
theorem c2_ok : cfgL Try.prog 2 = some (1, 1, c2.map Vc.Node.bare) := by kernel_rfl
/- strongbox/strongboxlaw03.TextChecksums: entry 21 -/
def c3 : List Vc.Node := [
  .ret [.t 6],
  .ret [.t 6],
  .reg (.q (some 81) none (.mov (.tmp 8)) (.q (some 82) none (.bin .neq (.tmp 81) (.const (.int .i64 0))) (.q (some 83) none (.mov (.tmp 82)) (.q (some 84) (some (83, false)) (.mov (.tmp 11)) (.q (some 85) (some (83, false)) (.mov (.tmp 7)) (.q (some 86) (some (83, false)) (.bin .neq (.tmp 84) (.tmp 85)) (.q (some 87) none (.pick (.tmp 83) (.const (.bool true)) (.tmp 86)) (.q (some 6) none (.mov (.tmp 87)) .done)))))))) false 1 [6],
  .reg (.q (some 66) none (.mov (.tmp 0)) (.q (some 67) none (.mov (.tmp 1)) (.q (some 68) none (.slcT (.tmp 66) none (some (.tmp 67))) (.q (some 69) none (.mov (.tmp 2)) (.q (some 73) none (.mov (.tmp 0)) (.q (some 74) none (.mov (.tmp 1)) (.q (some 75) none (.bin .add (.tmp 74) (.const (.int .i64 1))) (.q (some 76) none (.slcT (.tmp 73) (some (.tmp 75)) none) (.l (some 70) none (.bldS 5 1 [(.tmp 69)]) [] (.q (some 71) none (.b2s (.tmp 70)) (.q (some 72) none (.bin .add (.tmp 68) (.tmp 71)) (.q (some 77) none (.bin .add (.tmp 72) (.tmp 76)) (.l (some 78) none (.call 7 [(.tmp 77)]) [] (.q (some 65) none (.mov (.tmp 78)) (.q (some 79) none (.ext 0 (.tmp 65)) (.q (some 80) none (.ext 1 (.tmp 65)) (.q (some 11) none (.mov (.tmp 79)) (.q (some 8) none (.mov (.tmp 80)) .done)))))))))))))))))) true 2 [7, 8, 11],
  .ret [.t 6],
  .reg (.q (some 6) none (.mov (.const (.bool true))) .done) false 4 [6],
  .cnd (.tmp 64) 5 3,
  .reg (.q (some 46) none (.mov (.tmp 10)) (.q (some 47) none (.not (.tmp 46)) (.q (some 48) none (.mov (.tmp 47)) (.q (some 49) (some (48, false)) (.mov (.tmp 1)) (.q (some 50) (some (48, false)) (.bin .lss (.tmp 49) (.const (.int .i64 0))) (.q (some 51) none (.pick (.tmp 48) (.const (.bool true)) (.tmp 50)) (.q (some 52) none (.mov (.tmp 51)) (.q (some 53) (some (52, false)) (.mov (.tmp 1)) (.q (some 54) (some (52, false)) (.mov (.tmp 0)) (.q (some 55) (some (52, false)) (.lenT (.tmp 54)) (.q (some 56) (some (52, false)) (.bin .geq (.tmp 53) (.tmp 55)) (.q (some 57) none (.pick (.tmp 52) (.const (.bool true)) (.tmp 56)) (.q (some 58) none (.mov (.tmp 57)) (.q (some 59) (some (58, false)) (.mov (.tmp 0)) (.q (some 60) (some (58, false)) (.mov (.tmp 1)) (.q (some 61) (some (58, false)) (.idxS (.tmp 59) (.tmp 60)) (.q (some 62) (some (58, false)) (.mov (.tmp 2)) (.q (some 63) (some (58, false)) (.bin .eql (.tmp 61) (.tmp 62)) (.q (some 64) none (.pick (.tmp 58) (.const (.bool true)) (.tmp 63)) .done))))))))))))))))))) false 6 [0, 1, 2, 7, 64],
  .ret [.t 6],
  .reg (.q (some 6) none (.mov (.const (.bool false))) .done) false 8 [6],
  .cnd (.tmp 45) 9 7,
  .reg (.q (some 29) none (.mov (.tmp 7)) (.q (some 30) none (.mov (.tmp 9)) (.q (some 31) none (.bin .neq (.tmp 29) (.tmp 30)) (.q (some 32) none (.mov (.tmp 31)) (.q (some 33) (some (32, false)) (.mov (.tmp 8)) (.q (some 34) (some (32, false)) (.bin .eql (.tmp 33) (.const (.int .i64 0))) (.q (some 35) (some (32, false)) (.mov (.tmp 10)) (.q (some 36) (some (32, false)) (.eqB true (.tmp 34) (.tmp 35)) (.q (some 37) none (.pick (.tmp 32) (.const (.bool true)) (.tmp 36)) (.q (some 38) none (.mov (.tmp 37)) (.q (some 39) (some (38, false)) (.mov (.tmp 10)) (.q (some 40) (some (38, false)) (.not (.tmp 39)) (.q (some 41) (some (38, false)) (.mov (.tmp 40)) (.q (some 42) (some (41, true)) (.mov (.tmp 8)) (.q (some 43) (some (41, true)) (.bin .neq (.tmp 42) (.const (.int .i64 3))) (.q (some 44) (some (38, false)) (.pick (.tmp 41) (.tmp 43) (.const (.bool false))) (.q (some 45) none (.pick (.tmp 38) (.const (.bool true)) (.tmp 44)) .done))))))))))))))))) false 10 [0, 1, 2, 7, 10, 45],
  .reg (.q (some 25) none (.mov (.tmp 0)) (.l (some 26) none (.call 8 [(.tmp 25)]) [] (.q (some 24) none (.mov (.tmp 26)) (.q (some 27) none (.ext 0 (.tmp 24)) (.q (some 28) none (.ext 1 (.tmp 24)) (.q (some 9) none (.mov (.tmp 27)) (.q (some 10) none (.mov (.tmp 28)) .done))))))) false 11 [0, 1, 2, 7, 8, 9, 10],
  .reg (.q (some 20) none (.mov (.tmp 0)) (.l (some 21) none (.call 7 [(.tmp 20)]) [] (.q (some 19) none (.mov (.tmp 21)) (.q (some 22) none (.ext 0 (.tmp 19)) (.q (some 23) none (.ext 1 (.tmp 19)) (.q (some 7) none (.mov (.tmp 22)) (.q (some 8) none (.mov (.tmp 23)) .done))))))) false 12 [0, 1, 2, 7, 8],
  .reg (.q (some 17) none (.mov (.tmp 0)) (.q (some 18) none (.slcT (.tmp 17) none (some (.const (.int .i64 400)))) (.q (some 0) none (.mov (.tmp 18)) .done))) false 13 [0, 1, 2],
  .cnd (.tmp 16) 14 13,
  .reg (.q (some 14) none (.mov (.tmp 0)) (.q (some 15) none (.lenT (.tmp 14)) (.q (some 16) none (.bin .gtr (.tmp 15) (.const (.int .i64 400))) .done))) false 15 [0, 1, 2, 16],
  .ret [.t 6],
  .reg (.q (some 6) none (.mov (.const (.bool false))) .done) false 17 [6],
  .cnd (.tmp 13) 18 16,
  .reg (.l (some 12) none (.call 6 []) [] (.q (some 13) none (.not (.tmp 12)) .done)) false 19 [0, 1, 2, 13],
  .reg (.q (some 6) none (.mov (.const (.bool false))) .done) false 20 [0, 1, 2]
  ]
theorem c3_ok : cfgL Try.prog 3 = some (88, 21, c3.map Vc.Node.bare) := by kernel_rfl
/- strongbox/strongboxlaw03.TextHex: entry 19 -/
def c4 : List Vc.Node := [
  .ret [.t 4],
  .ret [.t 4],
  .reg (.q (some 51) none (.mov (.tmp 8)) (.q (some 52) none (.mov (.tmp 9)) (.l (some 53) none (.call 13 [(.tmp 51), (.tmp 52)]) [] (.q (some 54) none (.mov (.tmp 53)) (.q (some 55) (some (54, true)) (.mov (.tmp 7)) (.q (some 56) (some (54, true)) (.bin .eql (.tmp 55) (.const (.int .i64 0))) (.q (some 57) (some (54, true)) (.mov (.tmp 10)) (.q (some 58) (some (54, true)) (.eqB false (.tmp 56) (.tmp 57)) (.q (some 59) none (.pick (.tmp 54) (.tmp 58) (.const (.bool false))) (.q (some 60) none (.mov (.tmp 59)) (.q (some 61) (some (60, true)) (.mov (.tmp 10)) (.q (some 62) (some (60, true)) (.mov (.tmp 61)) (.q (some 63) (some (62, false)) (.mov (.tmp 7)) (.q (some 64) (some (62, false)) (.bin .eql (.tmp 63) (.const (.int .i64 3))) (.q (some 65) (some (60, true)) (.pick (.tmp 62) (.const (.bool true)) (.tmp 64)) (.q (some 66) none (.pick (.tmp 60) (.tmp 65) (.const (.bool false))) (.q (some 4) none (.mov (.tmp 66)) .done))))))))))))))))) false 1 [4],
  .reg (.q (some 47) none (.mov (.tmp 1)) (.l (some 48) none (.call 14 [(.tmp 47)]) [] (.q (some 46) none (.mov (.tmp 48)) (.q (some 49) none (.ext 0 (.tmp 46)) (.q (some 50) none (.ext 1 (.tmp 46)) (.q (some 9) none (.mov (.tmp 49)) (.q (some 10) none (.mov (.tmp 50)) .done))))))) false 2 [7, 8, 9, 10],
  .reg (.q (some 42) none (.mov (.tmp 1)) (.l (some 43) none (.call 11 [(.tmp 42)]) [] (.q (some 41) none (.mov (.tmp 43)) (.q (some 44) none (.ext 0 (.tmp 41)) (.q (some 45) none (.ext 1 (.tmp 41)) (.q (some 8) none (.mov (.tmp 44)) (.q (some 7) none (.mov (.tmp 45)) .done))))))) false 3 [1, 7, 8],
  .ret [.t 4],
  .reg (.q (some 4) none (.mov (.const (.bool false))) .done) false 5 [4],
  .cnd (.tmp 40) 6 4,
  .reg (.q (some 27) none (.mov (.tmp 5)) (.q (some 28) none (.mov (.tmp 0)) (.l (some 29) none (.call 12 [(.tmp 28)]) [] (.q (some 30) none (.bin .neq (.tmp 27) (.tmp 29)) (.q (some 31) none (.mov (.tmp 30)) (.q (some 32) (some (31, false)) (.mov (.tmp 7)) (.q (some 33) (some (31, false)) (.bin .neq (.tmp 32) (.const (.int .i64 0))) (.q (some 34) none (.pick (.tmp 31) (.const (.bool true)) (.tmp 33)) (.q (some 35) none (.mov (.tmp 34)) (.q (some 36) (some (35, false)) (.mov (.tmp 6)) (.q (some 37) (some (35, false)) (.mov (.tmp 0)) (.l (some 38) (some (35, false)) (.call 13 [(.tmp 36), (.tmp 37)]) [] (.q (some 39) (some (35, false)) (.not (.tmp 38)) (.q (some 40) none (.pick (.tmp 35) (.const (.bool true)) (.tmp 39)) .done)))))))))))))) false 7 [1, 40],
  .reg (.q (some 23) none (.mov (.tmp 5)) (.l (some 24) none (.call 11 [(.tmp 23)]) [] (.q (some 22) none (.mov (.tmp 24)) (.q (some 25) none (.ext 0 (.tmp 22)) (.q (some 26) none (.ext 1 (.tmp 22)) (.q (some 6) none (.mov (.tmp 25)) (.q (some 7) none (.mov (.tmp 26)) .done))))))) false 8 [0, 1, 5, 6, 7],
  .reg (.q (some 20) none (.mov (.tmp 0)) (.l (some 21) none (.call 10 [(.tmp 20)]) [] (.q (some 5) none (.mov (.tmp 21)) .done))) false 9 [0, 1, 5],
  .reg (.q (some 18) none (.mov (.tmp 1)) (.q (some 19) none (.slcT (.tmp 18) none (some (.const (.int .i64 1000)))) (.q (some 1) none (.mov (.tmp 19)) .done))) false 10 [0, 1],
  .cnd (.tmp 17) 11 10,
  .reg (.q (some 15) none (.mov (.tmp 1)) (.q (some 16) none (.lenT (.tmp 15)) (.q (some 17) none (.bin .gtr (.tmp 16) (.const (.int .i64 1000))) .done))) false 12 [0, 1, 17],
  .reg (.q (some 13) none (.mov (.tmp 0)) (.l (some 14) none (.call 9 [(.tmp 13), (.const (.int .i64 500))]) [] (.q (some 0) none (.mov (.tmp 14)) .done))) false 13 [0, 1],
  .ret [.t 4],
  .reg (.q (some 4) none (.mov (.const (.bool false))) .done) false 15 [4],
  .cnd (.tmp 12) 16 14,
  .reg (.l (some 11) none (.call 6 []) [] (.q (some 12) none (.not (.tmp 11)) .done)) false 17 [0, 1, 12],
  .reg (.q (some 4) none (.mov (.const (.bool false))) .done) false 18 [0, 1]
  ]
theorem c4_ok : cfgL Try.prog 4 = some (67, 19, c4.map Vc.Node.bare) := by kernel_rfl
/- strongbox/strongboxlaw03.TextGroups: entry 20 -/
def c5 : List Vc.Node := [
  .ret [.t 6],
  .ret [.t 6],
  .reg (.q (some 86) none (.mov (.tmp 14)) (.q (some 87) none (.bin .eql (.tmp 86) (.const (.int .i64 0))) (.q (some 88) none (.mov (.tmp 87)) (.q (some 89) (some (88, true)) (.mov (.tmp 13)) (.q (some 90) (some (88, true)) (.mov (.tmp 0)) (.l (some 91) (some (88, true)) (.call 13 [(.tmp 89), (.tmp 90)]) [] (.q (some 92) none (.pick (.tmp 88) (.tmp 91) (.const (.bool false))) (.q (some 93) none (.mov (.tmp 92)) (.q (some 94) (some (93, false)) (.iadrA 2 1 (.tmp 4) (.const (.int .i64 1))) (.q (some 95) (some (93, false)) (.ld1 (.tmp 94)) (.q (some 96) (some (93, false)) (.iadrA 2 1 (.tmp 4) (.const (.int .i64 0))) (.q (some 97) (some (93, false)) (.ld1 (.tmp 96)) (.q (some 98) (some (93, false)) (.bin .gtr (.tmp 95) (.tmp 97)) (.q (some 99) none (.pick (.tmp 93) (.const (.bool true)) (.tmp 98)) (.q (some 100) none (.mov (.tmp 99)) (.q (some 101) (some (100, false)) (.mov (.tmp 9)) (.q (some 102) (some (100, false)) (.len (.tmp 101)) (.q (some 103) (some (100, false)) (.iadrA 2 1 (.tmp 4) (.const (.int .i64 1))) (.q (some 104) (some (100, false)) (.ld1 (.tmp 103)) (.q (some 105) (some (100, false)) (.bin .mul (.tmp 102) (.tmp 104)) (.q (some 106) (some (100, false)) (.mov (.tmp 0)) (.q (some 107) (some (100, false)) (.len (.tmp 106)) (.q (some 108) (some (100, false)) (.iadrA 2 1 (.tmp 4) (.const (.int .i64 0))) (.q (some 109) (some (100, false)) (.ld1 (.tmp 108)) (.q (some 110) (some (100, false)) (.bin .mul (.tmp 107) (.tmp 109)) (.q (some 111) (some (100, false)) (.bin .sub (.tmp 105) (.tmp 110)) (.q (some 112) (some (100, false)) (.iadrA 2 1 (.tmp 4) (.const (.int .i64 1))) (.q (some 113) (some (100, false)) (.ld1 (.tmp 112)) (.q (some 114) (some (100, false)) (.bin .geq (.tmp 111) (.tmp 113)) (.q (some 115) none (.pick (.tmp 100) (.const (.bool true)) (.tmp 114)) (.q (some 6) none (.mov (.tmp 115)) .done))))))))))))))))))))))))))))))) false 1 [6],
  .reg (.q (some 78) none (.mov (.tmp 9)) (.q (some 79) none (.iadrA 2 1 (.tmp 4) (.const (.int .i64 1))) (.q (some 80) none (.ld1 (.tmp 79)) (.q (some 81) none (.iadrA 2 1 (.tmp 4) (.const (.int .i64 0))) (.q (some 82) none (.ld1 (.tmp 81)) (.l (some 83) none (.call 16 [(.tmp 78), (.tmp 80), (.tmp 82), (.const (.bool false))]) [] (.q (some 77) none (.mov (.tmp 83)) (.q (some 84) none (.ext 0 (.tmp 77)) (.q (some 85) none (.ext 1 (.tmp 77)) (.q (some 13) none (.mov (.tmp 84)) (.q (some 14) none (.mov (.tmp 85)) .done))))))))))) false 2 [0, 4, 9, 13, 14],
  .ret [.t 6],
  .reg (.q (some 6) none (.mov (.const (.bool true))) .done) false 4 [6],
  .cnd (.tmp 76) 5 3,
  .reg (.q (some 59) none (.mov (.tmp 10)) (.q (some 60) none (.bin .neq (.tmp 59) (.const (.int .i64 0))) (.q (some 61) none (.mov (.tmp 60)) (.q (some 62) (some (61, false)) (.mov (.tmp 2)) (.q (some 63) (some (61, false)) (.not (.tmp 62)) (.q (some 64) none (.pick (.tmp 61) (.const (.bool true)) (.tmp 63)) (.q (some 65) none (.mov (.tmp 64)) (.q (some 66) (some (65, false)) (.iadrA 2 1 (.tmp 4) (.const (.int .i64 1))) (.q (some 67) (some (65, false)) (.ld1 (.tmp 66)) (.q (some 68) (some (65, false)) (.iadrA 2 1 (.tmp 4) (.const (.int .i64 0))) (.q (some 69) (some (65, false)) (.ld1 (.tmp 68)) (.q (some 70) (some (65, false)) (.bin .gtr (.tmp 67) (.tmp 69)) (.q (some 71) (some (65, false)) (.mov (.tmp 70)) (.q (some 72) (some (71, true)) (.iadrA 2 1 (.tmp 4) (.const (.int .i64 0))) (.q (some 73) (some (71, true)) (.ld1 (.tmp 72)) (.q (some 74) (some (71, true)) (.bin .neq (.tmp 73) (.const (.int .i64 5))) (.q (some 75) (some (65, false)) (.pick (.tmp 71) (.tmp 74) (.const (.bool false))) (.q (some 76) none (.pick (.tmp 65) (.const (.bool true)) (.tmp 75)) .done)))))))))))))))))) false 6 [0, 4, 9, 76],
  .ret [.t 6],
  .reg (.q (some 6) none (.mov (.const (.bool false))) .done) false 8 [6],
  .cnd (.tmp 58) 9 7,
  .reg (.q (some 44) none (.mov (.tmp 9)) (.q (some 45) none (.mov (.tmp 11)) (.l (some 46) none (.call 13 [(.tmp 44), (.tmp 45)]) [] (.q (some 47) none (.not (.tmp 46)) (.q (some 48) none (.mov (.tmp 47)) (.q (some 49) (some (48, false)) (.mov (.tmp 10)) (.q (some 50) (some (48, false)) (.mov (.tmp 12)) (.q (some 51) (some (48, false)) (.bin .neq (.tmp 49) (.tmp 50)) (.q (some 52) none (.pick (.tmp 48) (.const (.bool true)) (.tmp 51)) (.q (some 53) none (.mov (.tmp 52)) (.q (some 54) (some (53, false)) (.mov (.tmp 8)) (.q (some 55) (some (53, false)) (.mov (.tmp 0)) (.l (some 56) (some (53, false)) (.call 18 [(.tmp 54), (.tmp 55)]) [] (.q (some 57) (some (53, false)) (.not (.tmp 56)) (.q (some 58) none (.pick (.tmp 53) (.const (.bool true)) (.tmp 57)) .done))))))))))))))) false 10 [0, 2, 4, 9, 10, 58],
  .reg (.q (some 35) none (.mov (.tmp 0)) (.q (some 36) none (.iadrA 2 1 (.tmp 4) (.const (.int .i64 0))) (.q (some 37) none (.ld1 (.tmp 36)) (.q (some 38) none (.iadrA 2 1 (.tmp 4) (.const (.int .i64 1))) (.q (some 39) none (.ld1 (.tmp 38)) (.q (some 40) none (.mov (.tmp 2)) (.l (some 41) none (.call 17 [(.tmp 35), (.tmp 37), (.tmp 39), (.tmp 40)]) [] (.q (some 34) none (.mov (.tmp 41)) (.q (some 42) none (.ext 0 (.tmp 34)) (.q (some 43) none (.ext 1 (.tmp 34)) (.q (some 11) none (.mov (.tmp 42)) (.q (some 12) none (.mov (.tmp 43)) .done)))))))))))) false 11 [0, 2, 4, 8, 9, 10, 11, 12],
  .reg (.q (some 25) none (.mov (.tmp 7)) (.q (some 26) none (.iadrA 2 1 (.tmp 4) (.const (.int .i64 0))) (.q (some 27) none (.ld1 (.tmp 26)) (.q (some 28) none (.iadrA 2 1 (.tmp 4) (.const (.int .i64 1))) (.q (some 29) none (.ld1 (.tmp 28)) (.q (some 30) none (.mov (.tmp 2)) (.l (some 31) none (.call 16 [(.tmp 25), (.tmp 27), (.tmp 29), (.tmp 30)]) [] (.q (some 24) none (.mov (.tmp 31)) (.q (some 32) none (.ext 0 (.tmp 24)) (.q (some 33) none (.ext 1 (.tmp 24)) (.q (some 9) none (.mov (.tmp 32)) (.q (some 10) none (.mov (.tmp 33)) .done)))))))))))) false 12 [0, 2, 4, 8, 9, 10],
  .reg (.q (some 20) none (.mov (.tmp 0)) (.l (some 21) none (.call 15 [(.tmp 20)]) [] (.q (some 19) none (.mov (.tmp 21)) (.q (some 22) none (.ext 0 (.tmp 19)) (.q (some 23) none (.ext 1 (.tmp 19)) (.q (some 7) none (.mov (.tmp 22)) (.q (some 8) none (.mov (.tmp 23)) .done))))))) false 13 [0, 2, 4, 7, 8],
  .reg (.q (some 17) none (.mov (.tmp 0)) (.l (some 18) none (.call 9 [(.tmp 17), (.const (.int .i64 200))]) [] (.q (some 0) none (.mov (.tmp 18)) .done))) false 14 [0, 2, 4],
  .ret [.t 6],
  .reg (.q (some 6) none (.mov (.const (.bool false))) .done) false 16 [6],
  .cnd (.tmp 16) 17 15,
  .reg (.l (some 15) none (.call 6 []) [] (.q (some 16) none (.not (.tmp 15)) .done)) false 18 [0, 2, 4, 16],
  .reg (.l (some 4) none (.box 38 (.tmp 1)) [] (.q (some 6) none (.mov (.const (.bool false))) .done)) false 19 [0, 2, 4]
  ]
theorem c5_ok : cfgL Try.prog 5 = some (116, 20, c5.map Vc.Node.bare) := by kernel_rfl
/- strongbox/strongboxlaw03.awake: entry 4 -/
def c6 : List Vc.Node := [
  .ret [.t 0],
  .ret [.t 0],
  .reg (.l (some 7) none (.bldS 5 1 [(.const (.int .u8 0)), (.const (.int .u8 0)), (.const (.int .u8 1))]) [] (.l (some 8) none (.call 19 [(.tmp 7)]) [] (.q (some 9) none (.bin .eql (.tmp 8) (.const (.string ⟨#[49, 49, 50]⟩))) (.q (some 10) none (.mov (.tmp 9)) (.q (some 11) (some (10, true)) (.mov (.tmp 2)) (.q (some 12) (some (10, true)) (.bin .eql (.tmp 11) (.const (.int .i64 0))) (.q (some 13) none (.pick (.tmp 10) (.tmp 12) (.const (.bool false))) (.q (some 14) none (.mov (.tmp 13)) (.q (some 15) (some (14, true)) (.mov (.tmp 1)) (.q (some 16) (some (14, true)) (.bin .eql (.tmp 15) (.const (.string ⟨#[56, 57, 102, 56, 115, 112, 120, 109]⟩))) (.q (some 17) none (.pick (.tmp 14) (.tmp 16) (.const (.bool false))) (.q (some 18) none (.mov (.tmp 17)) (.l (some 19) (some (18, true)) (.bldS 5 1 [(.const (.int .u8 10))]) [] (.l (some 20) (some (18, true)) (.call 10 [(.tmp 19)]) [] (.q (some 21) (some (18, true)) (.bin .eql (.tmp 20) (.const (.string ⟨#[48, 97]⟩))) (.q (some 22) none (.pick (.tmp 18) (.tmp 21) (.const (.bool false))) (.q (some 0) none (.mov (.tmp 22)) .done))))))))))))))))) false 1 [0],
  .reg (.l (some 4) none (.call 7 [(.const (.string ⟨#[114, 97, 119, 40, 100, 101, 97, 100, 98, 101, 101, 102, 41]⟩))]) [] (.q (some 3) none (.mov (.tmp 4)) (.q (some 5) none (.ext 0 (.tmp 3)) (.q (some 6) none (.ext 1 (.tmp 3)) (.q (some 1) none (.mov (.tmp 5)) (.q (some 2) none (.mov (.tmp 6)) .done)))))) false 2 [1, 2],
  .reg (.q (some 0) none (.mov (.const (.bool false))) .done) false 3 []
  ]
theorem c6_ok : cfgL Try.prog 6 = some (23, 4, c6.map Vc.Node.bare) := by kernel_rfl
/- strongbox/text.Checksum: entry 34 -/
def c7 : List Vc.Node := [
  .ret [.t 2, .t 3],
  .ret [.t 2, .t 3],
  .reg (.q (some 93) none (.mov (.tmp 8)) (.q (some 94) none (.b2s (.tmp 93)) (.q (some 2) none (.mov (.tmp 94)) (.q (some 3) none (.mov (.const (.int .i64 0))) .done)))) false 1 [2, 3],
  .jmp 8,
  .reg (.q (some 92) none (.bin .add (.tmp 83) (.const (.int .i64 1))) (.q (some 83) none (.mov (.tmp 92)) .done)) false 3 [8, 81, 82, 83],
  .reg (.q (some 87) none (.mov (.tmp 8)) (.q (some 88) none (.mov (.tmp 10)) (.q (some 89) none (.idxS (.const (.string ⟨#[113, 112, 122, 114, 121, 57, 120, 56, 103, 102, 50, 116, 118, 100, 119, 48, 115, 51, 106, 110, 53, 52, 107, 104, 99, 101, 54, 109, 117, 97, 55, 108]⟩)) (.tmp 88)) (.l (some 90) none (.bldS 5 1 [(.tmp 89)]) [] (.l (some 91) none (.app 5 1 1 [(1, (.int .u8 0))] (.tmp 87) (.tmp 90)) [] (.q (some 8) none (.mov (.tmp 91)) .done)))))) false 4 [8, 81, 82, 83],
  .reg (.q (some 85) none (.iadrS 1 (.tmp 81) (.tmp 83)) (.q (some 86) none (.ld1 (.tmp 85)) (.q (some 10) none (.mov (.tmp 86)) .done))) false 5 [8, 10, 81, 82, 83],
  .cnd (.tmp 84) 6 2,
  .reg (.q (some 84) none (.bin .lss (.tmp 83) (.tmp 82)) .done) false 7 [8, 81, 82, 83, 84],
  .reg (.l (some 77) none (.call 22 []) [] (.q (some 78) none (.mov (.tmp 4)) (.l (some 79) none (.call 23 [(.tmp 77), (.tmp 78), (.const (.int .i64 8))]) [] (.q (some 80) none (.bin .xor (.tmp 79) (.const (.int .u64 1))) (.l (some 81) none (.call 21 [(.tmp 80), (.const (.int .i64 8))]) [] (.q (some 82) none (.len (.tmp 81)) (.q (some 83) none (.mov (.const (.int .i64 0))) .done))))))) false 8 [8, 81, 82, 83],
  .reg (.q (some 8) none (.mov (.const (.slice none 0 0))) .done) false 9 [4, 8],
  .reg (.q (some 58) none (.mov (.tmp 4)) (.q (some 59) none (.mov (.tmp 5)) (.q (some 60) none (.iadrS 1 (.tmp 59) (.const (.int .i64 0))) (.q (some 61) none (.ld1 (.tmp 60)) (.l (some 62) none (.bldS 5 1 [(.tmp 61)]) [] (.l (some 63) none (.app 5 1 1 [(1, (.int .u8 0))] (.tmp 58) (.tmp 62)) [] (.q (some 4) none (.mov (.tmp 63)) .done))))))) false 10 [4],
  .reg (.q (some 66) none (.mov (.tmp 4)) (.q (some 67) none (.mov (.tmp 5)) (.q (some 68) none (.iadrS 1 (.tmp 67) (.const (.int .i64 0))) (.q (some 69) none (.ld1 (.tmp 68)) (.q (some 70) none (.bin .mul (.const (.int .u8 3)) (.tmp 69)) (.q (some 71) none (.mov (.tmp 5)) (.q (some 72) none (.iadrS 1 (.tmp 71) (.const (.int .i64 1))) (.q (some 73) none (.ld1 (.tmp 72)) (.q (some 74) none (.bin .add (.tmp 70) (.tmp 73)) (.l (some 75) none (.bldS 5 1 [(.tmp 74)]) [] (.l (some 76) none (.app 5 1 1 [(1, (.int .u8 0))] (.tmp 66) (.tmp 75)) [] (.q (some 4) none (.mov (.tmp 76)) .done)))))))))))) true 10 [4],
  .cnd (.tmp 64) 12 10,
  .reg (.q (some 65) none (.bin .eql (.tmp 55) (.const (.int .i64 2))) (.q (some 64) none (.mov (.tmp 65)) .done)) false 13 [4, 5, 64],
  .cnd (.tmp 56) 11 14,
  .reg (.q (some 57) none (.bin .eql (.tmp 55) (.const (.int .i64 1))) (.q (some 56) none (.mov (.tmp 57)) .done)) false 15 [4, 5, 55, 56],
  .reg (.q (some 54) none (.mov (.tmp 5)) (.q (some 55) none (.len (.tmp 54)) .done)) false 16 [4, 5, 55],
  .jmp 31,
  .reg (.q (some 53) none (.bin .add (.tmp 13) (.const (.int .i64 1))) (.q (some 13) none (.mov (.tmp 53)) .done)) false 18 [0, 4, 5, 12, 13],
  .reg (.q (some 37) none (.mov (.tmp 4)) (.q (some 38) none (.mov (.tmp 5)) (.q (some 39) none (.iadrS 1 (.tmp 38) (.const (.int .i64 0))) (.q (some 40) none (.ld1 (.tmp 39)) (.q (some 41) none (.bin .mul (.const (.int .u8 9)) (.tmp 40)) (.q (some 42) none (.mov (.tmp 5)) (.q (some 43) none (.iadrS 1 (.tmp 42) (.const (.int .i64 1))) (.q (some 44) none (.ld1 (.tmp 43)) (.q (some 45) none (.bin .mul (.const (.int .u8 3)) (.tmp 44)) (.q (some 46) none (.bin .add (.tmp 41) (.tmp 45)) (.q (some 47) none (.mov (.tmp 5)) (.q (some 48) none (.iadrS 1 (.tmp 47) (.const (.int .i64 2))) (.q (some 49) none (.ld1 (.tmp 48)) (.q (some 50) none (.bin .add (.tmp 46) (.tmp 49)) (.l (some 51) none (.bldS 5 1 [(.tmp 50)]) [] (.l (some 52) none (.app 5 1 1 [(1, (.int .u8 0))] (.tmp 37) (.tmp 51)) [] (.q (some 4) none (.mov (.tmp 52)) (.q (some 5) none (.mov (.const (.slice none 0 0))) .done)))))))))))))))))) true 19 [0, 4, 5, 12, 13],
  .cnd (.tmp 36) 20 19,
  .reg (.q (some 34) none (.mov (.tmp 5)) (.q (some 35) none (.len (.tmp 34)) (.q (some 36) none (.bin .eql (.tmp 35) (.const (.int .i64 3))) .done))) false 21 [0, 4, 5, 12, 13, 36],
  .reg (.q (some 22) none (.mov (.tmp 4)) (.q (some 23) none (.mov (.tmp 7)) (.q (some 24) none (.bin .and (.tmp 23) (.const (.int .i64 31))) (.q (some 25) none (.cvi .u8 (.tmp 24)) (.l (some 26) none (.bldS 5 1 [(.tmp 25)]) [] (.l (some 27) none (.app 5 1 1 [(1, (.int .u8 0))] (.tmp 22) (.tmp 26)) [] (.q (some 28) none (.mov (.tmp 5)) (.q (some 29) none (.mov (.tmp 7)) (.q (some 30) none (.bin .shr (.tmp 29) (.const (.int .u64 5))) (.q (some 31) none (.cvi .u8 (.tmp 30)) (.l (some 32) none (.bldS 5 1 [(.tmp 31)]) [] (.l (some 33) none (.app 5 1 1 [(1, (.int .u8 0))] (.tmp 28) (.tmp 32)) [] (.q (some 4) none (.mov (.tmp 27)) (.q (some 5) none (.mov (.tmp 33)) .done)))))))))))))) false 22 [0, 4, 5, 12, 13],
  .ret [.t 2, .t 3],
  .reg (.q (some 2) none (.mov (.const (.string ⟨#[]⟩))) (.q (some 3) none (.mov (.const (.int .i64 3))) .done)) false 24 [2, 3],
  .cnd (.tmp 21) 25 23,
  .reg (.q (some 20) none (.mov (.tmp 7)) (.q (some 21) none (.bin .lss (.tmp 20) (.const (.int .i64 0))) .done)) false 26 [0, 4, 5, 7, 12, 13, 21],
  .reg (.q (some 16) none (.mov (.tmp 0)) (.q (some 17) none (.mov (.tmp 6)) (.q (some 18) none (.idxS (.tmp 16) (.tmp 17)) (.l (some 19) none (.call 20 [(.const (.string ⟨#[48, 49, 50, 51, 52, 53, 54, 55, 56, 57, 40, 41, 91, 93, 44, 39, 47, 42, 97, 98, 99, 100, 101, 102, 103, 104, 64, 58, 36, 37, 123, 125, 73, 74, 75, 76, 77, 78, 79, 80, 81, 82, 83, 84, 85, 86, 87, 88, 89, 90, 38, 43, 45, 46, 59, 60, 61, 62, 63, 33, 94, 95, 124, 126, 105, 106, 107, 108, 109, 110, 111, 112, 113, 114, 115, 116, 117, 118, 119, 120, 121, 122, 65, 66, 67, 68, 69, 70, 71, 72, 96, 35, 34, 92, 32]⟩)), (.tmp 18)]) [] (.q (some 7) none (.mov (.tmp 19)) .done))))) false 27 [0, 4, 5, 7, 12, 13],
  .reg (.q (some 15) none (.mov (.tmp 13)) (.q (some 6) none (.mov (.tmp 15)) .done)) false 28 [0, 4, 5, 6, 12, 13],
  .cnd (.tmp 14) 29 17,
  .reg (.q (some 14) none (.bin .lss (.tmp 13) (.tmp 12)) .done) false 30 [0, 4, 5, 12, 13, 14],
  .reg (.q (some 11) none (.mov (.tmp 0)) (.q (some 12) none (.lenT (.tmp 11)) (.q (some 13) none (.mov (.const (.int .i64 0))) .done))) false 31 [0, 4, 5, 12, 13],
  .reg (.q (some 4) none (.mov (.const (.slice none 0 0))) (.q (some 5) none (.mov (.const (.slice none 0 0))) .done)) false 32 [0, 4, 5],
  .reg (.q (some 2) none (.mov (.const (.string ⟨#[]⟩))) (.q (some 3) none (.mov (.const (.int .i64 0))) .done)) false 33 [0]
  ]
theorem c7_ok : cfgL Try.prog 7 = some (95, 34, c7.map Vc.Node.bare) := by kernel_rfl
/- strongbox/strongboxref03.Checksum: entry 41 -/
def c8 : List Vc.Node := [
  .ret [.t 2, .t 3],
  .ret [.t 2, .t 3],
  .reg (.q (some 68) none (.mov (.tmp 10)) (.q (some 2) none (.mov (.tmp 68)) (.q (some 3) none (.mov (.const (.bool true))) .done))) false 1 [2, 3],
  .jmp 7,
  .reg (.q (some 55) none (.mov (.tmp 11)) (.q (some 56) none (.bin .sub (.tmp 55) (.const (.int .i64 1))) (.q (some 11) none (.mov (.tmp 56)) .done))) false 3 [4, 10, 11],
  .reg (.q (some 57) none (.mov (.tmp 10)) (.q (some 58) none (.mov (.tmp 4)) (.q (some 59) none (.mov (.tmp 11)) (.q (some 60) none (.bin .mul (.const (.int .i64 5)) (.tmp 59)) (.q (some 61) none (.cvi .u64 (.tmp 60)) (.q (some 62) none (.bin .shr (.tmp 58) (.tmp 61)) (.q (some 63) none (.bin .rem (.tmp 62) (.const (.int .u64 32))) (.q (some 64) none (.idxS (.const (.string ⟨#[113, 112, 122, 114, 121, 57, 120, 56, 103, 102, 50, 116, 118, 100, 119, 48, 115, 51, 106, 110, 53, 52, 107, 104, 99, 101, 54, 109, 117, 97, 55, 108]⟩)) (.tmp 63)) (.l (some 65) none (.bldS 5 1 [(.tmp 64)]) [] (.q (some 66) none (.b2s (.tmp 65)) (.q (some 67) none (.bin .add (.tmp 57) (.tmp 66)) (.q (some 10) none (.mov (.tmp 67)) .done)))))))))))) false 4 [4, 10, 11],
  .cnd (.tmp 54) 5 2,
  .reg (.q (some 53) none (.mov (.tmp 11)) (.q (some 54) none (.bin .geq (.tmp 53) (.const (.int .i64 0))) .done)) false 6 [4, 10, 11, 54],
  .reg (.q (some 11) none (.mov (.const (.int .i64 7))) .done) false 7 [4, 10, 11],
  .reg (.q (some 10) none (.mov (.const (.string ⟨#[]⟩))) .done) false 8 [4, 10],
  .reg (.q (some 51) none (.mov (.tmp 4)) (.q (some 52) none (.bin .xor (.tmp 51) (.const (.int .u64 1))) (.q (some 4) none (.mov (.tmp 52)) .done))) false 9 [4],
  .jmp 15,
  .reg (.q (some 47) none (.mov (.tmp 9)) (.q (some 48) none (.bin .add (.tmp 47) (.const (.int .i64 1))) (.q (some 9) none (.mov (.tmp 48)) .done))) false 11 [4, 9],
  .reg (.q (some 49) none (.mov (.tmp 4)) (.l (some 50) none (.call 25 [(.tmp 49), (.const (.int .i64 0))]) [] (.q (some 4) none (.mov (.tmp 50)) .done))) false 12 [4, 9],
  .cnd (.tmp 46) 13 10,
  .reg (.q (some 45) none (.mov (.tmp 9)) (.q (some 46) none (.bin .lss (.tmp 45) (.const (.int .i64 8))) .done)) false 14 [4, 9, 46],
  .reg (.q (some 9) none (.mov (.const (.int .i64 0))) .done) false 15 [4, 9],
  .reg (.q (some 42) none (.mov (.tmp 4)) (.q (some 43) none (.mov (.tmp 5)) (.l (some 44) none (.call 25 [(.tmp 42), (.tmp 43)]) [] (.q (some 4) none (.mov (.tmp 44)) .done)))) false 16 [4],
  .cnd (.tmp 41) 17 16,
  .reg (.q (some 40) none (.mov (.tmp 6)) (.q (some 41) none (.bin .gtr (.tmp 40) (.const (.int .i64 0))) .done)) false 18 [4, 5, 41],
  .jmp 36,
  .reg (.q (some 16) none (.mov (.tmp 7)) (.q (some 17) none (.bin .add (.tmp 16) (.const (.int .i64 1))) (.q (some 7) none (.mov (.tmp 17)) .done))) false 20 [0, 4, 5, 6, 7],
  .reg (.q (some 6) none (.mov (.const (.int .i64 0))) .done) false 21 [0, 4, 5, 6, 7],
  .reg (.q (some 5) none (.mov (.const (.int .i64 0))) .done) false 22 [0, 4, 5, 7],
  .reg (.q (some 37) none (.mov (.tmp 4)) (.q (some 38) none (.mov (.tmp 5)) (.l (some 39) none (.call 25 [(.tmp 37), (.tmp 38)]) [] (.q (some 4) none (.mov (.tmp 39)) .done)))) false 23 [0, 4, 7],
  .cnd (.tmp 36) 24 21,
  .reg (.q (some 35) none (.mov (.tmp 6)) (.q (some 36) none (.bin .eql (.tmp 35) (.const (.int .i64 3))) .done)) false 25 [0, 4, 5, 6, 7, 36],
  .reg (.q (some 33) none (.mov (.tmp 6)) (.q (some 34) none (.bin .add (.tmp 33) (.const (.int .i64 1))) (.q (some 6) none (.mov (.tmp 34)) .done))) false 26 [0, 4, 5, 6, 7],
  .reg (.q (some 28) none (.mov (.tmp 5)) (.q (some 29) none (.bin .mul (.const (.int .i64 3)) (.tmp 28)) (.q (some 30) none (.mov (.tmp 8)) (.q (some 31) none (.bin .quo (.tmp 30) (.const (.int .i64 32))) (.q (some 32) none (.bin .add (.tmp 29) (.tmp 31)) (.q (some 5) none (.mov (.tmp 32)) .done)))))) false 27 [0, 4, 5, 6, 7],
  .reg (.q (some 24) none (.mov (.tmp 4)) (.q (some 25) none (.mov (.tmp 8)) (.q (some 26) none (.bin .rem (.tmp 25) (.const (.int .i64 32))) (.l (some 27) none (.call 25 [(.tmp 24), (.tmp 26)]) [] (.q (some 4) none (.mov (.tmp 27)) .done))))) false 28 [0, 4, 5, 6, 7, 8],
  .ret [.t 2, .t 3],
  .reg (.q (some 2) none (.mov (.const (.string ⟨#[]⟩))) (.q (some 3) none (.mov (.const (.bool false))) .done)) false 30 [2, 3],
  .cnd (.tmp 23) 31 29,
  .reg (.q (some 22) none (.mov (.tmp 8)) (.q (some 23) none (.bin .lss (.tmp 22) (.const (.int .i64 0))) .done)) false 32 [0, 4, 5, 6, 7, 8, 23],
  .reg (.q (some 18) none (.mov (.tmp 0)) (.q (some 19) none (.mov (.tmp 7)) (.q (some 20) none (.idxS (.tmp 18) (.tmp 19)) (.l (some 21) none (.call 24 [(.const (.string ⟨#[48, 49, 50, 51, 52, 53, 54, 55, 56, 57, 40, 41, 91, 93, 44, 39, 47, 42, 97, 98, 99, 100, 101, 102, 103, 104, 64, 58, 36, 37, 123, 125, 73, 74, 75, 76, 77, 78, 79, 80, 81, 82, 83, 84, 85, 86, 87, 88, 89, 90, 38, 43, 45, 46, 59, 60, 61, 62, 63, 33, 94, 95, 124, 126, 105, 106, 107, 108, 109, 110, 111, 112, 113, 114, 115, 116, 117, 118, 119, 120, 121, 122, 65, 66, 67, 68, 69, 70, 71, 72, 96, 35, 34, 92, 32]⟩)), (.tmp 20)]) [] (.q (some 8) none (.mov (.tmp 21)) .done))))) false 33 [0, 4, 5, 6, 7, 8],
  .cnd (.tmp 15) 34 19,
  .reg (.q (some 12) none (.mov (.tmp 7)) (.q (some 13) none (.mov (.tmp 0)) (.q (some 14) none (.lenT (.tmp 13)) (.q (some 15) none (.bin .lss (.tmp 12) (.tmp 14)) .done)))) false 35 [0, 4, 5, 6, 7, 15],
  .reg (.q (some 7) none (.mov (.const (.int .i64 0))) .done) false 36 [0, 4, 5, 6, 7],
  .reg (.q (some 6) none (.mov (.const (.int .i64 0))) .done) false 37 [0, 4, 5, 6],
  .reg (.q (some 5) none (.mov (.const (.int .i64 0))) .done) false 38 [0, 4, 5],
  .reg (.q (some 4) none (.mov (.const (.int .u64 1))) .done) false 39 [0, 4],
  .reg (.q (some 2) none (.mov (.const (.string ⟨#[]⟩))) (.q (some 3) none (.mov (.const (.bool false))) .done)) false 40 [0]
  ]
theorem c8_ok : cfgL Try.prog 8 = some (69, 41, c8.map Vc.Node.bare) := by kernel_rfl
/- strongbox/strongboxlaw03.short: entry 7 -/
def c9 : List Vc.Node := [
  .ret [.t 4],
  .ret [.t 4],
  .reg (.q (some 12) none (.mov (.tmp 0)) (.q (some 4) none (.mov (.tmp 12)) .done)) false 1 [4],
  .ret [.t 4],
  .reg (.q (some 9) none (.mov (.tmp 0)) (.q (some 10) none (.mov (.tmp 1)) (.q (some 11) none (.slcS 1 (.tmp 9) none (some (.tmp 10))) (.q (some 4) none (.mov (.tmp 11)) .done)))) false 3 [4],
  .cnd (.tmp 8) 4 2,
  .reg (.q (some 5) none (.mov (.tmp 0)) (.q (some 6) none (.len (.tmp 5)) (.q (some 7) none (.mov (.tmp 1)) (.q (some 8) none (.bin .gtr (.tmp 6) (.tmp 7)) .done)))) false 5 [0, 1, 8],
  .reg (.q (some 4) none (.mov (.const (.slice none 0 0))) .done) false 6 [0, 1]
  ]
theorem c9_ok : cfgL Try.prog 9 = some (13, 7, c9.map Vc.Node.bare) := by kernel_rfl
/- strongbox/text.Hex: entry 12 -/
def c10 : List Vc.Node := [
  .ret [.t 2],
  .ret [.t 2],
  .reg (.l (some 21) none (.call 27 [(.tmp 3)]) [] (.q (some 2) none (.mov (.tmp 21)) .done)) false 1 [2],
  .jmp 9,
  .reg (.q (some 20) none (.bin .add (.tmp 8) (.const (.int .i64 1))) (.q (some 8) none (.mov (.tmp 20)) .done)) false 3 [3, 6, 7, 8],
  .reg (.q (some 16) none (.mov (.tmp 5)) (.q (some 17) none (.bin .and (.tmp 16) (.const (.int .u8 15))) (.q (some 18) none (.idxS (.const (.string ⟨#[48, 49, 50, 51, 52, 53, 54, 55, 56, 57, 97, 98, 99, 100, 101, 102]⟩)) (.tmp 17)) (.l (some 19) none (.call 26 [(.tmp 3), (.tmp 18)]) [] .done)))) false 4 [3, 6, 7, 8],
  .reg (.q (some 12) none (.mov (.tmp 5)) (.q (some 13) none (.bin .shr (.tmp 12) (.const (.int .u64 4))) (.q (some 14) none (.idxS (.const (.string ⟨#[48, 49, 50, 51, 52, 53, 54, 55, 56, 57, 97, 98, 99, 100, 101, 102]⟩)) (.tmp 13)) (.l (some 15) none (.call 26 [(.tmp 3), (.tmp 14)]) [] .done)))) false 5 [3, 5, 6, 7, 8],
  .reg (.q (some 10) none (.iadrS 1 (.tmp 6) (.tmp 8)) (.q (some 11) none (.ld1 (.tmp 10)) (.q (some 5) none (.mov (.tmp 11)) .done))) false 6 [3, 5, 6, 7, 8],
  .cnd (.tmp 9) 7 2,
  .reg (.q (some 9) none (.bin .lss (.tmp 8) (.tmp 7)) .done) false 8 [3, 6, 7, 8, 9],
  .reg (.q (some 6) none (.mov (.tmp 0)) (.q (some 7) none (.len (.tmp 6)) (.q (some 8) none (.mov (.const (.int .i64 0))) .done))) false 9 [3, 6, 7, 8],
  .reg (.l (some 3) none (.alloc 57 [(1, (.pointer none)), (1, (.slice none 0 0))]) [] .done) false 10 [0, 3],
  .reg (.q (some 2) none (.mov (.const (.string ⟨#[]⟩))) .done) false 11 [0]
  ]
theorem c10_ok : cfgL Try.prog 10 = some (22, 12, c10.map Vc.Node.bare) := by kernel_rfl
/- strongbox/text.FromHex: entry 19 -/
def c11 : List Vc.Node := [
  .ret [.t 2, .t 3],
  .ret [.t 2, .t 3],
  .reg (.q (some 41) none (.mov (.tmp 4)) (.q (some 2) none (.mov (.tmp 41)) (.q (some 3) none (.mov (.const (.int .i64 0))) .done))) false 1 [2, 3],
  .jmp 12,
  .reg (.q (some 16) none (.mov (.tmp 5)) (.q (some 17) none (.bin .add (.tmp 16) (.const (.int .i64 2))) (.q (some 5) none (.mov (.tmp 17)) .done))) false 3 [0, 4, 5],
  .reg (.q (some 33) none (.mov (.tmp 4)) (.q (some 34) none (.mov (.tmp 6)) (.q (some 35) none (.bin .shl (.tmp 34) (.const (.int .u64 4))) (.q (some 36) none (.mov (.tmp 7)) (.q (some 37) none (.bin .or (.tmp 35) (.tmp 36)) (.q (some 38) none (.cvi .u8 (.tmp 37)) (.l (some 39) none (.bldS 5 1 [(.tmp 38)]) [] (.l (some 40) none (.app 5 1 1 [(1, (.int .u8 0))] (.tmp 33) (.tmp 39)) [] (.q (some 4) none (.mov (.tmp 40)) .done))))))))) false 4 [0, 4, 5],
  .ret [.t 2, .t 3],
  .reg (.q (some 2) none (.mov (.const (.slice none 0 0))) (.q (some 3) none (.mov (.const (.int .i64 3))) .done)) false 6 [2, 3],
  .cnd (.tmp 32) 7 5,
  .reg (.q (some 27) none (.mov (.tmp 6)) (.q (some 28) none (.bin .lss (.tmp 27) (.const (.int .i64 0))) (.q (some 29) none (.mov (.tmp 28)) (.q (some 30) (some (29, false)) (.mov (.tmp 7)) (.q (some 31) (some (29, false)) (.bin .lss (.tmp 30) (.const (.int .i64 0))) (.q (some 32) none (.pick (.tmp 29) (.const (.bool true)) (.tmp 31)) .done)))))) false 8 [0, 4, 5, 6, 7, 32],
  .reg (.q (some 18) none (.mov (.tmp 0)) (.q (some 19) none (.mov (.tmp 5)) (.q (some 20) none (.idxS (.tmp 18) (.tmp 19)) (.q (some 22) none (.mov (.tmp 0)) (.q (some 23) none (.mov (.tmp 5)) (.q (some 24) none (.bin .add (.tmp 23) (.const (.int .i64 1))) (.q (some 25) none (.idxS (.tmp 22) (.tmp 24)) (.l (some 21) none (.call 28 [(.tmp 20)]) [] (.l (some 26) none (.call 28 [(.tmp 25)]) [] (.q (some 6) none (.mov (.tmp 21)) (.q (some 7) none (.mov (.tmp 26)) .done))))))))))) true 9 [0, 4, 5, 6, 7],
  .cnd (.tmp 15) 10 2,
  .reg (.q (some 12) none (.mov (.tmp 5)) (.q (some 13) none (.mov (.tmp 0)) (.q (some 14) none (.lenT (.tmp 13)) (.q (some 15) none (.bin .lss (.tmp 12) (.tmp 14)) .done)))) false 11 [0, 4, 5, 15],
  .reg (.q (some 5) none (.mov (.const (.int .i64 0))) .done) false 12 [0, 4, 5],
  .reg (.q (some 4) none (.mov (.const (.slice none 0 0))) .done) false 13 [0, 4],
  .ret [.t 2, .t 3],
  .reg (.q (some 2) none (.mov (.const (.slice none 0 0))) (.q (some 3) none (.mov (.const (.int .i64 3))) .done)) false 15 [2, 3],
  .cnd (.tmp 11) 16 14,
  .reg (.q (some 8) none (.mov (.tmp 0)) (.q (some 9) none (.lenT (.tmp 8)) (.q (some 10) none (.bin .rem (.tmp 9) (.const (.int .i64 2))) (.q (some 11) none (.bin .neq (.tmp 10) (.const (.int .i64 0))) .done)))) false 17 [0, 11],
  .reg (.q (some 2) none (.mov (.const (.slice none 0 0))) (.q (some 3) none (.mov (.const (.int .i64 0))) .done)) false 18 [0]
  ]
theorem c11_ok : cfgL Try.prog 11 = some (42, 19, c11.map Vc.Node.bare) := by kernel_rfl
/- strongbox/strongboxref03.Hex: entry 10 -/
def c12 : List Vc.Node := [
  .ret [.t 2],
  .ret [.t 2],
  .reg (.q (some 26) none (.mov (.tmp 3)) (.q (some 27) none (.b2s (.tmp 26)) (.q (some 2) none (.mov (.tmp 27)) .done))) false 1 [2],
  .jmp 7,
  .reg (.q (some 9) none (.mov (.tmp 4)) (.q (some 10) none (.bin .add (.tmp 9) (.const (.int .i64 1))) (.q (some 4) none (.mov (.tmp 10)) .done))) false 3 [0, 3, 4],
  .reg (.q (some 11) none (.mov (.tmp 3)) (.q (some 12) none (.mov (.tmp 0)) (.q (some 13) none (.mov (.tmp 4)) (.q (some 14) none (.iadrS 1 (.tmp 12) (.tmp 13)) (.q (some 15) none (.ld1 (.tmp 14)) (.q (some 16) none (.bin .quo (.tmp 15) (.const (.int .u8 16))) (.q (some 18) none (.mov (.tmp 0)) (.q (some 19) none (.mov (.tmp 4)) (.q (some 20) none (.iadrS 1 (.tmp 18) (.tmp 19)) (.q (some 21) none (.ld1 (.tmp 20)) (.q (some 22) none (.bin .rem (.tmp 21) (.const (.int .u8 16))) (.l (some 17) none (.call 29 [(.tmp 16)]) [⟨21, none, (.ld1 (.tmp 20))⟩] (.l (some 23) none (.call 29 [(.tmp 22)]) [] (.l (some 24) none (.bldS 5 1 [(.tmp 17), (.tmp 23)]) [] (.l (some 25) none (.app 5 1 1 [(1, (.int .u8 0))] (.tmp 11) (.tmp 24)) [] (.q (some 3) none (.mov (.tmp 25)) .done)))))))))))))))) true 4 [0, 3, 4],
  .cnd (.tmp 8) 5 2,
  .reg (.q (some 5) none (.mov (.tmp 4)) (.q (some 6) none (.mov (.tmp 0)) (.q (some 7) none (.len (.tmp 6)) (.q (some 8) none (.bin .lss (.tmp 5) (.tmp 7)) .done)))) false 6 [0, 3, 4, 8],
  .reg (.q (some 4) none (.mov (.const (.int .i64 0))) .done) false 7 [0, 3, 4],
  .reg (.q (some 3) none (.mov (.const (.slice none 0 0))) .done) false 8 [0, 3],
  .reg (.q (some 2) none (.mov (.const (.string ⟨#[]⟩))) .done) false 9 [0]
  ]
theorem c12_ok : cfgL Try.prog 12 = some (28, 10, c12.map Vc.Node.bare) := by kernel_rfl
/- strongbox/strongboxref01.Equal: entry 3 -/
def c13 : List Vc.Node := [
  .ret [.t 4],
  .ret [.t 4],
  .reg (.q (some 5) none (.mov (.tmp 0)) (.q (some 6) none (.b2s (.tmp 5)) (.q (some 7) none (.mov (.tmp 1)) (.q (some 8) none (.b2s (.tmp 7)) (.q (some 9) none (.bin .eql (.tmp 6) (.tmp 8)) (.q (some 4) none (.mov (.tmp 9)) .done)))))) false 1 [4],
  .reg (.q (some 4) none (.mov (.const (.bool false))) .done) false 2 [0, 1]
  ]
theorem c13_ok : cfgL Try.prog 13 = some (10, 3, c13.map Vc.Node.bare) := by kernel_rfl
/- strongbox/strongboxref03.FromHex: entry 14 -/
def c14 : List Vc.Node := [
  .ret [.t 2, .t 3],
  .ret [.t 2, .t 3],
  .reg (.q (some 47) none (.mov (.tmp 4)) (.q (some 2) none (.mov (.tmp 47)) (.q (some 3) none (.mov (.const (.bool true))) .done))) false 1 [2, 3],
  .jmp 11,
  .reg (.q (some 10) none (.mov (.tmp 5)) (.q (some 11) none (.bin .add (.tmp 10) (.const (.int .i64 2))) (.q (some 5) none (.mov (.tmp 11)) .done))) false 3 [0, 4, 5],
  .reg (.q (some 32) none (.mov (.tmp 4)) (.q (some 33) none (.mov (.tmp 0)) (.q (some 34) none (.mov (.tmp 5)) (.q (some 35) none (.idxS (.tmp 33) (.tmp 34)) (.q (some 38) none (.mov (.tmp 0)) (.q (some 39) none (.mov (.tmp 5)) (.q (some 40) none (.bin .add (.tmp 39) (.const (.int .i64 1))) (.q (some 41) none (.idxS (.tmp 38) (.tmp 40)) (.l (some 36) none (.call 30 [(.tmp 35)]) [] (.q (some 37) none (.bin .mul (.const (.int .i64 16)) (.tmp 36)) (.l (some 42) none (.call 30 [(.tmp 41)]) [] (.q (some 43) none (.bin .add (.tmp 37) (.tmp 42)) (.q (some 44) none (.cvi .u8 (.tmp 43)) (.l (some 45) none (.bldS 5 1 [(.tmp 44)]) [] (.l (some 46) none (.app 5 1 1 [(1, (.int .u8 0))] (.tmp 32) (.tmp 45)) [] (.q (some 4) none (.mov (.tmp 46)) .done)))))))))))))))) true 4 [0, 4, 5],
  .ret [.t 2, .t 3],
  .reg (.q (some 2) none (.mov (.const (.slice none 0 0))) (.q (some 3) none (.mov (.const (.bool false))) .done)) false 6 [2, 3],
  .cnd (.tmp 31) 7 5,
  .reg (.q (some 12) none (.mov (.tmp 5)) (.q (some 13) none (.bin .add (.tmp 12) (.const (.int .i64 1))) (.q (some 14) none (.mov (.tmp 0)) (.q (some 15) none (.lenT (.tmp 14)) (.q (some 16) none (.bin .eql (.tmp 13) (.tmp 15)) (.q (some 17) none (.mov (.tmp 16)) (.q (some 18) (some (17, false)) (.mov (.tmp 0)) (.q (some 19) (some (17, false)) (.mov (.tmp 5)) (.q (some 20) (some (17, false)) (.idxS (.tmp 18) (.tmp 19)) (.l (some 21) (some (17, false)) (.call 30 [(.tmp 20)]) [] (.q (some 22) (some (17, false)) (.bin .lss (.tmp 21) (.const (.int .i64 0))) (.q (some 23) none (.pick (.tmp 17) (.const (.bool true)) (.tmp 22)) (.q (some 24) none (.mov (.tmp 23)) (.q (some 25) (some (24, false)) (.mov (.tmp 0)) (.q (some 26) (some (24, false)) (.mov (.tmp 5)) (.q (some 27) (some (24, false)) (.bin .add (.tmp 26) (.const (.int .i64 1))) (.q (some 28) (some (24, false)) (.idxS (.tmp 25) (.tmp 27)) (.l (some 29) (some (24, false)) (.call 30 [(.tmp 28)]) [] (.q (some 30) (some (24, false)) (.bin .lss (.tmp 29) (.const (.int .i64 0))) (.q (some 31) none (.pick (.tmp 24) (.const (.bool true)) (.tmp 30)) .done)))))))))))))))))))) false 8 [0, 4, 5, 31],
  .cnd (.tmp 9) 9 2,
  .reg (.q (some 6) none (.mov (.tmp 5)) (.q (some 7) none (.mov (.tmp 0)) (.q (some 8) none (.lenT (.tmp 7)) (.q (some 9) none (.bin .lss (.tmp 6) (.tmp 8)) .done)))) false 10 [0, 4, 5, 9],
  .reg (.q (some 5) none (.mov (.const (.int .i64 0))) .done) false 11 [0, 4, 5],
  .reg (.q (some 4) none (.mov (.const (.slice none 0 0))) .done) false 12 [0, 4],
  .reg (.q (some 2) none (.mov (.const (.slice none 0 0))) (.q (some 3) none (.mov (.const (.bool false))) .done)) false 13 [0]
  ]
theorem c14_ok : cfgL Try.prog 14 = some (48, 14, c14.map Vc.Node.bare) := by kernel_rfl
/- strongbox/strongboxref01.Spare: entry 13 -/
def c15 : List Vc.Node := [
  .ret [.t 2, .t 3],
  .ret [.t 2, .t 3],
  .reg (.q (some 33) none (.mov (.tmp 4)) (.q (some 34) none (.mov (.tmp 0)) (.q (some 35) none (.len (.tmp 34)) (.q (some 36) none (.slcS 1 (.tmp 33) none (some (.tmp 35))) (.q (some 37) none (.mov (.tmp 4)) (.q (some 2) none (.mov (.tmp 36)) (.q (some 3) none (.mov (.tmp 37)) .done))))))) false 1 [2, 3],
  .jmp 10,
  .reg (.q (some 14) none (.mov (.tmp 5)) (.q (some 15) none (.bin .add (.tmp 14) (.const (.int .i64 1))) (.q (some 5) none (.mov (.tmp 15)) .done))) false 3 [0, 4, 5],
  .reg (.q (some 26) none (.mov (.tmp 4)) (.q (some 27) none (.mov (.tmp 5)) (.q (some 28) none (.mov (.tmp 0)) (.q (some 29) none (.mov (.tmp 5)) (.q (some 30) none (.iadrS 1 (.tmp 28) (.tmp 29)) (.q (some 31) none (.ld1 (.tmp 30)) (.q (some 32) none (.iadrS 1 (.tmp 26) (.tmp 27)) (.l none none (.st1 (.tmp 32) (.tmp 31)) [] .done)))))))) false 4 [0, 4, 5],
  .cnd (.tmp 25) 5 4,
  .reg (.q (some 22) none (.mov (.tmp 5)) (.q (some 23) none (.mov (.tmp 0)) (.q (some 24) none (.len (.tmp 23)) (.q (some 25) none (.bin .lss (.tmp 22) (.tmp 24)) .done)))) false 6 [0, 4, 5, 25],
  .reg (.q (some 16) none (.mov (.tmp 4)) (.q (some 17) none (.mov (.tmp 5)) (.q (some 18) none (.mov (.tmp 5)) (.q (some 19) none (.bin .add (.const (.int .i64 201)) (.tmp 18)) (.q (some 20) none (.cvi .u8 (.tmp 19)) (.q (some 21) none (.iadrS 1 (.tmp 16) (.tmp 17)) (.l none none (.st1 (.tmp 21) (.tmp 20)) [] .done))))))) false 7 [0, 4, 5],
  .cnd (.tmp 13) 8 2,
  .reg (.q (some 10) none (.mov (.tmp 5)) (.q (some 11) none (.mov (.tmp 4)) (.q (some 12) none (.len (.tmp 11)) (.q (some 13) none (.bin .lss (.tmp 10) (.tmp 12)) .done)))) false 9 [0, 4, 5, 13],
  .reg (.q (some 5) none (.mov (.const (.int .i64 0))) .done) false 10 [0, 4, 5],
  .reg (.q (some 6) none (.mov (.tmp 0)) (.q (some 7) none (.len (.tmp 6)) (.q (some 8) none (.bin .add (.tmp 7) (.const (.int .i64 9))) (.l (some 9) none (.mkS 5 1 1 [(1, (.int .u8 0))] (.tmp 8) (.tmp 8)) [] (.q (some 4) none (.mov (.tmp 9)) .done))))) false 11 [0, 4],
  .reg (.q (some 2) none (.mov (.const (.slice none 0 0))) (.q (some 3) none (.mov (.const (.slice none 0 0))) .done)) false 12 [0]
  ]
theorem c15_ok : cfgL Try.prog 15 = some (38, 13, c15.map Vc.Node.bare) := by kernel_rfl
/- strongbox/text.Regroup: entry 33 -/
def c16 : List Vc.Node := [
  .ret [.t 8, .t 9],
  .ret [.t 8, .t 9],
  .reg (.q (some 103) none (.mov (.tmp 10)) (.q (some 8) none (.mov (.tmp 103)) (.q (some 9) none (.mov (.const (.int .i64 0))) .done))) false 1 [8, 9],
  .reg (.q (some 82) none (.mov (.tmp 10)) (.q (some 83) none (.mov (.tmp 15)) (.q (some 84) none (.mov (.tmp 2)) (.q (some 85) none (.mov (.tmp 12)) (.q (some 86) none (.bin .sub (.tmp 84) (.tmp 85)) (.q (some 87) none (.bin .shl (.tmp 83) (.tmp 86)) (.q (some 88) none (.cvi .u8 (.tmp 87)) (.l (some 89) none (.bldS 5 1 [(.tmp 88)]) [] (.l (some 90) none (.app 5 1 1 [(1, (.int .u8 0))] (.tmp 82) (.tmp 89)) [] (.q (some 10) none (.mov (.tmp 90)) .done)))))))))) false 2 [10],
  .ret [.t 8, .t 9],
  .reg (.q (some 8) none (.mov (.const (.slice none 0 0))) (.q (some 9) none (.mov (.const (.int .i64 3))) .done)) false 4 [8, 9],
  .cnd (.tmp 91) 5 2,
  .reg (.q (some 92) none (.mov (.tmp 3)) (.q (some 93) none (.not (.tmp 92)) (.q (some 94) none (.mov (.tmp 93)) (.q (some 95) (some (94, true)) (.mov (.tmp 12)) (.q (some 96) (some (94, true)) (.mov (.tmp 1)) (.q (some 97) (some (94, true)) (.bin .geq (.tmp 95) (.tmp 96)) (.q (some 98) (some (94, true)) (.mov (.tmp 97)) (.q (some 99) (some (98, false)) (.mov (.tmp 15)) (.q (some 100) (some (98, false)) (.bin .neq (.tmp 99) (.const (.int .i64 0))) (.q (some 101) (some (94, true)) (.pick (.tmp 98) (.const (.bool true)) (.tmp 100)) (.q (some 102) none (.pick (.tmp 94) (.tmp 101) (.const (.bool false))) (.q (some 91) none (.mov (.tmp 102)) .done)))))))))))) false 6 [10, 91],
  .cnd (.tmp 76) 3 7,
  .reg (.q (some 77) none (.mov (.tmp 3)) (.q (some 78) none (.mov (.tmp 77)) (.q (some 79) (some (78, true)) (.mov (.tmp 12)) (.q (some 80) (some (78, true)) (.bin .gtr (.tmp 79) (.const (.int .i64 0))) (.q (some 81) none (.pick (.tmp 78) (.tmp 80) (.const (.bool false))) (.q (some 76) none (.mov (.tmp 81)) .done)))))) false 8 [1, 2, 3, 10, 12, 15, 76],
  .reg (.q (some 71) none (.mov (.tmp 11)) (.q (some 72) none (.mov (.tmp 12)) (.q (some 73) none (.bin .shl (.const (.int .i64 1)) (.tmp 72)) (.q (some 74) none (.bin .sub (.tmp 73) (.const (.int .i64 1))) (.q (some 75) none (.bin .and (.tmp 71) (.tmp 74)) (.q (some 15) none (.mov (.tmp 75)) .done)))))) false 9 [1, 2, 3, 10, 12, 15],
  .jmp 25,
  .reg (.q (some 70) none (.bin .add (.tmp 32) (.const (.int .i64 1))) (.q (some 32) none (.mov (.tmp 70)) .done)) false 11 [1, 2, 3, 10, 11, 12, 30, 31, 32],
  .jmp 17,
  .reg (.q (some 54) none (.mov (.tmp 12)) (.q (some 55) none (.mov (.tmp 2)) (.q (some 56) none (.bin .sub (.tmp 54) (.tmp 55)) (.q (some 12) none (.mov (.tmp 56)) .done)))) false 13 [1, 2, 3, 10, 11, 12, 30, 31, 32],
  .reg (.q (some 57) none (.mov (.tmp 10)) (.q (some 58) none (.mov (.tmp 11)) (.q (some 59) none (.mov (.tmp 12)) (.q (some 60) none (.mov (.tmp 2)) (.q (some 61) none (.bin .sub (.tmp 59) (.tmp 60)) (.q (some 62) none (.bin .shr (.tmp 58) (.tmp 61)) (.q (some 63) none (.mov (.tmp 2)) (.q (some 64) none (.bin .shl (.const (.int .i64 1)) (.tmp 63)) (.q (some 65) none (.bin .sub (.tmp 64) (.const (.int .i64 1))) (.q (some 66) none (.bin .and (.tmp 62) (.tmp 65)) (.q (some 67) none (.cvi .u8 (.tmp 66)) (.l (some 68) none (.bldS 5 1 [(.tmp 67)]) [] (.l (some 69) none (.app 5 1 1 [(1, (.int .u8 0))] (.tmp 57) (.tmp 68)) [] (.q (some 10) none (.mov (.tmp 69)) .done)))))))))))))) true 14 [1, 2, 3, 10, 11, 12, 30, 31, 32],
  .cnd (.tmp 53) 15 12,
  .reg (.q (some 51) none (.mov (.tmp 12)) (.q (some 52) none (.mov (.tmp 2)) (.q (some 53) none (.bin .geq (.tmp 51) (.tmp 52)) .done))) false 16 [1, 2, 3, 10, 11, 12, 30, 31, 32, 53],
  .reg (.q (some 41) none (.mov (.tmp 11)) (.q (some 42) none (.mov (.tmp 1)) (.q (some 43) none (.bin .shl (.tmp 41) (.tmp 42)) (.q (some 44) none (.mov (.tmp 14)) (.q (some 45) none (.cvi .i64 (.tmp 44)) (.q (some 46) none (.bin .or (.tmp 43) (.tmp 45)) (.q (some 47) none (.bin .and (.tmp 46) (.const (.int .i64 65535))) (.q (some 48) none (.mov (.tmp 12)) (.q (some 49) none (.mov (.tmp 1)) (.q (some 50) none (.bin .add (.tmp 48) (.tmp 49)) (.q (some 11) none (.mov (.tmp 47)) (.q (some 12) none (.mov (.tmp 50)) .done)))))))))))) false 17 [1, 2, 3, 10, 11, 12, 30, 31, 32],
  .ret [.t 8, .t 9],
  .reg (.q (some 8) none (.mov (.const (.slice none 0 0))) (.q (some 9) none (.mov (.const (.int .i64 3))) .done)) false 19 [8, 9],
  .cnd (.tmp 40) 20 18,
  .reg (.q (some 36) none (.mov (.tmp 14)) (.q (some 37) none (.cvi .i64 (.tmp 36)) (.q (some 38) none (.mov (.tmp 1)) (.q (some 39) none (.bin .shr (.tmp 37) (.tmp 38)) (.q (some 40) none (.bin .neq (.tmp 39) (.const (.int .i64 0))) .done))))) false 21 [1, 2, 3, 10, 11, 12, 14, 30, 31, 32, 40],
  .reg (.q (some 34) none (.iadrS 1 (.tmp 30) (.tmp 32)) (.q (some 35) none (.ld1 (.tmp 34)) (.q (some 14) none (.mov (.tmp 35)) .done))) false 22 [1, 2, 3, 10, 11, 12, 14, 30, 31, 32],
  .cnd (.tmp 33) 23 10,
  .reg (.q (some 33) none (.bin .lss (.tmp 32) (.tmp 31)) .done) false 24 [1, 2, 3, 10, 11, 12, 30, 31, 32, 33],
  .reg (.q (some 30) none (.mov (.tmp 0)) (.q (some 31) none (.len (.tmp 30)) (.q (some 32) none (.mov (.const (.int .i64 0))) .done))) false 25 [1, 2, 3, 10, 11, 12, 30, 31, 32],
  .reg (.q (some 11) none (.mov (.const (.int .i64 0))) (.q (some 12) none (.mov (.const (.int .i64 0))) .done)) false 26 [0, 1, 2, 3, 10, 11, 12],
  .reg (.q (some 10) none (.mov (.const (.slice none 0 0))) .done) false 27 [0, 1, 2, 3, 10],
  .ret [.t 8, .t 9],
  .reg (.q (some 8) none (.mov (.const (.slice none 0 0))) (.q (some 9) none (.mov (.const (.int .i64 1))) .done)) false 29 [8, 9],
  .cnd (.tmp 29) 30 28,
  .reg (.q (some 16) none (.mov (.tmp 1)) (.q (some 17) none (.bin .lss (.tmp 16) (.const (.int .i64 1))) (.q (some 18) none (.mov (.tmp 17)) (.q (some 19) (some (18, false)) (.mov (.tmp 1)) (.q (some 20) (some (18, false)) (.bin .gtr (.tmp 19) (.const (.int .i64 8))) (.q (some 21) none (.pick (.tmp 18) (.const (.bool true)) (.tmp 20)) (.q (some 22) none (.mov (.tmp 21)) (.q (some 23) (some (22, false)) (.mov (.tmp 2)) (.q (some 24) (some (22, false)) (.bin .lss (.tmp 23) (.const (.int .i64 1))) (.q (some 25) none (.pick (.tmp 22) (.const (.bool true)) (.tmp 24)) (.q (some 26) none (.mov (.tmp 25)) (.q (some 27) (some (26, false)) (.mov (.tmp 2)) (.q (some 28) (some (26, false)) (.bin .gtr (.tmp 27) (.const (.int .i64 8))) (.q (some 29) none (.pick (.tmp 26) (.const (.bool true)) (.tmp 28)) .done)))))))))))))) false 31 [0, 1, 2, 3, 29],
  .reg (.q (some 8) none (.mov (.const (.slice none 0 0))) (.q (some 9) none (.mov (.const (.int .i64 0))) .done)) false 32 [0, 1, 2, 3]
  ]
theorem c16_ok : cfgL Try.prog 16 = some (104, 33, c16.map Vc.Node.bare) := by kernel_rfl
/- strongbox/strongboxref03.Regroup: entry 59 -/
def c17 : List Vc.Node := [
  .ret [.t 8, .t 9],
  .ret [.t 8, .t 9],
  .reg (.q (some 131) none (.mov (.tmp 12)) (.q (some 8) none (.mov (.tmp 131)) (.q (some 9) none (.mov (.const (.int .i64 0))) .done))) false 1 [8, 9],
  .jmp 10,
  .reg (.q (some 124) none (.mov (.tmp 13)) (.q (some 125) none (.bin .add (.tmp 124) (.const (.int .i64 1))) (.q (some 13) none (.mov (.tmp 125)) .done))) false 3 [11, 12, 13],
  .ret [.t 8, .t 9],
  .reg (.q (some 8) none (.mov (.const (.slice none 0 0))) (.q (some 9) none (.mov (.const (.int .i64 3))) .done)) false 5 [8, 9],
  .cnd (.tmp 130) 6 4,
  .reg (.q (some 126) none (.mov (.tmp 11)) (.q (some 127) none (.mov (.tmp 13)) (.q (some 128) none (.iadrS 1 (.tmp 126) (.tmp 127)) (.q (some 129) none (.ld1 (.tmp 128)) (.q (some 130) none (.bin .neq (.tmp 129) (.const (.int .u8 0))) .done))))) false 7 [11, 12, 13, 130],
  .cnd (.tmp 123) 8 2,
  .reg (.q (some 120) none (.mov (.tmp 13)) (.q (some 121) none (.mov (.tmp 11)) (.q (some 122) none (.len (.tmp 121)) (.q (some 123) none (.bin .lss (.tmp 120) (.tmp 122)) .done)))) false 9 [11, 12, 13, 123],
  .ret [.t 8, .t 9],
  .reg (.q (some 8) none (.mov (.const (.slice none 0 0))) (.q (some 9) none (.mov (.const (.int .i64 3))) .done)) false 11 [8, 9],
  .cnd (.tmp 119) 12 10,
  .reg (.q (some 117) none (.mov (.tmp 16)) (.q (some 118) none (.mov (.tmp 1)) (.q (some 119) none (.bin .geq (.tmp 117) (.tmp 118)) .done))) false 13 [11, 12, 13, 119],
  .cnd (.tmp 116) 14 2,
  .reg (.q (some 115) none (.mov (.tmp 3)) (.q (some 116) none (.not (.tmp 115)) .done)) false 15 [1, 11, 12, 13, 16, 116],
  .reg (.q (some 111) none (.mov (.tmp 12)) (.q (some 112) none (.mov (.tmp 17)) (.l (some 113) none (.bldS 5 1 [(.tmp 112)]) [] (.l (some 114) none (.app 5 1 1 [(1, (.int .u8 0))] (.tmp 111) (.tmp 113)) [] (.q (some 12) none (.mov (.tmp 114)) .done))))) false 16 [1, 3, 11, 12, 13, 16],
  .jmp 25,
  .reg (.q (some 93) none (.mov (.tmp 18)) (.q (some 94) none (.bin .add (.tmp 93) (.const (.int .i64 1))) (.q (some 18) none (.mov (.tmp 94)) .done))) false 18 [1, 2, 3, 11, 12, 13, 16, 17, 18],
  .reg (.q (some 103) none (.mov (.tmp 17)) (.q (some 104) none (.mov (.tmp 11)) (.q (some 105) none (.mov (.tmp 13)) (.q (some 106) none (.mov (.tmp 18)) (.q (some 107) none (.bin .add (.tmp 105) (.tmp 106)) (.q (some 108) none (.iadrS 1 (.tmp 104) (.tmp 107)) (.q (some 109) none (.ld1 (.tmp 108)) (.q (some 110) none (.bin .add (.tmp 103) (.tmp 109)) (.q (some 17) none (.mov (.tmp 110)) .done))))))))) false 19 [1, 2, 3, 11, 12, 13, 16, 17, 18],
  .cnd (.tmp 102) 20 19,
  .reg (.q (some 97) none (.mov (.tmp 13)) (.q (some 98) none (.mov (.tmp 18)) (.q (some 99) none (.bin .add (.tmp 97) (.tmp 98)) (.q (some 100) none (.mov (.tmp 11)) (.q (some 101) none (.len (.tmp 100)) (.q (some 102) none (.bin .lss (.tmp 99) (.tmp 101)) .done)))))) false 21 [1, 2, 3, 11, 12, 13, 16, 17, 18, 102],
  .reg (.q (some 95) none (.mov (.tmp 17)) (.q (some 96) none (.bin .mul (.tmp 95) (.const (.int .u8 2))) (.q (some 17) none (.mov (.tmp 96)) .done))) false 22 [1, 2, 3, 11, 12, 13, 16, 17, 18],
  .cnd (.tmp 92) 23 17,
  .reg (.q (some 90) none (.mov (.tmp 18)) (.q (some 91) none (.mov (.tmp 2)) (.q (some 92) none (.bin .lss (.tmp 90) (.tmp 91)) .done))) false 24 [1, 2, 3, 11, 12, 13, 16, 17, 18, 92],
  .reg (.q (some 18) none (.mov (.const (.int .i64 0))) .done) false 25 [1, 2, 3, 11, 12, 13, 16, 17, 18],
  .reg (.q (some 17) none (.mov (.const (.int .u8 0))) .done) false 26 [1, 2, 3, 11, 12, 13, 16, 17],
  .cnd (.tmp 89) 27 16,
  .reg (.q (some 85) none (.mov (.tmp 3)) (.q (some 86) none (.mov (.tmp 85)) (.q (some 87) (some (86, true)) (.mov (.tmp 16)) (.q (some 88) (some (86, true)) (.bin .gtr (.tmp 87) (.const (.int .i64 0))) (.q (some 89) none (.pick (.tmp 86) (.tmp 88) (.const (.bool false))) .done))))) false 28 [1, 2, 3, 11, 12, 13, 16, 89],
  .reg (.q (some 81) none (.mov (.tmp 11)) (.q (some 82) none (.len (.tmp 81)) (.q (some 83) none (.mov (.tmp 13)) (.q (some 84) none (.bin .sub (.tmp 82) (.tmp 83)) (.q (some 16) none (.mov (.tmp 84)) .done))))) false 29 [1, 2, 3, 11, 12, 13, 16],
  .jmp 42,
  .reg (.q (some 78) none (.mov (.tmp 13)) (.q (some 79) none (.mov (.tmp 2)) (.q (some 80) none (.bin .add (.tmp 78) (.tmp 79)) (.q (some 13) none (.mov (.tmp 80)) .done)))) false 31 [1, 2, 3, 11, 12, 13],
  .reg (.q (some 74) none (.mov (.tmp 12)) (.q (some 75) none (.mov (.tmp 14)) (.l (some 76) none (.bldS 5 1 [(.tmp 75)]) [] (.l (some 77) none (.app 5 1 1 [(1, (.int .u8 0))] (.tmp 74) (.tmp 76)) [] (.q (some 12) none (.mov (.tmp 77)) .done))))) false 32 [1, 2, 3, 11, 12, 13],
  .jmp 38,
  .reg (.q (some 63) none (.mov (.tmp 15)) (.q (some 64) none (.bin .add (.tmp 63) (.const (.int .i64 1))) (.q (some 15) none (.mov (.tmp 64)) .done))) false 34 [1, 2, 3, 11, 12, 13, 14, 15],
  .reg (.q (some 65) none (.mov (.tmp 14)) (.q (some 66) none (.bin .mul (.tmp 65) (.const (.int .u8 2))) (.q (some 67) none (.mov (.tmp 11)) (.q (some 68) none (.mov (.tmp 13)) (.q (some 69) none (.mov (.tmp 15)) (.q (some 70) none (.bin .add (.tmp 68) (.tmp 69)) (.q (some 71) none (.iadrS 1 (.tmp 67) (.tmp 70)) (.q (some 72) none (.ld1 (.tmp 71)) (.q (some 73) none (.bin .add (.tmp 66) (.tmp 72)) (.q (some 14) none (.mov (.tmp 73)) .done)))))))))) false 35 [1, 2, 3, 11, 12, 13, 14, 15],
  .cnd (.tmp 62) 36 33,
  .reg (.q (some 60) none (.mov (.tmp 15)) (.q (some 61) none (.mov (.tmp 2)) (.q (some 62) none (.bin .lss (.tmp 60) (.tmp 61)) .done))) false 37 [1, 2, 3, 11, 12, 13, 14, 15, 62],
  .reg (.q (some 15) none (.mov (.const (.int .i64 0))) .done) false 38 [1, 2, 3, 11, 12, 13, 14, 15],
  .reg (.q (some 14) none (.mov (.const (.int .u8 0))) .done) false 39 [1, 2, 3, 11, 12, 13, 14],
  .cnd (.tmp 59) 40 30,
  .reg (.q (some 54) none (.mov (.tmp 13)) (.q (some 55) none (.mov (.tmp 2)) (.q (some 56) none (.bin .add (.tmp 54) (.tmp 55)) (.q (some 57) none (.mov (.tmp 11)) (.q (some 58) none (.len (.tmp 57)) (.q (some 59) none (.bin .leq (.tmp 56) (.tmp 58)) .done)))))) false 41 [1, 2, 3, 11, 12, 13, 59],
  .reg (.q (some 13) none (.mov (.const (.int .i64 0))) .done) false 42 [1, 2, 3, 11, 12, 13],
  .reg (.q (some 12) none (.mov (.const (.slice none 0 0))) .done) false 43 [1, 2, 3, 11, 12],
  .reg (.q (some 51) none (.mov (.tmp 0)) (.q (some 52) none (.mov (.tmp 1)) (.l (some 53) none (.call 31 [(.tmp 51), (.tmp 52)]) [] (.q (some 11) none (.mov (.tmp 53)) .done)))) false 44 [1, 2, 3, 11],
  .jmp 53,
  .reg (.q (some 37) none (.mov (.tmp 10)) (.q (some 38) none (.bin .add (.tmp 37) (.const (.int .i64 1))) (.q (some 10) none (.mov (.tmp 38)) .done))) false 46 [0, 1, 2, 3, 10],
  .ret [.t 8, .t 9],
  .reg (.q (some 8) none (.mov (.const (.slice none 0 0))) (.q (some 9) none (.mov (.const (.int .i64 3))) .done)) false 48 [8, 9],
  .cnd (.tmp 50) 49 47,
  .reg (.q (some 39) none (.mov (.tmp 1)) (.q (some 40) none (.bin .lss (.tmp 39) (.const (.int .i64 8))) (.q (some 41) none (.mov (.tmp 40)) (.q (some 42) (some (41, true)) (.mov (.tmp 0)) (.q (some 43) (some (41, true)) (.mov (.tmp 10)) (.q (some 44) (some (41, true)) (.iadrS 1 (.tmp 42) (.tmp 43)) (.q (some 45) (some (41, true)) (.ld1 (.tmp 44)) (.q (some 46) (some (41, true)) (.mov (.tmp 1)) (.q (some 47) (some (41, true)) (.cvi .u64 (.tmp 46)) (.q (some 48) (some (41, true)) (.bin .shr (.tmp 45) (.tmp 47)) (.q (some 49) (some (41, true)) (.bin .neq (.tmp 48) (.const (.int .u8 0))) (.q (some 50) none (.pick (.tmp 41) (.tmp 49) (.const (.bool false))) .done)))))))))))) false 50 [0, 1, 2, 3, 10, 50],
  .cnd (.tmp 36) 51 45,
  .reg (.q (some 33) none (.mov (.tmp 10)) (.q (some 34) none (.mov (.tmp 0)) (.q (some 35) none (.len (.tmp 34)) (.q (some 36) none (.bin .lss (.tmp 33) (.tmp 35)) .done)))) false 52 [0, 1, 2, 3, 10, 36],
  .reg (.q (some 10) none (.mov (.const (.int .i64 0))) .done) false 53 [0, 1, 2, 3, 10],
  .ret [.t 8, .t 9],
  .reg (.q (some 8) none (.mov (.const (.slice none 0 0))) (.q (some 9) none (.mov (.const (.int .i64 1))) .done)) false 55 [8, 9],
  .cnd (.tmp 32) 56 54,
  .reg (.q (some 19) none (.mov (.tmp 1)) (.q (some 20) none (.bin .lss (.tmp 19) (.const (.int .i64 1))) (.q (some 21) none (.mov (.tmp 20)) (.q (some 22) (some (21, false)) (.mov (.tmp 1)) (.q (some 23) (some (21, false)) (.bin .gtr (.tmp 22) (.const (.int .i64 8))) (.q (some 24) none (.pick (.tmp 21) (.const (.bool true)) (.tmp 23)) (.q (some 25) none (.mov (.tmp 24)) (.q (some 26) (some (25, false)) (.mov (.tmp 2)) (.q (some 27) (some (25, false)) (.bin .lss (.tmp 26) (.const (.int .i64 1))) (.q (some 28) none (.pick (.tmp 25) (.const (.bool true)) (.tmp 27)) (.q (some 29) none (.mov (.tmp 28)) (.q (some 30) (some (29, false)) (.mov (.tmp 2)) (.q (some 31) (some (29, false)) (.bin .gtr (.tmp 30) (.const (.int .i64 8))) (.q (some 32) none (.pick (.tmp 29) (.const (.bool true)) (.tmp 31)) .done)))))))))))))) false 57 [0, 1, 2, 3, 32],
  .reg (.q (some 8) none (.mov (.const (.slice none 0 0))) (.q (some 9) none (.mov (.const (.int .i64 0))) .done)) false 58 [0, 1, 2, 3]
  ]
theorem c17_ok : cfgL Try.prog 17 = some (132, 59, c17.map Vc.Node.bare) := by kernel_rfl
/- strongbox/strongboxref01.Kept: entry 16 -/
def c18 : List Vc.Node := [
  .ret [.t 4],
  .ret [.t 4],
  .reg (.q (some 4) none (.mov (.const (.bool true))) .done) false 1 [4],
  .jmp 10,
  .reg (.q (some 16) none (.mov (.tmp 5)) (.q (some 17) none (.bin .add (.tmp 16) (.const (.int .i64 1))) (.q (some 5) none (.mov (.tmp 17)) .done))) false 3 [0, 1, 5],
  .ret [.t 4],
  .reg (.q (some 4) none (.mov (.const (.bool false))) .done) false 5 [4],
  .cnd (.tmp 48) 6 4,
  .reg (.q (some 18) none (.mov (.tmp 5)) (.q (some 19) none (.mov (.tmp 1)) (.q (some 20) none (.len (.tmp 19)) (.q (some 21) none (.bin .lss (.tmp 18) (.tmp 20)) (.q (some 22) none (.mov (.tmp 21)) (.q (some 23) (some (22, true)) (.mov (.tmp 0)) (.q (some 24) (some (22, true)) (.mov (.tmp 5)) (.q (some 25) (some (22, true)) (.iadrS 1 (.tmp 23) (.tmp 24)) (.q (some 26) (some (22, true)) (.ld1 (.tmp 25)) (.q (some 27) (some (22, true)) (.mov (.tmp 1)) (.q (some 28) (some (22, true)) (.mov (.tmp 5)) (.q (some 29) (some (22, true)) (.iadrS 1 (.tmp 27) (.tmp 28)) (.q (some 30) (some (22, true)) (.ld1 (.tmp 29)) (.q (some 31) (some (22, true)) (.bin .neq (.tmp 26) (.tmp 30)) (.q (some 32) none (.pick (.tmp 22) (.tmp 31) (.const (.bool false))) (.q (some 33) none (.mov (.tmp 32)) (.q (some 34) (some (33, false)) (.mov (.tmp 5)) (.q (some 35) (some (33, false)) (.mov (.tmp 1)) (.q (some 36) (some (33, false)) (.len (.tmp 35)) (.q (some 37) (some (33, false)) (.bin .geq (.tmp 34) (.tmp 36)) (.q (some 38) (some (33, false)) (.mov (.tmp 37)) (.q (some 39) (some (38, true)) (.mov (.tmp 0)) (.q (some 40) (some (38, true)) (.mov (.tmp 5)) (.q (some 41) (some (38, true)) (.iadrS 1 (.tmp 39) (.tmp 40)) (.q (some 42) (some (38, true)) (.ld1 (.tmp 41)) (.q (some 43) (some (38, true)) (.mov (.tmp 5)) (.q (some 44) (some (38, true)) (.bin .add (.const (.int .i64 201)) (.tmp 43)) (.q (some 45) (some (38, true)) (.cvi .u8 (.tmp 44)) (.q (some 46) (some (38, true)) (.bin .neq (.tmp 42) (.tmp 45)) (.q (some 47) (some (33, false)) (.pick (.tmp 38) (.tmp 46) (.const (.bool false))) (.q (some 48) none (.pick (.tmp 33) (.const (.bool true)) (.tmp 47)) .done))))))))))))))))))))))))))))))) true 7 [0, 1, 5, 48],
  .cnd (.tmp 15) 8 2,
  .reg (.q (some 12) none (.mov (.tmp 5)) (.q (some 13) none (.mov (.tmp 0)) (.q (some 14) none (.len (.tmp 13)) (.q (some 15) none (.bin .lss (.tmp 12) (.tmp 14)) .done)))) false 9 [0, 1, 5, 15],
  .reg (.q (some 5) none (.mov (.const (.int .i64 0))) .done) false 10 [0, 1, 5],
  .ret [.t 4],
  .reg (.q (some 4) none (.mov (.const (.bool false))) .done) false 12 [4],
  .cnd (.tmp 11) 13 11,
  .reg (.q (some 6) none (.mov (.tmp 0)) (.q (some 7) none (.len (.tmp 6)) (.q (some 8) none (.mov (.tmp 1)) (.q (some 9) none (.len (.tmp 8)) (.q (some 10) none (.bin .add (.tmp 9) (.const (.int .i64 9))) (.q (some 11) none (.bin .neq (.tmp 7) (.tmp 10)) .done)))))) false 14 [0, 1, 11],
  .reg (.q (some 4) none (.mov (.const (.bool false))) .done) false 15 [0, 1]
  ]
theorem c18_ok : cfgL Try.prog 18 = some (49, 16, c18.map Vc.Node.bare) := by kernel_rfl
/- strongbox/text.Base58: entry 16 -/
def c19 : List Vc.Node := [
  .ret [.t 2],
  .ret [.t 2],
  .reg (.q (some 37) none (.ld1 (.tmp 6)) (.q (some 38) none (.b2s (.tmp 37)) (.q (some 2) none (.mov (.tmp 38)) .done))) false 1 [2],
  .bad,
  .reg (.q (some 26) none (.mov (.tmp 0)) (.l (some 27) none (.call 35 [(.tmp 26)]) [] (.l (some 28) none (.call 34 [(.tmp 27), (.const (.int .i64 256)), (.const (.int .i64 58))]) [] (.l (some 29) none (.call 33 [(.tmp 28)]) [] .done)))) false 3 [],
  .reg (.q (some 22) none (.idxS (.const (.string ⟨#[49, 50, 51, 52, 53, 54, 55, 56, 57, 65, 66, 67, 68, 69, 70, 71, 72, 74, 75, 76, 77, 78, 80, 81, 82, 83, 84, 85, 86, 87, 88, 89, 90, 97, 98, 99, 100, 101, 102, 103, 104, 105, 106, 107, 109, 110, 111, 112, 113, 114, 115, 116, 117, 118, 119, 120, 121, 122]⟩)) (.const (.int .i64 0))) (.l (some 23) none (.bldS 5 1 [(.tmp 22)]) [] (.q (some 24) none (.mov (.tmp 3)) (.l (some 25) none (.call 32 [(.tmp 23), (.tmp 24)]) [] (.l (some 6) none (.alloc 28 [(1, (.slice none 0 0))]) [] (.l none none (.st1 (.tmp 6) (.tmp 25)) [] .done)))))) false 4 [0],
  .jmp 13,
  .reg (.q (some 21) none (.bin .add (.tmp 13) (.const (.int .i64 1))) (.q (some 13) none (.mov (.tmp 21)) .done)) false 6 [0, 3, 11, 12, 13],
  .reg (.q (some 20) none (.mov (.tmp 4)) (.q (some 3) none (.mov (.tmp 20)) .done)) false 5 [0, 3],
  .cnd (.tmp 19) 8 7,
  .reg (.q (some 18) none (.mov (.tmp 5)) (.q (some 19) none (.bin .neq (.tmp 18) (.const (.int .u8 0))) .done)) false 9 [0, 3, 4, 11, 12, 13, 19],
  .reg (.q (some 15) none (.mov (.tmp 13)) (.q (some 16) none (.iadrS 1 (.tmp 11) (.tmp 13)) (.q (some 17) none (.ld1 (.tmp 16)) (.q (some 4) none (.mov (.tmp 15)) (.q (some 5) none (.mov (.tmp 17)) .done))))) false 10 [0, 3, 4, 5, 11, 12, 13],
  .cnd (.tmp 14) 11 5,
  .reg (.q (some 14) none (.bin .lss (.tmp 13) (.tmp 12)) .done) false 12 [0, 3, 11, 12, 13, 14],
  .reg (.q (some 11) none (.mov (.tmp 0)) (.q (some 12) none (.len (.tmp 11)) (.q (some 13) none (.mov (.const (.int .i64 0))) .done))) false 13 [0, 3, 11, 12, 13],
  .reg (.q (some 9) none (.mov (.tmp 0)) (.q (some 10) none (.len (.tmp 9)) (.q (some 3) none (.mov (.tmp 10)) .done))) false 14 [0, 3],
  .reg (.q (some 2) none (.mov (.const (.string ⟨#[]⟩))) .done) false 15 [0]
  ]
theorem c19_ok : cfgL Try.prog 19 = some (39, 16, c19.map Vc.Node.bare) := by kernel_rfl
/- strings.IndexByte: entry 3 -/
def c20 : List Vc.Node := [
  .ret [.t 4],
  .ret [.t 4],
  .reg (.q (some 5) none (.mov (.tmp 0)) (.q (some 6) none (.mov (.tmp 1)) (.l (some 7) none (.call 36 [(.tmp 5), (.tmp 6)]) [] (.q (some 4) none (.mov (.tmp 7)) .done)))) false 1 [4],
  .reg (.q (some 4) none (.mov (.const (.int .i64 0))) .done) false 2 [0, 1]
  ]
theorem c20_ok : cfgL Try.prog 20 = some (8, 3, c20.map Vc.Node.bare) := by kernel_rfl
/- strongbox/text.letters: entry 11 -/
def c21 : List Vc.Node := [
  .ret [.t 4],
  .ret [.t 4],
  .reg (.q (some 24) none (.mov (.tmp 5)) (.q (some 4) none (.mov (.tmp 24)) .done)) false 1 [4],
  .jmp 8,
  .reg (.q (some 23) none (.bin .add (.tmp 8) (.const (.int .i64 1))) (.q (some 8) none (.mov (.tmp 23)) .done)) false 3 [0, 1, 5, 7, 8],
  .reg (.q (some 11) none (.mov (.tmp 5)) (.q (some 12) none (.mov (.tmp 0)) (.q (some 13) none (.mov (.tmp 1)) (.q (some 14) none (.bin .sub (.tmp 13) (.const (.int .i64 1))) (.q (some 15) none (.mov (.tmp 6)) (.q (some 16) none (.bin .sub (.tmp 14) (.tmp 15)) (.q (some 17) none (.bin .mul (.const (.int .i64 5)) (.tmp 16)) (.q (some 18) none (.bin .shr (.tmp 12) (.tmp 17)) (.q (some 19) none (.bin .and (.tmp 18) (.const (.int .u64 31))) (.q (some 20) none (.cvi .u8 (.tmp 19)) (.l (some 21) none (.bldS 5 1 [(.tmp 20)]) [] (.l (some 22) none (.app 5 1 1 [(1, (.int .u8 0))] (.tmp 11) (.tmp 21)) [] (.q (some 5) none (.mov (.tmp 22)) .done))))))))))))) false 4 [0, 1, 5, 7, 8],
  .reg (.q (some 10) none (.mov (.tmp 8)) (.q (some 6) none (.mov (.tmp 10)) .done)) false 5 [0, 1, 5, 6, 7, 8],
  .cnd (.tmp 9) 6 2,
  .reg (.q (some 9) none (.bin .lss (.tmp 8) (.tmp 7)) .done) false 7 [0, 1, 5, 7, 8, 9],
  .reg (.q (some 7) none (.mov (.tmp 1)) (.q (some 8) none (.mov (.const (.int .i64 0))) .done)) false 8 [0, 1, 5, 7, 8],
  .reg (.q (some 5) none (.mov (.const (.slice none 0 0))) .done) false 9 [0, 1, 5],
  .reg (.q (some 4) none (.mov (.const (.slice none 0 0))) .done) false 10 [0, 1]
  ]
theorem c21_ok : cfgL Try.prog 21 = some (25, 11, c21.map Vc.Node.bare) := by kernel_rfl
/- strongbox/text.descs: entry 3 -/
def c22 : List Vc.Node := [
  .ret [.cN 0 6],
  .ret [.cN 0 6],
  .reg (.q (some 1) none (.bld [.x 1 (.const (.int .u64 1056006543753)), .x 1 (.const (.int .u64 730107360018)), .x 1 (.const (.int .u64 118834127661)), .x 1 (.const (.int .u64 236335490938)), .x 1 (.const (.int .u64 430795026429))]) (.q (some 2) none (.bld [.x 1 (.const (.int .i64 35)), .x 5 (.tmp 1)]) (.l none none (.stN 6 (.tmp 0) (.tmp 2)) [] .done))) false 1 [0],
  .reg (.l (some 0) none (.alloc 51 [(1, (.int .i64 0)), (5, (.int .u64 0))]) [] .done) false 2 [0]
  ]
theorem c22_ok : cfgL Try.prog 22 = some (3, 3, c22.map Vc.Node.bare) := by kernel_rfl
/- (strongbox/text.code).run: entry 21 -/
def c23 : List Vc.Node := [
  .ret [.t 6],
  .ret [.t 6],
  .reg (.q (some 52) none (.mov (.tmp 7)) (.q (some 6) none (.mov (.tmp 52)) .done)) false 1 [6],
  .jmp 18,
  .reg (.q (some 51) none (.bin .add (.tmp 18) (.const (.int .i64 1))) (.q (some 18) none (.mov (.tmp 51)) .done)) false 3 [3, 7, 16, 17, 18],
  .jmp 12,
  .reg (.q (some 50) none (.bin .add (.tmp 38) (.const (.int .i64 1))) (.q (some 38) none (.mov (.tmp 50)) .done)) false 5 [3, 7, 10, 16, 17, 18, 37, 38],
  .reg (.q (some 47) none (.mov (.tmp 7)) (.q (some 48) none (.mov (.tmp 12)) (.q (some 49) none (.bin .xor (.tmp 47) (.tmp 48)) (.q (some 7) none (.mov (.tmp 49)) .done)))) false 6 [3, 7, 10, 16, 17, 18, 37, 38],
  .cnd (.tmp 46) 7 6,
  .reg (.q (some 42) none (.mov (.tmp 10)) (.q (some 43) none (.mov (.tmp 11)) (.q (some 44) none (.bin .shr (.tmp 42) (.tmp 43)) (.q (some 45) none (.bin .and (.tmp 44) (.const (.int .u64 1))) (.q (some 46) none (.bin .eql (.tmp 45) (.const (.int .u64 1))) .done))))) false 8 [3, 7, 10, 12, 16, 17, 18, 37, 38, 46],
  .reg (.q (some 40) none (.mov (.tmp 38)) (.q (some 41) none (.idxA 5 1 false (.tmp 37) (.tmp 38)) (.q (some 11) none (.mov (.tmp 40)) (.q (some 12) none (.mov (.tmp 41)) .done)))) false 9 [3, 7, 10, 11, 12, 16, 17, 18, 37, 38],
  .cnd (.tmp 39) 10 4,
  .reg (.q (some 39) none (.bin .lss (.tmp 38) (.const (.int .i64 5))) .done) false 11 [3, 7, 10, 16, 17, 18, 37, 38, 39],
  .reg (.q (some 36) none (.fadr 1 (.tmp 3)) (.q (some 37) none (.ldN 5 (.tmp 36)) (.q (some 38) none (.mov (.const (.int .i64 0))) .done))) false 12 [3, 7, 10, 16, 17, 18, 37, 38],
  .reg (.q (some 26) none (.mov (.tmp 7)) (.q (some 27) none (.fadr 0 (.tmp 3)) (.q (some 28) none (.ld1 (.tmp 27)) (.q (some 29) none (.bin .shl (.const (.int .u64 1)) (.tmp 28)) (.q (some 30) none (.bin .sub (.tmp 29) (.const (.int .u64 1))) (.q (some 31) none (.bin .and (.tmp 26) (.tmp 30)) (.q (some 32) none (.bin .shl (.tmp 31) (.const (.int .u64 5))) (.q (some 33) none (.mov (.tmp 9)) (.q (some 34) none (.cvi .u64 (.tmp 33)) (.q (some 35) none (.bin .xor (.tmp 32) (.tmp 34)) (.q (some 7) none (.mov (.tmp 35)) .done))))))))))) false 13 [3, 7, 10, 16, 17, 18],
  .reg (.q (some 22) none (.mov (.tmp 7)) (.q (some 23) none (.fadr 0 (.tmp 3)) (.q (some 24) none (.ld1 (.tmp 23)) (.q (some 25) none (.bin .shr (.tmp 22) (.tmp 24)) (.q (some 10) none (.mov (.tmp 25)) .done))))) false 14 [3, 7, 9, 10, 16, 17, 18],
  .reg (.q (some 20) none (.iadrS 1 (.tmp 16) (.tmp 18)) (.q (some 21) none (.ld1 (.tmp 20)) (.q (some 9) none (.mov (.tmp 21)) .done))) false 15 [3, 7, 9, 16, 17, 18],
  .cnd (.tmp 19) 16 2,
  .reg (.q (some 19) none (.bin .lss (.tmp 18) (.tmp 17)) .done) false 17 [3, 7, 16, 17, 18, 19],
  .reg (.q (some 13) none (.mov (.tmp 1)) (.l (some 14) none (.call 37 [(.tmp 13)]) [] (.q (some 15) none (.mov (.tmp 2)) (.l (some 16) none (.bix .append [28, 3] 28 [false, false] [(.tmp 14), (.tmp 15)]) [] (.q (some 17) none (.len (.tmp 16)) (.q (some 18) none (.mov (.const (.int .i64 0))) .done)))))) false 18 [3, 7, 16, 17, 18],
  .reg (.q (some 7) none (.mov (.const (.int .u64 1))) .done) false 19 [1, 2, 3, 7],
  .reg (.l (some 3) none (.box 51 (.tmp 0)) [] (.q (some 6) none (.mov (.const (.int .u64 0))) .done)) false 20 [1, 2, 3]
  ]
theorem c23_ok : cfgL Try.prog 23 = some (53, 21, c23.map Vc.Node.bare) := by kernel_rfl
/- strongbox/strongboxref03.place: entry 12 -/
def c24 : List Vc.Node := [
  .ret [.t 4],
  .ret [.t 4],
  .reg (.q (some 4) none (.mov (.const (.int .i64 (-1)))) .done) false 1 [4],
  .jmp 10,
  .reg (.q (some 10) none (.mov (.tmp 5)) (.q (some 11) none (.bin .add (.tmp 10) (.const (.int .i64 1))) (.q (some 5) none (.mov (.tmp 11)) .done))) false 3 [0, 1, 5],
  .ret [.t 4],
  .reg (.q (some 17) none (.mov (.tmp 5)) (.q (some 4) none (.mov (.tmp 17)) .done)) false 5 [4],
  .cnd (.tmp 16) 6 4,
  .reg (.q (some 12) none (.mov (.tmp 0)) (.q (some 13) none (.mov (.tmp 5)) (.q (some 14) none (.idxS (.tmp 12) (.tmp 13)) (.q (some 15) none (.mov (.tmp 1)) (.q (some 16) none (.bin .eql (.tmp 14) (.tmp 15)) .done))))) false 7 [0, 1, 5, 16],
  .cnd (.tmp 9) 8 2,
  .reg (.q (some 6) none (.mov (.tmp 5)) (.q (some 7) none (.mov (.tmp 0)) (.q (some 8) none (.lenT (.tmp 7)) (.q (some 9) none (.bin .lss (.tmp 6) (.tmp 8)) .done)))) false 9 [0, 1, 5, 9],
  .reg (.q (some 5) none (.mov (.const (.int .i64 0))) .done) false 10 [0, 1, 5],
  .reg (.q (some 4) none (.mov (.const (.int .i64 0))) .done) false 11 [0, 1]
  ]
theorem c24_ok : cfgL Try.prog 24 = some (18, 12, c24.map Vc.Node.bare) := by kernel_rfl
/- strongbox/strongboxref03.turn: entry 15 -/
def c25 : List Vc.Node := [
  .ret [.t 4],
  .ret [.t 4],
  .reg (.q (some 31) none (.mov (.tmp 0)) (.q (some 4) none (.mov (.tmp 31)) .done)) false 1 [4],
  .jmp 10,
  .reg (.q (some 19) none (.mov (.tmp 7)) (.q (some 20) none (.bin .add (.tmp 19) (.const (.int .i64 1))) (.q (some 7) none (.mov (.tmp 20)) .done))) false 3 [0, 5, 6, 7],
  .reg (.q (some 29) none (.mov (.tmp 6)) (.q (some 30) none (.bin .quo (.tmp 29) (.const (.int .u64 2))) (.q (some 6) none (.mov (.tmp 30)) .done))) false 4 [0, 5, 6, 7],
  .reg (.q (some 24) none (.mov (.tmp 0)) (.q (some 25) none (.mov (.tmp 7)) (.q (some 26) none (.iadrA 5 1 (.tmp 5) (.tmp 25)) (.q (some 27) none (.ld1 (.tmp 26)) (.q (some 28) none (.bin .xor (.tmp 24) (.tmp 27)) (.q (some 0) none (.mov (.tmp 28)) .done)))))) false 5 [0, 5, 6, 7],
  .cnd (.tmp 23) 6 5,
  .reg (.q (some 21) none (.mov (.tmp 6)) (.q (some 22) none (.bin .rem (.tmp 21) (.const (.int .u64 2))) (.q (some 23) none (.bin .eql (.tmp 22) (.const (.int .u64 1))) .done))) false 7 [0, 5, 6, 7, 23],
  .cnd (.tmp 18) 8 2,
  .reg (.q (some 17) none (.mov (.tmp 7)) (.q (some 18) none (.bin .lss (.tmp 17) (.const (.int .i64 5))) .done)) false 9 [0, 5, 6, 7, 18],
  .reg (.q (some 7) none (.mov (.const (.int .i64 0))) .done) false 10 [0, 5, 6, 7],
  .reg (.q (some 11) none (.mov (.tmp 0)) (.q (some 12) none (.bin .rem (.tmp 11) (.const (.int .u64 34359738368))) (.q (some 13) none (.bin .mul (.tmp 12) (.const (.int .u64 32))) (.q (some 14) none (.mov (.tmp 1)) (.q (some 15) none (.cvi .u64 (.tmp 14)) (.q (some 16) none (.bin .xor (.tmp 13) (.tmp 15)) (.q (some 0) none (.mov (.tmp 16)) .done))))))) false 11 [0, 5, 6],
  .reg (.q (some 9) none (.mov (.tmp 0)) (.q (some 10) none (.bin .quo (.tmp 9) (.const (.int .u64 34359738368))) (.q (some 6) none (.mov (.tmp 10)) .done))) false 12 [0, 1, 5, 6],
  .reg (.q (some 8) none (.bld [.x 1 (.const (.int .u64 1056006543753)), .x 1 (.const (.int .u64 730107360018)), .x 1 (.const (.int .u64 118834127661)), .x 1 (.const (.int .u64 236335490938)), .x 1 (.const (.int .u64 430795026429))]) (.l (some 5) none (.alloc 49 [(5, (.int .u64 0))]) [] (.l none none (.stN 5 (.tmp 5) (.tmp 8)) [] .done))) false 13 [0, 1, 5],
  .reg (.q (some 4) none (.mov (.const (.int .u64 0))) .done) false 14 [0, 1]
  ]
theorem c25_ok : cfgL Try.prog 25 = some (32, 15, c25.map Vc.Node.bare) := by kernel_rfl
/- (*strings.Builder).WriteByte: entry 5 -/
def c26 : List Vc.Node := [
  .ret [.t 4],
  .ret [.t 4],
  .reg (.q (some 4) none (.mov (.const .nilIface)) .done) false 1 [4],
  .reg (.q (some 7) none (.mov (.tmp 0)) (.q (some 8) none (.mov (.tmp 0)) (.q (some 9) none (.nc (.tmp 8)) (.q (some 10) none (.fadr 1 (.tmp 9)) (.q (some 11) none (.ld1 (.tmp 10)) (.q (some 12) none (.mov (.tmp 1)) (.l (some 13) none (.bldS 5 1 [(.tmp 12)]) [] (.l (some 14) none (.app 5 1 1 [(1, (.int .u8 0))] (.tmp 11) (.tmp 13)) [] (.q (some 15) none (.nc (.tmp 7)) (.q (some 16) none (.fadr 1 (.tmp 15)) (.l none none (.st1 (.tmp 16) (.tmp 14)) [] .done))))))))))) false 2 [],
  .reg (.q (some 5) none (.mov (.tmp 0)) (.l (some 6) none (.call 38 [(.tmp 5)]) [] .done)) false 3 [0, 1],
  .reg (.q (some 4) none (.mov (.const .nilIface)) .done) false 4 [0, 1]
  ]
theorem c26_ok : cfgL Try.prog 26 = some (17, 5, c26.map Vc.Node.bare) := by kernel_rfl
/- (*strings.Builder).String: entry 3 -/
def c27 : List Vc.Node := [
  .ret [.t 2],
  .ret [.t 2],
  .reg (.q (some 3) none (.mov (.tmp 0)) (.q (some 4) none (.nc (.tmp 3)) (.q (some 5) none (.fadr 1 (.tmp 4)) (.q (some 6) none (.ld1 (.tmp 5)) (.q (some 8) none (.mov (.tmp 0)) (.q (some 9) none (.nc (.tmp 8)) (.q (some 10) none (.fadr 1 (.tmp 9)) (.q (some 11) none (.ld1 (.tmp 10)) (.q (some 12) none (.len (.tmp 11)) (.l (some 7) none (.bix .unsafeSliceData [28] 69 [false] [(.tmp 6)]) [⟨11, none, (.ld1 (.tmp 10))⟩] (.l (some 13) none (.bix .unsafeString [69, 3] 9 [false, false] [(.tmp 7), (.tmp 12)]) [] (.q (some 2) none (.mov (.tmp 13)) .done)))))))))))) true 1 [2],
  .reg (.q (some 2) none (.mov (.const (.string ⟨#[]⟩))) .done) false 2 [0]
  ]
theorem c27_ok : cfgL Try.prog 27 = some (14, 3, c27.map Vc.Node.bare) := by kernel_rfl
/- strongbox/text.digit: entry 6 -/
def c28 : List Vc.Node := [
  .ret [.t 2],
  .ret [.t 2],
  .reg (.q (some 11) none (.mov (.tmp 0)) (.l (some 12) none (.call 20 [(.const (.string ⟨#[48, 49, 50, 51, 52, 53, 54, 55, 56, 57, 97, 98, 99, 100, 101, 102]⟩)), (.tmp 11)]) [] (.q (some 2) none (.mov (.tmp 12)) .done))) false 1 [2],
  .reg (.q (some 9) none (.mov (.tmp 0)) (.q (some 10) none (.bin .add (.tmp 9) (.const (.int .u8 32))) (.q (some 0) none (.mov (.tmp 10)) .done))) false 2 [0],
  .cnd (.tmp 8) 3 2,
  .reg (.q (some 3) none (.mov (.tmp 0)) (.q (some 4) none (.bin .geq (.tmp 3) (.const (.int .u8 65))) (.q (some 5) none (.mov (.tmp 4)) (.q (some 6) (some (5, true)) (.mov (.tmp 0)) (.q (some 7) (some (5, true)) (.bin .leq (.tmp 6) (.const (.int .u8 70))) (.q (some 8) none (.pick (.tmp 5) (.tmp 7) (.const (.bool false))) .done)))))) false 4 [0, 8],
  .reg (.q (some 2) none (.mov (.const (.int .i64 0))) .done) false 5 [0]
  ]
theorem c28_ok : cfgL Try.prog 28 = some (13, 6, c28.map Vc.Node.bare) := by kernel_rfl
/- strongbox/strongboxref02.Digit: entry 7 -/
def c29 : List Vc.Node := [
  .ret [.t 2],
  .ret [.t 2],
  .reg (.q (some 7) none (.mov (.tmp 0)) (.q (some 8) none (.bin .add (.const (.int .u8 97)) (.tmp 7)) (.q (some 9) none (.bin .sub (.tmp 8) (.const (.int .u8 10))) (.q (some 2) none (.mov (.tmp 9)) .done)))) false 1 [2],
  .ret [.t 2],
  .reg (.q (some 5) none (.mov (.tmp 0)) (.q (some 6) none (.bin .add (.const (.int .u8 48)) (.tmp 5)) (.q (some 2) none (.mov (.tmp 6)) .done))) false 3 [2],
  .cnd (.tmp 4) 4 2,
  .reg (.q (some 3) none (.mov (.tmp 0)) (.q (some 4) none (.bin .lss (.tmp 3) (.const (.int .u8 10))) .done)) false 5 [0, 4],
  .reg (.q (some 2) none (.mov (.const (.int .u8 0))) .done) false 6 [0]
  ]
theorem c29_ok : cfgL Try.prog 29 = some (10, 7, c29.map Vc.Node.bare) := by kernel_rfl
/- strongbox/strongboxref03.value: entry 13 -/
def c30 : List Vc.Node := [
  .ret [.t 2],
  .ret [.t 2],
  .reg (.q (some 2) none (.mov (.const (.int .i64 (-1)))) .done) false 1 [2],
  .jmp 11,
  .reg (.q (some 7) none (.mov (.tmp 3)) (.q (some 8) none (.bin .add (.tmp 7) (.const (.int .u8 1))) (.q (some 3) none (.mov (.tmp 8)) .done))) false 3 [0, 3],
  .ret [.t 2],
  .reg (.q (some 24) none (.mov (.tmp 3)) (.q (some 25) none (.cvi .i64 (.tmp 24)) (.q (some 2) none (.mov (.tmp 25)) .done))) false 5 [2],
  .cnd (.tmp 23) 6 4,
  .reg (.q (some 11) none (.mov (.tmp 0)) (.q (some 12) none (.mov (.tmp 4)) (.q (some 13) none (.bin .eql (.tmp 11) (.tmp 12)) (.q (some 14) none (.mov (.tmp 13)) (.q (some 15) (some (14, false)) (.mov (.tmp 3)) (.q (some 16) (some (14, false)) (.bin .gtr (.tmp 15) (.const (.int .u8 9))) (.q (some 17) (some (14, false)) (.mov (.tmp 16)) (.q (some 18) (some (17, true)) (.mov (.tmp 0)) (.q (some 19) (some (17, true)) (.mov (.tmp 4)) (.q (some 20) (some (17, true)) (.bin .sub (.tmp 19) (.const (.int .u8 32))) (.q (some 21) (some (17, true)) (.bin .eql (.tmp 18) (.tmp 20)) (.q (some 22) (some (14, false)) (.pick (.tmp 17) (.tmp 21) (.const (.bool false))) (.q (some 23) none (.pick (.tmp 14) (.const (.bool true)) (.tmp 22)) .done))))))))))))) false 7 [0, 3, 23],
  .reg (.q (some 9) none (.mov (.tmp 3)) (.l (some 10) none (.call 29 [(.tmp 9)]) [] (.q (some 4) none (.mov (.tmp 10)) .done))) false 8 [0, 3, 4],
  .cnd (.tmp 6) 9 2,
  .reg (.q (some 5) none (.mov (.tmp 3)) (.q (some 6) none (.bin .lss (.tmp 5) (.const (.int .u8 16))) .done)) false 10 [0, 3, 6],
  .reg (.q (some 3) none (.mov (.const (.int .u8 0))) .done) false 11 [0, 3],
  .reg (.q (some 2) none (.mov (.const (.int .i64 0))) .done) false 12 [0]
  ]
theorem c30_ok : cfgL Try.prog 30 = some (26, 13, c30.map Vc.Node.bare) := by kernel_rfl
/- strongbox/strongboxref03.bits: entry 15 -/
def c31 : List Vc.Node := [
  .ret [.t 4],
  .ret [.t 4],
  .reg (.q (some 31) none (.mov (.tmp 5)) (.q (some 4) none (.mov (.tmp 31)) .done)) false 1 [4],
  .jmp 12,
  .reg (.q (some 12) none (.mov (.tmp 6)) (.q (some 13) none (.bin .add (.tmp 12) (.const (.int .i64 1))) (.q (some 6) none (.mov (.tmp 13)) .done))) false 3 [0, 1, 5, 6],
  .jmp 9,
  .reg (.q (some 18) none (.mov (.tmp 7)) (.q (some 19) none (.bin .sub (.tmp 18) (.const (.int .i64 1))) (.q (some 7) none (.mov (.tmp 19)) .done))) false 5 [0, 1, 5, 6, 7],
  .reg (.q (some 20) none (.mov (.tmp 5)) (.q (some 21) none (.mov (.tmp 0)) (.q (some 22) none (.mov (.tmp 6)) (.q (some 23) none (.iadrS 1 (.tmp 21) (.tmp 22)) (.q (some 24) none (.ld1 (.tmp 23)) (.q (some 25) none (.mov (.tmp 7)) (.q (some 26) none (.cvi .u64 (.tmp 25)) (.q (some 27) none (.bin .shr (.tmp 24) (.tmp 26)) (.q (some 28) none (.bin .and (.tmp 27) (.const (.int .u8 1))) (.l (some 29) none (.bldS 5 1 [(.tmp 28)]) [] (.l (some 30) none (.app 5 1 1 [(1, (.int .u8 0))] (.tmp 20) (.tmp 29)) [] (.q (some 5) none (.mov (.tmp 30)) .done)))))))))))) false 6 [0, 1, 5, 6, 7],
  .cnd (.tmp 17) 7 4,
  .reg (.q (some 16) none (.mov (.tmp 7)) (.q (some 17) none (.bin .geq (.tmp 16) (.const (.int .i64 0))) .done)) false 8 [0, 1, 5, 6, 7, 17],
  .reg (.q (some 14) none (.mov (.tmp 1)) (.q (some 15) none (.bin .sub (.tmp 14) (.const (.int .i64 1))) (.q (some 7) none (.mov (.tmp 15)) .done))) false 9 [0, 1, 5, 6, 7],
  .cnd (.tmp 11) 10 2,
  .reg (.q (some 8) none (.mov (.tmp 6)) (.q (some 9) none (.mov (.tmp 0)) (.q (some 10) none (.len (.tmp 9)) (.q (some 11) none (.bin .lss (.tmp 8) (.tmp 10)) .done)))) false 11 [0, 1, 5, 6, 11],
  .reg (.q (some 6) none (.mov (.const (.int .i64 0))) .done) false 12 [0, 1, 5, 6],
  .reg (.q (some 5) none (.mov (.const (.slice none 0 0))) .done) false 13 [0, 1, 5],
  .reg (.q (some 4) none (.mov (.const (.slice none 0 0))) .done) false 14 [0, 1]
  ]
theorem c31_ok : cfgL Try.prog 31 = some (32, 15, c31.map Vc.Node.bare) := by kernel_rfl
/- bytes.Repeat: entry 33 -/
def c32 : List Vc.Node := [
  .ret [.t 4],
  .ret [.t 4],
  .reg (.q (some 76) none (.mov (.tmp 9)) (.q (some 4) none (.mov (.tmp 76)) .done)) false 1 [4],
  .jmp 7,
  .reg (.q (some 67) none (.mov (.tmp 10)) (.q (some 68) none (.mov (.tmp 9)) (.q (some 69) none (.mov (.tmp 10)) (.q (some 70) none (.slcS 1 (.tmp 68) (some (.tmp 69)) none) (.q (some 71) none (.mov (.tmp 9)) (.q (some 72) none (.mov (.tmp 11)) (.q (some 73) none (.slcS 1 (.tmp 71) none (some (.tmp 72))) (.l (some 74) none (.cpy 1 (.tmp 70) (.tmp 73)) [] (.q (some 75) none (.bin .add (.tmp 67) (.tmp 74)) (.q (some 10) none (.mov (.tmp 75)) .done)))))))))) true 3 [7, 8, 9, 10],
  .reg (.q (some 64) none (.mov (.tmp 10)) (.q (some 65) none (.mov (.tmp 8)) (.q (some 66) none (.min [(.tmp 64), (.tmp 65)]) (.q (some 11) none (.mov (.tmp 66)) .done)))) false 4 [7, 8, 9, 10, 11],
  .cnd (.tmp 63) 5 2,
  .reg (.q (some 61) none (.mov (.tmp 10)) (.q (some 62) none (.mov (.tmp 7)) (.q (some 63) none (.bin .lss (.tmp 61) (.tmp 62)) .done))) false 6 [7, 8, 9, 10, 63],
  .reg (.q (some 58) none (.mov (.tmp 9)) (.q (some 59) none (.mov (.tmp 0)) (.l (some 60) none (.cpy 1 (.tmp 58) (.tmp 59)) [] (.q (some 10) none (.mov (.tmp 60)) .done)))) false 7 [7, 8, 9, 10],
  .reg (.q (some 53) none (.mov (.tmp 7)) (.l (some 54) none (.callx 40 [(.tmp 53)]) [] (.q (some 55) none (.mov (.tmp 7)) (.q (some 56) none (.mov (.tmp 7)) (.q (some 57) none (.slc3 1 (.tmp 54) none (.tmp 55) (.tmp 56)) (.q (some 9) none (.mov (.tmp 57)) .done)))))) false 8 [0, 7, 8, 9],
  .reg (.q (some 51) none (.mov (.tmp 0)) (.q (some 52) none (.len (.tmp 51)) (.q (some 8) none (.mov (.tmp 52)) .done))) false 9 [0, 7, 8],
  .cnd (.tmp 50) 10 9,
  .reg (.q (some 49) none (.mov (.tmp 8)) (.q (some 50) none (.bin .eql (.tmp 49) (.const (.int .i64 0))) .done)) false 11 [0, 7, 8, 50],
  .reg (.q (some 43) none (.mov (.tmp 0)) (.q (some 44) none (.len (.tmp 43)) (.q (some 45) none (.bin .quo (.const (.int .i64 8192)) (.tmp 44)) (.q (some 46) none (.mov (.tmp 0)) (.q (some 47) none (.len (.tmp 46)) (.q (some 48) none (.bin .mul (.tmp 45) (.tmp 47)) (.q (some 8) none (.mov (.tmp 48)) .done))))))) false 12 [0, 7, 8],
  .cnd (.tmp 42) 13 9,
  .reg (.q (some 41) none (.mov (.tmp 8)) (.q (some 42) none (.bin .gtr (.tmp 41) (.const (.int .i64 8192))) .done)) false 14 [0, 7, 8, 42],
  .reg (.q (some 40) none (.mov (.tmp 7)) (.q (some 8) none (.mov (.tmp 40)) .done)) false 15 [0, 7, 8],
  .ret [.t 4],
  .reg (.l (some 39) none (.bldS 5 1 []) [] (.q (some 4) none (.mov (.tmp 39)) .done)) false 17 [4],
  .cnd (.tmp 38) 18 16,
  .reg (.q (some 36) none (.mov (.tmp 0)) (.q (some 37) none (.len (.tmp 36)) (.q (some 38) none (.bin .eql (.tmp 37) (.const (.int .i64 0))) .done))) false 19 [0, 7, 38],
  .reg (.q (some 34) none (.mov (.tmp 6)) (.q (some 35) none (.cvi .i64 (.tmp 34)) (.q (some 7) none (.mov (.tmp 35)) .done))) false 20 [0, 7],
  .reg (.q (some 33) none (.mif 9 (.const (.string ⟨#[98, 121, 116, 101, 115, 58, 32, 82, 101, 112, 101, 97, 116, 32, 111, 117, 116, 112, 117, 116, 32, 108, 101, 110, 103, 116, 104, 32, 111, 118, 101, 114, 102, 108, 111, 119]⟩))) (.l none none (.pan (.tmp 33)) [] .done)) false 21 [0, 6],
  .cnd (.tmp 32) 22 21,
  .reg (.q (some 27) none (.mov (.tmp 5)) (.q (some 28) none (.bin .gtr (.tmp 27) (.const (.int .u64 0))) (.q (some 29) none (.mov (.tmp 28)) (.q (some 30) (some (29, false)) (.mov (.tmp 6)) (.q (some 31) (some (29, false)) (.bin .gtr (.tmp 30) (.const (.int .u64 9223372036854775807))) (.q (some 32) none (.pick (.tmp 29) (.const (.bool true)) (.tmp 31)) .done)))))) false 23 [0, 6, 32],
  .reg (.q (some 19) none (.mov (.tmp 0)) (.q (some 20) none (.len (.tmp 19)) (.q (some 21) none (.cvi .u64 (.tmp 20)) (.q (some 22) none (.mov (.tmp 1)) (.q (some 23) none (.cvi .u64 (.tmp 22)) (.l (some 24) none (.call 39 [(.tmp 21), (.tmp 23)]) [] (.q (some 18) none (.mov (.tmp 24)) (.q (some 25) none (.ext 0 (.tmp 18)) (.q (some 26) none (.ext 1 (.tmp 18)) (.q (some 5) none (.mov (.tmp 25)) (.q (some 6) none (.mov (.tmp 26)) .done))))))))))) false 24 [0, 5, 6],
  .reg (.q (some 17) none (.mif 9 (.const (.string ⟨#[98, 121, 116, 101, 115, 58, 32, 110, 101, 103, 97, 116, 105, 118, 101, 32, 82, 101, 112, 101, 97, 116, 32, 99, 111, 117, 110, 116]⟩))) (.l none none (.pan (.tmp 17)) [] .done)) false 25 [0, 1],
  .cnd (.tmp 16) 26 25,
  .reg (.q (some 15) none (.mov (.tmp 1)) (.q (some 16) none (.bin .lss (.tmp 15) (.const (.int .i64 0))) .done)) false 27 [0, 1, 16],
  .ret [.t 4],
  .reg (.l (some 14) none (.bldS 5 1 []) [] (.q (some 4) none (.mov (.tmp 14)) .done)) false 29 [4],
  .cnd (.tmp 13) 30 28,
  .reg (.q (some 12) none (.mov (.tmp 1)) (.q (some 13) none (.bin .eql (.tmp 12) (.const (.int .i64 0))) .done)) false 31 [0, 1, 13],
  .reg (.q (some 4) none (.mov (.const (.slice none 0 0))) .done) false 32 [0, 1]
  ]
theorem c32_ok : cfgL Try.prog 32 = some (77, 33, c32.map Vc.Node.bare) := by kernel_rfl
/- slices.Backward[[]byte,byte]: entry 3 -/
def c33 : List Vc.Node := [
  .ret [.t 2],
  .ret [.t 2],
  .reg (.q (some 3) none (.mkF 41 [] [(.tmp 1)]) (.q (some 2) none (.mov (.tmp 3)) .done)) false 1 [2],
  .reg (.l (some 1) none (.box 28 (.tmp 0)) [] (.q (some 2) none (.mov (.const .nilFunc)) .done)) false 2 [1]
  ]
theorem c33_ok : cfgL Try.prog 33 = some (4, 3, c33.map Vc.Node.bare) := by kernel_rfl
/- strongbox/text.base: entry 6 -/
def c34 : List Vc.Node := [
  .ret [.t 6],
  .ret [.t 6],
  .reg (.q (some 55) none (.ld1 (.tmp 7)) (.q (some 6) none (.mov (.tmp 55)) .done)) false 1 [6],
  .bad,
  .reg (.q (some 13) none (.mov (.tmp 0)) (.l (some 14) none (.call 33 [(.tmp 13)]) [] .done)) false 3 [],
  .reg (.l (some 7) none (.alloc 28 [(1, (.slice none 0 0))]) [] .done) false 4 [0],
  .reg (.l (some 4) none (.box 3 (.tmp 1)) [] (.l (some 5) none (.box 3 (.tmp 2)) [] (.q (some 6) none (.mov (.const (.slice none 0 0))) .done))) false 5 [0]
  ]
theorem c34_ok : cfgL Try.prog 34 = some (56, 6, c34.map Vc.Node.bare) := by kernel_rfl
/- strongbox/text.turned: entry 5 -/
def c35 : List Vc.Node := [
  .ret [.t 2],
  .ret [.t 2],
  .reg (.q (some 8) none (.mov (.tmp 3)) (.q (some 2) none (.mov (.tmp 8)) .done)) false 1 [2],
  .reg (.q (some 6) none (.mov (.tmp 3)) (.l (some 7) none (.call 42 [(.tmp 6)]) [] .done)) false 2 [3],
  .reg (.q (some 4) none (.mov (.tmp 0)) (.l (some 5) none (.call 37 [(.tmp 4)]) [] (.q (some 3) none (.mov (.tmp 5)) .done))) false 3 [3],
  .reg (.q (some 2) none (.mov (.const (.slice none 0 0))) .done) false 4 [0]
  ]
theorem c35_ok : cfgL Try.prog 35 = some (9, 5, c35.map Vc.Node.bare) := by kernel_rfl
/- internal/stringslite.IndexByte: entry 3 -/
def c36 : List Vc.Node := [
  .ret [.t 4],
  .ret [.t 4],
  .reg (.q (some 5) none (.mov (.tmp 0)) (.q (some 6) none (.mov (.tmp 1)) (.l (some 7) none (.callx 43 [(.tmp 5), (.tmp 6)]) [] (.q (some 4) none (.mov (.tmp 7)) .done)))) false 1 [4],
  .reg (.q (some 4) none (.mov (.const (.int .i64 0))) .done) false 2 [0, 1]
  ]
theorem c36_ok : cfgL Try.prog 36 = some (8, 3, c36.map Vc.Node.bare) := by kernel_rfl
/- slices.Clone[[]byte,byte]: entry 7 -/
def c37 : List Vc.Node := [
  .ret [.t 2],
  .ret [.t 2],
  .reg (.l (some 5) none (.bldS 5 1 []) [] (.q (some 6) none (.mov (.tmp 0)) (.l (some 7) none (.app 5 1 1 [(1, (.int .u8 0))] (.tmp 5) (.tmp 6)) [] (.q (some 2) none (.mov (.tmp 7)) .done)))) false 1 [2],
  .ret [.t 2],
  .reg (.q (some 2) none (.mov (.const (.slice none 0 0))) .done) false 3 [2],
  .cnd (.tmp 4) 4 2,
  .reg (.q (some 3) none (.mov (.tmp 0)) (.q (some 4) none (.eqS false (.tmp 3) (.const (.slice none 0 0))) .done)) false 5 [0, 4],
  .reg (.q (some 2) none (.mov (.const (.slice none 0 0))) .done) false 6 [0]
  ]
theorem c37_ok : cfgL Try.prog 37 = some (8, 7, c37.map Vc.Node.bare) := by kernel_rfl
/- (*strings.Builder).copyCheck: entry 6 -/
def c38 : List Vc.Node := [
  .ret [],
  .reg (.q (some 7) none (.mov (.tmp 0)) (.q (some 8) none (.mov (.tmp 0)) (.l (some 9) none (.cvx 55 75 (.tmp 8)) [] (.l (some 10) none (.callx 44 [(.tmp 9)]) [] (.l (some 11) none (.cvx 75 55 (.tmp 10)) [] (.q (some 12) none (.nc (.tmp 7)) (.q (some 13) none (.fadr 0 (.tmp 12)) (.l none none (.st1 (.tmp 13) (.tmp 11)) [] .done)))))))) false 0 [],
  .bad,
  .cnd (.tmp 19) 2 0,
  .reg (.q (some 14) none (.mov (.tmp 0)) (.q (some 15) none (.nc (.tmp 14)) (.q (some 16) none (.fadr 0 (.tmp 15)) (.q (some 17) none (.ld1 (.tmp 16)) (.q (some 18) none (.mov (.tmp 0)) (.q (some 19) none (.eqP true (.tmp 17) (.tmp 18)) .done)))))) false 3 [19],
  .cnd (.tmp 6) 1 4,
  .reg (.q (some 2) none (.mov (.tmp 0)) (.q (some 3) none (.nc (.tmp 2)) (.q (some 4) none (.fadr 0 (.tmp 3)) (.q (some 5) none (.ld1 (.tmp 4)) (.q (some 6) none (.eqP false (.tmp 5) (.const (.pointer none))) .done))))) false 5 [0, 6]
  ]
theorem c38_ok : cfgL Try.prog 38 = some (20, 6, c38.map Vc.Node.bare) := by kernel_rfl
/- math/bits.Mul: entry 8 -/
def c39 : List Vc.Node := [
  .ret [.t 4, .t 5],
  .ret [.t 4, .t 5],
  .reg (.q (some 28) none (.mov (.tmp 8)) (.q (some 29) none (.mov (.tmp 9)) (.q (some 4) none (.mov (.tmp 28)) (.q (some 5) none (.mov (.tmp 29)) .done)))) false 1 [4, 5],
  .reg (.q (some 23) none (.mov (.tmp 0)) (.q (some 24) none (.mov (.tmp 1)) (.l (some 25) none (.call 46 [(.tmp 23), (.tmp 24)]) [] (.q (some 22) none (.mov (.tmp 25)) (.q (some 26) none (.ext 0 (.tmp 22)) (.q (some 27) none (.ext 1 (.tmp 22)) (.q (some 8) none (.mov (.tmp 26)) (.q (some 9) none (.mov (.tmp 27)) .done)))))))) false 2 [8, 9],
  .ret [.t 4, .t 5],
  .reg (.q (some 18) none (.mov (.tmp 6)) (.q (some 19) none (.cvi .u64 (.tmp 18)) (.q (some 20) none (.mov (.tmp 7)) (.q (some 21) none (.cvi .u64 (.tmp 20)) (.q (some 4) none (.mov (.tmp 19)) (.q (some 5) none (.mov (.tmp 21)) .done)))))) false 4 [4, 5],
  .reg (.q (some 11) none (.mov (.tmp 0)) (.q (some 12) none (.cvi .u32 (.tmp 11)) (.q (some 13) none (.mov (.tmp 1)) (.q (some 14) none (.cvi .u32 (.tmp 13)) (.l (some 15) none (.call 45 [(.tmp 12), (.tmp 14)]) [] (.q (some 10) none (.mov (.tmp 15)) (.q (some 16) none (.ext 0 (.tmp 10)) (.q (some 17) none (.ext 1 (.tmp 10)) (.q (some 6) none (.mov (.tmp 16)) (.q (some 7) none (.mov (.tmp 17)) .done)))))))))) false 5 [6, 7],
  .cnd (.const (.bool false)) 6 3,
  .reg (.q (some 4) none (.mov (.const (.int .u64 0))) (.q (some 5) none (.mov (.const (.int .u64 0))) .done)) false 7 [0, 1]
  ]
theorem c39_ok : cfgL Try.prog 39 = some (30, 8, c39.map Vc.Node.bare) := by kernel_rfl
/- slices.Backward[[]byte,byte]$1: entry 8 -/
def c41 : List Vc.Node := [
  .ret [],
  .jmp 7,
  .reg (.q (some 9) none (.mov (.tmp 3)) (.q (some 10) none (.bin .sub (.tmp 9) (.const (.int .i64 1))) (.q (some 3) none (.mov (.tmp 10)) .done))) false 1 [0, 1, 3],
  .ret [],
  .cnd (.tmp 18) 3 2,
  .reg (.q (some 11) none (.mov (.tmp 0)) (.q (some 12) none (.mov (.tmp 3)) (.q (some 13) none (.ld1 (.tmp 1)) (.q (some 14) none (.mov (.tmp 3)) (.q (some 15) none (.iadrS 1 (.tmp 13) (.tmp 14)) (.q (some 16) none (.ld1 (.tmp 15)) (.l (some 17) none (.callv (.tmp 11) [(.tmp 12), (.tmp 16)]) [] (.q (some 18) none (.not (.tmp 17)) .done)))))))) false 4 [0, 1, 3, 18],
  .cnd (.tmp 8) 5 0,
  .reg (.q (some 7) none (.mov (.tmp 3)) (.q (some 8) none (.bin .geq (.tmp 7) (.const (.int .i64 0))) .done)) false 6 [0, 1, 3, 8],
  .reg (.q (some 4) none (.ld1 (.tmp 1)) (.q (some 5) none (.len (.tmp 4)) (.q (some 6) none (.bin .sub (.tmp 5) (.const (.int .i64 1))) (.q (some 3) none (.mov (.tmp 6)) .done)))) false 7 [0, 1, 3]
  ]
theorem c41_ok : cfgL Try.prog 41 = some (19, 8, c41.map Vc.Node.bare) := by kernel_rfl
/- slices.Reverse[[]byte,byte]: entry 6 -/
def c42 : List Vc.Node := [
  .ret [],
  .jmp 5,
  .reg (.q (some 10) none (.mov (.tmp 2)) (.q (some 11) none (.bin .add (.tmp 10) (.const (.int .i64 1))) (.q (some 12) none (.mov (.tmp 3)) (.q (some 13) none (.bin .sub (.tmp 12) (.const (.int .i64 1))) (.q (some 2) none (.mov (.tmp 11)) (.q (some 3) none (.mov (.tmp 13)) .done)))))) false 1 [0, 2, 3],
  .reg (.q (some 14) none (.mov (.tmp 0)) (.q (some 15) none (.mov (.tmp 2)) (.q (some 16) none (.mov (.tmp 0)) (.q (some 17) none (.mov (.tmp 3)) (.q (some 18) none (.mov (.tmp 0)) (.q (some 19) none (.mov (.tmp 3)) (.q (some 20) none (.iadrS 1 (.tmp 18) (.tmp 19)) (.q (some 21) none (.ld1 (.tmp 20)) (.q (some 22) none (.mov (.tmp 0)) (.q (some 23) none (.mov (.tmp 2)) (.q (some 24) none (.iadrS 1 (.tmp 22) (.tmp 23)) (.q (some 25) none (.ld1 (.tmp 24)) (.q (some 26) none (.iadrS 1 (.tmp 14) (.tmp 15)) (.l none none (.st1 (.tmp 26) (.tmp 21)) [] (.q (some 27) none (.iadrS 1 (.tmp 16) (.tmp 17)) (.l none none (.st1 (.tmp 27) (.tmp 25)) [] .done)))))))))))))))) true 2 [0, 2, 3],
  .cnd (.tmp 9) 3 0,
  .reg (.q (some 7) none (.mov (.tmp 2)) (.q (some 8) none (.mov (.tmp 3)) (.q (some 9) none (.bin .lss (.tmp 7) (.tmp 8)) .done))) false 4 [0, 2, 3, 9],
  .reg (.q (some 4) none (.mov (.tmp 0)) (.q (some 5) none (.len (.tmp 4)) (.q (some 6) none (.bin .sub (.tmp 5) (.const (.int .i64 1))) (.q (some 2) none (.mov (.const (.int .i64 0))) (.q (some 3) none (.mov (.tmp 6)) .done))))) false 5 [0, 2, 3]
  ]
theorem c42_ok : cfgL Try.prog 42 = some (28, 6, c42.map Vc.Node.bare) := by kernel_rfl
/- math/bits.Mul32: entry 4 -/
def c45 : List Vc.Node := [
  .ret [.t 4, .t 5],
  .ret [.t 4, .t 5],
  .reg (.q (some 12) none (.mov (.tmp 6)) (.q (some 13) none (.bin .shr (.tmp 12) (.const (.int .u64 32))) (.q (some 14) none (.cvi .u32 (.tmp 13)) (.q (some 15) none (.mov (.tmp 6)) (.q (some 16) none (.cvi .u32 (.tmp 15)) (.q (some 4) none (.mov (.tmp 14)) (.q (some 5) none (.mov (.tmp 16)) .done))))))) false 1 [4, 5],
  .reg (.q (some 7) none (.mov (.tmp 0)) (.q (some 8) none (.cvi .u64 (.tmp 7)) (.q (some 9) none (.mov (.tmp 1)) (.q (some 10) none (.cvi .u64 (.tmp 9)) (.q (some 11) none (.bin .mul (.tmp 8) (.tmp 10)) (.q (some 6) none (.mov (.tmp 11)) .done)))))) false 2 [6],
  .reg (.q (some 4) none (.mov (.const (.int .u32 0))) (.q (some 5) none (.mov (.const (.int .u32 0))) .done)) false 3 [0, 1]
  ]
theorem c45_ok : cfgL Try.prog 45 = some (17, 4, c45.map Vc.Node.bare) := by kernel_rfl
/- math/bits.Mul64: entry 13 -/
def c46 : List Vc.Node := [
  .ret [.t 4, .t 5],
  .ret [.t 4, .t 5],
  .reg (.q (some 48) none (.mov (.tmp 0)) (.q (some 49) none (.mov (.tmp 1)) (.q (some 50) none (.bin .mul (.tmp 48) (.tmp 49)) (.q (some 5) none (.mov (.tmp 50)) .done)))) false 1 [4, 5],
  .reg (.q (some 40) none (.mov (.tmp 7)) (.q (some 41) none (.mov (.tmp 9)) (.q (some 42) none (.bin .mul (.tmp 40) (.tmp 41)) (.q (some 43) none (.mov (.tmp 13)) (.q (some 44) none (.bin .add (.tmp 42) (.tmp 43)) (.q (some 45) none (.mov (.tmp 12)) (.q (some 46) none (.bin .shr (.tmp 45) (.const (.int .u64 32))) (.q (some 47) none (.bin .add (.tmp 44) (.tmp 46)) (.q (some 4) none (.mov (.tmp 47)) .done))))))))) false 2 [0, 1, 4],
  .reg (.q (some 35) none (.mov (.tmp 12)) (.q (some 36) none (.mov (.tmp 6)) (.q (some 37) none (.mov (.tmp 9)) (.q (some 38) none (.bin .mul (.tmp 36) (.tmp 37)) (.q (some 39) none (.bin .add (.tmp 35) (.tmp 38)) (.q (some 12) none (.mov (.tmp 39)) .done)))))) false 3 [0, 1, 7, 9, 12, 13],
  .reg (.q (some 33) none (.mov (.tmp 11)) (.q (some 34) none (.bin .shr (.tmp 33) (.const (.int .u64 32))) (.q (some 13) none (.mov (.tmp 34)) .done))) false 4 [0, 1, 6, 7, 9, 12, 13],
  .reg (.q (some 31) none (.mov (.tmp 11)) (.q (some 32) none (.bin .and (.tmp 31) (.const (.int .u64 4294967295))) (.q (some 12) none (.mov (.tmp 32)) .done))) false 5 [0, 1, 6, 7, 9, 11, 12],
  .reg (.q (some 25) none (.mov (.tmp 7)) (.q (some 26) none (.mov (.tmp 8)) (.q (some 27) none (.bin .mul (.tmp 25) (.tmp 26)) (.q (some 28) none (.mov (.tmp 10)) (.q (some 29) none (.bin .shr (.tmp 28) (.const (.int .u64 32))) (.q (some 30) none (.bin .add (.tmp 27) (.tmp 29)) (.q (some 11) none (.mov (.tmp 30)) .done))))))) false 6 [0, 1, 6, 7, 9, 11],
  .reg (.q (some 22) none (.mov (.tmp 6)) (.q (some 23) none (.mov (.tmp 8)) (.q (some 24) none (.bin .mul (.tmp 22) (.tmp 23)) (.q (some 10) none (.mov (.tmp 24)) .done)))) false 7 [0, 1, 6, 7, 8, 9, 10],
  .reg (.q (some 20) none (.mov (.tmp 1)) (.q (some 21) none (.bin .shr (.tmp 20) (.const (.int .u64 32))) (.q (some 9) none (.mov (.tmp 21)) .done))) false 8 [0, 1, 6, 7, 8, 9],
  .reg (.q (some 18) none (.mov (.tmp 1)) (.q (some 19) none (.bin .and (.tmp 18) (.const (.int .u64 4294967295))) (.q (some 8) none (.mov (.tmp 19)) .done))) false 9 [0, 1, 6, 7, 8],
  .reg (.q (some 16) none (.mov (.tmp 0)) (.q (some 17) none (.bin .shr (.tmp 16) (.const (.int .u64 32))) (.q (some 7) none (.mov (.tmp 17)) .done))) false 10 [0, 1, 6, 7],
  .reg (.q (some 14) none (.mov (.tmp 0)) (.q (some 15) none (.bin .and (.tmp 14) (.const (.int .u64 4294967295))) (.q (some 6) none (.mov (.tmp 15)) .done))) false 11 [0, 1, 6],
  .reg (.q (some 4) none (.mov (.const (.int .u64 0))) (.q (some 5) none (.mov (.const (.int .u64 0))) .done)) false 12 [0, 1]
  ]
theorem c46_ok : cfgL Try.prog 46 = some (51, 13, c46.map Vc.Node.bare) := by kernel_rfl
end Go.Proofs
