/- The graphs of this seat's functions, written by program, each held against the translation by the kernel. -/
import Derived.Test.YtladakljimlodaaDoorProg
import Derived.Test.YtladakljimlodaaDoorVcF
import Derived.KernelRfl
set_option linter.unusedSimpArgs false
set_option linter.unusedVariables false
set_option linter.constructorNameAsVariable false
namespace Go.Proofs
open Go.Vc
/- gosem.cut.init: entry 1 -/
def c2 : List Vc.Node := [
  .ret [],
  .reg (.l (some 0) none (.callx 1 []) [] .done) false 0 []
  ]
theorem c2_ok : cfgL Tryd.prog 2 = some (1, 1, c2.map Vc.Node.bare) := by kernel_rfl
/- strongbox/strongboxtop.StrongboxPriced: entry 40 -/
def c3 : List Vc.Node := [
  .ret [.t 6],
  .ret [.t 6],
  .reg (.q (some 97) none (.mov (.tmp 11)) (.q (some 98) none (.bin .eql (.tmp 97) (.const (.int .i64 0))) (.q (some 99) none (.mov (.tmp 98)) (.q (some 100) (some (99, true)) (.mov (.tmp 8)) (.q (some 101) (some (99, true)) (.bin .neq (.tmp 100) (.const (.int .i64 0))) (.q (some 102) (some (99, true)) (.mov (.tmp 101)) (.q (some 103) (some (102, false)) (.mov (.tmp 17)) (.q (some 104) (some (102, false)) (.mov (.tmp 1)) (.q (some 105) (some (102, false)) (.bin .geq (.tmp 103) (.tmp 104)) (.q (some 106) (some (102, false)) (.mov (.tmp 105)) (.q (some 107) (some (106, true)) (.mov (.tmp 19)) (.q (some 108) (some (106, true)) (.bin .eql (.tmp 107) (.const (.int .i64 0))) (.q (some 109) (some (102, false)) (.pick (.tmp 106) (.tmp 108) (.const (.bool false))) (.q (some 110) (some (102, false)) (.mov (.tmp 109)) (.q (some 111) (some (110, true)) (.mov (.tmp 18)) (.q (some 112) (some (110, true)) (.mov (.tmp 16)) (.q (some 113) (some (110, true)) (.bin .eql (.tmp 111) (.tmp 112)) (.q (some 114) (some (102, false)) (.pick (.tmp 110) (.tmp 113) (.const (.bool false))) (.q (some 115) (some (99, true)) (.pick (.tmp 102) (.const (.bool true)) (.tmp 114)) (.q (some 116) none (.pick (.tmp 99) (.tmp 115) (.const (.bool false))) (.q (some 6) none (.mov (.tmp 116)) .done))))))))))))))))))))) false 1 [6],
  .reg (.q (some 92) none (.mov (.tmp 17)) (.q (some 93) none (.mov (.tmp 2)) (.l (some 94) none (.call 9 [(.tmp 92), (.tmp 93)]) [] (.q (some 91) none (.mov (.tmp 94)) (.q (some 95) none (.ext 0 (.tmp 91)) (.q (some 96) none (.ext 1 (.tmp 91)) (.q (some 18) none (.mov (.tmp 95)) (.q (some 19) none (.mov (.tmp 96)) .done)))))))) false 2 [1, 8, 11, 16, 17, 18, 19],
  .reg (.q (some 86) none (.mov (.tmp 16)) (.q (some 87) none (.mov (.tmp 2)) (.l (some 88) none (.call 10 [(.tmp 86), (.tmp 87)]) [] (.q (some 85) none (.mov (.tmp 88)) (.q (some 89) none (.ext 0 (.tmp 85)) (.q (some 90) none (.ext 1 (.tmp 85)) (.q (some 17) none (.mov (.tmp 89)) (.q (some 8) none (.mov (.tmp 90)) .done)))))))) false 3 [1, 2, 8, 11, 16, 17],
  .ret [.t 6],
  .reg (.q (some 83) none (.mov (.tmp 11)) (.q (some 84) none (.bin .eql (.tmp 83) (.const (.int .i64 0))) (.q (some 6) none (.mov (.tmp 84)) .done))) false 5 [6],
  .cnd (.tmp 82) 6 4,
  .reg (.q (some 77) none (.mov (.tmp 8)) (.q (some 78) none (.bin .neq (.tmp 77) (.const (.int .i64 0))) (.q (some 79) none (.mov (.tmp 78)) (.q (some 80) (some (79, false)) (.mov (.tmp 2)) (.q (some 81) (some (79, false)) (.bin .lss (.tmp 80) (.const (.int .i64 1))) (.q (some 82) none (.pick (.tmp 79) (.const (.bool true)) (.tmp 81)) .done)))))) false 7 [1, 2, 11, 16, 82],
  .reg (.q (some 72) none (.mov (.tmp 1)) (.q (some 73) none (.mov (.tmp 2)) (.l (some 74) none (.call 9 [(.tmp 72), (.tmp 73)]) [] (.q (some 71) none (.mov (.tmp 74)) (.q (some 75) none (.ext 0 (.tmp 71)) (.q (some 76) none (.ext 1 (.tmp 71)) (.q (some 16) none (.mov (.tmp 75)) (.q (some 8) none (.mov (.tmp 76)) .done)))))))) false 8 [1, 2, 8, 11, 16],
  .jmp 24,
  .reg (.q (some 70) none (.bin .add (.tmp 45) (.const (.int .i64 1))) (.q (some 45) none (.mov (.tmp 70)) .done)) false 10 [1, 2, 11, 43, 44, 45],
  .ret [.t 6],
  .reg (.q (some 6) none (.mov (.const (.bool false))) .done) false 12 [6],
  .cnd (.tmp 69) 13 11,
  .reg (.q (some 68) none (.mov (.tmp 15)) (.q (some 69) none (.bin .neq (.tmp 68) (.const (.int .i64 0))) .done)) false 14 [1, 2, 11, 43, 44, 45, 69],
  .reg (.q (some 63) none (.mov (.tmp 11)) (.q (some 64) none (.mov (.tmp 14)) (.l (some 65) none (.call 8 [(.tmp 63), (.tmp 64)]) [] (.q (some 62) none (.mov (.tmp 65)) (.q (some 66) none (.ext 0 (.tmp 62)) (.q (some 67) none (.ext 1 (.tmp 62)) (.q (some 11) none (.mov (.tmp 66)) (.q (some 15) none (.mov (.tmp 67)) .done)))))))) false 15 [1, 2, 11, 15, 43, 44, 45],
  .ret [.t 6],
  .reg (.q (some 6) none (.mov (.const (.bool false))) .done) false 17 [6],
  .cnd (.tmp 61) 18 16,
  .reg (.q (some 55) none (.mov (.tmp 15)) (.q (some 56) none (.bin .neq (.tmp 55) (.const (.int .i64 0))) (.q (some 57) none (.mov (.tmp 56)) (.q (some 58) (some (57, false)) (.mov (.tmp 14)) (.q (some 59) (some (57, false)) (.mov (.tmp 13)) (.q (some 60) (some (57, false)) (.bin .neq (.tmp 58) (.tmp 59)) (.q (some 61) none (.pick (.tmp 57) (.const (.bool true)) (.tmp 60)) .done))))))) false 19 [1, 2, 11, 14, 43, 44, 45, 61],
  .reg (.q (some 50) none (.mov (.tmp 13)) (.l (some 51) none (.call 4 [(.tmp 50)]) [] (.l (some 52) none (.call 7 [(.tmp 51)]) [] (.q (some 49) none (.mov (.tmp 52)) (.q (some 53) none (.ext 0 (.tmp 49)) (.q (some 54) none (.ext 1 (.tmp 49)) (.q (some 14) none (.mov (.tmp 53)) (.q (some 15) none (.mov (.tmp 54)) .done)))))))) false 20 [1, 2, 11, 13, 14, 15, 43, 44, 45],
  .reg (.q (some 47) none (.iadrS 1 (.tmp 43) (.tmp 45)) (.q (some 48) none (.ld1 (.tmp 47)) (.q (some 13) none (.mov (.tmp 48)) .done))) false 21 [1, 2, 11, 13, 43, 44, 45],
  .cnd (.tmp 46) 22 9,
  .reg (.q (some 46) none (.bin .lss (.tmp 45) (.tmp 44)) .done) false 23 [1, 2, 11, 43, 44, 45, 46],
  .reg (.q (some 43) none (.mov (.tmp 0)) (.q (some 44) none (.len (.tmp 43)) (.q (some 45) none (.mov (.const (.int .i64 0))) .done))) false 24 [1, 2, 11, 43, 44, 45],
  .reg (.q (some 42) none (.mov (.tmp 7)) (.q (some 11) none (.mov (.tmp 42)) .done)) false 25 [0, 1, 2, 11],
  .ret [.t 6],
  .reg (.q (some 39) none (.mov (.tmp 10)) (.q (some 40) none (.mov (.tmp 8)) (.q (some 41) none (.bin .eql (.tmp 39) (.tmp 40)) (.q (some 6) none (.mov (.tmp 41)) .done)))) false 27 [6],
  .reg (.q (some 35) none (.mov (.tmp 0)) (.l (some 36) none (.call 6 [(.tmp 35)]) [] (.q (some 34) none (.mov (.tmp 36)) (.q (some 37) none (.ext 0 (.tmp 34)) (.q (some 38) none (.ext 1 (.tmp 34)) (.q (some 9) none (.mov (.tmp 37)) (.q (some 10) none (.mov (.tmp 38)) .done))))))) false 28 [8, 10],
  .cnd (.tmp 33) 29 26,
  .reg (.q (some 32) none (.mov (.tmp 8)) (.q (some 33) none (.bin .neq (.tmp 32) (.const (.int .i64 0))) .done)) false 30 [0, 1, 2, 7, 8, 33],
  .reg (.q (some 28) none (.mov (.tmp 0)) (.l (some 29) none (.call 5 [(.tmp 28)]) [] (.q (some 27) none (.mov (.tmp 29)) (.q (some 30) none (.ext 0 (.tmp 27)) (.q (some 31) none (.ext 1 (.tmp 27)) (.q (some 7) none (.mov (.tmp 30)) (.q (some 8) none (.mov (.tmp 31)) .done))))))) false 31 [0, 1, 2, 7, 8],
  .ret [.t 6],
  .reg (.q (some 6) none (.mov (.const (.bool false))) .done) false 33 [6],
  .cnd (.tmp 26) 34 32,
  .reg (.l (some 25) none (.call 4 [(.const (.int .i64 1))]) [] (.q (some 26) none (.bin .neq (.tmp 25) (.const (.string ⟨#[48, 46, 48, 48, 48, 48, 48, 48, 48, 49]⟩))) .done)) false 35 [0, 1, 2, 26],
  .reg (.q (some 23) none (.mov (.tmp 0)) (.q (some 24) none (.slcS 1 (.tmp 23) none (some (.const (.int .i64 20)))) (.q (some 0) none (.mov (.tmp 24)) .done))) false 36 [0, 1, 2],
  .cnd (.tmp 22) 37 36,
  .reg (.q (some 20) none (.mov (.tmp 0)) (.q (some 21) none (.len (.tmp 20)) (.q (some 22) none (.bin .gtr (.tmp 21) (.const (.int .i64 20))) .done))) false 38 [0, 1, 2, 22],
  .reg (.q (some 6) none (.mov (.const (.bool false))) .done) false 39 [0, 1, 2]
  ]
theorem c3_ok : cfgL Tryd.prog 3 = some (117, 40, c3.map Vc.Node.bare) := by kernel_rfl
/- strongbox/amount.Format: entry 9 -/
def c4 : List Vc.Node := [
  .ret [.t 2],
  .ret [.t 2],
  .reg (.q (some 14) none (.mov (.tmp 0)) (.q (some 15) none (.bin .quo (.tmp 14) (.const (.int .i64 100000000))) (.q (some 18) none (.mov (.tmp 3)) (.q (some 19) none (.mov (.tmp 4)) (.q (some 20) none (.slcT (.tmp 18) (some (.tmp 19)) none) (.l (some 16) none (.call 12 [(.tmp 15), (.const (.int .i64 10))]) [] (.q (some 17) none (.bin .add (.tmp 16) (.const (.string ⟨#[46]⟩))) (.q (some 21) none (.bin .add (.tmp 17) (.tmp 20)) (.q (some 2) none (.mov (.tmp 21)) .done))))))))) true 1 [2],
  .reg (.q (some 11) none (.mov (.tmp 3)) (.q (some 12) none (.lenT (.tmp 11)) (.q (some 13) none (.bin .sub (.tmp 12) (.const (.int .i64 8))) (.q (some 4) none (.mov (.tmp 13)) .done)))) false 2 [0, 3, 4],
  .reg (.q (some 8) none (.mov (.tmp 0)) (.q (some 9) none (.bin .add (.tmp 8) (.const (.int .i64 100000000))) (.l (some 10) none (.call 12 [(.tmp 9), (.const (.int .i64 10))]) [] (.q (some 3) none (.mov (.tmp 10)) .done)))) false 3 [0, 3],
  .ret [.t 2],
  .reg (.q (some 2) none (.mov (.const (.string ⟨#[45]⟩))) .done) false 5 [2],
  .cnd (.tmp 7) 6 4,
  .reg (.q (some 5) none (.mov (.tmp 0)) (.l (some 6) none (.call 11 [(.tmp 5)]) [] (.q (some 7) none (.not (.tmp 6)) .done))) false 7 [0, 7],
  .reg (.q (some 2) none (.mov (.const (.string ⟨#[]⟩))) .done) false 8 [0]
  ]
theorem c4_ok : cfgL Tryd.prog 4 = some (22, 9, c4.map Vc.Node.bare) := by kernel_rfl
/- strongbox/amount.Add: entry 15 -/
def c5 : List Vc.Node := [
  .ret [.t 2, .t 3],
  .ret [.t 2, .t 3],
  .reg (.q (some 27) none (.mov (.tmp 4)) (.q (some 2) none (.mov (.tmp 27)) (.q (some 3) none (.mov (.const (.int .i64 0))) .done))) false 1 [2, 3],
  .jmp 12,
  .reg (.q (some 26) none (.bin .add (.tmp 9) (.const (.int .i64 1))) (.q (some 9) none (.mov (.tmp 26)) .done)) false 3 [4, 7, 8, 9],
  .reg (.q (some 23) none (.mov (.tmp 4)) (.q (some 24) none (.mov (.tmp 6)) (.q (some 25) none (.bin .add (.tmp 23) (.tmp 24)) (.q (some 4) none (.mov (.tmp 25)) .done)))) false 4 [4, 7, 8, 9],
  .ret [.t 2, .t 3],
  .reg (.q (some 2) none (.mov (.const (.int .i64 0))) (.q (some 3) none (.mov (.const (.int .i64 6))) .done)) false 6 [2, 3],
  .cnd (.tmp 22) 7 5,
  .reg (.q (some 13) none (.mov (.tmp 6)) (.l (some 14) none (.call 11 [(.tmp 13)]) [] (.q (some 15) none (.not (.tmp 14)) (.q (some 16) none (.mov (.tmp 15)) (.q (some 17) (some (16, false)) (.mov (.tmp 4)) (.q (some 18) (some (16, false)) (.mov (.tmp 6)) (.q (some 19) (some (16, false)) (.bin .add (.tmp 17) (.tmp 18)) (.l (some 20) (some (16, false)) (.call 11 [(.tmp 19)]) [] (.q (some 21) (some (16, false)) (.not (.tmp 20)) (.q (some 22) none (.pick (.tmp 16) (.const (.bool true)) (.tmp 21)) .done)))))))))) false 8 [4, 6, 7, 8, 9, 22],
  .reg (.q (some 11) none (.iadrS 1 (.tmp 7) (.tmp 9)) (.q (some 12) none (.ld1 (.tmp 11)) (.q (some 6) none (.mov (.tmp 12)) .done))) false 9 [4, 6, 7, 8, 9],
  .cnd (.tmp 10) 10 2,
  .reg (.q (some 10) none (.bin .lss (.tmp 9) (.tmp 8)) .done) false 11 [4, 7, 8, 9, 10],
  .reg (.q (some 7) none (.mov (.tmp 0)) (.q (some 8) none (.len (.tmp 7)) (.q (some 9) none (.mov (.const (.int .i64 0))) .done))) false 12 [4, 7, 8, 9],
  .reg (.q (some 4) none (.mov (.const (.int .i64 0))) .done) false 13 [0, 4],
  .reg (.q (some 2) none (.mov (.const (.int .i64 0))) (.q (some 3) none (.mov (.const (.int .i64 0))) .done)) false 14 [0]
  ]
theorem c5_ok : cfgL Tryd.prog 5 = some (28, 15, c5.map Vc.Node.bare) := by kernel_rfl
/- strongbox/strongboxref04.Add: entry 18 -/
def c6 : List Vc.Node := [
  .ret [.t 2, .t 3],
  .ret [.t 2, .t 3],
  .reg (.q (some 27) none (.mov (.tmp 4)) (.q (some 2) none (.mov (.tmp 27)) (.q (some 3) none (.mov (.const (.int .i64 0))) .done))) false 1 [2, 3],
  .jmp 15,
  .reg (.q (some 10) none (.mov (.tmp 5)) (.q (some 11) none (.bin .add (.tmp 10) (.const (.int .i64 1))) (.q (some 5) none (.mov (.tmp 11)) .done))) false 3 [0, 4, 5],
  .ret [.t 2, .t 3],
  .reg (.q (some 2) none (.mov (.const (.int .i64 0))) (.q (some 3) none (.mov (.const (.int .i64 6))) .done)) false 5 [2, 3],
  .cnd (.tmp 26) 6 4,
  .reg (.q (some 24) none (.mov (.tmp 4)) (.l (some 25) none (.call 13 [(.tmp 24)]) [] (.q (some 26) none (.not (.tmp 25)) .done))) false 7 [0, 4, 5, 26],
  .reg (.q (some 18) none (.mov (.tmp 4)) (.q (some 19) none (.mov (.tmp 0)) (.q (some 20) none (.mov (.tmp 5)) (.q (some 21) none (.iadrS 1 (.tmp 19) (.tmp 20)) (.q (some 22) none (.ld1 (.tmp 21)) (.q (some 23) none (.bin .add (.tmp 18) (.tmp 22)) (.q (some 4) none (.mov (.tmp 23)) .done))))))) false 8 [0, 4, 5],
  .ret [.t 2, .t 3],
  .reg (.q (some 2) none (.mov (.const (.int .i64 0))) (.q (some 3) none (.mov (.const (.int .i64 6))) .done)) false 10 [2, 3],
  .cnd (.tmp 17) 11 9,
  .reg (.q (some 12) none (.mov (.tmp 0)) (.q (some 13) none (.mov (.tmp 5)) (.q (some 14) none (.iadrS 1 (.tmp 12) (.tmp 13)) (.q (some 15) none (.ld1 (.tmp 14)) (.l (some 16) none (.call 13 [(.tmp 15)]) [] (.q (some 17) none (.not (.tmp 16)) .done)))))) false 12 [0, 4, 5, 17],
  .cnd (.tmp 9) 13 2,
  .reg (.q (some 6) none (.mov (.tmp 5)) (.q (some 7) none (.mov (.tmp 0)) (.q (some 8) none (.len (.tmp 7)) (.q (some 9) none (.bin .lss (.tmp 6) (.tmp 8)) .done)))) false 14 [0, 4, 5, 9],
  .reg (.q (some 5) none (.mov (.const (.int .i64 0))) .done) false 15 [0, 4, 5],
  .reg (.q (some 4) none (.mov (.const (.int .i64 0))) .done) false 16 [0, 4],
  .reg (.q (some 2) none (.mov (.const (.int .i64 0))) (.q (some 3) none (.mov (.const (.int .i64 0))) .done)) false 17 [0]
  ]
theorem c6_ok : cfgL Tryd.prog 6 = some (28, 18, c6.map Vc.Node.bare) := by kernel_rfl
/- strongbox/amount.Parse: entry 13 -/
def c7 : List Vc.Node := [
  .ret [.t 2, .t 3],
  .ret [.t 2, .t 3],
  .reg (.q (some 53) none (.mov (.tmp 7)) (.l (some 54) none (.call 18 [(.tmp 53)]) [] (.q (some 55) none (.ext 0 (.tmp 54)) (.q (some 56) none (.ext 1 (.tmp 54)) (.q (some 2) none (.mov (.tmp 55)) (.q (some 3) none (.mov (.tmp 56)) .done)))))) false 1 [2, 3],
  .reg (.q (some 42) none (.mov (.tmp 4)) (.q (some 43) none (.mov (.tmp 5)) (.q (some 44) none (.bin .add (.tmp 42) (.tmp 43)) (.q (some 45) none (.mov (.tmp 5)) (.q (some 46) none (.lenT (.tmp 45)) (.q (some 47) none (.bin .sub (.const (.int .i64 8)) (.tmp 46)) (.l (some 48) none (.call 17 [(.const (.string ⟨#[48]⟩)), (.tmp 47)]) [] (.q (some 49) none (.bin .add (.tmp 44) (.tmp 48)) (.l (some 50) none (.call 16 [(.tmp 49), (.const (.int .i64 10)), (.const (.int .i64 64))]) [] (.q (some 41) none (.mov (.tmp 50)) (.q (some 51) none (.ext 0 (.tmp 41)) (.q (some 52) none (.ext 1 (.tmp 41)) (.q (some 7) none (.mov (.tmp 51)) (.q (some 8) none (.mov (.tmp 52)) .done)))))))))))))) false 2 [7],
  .ret [.t 2, .t 3],
  .reg (.q (some 2) none (.mov (.const (.int .i64 0))) (.q (some 3) none (.mov (.const (.int .i64 6))) .done)) false 4 [2, 3],
  .cnd (.tmp 40) 5 3,
  .reg (.q (some 38) none (.mov (.tmp 4)) (.q (some 39) none (.lenT (.tmp 38)) (.q (some 40) none (.bin .gtr (.tmp 39) (.const (.int .i64 8))) .done))) false 6 [4, 5, 40],
  .ret [.t 2, .t 3],
  .reg (.q (some 2) none (.mov (.const (.int .i64 0))) (.q (some 3) none (.mov (.const (.int .i64 3))) .done)) false 8 [2, 3],
  .cnd (.tmp 37) 9 7,
  .reg (.q (some 15) none (.mov (.tmp 4)) (.q (some 16) none (.mov (.tmp 0)) (.q (some 17) none (.lenT (.tmp 16)) (.l (some 18) none (.call 15 [(.tmp 15), (.const (.int .i64 1)), (.tmp 17)]) [] (.q (some 19) none (.not (.tmp 18)) (.q (some 20) none (.mov (.tmp 19)) (.q (some 21) (some (20, false)) (.mov (.tmp 4)) (.q (some 22) (some (20, false)) (.idxS (.tmp 21) (.const (.int .i64 0))) (.q (some 23) (some (20, false)) (.bin .eql (.tmp 22) (.const (.int .u8 48))) (.q (some 24) (some (20, false)) (.mov (.tmp 23)) (.q (some 25) (some (24, true)) (.mov (.tmp 4)) (.q (some 26) (some (24, true)) (.lenT (.tmp 25)) (.q (some 27) (some (24, true)) (.bin .gtr (.tmp 26) (.const (.int .i64 1))) (.q (some 28) (some (20, false)) (.pick (.tmp 24) (.tmp 27) (.const (.bool false))) (.q (some 29) none (.pick (.tmp 20) (.const (.bool true)) (.tmp 28)) (.q (some 30) none (.mov (.tmp 29)) (.q (some 31) (some (30, false)) (.mov (.tmp 6)) (.q (some 32) (some (30, false)) (.mov (.tmp 31)) (.q (some 33) (some (32, true)) (.mov (.tmp 5)) (.l (some 34) (some (32, true)) (.call 15 [(.tmp 33), (.const (.int .i64 1)), (.const (.int .i64 8))]) [] (.q (some 35) (some (32, true)) (.not (.tmp 34)) (.q (some 36) (some (30, false)) (.pick (.tmp 32) (.tmp 35) (.const (.bool false))) (.q (some 37) none (.pick (.tmp 30) (.const (.bool true)) (.tmp 36)) .done))))))))))))))))))))))) false 10 [4, 5, 37],
  .reg (.q (some 10) none (.mov (.tmp 0)) (.l (some 11) none (.call 14 [(.tmp 10), (.const (.string ⟨#[46]⟩))]) [] (.q (some 9) none (.mov (.tmp 11)) (.q (some 12) none (.ext 0 (.tmp 9)) (.q (some 13) none (.ext 1 (.tmp 9)) (.q (some 14) none (.ext 2 (.tmp 9)) (.q (some 4) none (.mov (.tmp 12)) (.q (some 5) none (.mov (.tmp 13)) (.q (some 6) none (.mov (.tmp 14)) .done))))))))) false 11 [0, 4, 5, 6],
  .reg (.q (some 2) none (.mov (.const (.int .i64 0))) (.q (some 3) none (.mov (.const (.int .i64 0))) .done)) false 12 [0]
  ]
theorem c7_ok : cfgL Tryd.prog 7 = some (57, 13, c7.map Vc.Node.bare) := by kernel_rfl
/- strongbox/amount.Sub: entry 7 -/
def c8 : List Vc.Node := [
  .ret [.t 4, .t 5],
  .ret [.t 4, .t 5],
  .reg (.q (some 14) none (.mov (.tmp 0)) (.q (some 15) none (.mov (.tmp 1)) (.q (some 16) none (.bin .sub (.tmp 14) (.tmp 15)) (.l (some 17) none (.call 18 [(.tmp 16)]) [] (.q (some 18) none (.ext 0 (.tmp 17)) (.q (some 19) none (.ext 1 (.tmp 17)) (.q (some 4) none (.mov (.tmp 18)) (.q (some 5) none (.mov (.tmp 19)) .done)))))))) false 1 [4, 5],
  .ret [.t 4, .t 5],
  .reg (.q (some 4) none (.mov (.const (.int .i64 0))) (.q (some 5) none (.mov (.const (.int .i64 6))) .done)) false 3 [4, 5],
  .cnd (.tmp 13) 4 2,
  .reg (.q (some 6) none (.mov (.tmp 0)) (.l (some 7) none (.call 11 [(.tmp 6)]) [] (.q (some 8) none (.not (.tmp 7)) (.q (some 9) none (.mov (.tmp 8)) (.q (some 10) (some (9, false)) (.mov (.tmp 1)) (.l (some 11) (some (9, false)) (.call 11 [(.tmp 10)]) [] (.q (some 12) (some (9, false)) (.not (.tmp 11)) (.q (some 13) none (.pick (.tmp 9) (.const (.bool true)) (.tmp 12)) .done)))))))) false 5 [0, 1, 13],
  .reg (.q (some 4) none (.mov (.const (.int .i64 0))) (.q (some 5) none (.mov (.const (.int .i64 0))) .done)) false 6 [0, 1]
  ]
theorem c8_ok : cfgL Tryd.prog 8 = some (20, 7, c8.map Vc.Node.bare) := by kernel_rfl
/- strongbox/amount.Fee: entry 15 -/
def c9 : List Vc.Node := [
  .ret [.t 4, .t 5],
  .ret [.t 4, .t 5],
  .reg (.q (some 24) none (.mov (.tmp 6)) (.l (some 25) none (.call 18 [(.tmp 24)]) [] (.q (some 26) none (.ext 0 (.tmp 25)) (.q (some 27) none (.ext 1 (.tmp 25)) (.q (some 4) none (.mov (.tmp 26)) (.q (some 5) none (.mov (.tmp 27)) .done)))))) false 1 [4, 5],
  .reg (.q (some 22) none (.mov (.tmp 6)) (.q (some 23) none (.bin .add (.tmp 22) (.const (.int .i64 1))) (.q (some 6) none (.mov (.tmp 23)) .done))) false 2 [6],
  .cnd (.tmp 21) 3 2,
  .reg (.q (some 20) none (.mov (.tmp 7)) (.q (some 21) none (.bin .gtr (.tmp 20) (.const (.int .i64 0))) .done)) false 4 [6, 21],
  .reg (.q (some 15) none (.mov (.tmp 0)) (.q (some 16) none (.mov (.tmp 1)) (.l (some 17) none (.call 20 [(.tmp 15), (.tmp 16), (.const (.int .i64 1000))]) [] (.q (some 14) none (.mov (.tmp 17)) (.q (some 18) none (.ext 0 (.tmp 14)) (.q (some 19) none (.ext 1 (.tmp 14)) (.q (some 6) none (.mov (.tmp 18)) (.q (some 7) none (.mov (.tmp 19)) .done)))))))) false 5 [6, 7],
  .ret [.t 4, .t 5],
  .reg (.q (some 4) none (.mov (.const (.int .i64 0))) (.q (some 5) none (.mov (.const (.int .i64 6))) .done)) false 7 [4, 5],
  .cnd (.tmp 13) 8 6,
  .reg (.q (some 11) none (.mov (.tmp 0)) (.l (some 12) none (.call 11 [(.tmp 11)]) [] (.q (some 13) none (.not (.tmp 12)) .done))) false 9 [0, 1, 13],
  .ret [.t 4, .t 5],
  .reg (.q (some 4) none (.mov (.const (.int .i64 0))) (.q (some 5) none (.mov (.const (.int .i64 1))) .done)) false 11 [4, 5],
  .cnd (.tmp 10) 12 10,
  .reg (.q (some 8) none (.mov (.tmp 1)) (.l (some 9) none (.call 19 [(.tmp 8), (.const (.int .i64 0))]) [] (.q (some 10) none (.not (.tmp 9)) .done))) false 13 [0, 1, 10],
  .reg (.q (some 4) none (.mov (.const (.int .i64 0))) (.q (some 5) none (.mov (.const (.int .i64 0))) .done)) false 14 [0, 1]
  ]
theorem c9_ok : cfgL Tryd.prog 9 = some (28, 15, c9.map Vc.Node.bare) := by kernel_rfl
/- strongbox/amount.Rate: entry 12 -/
def c10 : List Vc.Node := [
  .ret [.t 4, .t 5],
  .ret [.t 4, .t 5],
  .reg (.q (some 20) none (.mov (.tmp 6)) (.l (some 21) none (.call 18 [(.tmp 20)]) [] (.q (some 22) none (.ext 0 (.tmp 21)) (.q (some 23) none (.ext 1 (.tmp 21)) (.q (some 4) none (.mov (.tmp 22)) (.q (some 5) none (.mov (.tmp 23)) .done)))))) false 1 [4, 5],
  .reg (.q (some 15) none (.mov (.tmp 0)) (.q (some 16) none (.mov (.tmp 1)) (.l (some 17) none (.call 20 [(.tmp 15), (.const (.int .i64 1000)), (.tmp 16)]) [] (.q (some 14) none (.mov (.tmp 17)) (.q (some 18) none (.ext 0 (.tmp 14)) (.q (some 19) none (.ext 1 (.tmp 14)) (.q (some 6) none (.mov (.tmp 18)) (.q (some 7) none (.mov (.tmp 19)) .done)))))))) false 2 [6],
  .ret [.t 4, .t 5],
  .reg (.q (some 4) none (.mov (.const (.int .i64 0))) (.q (some 5) none (.mov (.const (.int .i64 6))) .done)) false 4 [4, 5],
  .cnd (.tmp 13) 5 3,
  .reg (.q (some 11) none (.mov (.tmp 0)) (.l (some 12) none (.call 11 [(.tmp 11)]) [] (.q (some 13) none (.not (.tmp 12)) .done))) false 6 [0, 1, 13],
  .ret [.t 4, .t 5],
  .reg (.q (some 4) none (.mov (.const (.int .i64 0))) (.q (some 5) none (.mov (.const (.int .i64 1))) .done)) false 8 [4, 5],
  .cnd (.tmp 10) 9 7,
  .reg (.q (some 8) none (.mov (.tmp 1)) (.l (some 9) none (.call 19 [(.tmp 8), (.const (.int .i64 1))]) [] (.q (some 10) none (.not (.tmp 9)) .done))) false 10 [0, 1, 10],
  .reg (.q (some 4) none (.mov (.const (.int .i64 0))) (.q (some 5) none (.mov (.const (.int .i64 0))) .done)) false 11 [0, 1]
  ]
theorem c10_ok : cfgL Tryd.prog 10 = some (24, 12, c10.map Vc.Node.bare) := by kernel_rfl
/- strongbox/amount.Valid: entry 3 -/
def c11 : List Vc.Node := [
  .ret [.t 2],
  .ret [.t 2],
  .reg (.q (some 3) none (.mov (.tmp 0)) (.q (some 4) none (.bin .geq (.tmp 3) (.const (.int .i64 0))) (.q (some 5) none (.mov (.tmp 4)) (.q (some 6) (some (5, true)) (.mov (.tmp 0)) (.q (some 7) (some (5, true)) (.bin .leq (.tmp 6) (.const (.int .i64 2100000000000000))) (.q (some 8) none (.pick (.tmp 5) (.tmp 7) (.const (.bool false))) (.q (some 2) none (.mov (.tmp 8)) .done))))))) false 1 [2],
  .reg (.q (some 2) none (.mov (.const (.bool false))) .done) false 2 [0]
  ]
theorem c11_ok : cfgL Tryd.prog 11 = some (9, 3, c11.map Vc.Node.bare) := by kernel_rfl
/- strconv.FormatInt: entry 3 -/
def c12 : List Vc.Node := [
  .ret [.t 4],
  .ret [.t 4],
  .reg (.q (some 5) none (.mov (.tmp 0)) (.q (some 6) none (.mov (.tmp 1)) (.l (some 7) none (.call 21 [(.tmp 5), (.tmp 6)]) [] (.q (some 4) none (.mov (.tmp 7)) .done)))) false 1 [4],
  .reg (.q (some 4) none (.mov (.const (.string ⟨#[]⟩))) .done) false 2 [0, 1]
  ]
theorem c12_ok : cfgL Tryd.prog 12 = some (8, 3, c12.map Vc.Node.bare) := by kernel_rfl
/- strongbox/strongboxref04.Valid: entry 3 -/
def c13 : List Vc.Node := [
  .ret [.t 2],
  .ret [.t 2],
  .reg (.q (some 3) none (.mov (.tmp 0)) (.q (some 4) none (.bin .geq (.tmp 3) (.const (.int .i64 0))) (.q (some 5) none (.mov (.tmp 4)) (.q (some 6) (some (5, true)) (.mov (.tmp 0)) (.q (some 7) (some (5, true)) (.bin .leq (.tmp 6) (.const (.int .i64 2100000000000000))) (.q (some 8) none (.pick (.tmp 5) (.tmp 7) (.const (.bool false))) (.q (some 2) none (.mov (.tmp 8)) .done))))))) false 1 [2],
  .reg (.q (some 2) none (.mov (.const (.bool false))) .done) false 2 [0]
  ]
theorem c13_ok : cfgL Tryd.prog 13 = some (9, 3, c13.map Vc.Node.bare) := by kernel_rfl
/- strings.Cut: entry 3 -/
def c14 : List Vc.Node := [
  .ret [.t 4, .t 5, .t 6],
  .ret [.t 4, .t 5, .t 6],
  .reg (.q (some 7) none (.mov (.tmp 0)) (.q (some 8) none (.mov (.tmp 1)) (.l (some 9) none (.call 22 [(.tmp 7), (.tmp 8)]) [] (.q (some 10) none (.ext 0 (.tmp 9)) (.q (some 11) none (.ext 1 (.tmp 9)) (.q (some 12) none (.ext 2 (.tmp 9)) (.q (some 4) none (.mov (.tmp 10)) (.q (some 5) none (.mov (.tmp 11)) (.q (some 6) none (.mov (.tmp 12)) .done))))))))) false 1 [4, 5, 6],
  .reg (.q (some 4) none (.mov (.const (.string ⟨#[]⟩))) (.q (some 5) none (.mov (.const (.string ⟨#[]⟩))) (.q (some 6) none (.mov (.const (.bool false))) .done))) false 2 [0, 1]
  ]
theorem c14_ok : cfgL Tryd.prog 14 = some (13, 3, c14.map Vc.Node.bare) := by kernel_rfl
/- strongbox/amount.digits: entry 13 -/
def c15 : List Vc.Node := [
  .ret [.t 6],
  .ret [.t 6],
  .reg (.q (some 24) none (.mov (.tmp 0)) (.q (some 25) none (.lenT (.tmp 24)) (.q (some 26) none (.mov (.tmp 1)) (.q (some 27) none (.bin .geq (.tmp 25) (.tmp 26)) (.q (some 28) none (.mov (.tmp 27)) (.q (some 29) (some (28, true)) (.mov (.tmp 0)) (.q (some 30) (some (28, true)) (.lenT (.tmp 29)) (.q (some 31) (some (28, true)) (.mov (.tmp 2)) (.q (some 32) (some (28, true)) (.bin .leq (.tmp 30) (.tmp 31)) (.q (some 33) none (.pick (.tmp 28) (.tmp 32) (.const (.bool false))) (.q (some 6) none (.mov (.tmp 33)) .done))))))))))) false 1 [6],
  .jmp 11,
  .reg (.q (some 23) none (.bin .add (.tmp 10) (.const (.int .i64 1))) (.q (some 10) none (.mov (.tmp 23)) .done)) false 3 [0, 1, 2, 9, 10],
  .ret [.t 6],
  .reg (.q (some 6) none (.mov (.const (.bool false))) .done) false 5 [6],
  .cnd (.tmp 22) 6 4,
  .reg (.q (some 13) none (.mov (.tmp 0)) (.q (some 14) none (.mov (.tmp 7)) (.q (some 15) none (.idxS (.tmp 13) (.tmp 14)) (.q (some 16) none (.bin .lss (.tmp 15) (.const (.int .u8 48))) (.q (some 17) none (.mov (.tmp 16)) (.q (some 18) (some (17, false)) (.mov (.tmp 0)) (.q (some 19) (some (17, false)) (.mov (.tmp 7)) (.q (some 20) (some (17, false)) (.idxS (.tmp 18) (.tmp 19)) (.q (some 21) (some (17, false)) (.bin .gtr (.tmp 20) (.const (.int .u8 57))) (.q (some 22) none (.pick (.tmp 17) (.const (.bool true)) (.tmp 21)) .done)))))))))) false 7 [0, 1, 2, 9, 10, 22],
  .reg (.q (some 12) none (.mov (.tmp 10)) (.q (some 7) none (.mov (.tmp 12)) .done)) false 8 [0, 1, 2, 7, 9, 10],
  .cnd (.tmp 11) 9 2,
  .reg (.q (some 11) none (.bin .lss (.tmp 10) (.tmp 9)) .done) false 10 [0, 1, 2, 9, 10, 11],
  .reg (.q (some 8) none (.mov (.tmp 0)) (.q (some 9) none (.lenT (.tmp 8)) (.q (some 10) none (.mov (.const (.int .i64 0))) .done))) false 11 [0, 1, 2, 9, 10],
  .reg (.q (some 6) none (.mov (.const (.bool false))) .done) false 12 [0, 1, 2]
  ]
theorem c15_ok : cfgL Tryd.prog 15 = some (34, 13, c15.map Vc.Node.bare) := by kernel_rfl
/- strconv.ParseInt: entry 8 -/
def c16 : List Vc.Node := [
  .ret [.t 6, .t 7],
  .ret [.t 6, .t 7],
  .reg (.q (some 24) none (.mov (.tmp 8)) (.q (some 6) none (.mov (.tmp 24)) (.q (some 7) none (.mov (.const .nilIface)) .done))) false 1 [6, 7],
  .ret [.t 6, .t 7],
  .reg (.q (some 18) none (.mov (.tmp 8)) (.q (some 19) none (.mov (.tmp 0)) (.q (some 20) none (.mov (.tmp 1)) (.q (some 21) none (.mov (.tmp 2)) (.q (some 22) none (.mov (.tmp 7)) (.l (some 23) none (.call 24 [(.const (.string ⟨#[80, 97, 114, 115, 101, 73, 110, 116]⟩)), (.tmp 19), (.tmp 20), (.tmp 21), (.tmp 22)]) [] (.q (some 6) none (.mov (.tmp 18)) (.q (some 7) none (.mov (.tmp 23)) .done)))))))) false 3 [6, 7],
  .cnd (.tmp 17) 4 2,
  .reg (.q (some 16) none (.mov (.tmp 7)) (.q (some 17) none (.eqI true (.tmp 16) (.const .nilIface)) .done)) false 5 [0, 1, 2, 7, 8, 17],
  .reg (.q (some 10) none (.mov (.tmp 0)) (.q (some 11) none (.mov (.tmp 1)) (.q (some 12) none (.mov (.tmp 2)) (.l (some 13) none (.call 23 [(.tmp 10), (.tmp 11), (.tmp 12)]) [] (.q (some 9) none (.mov (.tmp 13)) (.q (some 14) none (.ext 0 (.tmp 9)) (.q (some 15) none (.ext 1 (.tmp 9)) (.q (some 8) none (.mov (.tmp 14)) (.q (some 7) none (.mov (.tmp 15)) .done))))))))) false 6 [0, 1, 2, 7, 8],
  .reg (.q (some 6) none (.mov (.const (.int .i64 0))) (.q (some 7) none (.mov (.const .nilIface)) .done)) false 7 [0, 1, 2]
  ]
theorem c16_ok : cfgL Tryd.prog 16 = some (25, 8, c16.map Vc.Node.bare) := by kernel_rfl
/- strings.Repeat: entry 70 -/
def c17 : List Vc.Node := [
  .ret [.t 4],
  .ret [.t 4],
  .reg (.l (some 124) none (.call 30 [(.tmp 9)]) [] (.q (some 4) none (.mov (.tmp 124)) .done)) false 1 [4],
  .jmp 7,
  .reg (.l (some 120) none (.call 30 [(.tmp 9)]) [] (.q (some 121) none (.mov (.tmp 10)) (.q (some 122) none (.slcT (.tmp 120) none (some (.tmp 121))) (.l (some 123) none (.call 28 [(.tmp 9), (.tmp 122)]) [] .done)))) false 3 [7, 8, 9],
  .reg (.q (some 114) none (.mov (.tmp 7)) (.l (some 115) none (.call 29 [(.tmp 9)]) [] (.q (some 116) none (.bin .sub (.tmp 114) (.tmp 115)) (.l (some 117) none (.call 29 [(.tmp 9)]) [] (.q (some 118) none (.mov (.tmp 8)) (.q (some 119) none (.min [(.tmp 116), (.tmp 117), (.tmp 118)]) (.q (some 10) none (.mov (.tmp 119)) .done))))))) false 4 [7, 8, 9, 10],
  .cnd (.tmp 113) 5 2,
  .reg (.l (some 111) none (.call 29 [(.tmp 9)]) [] (.q (some 112) none (.mov (.tmp 7)) (.q (some 113) none (.bin .lss (.tmp 111) (.tmp 112)) .done))) false 6 [7, 8, 9, 113],
  .reg (.q (some 109) none (.mov (.tmp 0)) (.l (some 110) none (.call 28 [(.tmp 9), (.tmp 109)]) [] .done)) false 7 [7, 8, 9],
  .reg (.q (some 107) none (.mov (.tmp 7)) (.l (some 108) none (.call 27 [(.tmp 9), (.tmp 107)]) [] .done)) false 8 [0, 7, 8, 9],
  .reg (.l (some 9) none (.alloc 55 [(1, (.pointer none)), (1, (.slice none 0 0))]) [] .done) false 9 [0, 7, 8, 9],
  .reg (.q (some 105) none (.mov (.tmp 0)) (.q (some 106) none (.lenT (.tmp 105)) (.q (some 8) none (.mov (.tmp 106)) .done))) false 10 [0, 7, 8],
  .cnd (.tmp 104) 11 10,
  .reg (.q (some 103) none (.mov (.tmp 8)) (.q (some 104) none (.bin .eql (.tmp 103) (.const (.int .i64 0))) .done)) false 12 [0, 7, 8, 104],
  .reg (.q (some 97) none (.mov (.tmp 0)) (.q (some 98) none (.lenT (.tmp 97)) (.q (some 99) none (.bin .quo (.const (.int .i64 8192)) (.tmp 98)) (.q (some 100) none (.mov (.tmp 0)) (.q (some 101) none (.lenT (.tmp 100)) (.q (some 102) none (.bin .mul (.tmp 99) (.tmp 101)) (.q (some 8) none (.mov (.tmp 102)) .done))))))) false 13 [0, 7, 8],
  .cnd (.tmp 96) 14 10,
  .reg (.q (some 95) none (.mov (.tmp 7)) (.q (some 96) none (.bin .gtr (.tmp 95) (.const (.int .i64 8192))) .done)) false 15 [0, 7, 8, 96],
  .reg (.q (some 94) none (.mov (.tmp 7)) (.q (some 8) none (.mov (.tmp 94)) .done)) false 16 [0, 7, 8],
  .ret [.t 4],
  .reg (.q (some 56) none (.mov (.tmp 7)) (.q (some 57) none (.slcT (.const (.string ⟨#[32, 32, 32, 32, 32, 32, 32, 32, 32, 32, 32, 32, 32, 32, 32, 32, 32, 32, 32, 32, 32, 32, 32, 32, 32, 32, 32, 32, 32, 32, 32, 32, 32, 32, 32, 32, 32, 32, 32, 32, 32, 32, 32, 32, 32, 32, 32, 32, 32, 32, 32, 32, 32, 32, 32, 32, 32, 32, 32, 32, 32, 32, 32, 32, 32, 32, 32, 32, 32, 32, 32, 32, 32, 32, 32, 32, 32, 32, 32, 32, 32, 32, 32, 32, 32, 32, 32, 32, 32, 32, 32, 32, 32, 32, 32, 32, 32, 32, 32, 32, 32, 32, 32, 32, 32, 32, 32, 32, 32, 32, 32, 32, 32, 32, 32, 32, 32, 32, 32, 32, 32, 32, 32, 32, 32, 32, 32, 32]⟩)) none (some (.tmp 56))) (.q (some 4) none (.mov (.tmp 57)) .done))) false 18 [4],
  .ret [.t 4],
  .reg (.q (some 65) none (.mov (.tmp 7)) (.q (some 66) none (.slcT (.const (.string ⟨#[45, 45, 45, 45, 45, 45, 45, 45, 45, 45, 45, 45, 45, 45, 45, 45, 45, 45, 45, 45, 45, 45, 45, 45, 45, 45, 45, 45, 45, 45, 45, 45, 45, 45, 45, 45, 45, 45, 45, 45, 45, 45, 45, 45, 45, 45, 45, 45, 45, 45, 45, 45, 45, 45, 45, 45, 45, 45, 45, 45, 45, 45, 45, 45, 45, 45, 45, 45, 45, 45, 45, 45, 45, 45, 45, 45, 45, 45, 45, 45, 45, 45, 45, 45, 45, 45, 45, 45, 45, 45, 45, 45, 45, 45, 45, 45, 45, 45, 45, 45, 45, 45, 45, 45, 45, 45, 45, 45, 45, 45, 45, 45, 45, 45, 45, 45, 45, 45, 45, 45, 45, 45, 45, 45, 45, 45, 45, 45]⟩)) none (some (.tmp 65))) (.q (some 4) none (.mov (.tmp 66)) .done))) false 20 [4],
  .ret [.t 4],
  .reg (.q (some 74) none (.mov (.tmp 7)) (.q (some 75) none (.slcT (.const (.string ⟨#[48, 48, 48, 48, 48, 48, 48, 48, 48, 48, 48, 48, 48, 48, 48, 48, 48, 48, 48, 48, 48, 48, 48, 48, 48, 48, 48, 48, 48, 48, 48, 48, 48, 48, 48, 48, 48, 48, 48, 48, 48, 48, 48, 48, 48, 48, 48, 48, 48, 48, 48, 48, 48, 48, 48, 48, 48, 48, 48, 48, 48, 48, 48, 48]⟩)) none (some (.tmp 74))) (.q (some 4) none (.mov (.tmp 75)) .done))) false 22 [4],
  .ret [.t 4],
  .reg (.q (some 83) none (.mov (.tmp 7)) (.q (some 84) none (.slcT (.const (.string ⟨#[61, 61, 61, 61, 61, 61, 61, 61, 61, 61, 61, 61, 61, 61, 61, 61, 61, 61, 61, 61, 61, 61, 61, 61, 61, 61, 61, 61, 61, 61, 61, 61, 61, 61, 61, 61, 61, 61, 61, 61, 61, 61, 61, 61, 61, 61, 61, 61, 61, 61, 61, 61, 61, 61, 61, 61, 61, 61, 61, 61, 61, 61, 61, 61, 61, 61, 61, 61, 61, 61, 61, 61, 61, 61, 61, 61, 61, 61, 61, 61, 61, 61, 61, 61, 61, 61, 61, 61, 61, 61, 61, 61, 61, 61, 61, 61, 61, 61, 61, 61, 61, 61, 61, 61, 61, 61, 61, 61, 61, 61, 61, 61, 61, 61, 61, 61, 61, 61, 61, 61, 61, 61, 61, 61, 61, 61, 61, 61]⟩)) none (some (.tmp 83))) (.q (some 4) none (.mov (.tmp 84)) .done))) false 24 [4],
  .ret [.t 4],
  .reg (.q (some 92) none (.mov (.tmp 7)) (.q (some 93) none (.slcT (.const (.string ⟨#[9, 9, 9, 9, 9, 9, 9, 9, 9, 9, 9, 9, 9, 9, 9, 9, 9, 9, 9, 9, 9, 9, 9, 9, 9, 9, 9, 9, 9, 9, 9, 9, 9, 9, 9, 9, 9, 9, 9, 9, 9, 9, 9, 9, 9, 9, 9, 9, 9, 9, 9, 9, 9, 9, 9, 9, 9, 9, 9, 9, 9, 9, 9, 9]⟩)) none (some (.tmp 92))) (.q (some 4) none (.mov (.tmp 93)) .done))) false 26 [4],
  .cnd (.tmp 85) 27 17,
  .reg (.q (some 86) none (.mov (.tmp 7)) (.q (some 87) none (.bin .leq (.tmp 86) (.const (.int .i64 64))) (.q (some 88) none (.mov (.tmp 87)) (.q (some 89) (some (88, true)) (.mov (.tmp 0)) (.l (some 90) (some (88, true)) (.call 26 [(.const (.string ⟨#[9, 9, 9, 9, 9, 9, 9, 9, 9, 9, 9, 9, 9, 9, 9, 9, 9, 9, 9, 9, 9, 9, 9, 9, 9, 9, 9, 9, 9, 9, 9, 9, 9, 9, 9, 9, 9, 9, 9, 9, 9, 9, 9, 9, 9, 9, 9, 9, 9, 9, 9, 9, 9, 9, 9, 9, 9, 9, 9, 9, 9, 9, 9, 9]⟩)), (.tmp 89)]) [] (.q (some 91) none (.pick (.tmp 88) (.tmp 90) (.const (.bool false))) (.q (some 85) none (.mov (.tmp 91)) .done))))))) false 28 [0, 7, 85],
  .cnd (.tmp 76) 25 29,
  .reg (.q (some 77) none (.mov (.tmp 7)) (.q (some 78) none (.bin .leq (.tmp 77) (.const (.int .i64 128))) (.q (some 79) none (.mov (.tmp 78)) (.q (some 80) (some (79, true)) (.mov (.tmp 0)) (.l (some 81) (some (79, true)) (.call 26 [(.const (.string ⟨#[61, 61, 61, 61, 61, 61, 61, 61, 61, 61, 61, 61, 61, 61, 61, 61, 61, 61, 61, 61, 61, 61, 61, 61, 61, 61, 61, 61, 61, 61, 61, 61, 61, 61, 61, 61, 61, 61, 61, 61, 61, 61, 61, 61, 61, 61, 61, 61, 61, 61, 61, 61, 61, 61, 61, 61, 61, 61, 61, 61, 61, 61, 61, 61, 61, 61, 61, 61, 61, 61, 61, 61, 61, 61, 61, 61, 61, 61, 61, 61, 61, 61, 61, 61, 61, 61, 61, 61, 61, 61, 61, 61, 61, 61, 61, 61, 61, 61, 61, 61, 61, 61, 61, 61, 61, 61, 61, 61, 61, 61, 61, 61, 61, 61, 61, 61, 61, 61, 61, 61, 61, 61, 61, 61, 61, 61, 61, 61]⟩)), (.tmp 80)]) [] (.q (some 82) none (.pick (.tmp 79) (.tmp 81) (.const (.bool false))) (.q (some 76) none (.mov (.tmp 82)) .done))))))) false 30 [0, 7, 76],
  .cnd (.tmp 67) 23 31,
  .reg (.q (some 68) none (.mov (.tmp 7)) (.q (some 69) none (.bin .leq (.tmp 68) (.const (.int .i64 64))) (.q (some 70) none (.mov (.tmp 69)) (.q (some 71) (some (70, true)) (.mov (.tmp 0)) (.l (some 72) (some (70, true)) (.call 26 [(.const (.string ⟨#[48, 48, 48, 48, 48, 48, 48, 48, 48, 48, 48, 48, 48, 48, 48, 48, 48, 48, 48, 48, 48, 48, 48, 48, 48, 48, 48, 48, 48, 48, 48, 48, 48, 48, 48, 48, 48, 48, 48, 48, 48, 48, 48, 48, 48, 48, 48, 48, 48, 48, 48, 48, 48, 48, 48, 48, 48, 48, 48, 48, 48, 48, 48, 48]⟩)), (.tmp 71)]) [] (.q (some 73) none (.pick (.tmp 70) (.tmp 72) (.const (.bool false))) (.q (some 67) none (.mov (.tmp 73)) .done))))))) false 32 [0, 7, 67],
  .cnd (.tmp 58) 21 33,
  .reg (.q (some 59) none (.mov (.tmp 7)) (.q (some 60) none (.bin .leq (.tmp 59) (.const (.int .i64 128))) (.q (some 61) none (.mov (.tmp 60)) (.q (some 62) (some (61, true)) (.mov (.tmp 0)) (.l (some 63) (some (61, true)) (.call 26 [(.const (.string ⟨#[45, 45, 45, 45, 45, 45, 45, 45, 45, 45, 45, 45, 45, 45, 45, 45, 45, 45, 45, 45, 45, 45, 45, 45, 45, 45, 45, 45, 45, 45, 45, 45, 45, 45, 45, 45, 45, 45, 45, 45, 45, 45, 45, 45, 45, 45, 45, 45, 45, 45, 45, 45, 45, 45, 45, 45, 45, 45, 45, 45, 45, 45, 45, 45, 45, 45, 45, 45, 45, 45, 45, 45, 45, 45, 45, 45, 45, 45, 45, 45, 45, 45, 45, 45, 45, 45, 45, 45, 45, 45, 45, 45, 45, 45, 45, 45, 45, 45, 45, 45, 45, 45, 45, 45, 45, 45, 45, 45, 45, 45, 45, 45, 45, 45, 45, 45, 45, 45, 45, 45, 45, 45, 45, 45, 45, 45, 45, 45]⟩)), (.tmp 62)]) [] (.q (some 64) none (.pick (.tmp 61) (.tmp 63) (.const (.bool false))) (.q (some 58) none (.mov (.tmp 64)) .done))))))) false 34 [0, 7, 58],
  .cnd (.tmp 49) 19 35,
  .reg (.q (some 50) none (.mov (.tmp 7)) (.q (some 51) none (.bin .leq (.tmp 50) (.const (.int .i64 128))) (.q (some 52) none (.mov (.tmp 51)) (.q (some 53) (some (52, true)) (.mov (.tmp 0)) (.l (some 54) (some (52, true)) (.call 26 [(.const (.string ⟨#[32, 32, 32, 32, 32, 32, 32, 32, 32, 32, 32, 32, 32, 32, 32, 32, 32, 32, 32, 32, 32, 32, 32, 32, 32, 32, 32, 32, 32, 32, 32, 32, 32, 32, 32, 32, 32, 32, 32, 32, 32, 32, 32, 32, 32, 32, 32, 32, 32, 32, 32, 32, 32, 32, 32, 32, 32, 32, 32, 32, 32, 32, 32, 32, 32, 32, 32, 32, 32, 32, 32, 32, 32, 32, 32, 32, 32, 32, 32, 32, 32, 32, 32, 32, 32, 32, 32, 32, 32, 32, 32, 32, 32, 32, 32, 32, 32, 32, 32, 32, 32, 32, 32, 32, 32, 32, 32, 32, 32, 32, 32, 32, 32, 32, 32, 32, 32, 32, 32, 32, 32, 32, 32, 32, 32, 32, 32, 32]⟩)), (.tmp 53)]) [] (.q (some 55) none (.pick (.tmp 52) (.tmp 54) (.const (.bool false))) (.q (some 49) none (.mov (.tmp 55)) .done))))))) false 36 [0, 7, 49],
  .cnd (.tmp 43) 37 17,
  .reg (.q (some 48) none (.bin .eql (.tmp 42) (.const (.int .u8 9))) (.q (some 43) none (.mov (.tmp 48)) .done)) false 38 [0, 7, 43],
  .cnd (.tmp 43) 38 39,
  .reg (.q (some 47) none (.bin .eql (.tmp 42) (.const (.int .u8 61))) (.q (some 43) none (.mov (.tmp 47)) .done)) false 40 [0, 7, 42, 43],
  .cnd (.tmp 43) 38 41,
  .reg (.q (some 46) none (.bin .eql (.tmp 42) (.const (.int .u8 48))) (.q (some 43) none (.mov (.tmp 46)) .done)) false 42 [0, 7, 42, 43],
  .cnd (.tmp 43) 38 43,
  .reg (.q (some 45) none (.bin .eql (.tmp 42) (.const (.int .u8 45))) (.q (some 43) none (.mov (.tmp 45)) .done)) false 44 [0, 7, 42, 43],
  .cnd (.tmp 43) 38 45,
  .reg (.q (some 44) none (.bin .eql (.tmp 42) (.const (.int .u8 32))) (.q (some 43) none (.mov (.tmp 44)) .done)) false 46 [0, 7, 42, 43],
  .reg (.q (some 41) none (.mov (.tmp 0)) (.q (some 42) none (.idxS (.tmp 41) (.const (.int .i64 0))) .done)) false 47 [0, 7, 42],
  .ret [.t 4],
  .reg (.q (some 4) none (.mov (.const (.string ⟨#[]⟩))) .done) false 49 [4],
  .cnd (.tmp 40) 50 48,
  .reg (.q (some 38) none (.mov (.tmp 0)) (.q (some 39) none (.lenT (.tmp 38)) (.q (some 40) none (.bin .eql (.tmp 39) (.const (.int .i64 0))) .done))) false 51 [0, 7, 40],
  .reg (.q (some 36) none (.mov (.tmp 6)) (.q (some 37) none (.cvi .i64 (.tmp 36)) (.q (some 7) none (.mov (.tmp 37)) .done))) false 52 [0, 7],
  .reg (.q (some 35) none (.mif 9 (.const (.string ⟨#[115, 116, 114, 105, 110, 103, 115, 58, 32, 82, 101, 112, 101, 97, 116, 32, 111, 117, 116, 112, 117, 116, 32, 108, 101, 110, 103, 116, 104, 32, 111, 118, 101, 114, 102, 108, 111, 119]⟩))) (.l none none (.pan (.tmp 35)) [] .done)) false 53 [0, 6],
  .cnd (.tmp 34) 54 53,
  .reg (.q (some 29) none (.mov (.tmp 5)) (.q (some 30) none (.bin .gtr (.tmp 29) (.const (.int .u64 0))) (.q (some 31) none (.mov (.tmp 30)) (.q (some 32) (some (31, false)) (.mov (.tmp 6)) (.q (some 33) (some (31, false)) (.bin .gtr (.tmp 32) (.const (.int .u64 9223372036854775807))) (.q (some 34) none (.pick (.tmp 31) (.const (.bool true)) (.tmp 33)) .done)))))) false 55 [0, 6, 34],
  .reg (.q (some 21) none (.mov (.tmp 0)) (.q (some 22) none (.lenT (.tmp 21)) (.q (some 23) none (.cvi .u64 (.tmp 22)) (.q (some 24) none (.mov (.tmp 1)) (.q (some 25) none (.cvi .u64 (.tmp 24)) (.l (some 26) none (.call 25 [(.tmp 23), (.tmp 25)]) [] (.q (some 20) none (.mov (.tmp 26)) (.q (some 27) none (.ext 0 (.tmp 20)) (.q (some 28) none (.ext 1 (.tmp 20)) (.q (some 5) none (.mov (.tmp 27)) (.q (some 6) none (.mov (.tmp 28)) .done))))))))))) false 56 [0, 5, 6],
  .reg (.q (some 19) none (.mif 9 (.const (.string ⟨#[115, 116, 114, 105, 110, 103, 115, 58, 32, 110, 101, 103, 97, 116, 105, 118, 101, 32, 82, 101, 112, 101, 97, 116, 32, 99, 111, 117, 110, 116]⟩))) (.l none none (.pan (.tmp 19)) [] .done)) false 57 [0, 1],
  .cnd (.tmp 18) 58 57,
  .reg (.q (some 17) none (.mov (.tmp 1)) (.q (some 18) none (.bin .lss (.tmp 17) (.const (.int .i64 0))) .done)) false 59 [0, 1, 18],
  .ret [.t 4],
  .reg (.q (some 4) none (.mov (.const (.string ⟨#[]⟩))) .done) false 61 [4],
  .ret [.t 4],
  .reg (.q (some 16) none (.mov (.tmp 0)) (.q (some 4) none (.mov (.tmp 16)) .done)) false 63 [4],
  .cnd (.tmp 14) 64 60,
  .reg (.q (some 15) none (.bin .eql (.tmp 11) (.const (.int .i64 1))) (.q (some 14) none (.mov (.tmp 15)) .done)) false 65 [0, 1, 14],
  .cnd (.tmp 12) 62 66,
  .reg (.q (some 13) none (.bin .eql (.tmp 11) (.const (.int .i64 0))) (.q (some 12) none (.mov (.tmp 13)) .done)) false 67 [0, 1, 11, 12],
  .reg (.q (some 11) none (.mov (.tmp 1)) .done) false 68 [0, 1, 11],
  .reg (.q (some 4) none (.mov (.const (.string ⟨#[]⟩))) .done) false 69 [0, 1]
  ]
theorem c17_ok : cfgL Tryd.prog 17 = some (125, 70, c17.map Vc.Node.bare) := by kernel_rfl
/- strongbox/amount.valid: entry 7 -/
def c18 : List Vc.Node := [
  .ret [.t 2, .t 3],
  .ret [.t 2, .t 3],
  .reg (.q (some 7) none (.mov (.tmp 0)) (.q (some 2) none (.mov (.tmp 7)) (.q (some 3) none (.mov (.const (.int .i64 0))) .done))) false 1 [2, 3],
  .ret [.t 2, .t 3],
  .reg (.q (some 2) none (.mov (.const (.int .i64 0))) (.q (some 3) none (.mov (.const (.int .i64 6))) .done)) false 3 [2, 3],
  .cnd (.tmp 6) 4 2,
  .reg (.q (some 4) none (.mov (.tmp 0)) (.l (some 5) none (.call 11 [(.tmp 4)]) [] (.q (some 6) none (.not (.tmp 5)) .done))) false 5 [0, 6],
  .reg (.q (some 2) none (.mov (.const (.int .i64 0))) (.q (some 3) none (.mov (.const (.int .i64 0))) .done)) false 6 [0]
  ]
theorem c18_ok : cfgL Tryd.prog 18 = some (8, 7, c18.map Vc.Node.bare) := by kernel_rfl
/- strongbox/amount.sized: entry 3 -/
def c19 : List Vc.Node := [
  .ret [.t 4],
  .ret [.t 4],
  .reg (.q (some 5) none (.mov (.tmp 0)) (.q (some 6) none (.mov (.tmp 1)) (.q (some 7) none (.bin .geq (.tmp 5) (.tmp 6)) (.q (some 8) none (.mov (.tmp 7)) (.q (some 9) (some (8, true)) (.mov (.tmp 0)) (.q (some 10) (some (8, true)) (.bin .leq (.tmp 9) (.const (.int .i64 1000000))) (.q (some 11) none (.pick (.tmp 8) (.tmp 10) (.const (.bool false))) (.q (some 4) none (.mov (.tmp 11)) .done)))))))) false 1 [4],
  .reg (.q (some 4) none (.mov (.const (.bool false))) .done) false 2 [0, 1]
  ]
theorem c19_ok : cfgL Tryd.prog 19 = some (12, 3, c19.map Vc.Node.bare) := by kernel_rfl
/- strongbox/amount.share: entry 4 -/
def c20 : List Vc.Node := [
  .ret [.t 6, .t 7],
  .ret [.t 6, .t 7],
  .reg (.q (some 16) none (.mov (.tmp 8)) (.q (some 17) none (.mov (.tmp 1)) (.q (some 18) none (.bin .mul (.tmp 16) (.tmp 17)) (.q (some 19) none (.mov (.tmp 9)) (.q (some 20) none (.mov (.tmp 1)) (.q (some 21) none (.bin .mul (.tmp 19) (.tmp 20)) (.q (some 22) none (.mov (.tmp 2)) (.q (some 23) none (.bin .quo (.tmp 21) (.tmp 22)) (.q (some 24) none (.bin .add (.tmp 18) (.tmp 23)) (.q (some 25) none (.mov (.tmp 9)) (.q (some 26) none (.mov (.tmp 1)) (.q (some 27) none (.bin .mul (.tmp 25) (.tmp 26)) (.q (some 28) none (.mov (.tmp 2)) (.q (some 29) none (.bin .rem (.tmp 27) (.tmp 28)) (.q (some 6) none (.mov (.tmp 24)) (.q (some 7) none (.mov (.tmp 29)) .done)))))))))))))))) true 1 [6, 7],
  .reg (.q (some 10) none (.mov (.tmp 0)) (.q (some 11) none (.mov (.tmp 2)) (.q (some 12) none (.bin .quo (.tmp 10) (.tmp 11)) (.q (some 13) none (.mov (.tmp 0)) (.q (some 14) none (.mov (.tmp 2)) (.q (some 15) none (.bin .rem (.tmp 13) (.tmp 14)) (.q (some 8) none (.mov (.tmp 12)) (.q (some 9) none (.mov (.tmp 15)) .done)))))))) true 2 [1, 2, 8, 9],
  .reg (.q (some 6) none (.mov (.const (.int .i64 0))) (.q (some 7) none (.mov (.const (.int .i64 0))) .done)) false 3 [0, 1, 2]
  ]
theorem c20_ok : cfgL Tryd.prog 20 = some (30, 4, c20.map Vc.Node.bare) := by kernel_rfl
/- internal/strconv.FormatInt: entry 24 -/
def c21 : List Vc.Node := [
  .ret [.t 4],
  .ret [.t 4],
  .reg (.q (some 53) none (.mov (.tmp 9)) (.q (some 4) none (.mov (.tmp 53)) .done)) false 1 [4],
  .reg (.q (some 45) none (.mov (.tmp 0)) (.q (some 46) none (.cvi .u64 (.tmp 45)) (.q (some 47) none (.mov (.tmp 1)) (.q (some 48) none (.mov (.tmp 0)) (.q (some 49) none (.bin .lss (.tmp 48) (.const (.int .i64 0))) (.l (some 50) none (.call 34 [(.const (.slice none 0 0)), (.tmp 46), (.tmp 47), (.tmp 49), (.const (.bool false))]) [] (.q (some 44) none (.mov (.tmp 50)) (.q (some 51) none (.ext 0 (.tmp 44)) (.q (some 52) none (.ext 1 (.tmp 44)) (.q (some 8) none (.mov (.tmp 51)) (.q (some 9) none (.mov (.tmp 52)) .done))))))))))) false 2 [9],
  .ret [.t 4],
  .reg (.q (some 40) none (.mov (.tmp 7)) (.q (some 41) none (.bin .add (.const (.int .i64 1)) (.tmp 40)) (.q (some 42) none (.slcA 24 1 (.tmp 5) (some (.const (.int .i64 1))) (some (.tmp 41))) (.q (some 43) none (.b2s (.tmp 42)) (.q (some 4) none (.mov (.tmp 43)) .done))))) false 4 [4],
  .ret [.t 4],
  .reg (.q (some 36) none (.mov (.tmp 7)) (.q (some 37) none (.bin .add (.const (.int .i64 1)) (.tmp 36)) (.q (some 38) none (.slcA 24 1 (.tmp 5) none (some (.tmp 37))) (.q (some 39) none (.b2s (.tmp 38)) (.q (some 4) none (.mov (.tmp 39)) .done))))) false 6 [4],
  .reg (.q (some 35) none (.iadrA 24 1 (.tmp 5) (.const (.int .i64 0))) (.l none none (.st1 (.tmp 35) (.const (.int .u8 45))) [] .done)) false 7 [5, 7],
  .cnd (.tmp 34) 8 5,
  .reg (.q (some 33) none (.mov (.tmp 0)) (.q (some 34) none (.bin .lss (.tmp 33) (.const (.int .i64 0))) .done)) false 9 [5, 7, 34],
  .reg (.q (some 28) none (.mov (.tmp 7)) (.q (some 29) none (.bin .add (.const (.int .i64 1)) (.tmp 28)) (.q (some 30) none (.slcA 24 1 (.tmp 5) (some (.const (.int .i64 1))) (some (.tmp 29))) (.q (some 31) none (.mov (.tmp 6)) (.l (some 32) none (.call 33 [(.tmp 30), (.tmp 31)]) [] .done))))) false 10 [0, 5, 7],
  .reg (.q (some 26) none (.mov (.tmp 6)) (.l (some 27) none (.call 32 [(.tmp 26)]) [] (.q (some 7) none (.mov (.tmp 27)) .done))) false 11 [0, 5, 6, 7],
  .reg (.q (some 24) none (.mov (.tmp 6)) (.q (some 25) none (.neg (.tmp 24)) (.q (some 6) none (.mov (.tmp 25)) .done))) false 12 [0, 5, 6],
  .cnd (.tmp 23) 13 12,
  .reg (.q (some 22) none (.mov (.tmp 0)) (.q (some 23) none (.bin .lss (.tmp 22) (.const (.int .i64 0))) .done)) false 14 [0, 5, 6, 23],
  .reg (.q (some 20) none (.mov (.tmp 0)) (.q (some 21) none (.cvi .u64 (.tmp 20)) (.q (some 6) none (.mov (.tmp 21)) .done))) false 15 [0, 5, 6],
  .reg (.l (some 5) none (.alloc 62 [(24, (.int .u8 0))]) [] .done) false 16 [0, 5],
  .ret [.t 4],
  .reg (.q (some 18) none (.mov (.tmp 0)) (.l (some 19) none (.call 31 [(.tmp 18)]) [] (.q (some 4) none (.mov (.tmp 19)) .done))) false 18 [4],
  .cnd (.tmp 17) 19 17,
  .reg (.q (some 12) none (.mov (.tmp 0)) (.q (some 13) none (.bin .leq (.const (.int .i64 0)) (.tmp 12)) (.q (some 14) none (.mov (.tmp 13)) (.q (some 15) (some (14, true)) (.mov (.tmp 0)) (.q (some 16) (some (14, true)) (.bin .lss (.tmp 15) (.const (.int .i64 100))) (.q (some 17) none (.pick (.tmp 14) (.tmp 16) (.const (.bool false))) .done)))))) false 20 [0, 17],
  .cnd (.tmp 11) 21 3,
  .reg (.q (some 10) none (.mov (.tmp 1)) (.q (some 11) none (.bin .eql (.tmp 10) (.const (.int .i64 10))) .done)) false 22 [0, 1, 11],
  .reg (.q (some 4) none (.mov (.const (.string ⟨#[]⟩))) .done) false 23 [0, 1]
  ]
theorem c21_ok : cfgL Tryd.prog 21 = some (54, 24, c21.map Vc.Node.bare) := by kernel_rfl
/- internal/stringslite.Cut: entry 8 -/
def c22 : List Vc.Node := [
  .ret [.t 4, .t 5, .t 6],
  .ret [.t 4, .t 5, .t 6],
  .reg (.q (some 22) none (.mov (.tmp 0)) (.q (some 4) none (.mov (.tmp 22)) (.q (some 5) none (.mov (.const (.string ⟨#[]⟩))) (.q (some 6) none (.mov (.const (.bool false))) .done)))) false 1 [4, 5, 6],
  .ret [.t 4, .t 5, .t 6],
  .reg (.q (some 13) none (.mov (.tmp 0)) (.q (some 14) none (.mov (.tmp 7)) (.q (some 15) none (.slcT (.tmp 13) none (some (.tmp 14))) (.q (some 16) none (.mov (.tmp 0)) (.q (some 17) none (.mov (.tmp 7)) (.q (some 18) none (.mov (.tmp 1)) (.q (some 19) none (.lenT (.tmp 18)) (.q (some 20) none (.bin .add (.tmp 17) (.tmp 19)) (.q (some 21) none (.slcT (.tmp 16) (some (.tmp 20)) none) (.q (some 4) none (.mov (.tmp 15)) (.q (some 5) none (.mov (.tmp 21)) (.q (some 6) none (.mov (.const (.bool true))) .done)))))))))))) true 3 [4, 5, 6],
  .cnd (.tmp 12) 4 2,
  .reg (.q (some 11) none (.mov (.tmp 7)) (.q (some 12) none (.bin .geq (.tmp 11) (.const (.int .i64 0))) .done)) false 5 [0, 1, 7, 12],
  .reg (.q (some 8) none (.mov (.tmp 0)) (.q (some 9) none (.mov (.tmp 1)) (.l (some 10) none (.call 35 [(.tmp 8), (.tmp 9)]) [] (.q (some 7) none (.mov (.tmp 10)) .done)))) false 6 [0, 1, 7],
  .reg (.q (some 4) none (.mov (.const (.string ⟨#[]⟩))) (.q (some 5) none (.mov (.const (.string ⟨#[]⟩))) (.q (some 6) none (.mov (.const (.bool false))) .done))) false 7 [0, 1]
  ]
theorem c22_ok : cfgL Tryd.prog 22 = some (23, 8, c22.map Vc.Node.bare) := by kernel_rfl
/- internal/strconv.ParseInt: entry 38 -/
def c23 : List Vc.Node := [
  .ret [.t 6, .t 7],
  .ret [.t 6, .t 7],
  .reg (.q (some 72) none (.mov (.tmp 11)) (.q (some 6) none (.mov (.tmp 72)) (.q (some 7) none (.mov (.const .nilIface)) .done))) false 1 [6, 7],
  .reg (.q (some 70) none (.mov (.tmp 11)) (.q (some 71) none (.neg (.tmp 70)) (.q (some 11) none (.mov (.tmp 71)) .done))) false 2 [11],
  .cnd (.tmp 69) 3 2,
  .reg (.q (some 69) none (.mov (.tmp 8)) .done) false 4 [11, 69],
  .reg (.q (some 67) none (.mov (.tmp 9)) (.q (some 68) none (.cvi .i64 (.tmp 67)) (.q (some 11) none (.mov (.tmp 68)) .done))) false 5 [8, 11],
  .ret [.t 6, .t 7],
  .reg (.q (some 63) none (.mov (.tmp 10)) (.q (some 64) none (.cvi .i64 (.tmp 63)) (.q (some 65) none (.neg (.tmp 64)) (.q (some 66) none (.mif 69 (.const (.int .i64 1))) (.q (some 6) none (.mov (.tmp 65)) (.q (some 7) none (.mov (.tmp 66)) .done)))))) false 7 [6, 7],
  .cnd (.tmp 62) 8 6,
  .reg (.q (some 57) none (.mov (.tmp 8)) (.q (some 58) none (.mov (.tmp 57)) (.q (some 59) (some (58, true)) (.mov (.tmp 9)) (.q (some 60) (some (58, true)) (.mov (.tmp 10)) (.q (some 61) (some (58, true)) (.bin .gtr (.tmp 59) (.tmp 60)) (.q (some 62) none (.pick (.tmp 58) (.tmp 61) (.const (.bool false))) .done)))))) false 9 [8, 9, 10, 62],
  .ret [.t 6, .t 7],
  .reg (.q (some 53) none (.mov (.tmp 10)) (.q (some 54) none (.bin .sub (.tmp 53) (.const (.int .u64 1))) (.q (some 55) none (.cvi .i64 (.tmp 54)) (.q (some 56) none (.mif 69 (.const (.int .i64 1))) (.q (some 6) none (.mov (.tmp 55)) (.q (some 7) none (.mov (.tmp 56)) .done)))))) false 11 [6, 7],
  .cnd (.tmp 52) 12 10,
  .reg (.q (some 46) none (.mov (.tmp 8)) (.q (some 47) none (.not (.tmp 46)) (.q (some 48) none (.mov (.tmp 47)) (.q (some 49) (some (48, true)) (.mov (.tmp 9)) (.q (some 50) (some (48, true)) (.mov (.tmp 10)) (.q (some 51) (some (48, true)) (.bin .geq (.tmp 49) (.tmp 50)) (.q (some 52) none (.pick (.tmp 48) (.tmp 51) (.const (.bool false))) .done))))))) false 13 [8, 9, 10, 52],
  .reg (.q (some 42) none (.mov (.tmp 2)) (.q (some 43) none (.bin .sub (.tmp 42) (.const (.int .i64 1))) (.q (some 44) none (.cvi .u64 (.tmp 43)) (.q (some 45) none (.bin .shl (.const (.int .u64 1)) (.tmp 44)) (.q (some 10) none (.mov (.tmp 45)) .done))))) false 14 [8, 9, 10],
  .reg (.q (some 2) none (.mov (.const (.int .i64 64))) .done) false 15 [2, 8, 9],
  .cnd (.tmp 41) 16 15,
  .reg (.q (some 40) none (.mov (.tmp 2)) (.q (some 41) none (.bin .eql (.tmp 40) (.const (.int .i64 0))) .done)) false 17 [2, 8, 9, 41],
  .ret [.t 6, .t 7],
  .reg (.q (some 39) none (.mov (.tmp 7)) (.q (some 6) none (.mov (.const (.int .i64 0))) (.q (some 7) none (.mov (.tmp 39)) .done))) false 19 [6, 7],
  .cnd (.tmp 38) 20 18,
  .bad,
  .reg (.q (some 26) none (.mov (.tmp 0)) (.q (some 27) none (.mov (.tmp 1)) (.q (some 28) none (.mov (.tmp 2)) (.l (some 29) none (.call 36 [(.tmp 26), (.tmp 27), (.tmp 28)]) [] (.q (some 25) none (.mov (.tmp 29)) (.q (some 30) none (.ext 0 (.tmp 25)) (.q (some 31) none (.ext 1 (.tmp 25)) (.q (some 9) none (.mov (.tmp 30)) (.q (some 7) none (.mov (.tmp 31)) .done))))))))) false 22 [],
  .reg (.q (some 9) none (.mov (.const (.int .u64 0))) .done) false 23 [0, 1, 2],
  .reg (.q (some 19) none (.mov (.tmp 0)) (.q (some 20) none (.slcT (.tmp 19) (some (.const (.int .i64 1))) none) (.q (some 0) none (.mov (.tmp 20)) .done))) false 24 [0, 1, 2],
  .reg (.q (some 8) none (.mov (.const (.bool true))) .done) false 24 [0, 1, 2],
  .reg (.q (some 23) none (.mov (.tmp 0)) (.q (some 24) none (.slcT (.tmp 23) (some (.const (.int .i64 1))) none) (.q (some 0) none (.mov (.tmp 24)) .done))) false 26 [0, 1, 2],
  .cnd (.tmp 21) 27 24,
  .reg (.q (some 22) none (.bin .eql (.tmp 16) (.const (.int .u8 45))) (.q (some 21) none (.mov (.tmp 22)) .done)) false 28 [0, 1, 2, 21],
  .cnd (.tmp 17) 25 29,
  .reg (.q (some 18) none (.bin .eql (.tmp 16) (.const (.int .u8 43))) (.q (some 17) none (.mov (.tmp 18)) .done)) false 30 [0, 1, 2, 16, 17],
  .reg (.q (some 15) none (.mov (.tmp 0)) (.q (some 16) none (.idxS (.tmp 15) (.const (.int .i64 0))) .done)) false 31 [0, 1, 2, 16],
  .reg (.q (some 8) none (.mov (.const (.bool false))) .done) false 32 [0, 1, 2],
  .ret [.t 6, .t 7],
  .reg (.q (some 14) none (.mif 69 (.const (.int .i64 2))) (.q (some 6) none (.mov (.const (.int .i64 0))) (.q (some 7) none (.mov (.tmp 14)) .done))) false 34 [6, 7],
  .cnd (.tmp 13) 35 33,
  .reg (.q (some 12) none (.mov (.tmp 0)) (.q (some 13) none (.bin .eql (.tmp 12) (.const (.string ⟨#[]⟩))) .done)) false 36 [0, 1, 2, 13],
  .reg (.q (some 6) none (.mov (.const (.int .i64 0))) (.q (some 7) none (.mov (.const .nilIface)) .done)) false 37 [0, 1, 2]
  ]
theorem c23_ok : cfgL Tryd.prog 23 = some (73, 38, c23.map Vc.Node.bare) := by kernel_rfl
/- strconv.toError: entry 20 -/
def c24 : List Vc.Node := [
  .ret [.t 10],
  .ret [.t 10],
  .reg (.q (some 42) none (.mov (.tmp 4)) (.q (some 10) none (.mov (.tmp 42)) .done)) false 1 [10],
  .ret [.t 10],
  .reg (.q (some 15) none (.mov (.tmp 0)) (.q (some 16) none (.mov (.tmp 1)) (.l (some 17) none (.call 37 [(.tmp 15), (.tmp 16)]) [] (.q (some 18) none (.mif 72 (.tmp 17)) (.q (some 10) none (.mov (.tmp 18)) .done))))) false 3 [10],
  .ret [.t 10],
  .reg (.q (some 22) none (.mov (.tmp 0)) (.q (some 23) none (.mov (.tmp 1)) (.l (some 24) none (.call 38 [(.tmp 22), (.tmp 23)]) [] (.q (some 25) none (.mif 72 (.tmp 24)) (.q (some 10) none (.mov (.tmp 25)) .done))))) false 5 [10],
  .ret [.t 10],
  .reg (.q (some 29) none (.mov (.tmp 0)) (.q (some 30) none (.mov (.tmp 1)) (.q (some 31) none (.mov (.tmp 2)) (.l (some 32) none (.call 39 [(.tmp 29), (.tmp 30), (.tmp 31)]) [] (.q (some 33) none (.mif 72 (.tmp 32)) (.q (some 10) none (.mov (.tmp 33)) .done)))))) false 7 [10],
  .ret [.t 10],
  .reg (.q (some 37) none (.mov (.tmp 0)) (.q (some 38) none (.mov (.tmp 1)) (.q (some 39) none (.mov (.tmp 3)) (.l (some 40) none (.call 40 [(.tmp 37), (.tmp 38), (.tmp 39)]) [] (.q (some 41) none (.mif 72 (.tmp 40)) (.q (some 10) none (.mov (.tmp 41)) .done)))))) false 9 [10],
  .cnd (.tmp 34) 10 2,
  .bad,
  .cnd (.tmp 26) 8 12,
  .bad,
  .cnd (.tmp 19) 6 14,
  .bad,
  .cnd (.tmp 12) 4 16,
  .bad,
  .reg (.q (some 11) none (.mov (.tmp 4)) .done) false 18 [],
  .reg (.q (some 10) none (.mov (.const .nilIface)) .done) false 19 [4]
  ]
theorem c24_ok : cfgL Tryd.prog 24 = some (43, 20, c24.map Vc.Node.bare) := by kernel_rfl
/- math/bits.Mul: entry 8 -/
def c25 : List Vc.Node := [
  .ret [.t 4, .t 5],
  .ret [.t 4, .t 5],
  .reg (.q (some 28) none (.mov (.tmp 8)) (.q (some 29) none (.mov (.tmp 9)) (.q (some 4) none (.mov (.tmp 28)) (.q (some 5) none (.mov (.tmp 29)) .done)))) false 1 [4, 5],
  .reg (.q (some 23) none (.mov (.tmp 0)) (.q (some 24) none (.mov (.tmp 1)) (.l (some 25) none (.call 42 [(.tmp 23), (.tmp 24)]) [] (.q (some 22) none (.mov (.tmp 25)) (.q (some 26) none (.ext 0 (.tmp 22)) (.q (some 27) none (.ext 1 (.tmp 22)) (.q (some 8) none (.mov (.tmp 26)) (.q (some 9) none (.mov (.tmp 27)) .done)))))))) false 2 [8, 9],
  .ret [.t 4, .t 5],
  .reg (.q (some 18) none (.mov (.tmp 6)) (.q (some 19) none (.cvi .u64 (.tmp 18)) (.q (some 20) none (.mov (.tmp 7)) (.q (some 21) none (.cvi .u64 (.tmp 20)) (.q (some 4) none (.mov (.tmp 19)) (.q (some 5) none (.mov (.tmp 21)) .done)))))) false 4 [4, 5],
  .reg (.q (some 11) none (.mov (.tmp 0)) (.q (some 12) none (.cvi .u32 (.tmp 11)) (.q (some 13) none (.mov (.tmp 1)) (.q (some 14) none (.cvi .u32 (.tmp 13)) (.l (some 15) none (.call 41 [(.tmp 12), (.tmp 14)]) [] (.q (some 10) none (.mov (.tmp 15)) (.q (some 16) none (.ext 0 (.tmp 10)) (.q (some 17) none (.ext 1 (.tmp 10)) (.q (some 6) none (.mov (.tmp 16)) (.q (some 7) none (.mov (.tmp 17)) .done)))))))))) false 5 [6, 7],
  .cnd (.const (.bool false)) 6 3,
  .reg (.q (some 4) none (.mov (.const (.int .u64 0))) (.q (some 5) none (.mov (.const (.int .u64 0))) .done)) false 7 [0, 1]
  ]
theorem c25_ok : cfgL Tryd.prog 25 = some (30, 8, c25.map Vc.Node.bare) := by kernel_rfl
/- strings.HasPrefix: entry 3 -/
def c26 : List Vc.Node := [
  .ret [.t 4],
  .ret [.t 4],
  .reg (.q (some 5) none (.mov (.tmp 0)) (.q (some 6) none (.mov (.tmp 1)) (.l (some 7) none (.call 43 [(.tmp 5), (.tmp 6)]) [] (.q (some 4) none (.mov (.tmp 7)) .done)))) false 1 [4],
  .reg (.q (some 4) none (.mov (.const (.bool false))) .done) false 2 [0, 1]
  ]
theorem c26_ok : cfgL Tryd.prog 26 = some (8, 3, c26.map Vc.Node.bare) := by kernel_rfl
/- (*strings.Builder).Grow: entry 7 -/
def c27 : List Vc.Node := [
  .ret [],
  .reg (.q (some 22) none (.mov (.tmp 0)) (.q (some 23) none (.mov (.tmp 1)) (.l (some 24) none (.call 45 [(.tmp 22), (.tmp 23)]) [] .done))) false 0 [],
  .cnd (.tmp 21) 1 0,
  .reg (.q (some 9) none (.mov (.tmp 0)) (.q (some 10) none (.nc (.tmp 9)) (.q (some 11) none (.fadr 1 (.tmp 10)) (.q (some 12) none (.ld1 (.tmp 11)) (.q (some 13) none (.cap (.tmp 12)) (.q (some 14) none (.mov (.tmp 0)) (.q (some 15) none (.nc (.tmp 14)) (.q (some 16) none (.fadr 1 (.tmp 15)) (.q (some 17) none (.ld1 (.tmp 16)) (.q (some 18) none (.len (.tmp 17)) (.q (some 19) none (.bin .sub (.tmp 13) (.tmp 18)) (.q (some 20) none (.mov (.tmp 1)) (.q (some 21) none (.bin .lss (.tmp 19) (.tmp 20)) .done))))))))))))) true 2 [0, 1, 21],
  .reg (.q (some 8) none (.mif 9 (.const (.string ⟨#[115, 116, 114, 105, 110, 103, 115, 46, 66, 117, 105, 108, 100, 101, 114, 46, 71, 114, 111, 119, 58, 32, 110, 101, 103, 97, 116, 105, 118, 101, 32, 99, 111, 117, 110, 116]⟩))) (.l none none (.pan (.tmp 8)) [] .done)) false 3 [0, 1],
  .cnd (.tmp 7) 4 3,
  .reg (.q (some 6) none (.mov (.tmp 1)) (.q (some 7) none (.bin .lss (.tmp 6) (.const (.int .i64 0))) .done)) false 5 [0, 1, 7],
  .reg (.q (some 4) none (.mov (.tmp 0)) (.l (some 5) none (.call 44 [(.tmp 4)]) [] .done)) false 6 [0, 1]
  ]
theorem c27_ok : cfgL Tryd.prog 27 = some (25, 7, c27.map Vc.Node.bare) := by kernel_rfl
/- (*strings.Builder).WriteString: entry 5 -/
def c28 : List Vc.Node := [
  .ret [.t 4, .t 5],
  .ret [.t 4, .t 5],
  .reg (.q (some 17) none (.mov (.tmp 1)) (.q (some 18) none (.lenT (.tmp 17)) (.q (some 4) none (.mov (.tmp 18)) (.q (some 5) none (.mov (.const .nilIface)) .done)))) false 1 [4, 5],
  .reg (.q (some 8) none (.mov (.tmp 0)) (.q (some 9) none (.mov (.tmp 0)) (.q (some 10) none (.nc (.tmp 9)) (.q (some 11) none (.fadr 1 (.tmp 10)) (.q (some 12) none (.ld1 (.tmp 11)) (.q (some 13) none (.mov (.tmp 1)) (.l (some 14) none (.bix .append [53, 9] 53 [false, false] [(.tmp 12), (.tmp 13)]) [] (.q (some 15) none (.nc (.tmp 8)) (.q (some 16) none (.fadr 1 (.tmp 15)) (.l none none (.st1 (.tmp 16) (.tmp 14)) [] .done)))))))))) false 2 [1],
  .reg (.q (some 6) none (.mov (.tmp 0)) (.l (some 7) none (.call 44 [(.tmp 6)]) [] .done)) false 3 [0, 1],
  .reg (.q (some 4) none (.mov (.const (.int .i64 0))) (.q (some 5) none (.mov (.const .nilIface)) .done)) false 4 [0, 1]
  ]
theorem c28_ok : cfgL Tryd.prog 28 = some (19, 5, c28.map Vc.Node.bare) := by kernel_rfl
/- (*strings.Builder).Len: entry 3 -/
def c29 : List Vc.Node := [
  .ret [.t 2],
  .ret [.t 2],
  .reg (.q (some 3) none (.mov (.tmp 0)) (.q (some 4) none (.nc (.tmp 3)) (.q (some 5) none (.fadr 1 (.tmp 4)) (.q (some 6) none (.ld1 (.tmp 5)) (.q (some 7) none (.len (.tmp 6)) (.q (some 2) none (.mov (.tmp 7)) .done)))))) false 1 [2],
  .reg (.q (some 2) none (.mov (.const (.int .i64 0))) .done) false 2 [0]
  ]
theorem c29_ok : cfgL Tryd.prog 29 = some (8, 3, c29.map Vc.Node.bare) := by kernel_rfl
/- (*strings.Builder).String: entry 3 -/
def c30 : List Vc.Node := [
  .ret [.t 2],
  .ret [.t 2],
  .reg (.q (some 3) none (.mov (.tmp 0)) (.q (some 4) none (.nc (.tmp 3)) (.q (some 5) none (.fadr 1 (.tmp 4)) (.q (some 6) none (.ld1 (.tmp 5)) (.q (some 8) none (.mov (.tmp 0)) (.q (some 9) none (.nc (.tmp 8)) (.q (some 10) none (.fadr 1 (.tmp 9)) (.q (some 11) none (.ld1 (.tmp 10)) (.q (some 12) none (.len (.tmp 11)) (.l (some 7) none (.bix .unsafeSliceData [53] 80 [false] [(.tmp 6)]) [⟨11, none, (.ld1 (.tmp 10))⟩] (.l (some 13) none (.bix .unsafeString [80, 3] 9 [false, false] [(.tmp 7), (.tmp 12)]) [] (.q (some 2) none (.mov (.tmp 13)) .done)))))))))))) true 1 [2],
  .reg (.q (some 2) none (.mov (.const (.string ⟨#[]⟩))) .done) false 2 [0]
  ]
theorem c30_ok : cfgL Tryd.prog 30 = some (14, 3, c30.map Vc.Node.bare) := by kernel_rfl
/- internal/strconv.small: entry 7 -/
def c31 : List Vc.Node := [
  .ret [.t 2],
  .ret [.t 2],
  .reg (.q (some 9) none (.mov (.tmp 0)) (.q (some 10) none (.bin .mul (.tmp 9) (.const (.int .i64 2))) (.q (some 11) none (.mov (.tmp 0)) (.q (some 12) none (.bin .mul (.tmp 11) (.const (.int .i64 2))) (.q (some 13) none (.bin .add (.tmp 12) (.const (.int .i64 2))) (.q (some 14) none (.slcT (.const (.string ⟨#[48, 48, 48, 49, 48, 50, 48, 51, 48, 52, 48, 53, 48, 54, 48, 55, 48, 56, 48, 57, 49, 48, 49, 49, 49, 50, 49, 51, 49, 52, 49, 53, 49, 54, 49, 55, 49, 56, 49, 57, 50, 48, 50, 49, 50, 50, 50, 51, 50, 52, 50, 53, 50, 54, 50, 55, 50, 56, 50, 57, 51, 48, 51, 49, 51, 50, 51, 51, 51, 52, 51, 53, 51, 54, 51, 55, 51, 56, 51, 57, 52, 48, 52, 49, 52, 50, 52, 51, 52, 52, 52, 53, 52, 54, 52, 55, 52, 56, 52, 57, 53, 48, 53, 49, 53, 50, 53, 51, 53, 52, 53, 53, 53, 54, 53, 55, 53, 56, 53, 57, 54, 48, 54, 49, 54, 50, 54, 51, 54, 52, 54, 53, 54, 54, 54, 55, 54, 56, 54, 57, 55, 48, 55, 49, 55, 50, 55, 51, 55, 52, 55, 53, 55, 54, 55, 55, 55, 56, 55, 57, 56, 48, 56, 49, 56, 50, 56, 51, 56, 52, 56, 53, 56, 54, 56, 55, 56, 56, 56, 57, 57, 48, 57, 49, 57, 50, 57, 51, 57, 52, 57, 53, 57, 54, 57, 55, 57, 56, 57, 57]⟩)) (some (.tmp 10)) (some (.tmp 13))) (.q (some 2) none (.mov (.tmp 14)) .done))))))) false 1 [2],
  .ret [.t 2],
  .reg (.q (some 5) none (.mov (.tmp 0)) (.q (some 6) none (.mov (.tmp 0)) (.q (some 7) none (.bin .add (.tmp 6) (.const (.int .i64 1))) (.q (some 8) none (.slcT (.const (.string ⟨#[48, 49, 50, 51, 52, 53, 54, 55, 56, 57, 97, 98, 99, 100, 101, 102, 103, 104, 105, 106, 107, 108, 109, 110, 111, 112, 113, 114, 115, 116, 117, 118, 119, 120, 121, 122]⟩)) (some (.tmp 5)) (some (.tmp 7))) (.q (some 2) none (.mov (.tmp 8)) .done))))) false 3 [2],
  .cnd (.tmp 4) 4 2,
  .reg (.q (some 3) none (.mov (.tmp 0)) (.q (some 4) none (.bin .lss (.tmp 3) (.const (.int .i64 10))) .done)) false 5 [0, 4],
  .reg (.q (some 2) none (.mov (.const (.string ⟨#[]⟩))) .done) false 6 [0]
  ]
theorem c31_ok : cfgL Tryd.prog 31 = some (15, 7, c31.map Vc.Node.bare) := by kernel_rfl
/- internal/strconv.numDigits: entry 4 -/
def c32 : List Vc.Node := [
  .ret [.t 2],
  .ret [.t 2],
  .reg (.q (some 7) none (.mov (.tmp 3)) (.q (some 8) none (.mov (.tmp 0)) (.q (some 9) none (.mov (.tmp 3)) (.q (some 10) none (.iadrA 20 1 (.global 0) (.tmp 9)) (.q (some 11) none (.ld1 (.tmp 10)) (.q (some 12) none (.bin .geq (.tmp 8) (.tmp 11)) (.l (some 13) none (.call 48 [(.tmp 12)]) [] (.q (some 14) none (.bin .add (.tmp 7) (.tmp 13)) (.q (some 2) none (.mov (.tmp 14)) .done))))))))) false 1 [2],
  .reg (.q (some 4) none (.mov (.tmp 0)) (.l (some 5) none (.call 47 [(.tmp 4)]) [] (.l (some 6) none (.call 46 [(.tmp 5)]) [] (.q (some 3) none (.mov (.tmp 6)) .done)))) false 2 [0, 3],
  .reg (.q (some 2) none (.mov (.const (.int .i64 0))) .done) false 3 [0]
  ]
theorem c32_ok : cfgL Tryd.prog 32 = some (15, 4, c32.map Vc.Node.bare) := by kernel_rfl
/- internal/strconv.formatBase10: entry 32 -/
def c33 : List Vc.Node := [
  .ret [],
  .reg (.q (some 162) none (.mov (.tmp 0)) (.q (some 163) none (.mov (.tmp 12)) (.q (some 164) none (.bin .add (.const (.int .u32 48)) (.tmp 163)) (.q (some 165) none (.cvi .u8 (.tmp 164)) (.q (some 166) none (.iadrS 1 (.tmp 162) (.const (.int .i64 0))) (.l none none (.st1 (.tmp 166) (.tmp 165)) [] .done)))))) false 0 [],
  .cnd (.tmp 161) 1 0,
  .reg (.q (some 160) none (.mov (.tmp 4)) (.q (some 161) none (.bin .gtr (.tmp 160) (.const (.int .i64 0))) .done)) false 2 [0, 12, 161],
  .reg (.q (some 158) none (.mov (.tmp 4)) (.q (some 159) none (.bin .sub (.tmp 158) (.const (.int .i64 2))) (.q (some 4) none (.mov (.tmp 159)) .done))) false 3 [0, 4, 12],
  .reg (.q (some 145) none (.mov (.tmp 0)) (.q (some 146) none (.mov (.tmp 4)) (.q (some 147) none (.bin .sub (.tmp 146) (.const (.int .i64 1))) (.q (some 148) none (.mov (.tmp 0)) (.q (some 149) none (.mov (.tmp 4)) (.q (some 150) none (.bin .sub (.tmp 149) (.const (.int .i64 2))) (.q (some 151) none (.mov (.tmp 16)) (.q (some 152) none (.bin .add (.tmp 151) (.const (.int .u32 1))) (.q (some 153) none (.idxS (.const (.string ⟨#[48, 48, 48, 49, 48, 50, 48, 51, 48, 52, 48, 53, 48, 54, 48, 55, 48, 56, 48, 57, 49, 48, 49, 49, 49, 50, 49, 51, 49, 52, 49, 53, 49, 54, 49, 55, 49, 56, 49, 57, 50, 48, 50, 49, 50, 50, 50, 51, 50, 52, 50, 53, 50, 54, 50, 55, 50, 56, 50, 57, 51, 48, 51, 49, 51, 50, 51, 51, 51, 52, 51, 53, 51, 54, 51, 55, 51, 56, 51, 57, 52, 48, 52, 49, 52, 50, 52, 51, 52, 52, 52, 53, 52, 54, 52, 55, 52, 56, 52, 57, 53, 48, 53, 49, 53, 50, 53, 51, 53, 52, 53, 53, 53, 54, 53, 55, 53, 56, 53, 57, 54, 48, 54, 49, 54, 50, 54, 51, 54, 52, 54, 53, 54, 54, 54, 55, 54, 56, 54, 57, 55, 48, 55, 49, 55, 50, 55, 51, 55, 52, 55, 53, 55, 54, 55, 55, 55, 56, 55, 57, 56, 48, 56, 49, 56, 50, 56, 51, 56, 52, 56, 53, 56, 54, 56, 55, 56, 56, 56, 57, 57, 48, 57, 49, 57, 50, 57, 51, 57, 52, 57, 53, 57, 54, 57, 55, 57, 56, 57, 57]⟩)) (.tmp 152)) (.q (some 154) none (.mov (.tmp 16)) (.q (some 155) none (.idxS (.const (.string ⟨#[48, 48, 48, 49, 48, 50, 48, 51, 48, 52, 48, 53, 48, 54, 48, 55, 48, 56, 48, 57, 49, 48, 49, 49, 49, 50, 49, 51, 49, 52, 49, 53, 49, 54, 49, 55, 49, 56, 49, 57, 50, 48, 50, 49, 50, 50, 50, 51, 50, 52, 50, 53, 50, 54, 50, 55, 50, 56, 50, 57, 51, 48, 51, 49, 51, 50, 51, 51, 51, 52, 51, 53, 51, 54, 51, 55, 51, 56, 51, 57, 52, 48, 52, 49, 52, 50, 52, 51, 52, 52, 52, 53, 52, 54, 52, 55, 52, 56, 52, 57, 53, 48, 53, 49, 53, 50, 53, 51, 53, 52, 53, 53, 53, 54, 53, 55, 53, 56, 53, 57, 54, 48, 54, 49, 54, 50, 54, 51, 54, 52, 54, 53, 54, 54, 54, 55, 54, 56, 54, 57, 55, 48, 55, 49, 55, 50, 55, 51, 55, 52, 55, 53, 55, 54, 55, 55, 55, 56, 55, 57, 56, 48, 56, 49, 56, 50, 56, 51, 56, 52, 56, 53, 56, 54, 56, 55, 56, 56, 56, 57, 57, 48, 57, 49, 57, 50, 57, 51, 57, 52, 57, 53, 57, 54, 57, 55, 57, 56, 57, 57]⟩)) (.tmp 154)) (.q (some 156) none (.iadrS 1 (.tmp 145) (.tmp 147)) (.l none none (.st1 (.tmp 156) (.tmp 153)) [] (.q (some 157) none (.iadrS 1 (.tmp 148) (.tmp 150)) (.l none none (.st1 (.tmp 157) (.tmp 155)) [] .done))))))))))))))) true 4 [0, 4, 12],
  .reg (.q (some 143) none (.mov (.tmp 12)) (.q (some 144) none (.bin .quo (.tmp 143) (.const (.int .u32 100))) (.q (some 12) none (.mov (.tmp 144)) .done))) false 5 [0, 4, 12, 16],
  .reg (.q (some 140) none (.mov (.tmp 12)) (.q (some 141) none (.bin .rem (.tmp 140) (.const (.int .u32 100))) (.q (some 142) none (.bin .mul (.tmp 141) (.const (.int .u32 2))) (.q (some 16) none (.mov (.tmp 142)) .done)))) false 6 [0, 4, 12, 16],
  .cnd (.tmp 139) 7 3,
  .reg (.q (some 138) none (.mov (.tmp 4)) (.q (some 139) none (.bin .geq (.tmp 138) (.const (.int .i64 2))) .done)) false 8 [0, 4, 12, 139],
  .reg (.q (some 136) none (.mov (.tmp 4)) (.q (some 137) none (.bin .sub (.tmp 136) (.const (.int .i64 4))) (.q (some 4) none (.mov (.tmp 137)) .done))) false 9 [0, 4, 12],
  .reg (.q (some 123) none (.mov (.tmp 0)) (.q (some 124) none (.mov (.tmp 4)) (.q (some 125) none (.bin .sub (.tmp 124) (.const (.int .i64 3))) (.q (some 126) none (.mov (.tmp 0)) (.q (some 127) none (.mov (.tmp 4)) (.q (some 128) none (.bin .sub (.tmp 127) (.const (.int .i64 4))) (.q (some 129) none (.mov (.tmp 14)) (.q (some 130) none (.bin .add (.tmp 129) (.const (.int .u32 1))) (.q (some 131) none (.idxS (.const (.string ⟨#[48, 48, 48, 49, 48, 50, 48, 51, 48, 52, 48, 53, 48, 54, 48, 55, 48, 56, 48, 57, 49, 48, 49, 49, 49, 50, 49, 51, 49, 52, 49, 53, 49, 54, 49, 55, 49, 56, 49, 57, 50, 48, 50, 49, 50, 50, 50, 51, 50, 52, 50, 53, 50, 54, 50, 55, 50, 56, 50, 57, 51, 48, 51, 49, 51, 50, 51, 51, 51, 52, 51, 53, 51, 54, 51, 55, 51, 56, 51, 57, 52, 48, 52, 49, 52, 50, 52, 51, 52, 52, 52, 53, 52, 54, 52, 55, 52, 56, 52, 57, 53, 48, 53, 49, 53, 50, 53, 51, 53, 52, 53, 53, 53, 54, 53, 55, 53, 56, 53, 57, 54, 48, 54, 49, 54, 50, 54, 51, 54, 52, 54, 53, 54, 54, 54, 55, 54, 56, 54, 57, 55, 48, 55, 49, 55, 50, 55, 51, 55, 52, 55, 53, 55, 54, 55, 55, 55, 56, 55, 57, 56, 48, 56, 49, 56, 50, 56, 51, 56, 52, 56, 53, 56, 54, 56, 55, 56, 56, 56, 57, 57, 48, 57, 49, 57, 50, 57, 51, 57, 52, 57, 53, 57, 54, 57, 55, 57, 56, 57, 57]⟩)) (.tmp 130)) (.q (some 132) none (.mov (.tmp 14)) (.q (some 133) none (.idxS (.const (.string ⟨#[48, 48, 48, 49, 48, 50, 48, 51, 48, 52, 48, 53, 48, 54, 48, 55, 48, 56, 48, 57, 49, 48, 49, 49, 49, 50, 49, 51, 49, 52, 49, 53, 49, 54, 49, 55, 49, 56, 49, 57, 50, 48, 50, 49, 50, 50, 50, 51, 50, 52, 50, 53, 50, 54, 50, 55, 50, 56, 50, 57, 51, 48, 51, 49, 51, 50, 51, 51, 51, 52, 51, 53, 51, 54, 51, 55, 51, 56, 51, 57, 52, 48, 52, 49, 52, 50, 52, 51, 52, 52, 52, 53, 52, 54, 52, 55, 52, 56, 52, 57, 53, 48, 53, 49, 53, 50, 53, 51, 53, 52, 53, 53, 53, 54, 53, 55, 53, 56, 53, 57, 54, 48, 54, 49, 54, 50, 54, 51, 54, 52, 54, 53, 54, 54, 54, 55, 54, 56, 54, 57, 55, 48, 55, 49, 55, 50, 55, 51, 55, 52, 55, 53, 55, 54, 55, 55, 55, 56, 55, 57, 56, 48, 56, 49, 56, 50, 56, 51, 56, 52, 56, 53, 56, 54, 56, 55, 56, 56, 56, 57, 57, 48, 57, 49, 57, 50, 57, 51, 57, 52, 57, 53, 57, 54, 57, 55, 57, 56, 57, 57]⟩)) (.tmp 132)) (.q (some 134) none (.iadrS 1 (.tmp 123) (.tmp 125)) (.l none none (.st1 (.tmp 134) (.tmp 131)) [] (.q (some 135) none (.iadrS 1 (.tmp 126) (.tmp 128)) (.l none none (.st1 (.tmp 135) (.tmp 133)) [] .done))))))))))))))) true 10 [0, 4, 12],
  .reg (.q (some 110) none (.mov (.tmp 0)) (.q (some 111) none (.mov (.tmp 4)) (.q (some 112) none (.bin .sub (.tmp 111) (.const (.int .i64 1))) (.q (some 113) none (.mov (.tmp 0)) (.q (some 114) none (.mov (.tmp 4)) (.q (some 115) none (.bin .sub (.tmp 114) (.const (.int .i64 2))) (.q (some 116) none (.mov (.tmp 15)) (.q (some 117) none (.bin .add (.tmp 116) (.const (.int .u32 1))) (.q (some 118) none (.idxS (.const (.string ⟨#[48, 48, 48, 49, 48, 50, 48, 51, 48, 52, 48, 53, 48, 54, 48, 55, 48, 56, 48, 57, 49, 48, 49, 49, 49, 50, 49, 51, 49, 52, 49, 53, 49, 54, 49, 55, 49, 56, 49, 57, 50, 48, 50, 49, 50, 50, 50, 51, 50, 52, 50, 53, 50, 54, 50, 55, 50, 56, 50, 57, 51, 48, 51, 49, 51, 50, 51, 51, 51, 52, 51, 53, 51, 54, 51, 55, 51, 56, 51, 57, 52, 48, 52, 49, 52, 50, 52, 51, 52, 52, 52, 53, 52, 54, 52, 55, 52, 56, 52, 57, 53, 48, 53, 49, 53, 50, 53, 51, 53, 52, 53, 53, 53, 54, 53, 55, 53, 56, 53, 57, 54, 48, 54, 49, 54, 50, 54, 51, 54, 52, 54, 53, 54, 54, 54, 55, 54, 56, 54, 57, 55, 48, 55, 49, 55, 50, 55, 51, 55, 52, 55, 53, 55, 54, 55, 55, 55, 56, 55, 57, 56, 48, 56, 49, 56, 50, 56, 51, 56, 52, 56, 53, 56, 54, 56, 55, 56, 56, 56, 57, 57, 48, 57, 49, 57, 50, 57, 51, 57, 52, 57, 53, 57, 54, 57, 55, 57, 56, 57, 57]⟩)) (.tmp 117)) (.q (some 119) none (.mov (.tmp 15)) (.q (some 120) none (.idxS (.const (.string ⟨#[48, 48, 48, 49, 48, 50, 48, 51, 48, 52, 48, 53, 48, 54, 48, 55, 48, 56, 48, 57, 49, 48, 49, 49, 49, 50, 49, 51, 49, 52, 49, 53, 49, 54, 49, 55, 49, 56, 49, 57, 50, 48, 50, 49, 50, 50, 50, 51, 50, 52, 50, 53, 50, 54, 50, 55, 50, 56, 50, 57, 51, 48, 51, 49, 51, 50, 51, 51, 51, 52, 51, 53, 51, 54, 51, 55, 51, 56, 51, 57, 52, 48, 52, 49, 52, 50, 52, 51, 52, 52, 52, 53, 52, 54, 52, 55, 52, 56, 52, 57, 53, 48, 53, 49, 53, 50, 53, 51, 53, 52, 53, 53, 53, 54, 53, 55, 53, 56, 53, 57, 54, 48, 54, 49, 54, 50, 54, 51, 54, 52, 54, 53, 54, 54, 54, 55, 54, 56, 54, 57, 55, 48, 55, 49, 55, 50, 55, 51, 55, 52, 55, 53, 55, 54, 55, 55, 55, 56, 55, 57, 56, 48, 56, 49, 56, 50, 56, 51, 56, 52, 56, 53, 56, 54, 56, 55, 56, 56, 56, 57, 57, 48, 57, 49, 57, 50, 57, 51, 57, 52, 57, 53, 57, 54, 57, 55, 57, 56, 57, 57]⟩)) (.tmp 119)) (.q (some 121) none (.iadrS 1 (.tmp 110) (.tmp 112)) (.l none none (.st1 (.tmp 121) (.tmp 118)) [] (.q (some 122) none (.iadrS 1 (.tmp 113) (.tmp 115)) (.l none none (.st1 (.tmp 122) (.tmp 120)) [] .done))))))))))))))) true 11 [0, 4, 12, 14],
  .reg (.q (some 104) none (.mov (.tmp 13)) (.q (some 105) none (.bin .quo (.tmp 104) (.const (.int .u32 100))) (.q (some 106) none (.bin .mul (.tmp 105) (.const (.int .u32 2))) (.q (some 107) none (.mov (.tmp 13)) (.q (some 108) none (.bin .rem (.tmp 107) (.const (.int .u32 100))) (.q (some 109) none (.bin .mul (.tmp 108) (.const (.int .u32 2))) (.q (some 14) none (.mov (.tmp 106)) (.q (some 15) none (.mov (.tmp 109)) .done)))))))) false 12 [0, 4, 12, 14, 15],
  .reg (.q (some 102) none (.mov (.tmp 12)) (.q (some 103) none (.bin .quo (.tmp 102) (.const (.int .u32 10000))) (.q (some 12) none (.mov (.tmp 103)) .done))) false 13 [0, 4, 12, 13],
  .reg (.q (some 100) none (.mov (.tmp 12)) (.q (some 101) none (.bin .rem (.tmp 100) (.const (.int .u32 10000))) (.q (some 13) none (.mov (.tmp 101)) .done))) false 14 [0, 4, 12, 13],
  .cnd (.tmp 99) 15 9,
  .reg (.q (some 98) none (.mov (.tmp 4)) (.q (some 99) none (.bin .geq (.tmp 98) (.const (.int .i64 4))) .done)) false 16 [0, 4, 12, 99],
  .reg (.q (some 96) none (.mov (.tmp 1)) (.q (some 97) none (.cvi .u32 (.tmp 96)) (.q (some 12) none (.mov (.tmp 97)) .done))) false 17 [0, 4, 12],
  .jmp 31,
  .reg (.q (some 94) none (.mov (.tmp 4)) (.q (some 95) none (.bin .sub (.tmp 94) (.const (.int .i64 8))) (.q (some 4) none (.mov (.tmp 95)) .done))) false 19 [0, 1, 4],
  .reg (.q (some 81) none (.mov (.tmp 0)) (.q (some 82) none (.mov (.tmp 4)) (.q (some 83) none (.bin .sub (.tmp 82) (.const (.int .i64 7))) (.q (some 84) none (.mov (.tmp 0)) (.q (some 85) none (.mov (.tmp 4)) (.q (some 86) none (.bin .sub (.tmp 85) (.const (.int .i64 8))) (.q (some 87) none (.mov (.tmp 10)) (.q (some 88) none (.bin .add (.tmp 87) (.const (.int .u32 1))) (.q (some 89) none (.idxS (.const (.string ⟨#[48, 48, 48, 49, 48, 50, 48, 51, 48, 52, 48, 53, 48, 54, 48, 55, 48, 56, 48, 57, 49, 48, 49, 49, 49, 50, 49, 51, 49, 52, 49, 53, 49, 54, 49, 55, 49, 56, 49, 57, 50, 48, 50, 49, 50, 50, 50, 51, 50, 52, 50, 53, 50, 54, 50, 55, 50, 56, 50, 57, 51, 48, 51, 49, 51, 50, 51, 51, 51, 52, 51, 53, 51, 54, 51, 55, 51, 56, 51, 57, 52, 48, 52, 49, 52, 50, 52, 51, 52, 52, 52, 53, 52, 54, 52, 55, 52, 56, 52, 57, 53, 48, 53, 49, 53, 50, 53, 51, 53, 52, 53, 53, 53, 54, 53, 55, 53, 56, 53, 57, 54, 48, 54, 49, 54, 50, 54, 51, 54, 52, 54, 53, 54, 54, 54, 55, 54, 56, 54, 57, 55, 48, 55, 49, 55, 50, 55, 51, 55, 52, 55, 53, 55, 54, 55, 55, 55, 56, 55, 57, 56, 48, 56, 49, 56, 50, 56, 51, 56, 52, 56, 53, 56, 54, 56, 55, 56, 56, 56, 57, 57, 48, 57, 49, 57, 50, 57, 51, 57, 52, 57, 53, 57, 54, 57, 55, 57, 56, 57, 57]⟩)) (.tmp 88)) (.q (some 90) none (.mov (.tmp 10)) (.q (some 91) none (.idxS (.const (.string ⟨#[48, 48, 48, 49, 48, 50, 48, 51, 48, 52, 48, 53, 48, 54, 48, 55, 48, 56, 48, 57, 49, 48, 49, 49, 49, 50, 49, 51, 49, 52, 49, 53, 49, 54, 49, 55, 49, 56, 49, 57, 50, 48, 50, 49, 50, 50, 50, 51, 50, 52, 50, 53, 50, 54, 50, 55, 50, 56, 50, 57, 51, 48, 51, 49, 51, 50, 51, 51, 51, 52, 51, 53, 51, 54, 51, 55, 51, 56, 51, 57, 52, 48, 52, 49, 52, 50, 52, 51, 52, 52, 52, 53, 52, 54, 52, 55, 52, 56, 52, 57, 53, 48, 53, 49, 53, 50, 53, 51, 53, 52, 53, 53, 53, 54, 53, 55, 53, 56, 53, 57, 54, 48, 54, 49, 54, 50, 54, 51, 54, 52, 54, 53, 54, 54, 54, 55, 54, 56, 54, 57, 55, 48, 55, 49, 55, 50, 55, 51, 55, 52, 55, 53, 55, 54, 55, 55, 55, 56, 55, 57, 56, 48, 56, 49, 56, 50, 56, 51, 56, 52, 56, 53, 56, 54, 56, 55, 56, 56, 56, 57, 57, 48, 57, 49, 57, 50, 57, 51, 57, 52, 57, 53, 57, 54, 57, 55, 57, 56, 57, 57]⟩)) (.tmp 90)) (.q (some 92) none (.iadrS 1 (.tmp 81) (.tmp 83)) (.l none none (.st1 (.tmp 92) (.tmp 89)) [] (.q (some 93) none (.iadrS 1 (.tmp 84) (.tmp 86)) (.l none none (.st1 (.tmp 93) (.tmp 91)) [] .done))))))))))))))) true 20 [0, 1, 4],
  .reg (.q (some 68) none (.mov (.tmp 0)) (.q (some 69) none (.mov (.tmp 4)) (.q (some 70) none (.bin .sub (.tmp 69) (.const (.int .i64 5))) (.q (some 71) none (.mov (.tmp 0)) (.q (some 72) none (.mov (.tmp 4)) (.q (some 73) none (.bin .sub (.tmp 72) (.const (.int .i64 6))) (.q (some 74) none (.mov (.tmp 11)) (.q (some 75) none (.bin .add (.tmp 74) (.const (.int .u32 1))) (.q (some 76) none (.idxS (.const (.string ⟨#[48, 48, 48, 49, 48, 50, 48, 51, 48, 52, 48, 53, 48, 54, 48, 55, 48, 56, 48, 57, 49, 48, 49, 49, 49, 50, 49, 51, 49, 52, 49, 53, 49, 54, 49, 55, 49, 56, 49, 57, 50, 48, 50, 49, 50, 50, 50, 51, 50, 52, 50, 53, 50, 54, 50, 55, 50, 56, 50, 57, 51, 48, 51, 49, 51, 50, 51, 51, 51, 52, 51, 53, 51, 54, 51, 55, 51, 56, 51, 57, 52, 48, 52, 49, 52, 50, 52, 51, 52, 52, 52, 53, 52, 54, 52, 55, 52, 56, 52, 57, 53, 48, 53, 49, 53, 50, 53, 51, 53, 52, 53, 53, 53, 54, 53, 55, 53, 56, 53, 57, 54, 48, 54, 49, 54, 50, 54, 51, 54, 52, 54, 53, 54, 54, 54, 55, 54, 56, 54, 57, 55, 48, 55, 49, 55, 50, 55, 51, 55, 52, 55, 53, 55, 54, 55, 55, 55, 56, 55, 57, 56, 48, 56, 49, 56, 50, 56, 51, 56, 52, 56, 53, 56, 54, 56, 55, 56, 56, 56, 57, 57, 48, 57, 49, 57, 50, 57, 51, 57, 52, 57, 53, 57, 54, 57, 55, 57, 56, 57, 57]⟩)) (.tmp 75)) (.q (some 77) none (.mov (.tmp 11)) (.q (some 78) none (.idxS (.const (.string ⟨#[48, 48, 48, 49, 48, 50, 48, 51, 48, 52, 48, 53, 48, 54, 48, 55, 48, 56, 48, 57, 49, 48, 49, 49, 49, 50, 49, 51, 49, 52, 49, 53, 49, 54, 49, 55, 49, 56, 49, 57, 50, 48, 50, 49, 50, 50, 50, 51, 50, 52, 50, 53, 50, 54, 50, 55, 50, 56, 50, 57, 51, 48, 51, 49, 51, 50, 51, 51, 51, 52, 51, 53, 51, 54, 51, 55, 51, 56, 51, 57, 52, 48, 52, 49, 52, 50, 52, 51, 52, 52, 52, 53, 52, 54, 52, 55, 52, 56, 52, 57, 53, 48, 53, 49, 53, 50, 53, 51, 53, 52, 53, 53, 53, 54, 53, 55, 53, 56, 53, 57, 54, 48, 54, 49, 54, 50, 54, 51, 54, 52, 54, 53, 54, 54, 54, 55, 54, 56, 54, 57, 55, 48, 55, 49, 55, 50, 55, 51, 55, 52, 55, 53, 55, 54, 55, 55, 55, 56, 55, 57, 56, 48, 56, 49, 56, 50, 56, 51, 56, 52, 56, 53, 56, 54, 56, 55, 56, 56, 56, 57, 57, 48, 57, 49, 57, 50, 57, 51, 57, 52, 57, 53, 57, 54, 57, 55, 57, 56, 57, 57]⟩)) (.tmp 77)) (.q (some 79) none (.iadrS 1 (.tmp 68) (.tmp 70)) (.l none none (.st1 (.tmp 79) (.tmp 76)) [] (.q (some 80) none (.iadrS 1 (.tmp 71) (.tmp 73)) (.l none none (.st1 (.tmp 80) (.tmp 78)) [] .done))))))))))))))) true 21 [0, 1, 4, 10],
  .reg (.q (some 55) none (.mov (.tmp 0)) (.q (some 56) none (.mov (.tmp 4)) (.q (some 57) none (.bin .sub (.tmp 56) (.const (.int .i64 3))) (.q (some 58) none (.mov (.tmp 0)) (.q (some 59) none (.mov (.tmp 4)) (.q (some 60) none (.bin .sub (.tmp 59) (.const (.int .i64 4))) (.q (some 61) none (.mov (.tmp 8)) (.q (some 62) none (.bin .add (.tmp 61) (.const (.int .u32 1))) (.q (some 63) none (.idxS (.const (.string ⟨#[48, 48, 48, 49, 48, 50, 48, 51, 48, 52, 48, 53, 48, 54, 48, 55, 48, 56, 48, 57, 49, 48, 49, 49, 49, 50, 49, 51, 49, 52, 49, 53, 49, 54, 49, 55, 49, 56, 49, 57, 50, 48, 50, 49, 50, 50, 50, 51, 50, 52, 50, 53, 50, 54, 50, 55, 50, 56, 50, 57, 51, 48, 51, 49, 51, 50, 51, 51, 51, 52, 51, 53, 51, 54, 51, 55, 51, 56, 51, 57, 52, 48, 52, 49, 52, 50, 52, 51, 52, 52, 52, 53, 52, 54, 52, 55, 52, 56, 52, 57, 53, 48, 53, 49, 53, 50, 53, 51, 53, 52, 53, 53, 53, 54, 53, 55, 53, 56, 53, 57, 54, 48, 54, 49, 54, 50, 54, 51, 54, 52, 54, 53, 54, 54, 54, 55, 54, 56, 54, 57, 55, 48, 55, 49, 55, 50, 55, 51, 55, 52, 55, 53, 55, 54, 55, 55, 55, 56, 55, 57, 56, 48, 56, 49, 56, 50, 56, 51, 56, 52, 56, 53, 56, 54, 56, 55, 56, 56, 56, 57, 57, 48, 57, 49, 57, 50, 57, 51, 57, 52, 57, 53, 57, 54, 57, 55, 57, 56, 57, 57]⟩)) (.tmp 62)) (.q (some 64) none (.mov (.tmp 8)) (.q (some 65) none (.idxS (.const (.string ⟨#[48, 48, 48, 49, 48, 50, 48, 51, 48, 52, 48, 53, 48, 54, 48, 55, 48, 56, 48, 57, 49, 48, 49, 49, 49, 50, 49, 51, 49, 52, 49, 53, 49, 54, 49, 55, 49, 56, 49, 57, 50, 48, 50, 49, 50, 50, 50, 51, 50, 52, 50, 53, 50, 54, 50, 55, 50, 56, 50, 57, 51, 48, 51, 49, 51, 50, 51, 51, 51, 52, 51, 53, 51, 54, 51, 55, 51, 56, 51, 57, 52, 48, 52, 49, 52, 50, 52, 51, 52, 52, 52, 53, 52, 54, 52, 55, 52, 56, 52, 57, 53, 48, 53, 49, 53, 50, 53, 51, 53, 52, 53, 53, 53, 54, 53, 55, 53, 56, 53, 57, 54, 48, 54, 49, 54, 50, 54, 51, 54, 52, 54, 53, 54, 54, 54, 55, 54, 56, 54, 57, 55, 48, 55, 49, 55, 50, 55, 51, 55, 52, 55, 53, 55, 54, 55, 55, 55, 56, 55, 57, 56, 48, 56, 49, 56, 50, 56, 51, 56, 52, 56, 53, 56, 54, 56, 55, 56, 56, 56, 57, 57, 48, 57, 49, 57, 50, 57, 51, 57, 52, 57, 53, 57, 54, 57, 55, 57, 56, 57, 57]⟩)) (.tmp 64)) (.q (some 66) none (.iadrS 1 (.tmp 55) (.tmp 57)) (.l none none (.st1 (.tmp 66) (.tmp 63)) [] (.q (some 67) none (.iadrS 1 (.tmp 58) (.tmp 60)) (.l none none (.st1 (.tmp 67) (.tmp 65)) [] .done))))))))))))))) true 22 [0, 1, 4, 10, 11],
  .reg (.q (some 42) none (.mov (.tmp 0)) (.q (some 43) none (.mov (.tmp 4)) (.q (some 44) none (.bin .sub (.tmp 43) (.const (.int .i64 1))) (.q (some 45) none (.mov (.tmp 0)) (.q (some 46) none (.mov (.tmp 4)) (.q (some 47) none (.bin .sub (.tmp 46) (.const (.int .i64 2))) (.q (some 48) none (.mov (.tmp 9)) (.q (some 49) none (.bin .add (.tmp 48) (.const (.int .u32 1))) (.q (some 50) none (.idxS (.const (.string ⟨#[48, 48, 48, 49, 48, 50, 48, 51, 48, 52, 48, 53, 48, 54, 48, 55, 48, 56, 48, 57, 49, 48, 49, 49, 49, 50, 49, 51, 49, 52, 49, 53, 49, 54, 49, 55, 49, 56, 49, 57, 50, 48, 50, 49, 50, 50, 50, 51, 50, 52, 50, 53, 50, 54, 50, 55, 50, 56, 50, 57, 51, 48, 51, 49, 51, 50, 51, 51, 51, 52, 51, 53, 51, 54, 51, 55, 51, 56, 51, 57, 52, 48, 52, 49, 52, 50, 52, 51, 52, 52, 52, 53, 52, 54, 52, 55, 52, 56, 52, 57, 53, 48, 53, 49, 53, 50, 53, 51, 53, 52, 53, 53, 53, 54, 53, 55, 53, 56, 53, 57, 54, 48, 54, 49, 54, 50, 54, 51, 54, 52, 54, 53, 54, 54, 54, 55, 54, 56, 54, 57, 55, 48, 55, 49, 55, 50, 55, 51, 55, 52, 55, 53, 55, 54, 55, 55, 55, 56, 55, 57, 56, 48, 56, 49, 56, 50, 56, 51, 56, 52, 56, 53, 56, 54, 56, 55, 56, 56, 56, 57, 57, 48, 57, 49, 57, 50, 57, 51, 57, 52, 57, 53, 57, 54, 57, 55, 57, 56, 57, 57]⟩)) (.tmp 49)) (.q (some 51) none (.mov (.tmp 9)) (.q (some 52) none (.idxS (.const (.string ⟨#[48, 48, 48, 49, 48, 50, 48, 51, 48, 52, 48, 53, 48, 54, 48, 55, 48, 56, 48, 57, 49, 48, 49, 49, 49, 50, 49, 51, 49, 52, 49, 53, 49, 54, 49, 55, 49, 56, 49, 57, 50, 48, 50, 49, 50, 50, 50, 51, 50, 52, 50, 53, 50, 54, 50, 55, 50, 56, 50, 57, 51, 48, 51, 49, 51, 50, 51, 51, 51, 52, 51, 53, 51, 54, 51, 55, 51, 56, 51, 57, 52, 48, 52, 49, 52, 50, 52, 51, 52, 52, 52, 53, 52, 54, 52, 55, 52, 56, 52, 57, 53, 48, 53, 49, 53, 50, 53, 51, 53, 52, 53, 53, 53, 54, 53, 55, 53, 56, 53, 57, 54, 48, 54, 49, 54, 50, 54, 51, 54, 52, 54, 53, 54, 54, 54, 55, 54, 56, 54, 57, 55, 48, 55, 49, 55, 50, 55, 51, 55, 52, 55, 53, 55, 54, 55, 55, 55, 56, 55, 57, 56, 48, 56, 49, 56, 50, 56, 51, 56, 52, 56, 53, 56, 54, 56, 55, 56, 56, 56, 57, 57, 48, 57, 49, 57, 50, 57, 51, 57, 52, 57, 53, 57, 54, 57, 55, 57, 56, 57, 57]⟩)) (.tmp 51)) (.q (some 53) none (.iadrS 1 (.tmp 42) (.tmp 44)) (.l none none (.st1 (.tmp 53) (.tmp 50)) [] (.q (some 54) none (.iadrS 1 (.tmp 45) (.tmp 47)) (.l none none (.st1 (.tmp 54) (.tmp 52)) [] .done))))))))))))))) true 23 [0, 1, 4, 8, 10, 11],
  .reg (.q (some 36) none (.mov (.tmp 6)) (.q (some 37) none (.bin .quo (.tmp 36) (.const (.int .u32 100))) (.q (some 38) none (.bin .mul (.tmp 37) (.const (.int .u32 2))) (.q (some 39) none (.mov (.tmp 6)) (.q (some 40) none (.bin .rem (.tmp 39) (.const (.int .u32 100))) (.q (some 41) none (.bin .mul (.tmp 40) (.const (.int .u32 2))) (.q (some 10) none (.mov (.tmp 38)) (.q (some 11) none (.mov (.tmp 41)) .done)))))))) false 24 [0, 1, 4, 8, 9, 10, 11],
  .reg (.q (some 30) none (.mov (.tmp 7)) (.q (some 31) none (.bin .quo (.tmp 30) (.const (.int .u32 100))) (.q (some 32) none (.bin .mul (.tmp 31) (.const (.int .u32 2))) (.q (some 33) none (.mov (.tmp 7)) (.q (some 34) none (.bin .rem (.tmp 33) (.const (.int .u32 100))) (.q (some 35) none (.bin .mul (.tmp 34) (.const (.int .u32 2))) (.q (some 8) none (.mov (.tmp 32)) (.q (some 9) none (.mov (.tmp 35)) .done)))))))) false 25 [0, 1, 4, 6, 8, 9],
  .reg (.q (some 26) none (.mov (.tmp 5)) (.q (some 27) none (.bin .quo (.tmp 26) (.const (.int .u32 10000))) (.q (some 28) none (.mov (.tmp 5)) (.q (some 29) none (.bin .rem (.tmp 28) (.const (.int .u32 10000))) (.q (some 6) none (.mov (.tmp 27)) (.q (some 7) none (.mov (.tmp 29)) .done)))))) false 26 [0, 1, 4, 6, 7],
  .reg (.q (some 24) none (.mov (.tmp 1)) (.q (some 25) none (.bin .quo (.tmp 24) (.const (.int .u64 100000000))) (.q (some 1) none (.mov (.tmp 25)) .done))) false 27 [0, 1, 4, 5],
  .reg (.q (some 21) none (.mov (.tmp 1)) (.q (some 22) none (.bin .rem (.tmp 21) (.const (.int .u64 100000000))) (.q (some 23) none (.cvi .u32 (.tmp 22)) (.q (some 5) none (.mov (.tmp 23)) .done)))) false 28 [0, 1, 4, 5],
  .cnd (.tmp 20) 29 18,
  .reg (.q (some 19) none (.mov (.tmp 4)) (.q (some 20) none (.bin .geq (.tmp 19) (.const (.int .i64 8))) .done)) false 30 [0, 1, 4, 20],
  .reg (.q (some 17) none (.mov (.tmp 0)) (.q (some 18) none (.len (.tmp 17)) (.q (some 4) none (.mov (.tmp 18)) .done))) false 31 [0, 1, 4]
  ]
theorem c33_ok : cfgL Tryd.prog 33 = some (167, 32, c33.map Vc.Node.bare) := by kernel_rfl
/- internal/strconv.formatBits: entry 42 -/
def c34 : List Vc.Node := [
  .ret [.t 10, .t 11],
  .ret [.t 10, .t 11],
  .reg (.q (some 99) none (.mov (.tmp 13)) (.q (some 100) none (.slcA 65 1 (.tmp 12) (some (.tmp 99)) none) (.q (some 101) none (.b2s (.tmp 100)) (.q (some 11) none (.mov (.tmp 101)) .done)))) false 1 [10, 11],
  .ret [.t 10, .t 11],
  .reg (.q (some 95) none (.mov (.tmp 0)) (.q (some 96) none (.mov (.tmp 13)) (.q (some 97) none (.slcA 65 1 (.tmp 12) (some (.tmp 96)) none) (.l (some 98) none (.app 5 1 1 [(1, (.int .u8 0))] (.tmp 95) (.tmp 97)) [] (.q (some 10) none (.mov (.tmp 98)) .done))))) false 3 [10, 11],
  .cnd (.tmp 94) 4 2,
  .reg (.q (some 94) none (.mov (.tmp 4)) .done) false 5 [0, 10, 11, 12, 13, 94],
  .reg (.q (some 92) none (.mov (.tmp 13)) (.q (some 93) none (.iadrA 65 1 (.tmp 12) (.tmp 92)) (.l none none (.st1 (.tmp 93) (.const (.int .u8 45))) [] .done))) false 6 [0, 4, 10, 11, 12, 13],
  .reg (.q (some 90) none (.mov (.tmp 13)) (.q (some 91) none (.bin .sub (.tmp 90) (.const (.int .i64 1))) (.q (some 13) none (.mov (.tmp 91)) .done))) false 7 [0, 4, 10, 11, 12, 13],
  .cnd (.tmp 89) 8 6,
  .reg (.q (some 89) none (.mov (.tmp 3)) .done) false 9 [0, 4, 10, 11, 12, 13, 89],
  .reg (.q (some 60) none (.mov (.tmp 13)) (.q (some 61) none (.mov (.tmp 1)) (.q (some 62) none (.idxS (.const (.string ⟨#[48, 49, 50, 51, 52, 53, 54, 55, 56, 57, 97, 98, 99, 100, 101, 102, 103, 104, 105, 106, 107, 108, 109, 110, 111, 112, 113, 114, 115, 116, 117, 118, 119, 120, 121, 122]⟩)) (.tmp 61)) (.q (some 63) none (.iadrA 65 1 (.tmp 12) (.tmp 60)) (.l none none (.st1 (.tmp 63) (.tmp 62)) [] .done))))) false 10 [0, 3, 4, 10, 11, 12, 13],
  .reg (.q (some 58) none (.mov (.tmp 13)) (.q (some 59) none (.bin .sub (.tmp 58) (.const (.int .i64 1))) (.q (some 13) none (.mov (.tmp 59)) .done))) false 11 [0, 1, 3, 4, 10, 11, 12, 13],
  .jmp 18,
  .reg (.q (some 55) none (.mov (.tmp 1)) (.q (some 56) none (.mov (.tmp 14)) (.q (some 57) none (.bin .shr (.tmp 55) (.tmp 56)) (.q (some 1) none (.mov (.tmp 57)) .done)))) false 13 [0, 1, 3, 4, 10, 11, 12, 13, 14, 15, 16],
  .reg (.q (some 49) none (.mov (.tmp 13)) (.q (some 50) none (.mov (.tmp 1)) (.q (some 51) none (.mov (.tmp 16)) (.q (some 52) none (.bin .and (.tmp 50) (.tmp 51)) (.q (some 53) none (.idxS (.const (.string ⟨#[48, 49, 50, 51, 52, 53, 54, 55, 56, 57, 97, 98, 99, 100, 101, 102, 103, 104, 105, 106, 107, 108, 109, 110, 111, 112, 113, 114, 115, 116, 117, 118, 119, 120, 121, 122]⟩)) (.tmp 52)) (.q (some 54) none (.iadrA 65 1 (.tmp 12) (.tmp 49)) (.l none none (.st1 (.tmp 54) (.tmp 53)) [] .done))))))) false 14 [0, 1, 3, 4, 10, 11, 12, 13, 14, 15, 16],
  .reg (.q (some 47) none (.mov (.tmp 13)) (.q (some 48) none (.bin .sub (.tmp 47) (.const (.int .i64 1))) (.q (some 13) none (.mov (.tmp 48)) .done))) false 15 [0, 1, 3, 4, 10, 11, 12, 13, 14, 15, 16],
  .cnd (.tmp 46) 16 12,
  .reg (.q (some 44) none (.mov (.tmp 1)) (.q (some 45) none (.mov (.tmp 15)) (.q (some 46) none (.bin .geq (.tmp 44) (.tmp 45)) .done))) false 17 [0, 1, 3, 4, 10, 11, 12, 13, 14, 15, 16, 46],
  .reg (.q (some 41) none (.mov (.tmp 2)) (.q (some 42) none (.cvi .u64 (.tmp 41)) (.q (some 43) none (.bin .sub (.tmp 42) (.const (.int .u64 1))) (.q (some 16) none (.mov (.tmp 43)) .done)))) false 18 [0, 1, 3, 4, 10, 11, 12, 13, 14, 15, 16],
  .reg (.q (some 39) none (.mov (.tmp 2)) (.q (some 40) none (.cvi .u64 (.tmp 39)) (.q (some 15) none (.mov (.tmp 40)) .done))) false 19 [0, 1, 2, 3, 4, 10, 11, 12, 13, 14, 15],
  .reg (.q (some 35) none (.mov (.tmp 2)) (.q (some 36) none (.cvi .u64 (.tmp 35)) (.l (some 37) none (.call 50 [(.tmp 36)]) [] (.q (some 38) none (.cvi .u64 (.tmp 37)) (.q (some 14) none (.mov (.tmp 38)) .done))))) false 20 [0, 1, 2, 3, 4, 10, 11, 12, 13, 14],
  .reg (.q (some 85) none (.mov (.tmp 13)) (.q (some 86) none (.mov (.tmp 1)) (.q (some 87) none (.idxS (.const (.string ⟨#[48, 49, 50, 51, 52, 53, 54, 55, 56, 57, 97, 98, 99, 100, 101, 102, 103, 104, 105, 106, 107, 108, 109, 110, 111, 112, 113, 114, 115, 116, 117, 118, 119, 120, 121, 122]⟩)) (.tmp 86)) (.q (some 88) none (.iadrA 65 1 (.tmp 12) (.tmp 85)) (.l none none (.st1 (.tmp 88) (.tmp 87)) [] .done))))) false 10 [0, 3, 4, 10, 11, 12, 13],
  .reg (.q (some 83) none (.mov (.tmp 13)) (.q (some 84) none (.bin .sub (.tmp 83) (.const (.int .i64 1))) (.q (some 13) none (.mov (.tmp 84)) .done))) false 22 [0, 1, 3, 4, 10, 11, 12, 13],
  .jmp 30,
  .reg (.q (some 82) none (.mov (.tmp 18)) (.q (some 1) none (.mov (.tmp 82)) .done)) false 24 [0, 1, 3, 4, 10, 11, 12, 13, 17],
  .reg (.q (some 74) none (.mov (.tmp 13)) (.q (some 75) none (.mov (.tmp 1)) (.q (some 76) none (.mov (.tmp 18)) (.q (some 77) none (.mov (.tmp 17)) (.q (some 78) none (.bin .mul (.tmp 76) (.tmp 77)) (.q (some 79) none (.bin .sub (.tmp 75) (.tmp 78)) (.q (some 80) none (.idxS (.const (.string ⟨#[48, 49, 50, 51, 52, 53, 54, 55, 56, 57, 97, 98, 99, 100, 101, 102, 103, 104, 105, 106, 107, 108, 109, 110, 111, 112, 113, 114, 115, 116, 117, 118, 119, 120, 121, 122]⟩)) (.tmp 79)) (.q (some 81) none (.iadrA 65 1 (.tmp 12) (.tmp 74)) (.l none none (.st1 (.tmp 81) (.tmp 80)) [] .done))))))))) false 25 [0, 3, 4, 10, 11, 12, 13, 17, 18],
  .reg (.q (some 71) none (.mov (.tmp 1)) (.q (some 72) none (.mov (.tmp 17)) (.q (some 73) none (.bin .quo (.tmp 71) (.tmp 72)) (.q (some 18) none (.mov (.tmp 73)) .done)))) false 26 [0, 1, 3, 4, 10, 11, 12, 13, 17, 18],
  .reg (.q (some 69) none (.mov (.tmp 13)) (.q (some 70) none (.bin .sub (.tmp 69) (.const (.int .i64 1))) (.q (some 13) none (.mov (.tmp 70)) .done))) false 27 [0, 1, 3, 4, 10, 11, 12, 13, 17],
  .cnd (.tmp 68) 28 23,
  .reg (.q (some 66) none (.mov (.tmp 1)) (.q (some 67) none (.mov (.tmp 17)) (.q (some 68) none (.bin .geq (.tmp 66) (.tmp 67)) .done))) false 29 [0, 1, 3, 4, 10, 11, 12, 13, 17, 68],
  .reg (.q (some 64) none (.mov (.tmp 2)) (.q (some 65) none (.cvi .u64 (.tmp 64)) (.q (some 17) none (.mov (.tmp 65)) .done))) false 30 [0, 1, 3, 4, 10, 11, 12, 13, 17],
  .cnd (.tmp 34) 21 31,
  .reg (.q (some 33) none (.mov (.tmp 2)) (.l (some 34) none (.call 49 [(.tmp 33)]) [] .done)) false 32 [0, 1, 2, 3, 4, 10, 11, 12, 13, 34],
  .reg (.q (some 31) none (.mov (.tmp 1)) (.q (some 32) none (.neg (.tmp 31)) (.q (some 1) none (.mov (.tmp 32)) .done))) false 33 [0, 1, 2, 3, 4, 10, 11, 12, 13],
  .cnd (.tmp 30) 34 33,
  .reg (.q (some 30) none (.mov (.tmp 3)) .done) false 35 [0, 1, 2, 3, 4, 10, 11, 12, 13, 30],
  .reg (.q (some 13) none (.mov (.const (.int .i64 65))) .done) false 36 [0, 1, 2, 3, 4, 10, 11, 12, 13],
  .reg (.l (some 12) none (.alloc 84 [(65, (.int .u8 0))]) [] .done) false 37 [0, 1, 2, 3, 4, 10, 11, 12],
  .reg (.q (some 29) none (.mif 9 (.const (.string ⟨#[115, 116, 114, 99, 111, 110, 118, 58, 32, 105, 108, 108, 101, 103, 97, 108, 32, 65, 112, 112, 101, 110, 100, 73, 110, 116, 47, 70, 111, 114, 109, 97, 116, 73, 110, 116, 32, 98, 97, 115, 101]⟩))) (.l none none (.pan (.tmp 29)) [] .done)) false 38 [0, 1, 2, 3, 4, 10, 11],
  .cnd (.tmp 28) 39 38,
  .reg (.q (some 19) none (.mov (.tmp 2)) (.q (some 20) none (.bin .lss (.tmp 19) (.const (.int .i64 2))) (.q (some 21) none (.mov (.tmp 20)) (.q (some 22) (some (21, false)) (.mov (.tmp 2)) (.q (some 23) (some (21, false)) (.bin .eql (.tmp 22) (.const (.int .i64 10))) (.q (some 24) none (.pick (.tmp 21) (.const (.bool true)) (.tmp 23)) (.q (some 25) none (.mov (.tmp 24)) (.q (some 26) (some (25, false)) (.mov (.tmp 2)) (.q (some 27) (some (25, false)) (.bin .gtr (.tmp 26) (.const (.int .i64 36))) (.q (some 28) none (.pick (.tmp 25) (.const (.bool true)) (.tmp 27)) .done)))))))))) false 40 [0, 1, 2, 3, 4, 10, 11, 28],
  .reg (.q (some 10) none (.mov (.const (.slice none 0 0))) (.q (some 11) none (.mov (.const (.string ⟨#[]⟩))) .done)) false 41 [0, 1, 2, 3, 4, 10, 11]
  ]
theorem c34_ok : cfgL Tryd.prog 34 = some (102, 42, c34.map Vc.Node.bare) := by kernel_rfl
/- internal/stringslite.Index: entry 60 -/
def c35 : List Vc.Node := [
  .ret [.t 4],
  .ret [.t 4],
  .reg (.q (some 4) none (.mov (.const (.int .i64 (-1)))) .done) false 1 [4],
  .jmp 37,
  .ret [.t 4],
  .reg (.q (some 4) none (.mov (.const (.int .i64 (-1)))) .done) false 4 [4],
  .ret [.t 4],
  .reg (.q (some 115) none (.mov (.tmp 12)) (.q (some 116) none (.mov (.tmp 8)) (.q (some 117) none (.bin .add (.tmp 115) (.tmp 116)) (.q (some 4) none (.mov (.tmp 117)) .done)))) false 6 [4],
  .cnd (.tmp 114) 7 5,
  .reg (.q (some 113) none (.mov (.tmp 12)) (.q (some 114) none (.bin .geq (.tmp 113) (.const (.int .i64 0))) .done)) false 8 [8, 12, 114],
  .reg (.q (some 108) none (.mov (.tmp 0)) (.q (some 109) none (.mov (.tmp 8)) (.q (some 110) none (.slcT (.tmp 108) (some (.tmp 109)) none) (.q (some 111) none (.mov (.tmp 1)) (.l (some 112) none (.callx 52 [(.tmp 110), (.tmp 111)]) [] (.q (some 12) none (.mov (.tmp 112)) .done)))))) false 9 [8, 12],
  .ret [.t 4],
  .reg (.q (some 140) none (.mov (.tmp 8)) (.q (some 141) none (.mov (.tmp 13)) (.q (some 142) none (.bin .add (.tmp 140) (.tmp 141)) (.q (some 4) none (.mov (.tmp 142)) .done)))) false 11 [4],
  .ret [.t 4],
  .reg (.q (some 4) none (.mov (.const (.int .i64 (-1)))) .done) false 13 [4],
  .cnd (.tmp 139) 14 12,
  .reg (.q (some 138) none (.mov (.tmp 13)) (.q (some 139) none (.bin .lss (.tmp 138) (.const (.int .i64 0))) .done)) false 15 [8, 13, 139],
  .reg (.q (some 133) none (.mov (.tmp 0)) (.q (some 134) none (.mov (.tmp 8)) (.q (some 135) none (.slcT (.tmp 133) (some (.tmp 134)) none) (.q (some 136) none (.mov (.tmp 1)) (.l (some 137) none (.call 54 [(.tmp 135), (.tmp 136)]) [] (.q (some 13) none (.mov (.tmp 137)) .done)))))) false 16 [8, 13],
  .cnd (.tmp 132) 17 3,
  .reg (.q (some 118) none (.mov (.tmp 5)) (.q (some 119) none (.ld1 (.global 1)) (.q (some 120) none (.bin .gtr (.tmp 118) (.tmp 119)) (.q (some 121) none (.mov (.tmp 120)) (.q (some 122) (some (121, true)) (.mov (.tmp 10)) (.q (some 123) (some (121, true)) (.mov (.tmp 8)) (.q (some 124) (some (121, true)) (.bin .shr (.tmp 123) (.const (.int .u64 4))) (.q (some 125) (some (121, true)) (.bin .add (.const (.int .i64 4)) (.tmp 124)) (.q (some 126) (some (121, true)) (.bin .geq (.tmp 122) (.tmp 125)) (.q (some 127) none (.pick (.tmp 121) (.tmp 126) (.const (.bool false))) (.q (some 128) none (.mov (.tmp 127)) (.q (some 129) (some (128, true)) (.mov (.tmp 8)) (.q (some 130) (some (128, true)) (.mov (.tmp 9)) (.q (some 131) (some (128, true)) (.bin .lss (.tmp 129) (.tmp 130)) (.q (some 132) none (.pick (.tmp 128) (.tmp 131) (.const (.bool false))) .done))))))))))))))) false 18 [0, 1, 5, 6, 7, 8, 9, 10, 132],
  .cnd (.tmp 107) 10 19,
  .reg (.q (some 99) none (.mov (.tmp 5)) (.q (some 100) none (.ld1 (.global 1)) (.q (some 101) none (.bin .leq (.tmp 99) (.tmp 100)) (.q (some 102) none (.mov (.tmp 101)) (.q (some 103) (some (102, true)) (.mov (.tmp 10)) (.q (some 104) (some (102, true)) (.mov (.tmp 8)) (.l (some 105) (some (102, true)) (.call 53 [(.tmp 104)]) [] (.q (some 106) (some (102, true)) (.bin .gtr (.tmp 103) (.tmp 105)) (.q (some 107) none (.pick (.tmp 102) (.tmp 106) (.const (.bool false))) .done))))))))) false 20 [0, 1, 5, 6, 7, 8, 9, 10, 107],
  .reg (.q (some 97) none (.mov (.tmp 10)) (.q (some 98) none (.bin .add (.tmp 97) (.const (.int .i64 1))) (.q (some 10) none (.mov (.tmp 98)) .done))) false 21 [0, 1, 5, 6, 7, 8, 9, 10],
  .reg (.q (some 95) none (.mov (.tmp 8)) (.q (some 96) none (.bin .add (.tmp 95) (.const (.int .i64 1))) (.q (some 8) none (.mov (.tmp 96)) .done))) false 22 [0, 1, 5, 6, 7, 8, 9, 10],
  .ret [.t 4],
  .reg (.q (some 94) none (.mov (.tmp 8)) (.q (some 4) none (.mov (.tmp 94)) .done)) false 24 [4],
  .cnd (.tmp 93) 25 23,
  .reg (.q (some 78) none (.mov (.tmp 0)) (.q (some 79) none (.mov (.tmp 8)) (.q (some 80) none (.bin .add (.tmp 79) (.const (.int .i64 1))) (.q (some 81) none (.idxS (.tmp 78) (.tmp 80)) (.q (some 82) none (.mov (.tmp 7)) (.q (some 83) none (.bin .eql (.tmp 81) (.tmp 82)) (.q (some 84) none (.mov (.tmp 83)) (.q (some 85) (some (84, true)) (.mov (.tmp 0)) (.q (some 86) (some (84, true)) (.mov (.tmp 8)) (.q (some 87) (some (84, true)) (.mov (.tmp 8)) (.q (some 88) (some (84, true)) (.mov (.tmp 5)) (.q (some 89) (some (84, true)) (.bin .add (.tmp 87) (.tmp 88)) (.q (some 90) (some (84, true)) (.slcT (.tmp 85) (some (.tmp 86)) (some (.tmp 89))) (.q (some 91) (some (84, true)) (.mov (.tmp 1)) (.q (some 92) (some (84, true)) (.bin .eql (.tmp 90) (.tmp 91)) (.q (some 93) none (.pick (.tmp 84) (.tmp 92) (.const (.bool false))) .done)))))))))))))))) false 26 [0, 1, 5, 6, 7, 8, 9, 10, 93],
  .reg (.q (some 74) none (.mov (.tmp 8)) (.q (some 75) none (.mov (.tmp 11)) (.q (some 76) none (.bin .add (.tmp 75) (.const (.int .i64 1))) (.q (some 77) none (.bin .add (.tmp 74) (.tmp 76)) (.q (some 8) none (.mov (.tmp 77)) .done))))) false 27 [0, 1, 5, 6, 7, 8, 9, 10],
  .ret [.t 4],
  .reg (.q (some 4) none (.mov (.const (.int .i64 (-1)))) .done) false 29 [4],
  .cnd (.tmp 73) 30 28,
  .reg (.q (some 72) none (.mov (.tmp 11)) (.q (some 73) none (.bin .lss (.tmp 72) (.const (.int .i64 0))) .done)) false 31 [0, 1, 5, 6, 7, 8, 9, 10, 11, 73],
  .reg (.q (some 65) none (.mov (.tmp 0)) (.q (some 66) none (.mov (.tmp 8)) (.q (some 67) none (.bin .add (.tmp 66) (.const (.int .i64 1))) (.q (some 68) none (.mov (.tmp 9)) (.q (some 69) none (.slcT (.tmp 65) (some (.tmp 67)) (some (.tmp 68))) (.q (some 70) none (.mov (.tmp 6)) (.l (some 71) none (.call 51 [(.tmp 69), (.tmp 70)]) [] (.q (some 11) none (.mov (.tmp 71)) .done)))))))) false 32 [0, 1, 5, 6, 7, 8, 9, 10, 11],
  .cnd (.tmp 64) 33 27,
  .reg (.q (some 60) none (.mov (.tmp 0)) (.q (some 61) none (.mov (.tmp 8)) (.q (some 62) none (.idxS (.tmp 60) (.tmp 61)) (.q (some 63) none (.mov (.tmp 6)) (.q (some 64) none (.bin .neq (.tmp 62) (.tmp 63)) .done))))) false 34 [0, 1, 5, 6, 7, 8, 9, 10, 64],
  .cnd (.tmp 59) 35 2,
  .reg (.q (some 57) none (.mov (.tmp 8)) (.q (some 58) none (.mov (.tmp 9)) (.q (some 59) none (.bin .lss (.tmp 57) (.tmp 58)) .done))) false 36 [0, 1, 5, 6, 7, 8, 9, 10, 59],
  .reg (.q (some 10) none (.mov (.const (.int .i64 0))) .done) false 37 [0, 1, 5, 6, 7, 8, 9, 10],
  .reg (.q (some 52) none (.mov (.tmp 0)) (.q (some 53) none (.lenT (.tmp 52)) (.q (some 54) none (.mov (.tmp 5)) (.q (some 55) none (.bin .sub (.tmp 53) (.tmp 54)) (.q (some 56) none (.bin .add (.tmp 55) (.const (.int .i64 1))) (.q (some 9) none (.mov (.tmp 56)) .done)))))) false 38 [0, 1, 5, 6, 7, 8, 9],
  .reg (.q (some 8) none (.mov (.const (.int .i64 0))) .done) false 39 [0, 1, 5, 6, 7, 8],
  .reg (.q (some 50) none (.mov (.tmp 1)) (.q (some 51) none (.idxS (.tmp 50) (.const (.int .i64 1))) (.q (some 7) none (.mov (.tmp 51)) .done))) false 40 [0, 1, 5, 6, 7],
  .reg (.q (some 48) none (.mov (.tmp 1)) (.q (some 49) none (.idxS (.tmp 48) (.const (.int .i64 0))) (.q (some 6) none (.mov (.tmp 49)) .done))) false 41 [0, 1, 5, 6],
  .ret [.t 4],
  .reg (.q (some 4) none (.mov (.const (.int .i64 0))) .done) false 43 [4],
  .ret [.t 4],
  .reg (.q (some 27) none (.mov (.tmp 0)) (.q (some 28) none (.mov (.tmp 1)) (.q (some 29) none (.idxS (.tmp 28) (.const (.int .i64 0))) (.l (some 30) none (.call 51 [(.tmp 27), (.tmp 29)]) [] (.q (some 4) none (.mov (.tmp 30)) .done))))) false 45 [4],
  .ret [.t 4],
  .reg (.q (some 4) none (.mov (.const (.int .i64 (-1)))) .done) false 47 [4],
  .ret [.t 4],
  .reg (.q (some 45) none (.mov (.tmp 0)) (.q (some 46) none (.mov (.tmp 1)) (.l (some 47) none (.callx 52 [(.tmp 45), (.tmp 46)]) [] (.q (some 4) none (.mov (.tmp 47)) .done)))) false 49 [4],
  .cnd (.tmp 36) 50 42,
  .reg (.q (some 37) none (.mov (.tmp 5)) (.q (some 38) none (.ld1 (.global 1)) (.q (some 39) none (.bin .leq (.tmp 37) (.tmp 38)) (.q (some 40) none (.mov (.tmp 39)) (.q (some 41) (some (40, true)) (.mov (.tmp 0)) (.q (some 42) (some (40, true)) (.lenT (.tmp 41)) (.q (some 43) (some (40, true)) (.bin .leq (.tmp 42) (.const (.int .i64 64))) (.q (some 44) none (.pick (.tmp 40) (.tmp 43) (.const (.bool false))) (.q (some 36) none (.mov (.tmp 44)) .done))))))))) false 51 [0, 1, 5, 36],
  .cnd (.tmp 31) 48 52,
  .reg (.q (some 32) none (.mov (.tmp 5)) (.q (some 33) none (.mov (.tmp 0)) (.q (some 34) none (.lenT (.tmp 33)) (.q (some 35) none (.bin .geq (.tmp 32) (.tmp 34)) (.q (some 31) none (.mov (.tmp 35)) .done))))) false 53 [0, 1, 5, 31],
  .cnd (.tmp 24) 46 54,
  .reg (.q (some 25) none (.mov (.tmp 5)) (.q (some 26) none (.bin .eql (.tmp 25) (.const (.int .i64 1))) (.q (some 24) none (.mov (.tmp 26)) .done))) false 55 [0, 1, 5, 24],
  .cnd (.tmp 16) 44 56,
  .reg (.q (some 17) none (.mov (.tmp 5)) (.q (some 18) none (.bin .eql (.tmp 17) (.const (.int .i64 0))) (.q (some 19) none (.mov (.tmp 18)) (.q (some 20) (some (19, false)) (.mov (.tmp 1)) (.q (some 21) (some (19, false)) (.mov (.tmp 0)) (.q (some 22) (some (19, false)) (.bin .eql (.tmp 20) (.tmp 21)) (.q (some 23) none (.pick (.tmp 19) (.const (.bool true)) (.tmp 22)) (.q (some 16) none (.mov (.tmp 23)) .done)))))))) false 57 [0, 1, 5, 16],
  .reg (.q (some 14) none (.mov (.tmp 1)) (.q (some 15) none (.lenT (.tmp 14)) (.q (some 5) none (.mov (.tmp 15)) .done))) false 58 [0, 1, 5],
  .reg (.q (some 4) none (.mov (.const (.int .i64 0))) .done) false 59 [0, 1]
  ]
theorem c35_ok : cfgL Tryd.prog 35 = some (143, 60, c35.map Vc.Node.bare) := by kernel_rfl
/- internal/strconv.ParseUint: entry 88 -/
def c36 : List Vc.Node := [
  .ret [.t 6, .t 7],
  .ret [.t 6, .t 7],
  .reg (.q (some 171) none (.mov (.tmp 13)) (.q (some 6) none (.mov (.tmp 171)) (.q (some 7) none (.mov (.const .nilIface)) .done))) false 1 [6, 7],
  .ret [.t 6, .t 7],
  .reg (.q (some 170) none (.mif 69 (.const (.int .i64 2))) (.q (some 6) none (.mov (.const (.int .u64 0))) (.q (some 7) none (.mov (.tmp 170)) .done))) false 3 [6, 7],
  .cnd (.tmp 169) 4 2,
  .reg (.q (some 164) none (.mov (.tmp 12)) (.q (some 165) none (.mov (.tmp 164)) (.q (some 166) (some (165, true)) (.mov (.tmp 9)) (.l (some 167) (some (165, true)) (.call 56 [(.tmp 166)]) [] (.q (some 168) (some (165, true)) (.not (.tmp 167)) (.q (some 169) none (.pick (.tmp 165) (.tmp 168) (.const (.bool false))) .done)))))) false 5 [13, 169],
  .jmp 38,
  .reg (.q (some 163) none (.bin .add (.tmp 101) (.const (.int .i64 1))) (.q (some 101) none (.mov (.tmp 163)) .done)) false 7 [1, 8, 9, 10, 11, 12, 13, 99, 100, 101],
  .reg (.q (some 162) none (.mov (.tmp 17)) (.q (some 13) none (.mov (.tmp 162)) .done)) false 8 [1, 8, 9, 10, 11, 12, 13, 99, 100, 101],
  .ret [.t 6, .t 7],
  .reg (.q (some 160) none (.mov (.tmp 11)) (.q (some 161) none (.mif 69 (.const (.int .i64 1))) (.q (some 6) none (.mov (.tmp 160)) (.q (some 7) none (.mov (.tmp 161)) .done)))) false 10 [6, 7],
  .cnd (.tmp 159) 11 9,
  .reg (.q (some 152) none (.mov (.tmp 17)) (.q (some 153) none (.mov (.tmp 13)) (.q (some 154) none (.bin .lss (.tmp 152) (.tmp 153)) (.q (some 155) none (.mov (.tmp 154)) (.q (some 156) (some (155, false)) (.mov (.tmp 17)) (.q (some 157) (some (155, false)) (.mov (.tmp 11)) (.q (some 158) (some (155, false)) (.bin .gtr (.tmp 156) (.tmp 157)) (.q (some 159) none (.pick (.tmp 155) (.const (.bool true)) (.tmp 158)) .done)))))))) false 12 [1, 8, 9, 10, 11, 12, 17, 99, 100, 101, 159],
  .reg (.q (some 148) none (.mov (.tmp 13)) (.q (some 149) none (.mov (.tmp 16)) (.q (some 150) none (.cvi .u64 (.tmp 149)) (.q (some 151) none (.bin .add (.tmp 148) (.tmp 150)) (.q (some 17) none (.mov (.tmp 151)) .done))))) false 13 [1, 8, 9, 10, 11, 12, 13, 17, 99, 100, 101],
  .reg (.q (some 144) none (.mov (.tmp 13)) (.q (some 145) none (.mov (.tmp 1)) (.q (some 146) none (.cvi .u64 (.tmp 145)) (.q (some 147) none (.bin .mul (.tmp 144) (.tmp 146)) (.q (some 13) none (.mov (.tmp 147)) .done))))) false 14 [1, 8, 9, 10, 11, 12, 13, 16, 99, 100, 101],
  .ret [.t 6, .t 7],
  .reg (.q (some 142) none (.mov (.tmp 11)) (.q (some 143) none (.mif 69 (.const (.int .i64 1))) (.q (some 6) none (.mov (.tmp 142)) (.q (some 7) none (.mov (.tmp 143)) .done)))) false 16 [6, 7],
  .cnd (.tmp 141) 17 15,
  .reg (.q (some 139) none (.mov (.tmp 13)) (.q (some 140) none (.mov (.tmp 10)) (.q (some 141) none (.bin .geq (.tmp 139) (.tmp 140)) .done))) false 18 [1, 8, 9, 10, 11, 12, 13, 16, 99, 100, 101, 141],
  .ret [.t 6, .t 7],
  .reg (.q (some 138) none (.mif 69 (.const (.int .i64 2))) (.q (some 6) none (.mov (.const (.int .u64 0))) (.q (some 7) none (.mov (.tmp 138)) .done))) false 20 [6, 7],
  .cnd (.tmp 137) 21 19,
  .reg (.q (some 134) none (.mov (.tmp 16)) (.q (some 135) none (.mov (.tmp 1)) (.q (some 136) none (.cvi .u8 (.tmp 135)) (.q (some 137) none (.bin .geq (.tmp 134) (.tmp 136)) .done)))) false 22 [1, 8, 9, 10, 11, 12, 13, 16, 99, 100, 101, 137],
  .reg (.q (some 12) none (.mov (.const (.bool true))) .done) false 8 [1, 8, 9, 10, 11, 12, 13, 99, 100, 101],
  .reg (.q (some 119) none (.mov (.tmp 15)) (.q (some 120) none (.bin .sub (.tmp 119) (.const (.int .u8 48))) (.q (some 16) none (.mov (.tmp 120)) .done))) false 23 [1, 8, 9, 10, 11, 12, 13, 16, 99, 100, 101],
  .reg (.q (some 130) none (.mov (.tmp 15)) (.l (some 131) none (.call 55 [(.tmp 130)]) [] (.q (some 132) none (.bin .sub (.tmp 131) (.const (.int .u8 97))) (.q (some 133) none (.bin .add (.tmp 132) (.const (.int .u8 10))) (.q (some 16) none (.mov (.tmp 133)) .done))))) false 23 [1, 8, 9, 10, 11, 12, 13, 16, 99, 100, 101],
  .ret [.t 6, .t 7],
  .reg (.q (some 105) none (.mif 69 (.const (.int .i64 2))) (.q (some 6) none (.mov (.const (.int .u64 0))) (.q (some 7) none (.mov (.tmp 105)) .done))) false 27 [6, 7],
  .cnd (.tmp 121) 26 28,
  .reg (.q (some 122) none (.mov (.tmp 15)) (.l (some 123) none (.call 55 [(.tmp 122)]) [] (.q (some 124) none (.bin .leq (.const (.int .u8 97)) (.tmp 123)) (.q (some 125) none (.mov (.tmp 124)) (.q (some 126) (some (125, true)) (.mov (.tmp 15)) (.l (some 127) (some (125, true)) (.call 55 [(.tmp 126)]) [] (.q (some 128) (some (125, true)) (.bin .leq (.tmp 127) (.const (.int .u8 122))) (.q (some 129) none (.pick (.tmp 125) (.tmp 128) (.const (.bool false))) (.q (some 121) none (.mov (.tmp 129)) .done))))))))) false 29 [1, 8, 9, 10, 11, 12, 13, 15, 99, 100, 101, 121],
  .cnd (.tmp 112) 25 30,
  .reg (.q (some 113) none (.mov (.tmp 15)) (.q (some 114) none (.bin .leq (.const (.int .u8 48)) (.tmp 113)) (.q (some 115) none (.mov (.tmp 114)) (.q (some 116) (some (115, true)) (.mov (.tmp 15)) (.q (some 117) (some (115, true)) (.bin .leq (.tmp 116) (.const (.int .u8 57))) (.q (some 118) none (.pick (.tmp 115) (.tmp 117) (.const (.bool false))) (.q (some 112) none (.mov (.tmp 118)) .done))))))) false 31 [1, 8, 9, 10, 11, 12, 13, 15, 99, 100, 101, 112],
  .cnd (.tmp 106) 24 32,
  .reg (.q (some 107) none (.mov (.tmp 15)) (.q (some 108) none (.bin .eql (.tmp 107) (.const (.int .u8 95))) (.q (some 109) none (.mov (.tmp 108)) (.q (some 110) (some (109, true)) (.mov (.tmp 8)) (.q (some 111) none (.pick (.tmp 109) (.tmp 110) (.const (.bool false))) (.q (some 106) none (.mov (.tmp 111)) .done)))))) false 33 [1, 8, 9, 10, 11, 12, 13, 15, 99, 100, 101, 106],
  .reg (.q (some 16) none (.mov (.const (.int .u8 0))) .done) false 34 [1, 8, 9, 10, 11, 12, 13, 15, 99, 100, 101],
  .reg (.q (some 103) none (.iadrS 1 (.tmp 99) (.tmp 101)) (.q (some 104) none (.ld1 (.tmp 103)) (.q (some 15) none (.mov (.tmp 104)) .done))) false 35 [1, 8, 9, 10, 11, 12, 13, 15, 99, 100, 101],
  .cnd (.tmp 102) 36 6,
  .reg (.q (some 102) none (.bin .lss (.tmp 101) (.tmp 100)) .done) false 37 [1, 8, 9, 10, 11, 12, 13, 99, 100, 101, 102],
  .reg (.q (some 98) none (.mov (.tmp 0)) (.l (some 99) none (.s2b 5 (.tmp 98)) [] (.q (some 100) none (.len (.tmp 99)) (.q (some 101) none (.mov (.const (.int .i64 0))) .done)))) false 38 [1, 8, 9, 10, 11, 12, 13, 99, 100, 101],
  .reg (.q (some 13) none (.mov (.const (.int .u64 0))) .done) false 39 [0, 1, 8, 9, 10, 11, 12, 13],
  .reg (.q (some 12) none (.mov (.const (.bool false))) .done) false 40 [0, 1, 8, 9, 10, 11, 12],
  .reg (.q (some 94) none (.mov (.tmp 2)) (.q (some 95) none (.cvi .u64 (.tmp 94)) (.q (some 96) none (.bin .shl (.const (.int .u64 1)) (.tmp 95)) (.q (some 97) none (.bin .sub (.tmp 96) (.const (.int .u64 1))) (.q (some 11) none (.mov (.tmp 97)) .done))))) false 41 [0, 1, 8, 9, 10, 11],
  .reg (.q (some 10) none (.mov (.const (.int .u64 1844674407370955162))) .done) false 42 [0, 1, 2, 8, 9, 10],
  .reg (.q (some 10) none (.mov (.const (.int .u64 1152921504606846976))) .done) false 42 [0, 1, 2, 8, 9, 10],
  .reg (.q (some 86) none (.mov (.tmp 1)) (.q (some 87) none (.cvi .u64 (.tmp 86)) (.q (some 88) none (.bin .quo (.const (.int .u64 18446744073709551615)) (.tmp 87)) (.q (some 89) none (.bin .add (.tmp 88) (.const (.int .u64 1))) (.q (some 10) none (.mov (.tmp 89)) .done))))) false 42 [0, 1, 2, 8, 9, 10],
  .cnd (.tmp 92) 44 45,
  .reg (.q (some 93) none (.bin .eql (.tmp 85) (.const (.int .i64 16))) (.q (some 92) none (.mov (.tmp 93)) .done)) false 46 [0, 1, 2, 8, 9, 92],
  .cnd (.tmp 90) 43 47,
  .reg (.q (some 91) none (.bin .eql (.tmp 85) (.const (.int .i64 10))) (.q (some 90) none (.mov (.tmp 91)) .done)) false 48 [0, 1, 2, 8, 9, 85, 90],
  .reg (.q (some 85) none (.mov (.tmp 1)) .done) false 49 [0, 1, 2, 8, 9, 85],
  .reg (.q (some 10) none (.mov (.const (.int .u64 0))) .done) false 50 [0, 1, 2, 8, 9],
  .reg (.q (some 2) none (.mov (.const (.int .i64 64))) .done) false 51 [0, 1, 2, 8, 9],
  .ret [.t 6, .t 7],
  .reg (.q (some 84) none (.mif 69 (.const (.int .i64 4))) (.q (some 6) none (.mov (.const (.int .u64 0))) (.q (some 7) none (.mov (.tmp 84)) .done))) false 53 [6, 7],
  .cnd (.tmp 83) 54 51,
  .reg (.q (some 78) none (.mov (.tmp 2)) (.q (some 79) none (.bin .lss (.tmp 78) (.const (.int .i64 0))) (.q (some 80) none (.mov (.tmp 79)) (.q (some 81) (some (80, false)) (.mov (.tmp 2)) (.q (some 82) (some (80, false)) (.bin .gtr (.tmp 81) (.const (.int .i64 64))) (.q (some 83) none (.pick (.tmp 80) (.const (.bool true)) (.tmp 82)) .done)))))) false 55 [0, 1, 2, 8, 9, 83],
  .cnd (.tmp 77) 52 56,
  .reg (.q (some 76) none (.mov (.tmp 2)) (.q (some 77) none (.bin .eql (.tmp 76) (.const (.int .i64 0))) .done)) false 57 [0, 1, 2, 8, 9, 77],
  .reg (.q (some 50) none (.mov (.tmp 0)) (.q (some 51) none (.slcT (.tmp 50) (some (.const (.int .i64 2))) none) (.q (some 0) none (.mov (.tmp 51)) .done))) false 58 [0, 1, 2, 8, 9],
  .reg (.q (some 1) none (.mov (.const (.int .i64 2))) .done) false 59 [0, 1, 2, 8, 9],
  .reg (.q (some 62) none (.mov (.tmp 0)) (.q (some 63) none (.slcT (.tmp 62) (some (.const (.int .i64 2))) none) (.q (some 0) none (.mov (.tmp 63)) .done))) false 58 [0, 1, 2, 8, 9],
  .reg (.q (some 1) none (.mov (.const (.int .i64 8))) .done) false 61 [0, 1, 2, 8, 9],
  .reg (.q (some 74) none (.mov (.tmp 0)) (.q (some 75) none (.slcT (.tmp 74) (some (.const (.int .i64 2))) none) (.q (some 0) none (.mov (.tmp 75)) .done))) false 58 [0, 1, 2, 8, 9],
  .reg (.q (some 1) none (.mov (.const (.int .i64 16))) .done) false 63 [0, 1, 2, 8, 9],
  .reg (.q (some 38) none (.mov (.tmp 0)) (.q (some 39) none (.slcT (.tmp 38) (some (.const (.int .i64 1))) none) (.q (some 0) none (.mov (.tmp 39)) .done))) false 58 [0, 1, 2, 8, 9],
  .reg (.q (some 1) none (.mov (.const (.int .i64 8))) .done) false 65 [0, 1, 2, 8, 9],
  .cnd (.tmp 64) 64 66,
  .reg (.q (some 65) none (.mov (.tmp 0)) (.q (some 66) none (.lenT (.tmp 65)) (.q (some 67) none (.bin .geq (.tmp 66) (.const (.int .i64 3))) (.q (some 68) none (.mov (.tmp 67)) (.q (some 69) (some (68, true)) (.mov (.tmp 0)) (.q (some 70) (some (68, true)) (.idxS (.tmp 69) (.const (.int .i64 1))) (.l (some 71) (some (68, true)) (.call 55 [(.tmp 70)]) [] (.q (some 72) (some (68, true)) (.bin .eql (.tmp 71) (.const (.int .u8 120))) (.q (some 73) none (.pick (.tmp 68) (.tmp 72) (.const (.bool false))) (.q (some 64) none (.mov (.tmp 73)) .done)))))))))) false 67 [0, 2, 8, 9, 64],
  .cnd (.tmp 52) 62 68,
  .reg (.q (some 53) none (.mov (.tmp 0)) (.q (some 54) none (.lenT (.tmp 53)) (.q (some 55) none (.bin .geq (.tmp 54) (.const (.int .i64 3))) (.q (some 56) none (.mov (.tmp 55)) (.q (some 57) (some (56, true)) (.mov (.tmp 0)) (.q (some 58) (some (56, true)) (.idxS (.tmp 57) (.const (.int .i64 1))) (.l (some 59) (some (56, true)) (.call 55 [(.tmp 58)]) [] (.q (some 60) (some (56, true)) (.bin .eql (.tmp 59) (.const (.int .u8 111))) (.q (some 61) none (.pick (.tmp 56) (.tmp 60) (.const (.bool false))) (.q (some 52) none (.mov (.tmp 61)) .done)))))))))) false 69 [0, 2, 8, 9, 52],
  .cnd (.tmp 40) 60 70,
  .reg (.q (some 41) none (.mov (.tmp 0)) (.q (some 42) none (.lenT (.tmp 41)) (.q (some 43) none (.bin .geq (.tmp 42) (.const (.int .i64 3))) (.q (some 44) none (.mov (.tmp 43)) (.q (some 45) (some (44, true)) (.mov (.tmp 0)) (.q (some 46) (some (44, true)) (.idxS (.tmp 45) (.const (.int .i64 1))) (.l (some 47) (some (44, true)) (.call 55 [(.tmp 46)]) [] (.q (some 48) (some (44, true)) (.bin .eql (.tmp 47) (.const (.int .u8 98))) (.q (some 49) none (.pick (.tmp 44) (.tmp 48) (.const (.bool false))) (.q (some 40) none (.mov (.tmp 49)) .done)))))))))) false 71 [0, 2, 8, 9, 40],
  .cnd (.tmp 37) 72 58,
  .reg (.q (some 35) none (.mov (.tmp 0)) (.q (some 36) none (.idxS (.tmp 35) (.const (.int .i64 0))) (.q (some 37) none (.bin .eql (.tmp 36) (.const (.int .u8 48))) .done))) false 73 [0, 1, 2, 8, 9, 37],
  .reg (.q (some 1) none (.mov (.const (.int .i64 10))) .done) false 74 [0, 1, 2, 8, 9],
  .ret [.t 6, .t 7],
  .reg (.q (some 24) none (.mif 69 (.const (.int .i64 3))) (.q (some 6) none (.mov (.const (.int .u64 0))) (.q (some 7) none (.mov (.tmp 24)) .done))) false 76 [6, 7],
  .cnd (.tmp 32) 75 77,
  .reg (.q (some 33) none (.mov (.tmp 1)) (.q (some 34) none (.bin .eql (.tmp 33) (.const (.int .i64 0))) (.q (some 32) none (.mov (.tmp 34)) .done))) false 78 [0, 2, 8, 9, 32],
  .cnd (.tmp 25) 58 79,
  .reg (.q (some 26) none (.mov (.tmp 1)) (.q (some 27) none (.bin .leq (.const (.int .i64 2)) (.tmp 26)) (.q (some 28) none (.mov (.tmp 27)) (.q (some 29) (some (28, true)) (.mov (.tmp 1)) (.q (some 30) (some (28, true)) (.bin .leq (.tmp 29) (.const (.int .i64 36))) (.q (some 31) none (.pick (.tmp 28) (.tmp 30) (.const (.bool false))) (.q (some 25) none (.mov (.tmp 31)) .done))))))) false 80 [0, 1, 2, 8, 9, 25],
  .reg (.q (some 23) none (.mov (.tmp 0)) (.q (some 9) none (.mov (.tmp 23)) .done)) false 81 [0, 1, 2, 8, 9],
  .reg (.q (some 21) none (.mov (.tmp 1)) (.q (some 22) none (.bin .eql (.tmp 21) (.const (.int .i64 0))) (.q (some 8) none (.mov (.tmp 22)) .done))) false 82 [0, 1, 2, 8],
  .ret [.t 6, .t 7],
  .reg (.q (some 20) none (.mif 69 (.const (.int .i64 2))) (.q (some 6) none (.mov (.const (.int .u64 0))) (.q (some 7) none (.mov (.tmp 20)) .done))) false 84 [6, 7],
  .cnd (.tmp 19) 85 83,
  .reg (.q (some 18) none (.mov (.tmp 0)) (.q (some 19) none (.bin .eql (.tmp 18) (.const (.string ⟨#[]⟩))) .done)) false 86 [0, 1, 2, 19],
  .reg (.q (some 6) none (.mov (.const (.int .u64 0))) (.q (some 7) none (.mov (.const .nilIface)) .done)) false 87 [0, 1, 2]
  ]
theorem c36_ok : cfgL Tryd.prog 36 = some (172, 88, c36.map Vc.Node.bare) := by kernel_rfl
/- strconv.syntaxError: entry 3 -/
def c37 : List Vc.Node := [
  .ret [.t 4],
  .ret [.t 4],
  .reg (.q (some 5) none (.mov (.tmp 0)) (.q (some 6) none (.mov (.tmp 1)) (.q (some 8) none (.ld1 (.global 2)) (.l (some 7) none (.call 57 [(.tmp 6)]) [⟨8, none, (.ld1 (.global 2))⟩] (.q (some 9) none (.bld [.x 1 (.tmp 5), .x 1 (.tmp 7), .x 1 (.tmp 8)]) (.l (some 10) none (.box 92 (.tmp 9)) [] (.q (some 4) none (.mov (.tmp 10)) .done))))))) true 1 [4],
  .reg (.q (some 4) none (.mov (.const (.pointer none))) .done) false 2 [0, 1]
  ]
theorem c37_ok : cfgL Tryd.prog 37 = some (11, 3, c37.map Vc.Node.bare) := by kernel_rfl
/- strconv.rangeError: entry 3 -/
def c38 : List Vc.Node := [
  .ret [.t 4],
  .ret [.t 4],
  .reg (.q (some 5) none (.mov (.tmp 0)) (.q (some 6) none (.mov (.tmp 1)) (.q (some 8) none (.ld1 (.global 3)) (.l (some 7) none (.call 57 [(.tmp 6)]) [⟨8, none, (.ld1 (.global 3))⟩] (.q (some 9) none (.bld [.x 1 (.tmp 5), .x 1 (.tmp 7), .x 1 (.tmp 8)]) (.l (some 10) none (.box 92 (.tmp 9)) [] (.q (some 4) none (.mov (.tmp 10)) .done))))))) true 1 [4],
  .reg (.q (some 4) none (.mov (.const (.pointer none))) .done) false 2 [0, 1]
  ]
theorem c38_ok : cfgL Tryd.prog 38 = some (11, 3, c38.map Vc.Node.bare) := by kernel_rfl
/- strconv.baseError: entry 3 -/
def c39 : List Vc.Node := [
  .ret [.t 6],
  .ret [.t 6],
  .reg (.q (some 7) none (.mov (.tmp 0)) (.q (some 8) none (.mov (.tmp 1)) (.l (some 9) none (.call 57 [(.tmp 8)]) [] (.q (some 10) none (.mov (.tmp 2)) (.l (some 11) none (.call 59 [(.tmp 10)]) [] (.q (some 12) none (.bin .add (.const (.string ⟨#[105, 110, 118, 97, 108, 105, 100, 32, 98, 97, 115, 101, 32]⟩)) (.tmp 11)) (.l (some 13) none (.call 58 [(.tmp 12)]) [] (.q (some 14) none (.bld [.x 1 (.tmp 7), .x 1 (.tmp 9), .x 1 (.tmp 13)]) (.l (some 15) none (.box 92 (.tmp 14)) [] (.q (some 6) none (.mov (.tmp 15)) .done)))))))))) false 1 [6],
  .reg (.q (some 6) none (.mov (.const (.pointer none))) .done) false 2 [0, 1, 2]
  ]
theorem c39_ok : cfgL Tryd.prog 39 = some (16, 3, c39.map Vc.Node.bare) := by kernel_rfl
/- strconv.bitSizeError: entry 3 -/
def c40 : List Vc.Node := [
  .ret [.t 6],
  .ret [.t 6],
  .reg (.q (some 7) none (.mov (.tmp 0)) (.q (some 8) none (.mov (.tmp 1)) (.l (some 9) none (.call 57 [(.tmp 8)]) [] (.q (some 10) none (.mov (.tmp 2)) (.l (some 11) none (.call 59 [(.tmp 10)]) [] (.q (some 12) none (.bin .add (.const (.string ⟨#[105, 110, 118, 97, 108, 105, 100, 32, 98, 105, 116, 32, 115, 105, 122, 101, 32]⟩)) (.tmp 11)) (.l (some 13) none (.call 58 [(.tmp 12)]) [] (.q (some 14) none (.bld [.x 1 (.tmp 7), .x 1 (.tmp 9), .x 1 (.tmp 13)]) (.l (some 15) none (.box 92 (.tmp 14)) [] (.q (some 6) none (.mov (.tmp 15)) .done)))))))))) false 1 [6],
  .reg (.q (some 6) none (.mov (.const (.pointer none))) .done) false 2 [0, 1, 2]
  ]
theorem c40_ok : cfgL Tryd.prog 40 = some (16, 3, c40.map Vc.Node.bare) := by kernel_rfl
/- math/bits.Mul32: entry 4 -/
def c41 : List Vc.Node := [
  .ret [.t 4, .t 5],
  .ret [.t 4, .t 5],
  .reg (.q (some 12) none (.mov (.tmp 6)) (.q (some 13) none (.bin .shr (.tmp 12) (.const (.int .u64 32))) (.q (some 14) none (.cvi .u32 (.tmp 13)) (.q (some 15) none (.mov (.tmp 6)) (.q (some 16) none (.cvi .u32 (.tmp 15)) (.q (some 4) none (.mov (.tmp 14)) (.q (some 5) none (.mov (.tmp 16)) .done))))))) false 1 [4, 5],
  .reg (.q (some 7) none (.mov (.tmp 0)) (.q (some 8) none (.cvi .u64 (.tmp 7)) (.q (some 9) none (.mov (.tmp 1)) (.q (some 10) none (.cvi .u64 (.tmp 9)) (.q (some 11) none (.bin .mul (.tmp 8) (.tmp 10)) (.q (some 6) none (.mov (.tmp 11)) .done)))))) false 2 [6],
  .reg (.q (some 4) none (.mov (.const (.int .u32 0))) (.q (some 5) none (.mov (.const (.int .u32 0))) .done)) false 3 [0, 1]
  ]
theorem c41_ok : cfgL Tryd.prog 41 = some (17, 4, c41.map Vc.Node.bare) := by kernel_rfl
/- math/bits.Mul64: entry 13 -/
def c42 : List Vc.Node := [
  .ret [.t 4, .t 5],
  .ret [.t 4, .t 5],
  .reg (.q (some 48) none (.mov (.tmp 0)) (.q (some 49) none (.mov (.tmp 1)) (.q (some 50) none (.bin .mul (.tmp 48) (.tmp 49)) (.q (some 5) none (.mov (.tmp 50)) .done)))) false 1 [4, 5],
  .reg (.q (some 40) none (.mov (.tmp 7)) (.q (some 41) none (.mov (.tmp 9)) (.q (some 42) none (.bin .mul (.tmp 40) (.tmp 41)) (.q (some 43) none (.mov (.tmp 13)) (.q (some 44) none (.bin .add (.tmp 42) (.tmp 43)) (.q (some 45) none (.mov (.tmp 12)) (.q (some 46) none (.bin .shr (.tmp 45) (.const (.int .u64 32))) (.q (some 47) none (.bin .add (.tmp 44) (.tmp 46)) (.q (some 4) none (.mov (.tmp 47)) .done))))))))) false 2 [0, 1, 4],
  .reg (.q (some 35) none (.mov (.tmp 12)) (.q (some 36) none (.mov (.tmp 6)) (.q (some 37) none (.mov (.tmp 9)) (.q (some 38) none (.bin .mul (.tmp 36) (.tmp 37)) (.q (some 39) none (.bin .add (.tmp 35) (.tmp 38)) (.q (some 12) none (.mov (.tmp 39)) .done)))))) false 3 [0, 1, 7, 9, 12, 13],
  .reg (.q (some 33) none (.mov (.tmp 11)) (.q (some 34) none (.bin .shr (.tmp 33) (.const (.int .u64 32))) (.q (some 13) none (.mov (.tmp 34)) .done))) false 4 [0, 1, 6, 7, 9, 12, 13],
  .reg (.q (some 31) none (.mov (.tmp 11)) (.q (some 32) none (.bin .and (.tmp 31) (.const (.int .u64 4294967295))) (.q (some 12) none (.mov (.tmp 32)) .done))) false 5 [0, 1, 6, 7, 9, 11, 12],
  .reg (.q (some 25) none (.mov (.tmp 7)) (.q (some 26) none (.mov (.tmp 8)) (.q (some 27) none (.bin .mul (.tmp 25) (.tmp 26)) (.q (some 28) none (.mov (.tmp 10)) (.q (some 29) none (.bin .shr (.tmp 28) (.const (.int .u64 32))) (.q (some 30) none (.bin .add (.tmp 27) (.tmp 29)) (.q (some 11) none (.mov (.tmp 30)) .done))))))) false 6 [0, 1, 6, 7, 9, 11],
  .reg (.q (some 22) none (.mov (.tmp 6)) (.q (some 23) none (.mov (.tmp 8)) (.q (some 24) none (.bin .mul (.tmp 22) (.tmp 23)) (.q (some 10) none (.mov (.tmp 24)) .done)))) false 7 [0, 1, 6, 7, 8, 9, 10],
  .reg (.q (some 20) none (.mov (.tmp 1)) (.q (some 21) none (.bin .shr (.tmp 20) (.const (.int .u64 32))) (.q (some 9) none (.mov (.tmp 21)) .done))) false 8 [0, 1, 6, 7, 8, 9],
  .reg (.q (some 18) none (.mov (.tmp 1)) (.q (some 19) none (.bin .and (.tmp 18) (.const (.int .u64 4294967295))) (.q (some 8) none (.mov (.tmp 19)) .done))) false 9 [0, 1, 6, 7, 8],
  .reg (.q (some 16) none (.mov (.tmp 0)) (.q (some 17) none (.bin .shr (.tmp 16) (.const (.int .u64 32))) (.q (some 7) none (.mov (.tmp 17)) .done))) false 10 [0, 1, 6, 7],
  .reg (.q (some 14) none (.mov (.tmp 0)) (.q (some 15) none (.bin .and (.tmp 14) (.const (.int .u64 4294967295))) (.q (some 6) none (.mov (.tmp 15)) .done))) false 11 [0, 1, 6],
  .reg (.q (some 4) none (.mov (.const (.int .u64 0))) (.q (some 5) none (.mov (.const (.int .u64 0))) .done)) false 12 [0, 1]
  ]
theorem c42_ok : cfgL Tryd.prog 42 = some (51, 13, c42.map Vc.Node.bare) := by kernel_rfl
/- internal/stringslite.HasPrefix: entry 3 -/
def c43 : List Vc.Node := [
  .ret [.t 4],
  .ret [.t 4],
  .reg (.q (some 5) none (.mov (.tmp 0)) (.q (some 6) none (.lenT (.tmp 5)) (.q (some 7) none (.mov (.tmp 1)) (.q (some 8) none (.lenT (.tmp 7)) (.q (some 9) none (.bin .geq (.tmp 6) (.tmp 8)) (.q (some 10) none (.mov (.tmp 9)) (.q (some 11) (some (10, true)) (.mov (.tmp 0)) (.q (some 12) (some (10, true)) (.mov (.tmp 1)) (.q (some 13) (some (10, true)) (.lenT (.tmp 12)) (.q (some 14) (some (10, true)) (.slcT (.tmp 11) none (some (.tmp 13))) (.q (some 15) (some (10, true)) (.mov (.tmp 1)) (.q (some 16) (some (10, true)) (.bin .eql (.tmp 14) (.tmp 15)) (.q (some 17) none (.pick (.tmp 10) (.tmp 16) (.const (.bool false))) (.q (some 4) none (.mov (.tmp 17)) .done)))))))))))))) false 1 [4],
  .reg (.q (some 4) none (.mov (.const (.bool false))) .done) false 2 [0, 1]
  ]
theorem c43_ok : cfgL Tryd.prog 43 = some (18, 3, c43.map Vc.Node.bare) := by kernel_rfl
/- (*strings.Builder).copyCheck: entry 6 -/
def c44 : List Vc.Node := [
  .ret [],
  .reg (.q (some 7) none (.mov (.tmp 0)) (.q (some 8) none (.mov (.tmp 0)) (.l (some 9) none (.cvx 52 94 (.tmp 8)) [] (.l (some 10) none (.callx 60 [(.tmp 9)]) [] (.l (some 11) none (.cvx 94 52 (.tmp 10)) [] (.q (some 12) none (.nc (.tmp 7)) (.q (some 13) none (.fadr 0 (.tmp 12)) (.l none none (.st1 (.tmp 13) (.tmp 11)) [] .done)))))))) false 0 [],
  .bad,
  .cnd (.tmp 19) 2 0,
  .reg (.q (some 14) none (.mov (.tmp 0)) (.q (some 15) none (.nc (.tmp 14)) (.q (some 16) none (.fadr 0 (.tmp 15)) (.q (some 17) none (.ld1 (.tmp 16)) (.q (some 18) none (.mov (.tmp 0)) (.q (some 19) none (.eqP true (.tmp 17) (.tmp 18)) .done)))))) false 3 [19],
  .cnd (.tmp 6) 1 4,
  .reg (.q (some 2) none (.mov (.tmp 0)) (.q (some 3) none (.nc (.tmp 2)) (.q (some 4) none (.fadr 0 (.tmp 3)) (.q (some 5) none (.ld1 (.tmp 4)) (.q (some 6) none (.eqP false (.tmp 5) (.const (.pointer none))) .done))))) false 5 [0, 6]
  ]
theorem c44_ok : cfgL Tryd.prog 44 = some (20, 6, c44.map Vc.Node.bare) := by kernel_rfl
/- (*strings.Builder).grow: entry 3 -/
def c45 : List Vc.Node := [
  .ret [],
  .reg (.q (some 26) none (.mov (.tmp 0)) (.q (some 27) none (.mov (.tmp 4)) (.q (some 28) none (.nc (.tmp 26)) (.q (some 29) none (.fadr 1 (.tmp 28)) (.l none none (.st1 (.tmp 29) (.tmp 27)) [] .done))))) false 0 [],
  .reg (.q (some 20) none (.mov (.tmp 4)) (.q (some 21) none (.mov (.tmp 0)) (.q (some 22) none (.nc (.tmp 21)) (.q (some 23) none (.fadr 1 (.tmp 22)) (.q (some 24) none (.ld1 (.tmp 23)) (.l (some 25) none (.cpy 1 (.tmp 20) (.tmp 24)) [] .done)))))) false 1 [0, 4],
  .reg (.q (some 5) none (.mov (.tmp 0)) (.q (some 6) none (.nc (.tmp 5)) (.q (some 7) none (.fadr 1 (.tmp 6)) (.q (some 8) none (.ld1 (.tmp 7)) (.q (some 9) none (.cap (.tmp 8)) (.q (some 10) none (.bin .mul (.const (.int .i64 2)) (.tmp 9)) (.q (some 11) none (.mov (.tmp 1)) (.q (some 12) none (.bin .add (.tmp 10) (.tmp 11)) (.q (some 14) none (.mov (.tmp 0)) (.q (some 15) none (.nc (.tmp 14)) (.q (some 16) none (.fadr 1 (.tmp 15)) (.q (some 17) none (.ld1 (.tmp 16)) (.q (some 18) none (.len (.tmp 17)) (.l (some 13) none (.callx 61 [(.tmp 12)]) [⟨17, none, (.ld1 (.tmp 16))⟩] (.q (some 19) none (.slcS 1 (.tmp 13) none (some (.tmp 18))) (.q (some 4) none (.mov (.tmp 19)) .done)))))))))))))))) true 2 [0, 4]
  ]
theorem c45_ok : cfgL Tryd.prog 45 = some (30, 3, c45.map Vc.Node.bare) := by kernel_rfl
/- internal/strconv.log10Pow2: entry 3 -/
def c46 : List Vc.Node := [
  .ret [.t 2],
  .ret [.t 2],
  .reg (.q (some 3) none (.mov (.tmp 0)) (.q (some 4) none (.bin .mul (.tmp 3) (.const (.int .i64 78913))) (.q (some 5) none (.bin .shr (.tmp 4) (.const (.int .u64 18))) (.q (some 2) none (.mov (.tmp 5)) .done)))) false 1 [2],
  .reg (.q (some 2) none (.mov (.const (.int .i64 0))) .done) false 2 [0]
  ]
theorem c46_ok : cfgL Tryd.prog 46 = some (6, 3, c46.map Vc.Node.bare) := by kernel_rfl
/- math/bits.Len64: entry 15 -/
def c47 : List Vc.Node := [
  .ret [.t 2],
  .ret [.t 2],
  .reg (.q (some 19) none (.mov (.tmp 2)) (.q (some 20) none (.mov (.tmp 0)) (.q (some 21) none (.cvi .u8 (.tmp 20)) (.q (some 22) none (.idxS (.const (.string ⟨#[0, 1, 2, 2, 3, 3, 3, 3, 4, 4, 4, 4, 4, 4, 4, 4, 5, 5, 5, 5, 5, 5, 5, 5, 5, 5, 5, 5, 5, 5, 5, 5, 6, 6, 6, 6, 6, 6, 6, 6, 6, 6, 6, 6, 6, 6, 6, 6, 6, 6, 6, 6, 6, 6, 6, 6, 6, 6, 6, 6, 6, 6, 6, 6, 7, 7, 7, 7, 7, 7, 7, 7, 7, 7, 7, 7, 7, 7, 7, 7, 7, 7, 7, 7, 7, 7, 7, 7, 7, 7, 7, 7, 7, 7, 7, 7, 7, 7, 7, 7, 7, 7, 7, 7, 7, 7, 7, 7, 7, 7, 7, 7, 7, 7, 7, 7, 7, 7, 7, 7, 7, 7, 7, 7, 7, 7, 7, 7, 8, 8, 8, 8, 8, 8, 8, 8, 8, 8, 8, 8, 8, 8, 8, 8, 8, 8, 8, 8, 8, 8, 8, 8, 8, 8, 8, 8, 8, 8, 8, 8, 8, 8, 8, 8, 8, 8, 8, 8, 8, 8, 8, 8, 8, 8, 8, 8, 8, 8, 8, 8, 8, 8, 8, 8, 8, 8, 8, 8, 8, 8, 8, 8, 8, 8, 8, 8, 8, 8, 8, 8, 8, 8, 8, 8, 8, 8, 8, 8, 8, 8, 8, 8, 8, 8, 8, 8, 8, 8, 8, 8, 8, 8, 8, 8, 8, 8, 8, 8, 8, 8, 8, 8, 8, 8, 8, 8, 8, 8, 8, 8, 8, 8, 8, 8, 8, 8, 8, 8, 8, 8, 8, 8, 8, 8, 8, 8]⟩)) (.tmp 21)) (.q (some 23) none (.cvi .i64 (.tmp 22)) (.q (some 24) none (.bin .add (.tmp 19) (.tmp 23)) (.q (some 2) none (.mov (.tmp 24)) .done))))))) false 1 [2],
  .reg (.q (some 17) none (.mov (.tmp 2)) (.q (some 18) none (.bin .add (.tmp 17) (.const (.int .i64 8))) (.q (some 2) none (.mov (.tmp 18)) .done))) false 2 [0, 2],
  .reg (.q (some 15) none (.mov (.tmp 0)) (.q (some 16) none (.bin .shr (.tmp 15) (.const (.int .u64 8))) (.q (some 0) none (.mov (.tmp 16)) .done))) false 3 [0, 2],
  .cnd (.tmp 14) 4 2,
  .reg (.q (some 13) none (.mov (.tmp 0)) (.q (some 14) none (.bin .geq (.tmp 13) (.const (.int .u64 256))) .done)) false 5 [0, 2, 14],
  .reg (.q (some 11) none (.mov (.tmp 2)) (.q (some 12) none (.bin .add (.tmp 11) (.const (.int .i64 16))) (.q (some 2) none (.mov (.tmp 12)) .done))) false 6 [0, 2],
  .reg (.q (some 9) none (.mov (.tmp 0)) (.q (some 10) none (.bin .shr (.tmp 9) (.const (.int .u64 16))) (.q (some 0) none (.mov (.tmp 10)) .done))) false 7 [0, 2],
  .cnd (.tmp 8) 8 6,
  .reg (.q (some 7) none (.mov (.tmp 0)) (.q (some 8) none (.bin .geq (.tmp 7) (.const (.int .u64 65536))) .done)) false 9 [0, 2, 8],
  .reg (.q (some 2) none (.mov (.const (.int .i64 32))) .done) false 10 [0, 2],
  .reg (.q (some 5) none (.mov (.tmp 0)) (.q (some 6) none (.bin .shr (.tmp 5) (.const (.int .u64 32))) (.q (some 0) none (.mov (.tmp 6)) .done))) false 11 [0],
  .cnd (.tmp 4) 12 10,
  .reg (.q (some 3) none (.mov (.tmp 0)) (.q (some 4) none (.bin .geq (.tmp 3) (.const (.int .u64 4294967296))) .done)) false 13 [0, 2, 4],
  .reg (.q (some 2) none (.mov (.const (.int .i64 0))) .done) false 14 [0, 2]
  ]
theorem c47_ok : cfgL Tryd.prog 47 = some (25, 15, c47.map Vc.Node.bare) := by kernel_rfl
/- internal/strconv.bool2[int]: entry 7 -/
def c48 : List Vc.Node := [
  .ret [.t 2],
  .ret [.t 2],
  .reg (.q (some 2) none (.mov (.const (.int .i64 0))) .done) false 1 [2],
  .ret [.t 2],
  .reg (.q (some 2) none (.mov (.const (.int .i64 1))) .done) false 3 [2],
  .cnd (.tmp 3) 4 2,
  .reg (.q (some 3) none (.mov (.tmp 0)) .done) false 5 [3],
  .reg (.q (some 2) none (.mov (.const (.int .i64 0))) .done) false 6 [0]
  ]
theorem c48_ok : cfgL Tryd.prog 48 = some (4, 7, c48.map Vc.Node.bare) := by kernel_rfl
/- internal/strconv.isPowerOfTwo: entry 3 -/
def c49 : List Vc.Node := [
  .ret [.t 2],
  .ret [.t 2],
  .reg (.q (some 3) none (.mov (.tmp 0)) (.q (some 4) none (.mov (.tmp 0)) (.q (some 5) none (.bin .sub (.tmp 4) (.const (.int .i64 1))) (.q (some 6) none (.bin .and (.tmp 3) (.tmp 5)) (.q (some 7) none (.bin .eql (.tmp 6) (.const (.int .i64 0))) (.q (some 2) none (.mov (.tmp 7)) .done)))))) false 1 [2],
  .reg (.q (some 2) none (.mov (.const (.bool false))) .done) false 2 [0]
  ]
theorem c49_ok : cfgL Tryd.prog 49 = some (8, 3, c49.map Vc.Node.bare) := by kernel_rfl
/- math/bits.TrailingZeros: entry 6 -/
def c50 : List Vc.Node := [
  .ret [.t 2],
  .ret [.t 2],
  .reg (.q (some 6) none (.mov (.tmp 0)) (.l (some 7) none (.call 63 [(.tmp 6)]) [] (.q (some 2) none (.mov (.tmp 7)) .done))) false 1 [2],
  .ret [.t 2],
  .reg (.q (some 3) none (.mov (.tmp 0)) (.q (some 4) none (.cvi .u32 (.tmp 3)) (.l (some 5) none (.call 62 [(.tmp 4)]) [] (.q (some 2) none (.mov (.tmp 5)) .done)))) false 3 [2],
  .cnd (.const (.bool false)) 4 2,
  .reg (.q (some 2) none (.mov (.const (.int .i64 0))) .done) false 5 [0]
  ]
theorem c50_ok : cfgL Tryd.prog 50 = some (8, 6, c50.map Vc.Node.bare) := by kernel_rfl
/- internal/stringslite.IndexByte: entry 3 -/
def c51 : List Vc.Node := [
  .ret [.t 4],
  .ret [.t 4],
  .reg (.q (some 5) none (.mov (.tmp 0)) (.q (some 6) none (.mov (.tmp 1)) (.l (some 7) none (.callx 64 [(.tmp 5), (.tmp 6)]) [] (.q (some 4) none (.mov (.tmp 7)) .done)))) false 1 [4],
  .reg (.q (some 4) none (.mov (.const (.int .i64 0))) .done) false 2 [0, 1]
  ]
theorem c51_ok : cfgL Tryd.prog 51 = some (8, 3, c51.map Vc.Node.bare) := by kernel_rfl
/- internal/bytealg.Cutover: entry 3 -/
def c53 : List Vc.Node := [
  .ret [.t 2],
  .ret [.t 2],
  .reg (.q (some 3) none (.mov (.tmp 0)) (.q (some 4) none (.bin .add (.tmp 3) (.const (.int .i64 16))) (.q (some 5) none (.bin .quo (.tmp 4) (.const (.int .i64 8))) (.q (some 2) none (.mov (.tmp 5)) .done)))) false 1 [2],
  .reg (.q (some 2) none (.mov (.const (.int .i64 0))) .done) false 2 [0]
  ]
theorem c53_ok : cfgL Tryd.prog 53 = some (6, 3, c53.map Vc.Node.bare) := by kernel_rfl
/- internal/bytealg.IndexRabinKarp[string]: entry 28 -/
def c54 : List Vc.Node := [
  .ret [.t 4],
  .ret [.t 4],
  .reg (.q (some 4) none (.mov (.const (.int .i64 (-1)))) .done) false 1 [4],
  .jmp 13,
  .ret [.t 4],
  .reg (.q (some 78) none (.mov (.tmp 10)) (.q (some 79) none (.mov (.tmp 7)) (.q (some 80) none (.bin .sub (.tmp 78) (.tmp 79)) (.q (some 4) none (.mov (.tmp 80)) .done)))) false 4 [4],
  .cnd (.tmp 77) 5 3,
  .reg (.q (some 65) none (.mov (.tmp 8)) (.q (some 66) none (.mov (.tmp 5)) (.q (some 67) none (.bin .eql (.tmp 65) (.tmp 66)) (.q (some 68) none (.mov (.tmp 67)) (.q (some 69) (some (68, true)) (.mov (.tmp 0)) (.q (some 70) (some (68, true)) (.mov (.tmp 10)) (.q (some 71) (some (68, true)) (.mov (.tmp 7)) (.q (some 72) (some (68, true)) (.bin .sub (.tmp 70) (.tmp 71)) (.q (some 73) (some (68, true)) (.mov (.tmp 10)) (.q (some 74) (some (68, true)) (.slcT (.tmp 69) (some (.tmp 72)) (some (.tmp 73))) (.q (some 75) (some (68, true)) (.mov (.tmp 1)) (.q (some 76) (some (68, true)) (.bin .eql (.tmp 74) (.tmp 75)) (.q (some 77) none (.pick (.tmp 68) (.tmp 76) (.const (.bool false))) .done))))))))))))) false 6 [0, 1, 5, 6, 7, 8, 10, 77],
  .reg (.q (some 63) none (.mov (.tmp 10)) (.q (some 64) none (.bin .add (.tmp 63) (.const (.int .i64 1))) (.q (some 10) none (.mov (.tmp 64)) .done))) false 7 [0, 1, 5, 6, 7, 8, 10],
  .reg (.q (some 53) none (.mov (.tmp 8)) (.q (some 54) none (.mov (.tmp 6)) (.q (some 55) none (.mov (.tmp 0)) (.q (some 56) none (.mov (.tmp 10)) (.q (some 57) none (.mov (.tmp 7)) (.q (some 58) none (.bin .sub (.tmp 56) (.tmp 57)) (.q (some 59) none (.idxS (.tmp 55) (.tmp 58)) (.q (some 60) none (.cvi .u32 (.tmp 59)) (.q (some 61) none (.bin .mul (.tmp 54) (.tmp 60)) (.q (some 62) none (.bin .sub (.tmp 53) (.tmp 61)) (.q (some 8) none (.mov (.tmp 62)) .done))))))))))) false 8 [0, 1, 5, 6, 7, 8, 10],
  .reg (.q (some 47) none (.mov (.tmp 8)) (.q (some 48) none (.mov (.tmp 0)) (.q (some 49) none (.mov (.tmp 10)) (.q (some 50) none (.idxS (.tmp 48) (.tmp 49)) (.q (some 51) none (.cvi .u32 (.tmp 50)) (.q (some 52) none (.bin .add (.tmp 47) (.tmp 51)) (.q (some 8) none (.mov (.tmp 52)) .done))))))) false 9 [0, 1, 5, 6, 7, 8, 10],
  .reg (.q (some 45) none (.mov (.tmp 8)) (.q (some 46) none (.bin .mul (.tmp 45) (.const (.int .u32 16777619))) (.q (some 8) none (.mov (.tmp 46)) .done))) false 10 [0, 1, 5, 6, 7, 8, 10],
  .cnd (.tmp 44) 11 2,
  .reg (.q (some 41) none (.mov (.tmp 10)) (.q (some 42) none (.mov (.tmp 0)) (.q (some 43) none (.lenT (.tmp 42)) (.q (some 44) none (.bin .lss (.tmp 41) (.tmp 43)) .done)))) false 12 [0, 1, 5, 6, 7, 8, 10, 44],
  .reg (.q (some 40) none (.mov (.tmp 7)) (.q (some 10) none (.mov (.tmp 40)) .done)) false 13 [0, 1, 5, 6, 7, 8, 10],
  .ret [.t 4],
  .reg (.q (some 4) none (.mov (.const (.int .i64 0))) .done) false 15 [4],
  .cnd (.tmp 39) 16 14,
  .reg (.q (some 30) none (.mov (.tmp 8)) (.q (some 31) none (.mov (.tmp 5)) (.q (some 32) none (.bin .eql (.tmp 30) (.tmp 31)) (.q (some 33) none (.mov (.tmp 32)) (.q (some 34) (some (33, true)) (.mov (.tmp 0)) (.q (some 35) (some (33, true)) (.mov (.tmp 7)) (.q (some 36) (some (33, true)) (.slcT (.tmp 34) none (some (.tmp 35))) (.q (some 37) (some (33, true)) (.mov (.tmp 1)) (.q (some 38) (some (33, true)) (.bin .eql (.tmp 36) (.tmp 37)) (.q (some 39) none (.pick (.tmp 33) (.tmp 38) (.const (.bool false))) .done)))))))))) false 17 [0, 1, 5, 6, 7, 8, 39],
  .jmp 23,
  .reg (.q (some 21) none (.mov (.tmp 9)) (.q (some 22) none (.bin .add (.tmp 21) (.const (.int .i64 1))) (.q (some 9) none (.mov (.tmp 22)) .done))) false 19 [0, 1, 5, 6, 7, 8, 9],
  .reg (.q (some 23) none (.mov (.tmp 8)) (.q (some 24) none (.bin .mul (.tmp 23) (.const (.int .u32 16777619))) (.q (some 25) none (.mov (.tmp 0)) (.q (some 26) none (.mov (.tmp 9)) (.q (some 27) none (.idxS (.tmp 25) (.tmp 26)) (.q (some 28) none (.cvi .u32 (.tmp 27)) (.q (some 29) none (.bin .add (.tmp 24) (.tmp 28)) (.q (some 8) none (.mov (.tmp 29)) .done)))))))) false 20 [0, 1, 5, 6, 7, 8, 9],
  .cnd (.tmp 20) 21 18,
  .reg (.q (some 18) none (.mov (.tmp 9)) (.q (some 19) none (.mov (.tmp 7)) (.q (some 20) none (.bin .lss (.tmp 18) (.tmp 19)) .done))) false 22 [0, 1, 5, 6, 7, 8, 9, 20],
  .reg (.q (some 9) none (.mov (.const (.int .i64 0))) .done) false 23 [0, 1, 5, 6, 7, 8, 9],
  .reg (.q (some 8) none (.mov (.const (.int .u32 0))) .done) false 24 [0, 1, 5, 6, 7, 8],
  .reg (.q (some 16) none (.mov (.tmp 1)) (.q (some 17) none (.lenT (.tmp 16)) (.q (some 7) none (.mov (.tmp 17)) .done))) false 25 [0, 1, 5, 6, 7],
  .reg (.q (some 12) none (.mov (.tmp 1)) (.l (some 13) none (.call 65 [(.tmp 12)]) [] (.q (some 11) none (.mov (.tmp 13)) (.q (some 14) none (.ext 0 (.tmp 11)) (.q (some 15) none (.ext 1 (.tmp 11)) (.q (some 5) none (.mov (.tmp 14)) (.q (some 6) none (.mov (.tmp 15)) .done))))))) false 26 [0, 1, 5, 6],
  .reg (.q (some 4) none (.mov (.const (.int .i64 0))) .done) false 27 [0, 1]
  ]
theorem c54_ok : cfgL Tryd.prog 54 = some (81, 28, c54.map Vc.Node.bare) := by kernel_rfl
/- internal/strconv.lower: entry 3 -/
def c55 : List Vc.Node := [
  .ret [.t 2],
  .ret [.t 2],
  .reg (.q (some 3) none (.mov (.tmp 0)) (.q (some 4) none (.bin .or (.tmp 3) (.const (.int .u8 32))) (.q (some 2) none (.mov (.tmp 4)) .done))) false 1 [2],
  .reg (.q (some 2) none (.mov (.const (.int .u8 0))) .done) false 2 [0]
  ]
theorem c55_ok : cfgL Tryd.prog 55 = some (5, 3, c55.map Vc.Node.bare) := by kernel_rfl
/- internal/strconv.underscoreOK: entry 33 -/
def c56 : List Vc.Node := [
  .ret [.t 2],
  .ret [.t 2],
  .reg (.q (some 92) none (.mov (.tmp 3)) (.q (some 93) none (.bin .neq (.tmp 92) (.const (.int .i32 95))) (.q (some 2) none (.mov (.tmp 93)) .done))) false 1 [2],
  .jmp 21,
  .reg (.q (some 55) none (.mov (.tmp 4)) (.q (some 56) none (.bin .add (.tmp 55) (.const (.int .i64 1))) (.q (some 4) none (.mov (.tmp 56)) .done))) false 3 [0, 3, 4, 5],
  .reg (.q (some 3) none (.mov (.const (.int .i32 33))) .done) false 4 [0, 3, 4, 5],
  .ret [.t 2],
  .reg (.q (some 2) none (.mov (.const (.bool false))) .done) false 6 [2],
  .cnd (.tmp 91) 7 5,
  .reg (.q (some 90) none (.mov (.tmp 3)) (.q (some 91) none (.bin .eql (.tmp 90) (.const (.int .i32 95))) .done)) false 8 [0, 4, 5, 91],
  .reg (.q (some 3) none (.mov (.const (.int .i32 95))) .done) false 4 [0, 3, 4, 5],
  .ret [.t 2],
  .reg (.q (some 2) none (.mov (.const (.bool false))) .done) false 11 [2],
  .cnd (.tmp 89) 12 10,
  .reg (.q (some 88) none (.mov (.tmp 3)) (.q (some 89) none (.bin .neq (.tmp 88) (.const (.int .i32 48))) .done)) false 13 [0, 4, 5, 89],
  .cnd (.tmp 87) 14 9,
  .reg (.q (some 84) none (.mov (.tmp 0)) (.q (some 85) none (.mov (.tmp 4)) (.q (some 86) none (.idxS (.tmp 84) (.tmp 85)) (.q (some 87) none (.bin .eql (.tmp 86) (.const (.int .u8 95))) .done)))) false 15 [0, 3, 4, 5, 87],
  .reg (.q (some 3) none (.mov (.const (.int .i32 48))) .done) false 4 [0, 3, 4, 5],
  .cnd (.tmp 83) 17 16,
  .reg (.q (some 57) none (.mov (.tmp 0)) (.q (some 58) none (.mov (.tmp 4)) (.q (some 59) none (.idxS (.tmp 57) (.tmp 58)) (.q (some 60) none (.bin .leq (.const (.int .u8 48)) (.tmp 59)) (.q (some 61) none (.mov (.tmp 60)) (.q (some 62) (some (61, true)) (.mov (.tmp 0)) (.q (some 63) (some (61, true)) (.mov (.tmp 4)) (.q (some 64) (some (61, true)) (.idxS (.tmp 62) (.tmp 63)) (.q (some 65) (some (61, true)) (.bin .leq (.tmp 64) (.const (.int .u8 57))) (.q (some 66) none (.pick (.tmp 61) (.tmp 65) (.const (.bool false))) (.q (some 67) none (.mov (.tmp 66)) (.q (some 68) (some (67, false)) (.mov (.tmp 5)) (.q (some 69) (some (67, false)) (.mov (.tmp 68)) (.q (some 70) (some (69, true)) (.mov (.tmp 0)) (.q (some 71) (some (69, true)) (.mov (.tmp 4)) (.q (some 72) (some (69, true)) (.idxS (.tmp 70) (.tmp 71)) (.l (some 73) (some (69, true)) (.call 55 [(.tmp 72)]) [] (.q (some 74) (some (69, true)) (.bin .leq (.const (.int .u8 97)) (.tmp 73)) (.q (some 75) (some (67, false)) (.pick (.tmp 69) (.tmp 74) (.const (.bool false))) (.q (some 76) (some (67, false)) (.mov (.tmp 75)) (.q (some 77) (some (76, true)) (.mov (.tmp 0)) (.q (some 78) (some (76, true)) (.mov (.tmp 4)) (.q (some 79) (some (76, true)) (.idxS (.tmp 77) (.tmp 78)) (.l (some 80) (some (76, true)) (.call 55 [(.tmp 79)]) [] (.q (some 81) (some (76, true)) (.bin .leq (.tmp 80) (.const (.int .u8 102))) (.q (some 82) (some (67, false)) (.pick (.tmp 76) (.tmp 81) (.const (.bool false))) (.q (some 83) none (.pick (.tmp 67) (.const (.bool true)) (.tmp 82)) .done))))))))))))))))))))))))))) false 18 [0, 3, 4, 5, 83],
  .cnd (.tmp 54) 19 2,
  .reg (.q (some 51) none (.mov (.tmp 4)) (.q (some 52) none (.mov (.tmp 0)) (.q (some 53) none (.lenT (.tmp 52)) (.q (some 54) none (.bin .lss (.tmp 51) (.tmp 53)) .done)))) false 20 [0, 3, 4, 5, 54],
  .reg (.q (some 47) none (.mov (.tmp 0)) (.q (some 48) none (.idxS (.tmp 47) (.const (.int .i64 1))) (.l (some 49) none (.call 55 [(.tmp 48)]) [] (.q (some 50) none (.bin .eql (.tmp 49) (.const (.int .u8 120))) (.q (some 5) none (.mov (.tmp 50)) .done))))) false 21 [0, 3, 4, 5],
  .reg (.q (some 3) none (.mov (.const (.int .i32 48))) .done) false 22 [0, 3, 4],
  .reg (.q (some 4) none (.mov (.const (.int .i64 2))) .done) false 23 [0, 4],
  .cnd (.tmp 46) 24 21,
  .reg (.q (some 21) none (.mov (.tmp 0)) (.q (some 22) none (.lenT (.tmp 21)) (.q (some 23) none (.bin .geq (.tmp 22) (.const (.int .i64 2))) (.q (some 24) none (.mov (.tmp 23)) (.q (some 25) (some (24, true)) (.mov (.tmp 0)) (.q (some 26) (some (24, true)) (.idxS (.tmp 25) (.const (.int .i64 0))) (.q (some 27) (some (24, true)) (.bin .eql (.tmp 26) (.const (.int .u8 48))) (.q (some 28) none (.pick (.tmp 24) (.tmp 27) (.const (.bool false))) (.q (some 29) none (.mov (.tmp 28)) (.q (some 30) (some (29, true)) (.mov (.tmp 0)) (.q (some 31) (some (29, true)) (.idxS (.tmp 30) (.const (.int .i64 1))) (.l (some 32) (some (29, true)) (.call 55 [(.tmp 31)]) [] (.q (some 33) (some (29, true)) (.bin .eql (.tmp 32) (.const (.int .u8 98))) (.q (some 34) (some (29, true)) (.mov (.tmp 33)) (.q (some 35) (some (34, false)) (.mov (.tmp 0)) (.q (some 36) (some (34, false)) (.idxS (.tmp 35) (.const (.int .i64 1))) (.l (some 37) (some (34, false)) (.call 55 [(.tmp 36)]) [] (.q (some 38) (some (34, false)) (.bin .eql (.tmp 37) (.const (.int .u8 111))) (.q (some 39) (some (29, true)) (.pick (.tmp 34) (.const (.bool true)) (.tmp 38)) (.q (some 40) (some (29, true)) (.mov (.tmp 39)) (.q (some 41) (some (40, false)) (.mov (.tmp 0)) (.q (some 42) (some (40, false)) (.idxS (.tmp 41) (.const (.int .i64 1))) (.l (some 43) (some (40, false)) (.call 55 [(.tmp 42)]) [] (.q (some 44) (some (40, false)) (.bin .eql (.tmp 43) (.const (.int .u8 120))) (.q (some 45) (some (29, true)) (.pick (.tmp 40) (.const (.bool true)) (.tmp 44)) (.q (some 46) none (.pick (.tmp 29) (.tmp 45) (.const (.bool false))) .done)))))))))))))))))))))))))) false 25 [0, 3, 4, 5, 46],
  .reg (.q (some 5) none (.mov (.const (.bool false))) .done) false 26 [0, 3, 4, 5],
  .reg (.q (some 19) none (.mov (.tmp 0)) (.q (some 20) none (.slcT (.tmp 19) (some (.const (.int .i64 1))) none) (.q (some 0) none (.mov (.tmp 20)) .done))) false 27 [0, 3, 4],
  .cnd (.tmp 18) 28 27,
  .reg (.q (some 6) none (.mov (.tmp 0)) (.q (some 7) none (.lenT (.tmp 6)) (.q (some 8) none (.bin .geq (.tmp 7) (.const (.int .i64 1))) (.q (some 9) none (.mov (.tmp 8)) (.q (some 10) (some (9, true)) (.mov (.tmp 0)) (.q (some 11) (some (9, true)) (.idxS (.tmp 10) (.const (.int .i64 0))) (.q (some 12) (some (9, true)) (.bin .eql (.tmp 11) (.const (.int .u8 45))) (.q (some 13) (some (9, true)) (.mov (.tmp 12)) (.q (some 14) (some (13, false)) (.mov (.tmp 0)) (.q (some 15) (some (13, false)) (.idxS (.tmp 14) (.const (.int .i64 0))) (.q (some 16) (some (13, false)) (.bin .eql (.tmp 15) (.const (.int .u8 43))) (.q (some 17) (some (9, true)) (.pick (.tmp 13) (.const (.bool true)) (.tmp 16)) (.q (some 18) none (.pick (.tmp 9) (.tmp 17) (.const (.bool false))) .done))))))))))))) false 29 [0, 3, 4, 18],
  .reg (.q (some 4) none (.mov (.const (.int .i64 0))) .done) false 30 [0, 3, 4],
  .reg (.q (some 3) none (.mov (.const (.int .i32 94))) .done) false 31 [0, 3],
  .reg (.q (some 2) none (.mov (.const (.bool false))) .done) false 32 [0]
  ]
theorem c56_ok : cfgL Tryd.prog 56 = some (94, 33, c56.map Vc.Node.bare) := by kernel_rfl
/- internal/stringslite.Clone: entry 9 -/
def c57 : List Vc.Node := [
  .ret [.t 2],
  .ret [.t 2],
  .reg (.q (some 13) none (.mov (.tmp 3)) (.q (some 14) none (.iadrS 1 (.tmp 13) (.const (.int .i64 0))) (.q (some 15) none (.mov (.tmp 3)) (.q (some 16) none (.len (.tmp 15)) (.l (some 17) none (.bix .unsafeString [80, 3] 9 [false, false] [(.tmp 14), (.tmp 16)]) [] (.q (some 2) none (.mov (.tmp 17)) .done)))))) false 1 [2],
  .reg (.q (some 10) none (.mov (.tmp 3)) (.q (some 11) none (.mov (.tmp 0)) (.l (some 12) none (.bix .copy [53, 9] 3 [false, false] [(.tmp 10), (.tmp 11)]) [] .done))) false 2 [3],
  .reg (.q (some 7) none (.mov (.tmp 0)) (.q (some 8) none (.lenT (.tmp 7)) (.l (some 9) none (.mkS 5 1 1 [(1, (.int .u8 0))] (.tmp 8) (.tmp 8)) [] (.q (some 3) none (.mov (.tmp 9)) .done)))) false 3 [0, 3],
  .ret [.t 2],
  .reg (.q (some 2) none (.mov (.const (.string ⟨#[]⟩))) .done) false 5 [2],
  .cnd (.tmp 6) 6 4,
  .reg (.q (some 4) none (.mov (.tmp 0)) (.q (some 5) none (.lenT (.tmp 4)) (.q (some 6) none (.bin .eql (.tmp 5) (.const (.int .i64 0))) .done))) false 7 [0, 6],
  .reg (.q (some 2) none (.mov (.const (.string ⟨#[]⟩))) .done) false 8 [0]
  ]
theorem c57_ok : cfgL Tryd.prog 57 = some (18, 9, c57.map Vc.Node.bare) := by kernel_rfl
/- errors.New: entry 3 -/
def c58 : List Vc.Node := [
  .ret [.t 2],
  .ret [.t 2],
  .reg (.q (some 3) none (.mov (.tmp 0)) (.q (some 4) none (.bld [.x 1 (.tmp 3)]) (.l (some 5) none (.box 101 (.tmp 4)) [] (.q (some 6) none (.mif 99 (.tmp 5)) (.q (some 2) none (.mov (.tmp 6)) .done))))) false 1 [2],
  .reg (.q (some 2) none (.mov (.const .nilIface)) .done) false 2 [0]
  ]
theorem c58_ok : cfgL Tryd.prog 58 = some (7, 3, c58.map Vc.Node.bare) := by kernel_rfl
/- strconv.Itoa: entry 3 -/
def c59 : List Vc.Node := [
  .ret [.t 2],
  .ret [.t 2],
  .reg (.q (some 3) none (.mov (.tmp 0)) (.l (some 4) none (.call 66 [(.tmp 3)]) [] (.q (some 2) none (.mov (.tmp 4)) .done))) false 1 [2],
  .reg (.q (some 2) none (.mov (.const (.string ⟨#[]⟩))) .done) false 2 [0]
  ]
theorem c59_ok : cfgL Tryd.prog 59 = some (5, 3, c59.map Vc.Node.bare) := by kernel_rfl
/- math/bits.TrailingZeros32: entry 7 -/
def c62 : List Vc.Node := [
  .ret [.t 2],
  .ret [.t 2],
  .reg (.q (some 5) none (.mov (.tmp 0)) (.q (some 6) none (.mov (.tmp 0)) (.q (some 7) none (.neg (.tmp 6)) (.q (some 8) none (.bin .and (.tmp 5) (.tmp 7)) (.q (some 9) none (.bin .mul (.tmp 8) (.const (.int .u32 125613361))) (.q (some 10) none (.bin .shr (.tmp 9) (.const (.int .u64 27))) (.q (some 11) none (.iadrA 32 1 (.global 4) (.tmp 10)) (.q (some 12) none (.ld1 (.tmp 11)) (.q (some 13) none (.cvi .i64 (.tmp 12)) (.q (some 2) none (.mov (.tmp 13)) .done)))))))))) false 1 [2],
  .ret [.t 2],
  .reg (.q (some 2) none (.mov (.const (.int .i64 32))) .done) false 3 [2],
  .cnd (.tmp 4) 4 2,
  .reg (.q (some 3) none (.mov (.tmp 0)) (.q (some 4) none (.bin .eql (.tmp 3) (.const (.int .u32 0))) .done)) false 5 [0, 4],
  .reg (.q (some 2) none (.mov (.const (.int .i64 0))) .done) false 6 [0]
  ]
theorem c62_ok : cfgL Tryd.prog 62 = some (14, 7, c62.map Vc.Node.bare) := by kernel_rfl
/- math/bits.TrailingZeros64: entry 7 -/
def c63 : List Vc.Node := [
  .ret [.t 2],
  .ret [.t 2],
  .reg (.q (some 5) none (.mov (.tmp 0)) (.q (some 6) none (.mov (.tmp 0)) (.q (some 7) none (.neg (.tmp 6)) (.q (some 8) none (.bin .and (.tmp 5) (.tmp 7)) (.q (some 9) none (.bin .mul (.tmp 8) (.const (.int .u64 285870213051353865))) (.q (some 10) none (.bin .shr (.tmp 9) (.const (.int .u64 58))) (.q (some 11) none (.iadrA 64 1 (.global 5) (.tmp 10)) (.q (some 12) none (.ld1 (.tmp 11)) (.q (some 13) none (.cvi .i64 (.tmp 12)) (.q (some 2) none (.mov (.tmp 13)) .done)))))))))) false 1 [2],
  .ret [.t 2],
  .reg (.q (some 2) none (.mov (.const (.int .i64 64))) .done) false 3 [2],
  .cnd (.tmp 4) 4 2,
  .reg (.q (some 3) none (.mov (.tmp 0)) (.q (some 4) none (.bin .eql (.tmp 3) (.const (.int .u64 0))) .done)) false 5 [0, 4],
  .reg (.q (some 2) none (.mov (.const (.int .i64 0))) .done) false 6 [0]
  ]
theorem c63_ok : cfgL Tryd.prog 63 = some (14, 7, c63.map Vc.Node.bare) := by kernel_rfl
/- internal/bytealg.hashStr[string]: entry 20 -/
def c65 : List Vc.Node := [
  .ret [.t 2, .t 3],
  .ret [.t 2, .t 3],
  .reg (.q (some 37) none (.mov (.tmp 4)) (.q (some 38) none (.mov (.tmp 6)) (.q (some 2) none (.mov (.tmp 37)) (.q (some 3) none (.mov (.tmp 38)) .done)))) false 1 [2, 3],
  .jmp 10,
  .reg (.q (some 26) none (.mov (.tmp 8)) (.q (some 27) none (.bin .shr (.tmp 26) (.const (.int .u64 1))) (.q (some 8) none (.mov (.tmp 27)) .done))) false 3 [4, 6, 7, 8],
  .reg (.q (some 34) none (.mov (.tmp 7)) (.q (some 35) none (.mov (.tmp 7)) (.q (some 36) none (.bin .mul (.tmp 34) (.tmp 35)) (.q (some 7) none (.mov (.tmp 36)) .done)))) false 4 [4, 6, 7, 8],
  .reg (.q (some 31) none (.mov (.tmp 6)) (.q (some 32) none (.mov (.tmp 7)) (.q (some 33) none (.bin .mul (.tmp 31) (.tmp 32)) (.q (some 6) none (.mov (.tmp 33)) .done)))) false 5 [4, 6, 7, 8],
  .cnd (.tmp 30) 6 5,
  .reg (.q (some 28) none (.mov (.tmp 8)) (.q (some 29) none (.bin .and (.tmp 28) (.const (.int .i64 1))) (.q (some 30) none (.bin .neq (.tmp 29) (.const (.int .i64 0))) .done))) false 7 [4, 6, 7, 8, 30],
  .cnd (.tmp 25) 8 2,
  .reg (.q (some 24) none (.mov (.tmp 8)) (.q (some 25) none (.bin .gtr (.tmp 24) (.const (.int .i64 0))) .done)) false 9 [4, 6, 7, 8, 25],
  .reg (.q (some 22) none (.mov (.tmp 0)) (.q (some 23) none (.lenT (.tmp 22)) (.q (some 8) none (.mov (.tmp 23)) .done))) false 10 [4, 6, 7, 8],
  .reg (.q (some 6) none (.mov (.const (.int .u32 1))) (.q (some 7) none (.mov (.const (.int .u32 16777619))) .done)) false 11 [0, 4, 6, 7],
  .jmp 17,
  .reg (.q (some 13) none (.mov (.tmp 5)) (.q (some 14) none (.bin .add (.tmp 13) (.const (.int .i64 1))) (.q (some 5) none (.mov (.tmp 14)) .done))) false 13 [0, 4, 5],
  .reg (.q (some 15) none (.mov (.tmp 4)) (.q (some 16) none (.bin .mul (.tmp 15) (.const (.int .u32 16777619))) (.q (some 17) none (.mov (.tmp 0)) (.q (some 18) none (.mov (.tmp 5)) (.q (some 19) none (.idxS (.tmp 17) (.tmp 18)) (.q (some 20) none (.cvi .u32 (.tmp 19)) (.q (some 21) none (.bin .add (.tmp 16) (.tmp 20)) (.q (some 4) none (.mov (.tmp 21)) .done)))))))) false 14 [0, 4, 5],
  .cnd (.tmp 12) 15 12,
  .reg (.q (some 9) none (.mov (.tmp 5)) (.q (some 10) none (.mov (.tmp 0)) (.q (some 11) none (.lenT (.tmp 10)) (.q (some 12) none (.bin .lss (.tmp 9) (.tmp 11)) .done)))) false 16 [0, 4, 5, 12],
  .reg (.q (some 5) none (.mov (.const (.int .i64 0))) .done) false 17 [0, 4, 5],
  .reg (.q (some 4) none (.mov (.const (.int .u32 0))) .done) false 18 [0, 4],
  .reg (.q (some 2) none (.mov (.const (.int .u32 0))) (.q (some 3) none (.mov (.const (.int .u32 0))) .done)) false 19 [0]
  ]
theorem c65_ok : cfgL Tryd.prog 65 = some (39, 20, c65.map Vc.Node.bare) := by kernel_rfl
/- internal/strconv.Itoa: entry 3 -/
def c66 : List Vc.Node := [
  .ret [.t 2],
  .ret [.t 2],
  .reg (.q (some 3) none (.mov (.tmp 0)) (.l (some 4) none (.call 21 [(.tmp 3), (.const (.int .i64 10))]) [] (.q (some 2) none (.mov (.tmp 4)) .done))) false 1 [2],
  .reg (.q (some 2) none (.mov (.const (.string ⟨#[]⟩))) .done) false 2 [0]
  ]
theorem c66_ok : cfgL Tryd.prog 66 = some (5, 3, c66.map Vc.Node.bare) := by kernel_rfl
/- gosem.cut.vars: entry 5 -/
def c94 : List Vc.Node := [
  .ret [],
  .reg (.l (some 4) none (.call 58 [(.const (.string ⟨#[105, 110, 118, 97, 108, 105, 100, 32, 115, 121, 110, 116, 97, 120]⟩))]) [] (.l none none (.st1 (.global 2) (.tmp 4)) [] .done)) false 0 [],
  .reg (.l (some 3) none (.call 58 [(.const (.string ⟨#[118, 97, 108, 117, 101, 32, 111, 117, 116, 32, 111, 102, 32, 114, 97, 110, 103, 101]⟩))]) [] (.l none none (.st1 (.global 3) (.tmp 3)) [] .done)) false 1 [],
  .reg (.q (some 2) none (.bld [.x 1 (.const (.int .u64 1)), .x 1 (.const (.int .u64 10)), .x 1 (.const (.int .u64 100)), .x 1 (.const (.int .u64 1000)), .x 1 (.const (.int .u64 10000)), .x 1 (.const (.int .u64 100000)), .x 1 (.const (.int .u64 1000000)), .x 1 (.const (.int .u64 10000000)), .x 1 (.const (.int .u64 100000000)), .x 1 (.const (.int .u64 1000000000)), .x 1 (.const (.int .u64 10000000000)), .x 1 (.const (.int .u64 100000000000)), .x 1 (.const (.int .u64 1000000000000)), .x 1 (.const (.int .u64 10000000000000)), .x 1 (.const (.int .u64 100000000000000)), .x 1 (.const (.int .u64 1000000000000000)), .x 1 (.const (.int .u64 10000000000000000)), .x 1 (.const (.int .u64 100000000000000000)), .x 1 (.const (.int .u64 1000000000000000000)), .x 1 (.const (.int .u64 10000000000000000000))]) (.l none none (.stN 20 (.global 0) (.tmp 2)) [] .done)) false 2 [],
  .reg (.q (some 1) none (.bld [.x 1 (.const (.int .u8 0)), .x 1 (.const (.int .u8 1)), .x 1 (.const (.int .u8 56)), .x 1 (.const (.int .u8 2)), .x 1 (.const (.int .u8 57)), .x 1 (.const (.int .u8 49)), .x 1 (.const (.int .u8 28)), .x 1 (.const (.int .u8 3)), .x 1 (.const (.int .u8 61)), .x 1 (.const (.int .u8 58)), .x 1 (.const (.int .u8 42)), .x 1 (.const (.int .u8 50)), .x 1 (.const (.int .u8 38)), .x 1 (.const (.int .u8 29)), .x 1 (.const (.int .u8 17)), .x 1 (.const (.int .u8 4)), .x 1 (.const (.int .u8 62)), .x 1 (.const (.int .u8 47)), .x 1 (.const (.int .u8 59)), .x 1 (.const (.int .u8 36)), .x 1 (.const (.int .u8 45)), .x 1 (.const (.int .u8 43)), .x 1 (.const (.int .u8 51)), .x 1 (.const (.int .u8 22)), .x 1 (.const (.int .u8 53)), .x 1 (.const (.int .u8 39)), .x 1 (.const (.int .u8 33)), .x 1 (.const (.int .u8 30)), .x 1 (.const (.int .u8 24)), .x 1 (.const (.int .u8 18)), .x 1 (.const (.int .u8 12)), .x 1 (.const (.int .u8 5)), .x 1 (.const (.int .u8 63)), .x 1 (.const (.int .u8 55)), .x 1 (.const (.int .u8 48)), .x 1 (.const (.int .u8 27)), .x 1 (.const (.int .u8 60)), .x 1 (.const (.int .u8 41)), .x 1 (.const (.int .u8 37)), .x 1 (.const (.int .u8 16)), .x 1 (.const (.int .u8 46)), .x 1 (.const (.int .u8 35)), .x 1 (.const (.int .u8 44)), .x 1 (.const (.int .u8 21)), .x 1 (.const (.int .u8 52)), .x 1 (.const (.int .u8 32)), .x 1 (.const (.int .u8 23)), .x 1 (.const (.int .u8 11)), .x 1 (.const (.int .u8 54)), .x 1 (.const (.int .u8 26)), .x 1 (.const (.int .u8 40)), .x 1 (.const (.int .u8 15)), .x 1 (.const (.int .u8 34)), .x 1 (.const (.int .u8 20)), .x 1 (.const (.int .u8 31)), .x 1 (.const (.int .u8 10)), .x 1 (.const (.int .u8 25)), .x 1 (.const (.int .u8 14)), .x 1 (.const (.int .u8 19)), .x 1 (.const (.int .u8 9)), .x 1 (.const (.int .u8 13)), .x 1 (.const (.int .u8 8)), .x 1 (.const (.int .u8 7)), .x 1 (.const (.int .u8 6))]) (.l none none (.stN 64 (.global 5) (.tmp 1)) [] .done)) false 3 [],
  .reg (.q (some 0) none (.bld [.x 1 (.const (.int .u8 0)), .x 1 (.const (.int .u8 1)), .x 1 (.const (.int .u8 28)), .x 1 (.const (.int .u8 2)), .x 1 (.const (.int .u8 29)), .x 1 (.const (.int .u8 14)), .x 1 (.const (.int .u8 24)), .x 1 (.const (.int .u8 3)), .x 1 (.const (.int .u8 30)), .x 1 (.const (.int .u8 22)), .x 1 (.const (.int .u8 20)), .x 1 (.const (.int .u8 15)), .x 1 (.const (.int .u8 25)), .x 1 (.const (.int .u8 17)), .x 1 (.const (.int .u8 4)), .x 1 (.const (.int .u8 8)), .x 1 (.const (.int .u8 31)), .x 1 (.const (.int .u8 27)), .x 1 (.const (.int .u8 13)), .x 1 (.const (.int .u8 23)), .x 1 (.const (.int .u8 21)), .x 1 (.const (.int .u8 19)), .x 1 (.const (.int .u8 16)), .x 1 (.const (.int .u8 7)), .x 1 (.const (.int .u8 26)), .x 1 (.const (.int .u8 12)), .x 1 (.const (.int .u8 18)), .x 1 (.const (.int .u8 6)), .x 1 (.const (.int .u8 11)), .x 1 (.const (.int .u8 5)), .x 1 (.const (.int .u8 10)), .x 1 (.const (.int .u8 9))]) (.l none none (.stN 32 (.global 4) (.tmp 0)) [] .done)) false 4 []
  ]
theorem c94_ok : cfgL Tryd.prog 94 = some (5, 5, c94.map Vc.Node.bare) := by kernel_rfl
end Go.Proofs
