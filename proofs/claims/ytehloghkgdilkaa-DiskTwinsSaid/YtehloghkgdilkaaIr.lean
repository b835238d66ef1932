/- The graphs of this seat's functions, written by program, each held against the translation by the kernel. -/
import Derived.Test.YtehloghkgdilkaaProg
import Derived.Test.YtehloghkgdilkaaVcF
import Derived.KernelRfl
set_option linter.unusedSimpArgs false
set_option linter.unusedVariables false
set_option linter.constructorNameAsVariable false
namespace Go.Proofs
open Go.Vc
/- gosem.cut.init: entry 1 -/
def c2 : List Vc.Node := [
  .ret [],
  .reg (.l (some 0) none (.callx 1 []) [] .done) false 0 []
  ]
theorem c2_ok : cfgL Try.prog 2 = some (1, 1, c2.map Vc.Node.bare) := by kernel_rfl
/- strongbox/strongboxlaw07.DiskPlays: entry 19 -/
def c3 : List Vc.Node := [
  .ret [.t 4],
  .ret [.t 4],
  .reg (.q (some 4) none (.mov (.const (.bool true))) .done) false 1 [4],
  .jmp 12,
  .reg (.q (some 26) none (.mov (.tmp 7)) (.q (some 27) none (.bin .add (.tmp 26) (.const (.int .i64 1))) (.q (some 7) none (.mov (.tmp 27)) .done))) false 3 [1, 5, 6, 7],
  .ret [.t 4],
  .reg (.q (some 4) none (.mov (.const (.bool false))) .done) false 5 [4],
  .cnd (.tmp 46) 6 4,
  .reg (.q (some 39) none (.mov (.tmp 9)) (.q (some 40) none (.not (.tmp 39)) (.q (some 41) none (.mov (.tmp 40)) (.q (some 42) (some (41, false)) (.mov (.tmp 5)) (.q (some 43) (some (41, false)) (.ldN 4 (.tmp 6)) (.l (some 44) (some (41, false)) (.call 11 [(.tmp 42), (.tmp 43)]) [] (.q (some 45) (some (41, false)) (.not (.tmp 44)) (.q (some 46) none (.pick (.tmp 41) (.const (.bool true)) (.tmp 45)) .done)))))))) false 7 [1, 5, 6, 7, 46],
  .reg (.q (some 38) none (.ldN 4 (.tmp 8)) (.l none none (.stN 4 (.tmp 6) (.tmp 38)) [] .done)) false 8 [1, 5, 6, 7, 9],
  .reg (.q (some 29) none (.mov (.tmp 5)) (.q (some 30) none (.ldN 4 (.tmp 6)) (.q (some 31) none (.mov (.tmp 1)) (.q (some 32) none (.mov (.tmp 7)) (.q (some 33) none (.iadrS 4 (.tmp 31) (.tmp 32)) (.q (some 34) none (.ldN 4 (.tmp 33)) (.alt (.l (some 35) none (.call 10 [(.tmp 29), (.tmp 30), (.tmp 34)]) [] (.q (some 28) none (.mov (.tmp 35)) (.q (some 36) none (.ext 0 (.tmp 28)) (.q (some 37) none (.ext 1 (.tmp 28)) (.l (some 8) none (.alloc 30 [(2, (.slice none 0 0)), (1, (.int .i64 0)), (1, (.bool false))]) [] (.l none none (.stN 4 (.tmp 8) (.tmp 36)) [] (.q (some 9) none (.mov (.tmp 37)) .done))))))) (.l (some 8) none (.alloc 30 [(2, (.slice none 0 0)), (1, (.int .i64 0)), (1, (.bool false))]) [⟨34, none, (.ldN 4 (.tmp 33))⟩, ⟨30, none, (.ldN 4 (.tmp 6))⟩] (.l (some 35) none (.call 10 [(.tmp 29), (.tmp 30), (.tmp 34)]) [] (.q (some 28) none (.mov (.tmp 35)) (.q (some 36) none (.ext 0 (.tmp 28)) (.q (some 37) none (.ext 1 (.tmp 28)) (.l none none (.stN 4 (.tmp 8) (.tmp 36)) [] (.q (some 9) none (.mov (.tmp 37)) .done)))))))))))))) true 9 [1, 5, 6, 7, 8, 9],
  .cnd (.tmp 25) 10 2,
  .reg (.q (some 18) none (.mov (.tmp 7)) (.q (some 19) none (.mov (.tmp 1)) (.q (some 20) none (.len (.tmp 19)) (.q (some 21) none (.bin .lss (.tmp 18) (.tmp 20)) (.q (some 22) none (.mov (.tmp 21)) (.q (some 23) (some (22, true)) (.mov (.tmp 7)) (.q (some 24) (some (22, true)) (.bin .lss (.tmp 23) (.const (.int .i64 40))) (.q (some 25) none (.pick (.tmp 22) (.tmp 24) (.const (.bool false))) .done)))))))) false 11 [1, 5, 6, 7, 25],
  .reg (.q (some 7) none (.mov (.const (.int .i64 0))) .done) false 12 [1, 5, 6, 7],
  .reg (.q (some 12) none (.mov (.tmp 0)) (.l (some 13) none (.call 8 [(.tmp 12)]) [] (.l (some 14) none (.call 7 [(.tmp 13)]) [] (.q (some 15) none (.mov (.tmp 0)) (.l (some 16) none (.call 8 [(.tmp 15)]) [] (.l (some 17) none (.call 9 [(.tmp 16)]) [] (.l (some 6) none (.alloc 30 [(2, (.slice none 0 0)), (1, (.int .i64 0)), (1, (.bool false))]) [] (.q (some 5) none (.mov (.tmp 14)) (.l none none (.stN 4 (.tmp 6) (.tmp 17)) [] .done))))))))) false 13 [1, 5, 6],
  .ret [.t 4],
  .reg (.q (some 4) none (.mov (.const (.bool false))) .done) false 15 [4],
  .cnd (.tmp 11) 16 14,
  .reg (.l (some 10) none (.call 6 []) [] (.q (some 11) none (.not (.tmp 10)) .done)) false 17 [0, 1, 11],
  .reg (.q (some 4) none (.mov (.const (.bool false))) .done) false 18 [0, 1]
  ]
theorem c3_ok : cfgL Try.prog 3 = some (47, 19, c3.map Vc.Node.bare) := by kernel_rfl
/- strongbox/strongboxlaw07.DiskSafe: entry 49 -/
def c4 : List Vc.Node := [
  .ret [.t 6],
  .ret [.t 6],
  .reg (.q (some 110) none (.mov (.tmp 7)) (.l (some 111) none (.call 16 [(.tmp 110)]) [] (.q (some 112) none (.bin .eql (.tmp 111) (.const (.int .i64 0))) (.q (some 113) none (.mov (.tmp 112)) (.q (some 114) (some (113, true)) (.mov (.tmp 7)) (.l (some 115) (some (113, true)) (.call 17 [(.tmp 114)]) [] (.q (some 116) (some (113, true)) (.not (.tmp 115)) (.q (some 117) none (.pick (.tmp 113) (.tmp 116) (.const (.bool false))) (.q (some 6) none (.mov (.tmp 117)) .done))))))))) false 1 [6],
  .jmp 33,
  .reg (.q (some 109) none (.bin .add (.tmp 52) (.const (.int .i64 1))) (.q (some 52) none (.mov (.tmp 109)) .done)) false 3 [7, 8, 10, 52],
  .ret [.t 6],
  .reg (.q (some 6) none (.mov (.const (.bool false))) .done) false 5 [6],
  .cnd (.tmp 108) 6 4,
  .reg (.q (some 107) none (.mov (.tmp 17)) (.q (some 108) none (.not (.tmp 107)) .done)) false 7 [7, 8, 10, 52, 108],
  .jmp 22,
  .reg (.q (some 106) none (.bin .add (.tmp 75) (.const (.int .i64 1))) (.q (some 75) none (.mov (.tmp 106)) .done)) false 9 [7, 8, 10, 12, 13, 15, 17, 52, 73, 74, 75],
  .reg (.l (some 102) none (.bldS 5 1 []) [] (.q (some 103) none (.fadr 1 (.tmp 19)) (.q (some 104) none (.slcA 64 1 (.tmp 103) none none) (.l (some 105) none (.app 5 1 1 [(1, (.int .u8 0))] (.tmp 102) (.tmp 104)) [] (.q (some 15) none (.mov (.tmp 105)) .done))))) false 10 [7, 8, 10, 12, 13, 15, 17, 52, 73, 74, 75],
  .jmp 16,
  .reg (.q (some 89) none (.mov (.tmp 20)) (.q (some 90) none (.bin .add (.tmp 89) (.const (.int .i64 1))) (.q (some 20) none (.mov (.tmp 90)) .done))) false 12 [7, 8, 10, 12, 13, 15, 17, 19, 20, 52, 73, 74, 75],
  .reg (.q (some 91) none (.mov (.tmp 13)) (.q (some 93) none (.fadr 1 (.tmp 19)) (.q (some 94) none (.mov (.tmp 20)) (.q (some 95) none (.slcA 64 1 (.tmp 93) none (some (.tmp 94))) (.q (some 97) none (.mov (.tmp 15)) (.q (some 98) none (.mov (.tmp 20)) (.q (some 99) none (.slcS 1 (.tmp 97) (some (.tmp 98)) none) (.l (some 92) none (.bldS 5 1 []) [] (.l (some 96) none (.app 5 1 1 [(1, (.int .u8 0))] (.tmp 92) (.tmp 95)) [] (.l (some 100) none (.app 5 1 1 [(1, (.int .u8 0))] (.tmp 96) (.tmp 99)) [] (.l (some 101) none (.call 15 [(.tmp 91), (.tmp 100)]) [] (.q (some 17) none (.mov (.tmp 101)) .done)))))))))))) true 13 [7, 8, 10, 12, 13, 15, 17, 19, 20, 52, 73, 74, 75],
  .cnd (.tmp 88) 14 11,
  .reg (.q (some 83) none (.mov (.tmp 20)) (.q (some 84) none (.bin .leq (.tmp 83) (.const (.int .i64 64))) (.q (some 85) none (.mov (.tmp 84)) (.q (some 86) (some (85, true)) (.mov (.tmp 17)) (.q (some 87) (some (85, true)) (.not (.tmp 86)) (.q (some 88) none (.pick (.tmp 85) (.tmp 87) (.const (.bool false))) .done)))))) false 15 [7, 8, 10, 12, 13, 15, 17, 19, 20, 52, 73, 74, 75, 88],
  .reg (.q (some 20) none (.mov (.const (.int .i64 0))) .done) false 16 [7, 8, 10, 12, 13, 15, 17, 19, 20, 52, 73, 74, 75],
  .cnd (.tmp 82) 10 17,
  .reg (.q (some 79) none (.fadr 0 (.tmp 19)) (.q (some 80) none (.ld1 (.tmp 79)) (.q (some 81) none (.mov (.tmp 12)) (.q (some 82) none (.bin .neq (.tmp 80) (.tmp 81)) .done)))) false 18 [7, 8, 10, 12, 13, 15, 17, 19, 52, 73, 74, 75, 82],
  .reg (.q (some 77) none (.iadrS 65 (.tmp 73) (.tmp 75)) (.q (some 78) none (.ldN 65 (.tmp 77)) (.l (some 19) none (.alloc 49 [(1, (.int .i64 0)), (64, (.int .u8 0))]) [] (.l none none (.stN 65 (.tmp 19) (.tmp 78)) [] .done)))) false 19 [7, 8, 10, 12, 13, 15, 17, 19, 52, 73, 74, 75],
  .cnd (.tmp 76) 20 8,
  .reg (.q (some 76) none (.bin .lss (.tmp 75) (.tmp 74)) .done) false 21 [7, 8, 10, 12, 13, 15, 17, 52, 73, 74, 75, 76],
  .reg (.q (some 72) none (.fadr 1 (.tmp 8)) (.q (some 73) none (.ld1 (.tmp 72)) (.q (some 74) none (.len (.tmp 73)) (.q (some 75) none (.mov (.const (.int .i64 0))) .done)))) false 22 [7, 8, 10, 12, 13, 15, 17, 52, 73, 74, 75],
  .reg (.q (some 69) none (.mov (.tmp 13)) (.q (some 70) none (.mov (.tmp 15)) (.l (some 71) none (.call 15 [(.tmp 69), (.tmp 70)]) [] (.q (some 17) none (.mov (.tmp 71)) .done)))) false 23 [7, 8, 10, 12, 13, 15, 17, 52],
  .reg (.q (some 64) none (.ldN 4 (.tmp 10)) (.q (some 65) none (.mov (.tmp 12)) (.l (some 66) none (.call 14 [(.tmp 64), (.tmp 65)]) [] (.q (some 63) none (.mov (.tmp 66)) (.q (some 67) none (.ext 0 (.tmp 63)) (.q (some 68) none (.ext 1 (.tmp 63)) (.q (some 15) none (.mov (.tmp 67)) (.q (some 16) none (.mov (.tmp 68)) .done)))))))) false 24 [7, 8, 10, 12, 13, 15, 52],
  .ret [.t 6],
  .reg (.q (some 6) none (.mov (.const (.bool false))) .done) false 26 [6],
  .cnd (.tmp 62) 27 25,
  .reg (.q (some 61) none (.mov (.tmp 14)) (.q (some 62) none (.bin .neq (.tmp 61) (.const (.int .i64 0))) .done)) false 28 [7, 8, 10, 12, 13, 52, 62],
  .reg (.q (some 56) none (.mov (.tmp 7)) (.q (some 57) none (.mov (.tmp 12)) (.l (some 58) none (.call 13 [(.tmp 56), (.tmp 57)]) [] (.q (some 55) none (.mov (.tmp 58)) (.q (some 59) none (.ext 0 (.tmp 55)) (.q (some 60) none (.ext 1 (.tmp 55)) (.q (some 13) none (.mov (.tmp 59)) (.q (some 14) none (.mov (.tmp 60)) .done)))))))) false 29 [7, 8, 10, 12, 13, 14, 52],
  .reg (.q (some 54) none (.mov (.tmp 52)) (.q (some 12) none (.mov (.tmp 54)) .done)) false 30 [7, 8, 10, 12, 52],
  .cnd (.tmp 53) 31 2,
  .reg (.q (some 53) none (.bin .lss (.tmp 52) (.const (.int .i64 12))) .done) false 32 [7, 8, 10, 52, 53],
  .reg (.q (some 52) none (.mov (.const (.int .i64 0))) .done) false 33 [7, 8, 10, 52],
  .reg (.q (some 48) none (.mov (.tmp 7)) (.q (some 49) none (.mov (.tmp 1)) (.q (some 50) none (.mov (.tmp 2)) (.l (some 51) none (.call 12 [(.tmp 48), (.tmp 49), (.tmp 50)]) [] .done)))) false 34 [7, 8, 10],
  .reg (.l (some 11) none (.alloc 39 [(12, (.int .i64 0))]) [] .done) false 35 [1, 2, 7, 8, 10],
  .reg (.q (some 45) none (.fadr 0 (.tmp 8)) (.q (some 46) none (.ld1 (.tmp 45)) (.q (some 47) none (.bld [.x 1 (.tmp 46), .z [(1, (.slice none 0 0))], .x 1 (.const (.int .i64 (-1))), .z [(1, (.bool false))]]) (.l (some 10) none (.alloc 30 [(2, (.slice none 0 0)), (1, (.int .i64 0)), (1, (.bool false))]) [] (.l none none (.stN 4 (.tmp 10) (.tmp 47)) [] .done))))) false 36 [1, 2, 7, 8, 10],
  .jmp 42,
  .reg (.q (some 33) none (.mov (.tmp 9)) (.q (some 34) none (.bin .add (.tmp 33) (.const (.int .i64 1))) (.q (some 9) none (.mov (.tmp 34)) .done))) false 38 [0, 1, 2, 7, 8, 9],
  .reg (.q (some 36) none (.mov (.tmp 7)) (.q (some 37) none (.ldN 4 (.tmp 8)) (.q (some 38) none (.mov (.tmp 0)) (.q (some 39) none (.mov (.tmp 9)) (.q (some 40) none (.iadrS 4 (.tmp 38) (.tmp 39)) (.q (some 41) none (.ldN 4 (.tmp 40)) (.l (some 42) none (.call 10 [(.tmp 36), (.tmp 37), (.tmp 41)]) [] (.q (some 35) none (.mov (.tmp 42)) (.q (some 43) none (.ext 0 (.tmp 35)) (.q (some 44) none (.ext 1 (.tmp 35)) (.l none none (.stN 4 (.tmp 8) (.tmp 43)) [] .done))))))))))) true 39 [0, 1, 2, 7, 8, 9],
  .cnd (.tmp 32) 40 37,
  .reg (.q (some 25) none (.mov (.tmp 9)) (.q (some 26) none (.mov (.tmp 0)) (.q (some 27) none (.len (.tmp 26)) (.q (some 28) none (.bin .lss (.tmp 25) (.tmp 27)) (.q (some 29) none (.mov (.tmp 28)) (.q (some 30) (some (29, true)) (.mov (.tmp 9)) (.q (some 31) (some (29, true)) (.bin .lss (.tmp 30) (.const (.int .i64 30))) (.q (some 32) none (.pick (.tmp 29) (.tmp 31) (.const (.bool false))) .done)))))))) false 41 [0, 1, 2, 7, 8, 9, 32],
  .reg (.q (some 9) none (.mov (.const (.int .i64 0))) .done) false 42 [0, 1, 2, 7, 8, 9],
  .reg (.l (some 23) none (.call 7 [(.const (.int .i64 12))]) [] (.l (some 24) none (.call 9 [(.const (.int .i64 12))]) [] (.l (some 8) none (.alloc 30 [(2, (.slice none 0 0)), (1, (.int .i64 0)), (1, (.bool false))]) [] (.q (some 7) none (.mov (.tmp 23)) (.l none none (.stN 4 (.tmp 8) (.tmp 24)) [] .done))))) false 43 [0, 1, 2, 7, 8],
  .ret [.t 6],
  .reg (.q (some 6) none (.mov (.const (.bool false))) .done) false 45 [6],
  .cnd (.tmp 22) 46 44,
  .reg (.l (some 21) none (.call 6 []) [] (.q (some 22) none (.not (.tmp 21)) .done)) false 47 [0, 1, 2, 22],
  .reg (.q (some 6) none (.mov (.const (.bool false))) .done) false 48 [0, 1, 2]
  ]
theorem c4_ok : cfgL Try.prog 4 = some (118, 49, c4.map Vc.Node.bare) := by kernel_rfl
/- strongbox/strongboxlaw07.DiskTwins: entry 31 -/
def c5 : List Vc.Node := [
  .ret [.t 6],
  .ret [.t 6],
  .reg (.q (some 6) none (.mov (.const (.bool true))) .done) false 1 [6],
  .jmp 17,
  .reg (.q (some 44) none (.mov (.tmp 12)) (.q (some 45) none (.bin .add (.tmp 44) (.const (.int .i64 1))) (.q (some 12) none (.mov (.tmp 45)) .done))) false 3 [1, 2, 7, 8, 10, 11, 12],
  .ret [.t 6],
  .reg (.q (some 6) none (.mov (.const (.bool false))) .done) false 5 [6],
  .cnd (.tmp 91) 6 4,
  .reg (.q (some 74) none (.mov (.tmp 13)) (.q (some 75) none (.not (.tmp 74)) (.q (some 76) none (.mov (.tmp 75)) (.q (some 77) (some (76, false)) (.mov (.tmp 14)) (.q (some 78) (some (76, false)) (.not (.tmp 77)) (.q (some 79) none (.pick (.tmp 76) (.const (.bool true)) (.tmp 78)) (.q (some 80) none (.mov (.tmp 79)) (.q (some 81) (some (80, false)) (.mov (.tmp 7)) (.q (some 82) (some (80, false)) (.ldN 4 (.tmp 8)) (.l (some 83) (some (80, false)) (.call 11 [(.tmp 81), (.tmp 82)]) [] (.q (some 84) (some (80, false)) (.not (.tmp 83)) (.q (some 85) none (.pick (.tmp 80) (.const (.bool true)) (.tmp 84)) (.q (some 86) none (.mov (.tmp 85)) (.q (some 87) (some (86, false)) (.mov (.tmp 10)) (.q (some 88) (some (86, false)) (.ldN 4 (.tmp 11)) (.l (some 89) (some (86, false)) (.call 11 [(.tmp 87), (.tmp 88)]) [] (.q (some 90) (some (86, false)) (.not (.tmp 89)) (.q (some 91) none (.pick (.tmp 86) (.const (.bool true)) (.tmp 90)) .done)))))))))))))))))) false 7 [1, 2, 7, 8, 10, 11, 12, 91],
  .reg (.q (some 65) none (.mov (.tmp 10)) (.q (some 66) none (.ldN 4 (.tmp 11)) (.q (some 67) none (.mov (.tmp 2)) (.q (some 68) none (.mov (.tmp 12)) (.q (some 69) none (.iadrS 4 (.tmp 67) (.tmp 68)) (.q (some 70) none (.ldN 4 (.tmp 69)) (.l (some 71) none (.call 10 [(.tmp 65), (.tmp 66), (.tmp 70)]) [] (.q (some 64) none (.mov (.tmp 71)) (.q (some 72) none (.ext 0 (.tmp 64)) (.q (some 73) none (.ext 1 (.tmp 64)) (.l none none (.stN 4 (.tmp 11) (.tmp 72)) [] (.q (some 14) none (.mov (.tmp 73)) .done)))))))))))) true 8 [1, 2, 7, 8, 10, 11, 12, 13, 14],
  .cnd (.tmp 63) 9 8,
  .reg (.q (some 60) none (.mov (.tmp 12)) (.q (some 61) none (.mov (.tmp 2)) (.q (some 62) none (.len (.tmp 61)) (.q (some 63) none (.bin .lss (.tmp 60) (.tmp 62)) .done)))) false 10 [1, 2, 7, 8, 10, 11, 12, 13, 14, 63],
  .reg (.q (some 51) none (.mov (.tmp 7)) (.q (some 52) none (.ldN 4 (.tmp 8)) (.q (some 53) none (.mov (.tmp 1)) (.q (some 54) none (.mov (.tmp 12)) (.q (some 55) none (.iadrS 4 (.tmp 53) (.tmp 54)) (.q (some 56) none (.ldN 4 (.tmp 55)) (.l (some 57) none (.call 10 [(.tmp 51), (.tmp 52), (.tmp 56)]) [] (.q (some 50) none (.mov (.tmp 57)) (.q (some 58) none (.ext 0 (.tmp 50)) (.q (some 59) none (.ext 1 (.tmp 50)) (.l none none (.stN 4 (.tmp 8) (.tmp 58)) [] (.q (some 13) none (.mov (.tmp 59)) .done)))))))))))) true 11 [1, 2, 7, 8, 10, 11, 12, 13, 14],
  .cnd (.tmp 49) 12 11,
  .reg (.q (some 46) none (.mov (.tmp 12)) (.q (some 47) none (.mov (.tmp 1)) (.q (some 48) none (.len (.tmp 47)) (.q (some 49) none (.bin .lss (.tmp 46) (.tmp 48)) .done)))) false 13 [1, 2, 7, 8, 10, 11, 12, 13, 14, 49],
  .reg (.q (some 13) none (.mov (.const (.bool true))) (.q (some 14) none (.mov (.const (.bool true))) .done)) false 14 [1, 2, 7, 8, 10, 11, 12, 13, 14],
  .cnd (.tmp 43) 15 2,
  .reg (.q (some 42) none (.mov (.tmp 12)) (.q (some 43) none (.bin .lss (.tmp 42) (.const (.int .i64 12))) .done)) false 16 [1, 2, 7, 8, 10, 11, 12, 43],
  .reg (.q (some 12) none (.mov (.const (.int .i64 0))) .done) false 17 [1, 2, 7, 8, 10, 11, 12],
  .reg (.q (some 39) none (.mov (.tmp 7)) (.q (some 41) none (.ldN 4 (.tmp 8)) (.alt (.l (some 40) none (.call 18 [(.tmp 39)]) [⟨41, none, (.ldN 4 (.tmp 8))⟩] (.l (some 11) none (.alloc 30 [(2, (.slice none 0 0)), (1, (.int .i64 0)), (1, (.bool false))]) [⟨41, none, (.ldN 4 (.tmp 8))⟩] (.q (some 10) none (.mov (.tmp 40)) (.l none none (.stN 4 (.tmp 11) (.tmp 41)) [] .done)))) (.l (some 11) none (.alloc 30 [(2, (.slice none 0 0)), (1, (.int .i64 0)), (1, (.bool false))]) [⟨41, none, (.ldN 4 (.tmp 8))⟩] (.l (some 40) none (.call 18 [(.tmp 39)]) [⟨41, none, (.ldN 4 (.tmp 8))⟩] (.q (some 10) none (.mov (.tmp 40)) (.l none none (.stN 4 (.tmp 11) (.tmp 41)) [] .done))))))) true 18 [1, 2, 7, 8, 10, 11],
  .jmp 24,
  .reg (.q (some 27) none (.mov (.tmp 9)) (.q (some 28) none (.bin .add (.tmp 27) (.const (.int .i64 1))) (.q (some 9) none (.mov (.tmp 28)) .done))) false 20 [0, 1, 2, 7, 8, 9],
  .reg (.q (some 30) none (.mov (.tmp 7)) (.q (some 31) none (.ldN 4 (.tmp 8)) (.q (some 32) none (.mov (.tmp 0)) (.q (some 33) none (.mov (.tmp 9)) (.q (some 34) none (.iadrS 4 (.tmp 32) (.tmp 33)) (.q (some 35) none (.ldN 4 (.tmp 34)) (.l (some 36) none (.call 10 [(.tmp 30), (.tmp 31), (.tmp 35)]) [] (.q (some 29) none (.mov (.tmp 36)) (.q (some 37) none (.ext 0 (.tmp 29)) (.q (some 38) none (.ext 1 (.tmp 29)) (.l none none (.stN 4 (.tmp 8) (.tmp 37)) [] .done))))))))))) true 21 [0, 1, 2, 7, 8, 9],
  .cnd (.tmp 26) 22 19,
  .reg (.q (some 19) none (.mov (.tmp 9)) (.q (some 20) none (.mov (.tmp 0)) (.q (some 21) none (.len (.tmp 20)) (.q (some 22) none (.bin .lss (.tmp 19) (.tmp 21)) (.q (some 23) none (.mov (.tmp 22)) (.q (some 24) (some (23, true)) (.mov (.tmp 9)) (.q (some 25) (some (23, true)) (.bin .lss (.tmp 24) (.const (.int .i64 20))) (.q (some 26) none (.pick (.tmp 23) (.tmp 25) (.const (.bool false))) .done)))))))) false 23 [0, 1, 2, 7, 8, 9, 26],
  .reg (.q (some 9) none (.mov (.const (.int .i64 0))) .done) false 24 [0, 1, 2, 7, 8, 9],
  .reg (.l (some 17) none (.call 7 [(.const (.int .i64 10))]) [] (.l (some 18) none (.call 9 [(.const (.int .i64 10))]) [] (.l (some 8) none (.alloc 30 [(2, (.slice none 0 0)), (1, (.int .i64 0)), (1, (.bool false))]) [] (.q (some 7) none (.mov (.tmp 17)) (.l none none (.stN 4 (.tmp 8) (.tmp 18)) [] .done))))) false 25 [0, 1, 2, 7, 8],
  .ret [.t 6],
  .reg (.q (some 6) none (.mov (.const (.bool false))) .done) false 27 [6],
  .cnd (.tmp 16) 28 26,
  .reg (.l (some 15) none (.call 6 []) [] (.q (some 16) none (.not (.tmp 15)) .done)) false 29 [0, 1, 2, 16],
  .reg (.q (some 6) none (.mov (.const (.bool false))) .done) false 30 [0, 1, 2]
  ]
theorem c5_ok : cfgL Try.prog 5 = some (92, 31, c5.map Vc.Node.bare) := by kernel_rfl
/- strongbox/strongboxlaw07.awake: entry 10 -/
def c6 : List Vc.Node := [
  .ret [.t 0],
  .ret [.t 0],
  .reg (.q (some 26) none (.mov (.tmp 3)) (.q (some 27) none (.bin .eql (.tmp 26) (.const (.int .i64 0))) (.q (some 28) none (.mov (.tmp 27)) (.q (some 29) (some (28, true)) (.mov (.tmp 2)) (.q (some 30) (some (28, true)) (.len (.tmp 29)) (.q (some 31) (some (28, true)) (.bin .eql (.tmp 30) (.const (.int .i64 64))) (.q (some 32) none (.pick (.tmp 28) (.tmp 31) (.const (.bool false))) (.q (some 33) none (.mov (.tmp 32)) (.q (some 34) (some (33, true)) (.mov (.tmp 2)) (.q (some 35) (some (33, true)) (.iadrS 1 (.tmp 34) (.const (.int .i64 1))) (.q (some 36) (some (33, true)) (.ld1 (.tmp 35)) (.q (some 37) (some (33, true)) (.bin .eql (.tmp 36) (.const (.int .u8 98))) (.q (some 38) none (.pick (.tmp 33) (.tmp 37) (.const (.bool false))) (.q (some 39) none (.mov (.tmp 38)) (.q (some 40) (some (39, true)) (.mov (.tmp 2)) (.q (some 41) (some (39, true)) (.iadrS 1 (.tmp 40) (.const (.int .i64 2))) (.q (some 42) (some (39, true)) (.ld1 (.tmp 41)) (.q (some 43) (some (39, true)) (.bin .eql (.tmp 42) (.const (.int .u8 0))) (.q (some 44) none (.pick (.tmp 39) (.tmp 43) (.const (.bool false))) (.q (some 0) none (.mov (.tmp 44)) .done)))))))))))))))))))) false 1 [0],
  .reg (.q (some 22) none (.mov (.tmp 1)) (.l (some 23) none (.call 13 [(.tmp 22), (.const (.int .i64 3))]) [] (.q (some 21) none (.mov (.tmp 23)) (.q (some 24) none (.ext 0 (.tmp 21)) (.q (some 25) none (.ext 1 (.tmp 21)) (.q (some 2) none (.mov (.tmp 24)) (.q (some 3) none (.mov (.tmp 25)) .done))))))) false 2 [2, 3],
  .reg (.q (some 19) none (.mov (.tmp 1)) (.l (some 20) none (.call 12 [(.tmp 19), (.const (.int .i64 0)), (.const (.int .i64 2))]) [] .done)) false 3 [1],
  .ret [.t 0],
  .reg (.q (some 0) none (.mov (.const (.bool false))) .done) false 5 [0],
  .cnd (.tmp 18) 6 4,
  .reg (.q (some 5) none (.mov (.tmp 1)) (.q (some 6) none (.eqP false (.tmp 5) (.const (.pointer none))) (.q (some 7) none (.mov (.tmp 6)) (.q (some 8) (some (7, false)) (.mov (.tmp 1)) (.l (some 9) (some (7, false)) (.call 19 [(.tmp 8)]) [] (.q (some 10) (some (7, false)) (.bin .neq (.tmp 9) (.const (.int .i64 4))) (.q (some 11) none (.pick (.tmp 7) (.const (.bool true)) (.tmp 10)) (.q (some 12) none (.mov (.tmp 11)) (.q (some 13) (some (12, false)) (.mov (.tmp 1)) (.l (some 14) (some (12, false)) (.bldS 5 1 [(.const (.int .u8 97)), (.const (.int .u8 98)), (.const (.int .u8 99))]) [] (.l (some 15) (some (12, false)) (.mks 5 (.tmp 14)) [] (.l (some 16) (some (12, false)) (.call 20 [(.tmp 13), (.const (.int .i64 3)), (.tmp 15)]) [] (.q (some 17) (some (12, false)) (.bin .neq (.tmp 16) (.const (.int .i64 0))) (.q (some 18) none (.pick (.tmp 12) (.const (.bool true)) (.tmp 17)) .done)))))))))))))) false 7 [1, 18],
  .reg (.l (some 4) none (.call 7 [(.const (.int .i64 4))]) [] (.q (some 1) none (.mov (.tmp 4)) .done)) false 8 [1],
  .reg (.q (some 0) none (.mov (.const (.bool false))) .done) false 9 []
  ]
theorem c6_ok : cfgL Try.prog 6 = some (45, 10, c6.map Vc.Node.bare) := by kernel_rfl
/- strongbox/disk.New: entry 3 -/
def c7 : List Vc.Node := [
  .ret [.t 2],
  .ret [.t 2],
  .reg (.q (some 3) none (.mov (.tmp 0)) (.q (some 4) none (.min [(.tmp 3), (.const (.int .i64 65536))]) (.q (some 5) none (.max [(.const (.int .i64 0)), (.tmp 4)]) (.l (some 6) none .mkM [] (.q (some 7) none (.bld [.x 1 (.tmp 5), .x 1 (.tmp 6), .z [(1, (.slice none 0 0)), (1, (.int .i64 0)), (2, (.bool false))]]) (.l (some 8) none (.box 58 (.tmp 7)) [] (.q (some 2) none (.mov (.tmp 8)) .done))))))) false 1 [2],
  .reg (.q (some 2) none (.mov (.const (.pointer none))) .done) false 2 [0]
  ]
theorem c7_ok : cfgL Try.prog 7 = some (9, 3, c7.map Vc.Node.bare) := by kernel_rfl
/- strongbox/strongboxlaw07.size: entry 3 -/
def c8 : List Vc.Node := [
  .ret [.t 2],
  .ret [.t 2],
  .reg (.q (some 3) none (.mov (.tmp 0)) (.q (some 4) none (.min [(.tmp 3), (.const (.int .i64 20))]) (.q (some 5) none (.max [(.const (.int .i64 (-1))), (.tmp 4)]) (.q (some 2) none (.mov (.tmp 5)) .done)))) false 1 [2],
  .reg (.q (some 2) none (.mov (.const (.int .i64 0))) .done) false 2 [0]
  ]
theorem c8_ok : cfgL Try.prog 8 = some (6, 3, c8.map Vc.Node.bare) := by kernel_rfl
/- strongbox/strongboxref07.New: entry 9 -/
def c9 : List Vc.Node := [
  .ret [.cN 2 4],
  .ret [.cN 2 4],
  .reg (.q (some 7) none (.mov (.tmp 0)) (.l (some 8) none (.mkS 47 64 64 [(64, (.int .u8 0))] (.tmp 7) (.tmp 7)) [] (.q (some 9) none (.bld [.x 1 (.tmp 8), .z [(1, (.slice none 0 0))], .x 1 (.const (.int .i64 (-1))), .z [(1, (.bool false))]]) (.l none none (.stN 4 (.tmp 2) (.tmp 9)) [] .done)))) false 1 [2],
  .reg (.q (some 0) none (.mov (.const (.int .i64 65536))) .done) false 2 [0, 2],
  .cnd (.tmp 6) 3 2,
  .reg (.q (some 5) none (.mov (.tmp 0)) (.q (some 6) none (.bin .gtr (.tmp 5) (.const (.int .i64 65536))) .done)) false 4 [0, 2, 6],
  .reg (.q (some 0) none (.mov (.const (.int .i64 0))) .done) false 5 [0, 2],
  .cnd (.tmp 4) 6 5,
  .reg (.q (some 3) none (.mov (.tmp 0)) (.q (some 4) none (.bin .lss (.tmp 3) (.const (.int .i64 0))) .done)) false 7 [0, 2, 4],
  .reg (.l (some 2) none (.alloc 30 [(2, (.slice none 0 0)), (1, (.int .i64 0)), (1, (.bool false))]) [] .done) false 8 [0, 2]
  ]
theorem c9_ok : cfgL Try.prog 9 = some (10, 9, c9.map Vc.Node.bare) := by kernel_rfl
/- strongbox/strongboxlaw07.do: entry 43 -/
def c10 : List Vc.Node := [
  .ret [.cN 6 4, .t 7],
  .ret [.cN 6 4, .t 7],
  .reg (.q (some 136) none (.ldN 4 (.tmp 4)) (.l none none (.stN 4 (.tmp 6) (.tmp 136)) [] (.q (some 7) none (.mov (.const (.bool true))) .done))) false 1 [6, 7],
  .jmp 8,
  .reg (.q (some 135) none (.bin .add (.tmp 126) (.const (.int .i64 1))) (.q (some 126) none (.mov (.tmp 135)) .done)) false 3 [4, 6, 16, 125, 126],
  .reg (.q (some 129) none (.mov (.tmp 16)) (.q (some 130) none (.mov (.tmp 20)) (.q (some 131) none (.iadrS 1 (.tmp 129) (.tmp 130)) (.q (some 132) none (.ld1 (.tmp 131)) (.q (some 133) none (.bin .xor (.tmp 132) (.const (.int .u8 255))) (.q (some 134) none (.iadrS 1 (.tmp 129) (.tmp 130)) (.l none none (.st1 (.tmp 134) (.tmp 133)) [] .done))))))) false 4 [4, 6, 16, 125, 126],
  .reg (.q (some 128) none (.mov (.tmp 126)) (.q (some 20) none (.mov (.tmp 128)) .done)) false 5 [4, 6, 16, 20, 125, 126],
  .cnd (.tmp 127) 6 2,
  .reg (.q (some 127) none (.bin .lss (.tmp 126) (.tmp 125)) .done) false 7 [4, 6, 16, 125, 126, 127],
  .reg (.q (some 124) none (.mov (.tmp 16)) (.q (some 125) none (.len (.tmp 124)) (.q (some 126) none (.mov (.const (.int .i64 0))) .done))) false 8 [4, 6, 16, 125, 126],
  .ret [.cN 6 4, .t 7],
  .reg (.q (some 123) none (.ldN 4 (.tmp 4)) (.l none none (.stN 4 (.tmp 6) (.tmp 123)) [] (.q (some 7) none (.mov (.const (.bool false))) .done))) false 10 [6, 7],
  .cnd (.tmp 122) 11 9,
  .reg (.q (some 114) none (.mov (.tmp 16)) (.q (some 115) none (.mov (.tmp 18)) (.l (some 116) none (.call 15 [(.tmp 114), (.tmp 115)]) [] (.q (some 117) none (.not (.tmp 116)) (.q (some 118) none (.mov (.tmp 117)) (.q (some 119) (some (118, false)) (.mov (.tmp 17)) (.q (some 120) (some (118, false)) (.mov (.tmp 19)) (.q (some 121) (some (118, false)) (.bin .neq (.tmp 119) (.tmp 120)) (.q (some 122) none (.pick (.tmp 118) (.const (.bool true)) (.tmp 121)) .done))))))))) false 12 [4, 6, 16, 122],
  .reg (.q (some 108) none (.ldN 4 (.tmp 4)) (.q (some 109) none (.fadr 1 (.tmp 5)) (.q (some 110) none (.ld1 (.tmp 109)) (.l (some 111) none (.call 14 [(.tmp 108), (.tmp 110)]) [] (.q (some 107) none (.mov (.tmp 111)) (.q (some 112) none (.ext 0 (.tmp 107)) (.q (some 113) none (.ext 1 (.tmp 107)) (.q (some 18) none (.mov (.tmp 112)) (.q (some 19) none (.mov (.tmp 113)) .done))))))))) false 13 [4, 6, 16, 17, 18, 19],
  .reg (.q (some 101) none (.mov (.tmp 0)) (.q (some 102) none (.fadr 1 (.tmp 5)) (.q (some 103) none (.ld1 (.tmp 102)) (.l (some 104) none (.call 13 [(.tmp 101), (.tmp 103)]) [] (.q (some 100) none (.mov (.tmp 104)) (.q (some 105) none (.ext 0 (.tmp 100)) (.q (some 106) none (.ext 1 (.tmp 100)) (.q (some 16) none (.mov (.tmp 105)) (.q (some 17) none (.mov (.tmp 106)) .done))))))))) false 14 [4, 5, 6, 16, 17],
  .ret [.cN 6 4, .t 7],
  .reg (.q (some 53) none (.ldN 4 (.tmp 11)) (.q (some 54) none (.mov (.tmp 10)) (.q (some 55) none (.mov (.tmp 12)) (.q (some 56) none (.bin .eql (.tmp 54) (.tmp 55)) (.q (some 57) none (.mov (.tmp 56)) (.q (some 58) (some (57, true)) (.mov (.tmp 9)) (.q (some 59) (some (57, true)) (.fadr 3 (.tmp 5)) (.q (some 60) (some (57, true)) (.ld1 (.tmp 59)) (.l (some 61) (some (57, true)) (.call 23 [(.tmp 58), (.tmp 60)]) [⟨53, none, (.ldN 4 (.tmp 11))⟩] (.q (some 62) none (.pick (.tmp 57) (.tmp 61) (.const (.bool false))) (.l none none (.stN 4 (.tmp 6) (.tmp 53)) [] (.q (some 7) none (.mov (.tmp 62)) .done)))))))))))) true 16 [6, 7],
  .reg (.q (some 45) none (.ldN 4 (.tmp 4)) (.q (some 46) none (.fadr 1 (.tmp 5)) (.q (some 47) none (.ld1 (.tmp 46)) (.q (some 48) none (.fadr 3 (.tmp 5)) (.q (some 49) none (.ld1 (.tmp 48)) (.l (some 50) none (.call 22 [(.tmp 45), (.tmp 47), (.tmp 49)]) [] (.q (some 44) none (.mov (.tmp 50)) (.q (some 51) none (.ext 0 (.tmp 44)) (.q (some 52) none (.ext 1 (.tmp 44)) (.l (some 11) none (.alloc 30 [(2, (.slice none 0 0)), (1, (.int .i64 0)), (1, (.bool false))]) [] (.l none none (.stN 4 (.tmp 11) (.tmp 51)) [] (.q (some 12) none (.mov (.tmp 52)) .done)))))))))))) false 17 [5, 6, 9, 10, 11, 12],
  .reg (.q (some 39) none (.mov (.tmp 0)) (.q (some 40) none (.fadr 1 (.tmp 5)) (.q (some 41) none (.ld1 (.tmp 40)) (.q (some 42) none (.mov (.tmp 8)) (.l (some 43) none (.call 20 [(.tmp 39), (.tmp 41), (.tmp 42)]) [] (.q (some 10) none (.mov (.tmp 43)) .done)))))) false 18 [4, 5, 6, 9, 10],
  .reg (.q (some 34) none (.fadr 3 (.tmp 5)) (.q (some 35) none (.ld1 (.tmp 34)) (.l (some 36) none (.call 21 [(.tmp 35)]) [] (.q (some 33) none (.mov (.tmp 36)) (.q (some 37) none (.ext 0 (.tmp 33)) (.q (some 38) none (.ext 1 (.tmp 33)) (.q (some 8) none (.mov (.tmp 37)) (.q (some 9) none (.mov (.tmp 38)) .done)))))))) false 19 [0, 4, 5, 6, 8, 9],
  .ret [.cN 6 4, .t 7],
  .reg (.q (some 72) none (.ldN 4 (.tmp 14)) (.q (some 73) none (.mov (.tmp 13)) (.q (some 74) none (.mov (.tmp 15)) (.q (some 75) none (.bin .eql (.tmp 73) (.tmp 74)) (.l none none (.stN 4 (.tmp 6) (.tmp 72)) [] (.q (some 7) none (.mov (.tmp 75)) .done)))))) false 21 [6, 7],
  .reg (.q (some 68) none (.ldN 4 (.tmp 4)) (.l (some 69) none (.call 25 [(.tmp 68)]) [] (.q (some 67) none (.mov (.tmp 69)) (.q (some 70) none (.ext 0 (.tmp 67)) (.q (some 71) none (.ext 1 (.tmp 67)) (.l (some 14) none (.alloc 30 [(2, (.slice none 0 0)), (1, (.int .i64 0)), (1, (.bool false))]) [] (.l none none (.stN 4 (.tmp 14) (.tmp 70)) [] (.q (some 15) none (.mov (.tmp 71)) .done)))))))) false 22 [6, 13, 14, 15],
  .reg (.q (some 65) none (.mov (.tmp 0)) (.l (some 66) none (.call 24 [(.tmp 65)]) [] (.q (some 13) none (.mov (.tmp 66)) .done))) false 23 [4, 6, 13],
  .ret [.cN 6 4, .t 7],
  .reg (.q (some 82) none (.ldN 4 (.tmp 4)) (.q (some 83) none (.fadr 1 (.tmp 5)) (.q (some 84) none (.ld1 (.tmp 83)) (.l (some 85) none (.call 27 [(.tmp 82), (.tmp 84)]) [] (.l none none (.stN 4 (.tmp 6) (.tmp 85)) [] (.q (some 7) none (.mov (.const (.bool true))) .done)))))) false 25 [6, 7],
  .reg (.q (some 78) none (.mov (.tmp 0)) (.q (some 79) none (.fadr 1 (.tmp 5)) (.q (some 80) none (.ld1 (.tmp 79)) (.l (some 81) none (.call 26 [(.tmp 78), (.tmp 80)]) [] .done)))) false 26 [4, 5, 6],
  .ret [.cN 6 4, .t 7],
  .reg (.q (some 94) none (.ldN 4 (.tmp 4)) (.q (some 95) none (.fadr 1 (.tmp 5)) (.q (some 96) none (.ld1 (.tmp 95)) (.q (some 97) none (.fadr 2 (.tmp 5)) (.q (some 98) none (.ld1 (.tmp 97)) (.l (some 99) none (.call 28 [(.tmp 94), (.tmp 96), (.tmp 98)]) [] (.l none none (.stN 4 (.tmp 6) (.tmp 99)) [] (.q (some 7) none (.mov (.const (.bool true))) .done)))))))) false 28 [6, 7],
  .reg (.q (some 88) none (.mov (.tmp 0)) (.q (some 89) none (.fadr 1 (.tmp 5)) (.q (some 90) none (.ld1 (.tmp 89)) (.q (some 91) none (.fadr 2 (.tmp 5)) (.q (some 92) none (.ld1 (.tmp 91)) (.l (some 93) none (.call 12 [(.tmp 88), (.tmp 90), (.tmp 92)]) [] .done)))))) false 29 [4, 5, 6],
  .cnd (.tmp 86) 30 15,
  .reg (.q (some 87) none (.bin .eql (.tmp 30) (.const (.int .i64 4))) (.q (some 86) none (.mov (.tmp 87)) .done)) false 31 [0, 4, 5, 6, 86],
  .cnd (.tmp 76) 27 32,
  .reg (.q (some 77) none (.bin .eql (.tmp 30) (.const (.int .i64 3))) (.q (some 76) none (.mov (.tmp 77)) .done)) false 33 [0, 4, 5, 6, 30, 76],
  .cnd (.tmp 63) 24 34,
  .reg (.q (some 64) none (.bin .eql (.tmp 30) (.const (.int .i64 2))) (.q (some 63) none (.mov (.tmp 64)) .done)) false 35 [0, 4, 5, 6, 30, 63],
  .cnd (.tmp 31) 20 36,
  .reg (.q (some 32) none (.bin .eql (.tmp 30) (.const (.int .i64 1))) (.q (some 31) none (.mov (.tmp 32)) .done)) false 37 [0, 4, 5, 6, 30, 31],
  .reg (.q (some 29) none (.fadr 0 (.tmp 5)) (.q (some 30) none (.ld1 (.tmp 29)) .done)) false 38 [0, 4, 5, 6, 30],
  .reg (.q (some 25) none (.fadr 3 (.tmp 5)) (.q (some 26) none (.ld1 (.tmp 25)) (.q (some 27) none (.slcS 1 (.tmp 26) none (some (.const (.int .i64 70)))) (.q (some 28) none (.fadr 3 (.tmp 5)) (.l none none (.st1 (.tmp 28) (.tmp 27)) [] .done))))) false 39 [0, 4, 5, 6],
  .cnd (.tmp 24) 40 39,
  .reg (.q (some 21) none (.fadr 3 (.tmp 5)) (.q (some 22) none (.ld1 (.tmp 21)) (.q (some 23) none (.len (.tmp 22)) (.q (some 24) none (.bin .gtr (.tmp 23) (.const (.int .i64 70))) .done)))) false 41 [0, 4, 5, 6, 24],
  .reg (.l (some 4) none (.box 30 (.tmp 1)) [] (.l (some 5) none (.box 36 (.tmp 2)) [] (.l (some 6) none (.alloc 30 [(2, (.slice none 0 0)), (1, (.int .i64 0)), (1, (.bool false))]) [] (.q (some 7) none (.mov (.const (.bool false))) .done)))) false 42 [0, 4, 5, 6]
  ]
theorem c10_ok : cfgL Try.prog 10 = some (137, 43, c10.map Vc.Node.bare) := by kernel_rfl
/- strongbox/strongboxlaw07.is: entry 18 -/
def c11 : List Vc.Node := [
  .ret [.t 4],
  .ret [.t 4],
  .reg (.q (some 4) none (.mov (.const (.bool true))) .done) false 1 [4],
  .jmp 12,
  .reg (.q (some 40) none (.mov (.tmp 5)) (.q (some 41) none (.bin .add (.tmp 40) (.const (.int .i64 1))) (.q (some 5) none (.mov (.tmp 41)) .done))) false 3 [0, 3, 5],
  .ret [.t 4],
  .reg (.q (some 4) none (.mov (.const (.bool false))) .done) false 5 [4],
  .cnd (.tmp 62) 6 4,
  .reg (.q (some 54) none (.mov (.tmp 6)) (.q (some 55) none (.mov (.tmp 8)) (.l (some 56) none (.call 15 [(.tmp 54), (.tmp 55)]) [] (.q (some 57) none (.not (.tmp 56)) (.q (some 58) none (.mov (.tmp 57)) (.q (some 59) (some (58, false)) (.mov (.tmp 7)) (.q (some 60) (some (58, false)) (.mov (.tmp 9)) (.q (some 61) (some (58, false)) (.bin .neq (.tmp 59) (.tmp 60)) (.q (some 62) none (.pick (.tmp 58) (.const (.bool true)) (.tmp 61)) .done))))))))) false 7 [0, 3, 5, 62],
  .reg (.q (some 49) none (.ldN 4 (.tmp 3)) (.q (some 50) none (.mov (.tmp 5)) (.l (some 51) none (.call 14 [(.tmp 49), (.tmp 50)]) [] (.q (some 48) none (.mov (.tmp 51)) (.q (some 52) none (.ext 0 (.tmp 48)) (.q (some 53) none (.ext 1 (.tmp 48)) (.q (some 8) none (.mov (.tmp 52)) (.q (some 9) none (.mov (.tmp 53)) .done)))))))) false 8 [0, 3, 5, 6, 7, 8, 9],
  .reg (.q (some 43) none (.mov (.tmp 0)) (.q (some 44) none (.mov (.tmp 5)) (.l (some 45) none (.call 13 [(.tmp 43), (.tmp 44)]) [] (.q (some 42) none (.mov (.tmp 45)) (.q (some 46) none (.ext 0 (.tmp 42)) (.q (some 47) none (.ext 1 (.tmp 42)) (.q (some 6) none (.mov (.tmp 46)) (.q (some 7) none (.mov (.tmp 47)) .done)))))))) false 9 [0, 3, 5, 6, 7],
  .cnd (.tmp 39) 10 2,
  .reg (.q (some 31) none (.mov (.tmp 5)) (.q (some 32) none (.fadr 0 (.tmp 3)) (.q (some 33) none (.ld1 (.tmp 32)) (.q (some 34) none (.len (.tmp 33)) (.q (some 35) none (.bin .lss (.tmp 31) (.tmp 34)) (.q (some 36) none (.mov (.tmp 35)) (.q (some 37) (some (36, true)) (.mov (.tmp 5)) (.q (some 38) (some (36, true)) (.bin .lss (.tmp 37) (.const (.int .i64 24))) (.q (some 39) none (.pick (.tmp 36) (.tmp 38) (.const (.bool false))) .done))))))))) false 11 [0, 3, 5, 39],
  .reg (.q (some 5) none (.mov (.const (.int .i64 0))) .done) false 12 [0, 3, 5],
  .ret [.t 4],
  .reg (.q (some 4) none (.mov (.const (.bool false))) .done) false 14 [4],
  .cnd (.tmp 30) 15 13,
  .reg (.q (some 10) none (.mov (.tmp 0)) (.q (some 12) none (.fadr 0 (.tmp 3)) (.q (some 13) none (.ld1 (.tmp 12)) (.q (some 14) none (.len (.tmp 13)) (.l (some 11) none (.call 19 [(.tmp 10)]) [⟨13, none, (.ld1 (.tmp 12))⟩] (.q (some 15) none (.bin .neq (.tmp 11) (.tmp 14)) (.q (some 16) none (.mov (.tmp 15)) (.q (some 17) (some (16, false)) (.mov (.tmp 0)) (.q (some 19) (some (16, false)) (.fadr 3 (.tmp 3)) (.q (some 20) (some (16, false)) (.ld1 (.tmp 19)) (.l (some 18) (some (16, false)) (.call 17 [(.tmp 17)]) [⟨20, (some (16, false)), (.ld1 (.tmp 19))⟩] (.q (some 21) (some (16, false)) (.eqB true (.tmp 18) (.tmp 20)) (.q (some 22) none (.pick (.tmp 16) (.const (.bool true)) (.tmp 21)) (.q (some 23) none (.mov (.tmp 22)) (.q (some 24) (some (23, false)) (.mov (.tmp 0)) (.q (some 26) (some (23, false)) (.fadr 1 (.tmp 3)) (.q (some 27) (some (23, false)) (.ld1 (.tmp 26)) (.q (some 28) (some (23, false)) (.len (.tmp 27)) (.l (some 25) (some (23, false)) (.call 16 [(.tmp 24)]) [⟨27, (some (23, false)), (.ld1 (.tmp 26))⟩] (.q (some 29) (some (23, false)) (.bin .neq (.tmp 25) (.tmp 28)) (.q (some 30) none (.pick (.tmp 23) (.const (.bool true)) (.tmp 29)) .done))))))))))))))))))))) true 16 [0, 3, 30],
  .reg (.l (some 3) none (.box 30 (.tmp 1)) [] (.q (some 4) none (.mov (.const (.bool false))) .done)) false 17 [0, 3]
  ]
theorem c11_ok : cfgL Try.prog 11 = some (63, 18, c11.map Vc.Node.bare) := by kernel_rfl
/- (*strongbox/disk.Disk).Crash: entry 8 -/
def c12 : List Vc.Node := [
  .ret [],
  .reg (.q (some 50) none (.mov (.tmp 0)) (.q (some 51) none (.mov (.tmp 0)) (.q (some 52) none (.mov (.tmp 0)) (.q (some 53) none (.nc (.tmp 50)) (.q (some 54) none (.fadr 2 (.tmp 53)) (.l none none (.st1 (.tmp 54) (.const (.slice none 0 0))) [] (.q (some 55) none (.nc (.tmp 51)) (.q (some 56) none (.fadr 5 (.tmp 55)) (.l none none (.st1 (.tmp 56) (.const (.bool false))) [] (.q (some 57) none (.nc (.tmp 52)) (.q (some 58) none (.fadr 4 (.tmp 57)) (.l none none (.st1 (.tmp 58) (.const (.bool false))) [] .done)))))))))))) false 0 [],
  .reg (.q (some 43) none (.mov (.tmp 0)) (.q (some 44) none (.nc (.tmp 43)) (.q (some 45) none (.fadr 1 (.tmp 44)) (.q (some 46) none (.ld1 (.tmp 45)) (.q (some 47) none (.fadr 0 (.tmp 6)) (.q (some 48) none (.ld1 (.tmp 47)) (.q (some 49) none (.ldN 64 (.tmp 7)) (.l none none (.mapU [(1, .i .i64)] false (.tmp 46) (.tmp 48) (.tmp 49)) [] .done)))))))) true 1 [0],
  .reg (.q (some 37) none (.mov (.tmp 2)) (.q (some 40) none (.fadr 1 (.tmp 6)) (.q (some 41) none (.slcA 64 1 (.tmp 40) none none) (.l (some 38) none (.call 30 [(.tmp 37), (.const (.int .i64 64))]) [] (.q (some 39) none (.slcA 64 1 (.tmp 7) none (some (.tmp 38))) (.l (some 42) none (.cpy 1 (.tmp 39) (.tmp 41)) [] .done)))))) true 2 [0, 6, 7],
  .reg (.q (some 30) none (.mov (.tmp 0)) (.q (some 31) none (.nc (.tmp 30)) (.q (some 32) none (.fadr 1 (.tmp 31)) (.q (some 33) none (.ld1 (.tmp 32)) (.q (some 34) none (.fadr 0 (.tmp 6)) (.q (some 35) none (.ld1 (.tmp 34)) (.q (some 36) none (.lkp [(1, .i .i64)] false true [(64, (.int .u8 0))] false (.tmp 33) (.tmp 35)) (.l (some 7) none (.alloc 69 [(64, (.int .u8 0))]) [⟨36, none, (.lkp [(1, .i .i64)] false true [(64, (.int .u8 0))] false (.tmp 33) (.tmp 35))⟩, ⟨35, none, (.ld1 (.tmp 34))⟩, ⟨33, none, (.ld1 (.tmp 32))⟩] (.l none none (.stN 64 (.tmp 7) (.tmp 36)) [] .done))))))))) true 3 [0, 2, 6, 7],
  .reg (.q (some 24) none (.mov (.tmp 0)) (.q (some 25) none (.nc (.tmp 24)) (.q (some 26) none (.fadr 2 (.tmp 25)) (.q (some 27) none (.ld1 (.tmp 26)) (.q (some 28) none (.iadrS 65 (.tmp 27) (.const (.int .i64 0))) (.q (some 29) none (.ldN 65 (.tmp 28)) (.l (some 6) none (.alloc 71 [(1, (.int .i64 0)), (64, (.int .u8 0))]) [] (.l none none (.stN 65 (.tmp 6) (.tmp 29)) [] .done)))))))) false 4 [0, 2, 6],
  .cnd (.tmp 23) 5 1,
  .reg (.q (some 18) none (.mov (.tmp 0)) (.q (some 19) none (.nc (.tmp 18)) (.q (some 20) none (.fadr 2 (.tmp 19)) (.q (some 21) none (.ld1 (.tmp 20)) (.q (some 22) none (.len (.tmp 21)) (.q (some 23) none (.bin .gtr (.tmp 22) (.const (.int .i64 0))) .done)))))) false 6 [0, 2, 23],
  .reg (.q (some 8) none (.mov (.tmp 0)) (.q (some 9) none (.mov (.tmp 1)) (.q (some 10) none (.mov (.tmp 0)) (.q (some 11) none (.nc (.tmp 10)) (.q (some 12) none (.fadr 2 (.tmp 11)) (.q (some 13) none (.ld1 (.tmp 12)) (.q (some 14) none (.len (.tmp 13)) (.q (some 15) none (.bin .add (.tmp 14) (.const (.int .i64 1))) (.l (some 16) none (.call 30 [(.tmp 9), (.tmp 15)]) [] (.l (some 17) none (.call 29 [(.tmp 8), (.tmp 16)]) [] .done)))))))))) false 7 [0, 2]
  ]
theorem c12_ok : cfgL Try.prog 12 = some (59, 8, c12.map Vc.Node.bare) := by kernel_rfl
/- (*strongbox/disk.Disk).Read: entry 14 -/
def c13 : List Vc.Node := [
  .ret [.t 4, .t 5],
  .ret [.t 4, .t 5],
  .reg (.q (some 36) none (.slcA 64 1 (.tmp 6) none none) (.l (some 37) none (.call 33 [(.tmp 36)]) [] (.q (some 4) none (.mov (.tmp 37)) (.q (some 5) none (.mov (.const (.int .i64 0))) .done)))) false 1 [4, 5],
  .bad,
  .reg (.q (some 23) none (.mov (.tmp 0)) (.q (some 24) none (.nc (.tmp 23)) (.q (some 25) none (.fadr 2 (.tmp 24)) (.q (some 26) none (.ld1 (.tmp 25)) (.l (some 27) none (.call 32 [(.tmp 26)]) [] .done))))) false 3 [],
  .reg (.q (some 17) none (.mov (.tmp 0)) (.q (some 18) none (.nc (.tmp 17)) (.q (some 19) none (.fadr 1 (.tmp 18)) (.q (some 20) none (.ld1 (.tmp 19)) (.q (some 21) none (.ld1 (.tmp 3)) (.q (some 22) none (.lkp [(1, .i .i64)] false true [(64, (.int .u8 0))] false (.tmp 20) (.tmp 21)) (.l (some 6) none (.alloc 69 [(64, (.int .u8 0))]) [⟨22, none, (.lkp [(1, .i .i64)] false true [(64, (.int .u8 0))] false (.tmp 20) (.tmp 21))⟩, ⟨21, none, (.ld1 (.tmp 3))⟩, ⟨20, none, (.ld1 (.tmp 19))⟩] (.l none none (.stN 64 (.tmp 6) (.tmp 22)) [] .done)))))))) true 4 [0],
  .ret [.t 4, .t 5],
  .reg (.q (some 4) none (.mov (.const (.slice none 0 0))) (.q (some 5) none (.mov (.const (.int .i64 10))) .done)) false 6 [4, 5],
  .cnd (.tmp 16) 7 5,
  .reg (.q (some 13) none (.mov (.tmp 0)) (.q (some 14) none (.nc (.tmp 13)) (.q (some 15) none (.fadr 5 (.tmp 14)) (.q (some 16) none (.ld1 (.tmp 15)) .done)))) false 8 [0, 3, 16],
  .ret [.t 4, .t 5],
  .reg (.q (some 4) none (.mov (.const (.slice none 0 0))) (.q (some 5) none (.mov (.const (.int .i64 1))) .done)) false 10 [4, 5],
  .cnd (.tmp 12) 11 9,
  .reg (.q (some 9) none (.mov (.tmp 0)) (.q (some 10) none (.ld1 (.tmp 3)) (.l (some 11) none (.call 31 [(.tmp 9), (.tmp 10)]) [] (.q (some 12) none (.not (.tmp 11)) .done)))) false 12 [0, 3, 12],
  .reg (.l (some 3) none (.box 3 (.tmp 1)) [] (.q (some 4) none (.mov (.const (.slice none 0 0))) (.q (some 5) none (.mov (.const (.int .i64 0))) .done))) false 13 [0, 3]
  ]
theorem c13_ok : cfgL Try.prog 13 = some (38, 14, c13.map Vc.Node.bare) := by kernel_rfl
/- strongbox/strongboxref07.Read: entry 20 -/
def c14 : List Vc.Node := [
  .ret [.t 4, .t 5],
  .ret [.t 4, .t 5],
  .reg (.l (some 40) none (.bldS 5 1 []) [] (.q (some 41) none (.slcA 64 1 (.tmp 6) none none) (.l (some 42) none (.app 5 1 1 [(1, (.int .u8 0))] (.tmp 40) (.tmp 41)) [] (.q (some 4) none (.mov (.tmp 42)) (.q (some 5) none (.mov (.const (.int .i64 0))) .done))))) false 1 [4, 5],
  .jmp 9,
  .reg (.q (some 24) none (.mov (.tmp 7)) (.q (some 25) none (.bin .add (.tmp 24) (.const (.int .i64 1))) (.q (some 7) none (.mov (.tmp 25)) .done))) false 3 [1, 2, 6, 7],
  .reg (.q (some 34) none (.fadr 1 (.tmp 2)) (.q (some 35) none (.ld1 (.tmp 34)) (.q (some 36) none (.mov (.tmp 7)) (.q (some 37) none (.iadrS 65 (.tmp 35) (.tmp 36)) (.q (some 38) none (.fadr 1 (.tmp 37)) (.q (some 39) none (.ldN 64 (.tmp 38)) (.l none none (.stN 64 (.tmp 6) (.tmp 39)) [] .done))))))) false 4 [1, 2, 6, 7],
  .cnd (.tmp 33) 5 4,
  .reg (.q (some 26) none (.fadr 1 (.tmp 2)) (.q (some 27) none (.ld1 (.tmp 26)) (.q (some 28) none (.mov (.tmp 7)) (.q (some 29) none (.iadrS 65 (.tmp 27) (.tmp 28)) (.q (some 30) none (.fadr 0 (.tmp 29)) (.q (some 31) none (.ld1 (.tmp 30)) (.q (some 32) none (.mov (.tmp 1)) (.q (some 33) none (.bin .eql (.tmp 31) (.tmp 32)) .done)))))))) false 6 [1, 2, 6, 7, 33],
  .cnd (.tmp 23) 7 2,
  .reg (.q (some 19) none (.mov (.tmp 7)) (.q (some 20) none (.fadr 1 (.tmp 2)) (.q (some 21) none (.ld1 (.tmp 20)) (.q (some 22) none (.len (.tmp 21)) (.q (some 23) none (.bin .lss (.tmp 19) (.tmp 22)) .done))))) false 8 [1, 2, 6, 7, 23],
  .reg (.q (some 7) none (.mov (.const (.int .i64 0))) .done) false 9 [1, 2, 6, 7],
  .reg (.q (some 14) none (.fadr 0 (.tmp 2)) (.q (some 15) none (.ld1 (.tmp 14)) (.q (some 16) none (.mov (.tmp 1)) (.q (some 17) none (.iadrS 64 (.tmp 15) (.tmp 16)) (.q (some 18) none (.ldN 64 (.tmp 17)) (.l (some 6) none (.alloc 47 [(64, (.int .u8 0))]) [] (.l none none (.stN 64 (.tmp 6) (.tmp 18)) [] .done))))))) false 10 [1, 2, 6],
  .ret [.t 4, .t 5],
  .reg (.q (some 4) none (.mov (.const (.slice none 0 0))) (.q (some 5) none (.mov (.const (.int .i64 10))) .done)) false 12 [4, 5],
  .cnd (.tmp 13) 13 11,
  .reg (.q (some 12) none (.fadr 3 (.tmp 2)) (.q (some 13) none (.ld1 (.tmp 12)) .done)) false 14 [1, 2, 13],
  .ret [.t 4, .t 5],
  .reg (.q (some 4) none (.mov (.const (.slice none 0 0))) (.q (some 5) none (.mov (.const (.int .i64 1))) .done)) false 16 [4, 5],
  .cnd (.tmp 11) 17 15,
  .reg (.q (some 8) none (.ldN 4 (.tmp 2)) (.q (some 9) none (.mov (.tmp 1)) (.l (some 10) none (.call 34 [(.tmp 8), (.tmp 9)]) [] (.q (some 11) none (.not (.tmp 10)) .done)))) false 18 [1, 2, 11],
  .reg (.l (some 2) none (.box 30 (.tmp 0)) [] (.q (some 4) none (.mov (.const (.slice none 0 0))) (.q (some 5) none (.mov (.const (.int .i64 0))) .done))) false 19 [1, 2]
  ]
theorem c14_ok : cfgL Try.prog 14 = some (43, 20, c14.map Vc.Node.bare) := by kernel_rfl
/- strongbox/strongboxref01.Equal: entry 3 -/
def c15 : List Vc.Node := [
  .ret [.t 4],
  .ret [.t 4],
  .reg (.q (some 5) none (.mov (.tmp 0)) (.q (some 6) none (.b2s (.tmp 5)) (.q (some 7) none (.mov (.tmp 1)) (.q (some 8) none (.b2s (.tmp 7)) (.q (some 9) none (.bin .eql (.tmp 6) (.tmp 8)) (.q (some 4) none (.mov (.tmp 9)) .done)))))) false 1 [4],
  .reg (.q (some 4) none (.mov (.const (.bool false))) .done) false 2 [0, 1]
  ]
theorem c15_ok : cfgL Try.prog 15 = some (10, 3, c15.map Vc.Node.bare) := by kernel_rfl
/- (*strongbox/disk.Disk).Pending: entry 3 -/
def c16 : List Vc.Node := [
  .ret [.t 2],
  .ret [.t 2],
  .reg (.q (some 3) none (.mov (.tmp 0)) (.q (some 4) none (.nc (.tmp 3)) (.q (some 5) none (.fadr 2 (.tmp 4)) (.q (some 6) none (.ld1 (.tmp 5)) (.q (some 7) none (.len (.tmp 6)) (.q (some 2) none (.mov (.tmp 7)) .done)))))) false 1 [2],
  .reg (.q (some 2) none (.mov (.const (.int .i64 0))) .done) false 2 [0]
  ]
theorem c16_ok : cfgL Try.prog 16 = some (8, 3, c16.map Vc.Node.bare) := by kernel_rfl
/- (*strongbox/disk.Disk).Dead: entry 3 -/
def c17 : List Vc.Node := [
  .ret [.t 2],
  .ret [.t 2],
  .reg (.q (some 3) none (.mov (.tmp 0)) (.q (some 4) none (.nc (.tmp 3)) (.q (some 5) none (.fadr 5 (.tmp 4)) (.q (some 6) none (.ld1 (.tmp 5)) (.q (some 2) none (.mov (.tmp 6)) .done))))) false 1 [2],
  .reg (.q (some 2) none (.mov (.const (.bool false))) .done) false 2 [0]
  ]
theorem c17_ok : cfgL Try.prog 17 = some (7, 3, c17.map Vc.Node.bare) := by kernel_rfl
/- (*strongbox/disk.Disk).Twin: entry 5 -/
def c18 : List Vc.Node := [
  .ret [.t 2],
  .ret [.t 2],
  .reg (.q (some 2) none (.mov (.tmp 3)) .done) false 1 [2],
  .reg (.q (some 7) none (.mov (.tmp 0)) (.q (some 8) none (.nc (.tmp 7)) (.q (some 9) none (.fadr 1 (.tmp 8)) (.q (some 10) none (.ld1 (.tmp 9)) (.q (some 12) none (.mov (.tmp 0)) (.q (some 13) none (.nc (.tmp 12)) (.q (some 14) none (.fadr 2 (.tmp 13)) (.q (some 15) none (.ld1 (.tmp 14)) (.l (some 11) none (.call 35 [(.tmp 10)]) [⟨15, none, (.ld1 (.tmp 14))⟩] (.l (some 16) none (.call 36 [(.tmp 15)]) [] (.q (some 17) none (.fadr 1 (.tmp 3)) (.l none none (.st1 (.tmp 17) (.tmp 11)) [] (.q (some 18) none (.fadr 2 (.tmp 3)) (.l none none (.st1 (.tmp 18) (.tmp 16)) [] .done)))))))))))))) true 2 [3],
  .reg (.q (some 4) none (.mov (.tmp 0)) (.q (some 5) none (.nc (.tmp 4)) (.q (some 6) none (.ldN 6 (.tmp 5)) (.l (some 3) none (.alloc 58 [(1, (.int .i64 0)), (1, (.map none)), (1, (.slice none 0 0)), (1, (.int .i64 0)), (2, (.bool false))]) [] (.l none none (.stN 6 (.tmp 3) (.tmp 6)) [] .done))))) false 3 [0, 3],
  .reg (.q (some 2) none (.mov (.const (.pointer none))) .done) false 4 [0]
  ]
theorem c18_ok : cfgL Try.prog 18 = some (19, 5, c18.map Vc.Node.bare) := by kernel_rfl
/- (*strongbox/disk.Disk).Sectors: entry 3 -/
def c19 : List Vc.Node := [
  .ret [.t 2],
  .ret [.t 2],
  .reg (.q (some 3) none (.mov (.tmp 0)) (.q (some 4) none (.nc (.tmp 3)) (.q (some 5) none (.fadr 0 (.tmp 4)) (.q (some 6) none (.ld1 (.tmp 5)) (.q (some 2) none (.mov (.tmp 6)) .done))))) false 1 [2],
  .reg (.q (some 2) none (.mov (.const (.int .i64 0))) .done) false 2 [0]
  ]
theorem c19_ok : cfgL Try.prog 19 = some (7, 3, c19.map Vc.Node.bare) := by kernel_rfl
/- (*strongbox/disk.Disk).Write: entry 19 -/
def c20 : List Vc.Node := [
  .ret [.t 6],
  .ret [.t 6],
  .reg (.q (some 6) none (.mov (.const (.int .i64 0))) .done) false 1 [6],
  .reg (.q (some 29) none (.mov (.tmp 0)) (.q (some 30) none (.mov (.tmp 0)) (.q (some 31) none (.nc (.tmp 30)) (.q (some 32) none (.fadr 2 (.tmp 31)) (.q (some 33) none (.ld1 (.tmp 32)) (.q (some 34) none (.ldN 65 (.tmp 8)) (.l (some 35) none (.bldS 71 65 [(.tmp 34)]) [⟨33, none, (.ld1 (.tmp 32))⟩] (.l (some 36) none (.app 71 65 72 [(1, (.int .i64 0)), (64, (.int .u8 0))] (.tmp 33) (.tmp 35)) [] (.q (some 37) none (.nc (.tmp 29)) (.q (some 38) none (.fadr 2 (.tmp 37)) (.l none none (.st1 (.tmp 38) (.tmp 36)) [] .done))))))))))) true 2 [],
  .reg (.q (some 25) none (.fadr 1 (.tmp 8)) (.q (some 26) none (.slcA 64 1 (.tmp 25) none none) (.q (some 27) none (.mov (.tmp 2)) (.l (some 28) none (.cpy 1 (.tmp 26) (.tmp 27)) [] .done)))) false 3 [0, 8],
  .reg (.q (some 23) none (.mov (.tmp 1)) (.q (some 24) none (.bld [.x 1 (.tmp 23), .z [(64, (.int .u8 0))]]) (.l (some 8) none (.alloc 71 [(1, (.int .i64 0)), (64, (.int .u8 0))]) [] (.l none none (.stN 65 (.tmp 8) (.tmp 24)) [] .done)))) false 4 [0, 2, 8],
  .ret [.t 6],
  .reg (.q (some 22) none (.mov (.tmp 7)) (.q (some 6) none (.mov (.tmp 22)) .done)) false 6 [6],
  .cnd (.tmp 21) 7 5,
  .reg (.q (some 20) none (.mov (.tmp 7)) (.q (some 21) none (.bin .neq (.tmp 20) (.const (.int .i64 0))) .done)) false 8 [0, 1, 2, 7, 21],
  .reg (.q (some 18) none (.mov (.tmp 0)) (.l (some 19) none (.call 37 [(.tmp 18)]) [] (.q (some 7) none (.mov (.tmp 19)) .done))) false 9 [0, 1, 2, 7],
  .ret [.t 6],
  .reg (.q (some 6) none (.mov (.const (.int .i64 1))) .done) false 11 [6],
  .ret [.t 6],
  .reg (.q (some 6) none (.mov (.const (.int .i64 2))) .done) false 13 [6],
  .cnd (.tmp 14) 14 10,
  .reg (.q (some 15) none (.mov (.tmp 2)) (.q (some 16) none (.len (.tmp 15)) (.q (some 17) none (.bin .gtr (.tmp 16) (.const (.int .i64 64))) (.q (some 14) none (.mov (.tmp 17)) .done)))) false 15 [0, 1, 2, 14],
  .cnd (.tmp 9) 12 16,
  .reg (.q (some 10) none (.mov (.tmp 0)) (.q (some 11) none (.mov (.tmp 1)) (.l (some 12) none (.call 31 [(.tmp 10), (.tmp 11)]) [] (.q (some 13) none (.not (.tmp 12)) (.q (some 9) none (.mov (.tmp 13)) .done))))) false 17 [0, 1, 2, 9],
  .reg (.q (some 6) none (.mov (.const (.int .i64 0))) .done) false 18 [0, 1, 2]
  ]
theorem c20_ok : cfgL Try.prog 20 = some (39, 19, c20.map Vc.Node.bare) := by kernel_rfl
/- strongbox/strongboxref01.Spare: entry 13 -/
def c21 : List Vc.Node := [
  .ret [.t 2, .t 3],
  .ret [.t 2, .t 3],
  .reg (.q (some 33) none (.mov (.tmp 4)) (.q (some 34) none (.mov (.tmp 0)) (.q (some 35) none (.len (.tmp 34)) (.q (some 36) none (.slcS 1 (.tmp 33) none (some (.tmp 35))) (.q (some 37) none (.mov (.tmp 4)) (.q (some 2) none (.mov (.tmp 36)) (.q (some 3) none (.mov (.tmp 37)) .done))))))) false 1 [2, 3],
  .jmp 10,
  .reg (.q (some 14) none (.mov (.tmp 5)) (.q (some 15) none (.bin .add (.tmp 14) (.const (.int .i64 1))) (.q (some 5) none (.mov (.tmp 15)) .done))) false 3 [0, 4, 5],
  .reg (.q (some 26) none (.mov (.tmp 4)) (.q (some 27) none (.mov (.tmp 5)) (.q (some 28) none (.mov (.tmp 0)) (.q (some 29) none (.mov (.tmp 5)) (.q (some 30) none (.iadrS 1 (.tmp 28) (.tmp 29)) (.q (some 31) none (.ld1 (.tmp 30)) (.q (some 32) none (.iadrS 1 (.tmp 26) (.tmp 27)) (.l none none (.st1 (.tmp 32) (.tmp 31)) [] .done)))))))) false 4 [0, 4, 5],
  .cnd (.tmp 25) 5 4,
  .reg (.q (some 22) none (.mov (.tmp 5)) (.q (some 23) none (.mov (.tmp 0)) (.q (some 24) none (.len (.tmp 23)) (.q (some 25) none (.bin .lss (.tmp 22) (.tmp 24)) .done)))) false 6 [0, 4, 5, 25],
  .reg (.q (some 16) none (.mov (.tmp 4)) (.q (some 17) none (.mov (.tmp 5)) (.q (some 18) none (.mov (.tmp 5)) (.q (some 19) none (.bin .add (.const (.int .i64 201)) (.tmp 18)) (.q (some 20) none (.cvi .u8 (.tmp 19)) (.q (some 21) none (.iadrS 1 (.tmp 16) (.tmp 17)) (.l none none (.st1 (.tmp 21) (.tmp 20)) [] .done))))))) false 7 [0, 4, 5],
  .cnd (.tmp 13) 8 2,
  .reg (.q (some 10) none (.mov (.tmp 5)) (.q (some 11) none (.mov (.tmp 4)) (.q (some 12) none (.len (.tmp 11)) (.q (some 13) none (.bin .lss (.tmp 10) (.tmp 12)) .done)))) false 9 [0, 4, 5, 13],
  .reg (.q (some 5) none (.mov (.const (.int .i64 0))) .done) false 10 [0, 4, 5],
  .reg (.q (some 6) none (.mov (.tmp 0)) (.q (some 7) none (.len (.tmp 6)) (.q (some 8) none (.bin .add (.tmp 7) (.const (.int .i64 9))) (.l (some 9) none (.mkS 5 1 1 [(1, (.int .u8 0))] (.tmp 8) (.tmp 8)) [] (.q (some 4) none (.mov (.tmp 9)) .done))))) false 11 [0, 4],
  .reg (.q (some 2) none (.mov (.const (.slice none 0 0))) (.q (some 3) none (.mov (.const (.slice none 0 0))) .done)) false 12 [0]
  ]
theorem c21_ok : cfgL Try.prog 21 = some (38, 13, c21.map Vc.Node.bare) := by kernel_rfl
/- strongbox/strongboxref07.Put: entry 24 -/
def c22 : List Vc.Node := [
  .ret [.cN 6 4, .t 7],
  .ret [.cN 6 4, .t 7],
  .reg (.q (some 51) none (.ldN 4 (.tmp 3)) (.l none none (.stN 4 (.tmp 6) (.tmp 51)) [] (.q (some 7) none (.mov (.const (.int .i64 0))) .done))) false 1 [6, 7],
  .reg (.q (some 44) none (.fadr 1 (.tmp 3)) (.q (some 45) none (.ld1 (.tmp 44)) (.q (some 47) none (.ldN 65 (.tmp 9)) (.alt (.l (some 43) none (.bldS 49 65 []) [⟨47, none, (.ldN 65 (.tmp 9))⟩, ⟨45, none, (.ld1 (.tmp 44))⟩] (.alt (.l (some 46) none (.app 49 65 72 [(1, (.int .i64 0)), (64, (.int .u8 0))] (.tmp 43) (.tmp 45)) [⟨47, none, (.ldN 65 (.tmp 9))⟩] (.l (some 48) none (.bldS 49 65 [(.tmp 47)]) [] (.l (some 49) none (.app 49 65 72 [(1, (.int .i64 0)), (64, (.int .u8 0))] (.tmp 46) (.tmp 48)) [] (.q (some 50) none (.fadr 1 (.tmp 3)) (.l none none (.st1 (.tmp 50) (.tmp 49)) [] .done))))) (.l (some 48) none (.bldS 49 65 [(.tmp 47)]) [⟨45, none, (.ld1 (.tmp 44))⟩] (.l (some 46) none (.app 49 65 72 [(1, (.int .i64 0)), (64, (.int .u8 0))] (.tmp 43) (.tmp 45)) [] (.l (some 49) none (.app 49 65 72 [(1, (.int .i64 0)), (64, (.int .u8 0))] (.tmp 46) (.tmp 48)) [] (.q (some 50) none (.fadr 1 (.tmp 3)) (.l none none (.st1 (.tmp 50) (.tmp 49)) [] .done))))))) (.l (some 48) none (.bldS 49 65 [(.tmp 47)]) [⟨45, none, (.ld1 (.tmp 44))⟩] (.l (some 43) none (.bldS 49 65 []) [⟨45, none, (.ld1 (.tmp 44))⟩] (.l (some 46) none (.app 49 65 72 [(1, (.int .i64 0)), (64, (.int .u8 0))] (.tmp 43) (.tmp 45)) [] (.l (some 49) none (.app 49 65 72 [(1, (.int .i64 0)), (64, (.int .u8 0))] (.tmp 46) (.tmp 48)) [] (.q (some 50) none (.fadr 1 (.tmp 3)) (.l none none (.st1 (.tmp 50) (.tmp 49)) [] .done)))))))))) true 2 [3, 6],
  .jmp 8,
  .reg (.q (some 34) none (.mov (.tmp 10)) (.q (some 35) none (.bin .add (.tmp 34) (.const (.int .i64 1))) (.q (some 10) none (.mov (.tmp 35)) .done))) false 4 [2, 3, 6, 9, 10],
  .reg (.q (some 36) none (.mov (.tmp 10)) (.q (some 37) none (.mov (.tmp 2)) (.q (some 38) none (.mov (.tmp 10)) (.q (some 39) none (.iadrS 1 (.tmp 37) (.tmp 38)) (.q (some 40) none (.ld1 (.tmp 39)) (.q (some 41) none (.fadr 1 (.tmp 9)) (.q (some 42) none (.iadrA 64 1 (.tmp 41) (.tmp 36)) (.l none none (.st1 (.tmp 42) (.tmp 40)) [] .done)))))))) false 5 [2, 3, 6, 9, 10],
  .cnd (.tmp 33) 6 3,
  .reg (.q (some 30) none (.mov (.tmp 10)) (.q (some 31) none (.mov (.tmp 2)) (.q (some 32) none (.len (.tmp 31)) (.q (some 33) none (.bin .lss (.tmp 30) (.tmp 32)) .done)))) false 7 [2, 3, 6, 9, 10, 33],
  .reg (.q (some 10) none (.mov (.const (.int .i64 0))) .done) false 8 [2, 3, 6, 9, 10],
  .reg (.q (some 28) none (.mov (.tmp 1)) (.q (some 29) none (.bld [.x 1 (.tmp 28), .z [(64, (.int .u8 0))]]) (.l (some 9) none (.alloc 49 [(1, (.int .i64 0)), (64, (.int .u8 0))]) [] (.l none none (.stN 65 (.tmp 9) (.tmp 29)) [] .done)))) false 9 [2, 3, 6, 9],
  .ret [.cN 6 4, .t 7],
  .reg (.q (some 27) none (.ldN 4 (.tmp 3)) (.l none none (.stN 4 (.tmp 6) (.tmp 27)) [] (.q (some 7) none (.mov (.const (.int .i64 10))) .done))) false 11 [6, 7],
  .cnd (.tmp 26) 12 10,
  .reg (.q (some 25) none (.mov (.tmp 8)) (.q (some 26) none (.not (.tmp 25)) .done)) false 13 [1, 2, 3, 6, 26],
  .reg (.q (some 21) none (.ldN 4 (.tmp 3)) (.l (some 22) none (.call 38 [(.tmp 21)]) [] (.q (some 20) none (.mov (.tmp 22)) (.q (some 23) none (.ext 0 (.tmp 20)) (.q (some 24) none (.ext 1 (.tmp 20)) (.l none none (.stN 4 (.tmp 3) (.tmp 23)) [] (.q (some 8) none (.mov (.tmp 24)) .done))))))) false 14 [1, 2, 3, 6, 8],
  .ret [.cN 6 4, .t 7],
  .reg (.q (some 19) none (.ldN 4 (.tmp 3)) (.l none none (.stN 4 (.tmp 6) (.tmp 19)) [] (.q (some 7) none (.mov (.const (.int .i64 2))) .done))) false 16 [6, 7],
  .cnd (.tmp 18) 17 15,
  .reg (.q (some 16) none (.mov (.tmp 2)) (.q (some 17) none (.len (.tmp 16)) (.q (some 18) none (.bin .gtr (.tmp 17) (.const (.int .i64 64))) .done))) false 18 [1, 2, 3, 6, 18],
  .ret [.cN 6 4, .t 7],
  .reg (.q (some 15) none (.ldN 4 (.tmp 3)) (.l none none (.stN 4 (.tmp 6) (.tmp 15)) [] (.q (some 7) none (.mov (.const (.int .i64 1))) .done))) false 20 [6, 7],
  .cnd (.tmp 14) 21 19,
  .reg (.q (some 11) none (.ldN 4 (.tmp 3)) (.q (some 12) none (.mov (.tmp 1)) (.l (some 13) none (.call 34 [(.tmp 11), (.tmp 12)]) [] (.q (some 14) none (.not (.tmp 13)) .done)))) false 22 [1, 2, 3, 6, 14],
  .reg (.l (some 3) none (.box 30 (.tmp 0)) [] (.l (some 6) none (.alloc 30 [(2, (.slice none 0 0)), (1, (.int .i64 0)), (1, (.bool false))]) [] (.q (some 7) none (.mov (.const (.int .i64 0))) .done))) false 23 [1, 2, 3, 6]
  ]
theorem c22_ok : cfgL Try.prog 22 = some (52, 24, c22.map Vc.Node.bare) := by kernel_rfl
/- strongbox/strongboxref01.Kept: entry 16 -/
def c23 : List Vc.Node := [
  .ret [.t 4],
  .ret [.t 4],
  .reg (.q (some 4) none (.mov (.const (.bool true))) .done) false 1 [4],
  .jmp 10,
  .reg (.q (some 16) none (.mov (.tmp 5)) (.q (some 17) none (.bin .add (.tmp 16) (.const (.int .i64 1))) (.q (some 5) none (.mov (.tmp 17)) .done))) false 3 [0, 1, 5],
  .ret [.t 4],
  .reg (.q (some 4) none (.mov (.const (.bool false))) .done) false 5 [4],
  .cnd (.tmp 48) 6 4,
  .reg (.q (some 18) none (.mov (.tmp 5)) (.q (some 19) none (.mov (.tmp 1)) (.q (some 20) none (.len (.tmp 19)) (.q (some 21) none (.bin .lss (.tmp 18) (.tmp 20)) (.q (some 22) none (.mov (.tmp 21)) (.q (some 23) (some (22, true)) (.mov (.tmp 0)) (.q (some 24) (some (22, true)) (.mov (.tmp 5)) (.q (some 25) (some (22, true)) (.iadrS 1 (.tmp 23) (.tmp 24)) (.q (some 26) (some (22, true)) (.ld1 (.tmp 25)) (.q (some 27) (some (22, true)) (.mov (.tmp 1)) (.q (some 28) (some (22, true)) (.mov (.tmp 5)) (.q (some 29) (some (22, true)) (.iadrS 1 (.tmp 27) (.tmp 28)) (.q (some 30) (some (22, true)) (.ld1 (.tmp 29)) (.q (some 31) (some (22, true)) (.bin .neq (.tmp 26) (.tmp 30)) (.q (some 32) none (.pick (.tmp 22) (.tmp 31) (.const (.bool false))) (.q (some 33) none (.mov (.tmp 32)) (.q (some 34) (some (33, false)) (.mov (.tmp 5)) (.q (some 35) (some (33, false)) (.mov (.tmp 1)) (.q (some 36) (some (33, false)) (.len (.tmp 35)) (.q (some 37) (some (33, false)) (.bin .geq (.tmp 34) (.tmp 36)) (.q (some 38) (some (33, false)) (.mov (.tmp 37)) (.q (some 39) (some (38, true)) (.mov (.tmp 0)) (.q (some 40) (some (38, true)) (.mov (.tmp 5)) (.q (some 41) (some (38, true)) (.iadrS 1 (.tmp 39) (.tmp 40)) (.q (some 42) (some (38, true)) (.ld1 (.tmp 41)) (.q (some 43) (some (38, true)) (.mov (.tmp 5)) (.q (some 44) (some (38, true)) (.bin .add (.const (.int .i64 201)) (.tmp 43)) (.q (some 45) (some (38, true)) (.cvi .u8 (.tmp 44)) (.q (some 46) (some (38, true)) (.bin .neq (.tmp 42) (.tmp 45)) (.q (some 47) (some (33, false)) (.pick (.tmp 38) (.tmp 46) (.const (.bool false))) (.q (some 48) none (.pick (.tmp 33) (.const (.bool true)) (.tmp 47)) .done))))))))))))))))))))))))))))))) true 7 [0, 1, 5, 48],
  .cnd (.tmp 15) 8 2,
  .reg (.q (some 12) none (.mov (.tmp 5)) (.q (some 13) none (.mov (.tmp 0)) (.q (some 14) none (.len (.tmp 13)) (.q (some 15) none (.bin .lss (.tmp 12) (.tmp 14)) .done)))) false 9 [0, 1, 5, 15],
  .reg (.q (some 5) none (.mov (.const (.int .i64 0))) .done) false 10 [0, 1, 5],
  .ret [.t 4],
  .reg (.q (some 4) none (.mov (.const (.bool false))) .done) false 12 [4],
  .cnd (.tmp 11) 13 11,
  .reg (.q (some 6) none (.mov (.tmp 0)) (.q (some 7) none (.len (.tmp 6)) (.q (some 8) none (.mov (.tmp 1)) (.q (some 9) none (.len (.tmp 8)) (.q (some 10) none (.bin .add (.tmp 9) (.const (.int .i64 9))) (.q (some 11) none (.bin .neq (.tmp 7) (.tmp 10)) .done)))))) false 14 [0, 1, 11],
  .reg (.q (some 4) none (.mov (.const (.bool false))) .done) false 15 [0, 1]
  ]
theorem c23_ok : cfgL Try.prog 23 = some (49, 16, c23.map Vc.Node.bare) := by kernel_rfl
/- (*strongbox/disk.Disk).Sync: entry 9 -/
def c24 : List Vc.Node := [
  .ret [.t 2],
  .ret [.t 2],
  .reg (.q (some 2) none (.mov (.const (.int .i64 0))) .done) false 1 [2],
  .reg (.q (some 9) none (.mov (.tmp 0)) (.q (some 10) none (.mov (.tmp 0)) (.q (some 11) none (.nc (.tmp 10)) (.q (some 12) none (.fadr 2 (.tmp 11)) (.q (some 13) none (.ld1 (.tmp 12)) (.q (some 14) none (.len (.tmp 13)) (.l (some 15) none (.call 29 [(.tmp 9), (.tmp 14)]) [] .done))))))) false 2 [],
  .ret [.t 2],
  .reg (.q (some 8) none (.mov (.tmp 3)) (.q (some 2) none (.mov (.tmp 8)) .done)) false 4 [2],
  .cnd (.tmp 7) 5 3,
  .reg (.q (some 6) none (.mov (.tmp 3)) (.q (some 7) none (.bin .neq (.tmp 6) (.const (.int .i64 0))) .done)) false 6 [0, 3, 7],
  .reg (.q (some 4) none (.mov (.tmp 0)) (.l (some 5) none (.call 37 [(.tmp 4)]) [] (.q (some 3) none (.mov (.tmp 5)) .done))) false 7 [0, 3],
  .reg (.q (some 2) none (.mov (.const (.int .i64 0))) .done) false 8 [0]
  ]
theorem c24_ok : cfgL Try.prog 24 = some (16, 9, c24.map Vc.Node.bare) := by kernel_rfl
/- strongbox/strongboxref07.Sync: entry 8 -/
def c25 : List Vc.Node := [
  .ret [.cN 2 4, .t 3],
  .ret [.cN 2 4, .t 3],
  .reg (.q (some 13) none (.ldN 4 (.tmp 1)) (.q (some 14) none (.fadr 1 (.tmp 1)) (.q (some 15) none (.ld1 (.tmp 14)) (.q (some 16) none (.len (.tmp 15)) (.l (some 17) none (.call 39 [(.tmp 13), (.tmp 16), (.const (.int .i64 0))]) [] (.l none none (.stN 4 (.tmp 2) (.tmp 17)) [] (.q (some 3) none (.mov (.const (.int .i64 0))) .done))))))) false 1 [2, 3],
  .ret [.cN 2 4, .t 3],
  .reg (.q (some 12) none (.ldN 4 (.tmp 1)) (.l none none (.stN 4 (.tmp 2) (.tmp 12)) [] (.q (some 3) none (.mov (.const (.int .i64 10))) .done))) false 3 [2, 3],
  .cnd (.tmp 11) 4 2,
  .reg (.q (some 10) none (.mov (.tmp 4)) (.q (some 11) none (.not (.tmp 10)) .done)) false 5 [1, 2, 11],
  .reg (.q (some 6) none (.ldN 4 (.tmp 1)) (.l (some 7) none (.call 38 [(.tmp 6)]) [] (.q (some 5) none (.mov (.tmp 7)) (.q (some 8) none (.ext 0 (.tmp 5)) (.q (some 9) none (.ext 1 (.tmp 5)) (.l none none (.stN 4 (.tmp 1) (.tmp 8)) [] (.q (some 4) none (.mov (.tmp 9)) .done))))))) false 6 [1, 2, 4],
  .reg (.l (some 1) none (.box 30 (.tmp 0)) [] (.l (some 2) none (.alloc 30 [(2, (.slice none 0 0)), (1, (.int .i64 0)), (1, (.bool false))]) [] (.q (some 3) none (.mov (.const (.int .i64 0))) .done))) false 7 [1, 2]
  ]
theorem c25_ok : cfgL Try.prog 25 = some (18, 8, c25.map Vc.Node.bare) := by kernel_rfl
/- (*strongbox/disk.Disk).Arm: entry 1 -/
def c26 : List Vc.Node := [
  .ret [],
  .reg (.q (some 4) none (.mov (.tmp 0)) (.q (some 5) none (.mov (.tmp 0)) (.q (some 6) none (.mov (.tmp 1)) (.q (some 7) none (.mov (.tmp 1)) (.q (some 8) none (.bin .geq (.tmp 7) (.const (.int .i64 0))) (.q (some 9) none (.nc (.tmp 4)) (.q (some 10) none (.fadr 3 (.tmp 9)) (.l none none (.st1 (.tmp 10) (.tmp 6)) [] (.q (some 11) none (.nc (.tmp 5)) (.q (some 12) none (.fadr 4 (.tmp 11)) (.l none none (.st1 (.tmp 12) (.tmp 8)) [] .done))))))))))) false 0 []
  ]
theorem c26_ok : cfgL Try.prog 26 = some (13, 1, c26.map Vc.Node.bare) := by kernel_rfl
/- strongbox/strongboxref07.Arm: entry 7 -/
def c27 : List Vc.Node := [
  .ret [.cN 4 4],
  .ret [.cN 4 4],
  .reg (.q (some 9) none (.ldN 4 (.tmp 2)) (.l none none (.stN 4 (.tmp 4) (.tmp 9)) [] .done)) false 1 [4],
  .reg (.q (some 7) none (.mov (.tmp 1)) (.q (some 8) none (.fadr 2 (.tmp 2)) (.l none none (.st1 (.tmp 8) (.tmp 7)) [] .done))) false 2 [2, 4],
  .reg (.q (some 1) none (.mov (.const (.int .i64 (-1)))) .done) false 3 [1, 2, 4],
  .cnd (.tmp 6) 4 3,
  .reg (.q (some 5) none (.mov (.tmp 1)) (.q (some 6) none (.bin .lss (.tmp 5) (.const (.int .i64 0))) .done)) false 5 [1, 2, 4, 6],
  .reg (.l (some 2) none (.box 30 (.tmp 0)) [] (.l (some 4) none (.alloc 30 [(2, (.slice none 0 0)), (1, (.int .i64 0)), (1, (.bool false))]) [] .done)) false 6 [1, 2, 4]
  ]
theorem c27_ok : cfgL Try.prog 27 = some (10, 7, c27.map Vc.Node.bare) := by kernel_rfl
/- strongbox/strongboxref07.Crash: entry 6 -/
def c28 : List Vc.Node := [
  .ret [.cN 6 4],
  .ret [.cN 6 4],
  .reg (.q (some 19) none (.ldN 4 (.tmp 3)) (.l none none (.stN 4 (.tmp 6) (.tmp 19)) [] .done)) false 1 [6],
  .reg (.q (some 18) none (.fadr 2 (.tmp 3)) (.l none none (.st1 (.tmp 18) (.const (.int .i64 (-1)))) [] .done)) false 2 [3, 6],
  .reg (.q (some 17) none (.fadr 3 (.tmp 3)) (.l none none (.st1 (.tmp 17) (.const (.bool false))) [] .done)) false 3 [3, 6],
  .reg (.q (some 7) none (.ldN 4 (.tmp 3)) (.q (some 8) none (.mov (.tmp 1)) (.q (some 9) none (.fadr 1 (.tmp 3)) (.q (some 10) none (.ld1 (.tmp 9)) (.q (some 11) none (.len (.tmp 10)) (.q (some 12) none (.bin .add (.tmp 11) (.const (.int .i64 1))) (.q (some 14) none (.mov (.tmp 2)) (.l (some 13) none (.call 40 [(.tmp 8), (.tmp 12)]) [⟨7, none, (.ldN 4 (.tmp 3))⟩] (.l (some 15) none (.call 40 [(.tmp 14), (.const (.int .i64 64))]) [⟨7, none, (.ldN 4 (.tmp 3))⟩] (.l (some 16) none (.call 39 [(.tmp 7), (.tmp 13), (.tmp 15)]) [] (.l none none (.stN 4 (.tmp 3) (.tmp 16)) [] .done))))))))))) true 4 [3, 6],
  .reg (.l (some 3) none (.box 30 (.tmp 0)) [] (.l (some 6) none (.alloc 30 [(2, (.slice none 0 0)), (1, (.int .i64 0)), (1, (.bool false))]) [] .done)) false 5 [1, 2, 3, 6]
  ]
theorem c28_ok : cfgL Try.prog 28 = some (20, 6, c28.map Vc.Node.bare) := by kernel_rfl
/- (*strongbox/disk.Disk).settle: entry 8 -/
def c29 : List Vc.Node := [
  .ret [],
  .reg (.q (some 26) none (.mov (.tmp 0)) (.q (some 27) none (.mov (.tmp 0)) (.q (some 28) none (.nc (.tmp 27)) (.q (some 29) none (.fadr 2 (.tmp 28)) (.q (some 30) none (.ld1 (.tmp 29)) (.q (some 31) none (.mov (.tmp 1)) (.q (some 32) none (.slcS 65 (.tmp 30) (some (.tmp 31)) none) (.q (some 33) none (.nc (.tmp 26)) (.q (some 34) none (.fadr 2 (.tmp 33)) (.l none none (.st1 (.tmp 34) (.tmp 32)) [] .done)))))))))) false 0 [],
  .jmp 7,
  .reg (.q (some 25) none (.bin .add (.tmp 13) (.const (.int .i64 1))) (.q (some 13) none (.mov (.tmp 25)) .done)) false 2 [0, 1, 11, 12, 13],
  .reg (.q (some 17) none (.mov (.tmp 0)) (.q (some 18) none (.nc (.tmp 17)) (.q (some 19) none (.fadr 1 (.tmp 18)) (.q (some 20) none (.ld1 (.tmp 19)) (.q (some 21) none (.fadr 0 (.tmp 5)) (.q (some 22) none (.ld1 (.tmp 21)) (.q (some 23) none (.fadr 1 (.tmp 5)) (.q (some 24) none (.ldN 64 (.tmp 23)) (.l none none (.mapU [(1, .i .i64)] false (.tmp 20) (.tmp 22) (.tmp 24)) [] .done))))))))) true 3 [0, 1, 11, 12, 13],
  .reg (.q (some 15) none (.iadrS 65 (.tmp 11) (.tmp 13)) (.q (some 16) none (.ldN 65 (.tmp 15)) (.l (some 5) none (.alloc 71 [(1, (.int .i64 0)), (64, (.int .u8 0))]) [] (.l none none (.stN 65 (.tmp 5) (.tmp 16)) [] .done)))) false 4 [0, 1, 5, 11, 12, 13],
  .cnd (.tmp 14) 5 1,
  .reg (.q (some 14) none (.bin .lss (.tmp 13) (.tmp 12)) .done) false 6 [0, 1, 11, 12, 13, 14],
  .reg (.q (some 6) none (.mov (.tmp 0)) (.q (some 7) none (.nc (.tmp 6)) (.q (some 8) none (.fadr 2 (.tmp 7)) (.q (some 9) none (.ld1 (.tmp 8)) (.q (some 10) none (.mov (.tmp 1)) (.q (some 11) none (.slcS 65 (.tmp 9) none (some (.tmp 10))) (.q (some 12) none (.len (.tmp 11)) (.q (some 13) none (.mov (.const (.int .i64 0))) .done)))))))) false 7 [0, 1, 11, 12, 13]
  ]
theorem c29_ok : cfgL Try.prog 29 = some (35, 8, c29.map Vc.Node.bare) := by kernel_rfl
/- strongbox/disk.modulo: entry 4 -/
def c30 : List Vc.Node := [
  .ret [.t 4],
  .ret [.t 4],
  .reg (.q (some 8) none (.mov (.tmp 0)) (.q (some 9) none (.mov (.tmp 0)) (.q (some 10) none (.neg (.tmp 9)) (.q (some 11) none (.max [(.tmp 8), (.tmp 10)]) (.q (some 4) none (.mov (.tmp 11)) .done))))) false 1 [4],
  .reg (.q (some 5) none (.mov (.tmp 0)) (.q (some 6) none (.mov (.tmp 1)) (.q (some 7) none (.bin .rem (.tmp 5) (.tmp 6)) (.q (some 0) none (.mov (.tmp 7)) .done)))) false 2 [0],
  .reg (.q (some 4) none (.mov (.const (.int .i64 0))) .done) false 3 [0, 1]
  ]
theorem c30_ok : cfgL Try.prog 30 = some (12, 4, c30.map Vc.Node.bare) := by kernel_rfl
/- (*strongbox/disk.Disk).there: entry 3 -/
def c31 : List Vc.Node := [
  .ret [.t 4],
  .ret [.t 4],
  .reg (.q (some 5) none (.mov (.tmp 1)) (.q (some 6) none (.bin .geq (.tmp 5) (.const (.int .i64 0))) (.q (some 7) none (.mov (.tmp 6)) (.q (some 8) (some (7, true)) (.mov (.tmp 1)) (.q (some 9) (some (7, true)) (.mov (.tmp 0)) (.q (some 10) (some (7, true)) (.nc (.tmp 9)) (.q (some 11) (some (7, true)) (.fadr 0 (.tmp 10)) (.q (some 12) (some (7, true)) (.ld1 (.tmp 11)) (.q (some 13) (some (7, true)) (.bin .lss (.tmp 8) (.tmp 12)) (.q (some 14) none (.pick (.tmp 7) (.tmp 13) (.const (.bool false))) (.q (some 4) none (.mov (.tmp 14)) .done))))))))))) false 1 [4],
  .reg (.q (some 4) none (.mov (.const (.bool false))) .done) false 2 [0, 1]
  ]
theorem c31_ok : cfgL Try.prog 31 = some (15, 3, c31.map Vc.Node.bare) := by kernel_rfl
/- slices.Backward[[]strongbox/disk.write,strongbox/disk.write]: entry 3 -/
def c32 : List Vc.Node := [
  .ret [.t 2],
  .ret [.t 2],
  .reg (.q (some 3) none (.mkF 41 [] [(.tmp 1)]) (.q (some 2) none (.mov (.tmp 3)) .done)) false 1 [2],
  .reg (.l (some 1) none (.box 56 (.tmp 0)) [] (.q (some 2) none (.mov (.const .nilFunc)) .done)) false 2 [1]
  ]
theorem c32_ok : cfgL Try.prog 32 = some (4, 3, c32.map Vc.Node.bare) := by kernel_rfl
/- bytes.Clone: entry 7 -/
def c33 : List Vc.Node := [
  .ret [.t 2],
  .ret [.t 2],
  .reg (.l (some 5) none (.bldS 5 1 []) [] (.q (some 6) none (.mov (.tmp 0)) (.l (some 7) none (.app 5 1 1 [(1, (.int .u8 0))] (.tmp 5) (.tmp 6)) [] (.q (some 2) none (.mov (.tmp 7)) .done)))) false 1 [2],
  .ret [.t 2],
  .reg (.q (some 2) none (.mov (.const (.slice none 0 0))) .done) false 3 [2],
  .cnd (.tmp 4) 4 2,
  .reg (.q (some 3) none (.mov (.tmp 0)) (.q (some 4) none (.eqS false (.tmp 3) (.const (.slice none 0 0))) .done)) false 5 [0, 4],
  .reg (.q (some 2) none (.mov (.const (.slice none 0 0))) .done) false 6 [0]
  ]
theorem c33_ok : cfgL Try.prog 33 = some (8, 7, c33.map Vc.Node.bare) := by kernel_rfl
/- strongbox/strongboxref07.there: entry 3 -/
def c34 : List Vc.Node := [
  .ret [.t 4],
  .ret [.t 4],
  .reg (.q (some 5) none (.mov (.tmp 1)) (.q (some 6) none (.bin .geq (.tmp 5) (.const (.int .i64 0))) (.q (some 7) none (.mov (.tmp 6)) (.q (some 8) (some (7, true)) (.mov (.tmp 1)) (.q (some 9) (some (7, true)) (.fadr 0 (.tmp 2)) (.q (some 10) (some (7, true)) (.ld1 (.tmp 9)) (.q (some 11) (some (7, true)) (.len (.tmp 10)) (.q (some 12) (some (7, true)) (.bin .lss (.tmp 8) (.tmp 11)) (.q (some 13) none (.pick (.tmp 7) (.tmp 12) (.const (.bool false))) (.q (some 4) none (.mov (.tmp 13)) .done)))))))))) false 1 [4],
  .reg (.l (some 2) none (.box 30 (.tmp 0)) [] (.q (some 4) none (.mov (.const (.bool false))) .done)) false 2 [1, 2]
  ]
theorem c34_ok : cfgL Try.prog 34 = some (14, 3, c34.map Vc.Node.bare) := by kernel_rfl
/- maps.Clone[map[int]strongbox/disk.sector,int,strongbox/disk.sector]: entry 7 -/
def c35 : List Vc.Node := [
  .ret [.t 2],
  .ret [.t 2],
  .reg (.q (some 5) none (.mov (.tmp 0)) (.q (some 6) none (.mif 55 (.tmp 5)) (.l (some 7) none (.callx 42 [(.tmp 6)]) [] (.q (some 8) none (.ta 55 (.tmp 7)) (.q (some 2) none (.mov (.tmp 8)) .done))))) false 1 [2],
  .ret [.t 2],
  .reg (.q (some 2) none (.mov (.const (.map none))) .done) false 3 [2],
  .cnd (.tmp 4) 4 2,
  .reg (.q (some 3) none (.mov (.tmp 0)) (.q (some 4) none (.eqM false (.tmp 3) (.const (.map none))) .done)) false 5 [0, 4],
  .reg (.q (some 2) none (.mov (.const (.map none))) .done) false 6 [0]
  ]
theorem c35_ok : cfgL Try.prog 35 = some (9, 7, c35.map Vc.Node.bare) := by kernel_rfl
/- slices.Clone[[]strongbox/disk.write,strongbox/disk.write]: entry 7 -/
def c36 : List Vc.Node := [
  .ret [.t 2],
  .ret [.t 2],
  .reg (.l (some 5) none (.bldS 71 65 []) [] (.q (some 6) none (.mov (.tmp 0)) (.l (some 7) none (.app 71 65 72 [(1, (.int .i64 0)), (64, (.int .u8 0))] (.tmp 5) (.tmp 6)) [] (.q (some 2) none (.mov (.tmp 7)) .done)))) false 1 [2],
  .ret [.t 2],
  .reg (.q (some 2) none (.mov (.const (.slice none 0 0))) .done) false 3 [2],
  .cnd (.tmp 4) 4 2,
  .reg (.q (some 3) none (.mov (.tmp 0)) (.q (some 4) none (.eqS false (.tmp 3) (.const (.slice none 0 0))) .done)) false 5 [0, 4],
  .reg (.q (some 2) none (.mov (.const (.slice none 0 0))) .done) false 6 [0]
  ]
theorem c36_ok : cfgL Try.prog 36 = some (8, 7, c36.map Vc.Node.bare) := by kernel_rfl
/- (*strongbox/disk.Disk).burn: entry 11 -/
def c37 : List Vc.Node := [
  .ret [.t 2],
  .ret [.t 2],
  .reg (.q (some 2) none (.mov (.const (.int .i64 0))) .done) false 1 [2],
  .ret [.t 2],
  .reg (.q (some 2) none (.mov (.const (.int .i64 10))) .done) false 3 [2],
  .cnd (.tmp 32) 4 2,
  .reg (.q (some 29) none (.mov (.tmp 0)) (.q (some 30) none (.nc (.tmp 29)) (.q (some 31) none (.fadr 5 (.tmp 30)) (.q (some 32) none (.ld1 (.tmp 31)) .done)))) false 5 [32],
  .reg (.q (some 22) none (.mov (.tmp 0)) (.q (some 23) none (.nc (.tmp 22)) (.q (some 24) none (.fadr 3 (.tmp 23)) (.q (some 25) none (.ld1 (.tmp 24)) (.q (some 26) none (.bin .sub (.tmp 25) (.const (.int .i64 1))) (.q (some 27) none (.nc (.tmp 22)) (.q (some 28) none (.fadr 3 (.tmp 27)) (.l none none (.st1 (.tmp 28) (.tmp 26)) [] .done)))))))) false 6 [0],
  .reg (.q (some 14) none (.mov (.tmp 0)) (.q (some 15) none (.mov (.tmp 0)) (.q (some 16) none (.nc (.tmp 15)) (.q (some 17) none (.fadr 3 (.tmp 16)) (.q (some 18) none (.ld1 (.tmp 17)) (.q (some 19) none (.bin .eql (.tmp 18) (.const (.int .i64 0))) (.q (some 20) none (.nc (.tmp 14)) (.q (some 21) none (.fadr 5 (.tmp 20)) (.l none none (.st1 (.tmp 21) (.tmp 19)) [] .done))))))))) false 7 [0],
  .cnd (.tmp 13) 8 6,
  .reg (.q (some 3) none (.mov (.tmp 0)) (.q (some 4) none (.nc (.tmp 3)) (.q (some 5) none (.fadr 4 (.tmp 4)) (.q (some 6) none (.ld1 (.tmp 5)) (.q (some 7) none (.mov (.tmp 6)) (.q (some 8) (some (7, true)) (.mov (.tmp 0)) (.q (some 9) (some (7, true)) (.nc (.tmp 8)) (.q (some 10) (some (7, true)) (.fadr 5 (.tmp 9)) (.q (some 11) (some (7, true)) (.ld1 (.tmp 10)) (.q (some 12) (some (7, true)) (.not (.tmp 11)) (.q (some 13) none (.pick (.tmp 7) (.tmp 12) (.const (.bool false))) .done))))))))))) false 9 [0, 13],
  .reg (.q (some 2) none (.mov (.const (.int .i64 0))) .done) false 10 [0]
  ]
theorem c37_ok : cfgL Try.prog 37 = some (33, 11, c37.map Vc.Node.bare) := by kernel_rfl
/- strongbox/strongboxref07.call: entry 15 -/
def c38 : List Vc.Node := [
  .ret [.cN 2 4, .t 3],
  .ret [.cN 2 4, .t 3],
  .reg (.q (some 19) none (.ldN 4 (.tmp 1)) (.l none none (.stN 4 (.tmp 2) (.tmp 19)) [] (.q (some 3) none (.mov (.const (.bool true))) .done))) false 1 [2, 3],
  .reg (.q (some 15) none (.fadr 2 (.tmp 1)) (.q (some 16) none (.ld1 (.tmp 15)) (.q (some 17) none (.bin .sub (.tmp 16) (.const (.int .i64 1))) (.q (some 18) none (.fadr 2 (.tmp 1)) (.l none none (.st1 (.tmp 18) (.tmp 17)) [] .done))))) false 2 [1, 2],
  .cnd (.tmp 14) 3 2,
  .reg (.q (some 12) none (.fadr 2 (.tmp 1)) (.q (some 13) none (.ld1 (.tmp 12)) (.q (some 14) none (.bin .gtr (.tmp 13) (.const (.int .i64 0))) .done))) false 4 [1, 2, 14],
  .ret [.cN 2 4, .t 3],
  .reg (.q (some 11) none (.ldN 4 (.tmp 1)) (.l none none (.stN 4 (.tmp 2) (.tmp 11)) [] (.q (some 3) none (.mov (.const (.bool false))) .done))) false 6 [2, 3],
  .reg (.q (some 10) none (.fadr 3 (.tmp 1)) (.l none none (.st1 (.tmp 10) (.const (.bool true))) [] .done)) false 7 [1, 2],
  .cnd (.tmp 9) 8 5,
  .reg (.q (some 7) none (.fadr 2 (.tmp 1)) (.q (some 8) none (.ld1 (.tmp 7)) (.q (some 9) none (.bin .eql (.tmp 8) (.const (.int .i64 0))) .done))) false 9 [1, 2, 9],
  .ret [.cN 2 4, .t 3],
  .reg (.q (some 6) none (.ldN 4 (.tmp 1)) (.l none none (.stN 4 (.tmp 2) (.tmp 6)) [] (.q (some 3) none (.mov (.const (.bool false))) .done))) false 11 [2, 3],
  .cnd (.tmp 5) 12 10,
  .reg (.q (some 4) none (.fadr 3 (.tmp 1)) (.q (some 5) none (.ld1 (.tmp 4)) .done)) false 13 [1, 2, 5],
  .reg (.l (some 1) none (.box 30 (.tmp 0)) [] (.l (some 2) none (.alloc 30 [(2, (.slice none 0 0)), (1, (.int .i64 0)), (1, (.bool false))]) [] (.q (some 3) none (.mov (.const (.bool false))) .done))) false 14 [1, 2]
  ]
theorem c38_ok : cfgL Try.prog 38 = some (20, 15, c38.map Vc.Node.bare) := by kernel_rfl
/- strongbox/strongboxref07.settle: entry 25 -/
def c39 : List Vc.Node := [
  .ret [.cN 6 4],
  .ret [.cN 6 4],
  .reg (.q (some 53) none (.ldN 4 (.tmp 3)) (.l none none (.stN 4 (.tmp 6) (.tmp 53)) [] .done)) false 1 [6],
  .reg (.q (some 52) none (.fadr 1 (.tmp 3)) (.l none none (.st1 (.tmp 52) (.const (.slice none 0 0))) [] .done)) false 2 [3, 6],
  .reg (.q (some 50) none (.mov (.tmp 7)) (.q (some 51) none (.fadr 0 (.tmp 3)) (.l none none (.st1 (.tmp 51) (.tmp 50)) [] .done))) false 3 [3, 6],
  .jmp 22,
  .reg (.q (some 21) none (.mov (.tmp 8)) (.q (some 22) none (.bin .add (.tmp 21) (.const (.int .i64 1))) (.q (some 8) none (.mov (.tmp 22)) .done))) false 5 [1, 2, 3, 6, 7, 8],
  .jmp 11,
  .reg (.q (some 38) none (.mov (.tmp 11)) (.q (some 39) none (.bin .add (.tmp 38) (.const (.int .i64 1))) (.q (some 11) none (.mov (.tmp 39)) .done))) false 7 [1, 2, 3, 6, 7, 8, 9, 10, 11],
  .reg (.q (some 40) none (.mov (.tmp 7)) (.q (some 41) none (.fadr 0 (.tmp 9)) (.q (some 42) none (.ld1 (.tmp 41)) (.q (some 43) none (.mov (.tmp 11)) (.q (some 44) none (.mov (.tmp 11)) (.q (some 45) none (.fadr 1 (.tmp 9)) (.q (some 46) none (.iadrA 64 1 (.tmp 45) (.tmp 44)) (.q (some 47) none (.ld1 (.tmp 46)) (.q (some 48) none (.iadrS 64 (.tmp 40) (.tmp 42)) (.q (some 49) none (.iadrA 64 1 (.tmp 48) (.tmp 43)) (.l none none (.st1 (.tmp 49) (.tmp 47)) [] .done))))))))))) true 8 [1, 2, 3, 6, 7, 8, 9, 10, 11],
  .cnd (.tmp 37) 9 6,
  .reg (.q (some 35) none (.mov (.tmp 11)) (.q (some 36) none (.mov (.tmp 10)) (.q (some 37) none (.bin .lss (.tmp 35) (.tmp 36)) .done))) false 10 [1, 2, 3, 6, 7, 8, 9, 10, 11, 37],
  .reg (.q (some 11) none (.mov (.const (.int .i64 0))) .done) false 11 [1, 2, 3, 6, 7, 8, 9, 10, 11],
  .reg (.q (some 10) none (.mov (.const (.int .i64 0))) .done) false 12 [1, 2, 3, 6, 7, 8, 9, 10],
  .cnd (.tmp 34) 13 12,
  .reg (.q (some 32) none (.mov (.tmp 8)) (.q (some 33) none (.mov (.tmp 1)) (.q (some 34) none (.bin .gtr (.tmp 32) (.tmp 33)) .done))) false 14 [1, 2, 3, 6, 7, 8, 9, 10, 34],
  .reg (.q (some 31) none (.mov (.tmp 2)) (.q (some 10) none (.mov (.tmp 31)) .done)) false 15 [1, 2, 3, 6, 7, 8, 9, 10],
  .cnd (.tmp 30) 16 15,
  .reg (.q (some 28) none (.mov (.tmp 8)) (.q (some 29) none (.mov (.tmp 1)) (.q (some 30) none (.bin .eql (.tmp 28) (.tmp 29)) .done))) false 17 [1, 2, 3, 6, 7, 8, 9, 10, 30],
  .reg (.q (some 10) none (.mov (.const (.int .i64 64))) .done) false 18 [1, 2, 3, 6, 7, 8, 9, 10],
  .reg (.q (some 23) none (.fadr 1 (.tmp 3)) (.q (some 24) none (.ld1 (.tmp 23)) (.q (some 25) none (.mov (.tmp 8)) (.q (some 26) none (.iadrS 65 (.tmp 24) (.tmp 25)) (.q (some 27) none (.ldN 65 (.tmp 26)) (.l (some 9) none (.alloc 49 [(1, (.int .i64 0)), (64, (.int .u8 0))]) [] (.l none none (.stN 65 (.tmp 9) (.tmp 27)) [] .done))))))) false 19 [1, 2, 3, 6, 7, 8, 9],
  .cnd (.tmp 20) 20 4,
  .reg (.q (some 16) none (.mov (.tmp 8)) (.q (some 17) none (.fadr 1 (.tmp 3)) (.q (some 18) none (.ld1 (.tmp 17)) (.q (some 19) none (.len (.tmp 18)) (.q (some 20) none (.bin .lss (.tmp 16) (.tmp 19)) .done))))) false 21 [1, 2, 3, 6, 7, 8, 20],
  .reg (.q (some 8) none (.mov (.const (.int .i64 0))) .done) false 22 [1, 2, 3, 6, 7, 8],
  .reg (.l (some 12) none (.bldS 47 64 []) [] (.q (some 13) none (.fadr 0 (.tmp 3)) (.q (some 14) none (.ld1 (.tmp 13)) (.l (some 15) none (.app 47 64 64 [(64, (.int .u8 0))] (.tmp 12) (.tmp 14)) [] (.q (some 7) none (.mov (.tmp 15)) .done))))) false 23 [1, 2, 3, 6, 7],
  .reg (.l (some 3) none (.box 30 (.tmp 0)) [] (.l (some 6) none (.alloc 30 [(2, (.slice none 0 0)), (1, (.int .i64 0)), (1, (.bool false))]) [] .done)) false 24 [1, 2, 3, 6]
  ]
theorem c39_ok : cfgL Try.prog 39 = some (54, 25, c39.map Vc.Node.bare) := by kernel_rfl
/- strongbox/strongboxref07.mod: entry 8 -/
def c40 : List Vc.Node := [
  .ret [.t 4],
  .ret [.t 4],
  .reg (.q (some 12) none (.mov (.tmp 0)) (.q (some 4) none (.mov (.tmp 12)) .done)) false 1 [4],
  .ret [.t 4],
  .reg (.q (some 10) none (.mov (.tmp 0)) (.q (some 11) none (.neg (.tmp 10)) (.q (some 4) none (.mov (.tmp 11)) .done))) false 3 [4],
  .cnd (.tmp 9) 4 2,
  .reg (.q (some 8) none (.mov (.tmp 0)) (.q (some 9) none (.bin .lss (.tmp 8) (.const (.int .i64 0))) .done)) false 5 [0, 9],
  .reg (.q (some 5) none (.mov (.tmp 0)) (.q (some 6) none (.mov (.tmp 1)) (.q (some 7) none (.bin .rem (.tmp 5) (.tmp 6)) (.q (some 0) none (.mov (.tmp 7)) .done)))) false 6 [0],
  .reg (.q (some 4) none (.mov (.const (.int .i64 0))) .done) false 7 [0, 1]
  ]
theorem c40_ok : cfgL Try.prog 40 = some (13, 8, c40.map Vc.Node.bare) := by kernel_rfl
/- slices.Backward[[]strongbox/disk.write,strongbox/disk.write]$1: entry 8 -/
def c41 : List Vc.Node := [
  .ret [],
  .jmp 7,
  .reg (.q (some 9) none (.mov (.tmp 3)) (.q (some 10) none (.bin .sub (.tmp 9) (.const (.int .i64 1))) (.q (some 3) none (.mov (.tmp 10)) .done))) false 1 [0, 1, 3],
  .ret [],
  .cnd (.tmp 18) 3 2,
  .reg (.q (some 11) none (.mov (.tmp 0)) (.q (some 12) none (.mov (.tmp 3)) (.q (some 13) none (.ld1 (.tmp 1)) (.q (some 14) none (.mov (.tmp 3)) (.q (some 15) none (.iadrS 65 (.tmp 13) (.tmp 14)) (.q (some 16) none (.ldN 65 (.tmp 15)) (.l (some 17) none (.callv (.tmp 11) [(.tmp 12), (.tmp 16)]) [] (.q (some 18) none (.not (.tmp 17)) .done)))))))) false 4 [0, 1, 3, 18],
  .cnd (.tmp 8) 5 0,
  .reg (.q (some 7) none (.mov (.tmp 3)) (.q (some 8) none (.bin .geq (.tmp 7) (.const (.int .i64 0))) .done)) false 6 [0, 1, 3, 8],
  .reg (.q (some 4) none (.ld1 (.tmp 1)) (.q (some 5) none (.len (.tmp 4)) (.q (some 6) none (.bin .sub (.tmp 5) (.const (.int .i64 1))) (.q (some 3) none (.mov (.tmp 6)) .done)))) false 7 [0, 1, 3]
  ]
theorem c41_ok : cfgL Try.prog 41 = some (19, 8, c41.map Vc.Node.bare) := by kernel_rfl
end Go.Proofs
