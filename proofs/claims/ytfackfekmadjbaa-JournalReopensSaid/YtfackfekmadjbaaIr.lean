/- The graphs of this seat's functions, written by program, each held against the translation by the kernel. -/
import Derived.Test.YtfackfekmadjbaaProg
import Derived.Test.YtfackfekmadjbaaVcF
import Derived.KernelRfl
set_option linter.unusedSimpArgs false
set_option linter.unusedVariables false
set_option linter.constructorNameAsVariable false
namespace Go.Proofs
open Go.Vc
/- gosem.cut.init: entry 1 -/
def c2 : List Vc.Node := [
  .ret [],
  .reg (.l (some 0) none (.callx 1 []) [] .done) false 0 []
  ]
theorem c2_ok : cfgL Try.prog 2 = some (1, 1, c2.map Vc.Node.bare) := by kernel_rfl
/- strongbox/strongboxlaw08.JournalPlays: entry 53 -/
def c3 : List Vc.Node := [
  .ret [.t 2],
  .ret [.t 2],
  .reg (.q (some 2) none (.mov (.const (.bool true))) .done) false 1 [2],
  .jmp 40,
  .reg (.q (some 36) none (.mov (.tmp 7)) (.q (some 37) none (.bin .add (.tmp 36) (.const (.int .i64 1))) (.q (some 7) none (.mov (.tmp 37)) .done))) false 3 [0, 3, 4, 6, 7],
  .ret [.t 2],
  .reg (.q (some 2) none (.mov (.const (.bool false))) .done) false 5 [2],
  .cnd (.tmp 125) 6 4,
  .reg (.q (some 121) none (.mov (.tmp 4)) (.q (some 123) none (.ldN 2 (.tmp 6)) (.l (some 122) none (.call 18 [(.tmp 121)]) [⟨123, none, (.ldN 2 (.tmp 6))⟩] (.l (some 124) none (.call 17 [(.tmp 122), (.tmp 123)]) [] (.q (some 125) none (.not (.tmp 124)) .done))))) true 7 [0, 3, 4, 6, 7, 125],
  .jmp 20,
  .reg (.q (some 120) none (.bin .add (.tmp 104) (.const (.int .i64 1))) (.q (some 104) none (.mov (.tmp 120)) .done)) false 9 [0, 3, 4, 6, 7, 102, 103, 104],
  .jmp 16,
  .reg (.q (some 119) none (.bin .add (.tmp 110) (.const (.int .i64 1))) (.q (some 110) none (.mov (.tmp 119)) .done)) false 11 [0, 3, 4, 6, 7, 12, 102, 103, 104, 109, 110],
  .reg (.q (some 113) none (.mov (.tmp 12)) (.q (some 114) none (.mov (.tmp 13)) (.q (some 115) none (.iadrS 1 (.tmp 113) (.tmp 114)) (.q (some 116) none (.ld1 (.tmp 115)) (.q (some 117) none (.bin .xor (.tmp 116) (.const (.int .u8 255))) (.q (some 118) none (.iadrS 1 (.tmp 113) (.tmp 114)) (.l none none (.st1 (.tmp 118) (.tmp 117)) [] .done))))))) false 12 [0, 3, 4, 6, 7, 12, 102, 103, 104, 109, 110],
  .reg (.q (some 112) none (.mov (.tmp 110)) (.q (some 13) none (.mov (.tmp 112)) .done)) false 13 [0, 3, 4, 6, 7, 12, 13, 102, 103, 104, 109, 110],
  .cnd (.tmp 111) 14 10,
  .reg (.q (some 111) none (.bin .lss (.tmp 110) (.tmp 109)) .done) false 15 [0, 3, 4, 6, 7, 12, 102, 103, 104, 109, 110, 111],
  .reg (.q (some 108) none (.mov (.tmp 12)) (.q (some 109) none (.len (.tmp 108)) (.q (some 110) none (.mov (.const (.int .i64 0))) .done))) false 16 [0, 3, 4, 6, 7, 12, 102, 103, 104, 109, 110],
  .reg (.q (some 106) none (.iadrS 1 (.tmp 102) (.tmp 104)) (.q (some 107) none (.ld1 (.tmp 106)) (.q (some 12) none (.mov (.tmp 107)) .done))) false 17 [0, 3, 4, 6, 7, 12, 102, 103, 104],
  .cnd (.tmp 105) 18 8,
  .reg (.q (some 105) none (.bin .lss (.tmp 104) (.tmp 103)) .done) false 19 [0, 3, 4, 6, 7, 102, 103, 104, 105],
  .reg (.q (some 101) none (.mov (.tmp 4)) (.l (some 102) none (.call 19 [(.tmp 101)]) [] (.q (some 103) none (.len (.tmp 102)) (.q (some 104) none (.mov (.const (.int .i64 0))) .done)))) false 20 [0, 3, 4, 6, 7, 102, 103, 104],
  .reg (.q (some 93) none (.mov (.tmp 9)) (.q (some 94) none (.mov (.tmp 9)) (.q (some 95) none (.cap (.tmp 94)) (.q (some 96) none (.slcS 1 (.tmp 93) none (some (.tmp 95))) (.q (some 97) none (.iadrS 1 (.tmp 96) (.const (.int .i64 0))) (.q (some 98) none (.ld1 (.tmp 97)) (.q (some 99) none (.bin .xor (.tmp 98) (.const (.int .u8 255))) (.q (some 100) none (.iadrS 1 (.tmp 96) (.const (.int .i64 0))) (.l none none (.st1 (.tmp 100) (.tmp 99)) [] .done))))))))) false 21 [0, 3, 4, 6, 7],
  .ret [.t 2],
  .reg (.q (some 2) none (.mov (.const (.bool false))) .done) false 23 [2],
  .cnd (.tmp 92) 24 22,
  .reg (.q (some 74) none (.mov (.tmp 5)) (.q (some 75) none (.bin .neq (.tmp 74) (.const (.int .i64 0))) (.q (some 76) none (.mov (.tmp 75)) (.q (some 77) (some (76, false)) (.mov (.tmp 4)) (.q (some 78) (some (76, false)) (.eqP false (.tmp 77) (.const (.pointer none))) (.q (some 79) none (.pick (.tmp 76) (.const (.bool true)) (.tmp 78)) (.q (some 80) none (.mov (.tmp 79)) (.q (some 81) (some (80, false)) (.mov (.tmp 10)) (.q (some 82) (some (80, false)) (.mov (.tmp 8)) (.l (some 83) (some (80, false)) (.call 16 [(.tmp 81), (.tmp 82)]) [] (.q (some 84) (some (80, false)) (.not (.tmp 83)) (.q (some 85) none (.pick (.tmp 80) (.const (.bool true)) (.tmp 84)) (.q (some 86) none (.mov (.tmp 85)) (.q (some 87) (some (86, false)) (.mov (.tmp 4)) (.q (some 89) (some (86, false)) (.ldN 2 (.tmp 6)) (.l (some 88) (some (86, false)) (.call 18 [(.tmp 87)]) [⟨89, (some (86, false)), (.ldN 2 (.tmp 6))⟩] (.l (some 90) (some (86, false)) (.call 17 [(.tmp 88), (.tmp 89)]) [] (.q (some 91) (some (86, false)) (.not (.tmp 90)) (.q (some 92) none (.pick (.tmp 86) (.const (.bool true)) (.tmp 91)) .done))))))))))))))))))) true 25 [0, 3, 4, 6, 7, 9, 92],
  .reg (.q (some 64) none (.ldN 2 (.tmp 6)) (.q (some 65) none (.mov (.tmp 8)) (.l (some 66) none (.call 13 [(.tmp 64), (.tmp 65)]) [] (.l none none (.stN 2 (.tmp 6) (.tmp 66)) [] .done)))) false 26 [0, 3, 4, 5, 6, 7, 8, 9, 10],
  .reg (.q (some 61) none (.mov (.tmp 4)) (.q (some 62) none (.mov (.tmp 9)) (.l (some 63) none (.call 12 [(.tmp 61), (.tmp 62)]) [] (.q (some 5) none (.mov (.tmp 63)) .done)))) false 27 [0, 3, 4, 5, 6, 7, 8, 9, 10],
  .reg (.q (some 72) none (.mov (.tmp 8)) (.l (some 73) none (.call 15 [(.tmp 72)]) [] (.l none none (.stN 2 (.tmp 6) (.tmp 73)) [] .done))) false 26 [0, 3, 4, 5, 6, 7, 8, 9, 10],
  .reg (.q (some 69) none (.mov (.tmp 4)) (.q (some 70) none (.mov (.tmp 9)) (.l (some 71) none (.call 14 [(.tmp 69), (.tmp 70)]) [] (.q (some 5) none (.mov (.tmp 71)) .done)))) false 29 [0, 3, 4, 5, 6, 7, 8, 9, 10],
  .reg (.q (some 55) none (.mov (.tmp 3)) (.l (some 56) none (.call 9 [(.tmp 55)]) [] (.q (some 54) none (.mov (.tmp 56)) (.q (some 57) none (.ext 0 (.tmp 54)) (.q (some 58) none (.ext 1 (.tmp 54)) (.q (some 4) none (.mov (.tmp 57)) (.q (some 5) none (.mov (.tmp 58)) .done))))))) false 26 [0, 3, 4, 5, 6, 7, 8, 9, 10],
  .cnd (.tmp 67) 30 31,
  .reg (.q (some 68) none (.bin .eql (.tmp 53) (.const (.int .i64 2))) (.q (some 67) none (.mov (.tmp 68)) .done)) false 32 [0, 3, 4, 6, 7, 8, 9, 10, 67],
  .cnd (.tmp 59) 28 33,
  .reg (.q (some 60) none (.bin .eql (.tmp 53) (.const (.int .i64 1))) (.q (some 59) none (.mov (.tmp 60)) .done)) false 34 [0, 3, 4, 6, 7, 8, 9, 10, 53, 59],
  .reg (.q (some 49) none (.mov (.tmp 0)) (.q (some 50) none (.mov (.tmp 7)) (.q (some 51) none (.iadrS 6 (.tmp 49) (.tmp 50)) (.q (some 52) none (.fadr 0 (.tmp 51)) (.q (some 53) none (.ld1 (.tmp 52)) .done))))) false 35 [0, 3, 4, 6, 7, 8, 9, 10, 53],
  .reg (.q (some 45) none (.mov (.tmp 8)) (.l (some 46) none (.call 11 [(.tmp 45)]) [] (.q (some 44) none (.mov (.tmp 46)) (.q (some 47) none (.ext 0 (.tmp 44)) (.q (some 48) none (.ext 1 (.tmp 44)) (.q (some 9) none (.mov (.tmp 47)) (.q (some 10) none (.mov (.tmp 48)) .done))))))) false 36 [0, 3, 4, 6, 7, 8, 9, 10],
  .reg (.q (some 38) none (.mov (.tmp 0)) (.q (some 39) none (.mov (.tmp 7)) (.q (some 40) none (.iadrS 6 (.tmp 38) (.tmp 39)) (.q (some 41) none (.fadr 5 (.tmp 40)) (.q (some 42) none (.ld1 (.tmp 41)) (.l (some 43) none (.call 10 [(.tmp 42), (.const (.int .i64 400))]) [] (.q (some 8) none (.mov (.tmp 43)) .done))))))) false 37 [0, 3, 4, 6, 7, 8],
  .cnd (.tmp 35) 38 2,
  .reg (.q (some 28) none (.mov (.tmp 7)) (.q (some 29) none (.mov (.tmp 0)) (.q (some 30) none (.len (.tmp 29)) (.q (some 31) none (.bin .lss (.tmp 28) (.tmp 30)) (.q (some 32) none (.mov (.tmp 31)) (.q (some 33) (some (32, true)) (.mov (.tmp 7)) (.q (some 34) (some (32, true)) (.bin .lss (.tmp 33) (.const (.int .i64 30))) (.q (some 35) none (.pick (.tmp 32) (.tmp 34) (.const (.bool false))) .done)))))))) false 39 [0, 3, 4, 6, 7, 35],
  .reg (.q (some 7) none (.mov (.const (.int .i64 0))) .done) false 40 [0, 3, 4, 6, 7],
  .reg (.l (some 6) none (.alloc 33 [(2, (.slice none 0 0))]) [] .done) false 41 [0, 3, 4, 6],
  .ret [.t 2],
  .reg (.q (some 2) none (.mov (.const (.bool false))) .done) false 43 [2],
  .cnd (.tmp 27) 44 42,
  .reg (.q (some 22) none (.mov (.tmp 5)) (.q (some 23) none (.bin .neq (.tmp 22) (.const (.int .i64 0))) (.q (some 24) none (.mov (.tmp 23)) (.q (some 25) (some (24, false)) (.mov (.tmp 4)) (.q (some 26) (some (24, false)) (.eqP false (.tmp 25) (.const (.pointer none))) (.q (some 27) none (.pick (.tmp 24) (.const (.bool true)) (.tmp 26)) .done)))))) false 45 [0, 3, 4, 27],
  .reg (.q (some 18) none (.mov (.tmp 3)) (.l (some 19) none (.call 9 [(.tmp 18)]) [] (.q (some 17) none (.mov (.tmp 19)) (.q (some 20) none (.ext 0 (.tmp 17)) (.q (some 21) none (.ext 1 (.tmp 17)) (.q (some 4) none (.mov (.tmp 20)) (.q (some 5) none (.mov (.tmp 21)) .done))))))) false 46 [0, 3, 4, 5],
  .reg (.l (some 16) none (.call 8 [(.const (.int .i64 2000))]) [] (.q (some 3) none (.mov (.tmp 16)) .done)) false 47 [0, 3],
  .ret [.t 2],
  .reg (.q (some 2) none (.mov (.const (.bool false))) .done) false 49 [2],
  .cnd (.tmp 15) 50 48,
  .reg (.l (some 14) none (.call 7 []) [] (.q (some 15) none (.not (.tmp 14)) .done)) false 51 [0, 15],
  .reg (.q (some 2) none (.mov (.const (.bool false))) .done) false 52 [0]
  ]
theorem c3_ok : cfgL Try.prog 3 = some (126, 53, c3.map Vc.Node.bare) := by kernel_rfl
/- strongbox/strongboxlaw08.JournalRooms: entry 52 -/
def c4 : List Vc.Node := [
  .ret [.t 4],
  .ret [.t 4],
  .reg (.q (some 154) none (.mov (.tmp 5)) (.l (some 155) none (.mkS 5 1 1 [(1, (.int .u8 0))] (.const (.int .i64 65536)) (.const (.int .i64 65536))) [] (.l (some 156) none (.call 12 [(.tmp 154), (.tmp 155)]) [] (.q (some 157) none (.bin .eql (.tmp 156) (.const (.int .i64 2))) (.q (some 158) none (.mov (.tmp 157)) (.q (some 159) (some (158, true)) (.mov (.tmp 5)) (.l (some 160) (some (158, true)) (.mkS 5 1 1 [(1, (.int .u8 0))] (.const (.int .i64 1048577)) (.const (.int .i64 1048577))) [] (.l (some 161) (some (158, true)) (.call 14 [(.tmp 159), (.tmp 160)]) [] (.q (some 162) (some (158, true)) (.bin .eql (.tmp 161) (.const (.int .i64 2))) (.q (some 163) none (.pick (.tmp 158) (.tmp 162) (.const (.bool false))) (.q (some 164) none (.mov (.tmp 163)) (.q (some 165) (some (164, true)) (.mov (.tmp 5)) (.q (some 167) (some (164, true)) (.ldN 2 (.tmp 7)) (.l (some 166) (some (164, true)) (.call 18 [(.tmp 165)]) [⟨167, (some (164, true)), (.ldN 2 (.tmp 7))⟩] (.l (some 168) (some (164, true)) (.call 17 [(.tmp 166), (.tmp 167)]) [] (.q (some 169) none (.pick (.tmp 164) (.tmp 168) (.const (.bool false))) (.q (some 4) none (.mov (.tmp 169)) .done))))))))))))))))) true 1 [4],
  .jmp 35,
  .reg (.q (some 53) none (.mov (.tmp 8)) (.q (some 54) none (.bin .add (.tmp 53) (.const (.int .i64 1))) (.q (some 8) none (.mov (.tmp 54)) .done))) false 3 [0, 1, 5, 7, 8],
  .ret [.t 4],
  .reg (.q (some 4) none (.mov (.const (.bool false))) .done) false 5 [4],
  .cnd (.tmp 153) 6 4,
  .reg (.q (some 139) none (.mov (.tmp 5)) (.q (some 141) none (.ldN 2 (.tmp 7)) (.l (some 140) none (.call 18 [(.tmp 139)]) [⟨141, none, (.ldN 2 (.tmp 7))⟩] (.l (some 142) none (.call 17 [(.tmp 140), (.tmp 141)]) [] (.q (some 143) none (.not (.tmp 142)) (.q (some 144) none (.mov (.tmp 143)) (.q (some 145) (some (144, false)) (.mov (.tmp 5)) (.l (some 146) (some (144, false)) (.call 20 [(.tmp 145)]) [] (.q (some 147) (some (144, false)) (.bin .lss (.tmp 146) (.const (.int .i64 (-1)))) (.q (some 148) none (.pick (.tmp 144) (.const (.bool true)) (.tmp 147)) (.q (some 149) none (.mov (.tmp 148)) (.q (some 150) (some (149, false)) (.mov (.tmp 5)) (.l (some 151) (some (149, false)) (.call 20 [(.tmp 150)]) [] (.q (some 152) (some (149, false)) (.bin .gtr (.tmp 151) (.const (.int .i64 65535))) (.q (some 153) none (.pick (.tmp 149) (.const (.bool true)) (.tmp 152)) .done))))))))))))))) true 7 [0, 1, 5, 7, 8, 153],
  .ret [.t 4],
  .reg (.q (some 4) none (.mov (.const (.bool false))) .done) false 9 [4],
  .cnd (.tmp 99) 10 8,
  .reg (.q (some 92) none (.mov (.tmp 5)) (.l (some 93) none (.call 20 [(.tmp 92)]) [] (.q (some 94) none (.mov (.tmp 0)) (.q (some 95) none (.bin .mul (.const (.int .i64 32)) (.tmp 94)) (.q (some 96) none (.bin .sub (.tmp 95) (.const (.int .i64 256))) (.q (some 97) none (.mov (.tmp 9)) (.q (some 98) none (.bin .sub (.tmp 96) (.tmp 97)) (.q (some 99) none (.bin .lss (.tmp 93) (.tmp 98)) .done)))))))) false 11 [0, 1, 5, 7, 8, 99],
  .reg (.q (some 90) none (.mov (.tmp 10)) (.l (some 91) none (.call 15 [(.tmp 90)]) [] (.l none none (.stN 2 (.tmp 7) (.tmp 91)) [] .done))) false 12 [0, 1, 5, 7, 8, 9],
  .cnd (.tmp 89) 13 8,
  .reg (.q (some 88) none (.mov (.tmp 6)) (.q (some 89) none (.bin .eql (.tmp 88) (.const (.int .i64 0))) .done)) false 14 [0, 1, 5, 7, 8, 9, 10, 89],
  .ret [.t 4],
  .reg (.q (some 4) none (.mov (.const (.bool false))) .done) false 16 [4],
  .cnd (.tmp 87) 17 15,
  .reg (.q (some 71) none (.mov (.tmp 9)) (.q (some 72) none (.mov (.tmp 0)) (.q (some 73) none (.bin .mul (.const (.int .i64 32)) (.tmp 72)) (.q (some 74) none (.bin .sub (.tmp 73) (.const (.int .i64 256))) (.q (some 75) none (.bin .leq (.tmp 71) (.tmp 74)) (.q (some 76) none (.mov (.tmp 75)) (.q (some 77) (some (76, true)) (.mov (.tmp 6)) (.q (some 78) (some (76, true)) (.bin .neq (.tmp 77) (.const (.int .i64 0))) (.q (some 79) none (.pick (.tmp 76) (.tmp 78) (.const (.bool false))) (.q (some 80) none (.mov (.tmp 79)) (.q (some 81) (some (80, false)) (.mov (.tmp 6)) (.q (some 82) (some (80, false)) (.bin .neq (.tmp 81) (.const (.int .i64 0))) (.q (some 83) (some (80, false)) (.mov (.tmp 82)) (.q (some 84) (some (83, true)) (.mov (.tmp 6)) (.q (some 85) (some (83, true)) (.bin .neq (.tmp 84) (.const (.int .i64 9))) (.q (some 86) (some (80, false)) (.pick (.tmp 83) (.tmp 85) (.const (.bool false))) (.q (some 87) none (.pick (.tmp 80) (.const (.bool true)) (.tmp 86)) .done))))))))))))))))) false 18 [0, 1, 5, 6, 7, 8, 9, 10, 87],
  .reg (.q (some 68) none (.mov (.tmp 5)) (.q (some 69) none (.mov (.tmp 10)) (.l (some 70) none (.call 14 [(.tmp 68), (.tmp 69)]) [] (.q (some 6) none (.mov (.tmp 70)) .done)))) false 19 [0, 1, 5, 6, 7, 8, 9, 10],
  .reg (.q (some 136) none (.ldN 2 (.tmp 7)) (.q (some 137) none (.mov (.tmp 10)) (.l (some 138) none (.call 13 [(.tmp 136), (.tmp 137)]) [] (.l none none (.stN 2 (.tmp 7) (.tmp 138)) [] .done)))) false 8 [0, 1, 5, 7, 8],
  .cnd (.tmp 135) 21 8,
  .reg (.q (some 134) none (.mov (.tmp 6)) (.q (some 135) none (.bin .eql (.tmp 134) (.const (.int .i64 0))) .done)) false 22 [0, 1, 5, 7, 8, 10, 135],
  .ret [.t 4],
  .reg (.q (some 4) none (.mov (.const (.bool false))) .done) false 24 [4],
  .cnd (.tmp 133) 25 23,
  .reg (.q (some 103) none (.mov (.tmp 6)) (.q (some 104) none (.bin .eql (.tmp 103) (.const (.int .i64 0))) (.q (some 105) none (.mov (.tmp 9)) (.q (some 106) none (.mov (.tmp 11)) (.q (some 107) none (.bin .leq (.tmp 105) (.tmp 106)) (.q (some 108) none (.eqB true (.tmp 104) (.tmp 107)) (.q (some 109) none (.mov (.tmp 108)) (.q (some 110) (some (109, false)) (.mov (.tmp 6)) (.q (some 111) (some (109, false)) (.bin .neq (.tmp 110) (.const (.int .i64 0))) (.q (some 112) (some (109, false)) (.mov (.tmp 111)) (.q (some 113) (some (112, true)) (.mov (.tmp 6)) (.q (some 114) (some (112, true)) (.bin .neq (.tmp 113) (.const (.int .i64 9))) (.q (some 115) (some (109, false)) (.pick (.tmp 112) (.tmp 114) (.const (.bool false))) (.q (some 116) none (.pick (.tmp 109) (.const (.bool true)) (.tmp 115)) (.q (some 117) none (.mov (.tmp 116)) (.q (some 118) (some (117, false)) (.mov (.tmp 6)) (.q (some 119) (some (117, false)) (.bin .eql (.tmp 118) (.const (.int .i64 0))) (.q (some 120) (some (117, false)) (.mov (.tmp 119)) (.q (some 121) (some (120, true)) (.mov (.tmp 5)) (.l (some 122) (some (120, true)) (.call 20 [(.tmp 121)]) [] (.q (some 123) (some (120, true)) (.mov (.tmp 11)) (.q (some 124) (some (120, true)) (.mov (.tmp 9)) (.q (some 125) (some (120, true)) (.bin .sub (.tmp 123) (.tmp 124)) (.q (some 126) (some (120, true)) (.bin .sub (.tmp 125) (.const (.int .i64 128))) (.q (some 127) (some (120, true)) (.bin .lss (.tmp 122) (.tmp 126)) (.q (some 128) (some (117, false)) (.pick (.tmp 120) (.tmp 127) (.const (.bool false))) (.q (some 129) (some (117, false)) (.mov (.tmp 128)) (.q (some 130) (some (129, true)) (.mov (.tmp 11)) (.q (some 131) (some (129, true)) (.bin .lss (.tmp 130) (.const (.int .i64 65535))) (.q (some 132) (some (117, false)) (.pick (.tmp 129) (.tmp 131) (.const (.bool false))) (.q (some 133) none (.pick (.tmp 117) (.const (.bool true)) (.tmp 132)) .done))))))))))))))))))))))))))))))) false 26 [0, 1, 5, 6, 7, 8, 10, 133],
  .reg (.q (some 100) none (.mov (.tmp 5)) (.q (some 101) none (.mov (.tmp 10)) (.l (some 102) none (.call 12 [(.tmp 100), (.tmp 101)]) [] (.q (some 6) none (.mov (.tmp 102)) .done)))) false 27 [0, 1, 5, 6, 7, 8, 9, 10, 11],
  .cnd (.tmp 67) 20 28,
  .reg (.q (some 65) none (.mov (.tmp 8)) (.q (some 66) none (.bin .rem (.tmp 65) (.const (.int .i64 5))) (.q (some 67) none (.bin .eql (.tmp 66) (.const (.int .i64 3))) .done))) false 29 [0, 1, 5, 7, 8, 9, 10, 11, 67],
  .reg (.q (some 63) none (.mov (.tmp 5)) (.l (some 64) none (.call 20 [(.tmp 63)]) [] (.q (some 11) none (.mov (.tmp 64)) .done))) false 30 [0, 1, 5, 7, 8, 9, 10, 11],
  .reg (.q (some 61) none (.mov (.tmp 9)) (.l (some 62) none (.mkS 5 1 1 [(1, (.int .u8 0))] (.tmp 61) (.tmp 61)) [] (.q (some 10) none (.mov (.tmp 62)) .done))) false 31 [0, 1, 5, 7, 8, 9, 10],
  .reg (.q (some 55) none (.mov (.tmp 1)) (.q (some 56) none (.mov (.tmp 8)) (.q (some 57) none (.iadrS 1 (.tmp 55) (.tmp 56)) (.q (some 58) none (.ld1 (.tmp 57)) (.q (some 59) none (.min [(.tmp 58), (.const (.int .i64 9000))]) (.q (some 60) none (.max [(.const (.int .i64 0)), (.tmp 59)]) (.q (some 9) none (.mov (.tmp 60)) .done))))))) false 32 [0, 1, 5, 7, 8, 9],
  .cnd (.tmp 52) 33 2,
  .reg (.q (some 45) none (.mov (.tmp 8)) (.q (some 46) none (.mov (.tmp 1)) (.q (some 47) none (.len (.tmp 46)) (.q (some 48) none (.bin .lss (.tmp 45) (.tmp 47)) (.q (some 49) none (.mov (.tmp 48)) (.q (some 50) (some (49, true)) (.mov (.tmp 8)) (.q (some 51) (some (49, true)) (.bin .lss (.tmp 50) (.const (.int .i64 30))) (.q (some 52) none (.pick (.tmp 49) (.tmp 51) (.const (.bool false))) .done)))))))) false 34 [0, 1, 5, 7, 8, 52],
  .reg (.q (some 8) none (.mov (.const (.int .i64 0))) .done) false 35 [0, 1, 5, 7, 8],
  .reg (.l (some 7) none (.alloc 33 [(2, (.slice none 0 0))]) [] .done) false 36 [0, 1, 5, 7],
  .ret [.t 4],
  .reg (.q (some 4) none (.mov (.const (.bool false))) .done) false 38 [4],
  .cnd (.tmp 44) 39 37,
  .reg (.q (some 31) none (.mov (.tmp 6)) (.q (some 32) none (.bin .neq (.tmp 31) (.const (.int .i64 0))) (.q (some 33) none (.mov (.tmp 32)) (.q (some 34) (some (33, false)) (.mov (.tmp 5)) (.q (some 35) (some (33, false)) (.eqP false (.tmp 34) (.const (.pointer none))) (.q (some 36) none (.pick (.tmp 33) (.const (.bool true)) (.tmp 35)) (.q (some 37) none (.mov (.tmp 36)) (.q (some 38) (some (37, false)) (.mov (.tmp 5)) (.l (some 39) (some (37, false)) (.call 20 [(.tmp 38)]) [] (.q (some 40) (some (37, false)) (.mov (.tmp 0)) (.q (some 41) (some (37, false)) (.bin .mul (.const (.int .i64 32)) (.tmp 40)) (.q (some 42) (some (37, false)) (.bin .sub (.tmp 41) (.const (.int .i64 256))) (.q (some 43) (some (37, false)) (.bin .lss (.tmp 39) (.tmp 42)) (.q (some 44) none (.pick (.tmp 37) (.const (.bool true)) (.tmp 43)) .done)))))))))))))) false 40 [0, 1, 5, 44],
  .ret [.t 4],
  .reg (.q (some 25) none (.mov (.tmp 6)) (.q (some 26) none (.bin .eql (.tmp 25) (.const (.int .i64 9))) (.q (some 27) none (.mov (.tmp 26)) (.q (some 28) (some (27, true)) (.mov (.tmp 5)) (.q (some 29) (some (27, true)) (.eqP false (.tmp 28) (.const (.pointer none))) (.q (some 30) none (.pick (.tmp 27) (.tmp 29) (.const (.bool false))) (.q (some 4) none (.mov (.tmp 30)) .done))))))) false 42 [4],
  .cnd (.tmp 24) 43 41,
  .reg (.q (some 23) none (.mov (.tmp 0)) (.q (some 24) none (.bin .lss (.tmp 23) (.const (.int .i64 16))) .done)) false 44 [0, 1, 5, 6, 24],
  .reg (.q (some 18) none (.mov (.tmp 0)) (.l (some 19) none (.call 8 [(.tmp 18)]) [] (.l (some 20) none (.call 9 [(.tmp 19)]) [] (.q (some 17) none (.mov (.tmp 20)) (.q (some 21) none (.ext 0 (.tmp 17)) (.q (some 22) none (.ext 1 (.tmp 17)) (.q (some 5) none (.mov (.tmp 21)) (.q (some 6) none (.mov (.tmp 22)) .done)))))))) false 45 [0, 1, 5, 6],
  .reg (.q (some 14) none (.mov (.tmp 0)) (.q (some 15) none (.min [(.tmp 14), (.const (.int .i64 300))]) (.q (some 16) none (.max [(.const (.int .i64 0)), (.tmp 15)]) (.q (some 0) none (.mov (.tmp 16)) .done)))) false 46 [0, 1],
  .ret [.t 4],
  .reg (.q (some 4) none (.mov (.const (.bool false))) .done) false 48 [4],
  .cnd (.tmp 13) 49 47,
  .reg (.l (some 12) none (.call 7 []) [] (.q (some 13) none (.not (.tmp 12)) .done)) false 50 [0, 1, 13],
  .reg (.q (some 4) none (.mov (.const (.bool false))) .done) false 51 [0, 1]
  ]
theorem c4_ok : cfgL Try.prog 4 = some (170, 52, c4.map Vc.Node.bare) := by kernel_rfl
/- strongbox/strongboxlaw08.JournalSurvives: entry 63 -/
def c5 : List Vc.Node := [
  .ret [.t 2],
  .ret [.t 2],
  .reg (.q (some 2) none (.mov (.const (.bool true))) .done) false 1 [2],
  .jmp 50,
  .reg (.q (some 34) none (.mov (.tmp 7)) (.q (some 35) none (.bin .add (.tmp 34) (.const (.int .i64 1))) (.q (some 7) none (.mov (.tmp 35)) .done))) false 3 [0, 3, 4, 6, 7],
  .ret [.t 2],
  .reg (.q (some 2) none (.mov (.const (.bool false))) .done) false 5 [2],
  .cnd (.tmp 114) 6 4,
  .reg (.q (some 111) none (.ldN 2 (.tmp 11)) (.q (some 112) none (.ldN 2 (.tmp 6)) (.l (some 113) none (.call 17 [(.tmp 111), (.tmp 112)]) [] (.q (some 114) none (.not (.tmp 113)) .done)))) false 7 [0, 3, 4, 6, 7, 114],
  .reg (.q (some 110) none (.ldN 2 (.tmp 10)) (.l none none (.stN 2 (.tmp 6) (.tmp 110)) [] .done)) false 8 [0, 3, 4, 6, 7, 11],
  .cnd (.tmp 109) 9 8,
  .reg (.q (some 108) none (.mov (.tmp 5)) (.q (some 109) none (.bin .eql (.tmp 108) (.const (.int .i64 0))) .done)) false 10 [0, 3, 4, 6, 7, 10, 11, 109],
  .reg (.q (some 107) none (.ldN 2 (.tmp 10)) (.l none none (.stN 2 (.tmp 6) (.tmp 107)) [] .done)) false 11 [0, 3, 4, 5, 6, 7, 10, 11],
  .cnd (.tmp 106) 12 11,
  .reg (.q (some 100) none (.mov (.tmp 5)) (.q (some 101) none (.bin .neq (.tmp 100) (.const (.int .i64 0))) (.q (some 102) none (.mov (.tmp 101)) (.q (some 103) (some (102, true)) (.ldN 2 (.tmp 11)) (.q (some 104) (some (102, true)) (.ldN 2 (.tmp 10)) (.l (some 105) (some (102, true)) (.call 17 [(.tmp 103), (.tmp 104)]) [] (.q (some 106) none (.pick (.tmp 102) (.tmp 105) (.const (.bool false))) .done))))))) false 13 [0, 3, 4, 5, 6, 7, 10, 11, 106],
  .reg (.q (some 98) none (.mov (.tmp 4)) (.l (some 99) none (.call 18 [(.tmp 98)]) [] (.l (some 11) none (.alloc 33 [(2, (.slice none 0 0))]) [] (.l none none (.stN 2 (.tmp 11) (.tmp 99)) [] .done)))) false 14 [0, 3, 4, 5, 6, 7, 10, 11],
  .ret [.t 2],
  .reg (.q (some 2) none (.mov (.const (.bool false))) .done) false 16 [2],
  .cnd (.tmp 97) 17 15,
  .reg (.q (some 96) none (.mov (.tmp 4)) (.q (some 97) none (.eqP false (.tmp 96) (.const (.pointer none))) .done)) false 18 [0, 3, 4, 5, 6, 7, 10, 97],
  .reg (.q (some 93) none (.mov (.tmp 3)) (.q (some 94) none (.ldN 6 (.tmp 8)) (.l (some 95) none (.call 23 [(.tmp 93), (.tmp 94)]) [] (.q (some 4) none (.mov (.tmp 95)) .done)))) false 19 [0, 3, 4, 5, 6, 7, 10],
  .ret [.t 2],
  .reg (.q (some 2) none (.mov (.const (.bool false))) .done) false 21 [2],
  .cnd (.tmp 92) 22 4,
  .reg (.q (some 88) none (.mov (.tmp 4)) (.q (some 90) none (.ldN 2 (.tmp 6)) (.l (some 89) none (.call 18 [(.tmp 88)]) [⟨90, none, (.ldN 2 (.tmp 6))⟩] (.l (some 91) none (.call 17 [(.tmp 89), (.tmp 90)]) [] (.q (some 92) none (.not (.tmp 91)) .done))))) true 23 [0, 3, 4, 6, 7, 92],
  .reg (.q (some 87) none (.ldN 2 (.tmp 10)) (.l none none (.stN 2 (.tmp 6) (.tmp 87)) [] .done)) false 24 [0, 3, 4, 6, 7],
  .reg (.q (some 85) none (.mov (.tmp 3)) (.l (some 86) none (.call 21 [(.tmp 85), (.const (.int .i64 (-1)))]) [] .done)) false 25 [0, 3, 4, 6, 7, 10],
  .cnd (.tmp 84) 26 20,
  .reg (.q (some 78) none (.mov (.tmp 5)) (.q (some 79) none (.bin .eql (.tmp 78) (.const (.int .i64 0))) (.q (some 80) none (.mov (.tmp 79)) (.q (some 81) (some (80, true)) (.fadr 0 (.tmp 8)) (.q (some 82) (some (80, true)) (.ld1 (.tmp 81)) (.q (some 83) (some (80, true)) (.bin .neq (.tmp 82) (.const (.int .i64 4))) (.q (some 84) none (.pick (.tmp 80) (.tmp 83) (.const (.bool false))) .done))))))) false 27 [0, 3, 4, 5, 6, 7, 8, 10, 84],
  .ret [.t 2],
  .reg (.q (some 2) none (.mov (.const (.bool false))) .done) false 29 [2],
  .cnd (.tmp 77) 30 28,
  .reg (.q (some 72) none (.mov (.tmp 5)) (.q (some 73) none (.bin .neq (.tmp 72) (.const (.int .i64 0))) (.q (some 74) none (.mov (.tmp 73)) (.q (some 75) (some (74, true)) (.mov (.tmp 5)) (.q (some 76) (some (74, true)) (.bin .neq (.tmp 75) (.const (.int .i64 10))) (.q (some 77) none (.pick (.tmp 74) (.tmp 76) (.const (.bool false))) .done)))))) false 31 [0, 3, 4, 5, 6, 7, 8, 10, 77],
  .reg (.q (some 60) none (.mov (.tmp 4)) (.q (some 61) none (.mov (.tmp 9)) (.l (some 62) none (.call 22 [(.tmp 61)]) [] (.l (some 63) none (.call 12 [(.tmp 60), (.tmp 62)]) [] (.q (some 5) none (.mov (.tmp 63)) .done))))) false 32 [0, 3, 4, 5, 6, 7, 8, 10],
  .reg (.q (some 57) none (.ldN 2 (.tmp 6)) (.q (some 58) none (.mov (.tmp 9)) (.l (some 59) none (.call 13 [(.tmp 57), (.tmp 58)]) [] (.l none none (.stN 2 (.tmp 10) (.tmp 59)) [] .done)))) false 33 [0, 3, 4, 6, 7, 8, 9, 10],
  .reg (.q (some 68) none (.mov (.tmp 4)) (.q (some 69) none (.mov (.tmp 9)) (.l (some 70) none (.call 22 [(.tmp 69)]) [] (.l (some 71) none (.call 14 [(.tmp 68), (.tmp 70)]) [] (.q (some 5) none (.mov (.tmp 71)) .done))))) false 32 [0, 3, 4, 5, 6, 7, 8, 10],
  .reg (.q (some 66) none (.mov (.tmp 9)) (.l (some 67) none (.call 15 [(.tmp 66)]) [] (.l none none (.stN 2 (.tmp 10) (.tmp 67)) [] .done))) false 35 [0, 3, 4, 6, 7, 8, 9, 10],
  .reg (.q (some 5) none (.mov (.const (.int .i64 0))) .done) false 32 [0, 3, 4, 5, 6, 7, 8, 10],
  .cnd (.tmp 64) 36 37,
  .reg (.q (some 65) none (.bin .eql (.tmp 54) (.const (.int .i64 2))) (.q (some 64) none (.mov (.tmp 65)) .done)) false 38 [0, 3, 4, 6, 7, 8, 9, 10, 64],
  .cnd (.tmp 55) 34 39,
  .reg (.q (some 56) none (.bin .eql (.tmp 54) (.const (.int .i64 1))) (.q (some 55) none (.mov (.tmp 56)) .done)) false 40 [0, 3, 4, 6, 7, 8, 9, 10, 54, 55],
  .reg (.q (some 53) none (.fadr 0 (.tmp 8)) (.q (some 54) none (.ld1 (.tmp 53)) .done)) false 41 [0, 3, 4, 6, 7, 8, 9, 10, 54],
  .reg (.q (some 52) none (.ldN 2 (.tmp 6)) (.l (some 10) none (.alloc 33 [(2, (.slice none 0 0))]) [] (.l none none (.stN 2 (.tmp 10) (.tmp 52)) [] .done))) false 42 [0, 3, 4, 6, 7, 8, 9, 10],
  .reg (.q (some 46) none (.mov (.tmp 3)) (.q (some 47) none (.fadr 1 (.tmp 8)) (.q (some 48) none (.ld1 (.tmp 47)) (.q (some 49) none (.bin .sub (.tmp 48) (.const (.int .i64 1))) (.q (some 50) none (.bin .rem (.tmp 49) (.const (.int .i64 12))) (.l (some 51) none (.call 21 [(.tmp 46), (.tmp 50)]) [] .done)))))) false 43 [0, 3, 4, 6, 7, 8, 9],
  .cnd (.tmp 45) 44 43,
  .reg (.q (some 43) none (.fadr 1 (.tmp 8)) (.q (some 44) none (.ld1 (.tmp 43)) (.q (some 45) none (.bin .gtr (.tmp 44) (.const (.int .i64 0))) .done))) false 45 [0, 3, 4, 6, 7, 8, 9, 45],
  .reg (.q (some 40) none (.fadr 5 (.tmp 8)) (.q (some 41) none (.ld1 (.tmp 40)) (.l (some 42) none (.call 10 [(.tmp 41), (.const (.int .i64 300))]) [] (.q (some 9) none (.mov (.tmp 42)) .done)))) false 46 [0, 3, 4, 6, 7, 8, 9],
  .reg (.q (some 36) none (.mov (.tmp 0)) (.q (some 37) none (.mov (.tmp 7)) (.q (some 38) none (.iadrS 6 (.tmp 36) (.tmp 37)) (.q (some 39) none (.ldN 6 (.tmp 38)) (.l (some 8) none (.alloc 36 [(5, (.int .i64 0)), (1, (.slice none 0 0))]) [] (.l none none (.stN 6 (.tmp 8) (.tmp 39)) [] .done)))))) false 47 [0, 3, 4, 6, 7, 8],
  .cnd (.tmp 33) 48 2,
  .reg (.q (some 26) none (.mov (.tmp 7)) (.q (some 27) none (.mov (.tmp 0)) (.q (some 28) none (.len (.tmp 27)) (.q (some 29) none (.bin .lss (.tmp 26) (.tmp 28)) (.q (some 30) none (.mov (.tmp 29)) (.q (some 31) (some (30, true)) (.mov (.tmp 7)) (.q (some 32) (some (30, true)) (.bin .lss (.tmp 31) (.const (.int .i64 25))) (.q (some 33) none (.pick (.tmp 30) (.tmp 32) (.const (.bool false))) .done)))))))) false 49 [0, 3, 4, 6, 7, 33],
  .reg (.q (some 7) none (.mov (.const (.int .i64 0))) .done) false 50 [0, 3, 4, 6, 7],
  .reg (.l (some 6) none (.alloc 33 [(2, (.slice none 0 0))]) [] .done) false 51 [0, 3, 4, 6],
  .ret [.t 2],
  .reg (.q (some 2) none (.mov (.const (.bool false))) .done) false 53 [2],
  .cnd (.tmp 25) 54 52,
  .reg (.q (some 20) none (.mov (.tmp 5)) (.q (some 21) none (.bin .neq (.tmp 20) (.const (.int .i64 0))) (.q (some 22) none (.mov (.tmp 21)) (.q (some 23) (some (22, false)) (.mov (.tmp 4)) (.q (some 24) (some (22, false)) (.eqP false (.tmp 23) (.const (.pointer none))) (.q (some 25) none (.pick (.tmp 22) (.const (.bool true)) (.tmp 24)) .done)))))) false 55 [0, 3, 4, 25],
  .reg (.q (some 16) none (.mov (.tmp 3)) (.l (some 17) none (.call 9 [(.tmp 16)]) [] (.q (some 15) none (.mov (.tmp 17)) (.q (some 18) none (.ext 0 (.tmp 15)) (.q (some 19) none (.ext 1 (.tmp 15)) (.q (some 4) none (.mov (.tmp 18)) (.q (some 5) none (.mov (.tmp 19)) .done))))))) false 56 [0, 3, 4, 5],
  .reg (.l (some 14) none (.call 8 [(.const (.int .i64 1200))]) [] (.q (some 3) none (.mov (.tmp 14)) .done)) false 57 [0, 3],
  .ret [.t 2],
  .reg (.q (some 2) none (.mov (.const (.bool false))) .done) false 59 [2],
  .cnd (.tmp 13) 60 58,
  .reg (.l (some 12) none (.call 7 []) [] (.q (some 13) none (.not (.tmp 12)) .done)) false 61 [0, 13],
  .reg (.q (some 2) none (.mov (.const (.bool false))) .done) false 62 [0]
  ]
theorem c5_ok : cfgL Try.prog 5 = some (115, 63, c5.map Vc.Node.bare) := by kernel_rfl
/- strongbox/strongboxlaw08.JournalReopens: entry 41 -/
def c6 : List Vc.Node := [
  .ret [.t 4],
  .ret [.t 4],
  .reg (.q (some 4) none (.mov (.const (.bool true))) .done) false 1 [4],
  .jmp 29,
  .reg (.q (some 41) none (.mov (.tmp 8)) (.q (some 42) none (.bin .add (.tmp 41) (.const (.int .i64 1))) (.q (some 8) none (.mov (.tmp 42)) .done))) false 3 [1, 5, 6, 8],
  .ret [.t 4],
  .reg (.q (some 4) none (.mov (.const (.bool false))) .done) false 5 [4],
  .cnd (.tmp 116) 6 4,
  .reg (.q (some 94) none (.mov (.tmp 14)) (.q (some 95) none (.bin .neq (.tmp 94) (.const (.int .i64 0))) (.q (some 96) none (.mov (.tmp 95)) (.q (some 97) (some (96, false)) (.mov (.tmp 13)) (.q (some 98) (some (96, false)) (.eqP false (.tmp 97) (.const (.pointer none))) (.q (some 99) none (.pick (.tmp 96) (.const (.bool true)) (.tmp 98)) (.q (some 100) none (.mov (.tmp 99)) (.q (some 101) (some (100, false)) (.mov (.tmp 13)) (.q (some 103) (some (100, false)) (.ldN 2 (.tmp 12)) (.l (some 102) (some (100, false)) (.call 18 [(.tmp 101)]) [⟨103, (some (100, false)), (.ldN 2 (.tmp 12))⟩] (.l (some 104) (some (100, false)) (.call 17 [(.tmp 102), (.tmp 103)]) [] (.q (some 105) (some (100, false)) (.not (.tmp 104)) (.q (some 106) none (.pick (.tmp 100) (.const (.bool true)) (.tmp 105)) (.q (some 107) none (.mov (.tmp 106)) (.q (some 108) (some (107, false)) (.mov (.tmp 13)) (.l (some 109) (some (107, false)) (.call 20 [(.tmp 108)]) [] (.q (some 110) (some (107, false)) (.bin .lss (.tmp 109) (.const (.int .i64 (-1)))) (.q (some 111) none (.pick (.tmp 107) (.const (.bool true)) (.tmp 110)) (.q (some 112) none (.mov (.tmp 111)) (.q (some 113) (some (112, false)) (.mov (.tmp 13)) (.l (some 114) (some (112, false)) (.call 20 [(.tmp 113)]) [] (.q (some 115) (some (112, false)) (.bin .gtr (.tmp 114) (.const (.int .i64 65535))) (.q (some 116) none (.pick (.tmp 112) (.const (.bool true)) (.tmp 115)) .done))))))))))))))))))))))) true 7 [1, 5, 6, 8, 116],
  .reg (.q (some 89) none (.mov (.tmp 5)) (.l (some 90) none (.call 24 [(.tmp 89)]) [] (.l (some 91) none (.call 9 [(.tmp 90)]) [] (.q (some 88) none (.mov (.tmp 91)) (.q (some 92) none (.ext 0 (.tmp 88)) (.q (some 93) none (.ext 1 (.tmp 88)) (.q (some 13) none (.mov (.tmp 92)) (.q (some 14) none (.mov (.tmp 93)) .done)))))))) false 8 [1, 5, 6, 8, 12, 13, 14],
  .ret [.t 4],
  .reg (.q (some 4) none (.mov (.const (.bool false))) .done) false 10 [4],
  .cnd (.tmp 87) 11 9,
  .reg (.q (some 76) none (.mov (.tmp 7)) (.q (some 77) none (.bin .neq (.tmp 76) (.const (.int .i64 0))) (.q (some 78) none (.mov (.tmp 77)) (.q (some 79) (some (78, true)) (.mov (.tmp 7)) (.q (some 80) (some (78, true)) (.bin .neq (.tmp 79) (.const (.int .i64 9))) (.q (some 81) (some (78, true)) (.mov (.tmp 80)) (.q (some 82) (some (81, false)) (.ldN 2 (.tmp 12)) (.q (some 83) (some (81, false)) (.ldN 2 (.tmp 11)) (.l (some 84) (some (81, false)) (.call 17 [(.tmp 82), (.tmp 83)]) [] (.q (some 85) (some (81, false)) (.not (.tmp 84)) (.q (some 86) (some (78, true)) (.pick (.tmp 81) (.const (.bool true)) (.tmp 85)) (.q (some 87) none (.pick (.tmp 78) (.tmp 86) (.const (.bool false))) .done)))))))))))) false 12 [1, 5, 6, 8, 12, 87],
  .reg (.q (some 74) none (.mov (.tmp 6)) (.l (some 75) none (.call 18 [(.tmp 74)]) [] (.l (some 12) none (.alloc 33 [(2, (.slice none 0 0))]) [] (.l none none (.stN 2 (.tmp 12) (.tmp 75)) [] .done)))) false 13 [1, 5, 6, 7, 8, 11, 12],
  .reg (.q (some 68) none (.mov (.tmp 6)) (.q (some 69) none (.mov (.tmp 9)) (.l (some 70) none (.call 14 [(.tmp 68), (.tmp 69)]) [] (.q (some 7) none (.mov (.tmp 70)) .done)))) false 14 [1, 5, 6, 7, 8, 11],
  .reg (.q (some 71) none (.mov (.tmp 6)) (.q (some 72) none (.mov (.tmp 9)) (.l (some 73) none (.call 12 [(.tmp 71), (.tmp 72)]) [] (.q (some 7) none (.mov (.tmp 73)) .done)))) false 14 [1, 5, 6, 7, 8, 11],
  .cnd (.tmp 67) 15 16,
  .reg (.q (some 65) none (.mov (.tmp 8)) (.q (some 66) none (.bin .rem (.tmp 65) (.const (.int .i64 4))) (.q (some 67) none (.bin .eql (.tmp 66) (.const (.int .i64 3))) .done))) false 17 [1, 5, 6, 8, 9, 11, 67],
  .reg (.q (some 63) none (.mov (.tmp 6)) (.l (some 64) none (.call 18 [(.tmp 63)]) [] (.l (some 11) none (.alloc 33 [(2, (.slice none 0 0))]) [] (.l none none (.stN 2 (.tmp 11) (.tmp 64)) [] .done)))) false 18 [1, 5, 6, 8, 9, 11],
  .jmp 25,
  .reg (.q (some 62) none (.bin .add (.tmp 52) (.const (.int .i64 1))) (.q (some 52) none (.mov (.tmp 62)) .done)) false 20 [1, 5, 6, 8, 9, 51, 52],
  .reg (.q (some 55) none (.mov (.tmp 9)) (.q (some 56) none (.mov (.tmp 10)) (.q (some 57) none (.mov (.tmp 8)) (.q (some 58) none (.mov (.tmp 10)) (.q (some 59) none (.bin .add (.tmp 57) (.tmp 58)) (.q (some 60) none (.cvi .u8 (.tmp 59)) (.q (some 61) none (.iadrS 1 (.tmp 55) (.tmp 56)) (.l none none (.st1 (.tmp 61) (.tmp 60)) [] .done)))))))) false 21 [1, 5, 6, 8, 9, 51, 52],
  .reg (.q (some 54) none (.mov (.tmp 52)) (.q (some 10) none (.mov (.tmp 54)) .done)) false 22 [1, 5, 6, 8, 9, 10, 51, 52],
  .cnd (.tmp 53) 23 19,
  .reg (.q (some 53) none (.bin .lss (.tmp 52) (.tmp 51)) .done) false 24 [1, 5, 6, 8, 9, 51, 52, 53],
  .reg (.q (some 50) none (.mov (.tmp 9)) (.q (some 51) none (.len (.tmp 50)) (.q (some 52) none (.mov (.const (.int .i64 0))) .done))) false 25 [1, 5, 6, 8, 9, 51, 52],
  .reg (.q (some 43) none (.mov (.tmp 1)) (.q (some 44) none (.mov (.tmp 8)) (.q (some 45) none (.iadrS 1 (.tmp 43) (.tmp 44)) (.q (some 46) none (.ld1 (.tmp 45)) (.q (some 47) none (.max [(.const (.int .i64 0)), (.tmp 46)]) (.q (some 48) none (.bin .rem (.tmp 47) (.const (.int .i64 1500))) (.l (some 49) none (.mkS 5 1 1 [(1, (.int .u8 0))] (.tmp 48) (.tmp 48)) [] (.q (some 9) none (.mov (.tmp 49)) .done)))))))) false 26 [1, 5, 6, 8, 9],
  .cnd (.tmp 40) 27 2,
  .reg (.q (some 33) none (.mov (.tmp 8)) (.q (some 34) none (.mov (.tmp 1)) (.q (some 35) none (.len (.tmp 34)) (.q (some 36) none (.bin .lss (.tmp 33) (.tmp 35)) (.q (some 37) none (.mov (.tmp 36)) (.q (some 38) (some (37, true)) (.mov (.tmp 8)) (.q (some 39) (some (37, true)) (.bin .lss (.tmp 38) (.const (.int .i64 20))) (.q (some 40) none (.pick (.tmp 37) (.tmp 39) (.const (.bool false))) .done)))))))) false 28 [1, 5, 6, 8, 40],
  .reg (.q (some 8) none (.mov (.const (.int .i64 0))) .done) false 29 [1, 5, 6, 8],
  .ret [.t 4],
  .reg (.q (some 4) none (.mov (.const (.bool false))) .done) false 31 [4],
  .cnd (.tmp 32) 32 30,
  .reg (.q (some 27) none (.mov (.tmp 7)) (.q (some 28) none (.bin .neq (.tmp 27) (.const (.int .i64 0))) (.q (some 29) none (.mov (.tmp 28)) (.q (some 30) (some (29, false)) (.mov (.tmp 6)) (.q (some 31) (some (29, false)) (.eqP false (.tmp 30) (.const (.pointer none))) (.q (some 32) none (.pick (.tmp 29) (.const (.bool true)) (.tmp 31)) .done)))))) false 33 [1, 5, 6, 32],
  .reg (.q (some 23) none (.mov (.tmp 5)) (.l (some 24) none (.call 9 [(.tmp 23)]) [] (.q (some 22) none (.mov (.tmp 24)) (.q (some 25) none (.ext 0 (.tmp 22)) (.q (some 26) none (.ext 1 (.tmp 22)) (.q (some 6) none (.mov (.tmp 25)) (.q (some 7) none (.mov (.tmp 26)) .done))))))) false 34 [1, 5, 6, 7],
  .reg (.q (some 17) none (.mov (.tmp 0)) (.q (some 18) none (.max [(.const (.int .i64 0)), (.tmp 17)]) (.q (some 19) none (.bin .rem (.tmp 18) (.const (.int .i64 60))) (.q (some 20) none (.bin .add (.const (.int .i64 16)) (.tmp 19)) (.l (some 21) none (.call 8 [(.tmp 20)]) [] (.q (some 5) none (.mov (.tmp 21)) .done)))))) false 35 [1, 5],
  .ret [.t 4],
  .reg (.q (some 4) none (.mov (.const (.bool false))) .done) false 37 [4],
  .cnd (.tmp 16) 38 36,
  .reg (.l (some 15) none (.call 7 []) [] (.q (some 16) none (.not (.tmp 15)) .done)) false 39 [0, 1, 16],
  .reg (.q (some 4) none (.mov (.const (.bool false))) .done) false 40 [0, 1]
  ]
theorem c6_ok : cfgL Try.prog 6 = some (117, 41, c6.map Vc.Node.bare) := by kernel_rfl
/- strongbox/strongboxlaw08.awake: entry 10 -/
def c7 : List Vc.Node := [
  .ret [.t 0],
  .ret [.t 0],
  .reg (.q (some 43) none (.mov (.tmp 3)) (.q (some 44) none (.bin .eql (.tmp 43) (.const (.int .i64 0))) (.q (some 45) none (.mov (.tmp 44)) (.q (some 46) (some (45, true)) (.mov (.tmp 4)) (.q (some 47) (some (45, true)) (.eqP true (.tmp 46) (.const (.pointer none))) (.q (some 48) none (.pick (.tmp 45) (.tmp 47) (.const (.bool false))) (.q (some 49) none (.mov (.tmp 48)) (.q (some 50) (some (49, true)) (.mov (.tmp 4)) (.l (some 51) (some (49, true)) (.call 25 [(.tmp 50)]) [] (.q (some 52) (some (49, true)) (.b2s (.tmp 51)) (.q (some 53) (some (49, true)) (.bin .eql (.tmp 52) (.const (.string ⟨#[115]⟩))) (.q (some 54) none (.pick (.tmp 49) (.tmp 53) (.const (.bool false))) (.q (some 55) none (.mov (.tmp 54)) (.q (some 56) (some (55, true)) (.mov (.tmp 4)) (.l (some 57) (some (55, true)) (.call 19 [(.tmp 56)]) [] (.q (some 58) (some (55, true)) (.len (.tmp 57)) (.q (some 59) (some (55, true)) (.bin .eql (.tmp 58) (.const (.int .i64 1))) (.q (some 60) none (.pick (.tmp 55) (.tmp 59) (.const (.bool false))) (.q (some 61) none (.mov (.tmp 60)) (.q (some 62) (some (61, true)) (.mov (.tmp 4)) (.l (some 63) (some (61, true)) (.call 19 [(.tmp 62)]) [] (.q (some 64) (some (61, true)) (.iadrS 1 (.tmp 63) (.const (.int .i64 0))) (.q (some 65) (some (61, true)) (.ld1 (.tmp 64)) (.q (some 66) (some (61, true)) (.b2s (.tmp 65)) (.q (some 67) (some (61, true)) (.bin .eql (.tmp 66) (.const (.string ⟨#[99]⟩))) (.q (some 68) none (.pick (.tmp 61) (.tmp 67) (.const (.bool false))) (.q (some 0) none (.mov (.tmp 68)) .done))))))))))))))))))))))))))) false 1 [0],
  .reg (.q (some 39) none (.mov (.tmp 1)) (.l (some 40) none (.call 9 [(.tmp 39)]) [] (.q (some 38) none (.mov (.tmp 40)) (.q (some 41) none (.ext 0 (.tmp 38)) (.q (some 42) none (.ext 1 (.tmp 38)) (.q (some 4) none (.mov (.tmp 41)) (.q (some 3) none (.mov (.tmp 42)) .done))))))) false 2 [3, 4],
  .ret [.t 0],
  .reg (.q (some 0) none (.mov (.const (.bool false))) .done) false 4 [0],
  .cnd (.tmp 37) 5 3,
  .reg (.q (some 11) none (.mov (.tmp 3)) (.q (some 12) none (.bin .neq (.tmp 11) (.const (.int .i64 0))) (.q (some 13) none (.mov (.tmp 12)) (.q (some 14) (some (13, false)) (.mov (.tmp 2)) (.q (some 15) (some (13, false)) (.eqP false (.tmp 14) (.const (.pointer none))) (.q (some 16) none (.pick (.tmp 13) (.const (.bool true)) (.tmp 15)) (.q (some 17) none (.mov (.tmp 16)) (.q (some 18) (some (17, false)) (.mov (.tmp 2)) (.l (some 19) (some (17, false)) (.bldS 5 1 [(.const (.int .u8 97))]) [] (.l (some 20) (some (17, false)) (.mks 5 (.tmp 19)) [] (.l (some 21) (some (17, false)) (.call 12 [(.tmp 18), (.tmp 20)]) [] (.q (some 22) (some (17, false)) (.bin .neq (.tmp 21) (.const (.int .i64 0))) (.q (some 23) none (.pick (.tmp 17) (.const (.bool true)) (.tmp 22)) (.q (some 24) none (.mov (.tmp 23)) (.q (some 25) (some (24, false)) (.mov (.tmp 2)) (.l (some 26) (some (24, false)) (.bldS 5 1 [(.const (.int .u8 115))]) [] (.l (some 27) (some (24, false)) (.mks 5 (.tmp 26)) [] (.l (some 28) (some (24, false)) (.call 14 [(.tmp 25), (.tmp 27)]) [] (.q (some 29) (some (24, false)) (.bin .neq (.tmp 28) (.const (.int .i64 0))) (.q (some 30) none (.pick (.tmp 24) (.const (.bool true)) (.tmp 29)) (.q (some 31) none (.mov (.tmp 30)) (.q (some 32) (some (31, false)) (.mov (.tmp 2)) (.l (some 33) (some (31, false)) (.bldS 5 1 [(.const (.int .u8 99))]) [] (.l (some 34) (some (31, false)) (.mks 5 (.tmp 33)) [] (.l (some 35) (some (31, false)) (.call 12 [(.tmp 32), (.tmp 34)]) [] (.q (some 36) (some (31, false)) (.bin .neq (.tmp 35) (.const (.int .i64 0))) (.q (some 37) none (.pick (.tmp 31) (.const (.bool true)) (.tmp 36)) .done))))))))))))))))))))))))))) false 6 [1, 37],
  .reg (.q (some 7) none (.mov (.tmp 1)) (.l (some 8) none (.call 9 [(.tmp 7)]) [] (.q (some 6) none (.mov (.tmp 8)) (.q (some 9) none (.ext 0 (.tmp 6)) (.q (some 10) none (.ext 1 (.tmp 6)) (.q (some 2) none (.mov (.tmp 9)) (.q (some 3) none (.mov (.tmp 10)) .done))))))) false 7 [1, 2, 3],
  .reg (.l (some 5) none (.call 8 [(.const (.int .i64 40))]) [] (.q (some 1) none (.mov (.tmp 5)) .done)) false 8 [1],
  .reg (.q (some 0) none (.mov (.const (.bool false))) .done) false 9 []
  ]
theorem c7_ok : cfgL Try.prog 7 = some (69, 10, c7.map Vc.Node.bare) := by kernel_rfl
/- strongbox/disk.New: entry 3 -/
def c8 : List Vc.Node := [
  .ret [.t 2],
  .ret [.t 2],
  .reg (.q (some 3) none (.mov (.tmp 0)) (.q (some 4) none (.min [(.tmp 3), (.const (.int .i64 65536))]) (.q (some 5) none (.max [(.const (.int .i64 0)), (.tmp 4)]) (.l (some 6) none .mkM [] (.q (some 7) none (.bld [.x 1 (.tmp 5), .x 1 (.tmp 6), .z [(1, (.slice none 0 0)), (1, (.int .i64 0)), (2, (.bool false))]]) (.l (some 8) none (.box 58 (.tmp 7)) [] (.q (some 2) none (.mov (.tmp 8)) .done))))))) false 1 [2],
  .reg (.q (some 2) none (.mov (.const (.pointer none))) .done) false 2 [0]
  ]
theorem c8_ok : cfgL Try.prog 8 = some (9, 3, c8.map Vc.Node.bare) := by kernel_rfl
/- strongbox/journal.Open: entry 36 -/
def c9 : List Vc.Node := [
  .ret [.t 2, .t 3],
  .ret [.t 2, .t 3],
  .reg (.q (some 120) none (.mov (.tmp 6)) (.q (some 2) none (.mov (.tmp 120)) (.q (some 3) none (.mov (.const (.int .i64 0))) .done))) false 1 [2, 3],
  .reg (.q (some 103) none (.mov (.tmp 6)) (.q (some 104) none (.mov (.tmp 6)) (.q (some 105) none (.mov (.tmp 6)) (.q (some 106) none (.nc (.tmp 105)) (.q (some 107) none (.fadr 4 (.tmp 106)) (.q (some 108) none (.ld1 (.tmp 107)) (.q (some 109) none (.iadrS 1 (.tmp 108) (.const (.int .i64 0))) (.q (some 110) none (.ld1 (.tmp 109)) (.q (some 111) none (.mov (.tmp 6)) (.q (some 112) none (.nc (.tmp 111)) (.q (some 113) none (.fadr 4 (.tmp 112)) (.q (some 114) none (.ld1 (.tmp 113)) (.q (some 115) none (.slcS 1 (.tmp 114) (some (.const (.int .i64 1))) none) (.q (some 116) none (.nc (.tmp 103)) (.q (some 117) none (.fadr 3 (.tmp 116)) (.l none none (.st1 (.tmp 117) (.tmp 110)) [] (.q (some 118) none (.nc (.tmp 104)) (.q (some 119) none (.fadr 4 (.tmp 118)) (.l none none (.st1 (.tmp 119) (.tmp 115)) [] .done))))))))))))))))))) true 2 [6],
  .cnd (.tmp 102) 3 2,
  .reg (.q (some 90) none (.mov (.tmp 6)) (.q (some 91) none (.nc (.tmp 90)) (.q (some 92) none (.fadr 1 (.tmp 91)) (.q (some 93) none (.ld1 (.tmp 92)) (.q (some 94) none (.bin .gtr (.tmp 93) (.const (.int .u8 0))) (.q (some 95) none (.mov (.tmp 94)) (.q (some 96) (some (95, true)) (.mov (.tmp 6)) (.q (some 97) (some (95, true)) (.nc (.tmp 96)) (.q (some 98) (some (95, true)) (.fadr 4 (.tmp 97)) (.q (some 99) (some (95, true)) (.ld1 (.tmp 98)) (.q (some 100) (some (95, true)) (.len (.tmp 99)) (.q (some 101) (some (95, true)) (.bin .gtr (.tmp 100) (.const (.int .i64 0))) (.q (some 102) none (.pick (.tmp 95) (.tmp 101) (.const (.bool false))) .done))))))))))))) false 4 [6, 102],
  .jmp 11,
  .reg (.q (some 62) none (.mov (.tmp 7)) (.q (some 63) none (.mov (.tmp 6)) (.q (some 64) none (.nc (.tmp 63)) (.q (some 65) none (.fadr 2 (.tmp 64)) (.q (some 66) none (.ld1 (.tmp 65)) (.l (some 67) none (.call 30 [(.tmp 62), (.tmp 66)]) [] (.q (some 61) none (.mov (.tmp 67)) (.q (some 68) none (.ext 0 (.tmp 61)) (.q (some 69) none (.ext 1 (.tmp 61)) (.q (some 11) none (.mov (.tmp 68)) (.q (some 12) none (.mov (.tmp 69)) .done))))))))))) false 6 [6, 7, 11, 12],
  .reg (.q (some 80) none (.mov (.tmp 6)) (.q (some 81) none (.nc (.tmp 80)) (.q (some 82) none (.fadr 2 (.tmp 81)) (.q (some 83) none (.ld1 (.tmp 82)) (.q (some 84) none (.mov (.tmp 11)) (.q (some 85) none (.len (.tmp 84)) (.q (some 86) none (.bin .add (.const (.int .i64 5)) (.tmp 85)) (.q (some 87) none (.bin .add (.tmp 83) (.tmp 86)) (.q (some 88) none (.nc (.tmp 80)) (.q (some 89) none (.fadr 2 (.tmp 88)) (.l none none (.st1 (.tmp 89) (.tmp 87)) [] .done))))))))))) false 7 [6, 7],
  .reg (.q (some 70) none (.mov (.tmp 6)) (.q (some 71) none (.mov (.tmp 6)) (.q (some 72) none (.nc (.tmp 71)) (.q (some 73) none (.fadr 4 (.tmp 72)) (.q (some 74) none (.ld1 (.tmp 73)) (.q (some 75) none (.mov (.tmp 11)) (.l (some 76) none (.bldS 30 1 [(.tmp 75)]) [] (.l (some 77) none (.app 30 1 24 [(1, (.slice none 0 0))] (.tmp 74) (.tmp 76)) [] (.q (some 78) none (.nc (.tmp 70)) (.q (some 79) none (.fadr 4 (.tmp 78)) (.l none none (.st1 (.tmp 79) (.tmp 77)) [] .done))))))))))) false 8 [6, 7, 11],
  .cnd (.tmp 60) 9 5,
  .reg (.q (some 60) none (.mov (.tmp 12)) .done) false 10 [6, 7, 11, 60],
  .reg (.q (some 56) none (.mov (.tmp 7)) (.l (some 57) none (.call 30 [(.tmp 56), (.const (.int .i64 0))]) [] (.q (some 55) none (.mov (.tmp 57)) (.q (some 58) none (.ext 0 (.tmp 55)) (.q (some 59) none (.ext 1 (.tmp 55)) (.q (some 11) none (.mov (.tmp 58)) (.q (some 12) none (.mov (.tmp 59)) .done))))))) false 11 [6, 7, 11, 12],
  .jmp 23,
  .reg (.q (some 54) none (.bin .add (.tmp 32) (.const (.int .i64 1))) (.q (some 32) none (.mov (.tmp 54)) .done)) false 13 [0, 6, 7, 31, 32],
  .reg (.q (some 51) none (.mov (.tmp 7)) (.q (some 52) none (.mov (.tmp 9)) (.l (some 53) none (.app 5 1 1 [(1, (.int .u8 0))] (.tmp 51) (.tmp 52)) [] (.q (some 7) none (.mov (.tmp 53)) .done)))) false 14 [0, 6, 7, 31, 32],
  .ret [.t 2, .t 3],
  .reg (.q (some 50) none (.mov (.tmp 10)) (.q (some 2) none (.mov (.const (.pointer none))) (.q (some 3) none (.mov (.tmp 50)) .done))) false 16 [2, 3],
  .cnd (.tmp 49) 17 15,
  .reg (.q (some 48) none (.mov (.tmp 10)) (.q (some 49) none (.bin .neq (.tmp 48) (.const (.int .i64 0))) .done)) false 18 [0, 6, 7, 9, 10, 31, 32, 49],
  .reg (.q (some 36) none (.mov (.tmp 0)) (.q (some 37) none (.mov (.tmp 6)) (.q (some 38) none (.mov (.tmp 6)) (.q (some 39) none (.nc (.tmp 38)) (.q (some 40) none (.fadr 1 (.tmp 39)) (.q (some 41) none (.ld1 (.tmp 40)) (.l (some 42) none (.call 29 [(.tmp 37), (.tmp 41)]) [] (.q (some 43) none (.mov (.tmp 8)) (.q (some 44) none (.bin .add (.tmp 42) (.tmp 43)) (.l (some 45) none (.call 27 [(.tmp 36), (.tmp 44)]) [] (.q (some 35) none (.mov (.tmp 45)) (.q (some 46) none (.ext 0 (.tmp 35)) (.q (some 47) none (.ext 1 (.tmp 35)) (.q (some 9) none (.mov (.tmp 46)) (.q (some 10) none (.mov (.tmp 47)) .done))))))))))))))) false 19 [0, 6, 7, 9, 10, 31, 32],
  .reg (.q (some 34) none (.mov (.tmp 32)) (.q (some 8) none (.mov (.tmp 34)) .done)) false 20 [0, 6, 7, 8, 31, 32],
  .cnd (.tmp 33) 21 12,
  .reg (.q (some 33) none (.bin .lss (.tmp 32) (.tmp 31)) .done) false 22 [0, 6, 7, 31, 32, 33],
  .reg (.q (some 30) none (.mov (.tmp 6)) (.l (some 31) none (.call 28 [(.tmp 30)]) [] (.q (some 32) none (.mov (.const (.int .i64 0))) .done))) false 23 [0, 6, 7, 31, 32],
  .reg (.q (some 7) none (.mov (.const (.slice none 0 0))) .done) false 24 [0, 6, 7],
  .reg (.q (some 24) none (.mov (.tmp 0)) (.q (some 25) none (.mov (.tmp 4)) (.q (some 26) none (.iadrS 1 (.tmp 25) (.const (.int .i64 0))) (.q (some 27) none (.ld1 (.tmp 26)) (.q (some 28) none (.bld [.x 1 (.tmp 24), .x 1 (.tmp 27), .z [(1, (.int .i64 0)), (2, (.slice none 0 0))]]) (.l (some 29) none (.box 62 (.tmp 28)) [] (.q (some 6) none (.mov (.tmp 29)) .done))))))) false 25 [0, 6],
  .ret [.t 2, .t 3],
  .reg (.q (some 23) none (.mov (.tmp 5)) (.q (some 2) none (.mov (.const (.pointer none))) (.q (some 3) none (.mov (.tmp 23)) .done))) false 27 [2, 3],
  .cnd (.tmp 22) 28 26,
  .reg (.q (some 21) none (.mov (.tmp 5)) (.q (some 22) none (.bin .neq (.tmp 21) (.const (.int .i64 0))) .done)) false 29 [0, 4, 5, 22],
  .reg (.q (some 17) none (.mov (.tmp 0)) (.l (some 18) none (.call 27 [(.tmp 17), (.const (.int .i64 0))]) [] (.q (some 16) none (.mov (.tmp 18)) (.q (some 19) none (.ext 0 (.tmp 16)) (.q (some 20) none (.ext 1 (.tmp 16)) (.q (some 4) none (.mov (.tmp 19)) (.q (some 5) none (.mov (.tmp 20)) .done))))))) false 30 [0, 4, 5],
  .ret [.t 2, .t 3],
  .reg (.q (some 2) none (.mov (.const (.pointer none))) (.q (some 3) none (.mov (.const (.int .i64 9))) .done)) false 32 [2, 3],
  .cnd (.tmp 15) 33 31,
  .reg (.q (some 13) none (.mov (.tmp 0)) (.l (some 14) none (.call 26 [(.tmp 13)]) [] (.q (some 15) none (.bin .lss (.tmp 14) (.const (.int .i64 16))) .done))) false 34 [0, 15],
  .reg (.q (some 2) none (.mov (.const (.pointer none))) (.q (some 3) none (.mov (.const (.int .i64 0))) .done)) false 35 [0]
  ]
theorem c9_ok : cfgL Try.prog 9 = some (121, 36, c9.map Vc.Node.bare) := by kernel_rfl
/- strongbox/strongboxlaw08.small: entry 7 -/
def c10 : List Vc.Node := [
  .ret [.t 4],
  .ret [.t 4],
  .reg (.q (some 12) none (.mov (.tmp 0)) (.q (some 4) none (.mov (.tmp 12)) .done)) false 1 [4],
  .ret [.t 4],
  .reg (.q (some 9) none (.mov (.tmp 0)) (.q (some 10) none (.mov (.tmp 1)) (.q (some 11) none (.slcS 1 (.tmp 9) none (some (.tmp 10))) (.q (some 4) none (.mov (.tmp 11)) .done)))) false 3 [4],
  .cnd (.tmp 8) 4 2,
  .reg (.q (some 5) none (.mov (.tmp 0)) (.q (some 6) none (.len (.tmp 5)) (.q (some 7) none (.mov (.tmp 1)) (.q (some 8) none (.bin .gtr (.tmp 6) (.tmp 7)) .done)))) false 5 [0, 1, 8],
  .reg (.q (some 4) none (.mov (.const (.slice none 0 0))) .done) false 6 [0, 1]
  ]
theorem c10_ok : cfgL Try.prog 10 = some (13, 7, c10.map Vc.Node.bare) := by kernel_rfl
/- strongbox/strongboxref01.Spare: entry 13 -/
def c11 : List Vc.Node := [
  .ret [.t 2, .t 3],
  .ret [.t 2, .t 3],
  .reg (.q (some 33) none (.mov (.tmp 4)) (.q (some 34) none (.mov (.tmp 0)) (.q (some 35) none (.len (.tmp 34)) (.q (some 36) none (.slcS 1 (.tmp 33) none (some (.tmp 35))) (.q (some 37) none (.mov (.tmp 4)) (.q (some 2) none (.mov (.tmp 36)) (.q (some 3) none (.mov (.tmp 37)) .done))))))) false 1 [2, 3],
  .jmp 10,
  .reg (.q (some 14) none (.mov (.tmp 5)) (.q (some 15) none (.bin .add (.tmp 14) (.const (.int .i64 1))) (.q (some 5) none (.mov (.tmp 15)) .done))) false 3 [0, 4, 5],
  .reg (.q (some 26) none (.mov (.tmp 4)) (.q (some 27) none (.mov (.tmp 5)) (.q (some 28) none (.mov (.tmp 0)) (.q (some 29) none (.mov (.tmp 5)) (.q (some 30) none (.iadrS 1 (.tmp 28) (.tmp 29)) (.q (some 31) none (.ld1 (.tmp 30)) (.q (some 32) none (.iadrS 1 (.tmp 26) (.tmp 27)) (.l none none (.st1 (.tmp 32) (.tmp 31)) [] .done)))))))) false 4 [0, 4, 5],
  .cnd (.tmp 25) 5 4,
  .reg (.q (some 22) none (.mov (.tmp 5)) (.q (some 23) none (.mov (.tmp 0)) (.q (some 24) none (.len (.tmp 23)) (.q (some 25) none (.bin .lss (.tmp 22) (.tmp 24)) .done)))) false 6 [0, 4, 5, 25],
  .reg (.q (some 16) none (.mov (.tmp 4)) (.q (some 17) none (.mov (.tmp 5)) (.q (some 18) none (.mov (.tmp 5)) (.q (some 19) none (.bin .add (.const (.int .i64 201)) (.tmp 18)) (.q (some 20) none (.cvi .u8 (.tmp 19)) (.q (some 21) none (.iadrS 1 (.tmp 16) (.tmp 17)) (.l none none (.st1 (.tmp 21) (.tmp 20)) [] .done))))))) false 7 [0, 4, 5],
  .cnd (.tmp 13) 8 2,
  .reg (.q (some 10) none (.mov (.tmp 5)) (.q (some 11) none (.mov (.tmp 4)) (.q (some 12) none (.len (.tmp 11)) (.q (some 13) none (.bin .lss (.tmp 10) (.tmp 12)) .done)))) false 9 [0, 4, 5, 13],
  .reg (.q (some 5) none (.mov (.const (.int .i64 0))) .done) false 10 [0, 4, 5],
  .reg (.q (some 6) none (.mov (.tmp 0)) (.q (some 7) none (.len (.tmp 6)) (.q (some 8) none (.bin .add (.tmp 7) (.const (.int .i64 9))) (.l (some 9) none (.mkS 5 1 1 [(1, (.int .u8 0))] (.tmp 8) (.tmp 8)) [] (.q (some 4) none (.mov (.tmp 9)) .done))))) false 11 [0, 4],
  .reg (.q (some 2) none (.mov (.const (.slice none 0 0))) (.q (some 3) none (.mov (.const (.slice none 0 0))) .done)) false 12 [0]
  ]
theorem c11_ok : cfgL Try.prog 11 = some (38, 13, c11.map Vc.Node.bare) := by kernel_rfl
/- (*strongbox/journal.Journal).Append: entry 23 -/
def c12 : List Vc.Node := [
  .ret [.t 4],
  .ret [.t 4],
  .reg (.q (some 4) none (.mov (.const (.int .i64 0))) .done) false 1 [4],
  .reg (.q (some 47) none (.mov (.tmp 0)) (.q (some 48) none (.mov (.tmp 0)) (.q (some 49) none (.nc (.tmp 48)) (.q (some 50) none (.fadr 4 (.tmp 49)) (.q (some 51) none (.ld1 (.tmp 50)) (.q (some 52) none (.mov (.tmp 1)) (.l (some 53) none (.call 34 [(.tmp 52)]) [⟨51, none, (.ld1 (.tmp 50))⟩] (.l (some 54) none (.bldS 30 1 [(.tmp 53)]) [⟨51, none, (.ld1 (.tmp 50))⟩] (.l (some 55) none (.app 30 1 24 [(1, (.slice none 0 0))] (.tmp 51) (.tmp 54)) [] (.q (some 56) none (.nc (.tmp 47)) (.q (some 57) none (.fadr 4 (.tmp 56)) (.l none none (.st1 (.tmp 57) (.tmp 55)) [] .done)))))))))))) true 2 [],
  .reg (.q (some 37) none (.mov (.tmp 0)) (.q (some 38) none (.nc (.tmp 37)) (.q (some 39) none (.fadr 2 (.tmp 38)) (.q (some 40) none (.ld1 (.tmp 39)) (.q (some 41) none (.mov (.tmp 1)) (.q (some 42) none (.len (.tmp 41)) (.q (some 43) none (.bin .add (.const (.int .i64 5)) (.tmp 42)) (.q (some 44) none (.bin .add (.tmp 40) (.tmp 43)) (.q (some 45) none (.nc (.tmp 37)) (.q (some 46) none (.fadr 2 (.tmp 45)) (.l none none (.st1 (.tmp 46) (.tmp 44)) [] .done))))))))))) false 3 [0, 1],
  .ret [.t 4],
  .reg (.q (some 36) none (.mov (.tmp 6)) (.q (some 4) none (.mov (.tmp 36)) .done)) false 5 [4],
  .cnd (.tmp 35) 6 4,
  .reg (.q (some 34) none (.mov (.tmp 6)) (.q (some 35) none (.bin .neq (.tmp 34) (.const (.int .i64 0))) .done)) false 7 [0, 1, 6, 35],
  .reg (.q (some 32) none (.mov (.tmp 0)) (.l (some 33) none (.call 33 [(.tmp 32)]) [] (.q (some 6) none (.mov (.tmp 33)) .done))) false 8 [0, 1, 6],
  .ret [.t 4],
  .reg (.q (some 31) none (.mov (.tmp 5)) (.q (some 4) none (.mov (.tmp 31)) .done)) false 10 [4],
  .cnd (.tmp 30) 11 9,
  .reg (.q (some 29) none (.mov (.tmp 5)) (.q (some 30) none (.bin .neq (.tmp 29) (.const (.int .i64 0))) .done)) false 12 [0, 1, 5, 30],
  .reg (.q (some 17) none (.mov (.tmp 0)) (.q (some 18) none (.mov (.tmp 0)) (.q (some 19) none (.nc (.tmp 18)) (.q (some 20) none (.fadr 1 (.tmp 19)) (.q (some 21) none (.ld1 (.tmp 20)) (.q (some 22) none (.mov (.tmp 0)) (.q (some 23) none (.nc (.tmp 22)) (.q (some 24) none (.fadr 2 (.tmp 23)) (.q (some 25) none (.ld1 (.tmp 24)) (.q (some 26) none (.mov (.tmp 1)) (.l (some 27) none (.call 32 [(.const (.int .u8 0)), (.tmp 26)]) [⟨25, none, (.ld1 (.tmp 24))⟩, ⟨21, none, (.ld1 (.tmp 20))⟩] (.l (some 28) none (.call 31 [(.tmp 17), (.tmp 21), (.tmp 25), (.tmp 27)]) [] (.q (some 5) none (.mov (.tmp 28)) .done))))))))))))) true 13 [0, 1, 5],
  .ret [.t 4],
  .reg (.q (some 4) none (.mov (.const (.int .i64 2))) .done) false 15 [4],
  .ret [.t 4],
  .reg (.q (some 4) none (.mov (.const (.int .i64 9))) .done) false 17 [4],
  .cnd (.tmp 11) 18 14,
  .reg (.q (some 12) none (.mov (.tmp 1)) (.q (some 13) none (.len (.tmp 12)) (.q (some 14) none (.mov (.tmp 0)) (.l (some 15) none (.call 20 [(.tmp 14)]) [] (.q (some 16) none (.bin .gtr (.tmp 13) (.tmp 15)) (.q (some 11) none (.mov (.tmp 16)) .done)))))) false 19 [0, 1, 11],
  .cnd (.tmp 7) 16 20,
  .reg (.q (some 8) none (.mov (.tmp 1)) (.q (some 9) none (.len (.tmp 8)) (.q (some 10) none (.bin .gtr (.tmp 9) (.const (.int .i64 65535))) (.q (some 7) none (.mov (.tmp 10)) .done)))) false 21 [0, 1, 7],
  .reg (.q (some 4) none (.mov (.const (.int .i64 0))) .done) false 22 [0, 1]
  ]
theorem c12_ok : cfgL Try.prog 12 = some (58, 23, c12.map Vc.Node.bare) := by kernel_rfl
/- strongbox/strongboxref08.Append: entry 4 -/
def c13 : List Vc.Node := [
  .ret [.cN 4 2],
  .ret [.cN 4 2],
  .reg (.q (some 14) none (.ldN 2 (.tmp 2)) (.l none none (.stN 2 (.tmp 4) (.tmp 14)) [] .done)) false 1 [4],
  .reg (.l (some 5) none (.bldS 30 1 []) [] (.q (some 6) none (.fadr 1 (.tmp 2)) (.q (some 7) none (.ld1 (.tmp 6)) (.l (some 8) none (.app 30 1 24 [(1, (.slice none 0 0))] (.tmp 5) (.tmp 7)) [] (.q (some 9) none (.mov (.tmp 1)) (.l (some 10) none (.call 22 [(.tmp 9)]) [] (.l (some 11) none (.bldS 30 1 [(.tmp 10)]) [] (.l (some 12) none (.app 30 1 24 [(1, (.slice none 0 0))] (.tmp 8) (.tmp 11)) [] (.q (some 13) none (.fadr 1 (.tmp 2)) (.l none none (.st1 (.tmp 13) (.tmp 12)) [] .done)))))))))) false 2 [2, 4],
  .reg (.l (some 2) none (.box 33 (.tmp 0)) [] (.l (some 4) none (.alloc 33 [(2, (.slice none 0 0))]) [] .done)) false 3 [1, 2, 4]
  ]
theorem c13_ok : cfgL Try.prog 13 = some (15, 4, c13.map Vc.Node.bare) := by kernel_rfl
/- (*strongbox/journal.Journal).Compact: entry 28 -/
def c14 : List Vc.Node := [
  .ret [.t 4],
  .ret [.t 4],
  .reg (.q (some 4) none (.mov (.const (.int .i64 0))) .done) false 1 [4],
  .reg (.q (some 53) none (.mov (.tmp 0)) (.q (some 54) none (.mov (.tmp 0)) (.q (some 55) none (.mov (.tmp 0)) (.q (some 56) none (.mov (.tmp 0)) (.q (some 57) none (.mov (.tmp 5)) (.q (some 58) none (.mov (.tmp 1)) (.q (some 59) none (.len (.tmp 58)) (.q (some 60) none (.bin .add (.const (.int .i64 5)) (.tmp 59)) (.q (some 61) none (.mov (.tmp 1)) (.l (some 62) none (.call 34 [(.tmp 61)]) [] (.q (some 63) none (.nc (.tmp 53)) (.q (some 64) none (.fadr 1 (.tmp 63)) (.l none none (.st1 (.tmp 64) (.tmp 57)) [] (.q (some 65) none (.nc (.tmp 54)) (.q (some 66) none (.fadr 2 (.tmp 65)) (.l none none (.st1 (.tmp 66) (.tmp 60)) [] (.q (some 67) none (.nc (.tmp 55)) (.q (some 68) none (.fadr 3 (.tmp 67)) (.l none none (.st1 (.tmp 68) (.tmp 62)) [] (.q (some 69) none (.nc (.tmp 56)) (.q (some 70) none (.fadr 4 (.tmp 69)) (.l none none (.st1 (.tmp 70) (.const (.slice none 0 0))) [] .done)))))))))))))))))))))) false 2 [],
  .ret [.t 4],
  .reg (.q (some 52) none (.mov (.tmp 8)) (.q (some 4) none (.mov (.tmp 52)) .done)) false 4 [4],
  .cnd (.tmp 51) 5 3,
  .reg (.q (some 50) none (.mov (.tmp 8)) (.q (some 51) none (.bin .neq (.tmp 50) (.const (.int .i64 0))) .done)) false 6 [0, 1, 5, 8, 51],
  .reg (.q (some 45) none (.mov (.tmp 0)) (.q (some 46) none (.nc (.tmp 45)) (.q (some 47) none (.fadr 0 (.tmp 46)) (.q (some 48) none (.ld1 (.tmp 47)) (.l (some 49) none (.call 37 [(.tmp 48)]) [] (.q (some 8) none (.mov (.tmp 49)) .done)))))) false 7 [0, 1, 5, 8],
  .ret [.t 4],
  .reg (.q (some 44) none (.mov (.tmp 7)) (.q (some 4) none (.mov (.tmp 44)) .done)) false 9 [4],
  .cnd (.tmp 43) 10 8,
  .reg (.q (some 42) none (.mov (.tmp 7)) (.q (some 43) none (.bin .neq (.tmp 42) (.const (.int .i64 0))) .done)) false 11 [0, 1, 5, 7, 43],
  .reg (.q (some 35) none (.mov (.tmp 0)) (.q (some 36) none (.nc (.tmp 35)) (.q (some 37) none (.fadr 0 (.tmp 36)) (.q (some 38) none (.ld1 (.tmp 37)) (.q (some 39) none (.mov (.tmp 5)) (.l (some 40) none (.bldS 5 1 [(.tmp 39)]) [] (.l (some 41) none (.call 36 [(.tmp 38), (.const (.int .i64 0)), (.tmp 40)]) [] (.q (some 7) none (.mov (.tmp 41)) .done)))))))) false 12 [0, 1, 5, 7],
  .ret [.t 4],
  .reg (.q (some 34) none (.mov (.tmp 6)) (.q (some 4) none (.mov (.tmp 34)) .done)) false 14 [4],
  .cnd (.tmp 33) 15 13,
  .reg (.q (some 32) none (.mov (.tmp 6)) (.q (some 33) none (.bin .neq (.tmp 32) (.const (.int .i64 0))) .done)) false 16 [0, 1, 5, 6, 33],
  .reg (.q (some 27) none (.mov (.tmp 0)) (.q (some 28) none (.mov (.tmp 5)) (.q (some 29) none (.mov (.tmp 1)) (.l (some 30) none (.call 32 [(.const (.int .u8 1)), (.tmp 29)]) [] (.l (some 31) none (.call 31 [(.tmp 27), (.tmp 28), (.const (.int .i64 0)), (.tmp 30)]) [] (.q (some 6) none (.mov (.tmp 31)) .done)))))) false 17 [0, 1, 5, 6],
  .reg (.q (some 21) none (.mov (.tmp 0)) (.q (some 22) none (.nc (.tmp 21)) (.q (some 23) none (.fadr 1 (.tmp 22)) (.q (some 24) none (.ld1 (.tmp 23)) (.q (some 25) none (.bin .rem (.tmp 24) (.const (.int .u8 2))) (.q (some 26) none (.bin .add (.const (.int .u8 1)) (.tmp 25)) (.q (some 5) none (.mov (.tmp 26)) .done))))))) false 18 [0, 1, 5],
  .ret [.t 4],
  .reg (.q (some 4) none (.mov (.const (.int .i64 2))) .done) false 20 [4],
  .ret [.t 4],
  .reg (.q (some 4) none (.mov (.const (.int .i64 9))) .done) false 22 [4],
  .cnd (.tmp 13) 23 19,
  .reg (.q (some 14) none (.mov (.tmp 1)) (.q (some 15) none (.len (.tmp 14)) (.q (some 16) none (.bin .add (.tmp 15) (.const (.int .i64 5))) (.q (some 17) none (.bin .add (.tmp 16) (.const (.int .i64 1))) (.q (some 18) none (.mov (.tmp 0)) (.l (some 19) none (.call 35 [(.tmp 18)]) [] (.q (some 20) none (.bin .gtr (.tmp 17) (.tmp 19)) (.q (some 13) none (.mov (.tmp 20)) .done)))))))) false 24 [0, 1, 13],
  .cnd (.tmp 9) 21 25,
  .reg (.q (some 10) none (.mov (.tmp 1)) (.q (some 11) none (.len (.tmp 10)) (.q (some 12) none (.bin .gtr (.tmp 11) (.const (.int .i64 1048576))) (.q (some 9) none (.mov (.tmp 12)) .done)))) false 26 [0, 1, 9],
  .reg (.q (some 4) none (.mov (.const (.int .i64 0))) .done) false 27 [0, 1]
  ]
theorem c14_ok : cfgL Try.prog 14 = some (71, 28, c14.map Vc.Node.bare) := by kernel_rfl
/- strongbox/strongboxref08.Compact: entry 3 -/
def c15 : List Vc.Node := [
  .ret [.cN 2 2],
  .ret [.cN 2 2],
  .reg (.q (some 3) none (.mov (.tmp 0)) (.l (some 4) none (.call 22 [(.tmp 3)]) [] (.q (some 5) none (.bld [.x 1 (.tmp 4), .z [(1, (.slice none 0 0))]]) (.l none none (.stN 2 (.tmp 2) (.tmp 5)) [] .done)))) false 1 [2],
  .reg (.l (some 2) none (.alloc 33 [(2, (.slice none 0 0))]) [] .done) false 2 [0, 2]
  ]
theorem c15_ok : cfgL Try.prog 15 = some (6, 3, c15.map Vc.Node.bare) := by kernel_rfl
/- strongbox/strongboxref01.Kept: entry 16 -/
def c16 : List Vc.Node := [
  .ret [.t 4],
  .ret [.t 4],
  .reg (.q (some 4) none (.mov (.const (.bool true))) .done) false 1 [4],
  .jmp 10,
  .reg (.q (some 16) none (.mov (.tmp 5)) (.q (some 17) none (.bin .add (.tmp 16) (.const (.int .i64 1))) (.q (some 5) none (.mov (.tmp 17)) .done))) false 3 [0, 1, 5],
  .ret [.t 4],
  .reg (.q (some 4) none (.mov (.const (.bool false))) .done) false 5 [4],
  .cnd (.tmp 48) 6 4,
  .reg (.q (some 18) none (.mov (.tmp 5)) (.q (some 19) none (.mov (.tmp 1)) (.q (some 20) none (.len (.tmp 19)) (.q (some 21) none (.bin .lss (.tmp 18) (.tmp 20)) (.q (some 22) none (.mov (.tmp 21)) (.q (some 23) (some (22, true)) (.mov (.tmp 0)) (.q (some 24) (some (22, true)) (.mov (.tmp 5)) (.q (some 25) (some (22, true)) (.iadrS 1 (.tmp 23) (.tmp 24)) (.q (some 26) (some (22, true)) (.ld1 (.tmp 25)) (.q (some 27) (some (22, true)) (.mov (.tmp 1)) (.q (some 28) (some (22, true)) (.mov (.tmp 5)) (.q (some 29) (some (22, true)) (.iadrS 1 (.tmp 27) (.tmp 28)) (.q (some 30) (some (22, true)) (.ld1 (.tmp 29)) (.q (some 31) (some (22, true)) (.bin .neq (.tmp 26) (.tmp 30)) (.q (some 32) none (.pick (.tmp 22) (.tmp 31) (.const (.bool false))) (.q (some 33) none (.mov (.tmp 32)) (.q (some 34) (some (33, false)) (.mov (.tmp 5)) (.q (some 35) (some (33, false)) (.mov (.tmp 1)) (.q (some 36) (some (33, false)) (.len (.tmp 35)) (.q (some 37) (some (33, false)) (.bin .geq (.tmp 34) (.tmp 36)) (.q (some 38) (some (33, false)) (.mov (.tmp 37)) (.q (some 39) (some (38, true)) (.mov (.tmp 0)) (.q (some 40) (some (38, true)) (.mov (.tmp 5)) (.q (some 41) (some (38, true)) (.iadrS 1 (.tmp 39) (.tmp 40)) (.q (some 42) (some (38, true)) (.ld1 (.tmp 41)) (.q (some 43) (some (38, true)) (.mov (.tmp 5)) (.q (some 44) (some (38, true)) (.bin .add (.const (.int .i64 201)) (.tmp 43)) (.q (some 45) (some (38, true)) (.cvi .u8 (.tmp 44)) (.q (some 46) (some (38, true)) (.bin .neq (.tmp 42) (.tmp 45)) (.q (some 47) (some (33, false)) (.pick (.tmp 38) (.tmp 46) (.const (.bool false))) (.q (some 48) none (.pick (.tmp 33) (.const (.bool true)) (.tmp 47)) .done))))))))))))))))))))))))))))))) true 7 [0, 1, 5, 48],
  .cnd (.tmp 15) 8 2,
  .reg (.q (some 12) none (.mov (.tmp 5)) (.q (some 13) none (.mov (.tmp 0)) (.q (some 14) none (.len (.tmp 13)) (.q (some 15) none (.bin .lss (.tmp 12) (.tmp 14)) .done)))) false 9 [0, 1, 5, 15],
  .reg (.q (some 5) none (.mov (.const (.int .i64 0))) .done) false 10 [0, 1, 5],
  .ret [.t 4],
  .reg (.q (some 4) none (.mov (.const (.bool false))) .done) false 12 [4],
  .cnd (.tmp 11) 13 11,
  .reg (.q (some 6) none (.mov (.tmp 0)) (.q (some 7) none (.len (.tmp 6)) (.q (some 8) none (.mov (.tmp 1)) (.q (some 9) none (.len (.tmp 8)) (.q (some 10) none (.bin .add (.tmp 9) (.const (.int .i64 9))) (.q (some 11) none (.bin .neq (.tmp 7) (.tmp 10)) .done)))))) false 14 [0, 1, 11],
  .reg (.q (some 4) none (.mov (.const (.bool false))) .done) false 15 [0, 1]
  ]
theorem c16_ok : cfgL Try.prog 16 = some (49, 16, c16.map Vc.Node.bare) := by kernel_rfl
/- strongbox/strongboxref08.Same: entry 3 -/
def c17 : List Vc.Node := [
  .ret [.t 4],
  .ret [.t 4],
  .reg (.q (some 5) none (.fadr 0 (.tmp 2)) (.q (some 6) none (.ld1 (.tmp 5)) (.q (some 7) none (.fadr 0 (.tmp 3)) (.q (some 8) none (.ld1 (.tmp 7)) (.l (some 9) none (.call 38 [(.tmp 6), (.tmp 8)]) [] (.q (some 10) none (.mov (.tmp 9)) (.q (some 11) (some (10, true)) (.fadr 1 (.tmp 2)) (.q (some 12) (some (10, true)) (.ld1 (.tmp 11)) (.q (some 13) (some (10, true)) (.fadr 1 (.tmp 3)) (.q (some 14) (some (10, true)) (.ld1 (.tmp 13)) (.l (some 15) (some (10, true)) (.call 39 [(.tmp 12), (.tmp 14)]) [] (.q (some 16) none (.pick (.tmp 10) (.tmp 15) (.const (.bool false))) (.q (some 4) none (.mov (.tmp 16)) .done))))))))))))) false 1 [4],
  .reg (.l (some 2) none (.box 33 (.tmp 0)) [] (.l (some 3) none (.box 33 (.tmp 1)) [] (.q (some 4) none (.mov (.const (.bool false))) .done))) false 2 [2, 3]
  ]
theorem c17_ok : cfgL Try.prog 17 = some (17, 3, c17.map Vc.Node.bare) := by kernel_rfl
/- strongbox/strongboxlaw08.told: entry 3 -/
def c18 : List Vc.Node := [
  .ret [.cN 2 2],
  .ret [.cN 2 2],
  .reg (.q (some 3) none (.mov (.tmp 0)) (.l (some 4) none (.call 25 [(.tmp 3)]) [] (.q (some 5) none (.mov (.tmp 0)) (.l (some 6) none (.call 19 [(.tmp 5)]) [] (.q (some 7) none (.bld [.x 1 (.tmp 4), .x 1 (.tmp 6)]) (.l none none (.stN 2 (.tmp 2) (.tmp 7)) [] .done)))))) false 1 [2],
  .reg (.l (some 2) none (.alloc 33 [(2, (.slice none 0 0))]) [] .done) false 2 [0, 2]
  ]
theorem c18_ok : cfgL Try.prog 18 = some (8, 3, c18.map Vc.Node.bare) := by kernel_rfl
/- (*strongbox/journal.Journal).Records: entry 11 -/
def c19 : List Vc.Node := [
  .ret [.t 2],
  .ret [.t 2],
  .reg (.q (some 21) none (.mov (.tmp 3)) (.q (some 2) none (.mov (.tmp 21)) .done)) false 1 [2],
  .jmp 8,
  .reg (.q (some 20) none (.bin .add (.tmp 11) (.const (.int .i64 1))) (.q (some 11) none (.mov (.tmp 20)) .done)) false 3 [3, 9, 10, 11],
  .reg (.q (some 15) none (.mov (.tmp 3)) (.q (some 16) none (.mov (.tmp 5)) (.l (some 17) none (.call 34 [(.tmp 16)]) [] (.l (some 18) none (.bldS 30 1 [(.tmp 17)]) [] (.l (some 19) none (.app 30 1 24 [(1, (.slice none 0 0))] (.tmp 15) (.tmp 18)) [] (.q (some 3) none (.mov (.tmp 19)) .done)))))) false 4 [3, 9, 10, 11],
  .reg (.q (some 13) none (.iadrS 1 (.tmp 9) (.tmp 11)) (.q (some 14) none (.ld1 (.tmp 13)) (.q (some 5) none (.mov (.tmp 14)) .done))) false 5 [3, 5, 9, 10, 11],
  .cnd (.tmp 12) 6 2,
  .reg (.q (some 12) none (.bin .lss (.tmp 11) (.tmp 10)) .done) false 7 [3, 9, 10, 11, 12],
  .reg (.q (some 6) none (.mov (.tmp 0)) (.q (some 7) none (.nc (.tmp 6)) (.q (some 8) none (.fadr 4 (.tmp 7)) (.q (some 9) none (.ld1 (.tmp 8)) (.q (some 10) none (.len (.tmp 9)) (.q (some 11) none (.mov (.const (.int .i64 0))) .done)))))) false 8 [3, 9, 10, 11],
  .reg (.q (some 3) none (.mov (.const (.slice none 0 0))) .done) false 9 [0, 3],
  .reg (.q (some 2) none (.mov (.const (.slice none 0 0))) .done) false 10 [0]
  ]
theorem c19_ok : cfgL Try.prog 19 = some (22, 11, c19.map Vc.Node.bare) := by kernel_rfl
/- (*strongbox/journal.Journal).Room: entry 3 -/
def c20 : List Vc.Node := [
  .ret [.t 2],
  .ret [.t 2],
  .reg (.q (some 3) none (.mov (.tmp 0)) (.q (some 5) none (.mov (.tmp 0)) (.q (some 6) none (.nc (.tmp 5)) (.q (some 7) none (.fadr 2 (.tmp 6)) (.q (some 8) none (.ld1 (.tmp 7)) (.l (some 4) none (.call 35 [(.tmp 3)]) [⟨8, none, (.ld1 (.tmp 7))⟩] (.q (some 9) none (.bin .sub (.tmp 4) (.tmp 8)) (.q (some 10) none (.bin .sub (.tmp 9) (.const (.int .i64 5))) (.q (some 11) none (.bin .sub (.tmp 10) (.const (.int .i64 1))) (.q (some 12) none (.min [(.tmp 11), (.const (.int .i64 65535))]) (.q (some 13) none (.max [(.const (.int .i64 (-1))), (.tmp 12)]) (.q (some 2) none (.mov (.tmp 13)) .done)))))))))))) true 1 [2],
  .reg (.q (some 2) none (.mov (.const (.int .i64 0))) .done) false 2 [0]
  ]
theorem c20_ok : cfgL Try.prog 20 = some (14, 3, c20.map Vc.Node.bare) := by kernel_rfl
/- (*strongbox/disk.Disk).Arm: entry 1 -/
def c21 : List Vc.Node := [
  .ret [],
  .reg (.q (some 4) none (.mov (.tmp 0)) (.q (some 5) none (.mov (.tmp 0)) (.q (some 6) none (.mov (.tmp 1)) (.q (some 7) none (.mov (.tmp 1)) (.q (some 8) none (.bin .geq (.tmp 7) (.const (.int .i64 0))) (.q (some 9) none (.nc (.tmp 4)) (.q (some 10) none (.fadr 3 (.tmp 9)) (.l none none (.st1 (.tmp 10) (.tmp 6)) [] (.q (some 11) none (.nc (.tmp 5)) (.q (some 12) none (.fadr 4 (.tmp 11)) (.l none none (.st1 (.tmp 12) (.tmp 8)) [] .done))))))))))) false 0 []
  ]
theorem c21_ok : cfgL Try.prog 21 = some (13, 1, c21.map Vc.Node.bare) := by kernel_rfl
/- strongbox/strongboxref01.Copy: entry 3 -/
def c22 : List Vc.Node := [
  .ret [.t 2],
  .ret [.t 2],
  .reg (.l (some 3) none (.bldS 5 1 []) [] (.q (some 4) none (.mov (.tmp 0)) (.l (some 5) none (.app 5 1 1 [(1, (.int .u8 0))] (.tmp 3) (.tmp 4)) [] (.q (some 2) none (.mov (.tmp 5)) .done)))) false 1 [2],
  .reg (.q (some 2) none (.mov (.const (.slice none 0 0))) .done) false 2 [0]
  ]
theorem c22_ok : cfgL Try.prog 22 = some (6, 3, c22.map Vc.Node.bare) := by kernel_rfl
/- strongbox/strongboxlaw08.reopen: entry 22 -/
def c23 : List Vc.Node := [
  .ret [.t 4],
  .ret [.t 4],
  .reg (.q (some 4) none (.mov (.const (.pointer none))) .done) false 1 [4],
  .jmp 20,
  .reg (.q (some 10) none (.mov (.tmp 5)) (.q (some 11) none (.bin .add (.tmp 10) (.const (.int .i64 1))) (.q (some 5) none (.mov (.tmp 11)) .done))) false 3 [0, 3, 5],
  .ret [.t 4],
  .reg (.q (some 4) none (.mov (.const (.pointer none))) .done) false 5 [4],
  .cnd (.tmp 45) 6 4,
  .reg (.q (some 44) none (.mov (.tmp 7)) (.q (some 45) none (.bin .neq (.tmp 44) (.const (.int .i64 10))) .done)) false 7 [0, 3, 5, 45],
  .ret [.t 4],
  .reg (.q (some 43) none (.mov (.tmp 6)) (.q (some 4) none (.mov (.tmp 43)) .done)) false 9 [4],
  .reg (.q (some 41) none (.mov (.tmp 0)) (.l (some 42) none (.call 21 [(.tmp 41), (.const (.int .i64 (-1)))]) [] .done)) false 10 [6],
  .cnd (.tmp 40) 11 8,
  .reg (.q (some 39) none (.mov (.tmp 7)) (.q (some 40) none (.bin .eql (.tmp 39) (.const (.int .i64 0))) .done)) false 12 [0, 3, 5, 6, 7, 40],
  .reg (.q (some 35) none (.mov (.tmp 0)) (.l (some 36) none (.call 9 [(.tmp 35)]) [] (.q (some 34) none (.mov (.tmp 36)) (.q (some 37) none (.ext 0 (.tmp 34)) (.q (some 38) none (.ext 1 (.tmp 34)) (.q (some 6) none (.mov (.tmp 37)) (.q (some 7) none (.mov (.tmp 38)) .done))))))) false 13 [0, 3, 5, 6, 7],
  .reg (.q (some 28) none (.mov (.tmp 0)) (.q (some 29) none (.fadr 4 (.tmp 3)) (.q (some 30) none (.ld1 (.tmp 29)) (.q (some 31) none (.bin .sub (.tmp 30) (.const (.int .i64 1))) (.q (some 32) none (.bin .rem (.tmp 31) (.const (.int .i64 6))) (.l (some 33) none (.call 21 [(.tmp 28), (.tmp 32)]) [] .done)))))) false 14 [0, 3, 5],
  .cnd (.tmp 27) 15 14,
  .reg (.q (some 21) none (.fadr 4 (.tmp 3)) (.q (some 22) none (.ld1 (.tmp 21)) (.q (some 23) none (.bin .gtr (.tmp 22) (.const (.int .i64 0))) (.q (some 24) none (.mov (.tmp 23)) (.q (some 25) (some (24, true)) (.mov (.tmp 5)) (.q (some 26) (some (24, true)) (.bin .lss (.tmp 25) (.const (.int .i64 2))) (.q (some 27) none (.pick (.tmp 24) (.tmp 26) (.const (.bool false))) .done))))))) false 16 [0, 3, 5, 27],
  .reg (.q (some 12) none (.mov (.tmp 0)) (.q (some 13) none (.fadr 2 (.tmp 3)) (.q (some 14) none (.ld1 (.tmp 13)) (.q (some 15) none (.bin .rem (.tmp 14) (.const (.int .i64 50))) (.q (some 16) none (.mov (.tmp 5)) (.q (some 17) none (.bin .add (.tmp 15) (.tmp 16)) (.q (some 18) none (.fadr 3 (.tmp 3)) (.q (some 19) none (.ld1 (.tmp 18)) (.l (some 20) none (.call 40 [(.tmp 12), (.tmp 17), (.tmp 19)]) [] .done))))))))) false 17 [0, 3, 5],
  .cnd (.tmp 9) 18 2,
  .reg (.q (some 8) none (.mov (.tmp 5)) (.q (some 9) none (.bin .lss (.tmp 8) (.const (.int .i64 3))) .done)) false 19 [0, 3, 5, 9],
  .reg (.q (some 5) none (.mov (.const (.int .i64 0))) .done) false 20 [0, 3, 5],
  .reg (.l (some 3) none (.box 36 (.tmp 1)) [] (.q (some 4) none (.mov (.const (.pointer none))) .done)) false 21 [0, 3]
  ]
theorem c23_ok : cfgL Try.prog 23 = some (46, 22, c23.map Vc.Node.bare) := by kernel_rfl
/- (*strongbox/disk.Disk).Twin: entry 5 -/
def c24 : List Vc.Node := [
  .ret [.t 2],
  .ret [.t 2],
  .reg (.q (some 2) none (.mov (.tmp 3)) .done) false 1 [2],
  .reg (.q (some 7) none (.mov (.tmp 0)) (.q (some 8) none (.nc (.tmp 7)) (.q (some 9) none (.fadr 1 (.tmp 8)) (.q (some 10) none (.ld1 (.tmp 9)) (.q (some 12) none (.mov (.tmp 0)) (.q (some 13) none (.nc (.tmp 12)) (.q (some 14) none (.fadr 2 (.tmp 13)) (.q (some 15) none (.ld1 (.tmp 14)) (.l (some 11) none (.call 41 [(.tmp 10)]) [⟨15, none, (.ld1 (.tmp 14))⟩] (.l (some 16) none (.call 42 [(.tmp 15)]) [] (.q (some 17) none (.fadr 1 (.tmp 3)) (.l none none (.st1 (.tmp 17) (.tmp 11)) [] (.q (some 18) none (.fadr 2 (.tmp 3)) (.l none none (.st1 (.tmp 18) (.tmp 16)) [] .done)))))))))))))) true 2 [3],
  .reg (.q (some 4) none (.mov (.tmp 0)) (.q (some 5) none (.nc (.tmp 4)) (.q (some 6) none (.ldN 6 (.tmp 5)) (.l (some 3) none (.alloc 58 [(1, (.int .i64 0)), (1, (.map none)), (1, (.slice none 0 0)), (1, (.int .i64 0)), (2, (.bool false))]) [] (.l none none (.stN 6 (.tmp 3) (.tmp 6)) [] .done))))) false 3 [0, 3],
  .reg (.q (some 2) none (.mov (.const (.pointer none))) .done) false 4 [0]
  ]
theorem c24_ok : cfgL Try.prog 24 = some (19, 5, c24.map Vc.Node.bare) := by kernel_rfl
/- (*strongbox/journal.Journal).State: entry 3 -/
def c25 : List Vc.Node := [
  .ret [.t 2],
  .ret [.t 2],
  .reg (.q (some 3) none (.mov (.tmp 0)) (.q (some 4) none (.nc (.tmp 3)) (.q (some 5) none (.fadr 3 (.tmp 4)) (.q (some 6) none (.ld1 (.tmp 5)) (.l (some 7) none (.call 34 [(.tmp 6)]) [] (.q (some 2) none (.mov (.tmp 7)) .done)))))) false 1 [2],
  .reg (.q (some 2) none (.mov (.const (.slice none 0 0))) .done) false 2 [0]
  ]
theorem c25_ok : cfgL Try.prog 25 = some (8, 3, c25.map Vc.Node.bare) := by kernel_rfl
/- (*strongbox/disk.Disk).Sectors: entry 3 -/
def c26 : List Vc.Node := [
  .ret [.t 2],
  .ret [.t 2],
  .reg (.q (some 3) none (.mov (.tmp 0)) (.q (some 4) none (.nc (.tmp 3)) (.q (some 5) none (.fadr 0 (.tmp 4)) (.q (some 6) none (.ld1 (.tmp 5)) (.q (some 2) none (.mov (.tmp 6)) .done))))) false 1 [2],
  .reg (.q (some 2) none (.mov (.const (.int .i64 0))) .done) false 2 [0]
  ]
theorem c26_ok : cfgL Try.prog 26 = some (7, 3, c26.map Vc.Node.bare) := by kernel_rfl
/- (*strongbox/disk.Disk).Read: entry 14 -/
def c27 : List Vc.Node := [
  .ret [.t 4, .t 5],
  .ret [.t 4, .t 5],
  .reg (.q (some 36) none (.slcA 64 1 (.tmp 6) none none) (.l (some 37) none (.call 34 [(.tmp 36)]) [] (.q (some 4) none (.mov (.tmp 37)) (.q (some 5) none (.mov (.const (.int .i64 0))) .done)))) false 1 [4, 5],
  .bad,
  .reg (.q (some 23) none (.mov (.tmp 0)) (.q (some 24) none (.nc (.tmp 23)) (.q (some 25) none (.fadr 2 (.tmp 24)) (.q (some 26) none (.ld1 (.tmp 25)) (.l (some 27) none (.call 44 [(.tmp 26)]) [] .done))))) false 3 [],
  .reg (.q (some 17) none (.mov (.tmp 0)) (.q (some 18) none (.nc (.tmp 17)) (.q (some 19) none (.fadr 1 (.tmp 18)) (.q (some 20) none (.ld1 (.tmp 19)) (.q (some 21) none (.ld1 (.tmp 3)) (.q (some 22) none (.lkp [(1, .i .i64)] false true [(64, (.int .u8 0))] false (.tmp 20) (.tmp 21)) (.l (some 6) none (.alloc 74 [(64, (.int .u8 0))]) [⟨22, none, (.lkp [(1, .i .i64)] false true [(64, (.int .u8 0))] false (.tmp 20) (.tmp 21))⟩, ⟨21, none, (.ld1 (.tmp 3))⟩, ⟨20, none, (.ld1 (.tmp 19))⟩] (.l none none (.stN 64 (.tmp 6) (.tmp 22)) [] .done)))))))) true 4 [0],
  .ret [.t 4, .t 5],
  .reg (.q (some 4) none (.mov (.const (.slice none 0 0))) (.q (some 5) none (.mov (.const (.int .i64 10))) .done)) false 6 [4, 5],
  .cnd (.tmp 16) 7 5,
  .reg (.q (some 13) none (.mov (.tmp 0)) (.q (some 14) none (.nc (.tmp 13)) (.q (some 15) none (.fadr 5 (.tmp 14)) (.q (some 16) none (.ld1 (.tmp 15)) .done)))) false 8 [0, 3, 16],
  .ret [.t 4, .t 5],
  .reg (.q (some 4) none (.mov (.const (.slice none 0 0))) (.q (some 5) none (.mov (.const (.int .i64 1))) .done)) false 10 [4, 5],
  .cnd (.tmp 12) 11 9,
  .reg (.q (some 9) none (.mov (.tmp 0)) (.q (some 10) none (.ld1 (.tmp 3)) (.l (some 11) none (.call 43 [(.tmp 9), (.tmp 10)]) [] (.q (some 12) none (.not (.tmp 11)) .done)))) false 12 [0, 3, 12],
  .reg (.l (some 3) none (.box 3 (.tmp 1)) [] (.q (some 4) none (.mov (.const (.slice none 0 0))) (.q (some 5) none (.mov (.const (.int .i64 0))) .done))) false 13 [0, 3]
  ]
theorem c27_ok : cfgL Try.prog 27 = some (38, 14, c27.map Vc.Node.bare) := by kernel_rfl
/- (*strongbox/journal.Journal).sectors: entry 3 -/
def c28 : List Vc.Node := [
  .ret [.t 2],
  .ret [.t 2],
  .reg (.q (some 3) none (.mov (.tmp 0)) (.q (some 4) none (.nc (.tmp 3)) (.q (some 5) none (.fadr 0 (.tmp 4)) (.q (some 6) none (.ld1 (.tmp 5)) (.l (some 7) none (.call 26 [(.tmp 6)]) [] (.q (some 8) none (.bin .sub (.tmp 7) (.const (.int .i64 1))) (.q (some 9) none (.bin .quo (.tmp 8) (.const (.int .i64 2))) (.q (some 2) none (.mov (.tmp 9)) .done)))))))) false 1 [2],
  .reg (.q (some 2) none (.mov (.const (.int .i64 0))) .done) false 2 [0]
  ]
theorem c28_ok : cfgL Try.prog 28 = some (10, 3, c28.map Vc.Node.bare) := by kernel_rfl
/- (*strongbox/journal.Journal).base: entry 3 -/
def c29 : List Vc.Node := [
  .ret [.t 4],
  .ret [.t 4],
  .reg (.q (some 5) none (.mov (.tmp 1)) (.q (some 6) none (.bin .rem (.tmp 5) (.const (.int .u8 2))) (.q (some 7) none (.cvi .i64 (.tmp 6)) (.q (some 8) none (.mov (.tmp 0)) (.l (some 9) none (.call 28 [(.tmp 8)]) [] (.q (some 10) none (.bin .mul (.tmp 7) (.tmp 9)) (.q (some 11) none (.bin .add (.const (.int .i64 1)) (.tmp 10)) (.q (some 4) none (.mov (.tmp 11)) .done)))))))) false 1 [4],
  .reg (.q (some 4) none (.mov (.const (.int .i64 0))) .done) false 2 [0, 1]
  ]
theorem c29_ok : cfgL Try.prog 29 = some (12, 3, c29.map Vc.Node.bare) := by kernel_rfl
/- strongbox/journal.next: entry 9 -/
def c30 : List Vc.Node := [
  .ret [.t 4, .t 5],
  .ret [.t 4, .t 5],
  .reg (.q (some 20) none (.mov (.tmp 7)) (.q (some 21) none (.mov (.tmp 6)) (.l (some 22) none (.call 49 [(.tmp 21)]) [] (.q (some 23) none (.bin .eql (.tmp 22) (.const (.int .i64 0))) (.q (some 4) none (.mov (.tmp 20)) (.q (some 5) none (.mov (.tmp 23)) .done)))))) false 1 [4, 5],
  .reg (.q (some 15) none (.mov (.tmp 6)) (.q (some 16) none (.mov (.tmp 6)) (.l (some 17) none (.call 48 [(.tmp 16)]) [] (.q (some 18) none (.cvi .i64 (.tmp 17)) (.l (some 19) none (.call 47 [(.tmp 15), (.tmp 18)]) [] (.q (some 7) none (.mov (.tmp 19)) .done)))))) false 2 [6, 7],
  .ret [.t 4, .t 5],
  .reg (.q (some 4) none (.mov (.const (.slice none 0 0))) (.q (some 5) none (.mov (.const (.bool false))) .done)) false 4 [4, 5],
  .cnd (.tmp 14) 5 3,
  .reg (.q (some 12) none (.mov (.tmp 6)) (.l (some 13) none (.call 46 [(.tmp 12)]) [] (.q (some 14) none (.bin .neq (.tmp 13) (.const (.int .u8 1))) .done))) false 6 [6, 14],
  .reg (.q (some 8) none (.mov (.tmp 0)) (.q (some 9) none (.mov (.tmp 1)) (.q (some 10) none (.slcS 1 (.tmp 8) (some (.tmp 9)) none) (.l (some 11) none (.call 45 [(.tmp 10)]) [] (.q (some 6) none (.mov (.tmp 11)) .done))))) false 7 [6],
  .reg (.q (some 4) none (.mov (.const (.slice none 0 0))) (.q (some 5) none (.mov (.const (.bool false))) .done)) false 8 [0, 1]
  ]
theorem c30_ok : cfgL Try.prog 30 = some (24, 9, c30.map Vc.Node.bare) := by kernel_rfl
/- (*strongbox/journal.Journal).safe: entry 8 -/
def c31 : List Vc.Node := [
  .ret [.t 8],
  .ret [.t 8],
  .reg (.q (some 18) none (.mov (.tmp 0)) (.q (some 19) none (.nc (.tmp 18)) (.q (some 20) none (.fadr 0 (.tmp 19)) (.q (some 21) none (.ld1 (.tmp 20)) (.l (some 22) none (.call 37 [(.tmp 21)]) [] (.q (some 8) none (.mov (.tmp 22)) .done)))))) false 1 [8],
  .ret [.t 8],
  .reg (.q (some 17) none (.mov (.tmp 9)) (.q (some 8) none (.mov (.tmp 17)) .done)) false 3 [8],
  .cnd (.tmp 16) 4 2,
  .reg (.q (some 15) none (.mov (.tmp 9)) (.q (some 16) none (.bin .neq (.tmp 15) (.const (.int .i64 0))) .done)) false 5 [0, 9, 16],
  .reg (.q (some 10) none (.mov (.tmp 0)) (.q (some 11) none (.mov (.tmp 1)) (.q (some 12) none (.mov (.tmp 2)) (.q (some 13) none (.mov (.tmp 3)) (.l (some 14) none (.call 50 [(.tmp 10), (.tmp 11), (.tmp 12), (.tmp 13)]) [] (.q (some 9) none (.mov (.tmp 14)) .done)))))) false 6 [0, 9],
  .reg (.q (some 8) none (.mov (.const (.int .i64 0))) .done) false 7 [0, 1, 2, 3]
  ]
theorem c31_ok : cfgL Try.prog 31 = some (23, 8, c31.map Vc.Node.bare) := by kernel_rfl
/- strongbox/journal.frame: entry 8 -/
def c32 : List Vc.Node := [
  .ret [.t 4],
  .ret [.t 4],
  .reg (.l (some 15) none (.call 54 [(.tmp 5)]) [] (.q (some 4) none (.mov (.tmp 15)) .done)) false 1 [4],
  .reg (.l (some 14) none (.call 51 [(.tmp 5), (.const (.int .u8 0))]) [] .done) false 2 [5],
  .reg (.q (some 12) none (.mov (.tmp 1)) (.l (some 13) none (.call 53 [(.tmp 5), (.tmp 12)]) [] .done)) false 3 [5],
  .reg (.q (some 8) none (.mov (.tmp 1)) (.q (some 9) none (.len (.tmp 8)) (.q (some 10) none (.cvi .u32 (.tmp 9)) (.l (some 11) none (.call 52 [(.tmp 5), (.tmp 10)]) [] .done)))) false 4 [1, 5],
  .reg (.q (some 6) none (.mov (.tmp 0)) (.l (some 7) none (.call 51 [(.tmp 5), (.tmp 6)]) [] .done)) false 5 [1, 5],
  .reg (.l (some 5) none (.alloc 89 [(1, (.slice none 0 0))]) [] .done) false 6 [0, 1, 5],
  .reg (.q (some 4) none (.mov (.const (.slice none 0 0))) .done) false 7 [0, 1]
  ]
theorem c32_ok : cfgL Try.prog 32 = some (16, 8, c32.map Vc.Node.bare) := by kernel_rfl
/- (*strongbox/journal.Journal).mark: entry 15 -/
def c33 : List Vc.Node := [
  .ret [.t 2],
  .ret [.t 2],
  .reg (.q (some 48) none (.mov (.tmp 0)) (.q (some 49) none (.nc (.tmp 48)) (.q (some 50) none (.fadr 0 (.tmp 49)) (.q (some 51) none (.ld1 (.tmp 50)) (.l (some 52) none (.call 37 [(.tmp 51)]) [] (.q (some 2) none (.mov (.tmp 52)) .done)))))) false 1 [2],
  .ret [.t 2],
  .reg (.q (some 47) none (.mov (.tmp 6)) (.q (some 2) none (.mov (.tmp 47)) .done)) false 3 [2],
  .cnd (.tmp 46) 4 2,
  .reg (.q (some 45) none (.mov (.tmp 6)) (.q (some 46) none (.bin .neq (.tmp 45) (.const (.int .i64 0))) .done)) false 5 [0, 6, 46],
  .reg (.q (some 38) none (.mov (.tmp 0)) (.q (some 39) none (.nc (.tmp 38)) (.q (some 40) none (.fadr 0 (.tmp 39)) (.q (some 41) none (.ld1 (.tmp 40)) (.q (some 42) none (.mov (.tmp 3)) (.q (some 43) none (.mov (.tmp 4)) (.l (some 44) none (.call 36 [(.tmp 41), (.tmp 42), (.tmp 43)]) [] (.q (some 6) none (.mov (.tmp 44)) .done)))))))) false 6 [0, 6],
  .reg (.q (some 31) none (.mov (.tmp 4)) (.q (some 32) none (.mov (.tmp 0)) (.q (some 33) none (.nc (.tmp 32)) (.q (some 34) none (.fadr 2 (.tmp 33)) (.q (some 35) none (.ld1 (.tmp 34)) (.q (some 36) none (.bin .rem (.tmp 35) (.const (.int .i64 64))) (.q (some 37) none (.iadrS 1 (.tmp 31) (.tmp 36)) (.l none none (.st1 (.tmp 37) (.const (.int .u8 1))) [] .done)))))))) false 7 [0, 3, 4],
  .ret [.t 2],
  .reg (.q (some 30) none (.mov (.tmp 5)) (.q (some 2) none (.mov (.tmp 30)) .done)) false 9 [2],
  .cnd (.tmp 29) 10 8,
  .reg (.q (some 28) none (.mov (.tmp 5)) (.q (some 29) none (.bin .neq (.tmp 28) (.const (.int .i64 0))) .done)) false 11 [0, 3, 4, 5, 29],
  .reg (.q (some 20) none (.mov (.tmp 0)) (.q (some 21) none (.nc (.tmp 20)) (.q (some 22) none (.fadr 0 (.tmp 21)) (.q (some 23) none (.ld1 (.tmp 22)) (.q (some 24) none (.mov (.tmp 3)) (.l (some 25) none (.call 27 [(.tmp 23), (.tmp 24)]) [] (.q (some 19) none (.mov (.tmp 25)) (.q (some 26) none (.ext 0 (.tmp 19)) (.q (some 27) none (.ext 1 (.tmp 19)) (.q (some 4) none (.mov (.tmp 26)) (.q (some 5) none (.mov (.tmp 27)) .done))))))))))) false 12 [0, 3, 4, 5],
  .reg (.q (some 7) none (.mov (.tmp 0)) (.q (some 8) none (.mov (.tmp 0)) (.q (some 9) none (.nc (.tmp 8)) (.q (some 10) none (.fadr 1 (.tmp 9)) (.q (some 11) none (.ld1 (.tmp 10)) (.q (some 13) none (.mov (.tmp 0)) (.q (some 14) none (.nc (.tmp 13)) (.q (some 15) none (.fadr 2 (.tmp 14)) (.q (some 16) none (.ld1 (.tmp 15)) (.q (some 17) none (.bin .quo (.tmp 16) (.const (.int .i64 64))) (.l (some 12) none (.call 29 [(.tmp 7), (.tmp 11)]) [⟨16, none, (.ld1 (.tmp 15))⟩] (.q (some 18) none (.bin .add (.tmp 12) (.tmp 17)) (.q (some 3) none (.mov (.tmp 18)) .done))))))))))))) true 13 [0, 3],
  .reg (.q (some 2) none (.mov (.const (.int .i64 0))) .done) false 14 [0]
  ]
theorem c33_ok : cfgL Try.prog 33 = some (53, 15, c33.map Vc.Node.bare) := by kernel_rfl
/- bytes.Clone: entry 7 -/
def c34 : List Vc.Node := [
  .ret [.t 2],
  .ret [.t 2],
  .reg (.l (some 5) none (.bldS 5 1 []) [] (.q (some 6) none (.mov (.tmp 0)) (.l (some 7) none (.app 5 1 1 [(1, (.int .u8 0))] (.tmp 5) (.tmp 6)) [] (.q (some 2) none (.mov (.tmp 7)) .done)))) false 1 [2],
  .ret [.t 2],
  .reg (.q (some 2) none (.mov (.const (.slice none 0 0))) .done) false 3 [2],
  .cnd (.tmp 4) 4 2,
  .reg (.q (some 3) none (.mov (.tmp 0)) (.q (some 4) none (.eqS false (.tmp 3) (.const (.slice none 0 0))) .done)) false 5 [0, 4],
  .reg (.q (some 2) none (.mov (.const (.slice none 0 0))) .done) false 6 [0]
  ]
theorem c34_ok : cfgL Try.prog 34 = some (8, 7, c34.map Vc.Node.bare) := by kernel_rfl
/- (*strongbox/journal.Journal).room: entry 3 -/
def c35 : List Vc.Node := [
  .ret [.t 2],
  .ret [.t 2],
  .reg (.q (some 3) none (.mov (.tmp 0)) (.l (some 4) none (.call 28 [(.tmp 3)]) [] (.q (some 5) none (.bin .mul (.tmp 4) (.const (.int .i64 64))) (.q (some 2) none (.mov (.tmp 5)) .done)))) false 1 [2],
  .reg (.q (some 2) none (.mov (.const (.int .i64 0))) .done) false 2 [0]
  ]
theorem c35_ok : cfgL Try.prog 35 = some (6, 3, c35.map Vc.Node.bare) := by kernel_rfl
/- (*strongbox/disk.Disk).Write: entry 19 -/
def c36 : List Vc.Node := [
  .ret [.t 6],
  .ret [.t 6],
  .reg (.q (some 6) none (.mov (.const (.int .i64 0))) .done) false 1 [6],
  .reg (.q (some 29) none (.mov (.tmp 0)) (.q (some 30) none (.mov (.tmp 0)) (.q (some 31) none (.nc (.tmp 30)) (.q (some 32) none (.fadr 2 (.tmp 31)) (.q (some 33) none (.ld1 (.tmp 32)) (.q (some 34) none (.ldN 65 (.tmp 8)) (.l (some 35) none (.bldS 77 65 [(.tmp 34)]) [⟨33, none, (.ld1 (.tmp 32))⟩] (.l (some 36) none (.app 77 65 72 [(1, (.int .i64 0)), (64, (.int .u8 0))] (.tmp 33) (.tmp 35)) [] (.q (some 37) none (.nc (.tmp 29)) (.q (some 38) none (.fadr 2 (.tmp 37)) (.l none none (.st1 (.tmp 38) (.tmp 36)) [] .done))))))))))) true 2 [],
  .reg (.q (some 25) none (.fadr 1 (.tmp 8)) (.q (some 26) none (.slcA 64 1 (.tmp 25) none none) (.q (some 27) none (.mov (.tmp 2)) (.l (some 28) none (.cpy 1 (.tmp 26) (.tmp 27)) [] .done)))) false 3 [0, 8],
  .reg (.q (some 23) none (.mov (.tmp 1)) (.q (some 24) none (.bld [.x 1 (.tmp 23), .z [(64, (.int .u8 0))]]) (.l (some 8) none (.alloc 77 [(1, (.int .i64 0)), (64, (.int .u8 0))]) [] (.l none none (.stN 65 (.tmp 8) (.tmp 24)) [] .done)))) false 4 [0, 2, 8],
  .ret [.t 6],
  .reg (.q (some 22) none (.mov (.tmp 7)) (.q (some 6) none (.mov (.tmp 22)) .done)) false 6 [6],
  .cnd (.tmp 21) 7 5,
  .reg (.q (some 20) none (.mov (.tmp 7)) (.q (some 21) none (.bin .neq (.tmp 20) (.const (.int .i64 0))) .done)) false 8 [0, 1, 2, 7, 21],
  .reg (.q (some 18) none (.mov (.tmp 0)) (.l (some 19) none (.call 55 [(.tmp 18)]) [] (.q (some 7) none (.mov (.tmp 19)) .done))) false 9 [0, 1, 2, 7],
  .ret [.t 6],
  .reg (.q (some 6) none (.mov (.const (.int .i64 1))) .done) false 11 [6],
  .ret [.t 6],
  .reg (.q (some 6) none (.mov (.const (.int .i64 2))) .done) false 13 [6],
  .cnd (.tmp 14) 14 10,
  .reg (.q (some 15) none (.mov (.tmp 2)) (.q (some 16) none (.len (.tmp 15)) (.q (some 17) none (.bin .gtr (.tmp 16) (.const (.int .i64 64))) (.q (some 14) none (.mov (.tmp 17)) .done)))) false 15 [0, 1, 2, 14],
  .cnd (.tmp 9) 12 16,
  .reg (.q (some 10) none (.mov (.tmp 0)) (.q (some 11) none (.mov (.tmp 1)) (.l (some 12) none (.call 43 [(.tmp 10), (.tmp 11)]) [] (.q (some 13) none (.not (.tmp 12)) (.q (some 9) none (.mov (.tmp 13)) .done))))) false 17 [0, 1, 2, 9],
  .reg (.q (some 6) none (.mov (.const (.int .i64 0))) .done) false 18 [0, 1, 2]
  ]
theorem c36_ok : cfgL Try.prog 36 = some (39, 19, c36.map Vc.Node.bare) := by kernel_rfl
/- (*strongbox/disk.Disk).Sync: entry 9 -/
def c37 : List Vc.Node := [
  .ret [.t 2],
  .ret [.t 2],
  .reg (.q (some 2) none (.mov (.const (.int .i64 0))) .done) false 1 [2],
  .reg (.q (some 9) none (.mov (.tmp 0)) (.q (some 10) none (.mov (.tmp 0)) (.q (some 11) none (.nc (.tmp 10)) (.q (some 12) none (.fadr 2 (.tmp 11)) (.q (some 13) none (.ld1 (.tmp 12)) (.q (some 14) none (.len (.tmp 13)) (.l (some 15) none (.call 56 [(.tmp 9), (.tmp 14)]) [] .done))))))) false 2 [],
  .ret [.t 2],
  .reg (.q (some 8) none (.mov (.tmp 3)) (.q (some 2) none (.mov (.tmp 8)) .done)) false 4 [2],
  .cnd (.tmp 7) 5 3,
  .reg (.q (some 6) none (.mov (.tmp 3)) (.q (some 7) none (.bin .neq (.tmp 6) (.const (.int .i64 0))) .done)) false 6 [0, 3, 7],
  .reg (.q (some 4) none (.mov (.tmp 0)) (.l (some 5) none (.call 55 [(.tmp 4)]) [] (.q (some 3) none (.mov (.tmp 5)) .done))) false 7 [0, 3],
  .reg (.q (some 2) none (.mov (.const (.int .i64 0))) .done) false 8 [0]
  ]
theorem c37_ok : cfgL Try.prog 37 = some (16, 9, c37.map Vc.Node.bare) := by kernel_rfl
/- strongbox/strongboxref01.Equal: entry 3 -/
def c38 : List Vc.Node := [
  .ret [.t 4],
  .ret [.t 4],
  .reg (.q (some 5) none (.mov (.tmp 0)) (.q (some 6) none (.b2s (.tmp 5)) (.q (some 7) none (.mov (.tmp 1)) (.q (some 8) none (.b2s (.tmp 7)) (.q (some 9) none (.bin .eql (.tmp 6) (.tmp 8)) (.q (some 4) none (.mov (.tmp 9)) .done)))))) false 1 [4],
  .reg (.q (some 4) none (.mov (.const (.bool false))) .done) false 2 [0, 1]
  ]
theorem c38_ok : cfgL Try.prog 38 = some (10, 3, c38.map Vc.Node.bare) := by kernel_rfl
/- strongbox/strongboxref01.Same: entry 16 -/
def c39 : List Vc.Node := [
  .ret [.t 4],
  .ret [.t 4],
  .reg (.q (some 4) none (.mov (.const (.bool true))) .done) false 1 [4],
  .jmp 10,
  .reg (.q (some 15) none (.mov (.tmp 5)) (.q (some 16) none (.bin .add (.tmp 15) (.const (.int .i64 1))) (.q (some 5) none (.mov (.tmp 16)) .done))) false 3 [0, 1, 5],
  .ret [.t 4],
  .reg (.q (some 4) none (.mov (.const (.bool false))) .done) false 5 [4],
  .cnd (.tmp 26) 6 4,
  .reg (.q (some 17) none (.mov (.tmp 0)) (.q (some 18) none (.mov (.tmp 5)) (.q (some 19) none (.iadrS 1 (.tmp 17) (.tmp 18)) (.q (some 20) none (.ld1 (.tmp 19)) (.q (some 21) none (.mov (.tmp 1)) (.q (some 22) none (.mov (.tmp 5)) (.q (some 23) none (.iadrS 1 (.tmp 21) (.tmp 22)) (.q (some 24) none (.ld1 (.tmp 23)) (.l (some 25) none (.call 38 [(.tmp 20), (.tmp 24)]) [] (.q (some 26) none (.not (.tmp 25)) .done)))))))))) true 7 [0, 1, 5, 26],
  .cnd (.tmp 14) 8 2,
  .reg (.q (some 11) none (.mov (.tmp 5)) (.q (some 12) none (.mov (.tmp 0)) (.q (some 13) none (.len (.tmp 12)) (.q (some 14) none (.bin .lss (.tmp 11) (.tmp 13)) .done)))) false 9 [0, 1, 5, 14],
  .reg (.q (some 5) none (.mov (.const (.int .i64 0))) .done) false 10 [0, 1, 5],
  .ret [.t 4],
  .reg (.q (some 4) none (.mov (.const (.bool false))) .done) false 12 [4],
  .cnd (.tmp 10) 13 11,
  .reg (.q (some 6) none (.mov (.tmp 0)) (.q (some 7) none (.len (.tmp 6)) (.q (some 8) none (.mov (.tmp 1)) (.q (some 9) none (.len (.tmp 8)) (.q (some 10) none (.bin .neq (.tmp 7) (.tmp 9)) .done))))) false 14 [0, 1, 10],
  .reg (.q (some 4) none (.mov (.const (.bool false))) .done) false 15 [0, 1]
  ]
theorem c39_ok : cfgL Try.prog 39 = some (27, 16, c39.map Vc.Node.bare) := by kernel_rfl
/- (*strongbox/disk.Disk).Crash: entry 8 -/
def c40 : List Vc.Node := [
  .ret [],
  .reg (.q (some 50) none (.mov (.tmp 0)) (.q (some 51) none (.mov (.tmp 0)) (.q (some 52) none (.mov (.tmp 0)) (.q (some 53) none (.nc (.tmp 50)) (.q (some 54) none (.fadr 2 (.tmp 53)) (.l none none (.st1 (.tmp 54) (.const (.slice none 0 0))) [] (.q (some 55) none (.nc (.tmp 51)) (.q (some 56) none (.fadr 5 (.tmp 55)) (.l none none (.st1 (.tmp 56) (.const (.bool false))) [] (.q (some 57) none (.nc (.tmp 52)) (.q (some 58) none (.fadr 4 (.tmp 57)) (.l none none (.st1 (.tmp 58) (.const (.bool false))) [] .done)))))))))))) false 0 [],
  .reg (.q (some 43) none (.mov (.tmp 0)) (.q (some 44) none (.nc (.tmp 43)) (.q (some 45) none (.fadr 1 (.tmp 44)) (.q (some 46) none (.ld1 (.tmp 45)) (.q (some 47) none (.fadr 0 (.tmp 6)) (.q (some 48) none (.ld1 (.tmp 47)) (.q (some 49) none (.ldN 64 (.tmp 7)) (.l none none (.mapU [(1, .i .i64)] false (.tmp 46) (.tmp 48) (.tmp 49)) [] .done)))))))) true 1 [0],
  .reg (.q (some 37) none (.mov (.tmp 2)) (.q (some 40) none (.fadr 1 (.tmp 6)) (.q (some 41) none (.slcA 64 1 (.tmp 40) none none) (.l (some 38) none (.call 57 [(.tmp 37), (.const (.int .i64 64))]) [] (.q (some 39) none (.slcA 64 1 (.tmp 7) none (some (.tmp 38))) (.l (some 42) none (.cpy 1 (.tmp 39) (.tmp 41)) [] .done)))))) true 2 [0, 6, 7],
  .reg (.q (some 30) none (.mov (.tmp 0)) (.q (some 31) none (.nc (.tmp 30)) (.q (some 32) none (.fadr 1 (.tmp 31)) (.q (some 33) none (.ld1 (.tmp 32)) (.q (some 34) none (.fadr 0 (.tmp 6)) (.q (some 35) none (.ld1 (.tmp 34)) (.q (some 36) none (.lkp [(1, .i .i64)] false true [(64, (.int .u8 0))] false (.tmp 33) (.tmp 35)) (.l (some 7) none (.alloc 74 [(64, (.int .u8 0))]) [⟨36, none, (.lkp [(1, .i .i64)] false true [(64, (.int .u8 0))] false (.tmp 33) (.tmp 35))⟩, ⟨35, none, (.ld1 (.tmp 34))⟩, ⟨33, none, (.ld1 (.tmp 32))⟩] (.l none none (.stN 64 (.tmp 7) (.tmp 36)) [] .done))))))))) true 3 [0, 2, 6, 7],
  .reg (.q (some 24) none (.mov (.tmp 0)) (.q (some 25) none (.nc (.tmp 24)) (.q (some 26) none (.fadr 2 (.tmp 25)) (.q (some 27) none (.ld1 (.tmp 26)) (.q (some 28) none (.iadrS 65 (.tmp 27) (.const (.int .i64 0))) (.q (some 29) none (.ldN 65 (.tmp 28)) (.l (some 6) none (.alloc 77 [(1, (.int .i64 0)), (64, (.int .u8 0))]) [] (.l none none (.stN 65 (.tmp 6) (.tmp 29)) [] .done)))))))) false 4 [0, 2, 6],
  .cnd (.tmp 23) 5 1,
  .reg (.q (some 18) none (.mov (.tmp 0)) (.q (some 19) none (.nc (.tmp 18)) (.q (some 20) none (.fadr 2 (.tmp 19)) (.q (some 21) none (.ld1 (.tmp 20)) (.q (some 22) none (.len (.tmp 21)) (.q (some 23) none (.bin .gtr (.tmp 22) (.const (.int .i64 0))) .done)))))) false 6 [0, 2, 23],
  .reg (.q (some 8) none (.mov (.tmp 0)) (.q (some 9) none (.mov (.tmp 1)) (.q (some 10) none (.mov (.tmp 0)) (.q (some 11) none (.nc (.tmp 10)) (.q (some 12) none (.fadr 2 (.tmp 11)) (.q (some 13) none (.ld1 (.tmp 12)) (.q (some 14) none (.len (.tmp 13)) (.q (some 15) none (.bin .add (.tmp 14) (.const (.int .i64 1))) (.l (some 16) none (.call 57 [(.tmp 9), (.tmp 15)]) [] (.l (some 17) none (.call 56 [(.tmp 8), (.tmp 16)]) [] .done)))))))))) false 7 [0, 2]
  ]
theorem c40_ok : cfgL Try.prog 40 = some (59, 8, c40.map Vc.Node.bare) := by kernel_rfl
/- maps.Clone[map[int]strongbox/disk.sector,int,strongbox/disk.sector]: entry 7 -/
def c41 : List Vc.Node := [
  .ret [.t 2],
  .ret [.t 2],
  .reg (.q (some 5) none (.mov (.tmp 0)) (.q (some 6) none (.mif 55 (.tmp 5)) (.l (some 7) none (.callx 58 [(.tmp 6)]) [] (.q (some 8) none (.ta 55 (.tmp 7)) (.q (some 2) none (.mov (.tmp 8)) .done))))) false 1 [2],
  .ret [.t 2],
  .reg (.q (some 2) none (.mov (.const (.map none))) .done) false 3 [2],
  .cnd (.tmp 4) 4 2,
  .reg (.q (some 3) none (.mov (.tmp 0)) (.q (some 4) none (.eqM false (.tmp 3) (.const (.map none))) .done)) false 5 [0, 4],
  .reg (.q (some 2) none (.mov (.const (.map none))) .done) false 6 [0]
  ]
theorem c41_ok : cfgL Try.prog 41 = some (9, 7, c41.map Vc.Node.bare) := by kernel_rfl
/- slices.Clone[[]strongbox/disk.write,strongbox/disk.write]: entry 7 -/
def c42 : List Vc.Node := [
  .ret [.t 2],
  .ret [.t 2],
  .reg (.l (some 5) none (.bldS 77 65 []) [] (.q (some 6) none (.mov (.tmp 0)) (.l (some 7) none (.app 77 65 72 [(1, (.int .i64 0)), (64, (.int .u8 0))] (.tmp 5) (.tmp 6)) [] (.q (some 2) none (.mov (.tmp 7)) .done)))) false 1 [2],
  .ret [.t 2],
  .reg (.q (some 2) none (.mov (.const (.slice none 0 0))) .done) false 3 [2],
  .cnd (.tmp 4) 4 2,
  .reg (.q (some 3) none (.mov (.tmp 0)) (.q (some 4) none (.eqS false (.tmp 3) (.const (.slice none 0 0))) .done)) false 5 [0, 4],
  .reg (.q (some 2) none (.mov (.const (.slice none 0 0))) .done) false 6 [0]
  ]
theorem c42_ok : cfgL Try.prog 42 = some (8, 7, c42.map Vc.Node.bare) := by kernel_rfl
/- (*strongbox/disk.Disk).there: entry 3 -/
def c43 : List Vc.Node := [
  .ret [.t 4],
  .ret [.t 4],
  .reg (.q (some 5) none (.mov (.tmp 1)) (.q (some 6) none (.bin .geq (.tmp 5) (.const (.int .i64 0))) (.q (some 7) none (.mov (.tmp 6)) (.q (some 8) (some (7, true)) (.mov (.tmp 1)) (.q (some 9) (some (7, true)) (.mov (.tmp 0)) (.q (some 10) (some (7, true)) (.nc (.tmp 9)) (.q (some 11) (some (7, true)) (.fadr 0 (.tmp 10)) (.q (some 12) (some (7, true)) (.ld1 (.tmp 11)) (.q (some 13) (some (7, true)) (.bin .lss (.tmp 8) (.tmp 12)) (.q (some 14) none (.pick (.tmp 7) (.tmp 13) (.const (.bool false))) (.q (some 4) none (.mov (.tmp 14)) .done))))))))))) false 1 [4],
  .reg (.q (some 4) none (.mov (.const (.bool false))) .done) false 2 [0, 1]
  ]
theorem c43_ok : cfgL Try.prog 43 = some (15, 3, c43.map Vc.Node.bare) := by kernel_rfl
/- slices.Backward[[]strongbox/disk.write,strongbox/disk.write]: entry 3 -/
def c44 : List Vc.Node := [
  .ret [.t 2],
  .ret [.t 2],
  .reg (.q (some 3) none (.mkF 59 [] [(.tmp 1)]) (.q (some 2) none (.mov (.tmp 3)) .done)) false 1 [2],
  .reg (.l (some 1) none (.box 56 (.tmp 0)) [] (.q (some 2) none (.mov (.const .nilFunc)) .done)) false 2 [1]
  ]
theorem c44_ok : cfgL Try.prog 44 = some (4, 3, c44.map Vc.Node.bare) := by kernel_rfl
/- strongbox/wire.Open: entry 3 -/
def c45 : List Vc.Node := [
  .ret [.t 2],
  .ret [.t 2],
  .reg (.q (some 3) none (.mov (.tmp 0)) (.l (some 4) none (.call 34 [(.tmp 3)]) [] (.q (some 5) none (.bld [.x 1 (.tmp 4), .z [(1, (.int .i64 0))]]) (.l (some 6) none (.box 97 (.tmp 5)) [] (.q (some 2) none (.mov (.tmp 6)) .done))))) false 1 [2],
  .reg (.q (some 2) none (.mov (.const (.pointer none))) .done) false 2 [0]
  ]
theorem c45_ok : cfgL Try.prog 45 = some (7, 3, c45.map Vc.Node.bare) := by kernel_rfl
/- (*strongbox/wire.Reader).U8: entry 3 -/
def c46 : List Vc.Node := [
  .ret [.t 2],
  .ret [.t 2],
  .reg (.q (some 3) none (.mov (.tmp 0)) (.l (some 4) none (.call 60 [(.tmp 3), (.func 61)]) [] (.q (some 2) none (.mov (.tmp 4)) .done))) false 1 [2],
  .reg (.q (some 2) none (.mov (.const (.int .u8 0))) .done) false 2 [0]
  ]
theorem c46_ok : cfgL Try.prog 46 = some (5, 3, c46.map Vc.Node.bare) := by kernel_rfl
/- (*strongbox/wire.Reader).Raw: entry 3 -/
def c47 : List Vc.Node := [
  .ret [.t 4],
  .ret [.t 4],
  .reg (.q (some 5) none (.mov (.tmp 0)) (.q (some 6) none (.mkF 64 [] [(.tmp 3)]) (.l (some 7) none (.call 63 [(.tmp 5), (.tmp 6)]) [] (.q (some 4) none (.mov (.tmp 7)) .done)))) false 1 [4],
  .reg (.l (some 3) none (.box 3 (.tmp 1)) [] (.q (some 4) none (.mov (.const (.slice none 0 0))) .done)) false 2 [0, 3]
  ]
theorem c47_ok : cfgL Try.prog 47 = some (8, 3, c47.map Vc.Node.bare) := by kernel_rfl
/- (*strongbox/wire.Reader).U32: entry 3 -/
def c48 : List Vc.Node := [
  .ret [.t 2],
  .ret [.t 2],
  .reg (.q (some 3) none (.mov (.tmp 0)) (.l (some 4) none (.call 66 [(.tmp 3), (.func 67)]) [] (.q (some 2) none (.mov (.tmp 4)) .done))) false 1 [2],
  .reg (.q (some 2) none (.mov (.const (.int .u32 0))) .done) false 2 [0]
  ]
theorem c48_ok : cfgL Try.prog 48 = some (5, 3, c48.map Vc.Node.bare) := by kernel_rfl
/- (*strongbox/wire.Reader).Err: entry 3 -/
def c49 : List Vc.Node := [
  .ret [.t 2],
  .ret [.t 2],
  .reg (.q (some 3) none (.mov (.tmp 0)) (.q (some 4) none (.nc (.tmp 3)) (.q (some 5) none (.fadr 1 (.tmp 4)) (.q (some 6) none (.ld1 (.tmp 5)) (.q (some 2) none (.mov (.tmp 6)) .done))))) false 1 [2],
  .reg (.q (some 2) none (.mov (.const (.int .i64 0))) .done) false 2 [0]
  ]
theorem c49_ok : cfgL Try.prog 49 = some (7, 3, c49.map Vc.Node.bare) := by kernel_rfl
/- (*strongbox/journal.Journal).lay: entry 21 -/
def c50 : List Vc.Node := [
  .ret [.t 8],
  .ret [.t 8],
  .reg (.q (some 8) none (.mov (.const (.int .i64 0))) .done) false 1 [8],
  .jmp 13,
  .reg (.q (some 44) none (.mov (.tmp 9)) (.q (some 45) none (.bin .add (.tmp 44) (.const (.int .i64 1))) (.q (some 9) none (.mov (.tmp 45)) .done))) false 3 [0, 9, 12],
  .reg (.q (some 61) none (.mov (.tmp 12)) (.q (some 62) none (.mov (.tmp 13)) (.q (some 63) none (.slcS 1 (.tmp 61) (some (.tmp 62)) none) (.q (some 12) none (.mov (.tmp 63)) .done)))) false 4 [0, 9, 12],
  .ret [.t 8],
  .reg (.q (some 60) none (.mov (.tmp 14)) (.q (some 8) none (.mov (.tmp 60)) .done)) false 6 [8],
  .cnd (.tmp 59) 7 5,
  .reg (.q (some 58) none (.mov (.tmp 14)) (.q (some 59) none (.bin .neq (.tmp 58) (.const (.int .i64 0))) .done)) false 8 [0, 9, 12, 13, 14, 59],
  .reg (.q (some 49) none (.mov (.tmp 0)) (.q (some 50) none (.nc (.tmp 49)) (.q (some 51) none (.fadr 0 (.tmp 50)) (.q (some 52) none (.ld1 (.tmp 51)) (.q (some 53) none (.mov (.tmp 9)) (.q (some 54) none (.mov (.tmp 12)) (.q (some 55) none (.mov (.tmp 13)) (.q (some 56) none (.slcS 1 (.tmp 54) none (some (.tmp 55))) (.l (some 57) none (.call 36 [(.tmp 52), (.tmp 53), (.tmp 56)]) [] (.q (some 14) none (.mov (.tmp 57)) .done)))))))))) true 9 [0, 9, 12, 13, 14],
  .reg (.q (some 46) none (.mov (.tmp 12)) (.q (some 47) none (.len (.tmp 46)) (.q (some 48) none (.min [(.tmp 47), (.const (.int .i64 64))]) (.q (some 13) none (.mov (.tmp 48)) .done)))) false 10 [0, 9, 12, 13],
  .cnd (.tmp 43) 11 2,
  .reg (.q (some 41) none (.mov (.tmp 12)) (.q (some 42) none (.len (.tmp 41)) (.q (some 43) none (.bin .gtr (.tmp 42) (.const (.int .i64 0))) .done))) false 12 [0, 9, 12, 43],
  .reg (.q (some 33) none (.mov (.tmp 10)) (.q (some 34) none (.mov (.tmp 2)) (.q (some 35) none (.bin .rem (.tmp 34) (.const (.int .i64 64))) (.q (some 36) none (.mov (.tmp 2)) (.q (some 37) none (.bin .rem (.tmp 36) (.const (.int .i64 64))) (.q (some 38) none (.slc3 1 (.tmp 33) none (.tmp 35) (.tmp 37)) (.q (some 39) none (.mov (.tmp 3)) (.l (some 40) none (.app 5 1 1 [(1, (.int .u8 0))] (.tmp 38) (.tmp 39)) [] (.q (some 12) none (.mov (.tmp 40)) .done))))))))) false 13 [0, 9, 12],
  .ret [.t 8],
  .reg (.q (some 32) none (.mov (.tmp 11)) (.q (some 8) none (.mov (.tmp 32)) .done)) false 15 [8],
  .cnd (.tmp 31) 16 14,
  .reg (.q (some 30) none (.mov (.tmp 11)) (.q (some 31) none (.bin .neq (.tmp 30) (.const (.int .i64 0))) .done)) false 17 [0, 2, 3, 9, 10, 11, 31],
  .reg (.q (some 22) none (.mov (.tmp 0)) (.q (some 23) none (.nc (.tmp 22)) (.q (some 24) none (.fadr 0 (.tmp 23)) (.q (some 25) none (.ld1 (.tmp 24)) (.q (some 26) none (.mov (.tmp 9)) (.l (some 27) none (.call 27 [(.tmp 25), (.tmp 26)]) [] (.q (some 21) none (.mov (.tmp 27)) (.q (some 28) none (.ext 0 (.tmp 21)) (.q (some 29) none (.ext 1 (.tmp 21)) (.q (some 10) none (.mov (.tmp 28)) (.q (some 11) none (.mov (.tmp 29)) .done))))))))))) false 18 [0, 2, 3, 9, 10, 11],
  .reg (.q (some 15) none (.mov (.tmp 0)) (.q (some 16) none (.mov (.tmp 1)) (.l (some 17) none (.call 29 [(.tmp 15), (.tmp 16)]) [] (.q (some 18) none (.mov (.tmp 2)) (.q (some 19) none (.bin .quo (.tmp 18) (.const (.int .i64 64))) (.q (some 20) none (.bin .add (.tmp 17) (.tmp 19)) (.q (some 9) none (.mov (.tmp 20)) .done))))))) false 19 [0, 2, 3, 9],
  .reg (.q (some 8) none (.mov (.const (.int .i64 0))) .done) false 20 [0, 1, 2, 3]
  ]
theorem c50_ok : cfgL Try.prog 50 = some (64, 21, c50.map Vc.Node.bare) := by kernel_rfl
/- (*strongbox/wire.Writer).U8: entry 1 -/
def c51 : List Vc.Node := [
  .ret [],
  .reg (.q (some 4) none (.mov (.tmp 0)) (.q (some 5) none (.mov (.tmp 1)) (.q (some 6) none (.cvi .u64 (.tmp 5)) (.l (some 7) none (.call 68 [(.tmp 4), (.tmp 6), (.const (.int .i64 1))]) [] .done)))) false 0 []
  ]
theorem c51_ok : cfgL Try.prog 51 = some (8, 1, c51.map Vc.Node.bare) := by kernel_rfl
/- (*strongbox/wire.Writer).U32: entry 1 -/
def c52 : List Vc.Node := [
  .ret [],
  .reg (.q (some 4) none (.mov (.tmp 0)) (.q (some 5) none (.mov (.tmp 1)) (.q (some 6) none (.cvi .u64 (.tmp 5)) (.l (some 7) none (.call 68 [(.tmp 4), (.tmp 6), (.const (.int .i64 4))]) [] .done)))) false 0 []
  ]
theorem c52_ok : cfgL Try.prog 52 = some (8, 1, c52.map Vc.Node.bare) := by kernel_rfl
/- (*strongbox/wire.Writer).Raw: entry 1 -/
def c53 : List Vc.Node := [
  .ret [],
  .reg (.q (some 4) none (.mov (.tmp 0)) (.q (some 5) none (.mov (.tmp 0)) (.q (some 6) none (.nc (.tmp 5)) (.q (some 7) none (.fadr 0 (.tmp 6)) (.q (some 8) none (.ld1 (.tmp 7)) (.q (some 9) none (.mov (.tmp 1)) (.l (some 10) none (.app 5 1 1 [(1, (.int .u8 0))] (.tmp 8) (.tmp 9)) [] (.q (some 11) none (.nc (.tmp 4)) (.q (some 12) none (.fadr 0 (.tmp 11)) (.l none none (.st1 (.tmp 12) (.tmp 10)) [] .done)))))))))) false 0 []
  ]
theorem c53_ok : cfgL Try.prog 53 = some (13, 1, c53.map Vc.Node.bare) := by kernel_rfl
/- (*strongbox/wire.Writer).Out: entry 3 -/
def c54 : List Vc.Node := [
  .ret [.t 2],
  .ret [.t 2],
  .reg (.q (some 3) none (.mov (.tmp 0)) (.q (some 4) none (.nc (.tmp 3)) (.q (some 5) none (.fadr 0 (.tmp 4)) (.q (some 6) none (.ld1 (.tmp 5)) (.l (some 7) none (.call 34 [(.tmp 6)]) [] (.q (some 2) none (.mov (.tmp 7)) .done)))))) false 1 [2],
  .reg (.q (some 2) none (.mov (.const (.slice none 0 0))) .done) false 2 [0]
  ]
theorem c54_ok : cfgL Try.prog 54 = some (8, 3, c54.map Vc.Node.bare) := by kernel_rfl
/- (*strongbox/disk.Disk).burn: entry 11 -/
def c55 : List Vc.Node := [
  .ret [.t 2],
  .ret [.t 2],
  .reg (.q (some 2) none (.mov (.const (.int .i64 0))) .done) false 1 [2],
  .ret [.t 2],
  .reg (.q (some 2) none (.mov (.const (.int .i64 10))) .done) false 3 [2],
  .cnd (.tmp 32) 4 2,
  .reg (.q (some 29) none (.mov (.tmp 0)) (.q (some 30) none (.nc (.tmp 29)) (.q (some 31) none (.fadr 5 (.tmp 30)) (.q (some 32) none (.ld1 (.tmp 31)) .done)))) false 5 [32],
  .reg (.q (some 22) none (.mov (.tmp 0)) (.q (some 23) none (.nc (.tmp 22)) (.q (some 24) none (.fadr 3 (.tmp 23)) (.q (some 25) none (.ld1 (.tmp 24)) (.q (some 26) none (.bin .sub (.tmp 25) (.const (.int .i64 1))) (.q (some 27) none (.nc (.tmp 22)) (.q (some 28) none (.fadr 3 (.tmp 27)) (.l none none (.st1 (.tmp 28) (.tmp 26)) [] .done)))))))) false 6 [0],
  .reg (.q (some 14) none (.mov (.tmp 0)) (.q (some 15) none (.mov (.tmp 0)) (.q (some 16) none (.nc (.tmp 15)) (.q (some 17) none (.fadr 3 (.tmp 16)) (.q (some 18) none (.ld1 (.tmp 17)) (.q (some 19) none (.bin .eql (.tmp 18) (.const (.int .i64 0))) (.q (some 20) none (.nc (.tmp 14)) (.q (some 21) none (.fadr 5 (.tmp 20)) (.l none none (.st1 (.tmp 21) (.tmp 19)) [] .done))))))))) false 7 [0],
  .cnd (.tmp 13) 8 6,
  .reg (.q (some 3) none (.mov (.tmp 0)) (.q (some 4) none (.nc (.tmp 3)) (.q (some 5) none (.fadr 4 (.tmp 4)) (.q (some 6) none (.ld1 (.tmp 5)) (.q (some 7) none (.mov (.tmp 6)) (.q (some 8) (some (7, true)) (.mov (.tmp 0)) (.q (some 9) (some (7, true)) (.nc (.tmp 8)) (.q (some 10) (some (7, true)) (.fadr 5 (.tmp 9)) (.q (some 11) (some (7, true)) (.ld1 (.tmp 10)) (.q (some 12) (some (7, true)) (.not (.tmp 11)) (.q (some 13) none (.pick (.tmp 7) (.tmp 12) (.const (.bool false))) .done))))))))))) false 9 [0, 13],
  .reg (.q (some 2) none (.mov (.const (.int .i64 0))) .done) false 10 [0]
  ]
theorem c55_ok : cfgL Try.prog 55 = some (33, 11, c55.map Vc.Node.bare) := by kernel_rfl
/- (*strongbox/disk.Disk).settle: entry 8 -/
def c56 : List Vc.Node := [
  .ret [],
  .reg (.q (some 26) none (.mov (.tmp 0)) (.q (some 27) none (.mov (.tmp 0)) (.q (some 28) none (.nc (.tmp 27)) (.q (some 29) none (.fadr 2 (.tmp 28)) (.q (some 30) none (.ld1 (.tmp 29)) (.q (some 31) none (.mov (.tmp 1)) (.q (some 32) none (.slcS 65 (.tmp 30) (some (.tmp 31)) none) (.q (some 33) none (.nc (.tmp 26)) (.q (some 34) none (.fadr 2 (.tmp 33)) (.l none none (.st1 (.tmp 34) (.tmp 32)) [] .done)))))))))) false 0 [],
  .jmp 7,
  .reg (.q (some 25) none (.bin .add (.tmp 13) (.const (.int .i64 1))) (.q (some 13) none (.mov (.tmp 25)) .done)) false 2 [0, 1, 11, 12, 13],
  .reg (.q (some 17) none (.mov (.tmp 0)) (.q (some 18) none (.nc (.tmp 17)) (.q (some 19) none (.fadr 1 (.tmp 18)) (.q (some 20) none (.ld1 (.tmp 19)) (.q (some 21) none (.fadr 0 (.tmp 5)) (.q (some 22) none (.ld1 (.tmp 21)) (.q (some 23) none (.fadr 1 (.tmp 5)) (.q (some 24) none (.ldN 64 (.tmp 23)) (.l none none (.mapU [(1, .i .i64)] false (.tmp 20) (.tmp 22) (.tmp 24)) [] .done))))))))) true 3 [0, 1, 11, 12, 13],
  .reg (.q (some 15) none (.iadrS 65 (.tmp 11) (.tmp 13)) (.q (some 16) none (.ldN 65 (.tmp 15)) (.l (some 5) none (.alloc 77 [(1, (.int .i64 0)), (64, (.int .u8 0))]) [] (.l none none (.stN 65 (.tmp 5) (.tmp 16)) [] .done)))) false 4 [0, 1, 5, 11, 12, 13],
  .cnd (.tmp 14) 5 1,
  .reg (.q (some 14) none (.bin .lss (.tmp 13) (.tmp 12)) .done) false 6 [0, 1, 11, 12, 13, 14],
  .reg (.q (some 6) none (.mov (.tmp 0)) (.q (some 7) none (.nc (.tmp 6)) (.q (some 8) none (.fadr 2 (.tmp 7)) (.q (some 9) none (.ld1 (.tmp 8)) (.q (some 10) none (.mov (.tmp 1)) (.q (some 11) none (.slcS 65 (.tmp 9) none (some (.tmp 10))) (.q (some 12) none (.len (.tmp 11)) (.q (some 13) none (.mov (.const (.int .i64 0))) .done)))))))) false 7 [0, 1, 11, 12, 13]
  ]
theorem c56_ok : cfgL Try.prog 56 = some (35, 8, c56.map Vc.Node.bare) := by kernel_rfl
/- strongbox/disk.modulo: entry 4 -/
def c57 : List Vc.Node := [
  .ret [.t 4],
  .ret [.t 4],
  .reg (.q (some 8) none (.mov (.tmp 0)) (.q (some 9) none (.mov (.tmp 0)) (.q (some 10) none (.neg (.tmp 9)) (.q (some 11) none (.max [(.tmp 8), (.tmp 10)]) (.q (some 4) none (.mov (.tmp 11)) .done))))) false 1 [4],
  .reg (.q (some 5) none (.mov (.tmp 0)) (.q (some 6) none (.mov (.tmp 1)) (.q (some 7) none (.bin .rem (.tmp 5) (.tmp 6)) (.q (some 0) none (.mov (.tmp 7)) .done)))) false 2 [0],
  .reg (.q (some 4) none (.mov (.const (.int .i64 0))) .done) false 3 [0, 1]
  ]
theorem c57_ok : cfgL Try.prog 57 = some (12, 4, c57.map Vc.Node.bare) := by kernel_rfl
/- slices.Backward[[]strongbox/disk.write,strongbox/disk.write]$1: entry 8 -/
def c59 : List Vc.Node := [
  .ret [],
  .jmp 7,
  .reg (.q (some 9) none (.mov (.tmp 3)) (.q (some 10) none (.bin .sub (.tmp 9) (.const (.int .i64 1))) (.q (some 3) none (.mov (.tmp 10)) .done))) false 1 [0, 1, 3],
  .ret [],
  .cnd (.tmp 18) 3 2,
  .reg (.q (some 11) none (.mov (.tmp 0)) (.q (some 12) none (.mov (.tmp 3)) (.q (some 13) none (.ld1 (.tmp 1)) (.q (some 14) none (.mov (.tmp 3)) (.q (some 15) none (.iadrS 65 (.tmp 13) (.tmp 14)) (.q (some 16) none (.ldN 65 (.tmp 15)) (.l (some 17) none (.callv (.tmp 11) [(.tmp 12), (.tmp 16)]) [] (.q (some 18) none (.not (.tmp 17)) .done)))))))) false 4 [0, 1, 3, 18],
  .cnd (.tmp 8) 5 0,
  .reg (.q (some 7) none (.mov (.tmp 3)) (.q (some 8) none (.bin .geq (.tmp 7) (.const (.int .i64 0))) .done)) false 6 [0, 1, 3, 8],
  .reg (.q (some 4) none (.ld1 (.tmp 1)) (.q (some 5) none (.len (.tmp 4)) (.q (some 6) none (.bin .sub (.tmp 5) (.const (.int .i64 1))) (.q (some 3) none (.mov (.tmp 6)) .done)))) false 7 [0, 1, 3]
  ]
theorem c59_ok : cfgL Try.prog 59 = some (19, 8, c59.map Vc.Node.bare) := by kernel_rfl
/- strongbox/wire.try[byte]: entry 8 -/
def c60 : List Vc.Node := [
  .ret [.c1 4],
  .ret [.c1 4],
  .reg (.q (some 16) none (.mov (.tmp 1)) (.q (some 17) none (.ld1 (.tmp 2)) (.l (some 18) none (.callv (.tmp 16) [(.tmp 17)]) [] (.l none none (.st1 (.tmp 4) (.tmp 18)) [] .done)))) false 1 [4],
  .ret [.c1 4],
  .cnd (.tmp 15) 3 2,
  .reg (.q (some 11) none (.ld1 (.tmp 2)) (.q (some 12) none (.nc (.tmp 11)) (.q (some 13) none (.fadr 1 (.tmp 12)) (.q (some 14) none (.ld1 (.tmp 13)) (.q (some 15) none (.bin .neq (.tmp 14) (.const (.int .i64 0))) .done))))) false 4 [1, 2, 4, 15],
  .dfr 10 69 [(.tmp 5), (.tmp 2), (.tmp 4)] 5 [1, 2, 4],
  .reg (.q (some 6) none (.ld1 (.tmp 2)) (.q (some 7) none (.nc (.tmp 6)) (.q (some 8) none (.fadr 0 (.tmp 7)) (.q (some 9) none (.ld1 (.tmp 8)) (.l (some 5) none (.alloc 30 [(1, (.slice none 0 0))]) [] (.l none none (.st1 (.tmp 5) (.tmp 9)) [] .done)))))) false 6 [1, 2, 4, 5],
  .reg (.l (some 2) none (.box 82 (.tmp 0)) [] (.l (some 4) none (.alloc 5 [(1, (.int .u8 0))]) [] .done)) false 7 [1, 2, 4]
  ]
theorem c60_ok : cfgL Try.prog 60 = some (19, 8, c60.map Vc.Node.bare) := by kernel_rfl
/- (*strongbox/wire.Reader).U8$1: entry 3 -/
def c61 : List Vc.Node := [
  .ret [.t 2],
  .ret [.t 2],
  .reg (.q (some 3) none (.mov (.tmp 0)) (.l (some 4) none (.call 62 [(.tmp 3), (.const (.int .i64 1))]) [] (.q (some 5) none (.cvi .u8 (.tmp 4)) (.q (some 2) none (.mov (.tmp 5)) .done)))) false 1 [2],
  .reg (.q (some 2) none (.mov (.const (.int .u8 0))) .done) false 2 [0]
  ]
theorem c61_ok : cfgL Try.prog 61 = some (6, 3, c61.map Vc.Node.bare) := by kernel_rfl
/- (*strongbox/wire.Reader).number: entry 11 -/
def c62 : List Vc.Node := [
  .ret [.t 4],
  .ret [.t 4],
  .reg (.q (some 25) none (.mov (.tmp 5)) (.q (some 4) none (.mov (.tmp 25)) .done)) false 1 [4],
  .jmp 8,
  .reg (.q (some 24) none (.bin .add (.tmp 12) (.const (.int .i64 1))) (.q (some 12) none (.mov (.tmp 24)) .done)) false 3 [5, 10, 11, 12],
  .reg (.q (some 17) none (.mov (.tmp 5)) (.q (some 18) none (.mov (.tmp 7)) (.q (some 19) none (.cvi .u64 (.tmp 18)) (.q (some 20) none (.mov (.tmp 6)) (.q (some 21) none (.bin .mul (.const (.int .i64 8)) (.tmp 20)) (.q (some 22) none (.bin .shl (.tmp 19) (.tmp 21)) (.q (some 23) none (.bin .or (.tmp 17) (.tmp 22)) (.q (some 5) none (.mov (.tmp 23)) .done)))))))) false 4 [5, 10, 11, 12],
  .reg (.q (some 14) none (.mov (.tmp 12)) (.q (some 15) none (.iadrS 1 (.tmp 10) (.tmp 12)) (.q (some 16) none (.ld1 (.tmp 15)) (.q (some 6) none (.mov (.tmp 14)) (.q (some 7) none (.mov (.tmp 16)) .done))))) false 5 [5, 6, 7, 10, 11, 12],
  .cnd (.tmp 13) 6 2,
  .reg (.q (some 13) none (.bin .lss (.tmp 12) (.tmp 11)) .done) false 7 [5, 10, 11, 12, 13],
  .reg (.q (some 8) none (.mov (.tmp 0)) (.q (some 9) none (.mov (.tmp 1)) (.l (some 10) none (.call 65 [(.tmp 8), (.tmp 9)]) [] (.q (some 11) none (.len (.tmp 10)) (.q (some 12) none (.mov (.const (.int .i64 0))) .done))))) false 8 [5, 10, 11, 12],
  .reg (.q (some 5) none (.mov (.const (.int .u64 0))) .done) false 9 [0, 1, 5],
  .reg (.q (some 4) none (.mov (.const (.int .u64 0))) .done) false 10 [0, 1]
  ]
theorem c62_ok : cfgL Try.prog 62 = some (26, 11, c62.map Vc.Node.bare) := by kernel_rfl
/- strongbox/wire.try[[]byte]: entry 8 -/
def c63 : List Vc.Node := [
  .ret [.c1 4],
  .ret [.c1 4],
  .reg (.q (some 16) none (.mov (.tmp 1)) (.q (some 17) none (.ld1 (.tmp 2)) (.l (some 18) none (.callv (.tmp 16) [(.tmp 17)]) [] (.l none none (.st1 (.tmp 4) (.tmp 18)) [] .done)))) false 1 [4],
  .ret [.c1 4],
  .cnd (.tmp 15) 3 2,
  .reg (.q (some 11) none (.ld1 (.tmp 2)) (.q (some 12) none (.nc (.tmp 11)) (.q (some 13) none (.fadr 1 (.tmp 12)) (.q (some 14) none (.ld1 (.tmp 13)) (.q (some 15) none (.bin .neq (.tmp 14) (.const (.int .i64 0))) .done))))) false 4 [1, 2, 4, 15],
  .dfr 10 70 [(.tmp 5), (.tmp 2), (.tmp 4)] 5 [1, 2, 4],
  .reg (.q (some 6) none (.ld1 (.tmp 2)) (.q (some 7) none (.nc (.tmp 6)) (.q (some 8) none (.fadr 0 (.tmp 7)) (.q (some 9) none (.ld1 (.tmp 8)) (.l (some 5) none (.alloc 30 [(1, (.slice none 0 0))]) [] (.l none none (.st1 (.tmp 5) (.tmp 9)) [] .done)))))) false 6 [1, 2, 4, 5],
  .reg (.l (some 2) none (.box 82 (.tmp 0)) [] (.l (some 4) none (.alloc 30 [(1, (.slice none 0 0))]) [] .done)) false 7 [1, 2, 4]
  ]
theorem c63_ok : cfgL Try.prog 63 = some (19, 8, c63.map Vc.Node.bare) := by kernel_rfl
/- (*strongbox/wire.Reader).Raw$1: entry 3 -/
def c64 : List Vc.Node := [
  .ret [.t 3],
  .ret [.t 3],
  .reg (.q (some 4) none (.mov (.tmp 0)) (.q (some 5) none (.ld1 (.tmp 1)) (.q (some 6) none (.max [(.tmp 5), (.const (.int .i64 0))]) (.l (some 7) none (.call 65 [(.tmp 4), (.tmp 6)]) [] (.l (some 8) none (.call 34 [(.tmp 7)]) [] (.q (some 3) none (.mov (.tmp 8)) .done)))))) false 1 [3],
  .reg (.q (some 3) none (.mov (.const (.slice none 0 0))) .done) false 2 [0, 1]
  ]
theorem c64_ok : cfgL Try.prog 64 = some (9, 3, c64.map Vc.Node.bare) := by kernel_rfl
/- (*strongbox/wire.Reader).take: entry 8 -/
def c65 : List Vc.Node := [
  .ret [.t 4],
  .ret [.t 4],
  .reg (.q (some 29) none (.mov (.tmp 5)) (.q (some 4) none (.mov (.tmp 29)) .done)) false 1 [4],
  .reg (.q (some 20) none (.mov (.tmp 0)) (.q (some 21) none (.mov (.tmp 0)) (.q (some 22) none (.nc (.tmp 21)) (.q (some 23) none (.fadr 0 (.tmp 22)) (.q (some 24) none (.ld1 (.tmp 23)) (.q (some 25) none (.mov (.tmp 1)) (.q (some 26) none (.slcS 1 (.tmp 24) (some (.tmp 25)) none) (.q (some 27) none (.nc (.tmp 20)) (.q (some 28) none (.fadr 0 (.tmp 27)) (.l none none (.st1 (.tmp 28) (.tmp 26)) [] .done)))))))))) false 2 [5],
  .reg (.q (some 14) none (.mov (.tmp 0)) (.q (some 15) none (.nc (.tmp 14)) (.q (some 16) none (.fadr 0 (.tmp 15)) (.q (some 17) none (.ld1 (.tmp 16)) (.q (some 18) none (.mov (.tmp 1)) (.q (some 19) none (.slcS 1 (.tmp 17) none (some (.tmp 18))) (.q (some 5) none (.mov (.tmp 19)) .done))))))) false 3 [0, 1, 5],
  .reg (.q (some 13) none (.mif 108 (.const (.int .i64 4))) (.l none none (.pan (.tmp 13)) [] .done)) false 4 [0, 1],
  .cnd (.tmp 12) 5 4,
  .reg (.q (some 6) none (.mov (.tmp 1)) (.q (some 7) none (.mov (.tmp 0)) (.q (some 8) none (.nc (.tmp 7)) (.q (some 9) none (.fadr 0 (.tmp 8)) (.q (some 10) none (.ld1 (.tmp 9)) (.q (some 11) none (.len (.tmp 10)) (.q (some 12) none (.bin .gtr (.tmp 6) (.tmp 11)) .done))))))) false 6 [0, 1, 12],
  .reg (.q (some 4) none (.mov (.const (.slice none 0 0))) .done) false 7 [0, 1]
  ]
theorem c65_ok : cfgL Try.prog 65 = some (30, 8, c65.map Vc.Node.bare) := by kernel_rfl
/- strongbox/wire.try[uint32]: entry 8 -/
def c66 : List Vc.Node := [
  .ret [.c1 4],
  .ret [.c1 4],
  .reg (.q (some 16) none (.mov (.tmp 1)) (.q (some 17) none (.ld1 (.tmp 2)) (.l (some 18) none (.callv (.tmp 16) [(.tmp 17)]) [] (.l none none (.st1 (.tmp 4) (.tmp 18)) [] .done)))) false 1 [4],
  .ret [.c1 4],
  .cnd (.tmp 15) 3 2,
  .reg (.q (some 11) none (.ld1 (.tmp 2)) (.q (some 12) none (.nc (.tmp 11)) (.q (some 13) none (.fadr 1 (.tmp 12)) (.q (some 14) none (.ld1 (.tmp 13)) (.q (some 15) none (.bin .neq (.tmp 14) (.const (.int .i64 0))) .done))))) false 4 [1, 2, 4, 15],
  .dfr 10 71 [(.tmp 5), (.tmp 2), (.tmp 4)] 5 [1, 2, 4],
  .reg (.q (some 6) none (.ld1 (.tmp 2)) (.q (some 7) none (.nc (.tmp 6)) (.q (some 8) none (.fadr 0 (.tmp 7)) (.q (some 9) none (.ld1 (.tmp 8)) (.l (some 5) none (.alloc 30 [(1, (.slice none 0 0))]) [] (.l none none (.st1 (.tmp 5) (.tmp 9)) [] .done)))))) false 6 [1, 2, 4, 5],
  .reg (.l (some 2) none (.box 82 (.tmp 0)) [] (.l (some 4) none (.alloc 86 [(1, (.int .u32 0))]) [] .done)) false 7 [1, 2, 4]
  ]
theorem c66_ok : cfgL Try.prog 66 = some (19, 8, c66.map Vc.Node.bare) := by kernel_rfl
/- (*strongbox/wire.Reader).U32$1: entry 3 -/
def c67 : List Vc.Node := [
  .ret [.t 2],
  .ret [.t 2],
  .reg (.q (some 3) none (.mov (.tmp 0)) (.l (some 4) none (.call 62 [(.tmp 3), (.const (.int .i64 4))]) [] (.q (some 5) none (.cvi .u32 (.tmp 4)) (.q (some 2) none (.mov (.tmp 5)) .done)))) false 1 [2],
  .reg (.q (some 2) none (.mov (.const (.int .u32 0))) .done) false 2 [0]
  ]
theorem c67_ok : cfgL Try.prog 67 = some (6, 3, c67.map Vc.Node.bare) := by kernel_rfl
/- (*strongbox/wire.Writer).number: entry 7 -/
def c68 : List Vc.Node := [
  .ret [],
  .jmp 6,
  .reg (.q (some 22) none (.bin .add (.tmp 7) (.const (.int .i64 1))) (.q (some 7) none (.mov (.tmp 22)) .done)) false 1 [0, 1, 6, 7],
  .reg (.q (some 20) none (.mov (.tmp 1)) (.q (some 21) none (.bin .shr (.tmp 20) (.const (.int .u64 8))) (.q (some 1) none (.mov (.tmp 21)) .done))) false 2 [0, 1, 6, 7],
  .reg (.q (some 9) none (.mov (.tmp 0)) (.q (some 10) none (.mov (.tmp 0)) (.q (some 11) none (.nc (.tmp 10)) (.q (some 12) none (.fadr 0 (.tmp 11)) (.q (some 13) none (.ld1 (.tmp 12)) (.q (some 14) none (.mov (.tmp 1)) (.q (some 15) none (.cvi .u8 (.tmp 14)) (.l (some 16) none (.bldS 5 1 [(.tmp 15)]) [] (.l (some 17) none (.app 5 1 1 [(1, (.int .u8 0))] (.tmp 13) (.tmp 16)) [] (.q (some 18) none (.nc (.tmp 9)) (.q (some 19) none (.fadr 0 (.tmp 18)) (.l none none (.st1 (.tmp 19) (.tmp 17)) [] .done)))))))))))) false 3 [0, 1, 6, 7],
  .cnd (.tmp 8) 4 0,
  .reg (.q (some 8) none (.bin .lss (.tmp 7) (.tmp 6)) .done) false 5 [0, 1, 6, 7, 8],
  .reg (.q (some 6) none (.mov (.tmp 2)) (.q (some 7) none (.mov (.const (.int .i64 0))) .done)) false 6 [0, 1, 6, 7]
  ]
theorem c68_ok : cfgL Try.prog 68 = some (23, 7, c68.map Vc.Node.bare) := by kernel_rfl
/- strongbox/wire.try[byte]$1: entry 9 -/
def c69 : List Vc.Node := [
  .ret [],
  .reg (.q (some 18) none (.ld1 (.tmp 1)) (.q (some 19) none (.ld1 (.tmp 1)) (.q (some 20) none (.ld1 (.tmp 0)) (.q (some 21) none (.mov (.tmp 4)) (.q (some 22) none (.mov (.tmp 6)) (.q (some 23) none (.nc (.tmp 18)) (.q (some 24) none (.fadr 0 (.tmp 23)) (.l none none (.st1 (.tmp 24) (.tmp 20)) [] (.q (some 25) none (.nc (.tmp 19)) (.q (some 26) none (.fadr 1 (.tmp 25)) (.l none none (.st1 (.tmp 26) (.tmp 21)) [] (.l none none (.st1 (.tmp 2) (.tmp 22)) [] .done)))))))))))) false 0 [],
  .reg (.q (some 6) none (.mov (.const (.int .u8 0))) .done) false 1 [0, 1, 2, 4, 6],
  .reg (.q (some 17) none (.mov (.tmp 3)) (.l none none (.pan (.tmp 17)) [] .done)) false 2 [0, 1, 2, 4],
  .cnd (.tmp 16) 3 2,
  .reg (.q (some 15) none (.mov (.tmp 5)) (.q (some 16) none (.not (.tmp 15)) .done)) false 4 [0, 1, 2, 3, 4, 16],
  .reg (.q (some 11) none (.mov (.tmp 3)) (.q (some 12) none (.tas 108 .i64 (.tmp 11)) (.q (some 10) none (.mov (.tmp 12)) (.q (some 13) none (.ext 0 (.tmp 10)) (.q (some 14) none (.ext 1 (.tmp 10)) (.q (some 4) none (.mov (.tmp 13)) (.q (some 5) none (.mov (.tmp 14)) .done))))))) false 5 [0, 1, 2, 3, 4, 5],
  .cnd (.tmp 9) 6 0,
  .reg (.q (some 8) none (.mov (.tmp 3)) (.q (some 9) none (.eqI true (.tmp 8) (.const .nilIface)) .done)) false 7 [0, 1, 2, 3, 9],
  .rcv 7 3 8 [0, 1, 2, 3]
  ]
theorem c69_ok : cfgL Try.prog 69 = some (27, 9, c69.map Vc.Node.bare) := by kernel_rfl
/- strongbox/wire.try[[]byte]$1: entry 9 -/
def c70 : List Vc.Node := [
  .ret [],
  .reg (.q (some 18) none (.ld1 (.tmp 1)) (.q (some 19) none (.ld1 (.tmp 1)) (.q (some 20) none (.ld1 (.tmp 0)) (.q (some 21) none (.mov (.tmp 4)) (.q (some 22) none (.mov (.tmp 6)) (.q (some 23) none (.nc (.tmp 18)) (.q (some 24) none (.fadr 0 (.tmp 23)) (.l none none (.st1 (.tmp 24) (.tmp 20)) [] (.q (some 25) none (.nc (.tmp 19)) (.q (some 26) none (.fadr 1 (.tmp 25)) (.l none none (.st1 (.tmp 26) (.tmp 21)) [] (.l none none (.st1 (.tmp 2) (.tmp 22)) [] .done)))))))))))) false 0 [],
  .reg (.q (some 6) none (.mov (.const (.slice none 0 0))) .done) false 1 [0, 1, 2, 4, 6],
  .reg (.q (some 17) none (.mov (.tmp 3)) (.l none none (.pan (.tmp 17)) [] .done)) false 2 [0, 1, 2, 4],
  .cnd (.tmp 16) 3 2,
  .reg (.q (some 15) none (.mov (.tmp 5)) (.q (some 16) none (.not (.tmp 15)) .done)) false 4 [0, 1, 2, 3, 4, 16],
  .reg (.q (some 11) none (.mov (.tmp 3)) (.q (some 12) none (.tas 108 .i64 (.tmp 11)) (.q (some 10) none (.mov (.tmp 12)) (.q (some 13) none (.ext 0 (.tmp 10)) (.q (some 14) none (.ext 1 (.tmp 10)) (.q (some 4) none (.mov (.tmp 13)) (.q (some 5) none (.mov (.tmp 14)) .done))))))) false 5 [0, 1, 2, 3, 4, 5],
  .cnd (.tmp 9) 6 0,
  .reg (.q (some 8) none (.mov (.tmp 3)) (.q (some 9) none (.eqI true (.tmp 8) (.const .nilIface)) .done)) false 7 [0, 1, 2, 3, 9],
  .rcv 7 3 8 [0, 1, 2, 3]
  ]
theorem c70_ok : cfgL Try.prog 70 = some (27, 9, c70.map Vc.Node.bare) := by kernel_rfl
/- strongbox/wire.try[uint32]$1: entry 9 -/
def c71 : List Vc.Node := [
  .ret [],
  .reg (.q (some 18) none (.ld1 (.tmp 1)) (.q (some 19) none (.ld1 (.tmp 1)) (.q (some 20) none (.ld1 (.tmp 0)) (.q (some 21) none (.mov (.tmp 4)) (.q (some 22) none (.mov (.tmp 6)) (.q (some 23) none (.nc (.tmp 18)) (.q (some 24) none (.fadr 0 (.tmp 23)) (.l none none (.st1 (.tmp 24) (.tmp 20)) [] (.q (some 25) none (.nc (.tmp 19)) (.q (some 26) none (.fadr 1 (.tmp 25)) (.l none none (.st1 (.tmp 26) (.tmp 21)) [] (.l none none (.st1 (.tmp 2) (.tmp 22)) [] .done)))))))))))) false 0 [],
  .reg (.q (some 6) none (.mov (.const (.int .u32 0))) .done) false 1 [0, 1, 2, 4, 6],
  .reg (.q (some 17) none (.mov (.tmp 3)) (.l none none (.pan (.tmp 17)) [] .done)) false 2 [0, 1, 2, 4],
  .cnd (.tmp 16) 3 2,
  .reg (.q (some 15) none (.mov (.tmp 5)) (.q (some 16) none (.not (.tmp 15)) .done)) false 4 [0, 1, 2, 3, 4, 16],
  .reg (.q (some 11) none (.mov (.tmp 3)) (.q (some 12) none (.tas 108 .i64 (.tmp 11)) (.q (some 10) none (.mov (.tmp 12)) (.q (some 13) none (.ext 0 (.tmp 10)) (.q (some 14) none (.ext 1 (.tmp 10)) (.q (some 4) none (.mov (.tmp 13)) (.q (some 5) none (.mov (.tmp 14)) .done))))))) false 5 [0, 1, 2, 3, 4, 5],
  .cnd (.tmp 9) 6 0,
  .reg (.q (some 8) none (.mov (.tmp 3)) (.q (some 9) none (.eqI true (.tmp 8) (.const .nilIface)) .done)) false 7 [0, 1, 2, 3, 9],
  .rcv 7 3 8 [0, 1, 2, 3]
  ]
theorem c71_ok : cfgL Try.prog 71 = some (27, 9, c71.map Vc.Node.bare) := by kernel_rfl
end Go.Proofs
