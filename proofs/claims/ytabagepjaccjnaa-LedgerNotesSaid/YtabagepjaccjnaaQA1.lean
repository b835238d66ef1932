/- Laws that the last text of this claim uses, part 1: written for it, merged by program. -/
import Derived.KernelRfl
import Derived.Laws.Externs
import Derived.SizedLaws
import Derived.Test.YtabagepjaccjnaaProg
import Derived.Test.YtabagepjaccjnaaVcF
import Derived.Test.YtabagepjaccjnaaVcJ
import Derived.Test.YtabagepjaccjnaaVcM
import Derived.Test.YtabagepjaccjnaaVcR
set_option linter.unusedSimpArgs false
set_option linter.unusedVariables false
set_option linter.constructorNameAsVariable false
namespace Go.Proofs
open Go.Vc
/- strongbox/strongboxlaw22.LedgerNotes: entry 30 -/
def c3 : List Vc.Node := [
  .ret [.t 4],
  .ret [.t 4],
  .reg (.q (some 100) none (.mov (.tmp 5)) (.q (some 101) none (.fadr 0 (.tmp 2)) (.q (some 102) none (.ld1 (.tmp 101)) (.l (some 103) none (.call 8 [(.tmp 100), (.tmp 102), (.const (.string ⟨#[]⟩))]) [] (.q (some 104) none (.bin .eql (.tmp 103) (.const (.int .i64 0))) (.q (some 105) none (.mov (.tmp 104)) (.q (some 106) (some (105, true)) (.mov (.tmp 5)) (.q (some 107) (some (105, true)) (.fadr 0 (.tmp 2)) (.q (some 108) (some (105, true)) (.ld1 (.tmp 107)) (.l (some 109) (some (105, true)) (.call 10 [(.tmp 106), (.tmp 108)]) [] (.q (some 110) (some (105, true)) (.bin .eql (.tmp 109) (.const (.string ⟨#[]⟩))) (.q (some 111) none (.pick (.tmp 105) (.tmp 110) (.const (.bool false))) (.q (some 112) none (.mov (.tmp 111)) (.q (some 113) (some (112, true)) (.mov (.tmp 5)) (.q (some 114) (some (112, true)) (.fadr 2 (.tmp 2)) (.q (some 115) (some (112, true)) (.ldN 33 (.tmp 114)) (.l (some 116) (some (112, true)) (.call 12 [(.tmp 113), (.tmp 115)]) [] (.q (some 117) (some (112, true)) (.not (.tmp 116)) (.q (some 118) none (.pick (.tmp 112) (.tmp 117) (.const (.bool false))) (.q (some 119) none (.mov (.tmp 118)) (.q (some 120) (some (119, true)) (.mov (.tmp 5)) (.q (some 121) (some (119, true)) (.mov (.tmp 7)) (.l (some 122) (some (119, true)) (.call 9 [(.tmp 120), (.tmp 121)]) [] (.q (some 123) none (.pick (.tmp 119) (.tmp 122) (.const (.bool false))) (.q (some 4) none (.mov (.tmp 123)) .done))))))))))))))))))))))))) false 1 [4],
  .reg (.q (some 96) none (.mov (.tmp 5)) (.q (some 97) none (.fadr 2 (.tmp 2)) (.q (some 98) none (.ldN 33 (.tmp 97)) (.l (some 99) none (.call 11 [(.tmp 96), (.tmp 98), (.const (.bool false))]) [] .done)))) false 2 [2, 5, 7],
  .ret [.t 4],
  .reg (.q (some 4) none (.mov (.const (.bool false))) .done) false 4 [4],
  .cnd (.tmp 95) 5 3,
  .reg (.q (some 80) none (.mov (.tmp 5)) (.q (some 81) none (.fadr 2 (.tmp 2)) (.q (some 82) none (.ldN 33 (.tmp 81)) (.l (some 83) none (.call 12 [(.tmp 80), (.tmp 82)]) [] (.q (some 84) none (.not (.tmp 83)) (.q (some 85) none (.mov (.tmp 84)) (.q (some 86) (some (85, false)) (.mov (.tmp 7)) (.q (some 87) (some (85, false)) (.fadr 2 (.tmp 2)) (.q (some 88) (some (85, false)) (.ldN 33 (.tmp 87)) (.l (some 89) (some (85, false)) (.call 12 [(.tmp 86), (.tmp 88)]) [] (.q (some 90) none (.pick (.tmp 85) (.const (.bool true)) (.tmp 89)) (.q (some 91) none (.mov (.tmp 90)) (.q (some 92) (some (91, false)) (.mov (.tmp 5)) (.q (some 93) (some (91, false)) (.mov (.tmp 7)) (.l (some 94) (some (91, false)) (.call 9 [(.tmp 92), (.tmp 93)]) [] (.q (some 95) none (.pick (.tmp 91) (.const (.bool true)) (.tmp 94)) .done)))))))))))))))) false 6 [2, 5, 7, 95],
  .reg (.q (some 76) none (.mov (.tmp 5)) (.q (some 77) none (.fadr 2 (.tmp 2)) (.q (some 78) none (.ldN 33 (.tmp 77)) (.l (some 79) none (.call 11 [(.tmp 76), (.tmp 78), (.const (.bool true))]) [] .done)))) false 7 [2, 5, 7],
  .ret [.t 4],
  .reg (.q (some 4) none (.mov (.const (.bool false))) .done) false 9 [4],
  .cnd (.tmp 75) 10 8,
  .reg (.q (some 56) none (.mov (.tmp 8)) (.q (some 57) none (.bin .neq (.tmp 56) (.const (.int .i64 0))) (.q (some 58) none (.mov (.tmp 57)) (.q (some 59) (some (58, false)) (.mov (.tmp 5)) (.q (some 60) (some (58, false)) (.fadr 0 (.tmp 2)) (.q (some 61) (some (58, false)) (.ld1 (.tmp 60)) (.q (some 63) (some (58, false)) (.fadr 1 (.tmp 2)) (.q (some 64) (some (58, false)) (.ld1 (.tmp 63)) (.l (some 62) (some (58, false)) (.call 10 [(.tmp 59), (.tmp 61)]) [⟨64, (some (58, false)), (.ld1 (.tmp 63))⟩] (.q (some 65) (some (58, false)) (.bin .neq (.tmp 62) (.tmp 64)) (.q (some 66) none (.pick (.tmp 58) (.const (.bool true)) (.tmp 65)) (.q (some 67) none (.mov (.tmp 66)) (.q (some 68) (some (67, false)) (.mov (.tmp 5)) (.q (some 69) (some (67, false)) (.mov (.tmp 7)) (.q (some 71) (some (67, false)) (.fadr 1 (.tmp 2)) (.q (some 72) (some (67, false)) (.ld1 (.tmp 71)) (.q (some 73) (some (67, false)) (.bin .eql (.tmp 72) (.const (.string ⟨#[]⟩))) (.l (some 70) (some (67, false)) (.call 9 [(.tmp 68), (.tmp 69)]) [⟨72, (some (67, false)), (.ld1 (.tmp 71))⟩] (.q (some 74) (some (67, false)) (.eqB true (.tmp 70) (.tmp 73)) (.q (some 75) none (.pick (.tmp 67) (.const (.bool true)) (.tmp 74)) .done)))))))))))))))))))) true 11 [2, 5, 7, 75],
  .ret [.t 4],
  .reg (.q (some 42) none (.mov (.tmp 8)) (.q (some 43) none (.bin .eql (.tmp 42) (.const (.int .i64 2))) (.q (some 44) none (.mov (.tmp 43)) (.q (some 45) (some (44, true)) (.mov (.tmp 5)) (.q (some 46) (some (44, true)) (.mov (.tmp 7)) (.l (some 47) (some (44, true)) (.call 9 [(.tmp 45), (.tmp 46)]) [] (.q (some 48) none (.pick (.tmp 44) (.tmp 47) (.const (.bool false))) (.q (some 49) none (.mov (.tmp 48)) (.q (some 50) (some (49, true)) (.mov (.tmp 5)) (.q (some 51) (some (49, true)) (.fadr 0 (.tmp 2)) (.q (some 52) (some (49, true)) (.ld1 (.tmp 51)) (.l (some 53) (some (49, true)) (.call 10 [(.tmp 50), (.tmp 52)]) [] (.q (some 54) (some (49, true)) (.bin .eql (.tmp 53) (.const (.string ⟨#[]⟩))) (.q (some 55) none (.pick (.tmp 49) (.tmp 54) (.const (.bool false))) (.q (some 4) none (.mov (.tmp 55)) .done))))))))))))))) false 13 [4],
  .cnd (.tmp 41) 14 12,
  .reg (.q (some 38) none (.fadr 1 (.tmp 2)) (.q (some 39) none (.ld1 (.tmp 38)) (.q (some 40) none (.lenT (.tmp 39)) (.q (some 41) none (.bin .gtr (.tmp 40) (.const (.int .i64 100))) .done)))) false 15 [2, 5, 7, 8, 41],
  .reg (.q (some 32) none (.mov (.tmp 5)) (.q (some 33) none (.fadr 0 (.tmp 2)) (.q (some 34) none (.ld1 (.tmp 33)) (.q (some 35) none (.fadr 1 (.tmp 2)) (.q (some 36) none (.ld1 (.tmp 35)) (.l (some 37) none (.call 8 [(.tmp 32), (.tmp 34), (.tmp 36)]) [] (.q (some 8) none (.mov (.tmp 37)) .done))))))) false 16 [2, 5, 7, 8],
  .reg (.q (some 30) none (.mov (.tmp 5)) (.l (some 31) none (.call 7 [(.tmp 30)]) [] (.q (some 7) none (.mov (.tmp 31)) .done))) false 17 [2, 5, 7],
  .jmp 23,
  .reg (.q (some 20) none (.mov (.tmp 6)) (.q (some 21) none (.bin .add (.tmp 20) (.const (.int .i64 1))) (.q (some 6) none (.mov (.tmp 21)) .done))) false 19 [1, 2, 5, 6],
  .reg (.q (some 22) none (.mov (.tmp 5)) (.q (some 23) none (.mov (.tmp 6)) (.q (some 24) none (.bin .rem (.tmp 23) (.const (.int .i64 3))) (.q (some 25) none (.cvi .u32 (.tmp 24)) (.q (some 26) none (.bld [.x 1 (.const (.int .i64 1)), .z [(1, (.slice none 0 0))]]) (.l (some 27) none (.bldS 36 2 [(.tmp 26)]) [] (.l (some 28) none (.bldx 40 [3, 2] [(.tmp 25), (.tmp 27)]) [] (.l (some 29) none (.call 6 [(.tmp 22), (.tmp 28)]) [] .done)))))))) false 20 [1, 2, 5, 6],
  .cnd (.tmp 19) 21 18,
  .reg (.q (some 12) none (.mov (.tmp 6)) (.q (some 13) none (.mov (.tmp 1)) (.q (some 14) none (.len (.tmp 13)) (.q (some 15) none (.bin .lss (.tmp 12) (.tmp 14)) (.q (some 16) none (.mov (.tmp 15)) (.q (some 17) (some (16, true)) (.mov (.tmp 6)) (.q (some 18) (some (16, true)) (.bin .lss (.tmp 17) (.const (.int .i64 5))) (.q (some 19) none (.pick (.tmp 16) (.tmp 18) (.const (.bool false))) .done)))))))) false 22 [1, 2, 5, 6, 19],
  .reg (.q (some 6) none (.mov (.const (.int .i64 0))) .done) false 23 [1, 2, 5, 6],
  .reg (.l (some 11) none (.call 5 []) [] (.q (some 5) none (.mov (.tmp 11)) .done)) false 24 [1, 2, 5],
  .ret [.t 4],
  .reg (.q (some 4) none (.mov (.const (.bool false))) .done) false 26 [4],
  .cnd (.tmp 10) 27 25,
  .reg (.l (some 9) none (.call 4 []) [] (.q (some 10) none (.not (.tmp 9)) .done)) false 28 [1, 2, 10],
  .reg (.l (some 2) none (.box 29 (.tmp 0)) [] (.q (some 4) none (.mov (.const (.bool false))) .done)) false 29 [1, 2]
  ]
theorem c3_ok : cfgL Try.prog 3 = some (124, 30, c3.map Vc.Node.bare) := by kernel_rfl
/- strongbox/strongboxlaw22.awake: entry 9 -/
def c4 : List Vc.Node := [
  .ret [.t 0],
  .ret [.t 0],
  .reg (.q (some 25) none (.mov (.tmp 1)) (.l (some 26) none (.bldS 5 1 [(.const (.int .u8 1))]) [] (.l (some 27) none (.call 10 [(.tmp 25), (.tmp 26)]) [] (.q (some 28) none (.bin .eql (.tmp 27) (.const (.string ⟨#[120]⟩))) (.q (some 0) none (.mov (.tmp 28)) .done))))) false 1 [0],
  .reg (.q (some 22) none (.mov (.tmp 1)) (.l (some 23) none (.bldS 5 1 [(.const (.int .u8 1))]) [] (.l (some 24) none (.call 8 [(.tmp 22), (.tmp 23), (.const (.string ⟨#[120]⟩))]) [] .done))) false 2 [1],
  .ret [.t 0],
  .reg (.q (some 0) none (.mov (.const (.bool false))) .done) false 4 [0],
  .cnd (.tmp 21) 5 3,
  .reg (.q (some 3) none (.mov (.tmp 1)) (.q (some 4) none (.eqP false (.tmp 3) (.const (.pointer none))) (.q (some 5) none (.mov (.tmp 4)) (.q (some 6) (some (5, false)) (.mov (.tmp 1)) (.q (some 7) (some (5, false)) (.bld [.z [(1, (.int .i32 0)), (2, (.slice none 0 0))], .x 1 (.const (.int .u32 3))]) (.l (some 8) (some (5, false)) (.call 6 [(.tmp 6), (.tmp 7)]) [] (.q (some 9) (some (5, false)) (.not (.tmp 8)) (.q (some 10) none (.pick (.tmp 5) (.const (.bool true)) (.tmp 9)) (.q (some 11) none (.mov (.tmp 10)) (.q (some 12) (some (11, false)) (.mov (.tmp 1)) (.q (some 13) (some (11, false)) (.bld [.z [(1, (.int .i32 0)), (2, (.slice none 0 0))], .x 1 (.const (.int .u32 3))]) (.l (some 14) (some (11, false)) (.call 6 [(.tmp 12), (.tmp 13)]) [] (.q (some 15) none (.pick (.tmp 11) (.const (.bool true)) (.tmp 14)) (.q (some 16) none (.mov (.tmp 15)) (.q (some 17) (some (16, false)) (.mov (.tmp 1)) (.l (some 18) (some (16, false)) (.call 13 [(.tmp 17)]) [] (.q (some 19) (some (16, false)) (.len (.tmp 18)) (.q (some 20) (some (16, false)) (.bin .neq (.tmp 19) (.const (.int .i64 1))) (.q (some 21) none (.pick (.tmp 16) (.const (.bool true)) (.tmp 20)) .done))))))))))))))))))) false 6 [1, 21],
  .reg (.l (some 2) none (.call 5 []) [] (.q (some 1) none (.mov (.tmp 2)) .done)) false 7 [1],
  .reg (.q (some 0) none (.mov (.const (.bool false))) .done) false 8 []
  ]
theorem c4_ok : cfgL Try.prog 4 = some (29, 9, c4.map Vc.Node.bare) := by kernel_rfl
/- strongbox/ledger.New: entry 3 -/
def c5 : List Vc.Node := [
  .ret [.t 0],
  .ret [.t 0],
  .reg (.l (some 1) none .mkM [] (.l (some 2) none .mkM [] (.l (some 3) none .mkM [] (.q (some 4) none (.bld [.z [(1, (.slice none 0 0))], .x 1 (.tmp 1), .x 1 (.tmp 2), .x 1 (.tmp 3)]) (.l (some 5) none (.box 55 (.tmp 4)) [] (.q (some 0) none (.mov (.tmp 5)) .done)))))) false 1 [0],
  .reg (.q (some 0) none (.mov (.const (.pointer none))) .done) false 2 []
  ]
theorem c5_ok : cfgL Try.prog 5 = some (6, 3, c5.map Vc.Node.bare) := by kernel_rfl
/- (*strongbox/ledger.Ledger).Add: entry 11 -/
def c6 : List Vc.Node := [
  .ret [.t 4],
  .ret [.t 4],
  .reg (.q (some 4) none (.mov (.const (.bool true))) .done) false 1 [4],
  .reg (.q (some 29) none (.mov (.tmp 0)) (.q (some 30) none (.mov (.tmp 0)) (.q (some 31) none (.nc (.tmp 30)) (.q (some 32) none (.fadr 0 (.tmp 31)) (.q (some 33) none (.ld1 (.tmp 32)) (.q (some 34) none (.ldN 32 (.tmp 5)) (.l (some 35) none (.bldS 24 32 [(.tmp 34)]) [⟨33, none, (.ld1 (.tmp 32))⟩] (.l (some 36) none (.app 24 32 32 [(32, (.int .u8 0))] (.tmp 33) (.tmp 35)) [] (.q (some 37) none (.nc (.tmp 29)) (.q (some 38) none (.fadr 0 (.tmp 37)) (.l none none (.st1 (.tmp 38) (.tmp 36)) [] .done))))))))))) true 2 [],
  .reg (.q (some 20) none (.mov (.tmp 0)) (.q (some 21) none (.nc (.tmp 20)) (.q (some 22) none (.fadr 1 (.tmp 21)) (.q (some 23) none (.ld1 (.tmp 22)) (.q (some 24) none (.ldN 32 (.tmp 5)) (.q (some 25) none (.ldN 4 (.tmp 3)) (.q (some 27) none (.ldN 32 (.tmp 5)) (.l (some 26) none (.call 15 [(.tmp 25)]) [⟨27, none, (.ldN 32 (.tmp 5))⟩, ⟨24, none, (.ldN 32 (.tmp 5))⟩, ⟨23, none, (.ld1 (.tmp 22))⟩] (.q (some 28) none (.bld [.x 4 (.tmp 26), .x 32 (.tmp 27), .z [(1, (.bool false))]]) (.l none none (.mapU [(32, .i .u8)] true (.tmp 23) (.tmp 24) (.tmp 28)) [] .done)))))))))) true 3 [0, 5],
  .ret [.t 4],
  .reg (.q (some 4) none (.mov (.const (.bool false))) .done) false 5 [4],
  .cnd (.tmp 19) 6 4,
  .reg (.q (some 19) none (.mov (.tmp 7)) .done) false 7 [0, 3, 5, 19],
  .reg (.q (some 11) none (.mov (.tmp 0)) (.q (some 12) none (.nc (.tmp 11)) (.q (some 13) none (.fadr 1 (.tmp 12)) (.q (some 14) none (.ld1 (.tmp 13)) (.q (some 15) none (.ldN 32 (.tmp 5)) (.q (some 16) none (.lkp [(32, .i .u8)] true true [(1, (.int .i32 0)), (2, (.slice none 0 0)), (1, (.int .u32 0)), (32, (.int .u8 0)), (1, (.bool false))] true (.tmp 14) (.tmp 15)) (.q (some 10) none (.mov (.tmp 16)) (.q (some 17) none (.ext 0 (.tmp 10)) (.q (some 18) none (.ext 1 (.tmp 10)) (.l (some 6) none (.alloc 58 [(1, (.int .i32 0)), (2, (.slice none 0 0)), (1, (.int .u32 0)), (32, (.int .u8 0)), (1, (.bool false))]) [⟨16, none, (.lkp [(32, .i .u8)] true true [(1, (.int .i32 0)), (2, (.slice none 0 0)), (1, (.int .u32 0)), (32, (.int .u8 0)), (1, (.bool false))] true (.tmp 14) (.tmp 15))⟩, ⟨15, none, (.ldN 32 (.tmp 5))⟩, ⟨14, none, (.ld1 (.tmp 13))⟩] (.l none none (.stN 37 (.tmp 6) (.tmp 17)) [] (.q (some 7) none (.mov (.tmp 18)) .done)))))))))))) true 8 [0, 3, 5, 7],
  .reg (.q (some 8) none (.ldN 4 (.tmp 3)) (.l (some 9) none (.call 14 [(.tmp 8)]) [] (.l (some 5) none (.alloc 24 [(32, (.int .u8 0))]) [] (.l none none (.stN 32 (.tmp 5) (.tmp 9)) [] .done)))) false 9 [0, 3, 5],
  .reg (.l (some 3) none (.box 40 (.tmp 1)) [] (.q (some 4) none (.mov (.const (.bool false))) .done)) false 10 [0, 3]
  ]
theorem c6_ok : cfgL Try.prog 6 = some (39, 11, c6.map Vc.Node.bare) := by kernel_rfl
/- (*strongbox/ledger.Ledger).Clone: entry 3 -/
def c7 : List Vc.Node := [
  .ret [.t 2],
  .ret [.t 2],
  .reg (.q (some 3) none (.mov (.tmp 0)) (.q (some 4) none (.nc (.tmp 3)) (.q (some 5) none (.fadr 0 (.tmp 4)) (.q (some 6) none (.ld1 (.tmp 5)) (.q (some 8) none (.mov (.tmp 0)) (.q (some 9) none (.nc (.tmp 8)) (.q (some 10) none (.fadr 1 (.tmp 9)) (.q (some 11) none (.ld1 (.tmp 10)) (.q (some 13) none (.mov (.tmp 0)) (.q (some 14) none (.nc (.tmp 13)) (.q (some 15) none (.fadr 2 (.tmp 14)) (.q (some 16) none (.ld1 (.tmp 15)) (.q (some 18) none (.mov (.tmp 0)) (.q (some 19) none (.nc (.tmp 18)) (.q (some 20) none (.fadr 3 (.tmp 19)) (.q (some 21) none (.ld1 (.tmp 20)) (.l (some 7) none (.call 16 [(.tmp 6)]) [⟨21, none, (.ld1 (.tmp 20))⟩, ⟨16, none, (.ld1 (.tmp 15))⟩, ⟨11, none, (.ld1 (.tmp 10))⟩] (.l (some 12) none (.call 17 [(.tmp 11)]) [⟨21, none, (.ld1 (.tmp 20))⟩, ⟨16, none, (.ld1 (.tmp 15))⟩] (.l (some 17) none (.call 18 [(.tmp 16)]) [⟨21, none, (.ld1 (.tmp 20))⟩] (.l (some 22) none (.call 19 [(.tmp 21)]) [] (.q (some 23) none (.bld [.x 1 (.tmp 7), .x 1 (.tmp 12), .x 1 (.tmp 17), .x 1 (.tmp 22)]) (.l (some 24) none (.box 55 (.tmp 23)) [] (.q (some 2) none (.mov (.tmp 24)) .done))))))))))))))))))))))) true 1 [2],
  .reg (.q (some 2) none (.mov (.const (.pointer none))) .done) false 2 [0]
  ]
theorem c7_ok : cfgL Try.prog 7 = some (25, 3, c7.map Vc.Node.bare) := by kernel_rfl
/- (*strongbox/ledger.Ledger).Label: entry 11 -/
def c8 : List Vc.Node := [
  .ret [.t 6],
  .ret [.t 6],
  .reg (.q (some 6) none (.mov (.const (.int .i64 0))) .done) false 1 [6],
  .ret [.t 6],
  .reg (.q (some 6) none (.mov (.const (.int .i64 2))) .done) false 3 [6],
  .reg (.q (some 21) none (.mov (.tmp 0)) (.q (some 22) none (.nc (.tmp 21)) (.q (some 23) none (.fadr 3 (.tmp 22)) (.q (some 24) none (.ld1 (.tmp 23)) (.q (some 25) none (.mov (.tmp 1)) (.q (some 26) none (.b2s (.tmp 25)) (.l none none (.mapD [(1, .st)] false (.tmp 24) (.tmp 26)) [] .done))))))) true 2 [],
  .reg (.q (some 7) none (.mov (.tmp 0)) (.q (some 8) none (.nc (.tmp 7)) (.q (some 9) none (.fadr 3 (.tmp 8)) (.q (some 10) none (.ld1 (.tmp 9)) (.q (some 11) none (.mov (.tmp 1)) (.q (some 12) none (.b2s (.tmp 11)) (.q (some 13) none (.mov (.tmp 2)) (.l none none (.mapU [(1, .st)] false (.tmp 10) (.tmp 12) (.tmp 13)) [] .done)))))))) true 2 [],
  .cnd (.tmp 18) 5 6,
  .reg (.q (some 19) none (.mov (.tmp 2)) (.q (some 20) none (.bin .eql (.tmp 19) (.const (.string ⟨#[]⟩))) (.q (some 18) none (.mov (.tmp 20)) .done))) false 7 [0, 1, 2, 18],
  .cnd (.tmp 14) 4 8,
  .reg (.q (some 15) none (.mov (.tmp 2)) (.q (some 16) none (.lenT (.tmp 15)) (.q (some 17) none (.bin .gtr (.tmp 16) (.const (.int .i64 100))) (.q (some 14) none (.mov (.tmp 17)) .done)))) false 9 [0, 1, 2, 14],
  .reg (.q (some 6) none (.mov (.const (.int .i64 0))) .done) false 10 [0, 1, 2]
  ]
theorem c8_ok : cfgL Try.prog 8 = some (27, 11, c8.map Vc.Node.bare) := by kernel_rfl
/- (*strongbox/ledger.Ledger).Same: entry 3 -/
def c9 : List Vc.Node := [
  .ret [.t 4],
  .ret [.t 4],
  .reg (.q (some 5) none (.mov (.tmp 0)) (.q (some 6) none (.nc (.tmp 5)) (.q (some 7) none (.fadr 0 (.tmp 6)) (.q (some 8) none (.ld1 (.tmp 7)) (.q (some 9) none (.mov (.tmp 1)) (.q (some 10) none (.nc (.tmp 9)) (.q (some 11) none (.fadr 0 (.tmp 10)) (.q (some 12) none (.ld1 (.tmp 11)) (.l (some 13) none (.call 20 [(.tmp 8), (.tmp 12)]) [] (.q (some 14) none (.mov (.tmp 13)) (.q (some 15) (some (14, true)) (.mov (.tmp 0)) (.q (some 16) (some (14, true)) (.nc (.tmp 15)) (.q (some 17) (some (14, true)) (.fadr 1 (.tmp 16)) (.q (some 18) (some (14, true)) (.ld1 (.tmp 17)) (.q (some 19) (some (14, true)) (.mov (.tmp 1)) (.q (some 20) (some (14, true)) (.nc (.tmp 19)) (.q (some 21) (some (14, true)) (.fadr 1 (.tmp 20)) (.q (some 22) (some (14, true)) (.ld1 (.tmp 21)) (.l (some 23) (some (14, true)) (.call 21 [(.tmp 18), (.tmp 22), (.func 22)]) [] (.q (some 24) none (.pick (.tmp 14) (.tmp 23) (.const (.bool false))) (.q (some 25) none (.mov (.tmp 24)) (.q (some 26) (some (25, true)) (.mov (.tmp 0)) (.q (some 27) (some (25, true)) (.nc (.tmp 26)) (.q (some 28) (some (25, true)) (.fadr 2 (.tmp 27)) (.q (some 29) (some (25, true)) (.ld1 (.tmp 28)) (.q (some 30) (some (25, true)) (.mov (.tmp 1)) (.q (some 31) (some (25, true)) (.nc (.tmp 30)) (.q (some 32) (some (25, true)) (.fadr 2 (.tmp 31)) (.q (some 33) (some (25, true)) (.ld1 (.tmp 32)) (.l (some 34) (some (25, true)) (.call 23 [(.tmp 29), (.tmp 33)]) [] (.q (some 35) none (.pick (.tmp 25) (.tmp 34) (.const (.bool false))) (.q (some 36) none (.mov (.tmp 35)) (.q (some 37) (some (36, true)) (.mov (.tmp 0)) (.q (some 38) (some (36, true)) (.nc (.tmp 37)) (.q (some 39) (some (36, true)) (.fadr 3 (.tmp 38)) (.q (some 40) (some (36, true)) (.ld1 (.tmp 39)) (.q (some 41) (some (36, true)) (.mov (.tmp 1)) (.q (some 42) (some (36, true)) (.nc (.tmp 41)) (.q (some 43) (some (36, true)) (.fadr 3 (.tmp 42)) (.q (some 44) (some (36, true)) (.ld1 (.tmp 43)) (.l (some 45) (some (36, true)) (.call 24 [(.tmp 40), (.tmp 44)]) [] (.q (some 46) none (.pick (.tmp 36) (.tmp 45) (.const (.bool false))) (.q (some 4) none (.mov (.tmp 46)) .done))))))))))))))))))))))))))))))))))))))))))) true 1 [4],
  .reg (.q (some 4) none (.mov (.const (.bool false))) .done) false 2 [0, 1]
  ]
theorem c9_ok : cfgL Try.prog 9 = some (47, 3, c9.map Vc.Node.bare) := by kernel_rfl
/- (*strongbox/ledger.Ledger).Labeled: entry 3 -/
def c10 : List Vc.Node := [
  .ret [.t 4],
  .ret [.t 4],
  .reg (.q (some 5) none (.mov (.tmp 0)) (.q (some 6) none (.nc (.tmp 5)) (.q (some 7) none (.fadr 3 (.tmp 6)) (.q (some 8) none (.ld1 (.tmp 7)) (.q (some 9) none (.mov (.tmp 1)) (.q (some 10) none (.b2s (.tmp 9)) (.q (some 11) none (.lkp [(1, .st)] false false [(1, (.string ⟨#[]⟩))] false (.tmp 8) (.tmp 10)) (.q (some 4) none (.mov (.tmp 11)) .done)))))))) true 1 [4],
  .reg (.q (some 4) none (.mov (.const (.string ⟨#[]⟩))) .done) false 2 [0, 1]
  ]
theorem c10_ok : cfgL Try.prog 10 = some (12, 3, c10.map Vc.Node.bare) := by kernel_rfl
/- (*strongbox/ledger.Ledger).Lock: entry 5 -/
def c11 : List Vc.Node := [
  .ret [],
  .reg (.q (some 7) none (.mov (.tmp 0)) (.q (some 8) none (.nc (.tmp 7)) (.q (some 9) none (.fadr 2 (.tmp 8)) (.q (some 10) none (.ld1 (.tmp 9)) (.q (some 11) none (.ldN 33 (.tmp 4)) (.l none none (.mapU [(32, .i .u8), (1, .i .u32)] true (.tmp 10) (.tmp 11) (.const (.bool true))) [] .done)))))) true 0 [],
  .reg (.q (some 12) none (.mov (.tmp 0)) (.q (some 13) none (.nc (.tmp 12)) (.q (some 14) none (.fadr 2 (.tmp 13)) (.q (some 15) none (.ld1 (.tmp 14)) (.q (some 16) none (.ldN 33 (.tmp 4)) (.l none none (.mapD [(32, .i .u8), (1, .i .u32)] true (.tmp 15) (.tmp 16)) [] .done)))))) true 0 [],
  .cnd (.tmp 6) 1 2,
  .reg (.q (some 6) none (.mov (.tmp 2)) .done) false 3 [0, 4, 6],
  .reg (.l (some 4) none (.box 27 (.tmp 1)) [] .done) false 4 [0, 2, 4]
  ]
theorem c11_ok : cfgL Try.prog 11 = some (17, 5, c11.map Vc.Node.bare) := by kernel_rfl
/- (*strongbox/ledger.Ledger).Locked: entry 3 -/
def c12 : List Vc.Node := [
  .ret [.t 4],
  .ret [.t 4],
  .reg (.q (some 5) none (.mov (.tmp 0)) (.q (some 6) none (.nc (.tmp 5)) (.q (some 7) none (.fadr 2 (.tmp 6)) (.q (some 8) none (.ld1 (.tmp 7)) (.q (some 9) none (.ldN 33 (.tmp 3)) (.q (some 10) none (.lkp [(32, .i .u8), (1, .i .u32)] true false [(1, (.bool false))] false (.tmp 8) (.tmp 9)) (.q (some 4) none (.mov (.tmp 10)) .done))))))) true 1 [4],
  .reg (.l (some 3) none (.box 27 (.tmp 1)) [] (.q (some 4) none (.mov (.const (.bool false))) .done)) false 2 [0, 3]
  ]
theorem c12_ok : cfgL Try.prog 12 = some (11, 3, c12.map Vc.Node.bare) := by kernel_rfl
/- (*strongbox/ledger.Ledger).List: entry 11 -/
def c13 : List Vc.Node := [
  .ret [.t 2],
  .ret [.t 2],
  .reg (.q (some 27) none (.mov (.tmp 3)) (.q (some 2) none (.mov (.tmp 27)) .done)) false 1 [2],
  .jmp 8,
  .reg (.q (some 26) none (.bin .add (.tmp 11) (.const (.int .i64 1))) (.q (some 11) none (.mov (.tmp 26)) .done)) false 3 [0, 3, 9, 10, 11],
  .reg (.q (some 15) none (.mov (.tmp 3)) (.q (some 16) none (.mov (.tmp 0)) (.q (some 17) none (.nc (.tmp 16)) (.q (some 18) none (.fadr 1 (.tmp 17)) (.q (some 19) none (.ld1 (.tmp 18)) (.q (some 20) none (.ldN 32 (.tmp 5)) (.q (some 21) none (.lkp [(32, .i .u8)] true true [(1, (.int .i32 0)), (2, (.slice none 0 0)), (1, (.int .u32 0)), (32, (.int .u8 0)), (1, (.bool false))] false (.tmp 19) (.tmp 20)) (.q (some 22) none (.fld 0 (some 4) (.tmp 21)) (.l (some 23) none (.call 15 [(.tmp 22)]) [] (.l (some 24) none (.bldS 40 4 [(.tmp 23)]) [] (.l (some 25) none (.app 40 4 64 [(1, (.int .i32 0)), (2, (.slice none 0 0)), (1, (.int .u32 0))] (.tmp 15) (.tmp 24)) [] (.q (some 3) none (.mov (.tmp 25)) .done)))))))))))) true 4 [0, 3, 9, 10, 11],
  .reg (.q (some 13) none (.iadrS 32 (.tmp 9) (.tmp 11)) (.q (some 14) none (.ldN 32 (.tmp 13)) (.l (some 5) none (.alloc 24 [(32, (.int .u8 0))]) [] (.l none none (.stN 32 (.tmp 5) (.tmp 14)) [] .done)))) false 5 [0, 3, 5, 9, 10, 11],
  .cnd (.tmp 12) 6 2,
  .reg (.q (some 12) none (.bin .lss (.tmp 11) (.tmp 10)) .done) false 7 [0, 3, 9, 10, 11, 12],
  .reg (.q (some 6) none (.mov (.tmp 0)) (.q (some 7) none (.nc (.tmp 6)) (.q (some 8) none (.fadr 0 (.tmp 7)) (.q (some 9) none (.ld1 (.tmp 8)) (.q (some 10) none (.len (.tmp 9)) (.q (some 11) none (.mov (.const (.int .i64 0))) .done)))))) false 8 [0, 3, 9, 10, 11],
  .reg (.q (some 3) none (.mov (.const (.slice none 0 0))) .done) false 9 [0, 3],
  .reg (.q (some 2) none (.mov (.const (.slice none 0 0))) .done) false 10 [0]
  ]
theorem c13_ok : cfgL Try.prog 13 = some (28, 11, c13.map Vc.Node.bare) := by kernel_rfl
/- strongbox/tx.Id: entry 3 -/
def c14 : List Vc.Node := [
  .ret [.cN 2 32],
  .ret [.cN 2 32],
  .reg (.q (some 3) none (.ldN 4 (.tmp 1)) (.l (some 4) none (.call 26 [(.tmp 3), (.const (.bool false))]) [] (.l (some 5) none (.call 25 [(.tmp 4)]) [] (.l none none (.stN 32 (.tmp 2) (.tmp 5)) [] .done)))) false 1 [2],
  .reg (.l (some 1) none (.box 40 (.tmp 0)) [] (.l (some 2) none (.alloc 24 [(32, (.int .u8 0))]) [] .done)) false 2 [1, 2]
  ]
theorem c14_ok : cfgL Try.prog 14 = some (6, 3, c14.map Vc.Node.bare) := by kernel_rfl
/- strongbox/tx.Clone: entry 26 -/
def c15 : List Vc.Node := [
  .ret [.cN 2 4],
  .ret [.cN 2 4],
  .reg (.q (some 84) none (.ldN 4 (.tmp 1)) (.l none none (.stN 4 (.tmp 2) (.tmp 84)) [] .done)) false 1 [2],
  .jmp 8,
  .reg (.q (some 83) none (.bin .add (.tmp 68) (.const (.int .i64 1))) (.q (some 68) none (.mov (.tmp 83)) .done)) false 3 [1, 2, 67, 68],
  .reg (.q (some 71) none (.fadr 2 (.tmp 1)) (.q (some 72) none (.ld1 (.tmp 71)) (.q (some 73) none (.mov (.tmp 6)) (.q (some 74) none (.fadr 2 (.tmp 1)) (.q (some 75) none (.ld1 (.tmp 74)) (.q (some 76) none (.mov (.tmp 6)) (.q (some 77) none (.iadrS 2 (.tmp 75) (.tmp 76)) (.q (some 78) none (.fadr 1 (.tmp 77)) (.q (some 79) none (.ld1 (.tmp 78)) (.l (some 80) none (.call 29 [(.tmp 79)]) [⟨72, none, (.ld1 (.tmp 71))⟩] (.q (some 81) none (.iadrS 2 (.tmp 72) (.tmp 73)) (.q (some 82) none (.fadr 1 (.tmp 81)) (.l none none (.st1 (.tmp 82) (.tmp 80)) [] .done))))))))))))) true 4 [1, 2, 67, 68],
  .reg (.q (some 70) none (.mov (.tmp 68)) (.q (some 6) none (.mov (.tmp 70)) .done)) false 5 [1, 2, 6, 67, 68],
  .cnd (.tmp 69) 6 2,
  .reg (.q (some 69) none (.bin .lss (.tmp 68) (.tmp 67)) .done) false 7 [1, 2, 67, 68, 69],
  .reg (.q (some 65) none (.fadr 2 (.tmp 1)) (.q (some 66) none (.ld1 (.tmp 65)) (.q (some 67) none (.len (.tmp 66)) (.q (some 68) none (.mov (.const (.int .i64 0))) .done)))) false 8 [1, 2, 67, 68],
  .jmp 23,
  .reg (.q (some 64) none (.bin .add (.tmp 18) (.const (.int .i64 1))) (.q (some 18) none (.mov (.tmp 64)) .done)) false 10 [1, 2, 17, 18],
  .jmp 17,
  .reg (.q (some 63) none (.bin .add (.tmp 46) (.const (.int .i64 1))) (.q (some 46) none (.mov (.tmp 63)) .done)) false 12 [1, 2, 4, 17, 18, 45, 46],
  .reg (.q (some 49) none (.mov (.tmp 4)) (.q (some 50) none (.nc (.tmp 49)) (.q (some 51) none (.fadr 35 (.tmp 50)) (.q (some 52) none (.ld1 (.tmp 51)) (.q (some 53) none (.mov (.tmp 5)) (.q (some 54) none (.mov (.tmp 4)) (.q (some 55) none (.nc (.tmp 54)) (.q (some 56) none (.fadr 35 (.tmp 55)) (.q (some 57) none (.ld1 (.tmp 56)) (.q (some 58) none (.mov (.tmp 5)) (.q (some 59) none (.iadrS 1 (.tmp 57) (.tmp 58)) (.q (some 60) none (.ld1 (.tmp 59)) (.l (some 61) none (.call 29 [(.tmp 60)]) [⟨52, none, (.ld1 (.tmp 51))⟩] (.q (some 62) none (.iadrS 1 (.tmp 52) (.tmp 53)) (.l none none (.st1 (.tmp 62) (.tmp 61)) [] .done))))))))))))))) true 13 [1, 2, 4, 17, 18, 45, 46],
  .reg (.q (some 48) none (.mov (.tmp 46)) (.q (some 5) none (.mov (.tmp 48)) .done)) false 14 [1, 2, 4, 5, 17, 18, 45, 46],
  .cnd (.tmp 47) 15 11,
  .reg (.q (some 47) none (.bin .lss (.tmp 46) (.tmp 45)) .done) false 16 [1, 2, 4, 17, 18, 45, 46, 47],
  .reg (.q (some 41) none (.mov (.tmp 4)) (.q (some 42) none (.nc (.tmp 41)) (.q (some 43) none (.fadr 35 (.tmp 42)) (.q (some 44) none (.ld1 (.tmp 43)) (.q (some 45) none (.len (.tmp 44)) (.q (some 46) none (.mov (.const (.int .i64 0))) .done)))))) false 17 [1, 2, 4, 17, 18, 45, 46],
  .reg (.q (some 25) none (.mov (.tmp 4)) (.q (some 26) none (.mov (.tmp 4)) (.q (some 27) none (.mov (.tmp 4)) (.q (some 28) none (.nc (.tmp 27)) (.q (some 29) none (.fadr 33 (.tmp 28)) (.q (some 30) none (.ld1 (.tmp 29)) (.q (some 32) none (.mov (.tmp 4)) (.q (some 33) none (.nc (.tmp 32)) (.q (some 34) none (.fadr 35 (.tmp 33)) (.q (some 35) none (.ld1 (.tmp 34)) (.l (some 31) none (.call 29 [(.tmp 30)]) [⟨35, none, (.ld1 (.tmp 34))⟩] (.l (some 36) none (.call 30 [(.tmp 35)]) [] (.q (some 37) none (.nc (.tmp 25)) (.q (some 38) none (.fadr 33 (.tmp 37)) (.l none none (.st1 (.tmp 38) (.tmp 31)) [] (.q (some 39) none (.nc (.tmp 26)) (.q (some 40) none (.fadr 35 (.tmp 39)) (.l none none (.st1 (.tmp 40) (.tmp 36)) [] .done)))))))))))))))))) true 18 [1, 2, 4, 17, 18],
  .reg (.q (some 21) none (.fadr 1 (.tmp 1)) (.q (some 22) none (.ld1 (.tmp 21)) (.q (some 23) none (.mov (.tmp 3)) (.q (some 24) none (.iadrS 36 (.tmp 22) (.tmp 23)) (.q (some 4) none (.mov (.tmp 24)) .done))))) false 19 [1, 2, 4, 17, 18],
  .reg (.q (some 20) none (.mov (.tmp 18)) (.q (some 3) none (.mov (.tmp 20)) .done)) false 20 [1, 2, 3, 17, 18],
  .cnd (.tmp 19) 21 9,
  .reg (.q (some 19) none (.bin .lss (.tmp 18) (.tmp 17)) .done) false 22 [1, 2, 17, 18, 19],
  .reg (.q (some 15) none (.fadr 1 (.tmp 1)) (.q (some 16) none (.ld1 (.tmp 15)) (.q (some 17) none (.len (.tmp 16)) (.q (some 18) none (.mov (.const (.int .i64 0))) .done)))) false 23 [1, 2, 17, 18],
  .reg (.q (some 7) none (.fadr 1 (.tmp 1)) (.q (some 8) none (.ld1 (.tmp 7)) (.q (some 10) none (.fadr 2 (.tmp 1)) (.q (some 11) none (.ld1 (.tmp 10)) (.l (some 9) none (.call 27 [(.tmp 8)]) [⟨11, none, (.ld1 (.tmp 10))⟩] (.q (some 13) none (.fadr 1 (.tmp 1)) (.l (some 12) none (.call 28 [(.tmp 11)]) [] (.l none none (.st1 (.tmp 13) (.tmp 9)) [] (.q (some 14) none (.fadr 2 (.tmp 1)) (.l none none (.st1 (.tmp 14) (.tmp 12)) [] .done)))))))))) true 24 [1, 2],
  .reg (.l (some 1) none (.box 40 (.tmp 0)) [] (.l (some 2) none (.alloc 40 [(1, (.int .i32 0)), (2, (.slice none 0 0)), (1, (.int .u32 0))]) [] .done)) false 25 [1, 2]
  ]
theorem c15_ok : cfgL Try.prog 15 = some (85, 26, c15.map Vc.Node.bare) := by kernel_rfl
/- slices.Clone[[]strongbox/api.Hash,strongbox/api.Hash]: entry 7 -/
def c16 : List Vc.Node := [
  .ret [.t 2],
  .ret [.t 2],
  .reg (.l (some 5) none (.bldS 24 32 []) [] (.q (some 6) none (.mov (.tmp 0)) (.l (some 7) none (.app 24 32 32 [(32, (.int .u8 0))] (.tmp 5) (.tmp 6)) [] (.q (some 2) none (.mov (.tmp 7)) .done)))) false 1 [2],
  .ret [.t 2],
  .reg (.q (some 2) none (.mov (.const (.slice none 0 0))) .done) false 3 [2],
  .cnd (.tmp 4) 4 2,
  .reg (.q (some 3) none (.mov (.tmp 0)) (.q (some 4) none (.eqS false (.tmp 3) (.const (.slice none 0 0))) .done)) false 5 [0, 4],
  .reg (.q (some 2) none (.mov (.const (.slice none 0 0))) .done) false 6 [0]
  ]
theorem c16_ok : cfgL Try.prog 16 = some (8, 7, c16.map Vc.Node.bare) := by kernel_rfl
/- maps.Clone[map[strongbox/api.Hash]strongbox/ledger.record,strongbox/api.Hash,strongbox/ledger.record]: entry 7 -/
def c17 : List Vc.Node := [
  .ret [.t 2],
  .ret [.t 2],
  .reg (.q (some 5) none (.mov (.tmp 0)) (.q (some 6) none (.mif 50 (.tmp 5)) (.l (some 7) none (.callx 31 [(.tmp 6)]) [] (.q (some 8) none (.ta 50 (.tmp 7)) (.q (some 2) none (.mov (.tmp 8)) .done))))) false 1 [2],
  .ret [.t 2],
  .reg (.q (some 2) none (.mov (.const (.map none))) .done) false 3 [2],
  .cnd (.tmp 4) 4 2,
  .reg (.q (some 3) none (.mov (.tmp 0)) (.q (some 4) none (.eqM false (.tmp 3) (.const (.map none))) .done)) false 5 [0, 4],
  .reg (.q (some 2) none (.mov (.const (.map none))) .done) false 6 [0]
  ]
theorem c17_ok : cfgL Try.prog 17 = some (9, 7, c17.map Vc.Node.bare) := by kernel_rfl
/- maps.Clone[map[strongbox/api.OutPoint]bool,strongbox/api.OutPoint,bool]: entry 7 -/
def c18 : List Vc.Node := [
  .ret [.t 2],
  .ret [.t 2],
  .reg (.q (some 5) none (.mov (.tmp 0)) (.q (some 6) none (.mif 51 (.tmp 5)) (.l (some 7) none (.callx 31 [(.tmp 6)]) [] (.q (some 8) none (.ta 51 (.tmp 7)) (.q (some 2) none (.mov (.tmp 8)) .done))))) false 1 [2],
  .ret [.t 2],
  .reg (.q (some 2) none (.mov (.const (.map none))) .done) false 3 [2],
  .cnd (.tmp 4) 4 2,
  .reg (.q (some 3) none (.mov (.tmp 0)) (.q (some 4) none (.eqM false (.tmp 3) (.const (.map none))) .done)) false 5 [0, 4],
  .reg (.q (some 2) none (.mov (.const (.map none))) .done) false 6 [0]
  ]
theorem c18_ok : cfgL Try.prog 18 = some (9, 7, c18.map Vc.Node.bare) := by kernel_rfl
/- maps.Clone[map[string]string,string,string]: entry 7 -/
def c19 : List Vc.Node := [
  .ret [.t 2],
  .ret [.t 2],
  .reg (.q (some 5) none (.mov (.tmp 0)) (.q (some 6) none (.mif 52 (.tmp 5)) (.l (some 7) none (.callx 31 [(.tmp 6)]) [] (.q (some 8) none (.ta 52 (.tmp 7)) (.q (some 2) none (.mov (.tmp 8)) .done))))) false 1 [2],
  .ret [.t 2],
  .reg (.q (some 2) none (.mov (.const (.map none))) .done) false 3 [2],
  .cnd (.tmp 4) 4 2,
  .reg (.q (some 3) none (.mov (.tmp 0)) (.q (some 4) none (.eqM false (.tmp 3) (.const (.map none))) .done)) false 5 [0, 4],
  .reg (.q (some 2) none (.mov (.const (.map none))) .done) false 6 [0]
  ]
theorem c19_ok : cfgL Try.prog 19 = some (9, 7, c19.map Vc.Node.bare) := by kernel_rfl
/- slices.Equal[[]strongbox/api.Hash,strongbox/api.Hash]: entry 17 -/
def c20 : List Vc.Node := [
  .ret [.t 4],
  .ret [.t 4],
  .reg (.q (some 4) none (.mov (.const (.bool true))) .done) false 1 [4],
  .jmp 11,
  .reg (.q (some 25) none (.bin .add (.tmp 13) (.const (.int .i64 1))) (.q (some 13) none (.mov (.tmp 25)) .done)) false 3 [0, 1, 12, 13],
  .ret [.t 4],
  .reg (.q (some 4) none (.mov (.const (.bool false))) .done) false 5 [4],
  .cnd (.tmp 24) 6 4,
  .reg (.q (some 16) none (.mov (.tmp 0)) (.q (some 17) none (.mov (.tmp 5)) (.q (some 18) none (.iadrS 32 (.tmp 16) (.tmp 17)) (.q (some 19) none (.ldN 32 (.tmp 18)) (.q (some 20) none (.mov (.tmp 1)) (.q (some 21) none (.mov (.tmp 5)) (.q (some 22) none (.iadrS 32 (.tmp 20) (.tmp 21)) (.q (some 23) none (.ldN 32 (.tmp 22)) (.q (some 24) none (.eqA true [(32, .i .u8)] (.tmp 19) (.tmp 23)) .done))))))))) true 7 [0, 1, 12, 13, 24],
  .reg (.q (some 15) none (.mov (.tmp 13)) (.q (some 5) none (.mov (.tmp 15)) .done)) false 8 [0, 1, 5, 12, 13],
  .cnd (.tmp 14) 9 2,
  .reg (.q (some 14) none (.bin .lss (.tmp 13) (.tmp 12)) .done) false 10 [0, 1, 12, 13, 14],
  .reg (.q (some 11) none (.mov (.tmp 0)) (.q (some 12) none (.len (.tmp 11)) (.q (some 13) none (.mov (.const (.int .i64 0))) .done))) false 11 [0, 1, 12, 13],
  .ret [.t 4],
  .reg (.q (some 4) none (.mov (.const (.bool false))) .done) false 13 [4],
  .cnd (.tmp 10) 14 12,
  .reg (.q (some 6) none (.mov (.tmp 0)) (.q (some 7) none (.len (.tmp 6)) (.q (some 8) none (.mov (.tmp 1)) (.q (some 9) none (.len (.tmp 8)) (.q (some 10) none (.bin .neq (.tmp 7) (.tmp 9)) .done))))) false 15 [0, 1, 10],
  .reg (.q (some 4) none (.mov (.const (.bool false))) .done) false 16 [0, 1]
  ]
theorem c20_ok : cfgL Try.prog 20 = some (26, 17, c20.map Vc.Node.bare) := by kernel_rfl
/- maps.EqualFunc[map[strongbox/api.Hash]strongbox/ledger.record,map[strongbox/api.Hash]strongbox/ledger.record,strongbox/api.Hash,strongbox/ledger.record,strongbox/ledger.record]: entry 17 -/
def c21 : List Vc.Node := [
  .ret [.t 6],
  .ret [.t 6],
  .reg (.q (some 6) none (.mov (.const (.bool true))) .done) false 1 [6],
  .jmp 11,
  .ret [.t 6],
  .reg (.q (some 6) none (.mov (.const (.bool false))) .done) false 4 [6],
  .cnd (.tmp 37) 5 3,
  .reg (.q (some 29) none (.mov (.tmp 10)) (.q (some 30) none (.not (.tmp 29)) (.q (some 31) none (.mov (.tmp 30)) (.q (some 32) (some (31, false)) (.mov (.tmp 2)) (.q (some 33) (some (31, false)) (.ldN 37 (.tmp 8)) (.q (some 34) (some (31, false)) (.ldN 37 (.tmp 9)) (.l (some 35) (some (31, false)) (.callv (.tmp 32) [(.tmp 33), (.tmp 34)]) [] (.q (some 36) (some (31, false)) (.not (.tmp 35)) (.q (some 37) none (.pick (.tmp 31) (.const (.bool true)) (.tmp 36)) .done))))))))) false 6 [1, 2, 17, 37],
  .reg (.q (some 24) none (.mov (.tmp 1)) (.q (some 25) none (.ldN 32 (.tmp 7)) (.q (some 26) none (.lkp [(32, .i .u8)] true true [(1, (.int .i32 0)), (2, (.slice none 0 0)), (1, (.int .u32 0)), (32, (.int .u8 0)), (1, (.bool false))] true (.tmp 24) (.tmp 25)) (.q (some 23) none (.mov (.tmp 26)) (.q (some 27) none (.ext 0 (.tmp 23)) (.q (some 28) none (.ext 1 (.tmp 23)) (.l (some 9) none (.alloc 58 [(1, (.int .i32 0)), (2, (.slice none 0 0)), (1, (.int .u32 0)), (32, (.int .u8 0)), (1, (.bool false))]) [] (.l none none (.stN 37 (.tmp 9) (.tmp 27)) [] (.q (some 10) none (.mov (.tmp 28)) .done))))))))) false 7 [1, 2, 8, 9, 10, 17],
  .reg (.l (some 20) none (.ent (.tmp 17)) [] (.q (some 21) none (.ext 0 (.tmp 20)) (.q (some 22) none (.ext 1 (.tmp 20)) (.l (some 7) none (.alloc 24 [(32, (.int .u8 0))]) [] (.l (some 8) none (.alloc 58 [(1, (.int .i32 0)), (2, (.slice none 0 0)), (1, (.int .u32 0)), (32, (.int .u8 0)), (1, (.bool false))]) [] (.l none none (.stN 32 (.tmp 7) (.tmp 21)) [] (.l none none (.stN 37 (.tmp 8) (.tmp 22)) [] .done))))))) false 8 [1, 2, 7, 8, 17],
  .cnd (.tmp 19) 9 2,
  .reg (.l (some 18) none (.nxt false 0 (.tmp 17)) [] (.q (some 19) none (.ext 0 (.tmp 18)) .done)) false 10 [1, 2, 17, 19],
  .reg (.q (some 16) none (.mov (.tmp 0)) (.l (some 17) none (.rng 50 (.tmp 16)) [] .done)) false 11 [1, 2, 17],
  .ret [.t 6],
  .reg (.q (some 6) none (.mov (.const (.bool false))) .done) false 13 [6],
  .cnd (.tmp 15) 14 12,
  .reg (.q (some 11) none (.mov (.tmp 0)) (.q (some 12) none (.lenM (.tmp 11)) (.q (some 13) none (.mov (.tmp 1)) (.q (some 14) none (.lenM (.tmp 13)) (.q (some 15) none (.bin .neq (.tmp 12) (.tmp 14)) .done))))) false 15 [0, 1, 2, 15],
  .reg (.q (some 6) none (.mov (.const (.bool false))) .done) false 16 [0, 1, 2]
  ]
theorem c21_ok : cfgL Try.prog 21 = some (38, 17, c21.map Vc.Node.bare) := by kernel_rfl
/- (*strongbox/ledger.Ledger).Same$1: entry 3 -/
def c22 : List Vc.Node := [
  .ret [.t 4],
  .ret [.t 4],
  .reg (.q (some 5) none (.fadr 36 (.tmp 2)) (.q (some 6) none (.ld1 (.tmp 5)) (.q (some 7) none (.fadr 36 (.tmp 3)) (.q (some 8) none (.ld1 (.tmp 7)) (.q (some 9) none (.eqB false (.tmp 6) (.tmp 8)) (.q (some 4) none (.mov (.tmp 9)) .done)))))) false 1 [4],
  .reg (.l (some 2) none (.box 58 (.tmp 0)) [] (.l (some 3) none (.box 58 (.tmp 1)) [] (.q (some 4) none (.mov (.const (.bool false))) .done))) false 2 [2, 3]
  ]
theorem c22_ok : cfgL Try.prog 22 = some (10, 3, c22.map Vc.Node.bare) := by kernel_rfl
/- maps.Equal[map[strongbox/api.OutPoint]bool,map[strongbox/api.OutPoint]bool,strongbox/api.OutPoint,bool]: entry 17 -/
def c23 : List Vc.Node := [
  .ret [.t 4],
  .ret [.t 4],
  .reg (.q (some 4) none (.mov (.const (.bool true))) .done) false 1 [4],
  .jmp 11,
  .ret [.t 4],
  .reg (.q (some 4) none (.mov (.const (.bool false))) .done) false 4 [4],
  .cnd (.tmp 33) 5 3,
  .reg (.q (some 27) none (.mov (.tmp 8)) (.q (some 28) none (.not (.tmp 27)) (.q (some 29) none (.mov (.tmp 28)) (.q (some 30) (some (29, false)) (.mov (.tmp 6)) (.q (some 31) (some (29, false)) (.mov (.tmp 7)) (.q (some 32) (some (29, false)) (.eqB true (.tmp 30) (.tmp 31)) (.q (some 33) none (.pick (.tmp 29) (.const (.bool true)) (.tmp 32)) .done))))))) false 6 [1, 15, 33],
  .reg (.q (some 22) none (.mov (.tmp 1)) (.q (some 23) none (.ldN 33 (.tmp 5)) (.q (some 24) none (.lkp [(32, .i .u8), (1, .i .u32)] true false [(1, (.bool false))] true (.tmp 22) (.tmp 23)) (.q (some 21) none (.mov (.tmp 24)) (.q (some 25) none (.ext 0 (.tmp 21)) (.q (some 26) none (.ext 1 (.tmp 21)) (.q (some 7) none (.mov (.tmp 25)) (.q (some 8) none (.mov (.tmp 26)) .done)))))))) false 7 [1, 6, 7, 8, 15],
  .reg (.l (some 18) none (.ent (.tmp 15)) [] (.q (some 19) none (.ext 0 (.tmp 18)) (.q (some 20) none (.ext 1 (.tmp 18)) (.l (some 5) none (.alloc 27 [(32, (.int .u8 0)), (1, (.int .u32 0))]) [] (.l none none (.stN 33 (.tmp 5) (.tmp 19)) [] (.q (some 6) none (.mov (.tmp 20)) .done)))))) false 8 [1, 5, 6, 15],
  .cnd (.tmp 17) 9 2,
  .reg (.l (some 16) none (.nxt false 0 (.tmp 15)) [] (.q (some 17) none (.ext 0 (.tmp 16)) .done)) false 10 [1, 15, 17],
  .reg (.q (some 14) none (.mov (.tmp 0)) (.l (some 15) none (.rng 51 (.tmp 14)) [] .done)) false 11 [1, 15],
  .ret [.t 4],
  .reg (.q (some 4) none (.mov (.const (.bool false))) .done) false 13 [4],
  .cnd (.tmp 13) 14 12,
  .reg (.q (some 9) none (.mov (.tmp 0)) (.q (some 10) none (.lenM (.tmp 9)) (.q (some 11) none (.mov (.tmp 1)) (.q (some 12) none (.lenM (.tmp 11)) (.q (some 13) none (.bin .neq (.tmp 10) (.tmp 12)) .done))))) false 15 [0, 1, 13],
  .reg (.q (some 4) none (.mov (.const (.bool false))) .done) false 16 [0, 1]
  ]
theorem c23_ok : cfgL Try.prog 23 = some (34, 17, c23.map Vc.Node.bare) := by kernel_rfl
/- maps.Equal[map[string]string,map[string]string,string,string]: entry 17 -/
def c24 : List Vc.Node := [
  .ret [.t 4],
  .ret [.t 4],
  .reg (.q (some 4) none (.mov (.const (.bool true))) .done) false 1 [4],
  .jmp 11,
  .ret [.t 4],
  .reg (.q (some 4) none (.mov (.const (.bool false))) .done) false 4 [4],
  .cnd (.tmp 33) 5 3,
  .reg (.q (some 27) none (.mov (.tmp 8)) (.q (some 28) none (.not (.tmp 27)) (.q (some 29) none (.mov (.tmp 28)) (.q (some 30) (some (29, false)) (.mov (.tmp 6)) (.q (some 31) (some (29, false)) (.mov (.tmp 7)) (.q (some 32) (some (29, false)) (.bin .neq (.tmp 30) (.tmp 31)) (.q (some 33) none (.pick (.tmp 29) (.const (.bool true)) (.tmp 32)) .done))))))) false 6 [1, 15, 33],
  .reg (.q (some 22) none (.mov (.tmp 1)) (.q (some 23) none (.mov (.tmp 5)) (.q (some 24) none (.lkp [(1, .st)] false false [(1, (.string ⟨#[]⟩))] true (.tmp 22) (.tmp 23)) (.q (some 21) none (.mov (.tmp 24)) (.q (some 25) none (.ext 0 (.tmp 21)) (.q (some 26) none (.ext 1 (.tmp 21)) (.q (some 7) none (.mov (.tmp 25)) (.q (some 8) none (.mov (.tmp 26)) .done)))))))) false 7 [1, 6, 7, 8, 15],
  .reg (.l (some 18) none (.ent (.tmp 15)) [] (.q (some 19) none (.ext 0 (.tmp 18)) (.q (some 20) none (.ext 1 (.tmp 18)) (.q (some 5) none (.mov (.tmp 19)) (.q (some 6) none (.mov (.tmp 20)) .done))))) false 8 [1, 5, 6, 15],
  .cnd (.tmp 17) 9 2,
  .reg (.l (some 16) none (.nxt false 0 (.tmp 15)) [] (.q (some 17) none (.ext 0 (.tmp 16)) .done)) false 10 [1, 15, 17],
  .reg (.q (some 14) none (.mov (.tmp 0)) (.l (some 15) none (.rng 52 (.tmp 14)) [] .done)) false 11 [1, 15],
  .ret [.t 4],
  .reg (.q (some 4) none (.mov (.const (.bool false))) .done) false 13 [4],
  .cnd (.tmp 13) 14 12,
  .reg (.q (some 9) none (.mov (.tmp 0)) (.q (some 10) none (.lenM (.tmp 9)) (.q (some 11) none (.mov (.tmp 1)) (.q (some 12) none (.lenM (.tmp 11)) (.q (some 13) none (.bin .neq (.tmp 10) (.tmp 12)) .done))))) false 15 [0, 1, 13],
  .reg (.q (some 4) none (.mov (.const (.bool false))) .done) false 16 [0, 1]
  ]
theorem c24_ok : cfgL Try.prog 24 = some (34, 17, c24.map Vc.Node.bare) := by kernel_rfl
/- strongbox/hash.Double: entry 5 -/
def c25 : List Vc.Node := [
  .ret [.cN 2 32],
  .ret [.cN 2 32],
  .reg (.l (some 6) none (.call 33 [(.tmp 3)]) [] (.l none none (.stN 32 (.tmp 2) (.tmp 6)) [] .done)) false 1 [2],
  .reg (.q (some 4) none (.mov (.tmp 0)) (.l (some 5) none (.call 32 [(.tmp 3), (.tmp 4)]) [] .done)) false 2 [2, 3],
  .reg (.l (some 3) none (.alloc 87 [(8, (.int .u32 0)), (1, (.slice none 0 0)), (1, (.int .u64 0)), (1, (.bool false))]) [] .done) false 3 [0, 2, 3],
  .reg (.l (some 2) none (.alloc 24 [(32, (.int .u8 0))]) [] .done) false 4 [0, 2]
  ]
theorem c25_ok : cfgL Try.prog 25 = some (7, 5, c25.map Vc.Node.bare) := by kernel_rfl
/- strongbox/tx.Encode: entry 46 -/
def c26 : List Vc.Node := [
  .ret [.t 4],
  .ret [.t 4],
  .reg (.l (some 100) none (.call 40 [(.tmp 5)]) [] (.q (some 4) none (.mov (.tmp 100)) .done)) false 1 [4],
  .reg (.q (some 97) none (.fadr 3 (.tmp 2)) (.q (some 98) none (.ld1 (.tmp 97)) (.l (some 99) none (.call 35 [(.tmp 5), (.tmp 98)]) [] .done))) false 2 [5],
  .jmp 16,
  .reg (.q (some 96) none (.bin .add (.tmp 77) (.const (.int .i64 1))) (.q (some 77) none (.mov (.tmp 96)) .done)) false 4 [2, 5, 75, 76, 77],
  .jmp 11,
  .reg (.q (some 95) none (.bin .add (.tmp 89) (.const (.int .i64 1))) (.q (some 89) none (.mov (.tmp 95)) .done)) false 6 [2, 5, 75, 76, 77, 87, 88, 89],
  .reg (.q (some 93) none (.mov (.tmp 13)) (.l (some 94) none (.call 38 [(.tmp 5), (.tmp 93)]) [] .done)) false 7 [2, 5, 75, 76, 77, 87, 88, 89],
  .reg (.q (some 91) none (.iadrS 1 (.tmp 87) (.tmp 89)) (.q (some 92) none (.ld1 (.tmp 91)) (.q (some 13) none (.mov (.tmp 92)) .done))) false 8 [2, 5, 13, 75, 76, 77, 87, 88, 89],
  .cnd (.tmp 90) 9 5,
  .reg (.q (some 90) none (.bin .lss (.tmp 89) (.tmp 88)) .done) false 10 [2, 5, 75, 76, 77, 87, 88, 89, 90],
  .reg (.q (some 86) none (.fadr 35 (.tmp 11)) (.q (some 87) none (.ld1 (.tmp 86)) (.q (some 88) none (.len (.tmp 87)) (.q (some 89) none (.mov (.const (.int .i64 0))) .done)))) false 11 [2, 5, 75, 76, 77, 87, 88, 89],
  .reg (.q (some 81) none (.fadr 35 (.tmp 11)) (.q (some 82) none (.ld1 (.tmp 81)) (.q (some 83) none (.len (.tmp 82)) (.q (some 84) none (.cvi .u64 (.tmp 83)) (.l (some 85) none (.call 37 [(.tmp 5), (.tmp 84)]) [] .done))))) false 12 [2, 5, 11, 75, 76, 77],
  .reg (.q (some 79) none (.iadrS 36 (.tmp 75) (.tmp 77)) (.q (some 80) none (.ldN 36 (.tmp 79)) (.l (some 11) none (.alloc 75 [(32, (.int .u8 0)), (1, (.int .u32 0)), (1, (.slice none 0 0)), (1, (.int .u32 0)), (1, (.slice none 0 0))]) [] (.l none none (.stN 36 (.tmp 11) (.tmp 80)) [] .done)))) false 13 [2, 5, 11, 75, 76, 77],
  .cnd (.tmp 78) 14 3,
  .reg (.q (some 78) none (.bin .lss (.tmp 77) (.tmp 76)) .done) false 15 [2, 5, 75, 76, 77, 78],
  .reg (.q (some 74) none (.fadr 1 (.tmp 2)) (.q (some 75) none (.ld1 (.tmp 74)) (.q (some 76) none (.len (.tmp 75)) (.q (some 77) none (.mov (.const (.int .i64 0))) .done)))) false 16 [2, 5, 75, 76, 77],
  .cnd (.tmp 73) 17 3,
  .reg (.q (some 73) none (.mov (.tmp 1)) .done) false 18 [2, 5, 73],
  .jmp 26,
  .reg (.q (some 72) none (.bin .add (.tmp 61) (.const (.int .i64 1))) (.q (some 61) none (.mov (.tmp 72)) .done)) false 20 [1, 2, 5, 59, 60, 61],
  .reg (.q (some 69) none (.fadr 1 (.tmp 9)) (.q (some 70) none (.ld1 (.tmp 69)) (.l (some 71) none (.call 38 [(.tmp 5), (.tmp 70)]) [] .done))) false 21 [1, 2, 5, 59, 60, 61],
  .reg (.q (some 65) none (.fadr 0 (.tmp 9)) (.q (some 66) none (.ld1 (.tmp 65)) (.q (some 67) none (.cvi .u64 (.tmp 66)) (.l (some 68) none (.call 39 [(.tmp 5), (.tmp 67)]) [] .done)))) false 22 [1, 2, 5, 9, 59, 60, 61],
  .reg (.q (some 63) none (.iadrS 2 (.tmp 59) (.tmp 61)) (.q (some 64) none (.ldN 2 (.tmp 63)) (.l (some 9) none (.alloc 36 [(1, (.int .i64 0)), (1, (.slice none 0 0))]) [] (.l none none (.stN 2 (.tmp 9) (.tmp 64)) [] .done)))) false 23 [1, 2, 5, 9, 59, 60, 61],
  .cnd (.tmp 62) 24 19,
  .reg (.q (some 62) none (.bin .lss (.tmp 61) (.tmp 60)) .done) false 25 [1, 2, 5, 59, 60, 61, 62],
  .reg (.q (some 58) none (.fadr 2 (.tmp 2)) (.q (some 59) none (.ld1 (.tmp 58)) (.q (some 60) none (.len (.tmp 59)) (.q (some 61) none (.mov (.const (.int .i64 0))) .done)))) false 26 [1, 2, 5, 59, 60, 61],
  .reg (.q (some 53) none (.fadr 2 (.tmp 2)) (.q (some 54) none (.ld1 (.tmp 53)) (.q (some 55) none (.len (.tmp 54)) (.q (some 56) none (.cvi .u64 (.tmp 55)) (.l (some 57) none (.call 37 [(.tmp 5), (.tmp 56)]) [] .done))))) false 27 [1, 2, 5],
  .jmp 37,
  .reg (.q (some 52) none (.bin .add (.tmp 34) (.const (.int .i64 1))) (.q (some 34) none (.mov (.tmp 52)) .done)) false 29 [1, 2, 5, 32, 33, 34],
  .reg (.q (some 49) none (.fadr 34 (.tmp 7)) (.q (some 50) none (.ld1 (.tmp 49)) (.l (some 51) none (.call 35 [(.tmp 5), (.tmp 50)]) [] .done))) false 30 [1, 2, 5, 32, 33, 34],
  .reg (.q (some 46) none (.fadr 33 (.tmp 7)) (.q (some 47) none (.ld1 (.tmp 46)) (.l (some 48) none (.call 38 [(.tmp 5), (.tmp 47)]) [] .done))) false 31 [1, 2, 5, 7, 32, 33, 34],
  .reg (.q (some 42) none (.fadr 0 (.tmp 7)) (.q (some 43) none (.fadr 32 (.tmp 42)) (.q (some 44) none (.ld1 (.tmp 43)) (.l (some 45) none (.call 35 [(.tmp 5), (.tmp 44)]) [] .done)))) false 32 [1, 2, 5, 7, 32, 33, 34],
  .reg (.q (some 38) none (.fadr 0 (.tmp 7)) (.q (some 39) none (.fadr 0 (.tmp 38)) (.q (some 40) none (.slcA 32 1 (.tmp 39) none none) (.l (some 41) none (.call 36 [(.tmp 5), (.tmp 40)]) [] .done)))) false 33 [1, 2, 5, 7, 32, 33, 34],
  .reg (.q (some 36) none (.iadrS 36 (.tmp 32) (.tmp 34)) (.q (some 37) none (.ldN 36 (.tmp 36)) (.l (some 7) none (.alloc 75 [(32, (.int .u8 0)), (1, (.int .u32 0)), (1, (.slice none 0 0)), (1, (.int .u32 0)), (1, (.slice none 0 0))]) [] (.l none none (.stN 36 (.tmp 7) (.tmp 37)) [] .done)))) false 34 [1, 2, 5, 7, 32, 33, 34],
  .cnd (.tmp 35) 35 28,
  .reg (.q (some 35) none (.bin .lss (.tmp 34) (.tmp 33)) .done) false 36 [1, 2, 5, 32, 33, 34, 35],
  .reg (.q (some 31) none (.fadr 1 (.tmp 2)) (.q (some 32) none (.ld1 (.tmp 31)) (.q (some 33) none (.len (.tmp 32)) (.q (some 34) none (.mov (.const (.int .i64 0))) .done)))) false 37 [1, 2, 5, 32, 33, 34],
  .reg (.q (some 26) none (.fadr 1 (.tmp 2)) (.q (some 27) none (.ld1 (.tmp 26)) (.q (some 28) none (.len (.tmp 27)) (.q (some 29) none (.cvi .u64 (.tmp 28)) (.l (some 30) none (.call 37 [(.tmp 5), (.tmp 29)]) [] .done))))) false 38 [1, 2, 5],
  .reg (.l (some 24) none (.bldS 5 1 [(.const (.int .u8 0)), (.const (.int .u8 1))]) [] (.l (some 25) none (.call 36 [(.tmp 5), (.tmp 24)]) [] .done)) false 39 [1, 2, 5],
  .cnd (.tmp 23) 40 39,
  .reg (.q (some 23) none (.mov (.tmp 1)) .done) false 41 [1, 2, 5, 23],
  .reg (.q (some 19) none (.fadr 0 (.tmp 2)) (.q (some 20) none (.ld1 (.tmp 19)) (.q (some 21) none (.cvi .u32 (.tmp 20)) (.l (some 22) none (.call 35 [(.tmp 5), (.tmp 21)]) [] .done)))) false 42 [1, 2, 5],
  .reg (.q (some 14) none (.mov (.tmp 1)) (.q (some 15) none (.mov (.tmp 14)) (.q (some 16) (some (15, true)) (.ldN 4 (.tmp 2)) (.l (some 17) (some (15, true)) (.call 34 [(.tmp 16)]) [] (.q (some 18) none (.pick (.tmp 15) (.tmp 17) (.const (.bool false))) (.q (some 1) none (.mov (.tmp 18)) .done)))))) false 43 [1, 2, 5],
  .reg (.l (some 5) none (.alloc 91 [(1, (.slice none 0 0))]) [] .done) false 44 [1, 2, 5],
  .reg (.l (some 2) none (.box 40 (.tmp 0)) [] (.q (some 4) none (.mov (.const (.slice none 0 0))) .done)) false 45 [1, 2]
  ]
theorem c26_ok : cfgL Try.prog 26 = some (101, 46, c26.map Vc.Node.bare) := by kernel_rfl
/- slices.Clone[[]strongbox/api.TxIn,strongbox/api.TxIn]: entry 7 -/
def c27 : List Vc.Node := [
  .ret [.t 2],
  .ret [.t 2],
  .reg (.l (some 5) none (.bldS 75 36 []) [] (.q (some 6) none (.mov (.tmp 0)) (.l (some 7) none (.app 75 36 96 [(32, (.int .u8 0)), (1, (.int .u32 0)), (1, (.slice none 0 0)), (1, (.int .u32 0)), (1, (.slice none 0 0))] (.tmp 5) (.tmp 6)) [] (.q (some 2) none (.mov (.tmp 7)) .done)))) false 1 [2],
  .ret [.t 2],
  .reg (.q (some 2) none (.mov (.const (.slice none 0 0))) .done) false 3 [2],
  .cnd (.tmp 4) 4 2,
  .reg (.q (some 3) none (.mov (.tmp 0)) (.q (some 4) none (.eqS false (.tmp 3) (.const (.slice none 0 0))) .done)) false 5 [0, 4],
  .reg (.q (some 2) none (.mov (.const (.slice none 0 0))) .done) false 6 [0]
  ]
theorem c27_ok : cfgL Try.prog 27 = some (8, 7, c27.map Vc.Node.bare) := by kernel_rfl
/- slices.Clone[[]strongbox/api.TxOut,strongbox/api.TxOut]: entry 7 -/
def c28 : List Vc.Node := [
  .ret [.t 2],
  .ret [.t 2],
  .reg (.l (some 5) none (.bldS 36 2 []) [] (.q (some 6) none (.mov (.tmp 0)) (.l (some 7) none (.app 36 2 32 [(1, (.int .i64 0)), (1, (.slice none 0 0))] (.tmp 5) (.tmp 6)) [] (.q (some 2) none (.mov (.tmp 7)) .done)))) false 1 [2],
  .ret [.t 2],
  .reg (.q (some 2) none (.mov (.const (.slice none 0 0))) .done) false 3 [2],
  .cnd (.tmp 4) 4 2,
  .reg (.q (some 3) none (.mov (.tmp 0)) (.q (some 4) none (.eqS false (.tmp 3) (.const (.slice none 0 0))) .done)) false 5 [0, 4],
  .reg (.q (some 2) none (.mov (.const (.slice none 0 0))) .done) false 6 [0]
  ]
theorem c28_ok : cfgL Try.prog 28 = some (8, 7, c28.map Vc.Node.bare) := by kernel_rfl
/- bytes.Clone: entry 7 -/
def c29 : List Vc.Node := [
  .ret [.t 2],
  .ret [.t 2],
  .reg (.l (some 5) none (.bldS 5 1 []) [] (.q (some 6) none (.mov (.tmp 0)) (.l (some 7) none (.app 5 1 1 [(1, (.int .u8 0))] (.tmp 5) (.tmp 6)) [] (.q (some 2) none (.mov (.tmp 7)) .done)))) false 1 [2],
  .ret [.t 2],
  .reg (.q (some 2) none (.mov (.const (.slice none 0 0))) .done) false 3 [2],
  .cnd (.tmp 4) 4 2,
  .reg (.q (some 3) none (.mov (.tmp 0)) (.q (some 4) none (.eqS false (.tmp 3) (.const (.slice none 0 0))) .done)) false 5 [0, 4],
  .reg (.q (some 2) none (.mov (.const (.slice none 0 0))) .done) false 6 [0]
  ]
theorem c29_ok : cfgL Try.prog 29 = some (8, 7, c29.map Vc.Node.bare) := by kernel_rfl
/- slices.Clone[[][]byte,[]byte]: entry 7 -/
def c30 : List Vc.Node := [
  .ret [.t 2],
  .ret [.t 2],
  .reg (.l (some 5) none (.bldS 22 1 []) [] (.q (some 6) none (.mov (.tmp 0)) (.l (some 7) none (.app 22 1 24 [(1, (.slice none 0 0))] (.tmp 5) (.tmp 6)) [] (.q (some 2) none (.mov (.tmp 7)) .done)))) false 1 [2],
  .ret [.t 2],
  .reg (.q (some 2) none (.mov (.const (.slice none 0 0))) .done) false 3 [2],
  .cnd (.tmp 4) 4 2,
  .reg (.q (some 3) none (.mov (.tmp 0)) (.q (some 4) none (.eqS false (.tmp 3) (.const (.slice none 0 0))) .done)) false 5 [0, 4],
  .reg (.q (some 2) none (.mov (.const (.slice none 0 0))) .done) false 6 [0]
  ]
theorem c30_ok : cfgL Try.prog 30 = some (8, 7, c30.map Vc.Node.bare) := by kernel_rfl
/- (*strongbox/hash.Sum).Add: entry 11 -/
def c32 : List Vc.Node := [
  .ret [],
  .jmp 5,
  .reg (.q (some 52) none (.mov (.tmp 0)) (.q (some 53) none (.mov (.tmp 0)) (.q (some 54) none (.nc (.tmp 53)) (.q (some 55) none (.fadr 8 (.tmp 54)) (.q (some 56) none (.ld1 (.tmp 55)) (.q (some 57) none (.slcS 1 (.tmp 56) (some (.const (.int .i64 64))) none) (.q (some 58) none (.nc (.tmp 52)) (.q (some 59) none (.fadr 8 (.tmp 58)) (.l none none (.st1 (.tmp 59) (.tmp 57)) [] .done))))))))) false 1 [0, 4],
  .reg (.q (some 43) none (.mov (.tmp 0)) (.q (some 44) none (.nc (.tmp 43)) (.q (some 45) none (.fadr 0 (.tmp 44)) (.q (some 46) none (.mov (.tmp 0)) (.q (some 47) none (.nc (.tmp 46)) (.q (some 48) none (.fadr 8 (.tmp 47)) (.q (some 49) none (.ld1 (.tmp 48)) (.q (some 50) none (.slcS 1 (.tmp 49) none (some (.const (.int .i64 64)))) (.l (some 51) none (.call 43 [(.tmp 45), (.tmp 4), (.tmp 50)]) [] .done))))))))) true 2 [0, 4],
  .cnd (.tmp 42) 3 0,
  .reg (.q (some 37) none (.mov (.tmp 0)) (.q (some 38) none (.nc (.tmp 37)) (.q (some 39) none (.fadr 8 (.tmp 38)) (.q (some 40) none (.ld1 (.tmp 39)) (.q (some 41) none (.len (.tmp 40)) (.q (some 42) none (.bin .geq (.tmp 41) (.const (.int .i64 64))) .done)))))) false 4 [0, 4, 42],
  .reg (.l (some 36) none (.call 42 []) [] (.l (some 4) none (.alloc 98 [(64, (.int .u32 0))]) [] (.l none none (.stN 64 (.tmp 4) (.tmp 36)) [] .done))) false 5 [0, 4],
  .reg (.q (some 27) none (.mov (.tmp 0)) (.q (some 28) none (.mov (.tmp 0)) (.q (some 29) none (.nc (.tmp 28)) (.q (some 30) none (.fadr 8 (.tmp 29)) (.q (some 31) none (.ld1 (.tmp 30)) (.q (some 32) none (.mov (.tmp 1)) (.l (some 33) none (.app 5 1 1 [(1, (.int .u8 0))] (.tmp 31) (.tmp 32)) [] (.q (some 34) none (.nc (.tmp 27)) (.q (some 35) none (.fadr 8 (.tmp 34)) (.l none none (.st1 (.tmp 35) (.tmp 33)) [] .done)))))))))) false 6 [0],
  .reg (.q (some 17) none (.mov (.tmp 0)) (.q (some 18) none (.nc (.tmp 17)) (.q (some 19) none (.fadr 9 (.tmp 18)) (.q (some 20) none (.ld1 (.tmp 19)) (.q (some 21) none (.mov (.tmp 1)) (.q (some 22) none (.len (.tmp 21)) (.q (some 23) none (.cvi .u64 (.tmp 22)) (.q (some 24) none (.bin .add (.tmp 20) (.tmp 23)) (.q (some 25) none (.nc (.tmp 17)) (.q (some 26) none (.fadr 9 (.tmp 25)) (.l none none (.st1 (.tmp 26) (.tmp 24)) [] .done))))))))))) false 7 [0, 1],
  .reg (.q (some 10) none (.mov (.tmp 0)) (.q (some 11) none (.mov (.tmp 0)) (.l (some 12) none (.call 41 []) [] (.q (some 13) none (.nc (.tmp 10)) (.q (some 14) none (.fadr 0 (.tmp 13)) (.l none none (.stN 8 (.tmp 14) (.tmp 12)) [] (.q (some 15) none (.nc (.tmp 11)) (.q (some 16) none (.fadr 10 (.tmp 15)) (.l none none (.st1 (.tmp 16) (.const (.bool true))) [] .done))))))))) false 8 [0, 1],
  .cnd (.tmp 9) 9 8,
  .reg (.q (some 5) none (.mov (.tmp 0)) (.q (some 6) none (.nc (.tmp 5)) (.q (some 7) none (.fadr 10 (.tmp 6)) (.q (some 8) none (.ld1 (.tmp 7)) (.q (some 9) none (.not (.tmp 8)) .done))))) false 10 [0, 1, 9]
  ]
theorem c32_ok : cfgL Try.prog 32 = some (60, 11, c32.map Vc.Node.bare) := by kernel_rfl
/- (*strongbox/hash.Sum).Twice: entry 4 -/
def c33 : List Vc.Node := [
  .ret [.cN 2 32],
  .ret [.cN 2 32],
  .reg (.q (some 6) none (.slcA 32 1 (.tmp 3) none none) (.l (some 7) none (.call 45 [(.tmp 6)]) [] (.l none none (.stN 32 (.tmp 2) (.tmp 7)) [] .done))) false 1 [2],
  .reg (.q (some 4) none (.mov (.tmp 0)) (.l (some 5) none (.call 44 [(.tmp 4)]) [] (.l (some 3) none (.alloc 24 [(32, (.int .u8 0))]) [] (.l none none (.stN 32 (.tmp 3) (.tmp 5)) [] .done)))) false 2 [2, 3],
  .reg (.l (some 2) none (.alloc 24 [(32, (.int .u8 0))]) [] .done) false 3 [0, 2]
  ]
theorem c33_ok : cfgL Try.prog 33 = some (8, 4, c33.map Vc.Node.bare) := by kernel_rfl
/- (*strongbox/wire.Writer).U32: entry 1 -/
def c35 : List Vc.Node := [
  .ret [],
  .reg (.q (some 4) none (.mov (.tmp 0)) (.q (some 5) none (.mov (.tmp 1)) (.q (some 6) none (.cvi .u64 (.tmp 5)) (.l (some 7) none (.call 48 [(.tmp 4), (.tmp 6), (.const (.int .i64 4))]) [] .done)))) false 0 []
  ]
theorem c35_ok : cfgL Try.prog 35 = some (8, 1, c35.map Vc.Node.bare) := by kernel_rfl
/- (*strongbox/wire.Writer).Raw: entry 1 -/
def c36 : List Vc.Node := [
  .ret [],
  .reg (.q (some 4) none (.mov (.tmp 0)) (.q (some 5) none (.mov (.tmp 0)) (.q (some 6) none (.nc (.tmp 5)) (.q (some 7) none (.fadr 0 (.tmp 6)) (.q (some 8) none (.ld1 (.tmp 7)) (.q (some 9) none (.mov (.tmp 1)) (.l (some 10) none (.app 5 1 1 [(1, (.int .u8 0))] (.tmp 8) (.tmp 9)) [] (.q (some 11) none (.nc (.tmp 4)) (.q (some 12) none (.fadr 0 (.tmp 11)) (.l none none (.st1 (.tmp 12) (.tmp 10)) [] .done)))))))))) false 0 []
  ]
theorem c36_ok : cfgL Try.prog 36 = some (13, 1, c36.map Vc.Node.bare) := by kernel_rfl
/- (*strongbox/wire.Writer).Size: entry 7 -/
def c37 : List Vc.Node := [
  .ret [],
  .reg (.q (some 20) none (.mov (.tmp 0)) (.q (some 21) none (.mov (.tmp 1)) (.q (some 22) none (.cvi .u8 (.tmp 21)) (.l (some 23) none (.call 50 [(.tmp 20), (.tmp 22)]) [] .done)))) false 0 [],
  .reg (.q (some 14) none (.mov (.tmp 0)) (.q (some 15) none (.mov (.tmp 1)) (.q (some 16) none (.mov (.tmp 4)) (.l (some 17) none (.call 48 [(.tmp 14), (.tmp 15), (.tmp 16)]) [] .done)))) false 0 [],
  .reg (.q (some 8) none (.mov (.tmp 0)) (.l (some 9) none .mkM [] (.l none none (.mapU [(1, .i .i64)] false (.tmp 9) (.const (.int .i64 2)) (.const (.int .u8 253))) [] (.l none none (.mapU [(1, .i .i64)] false (.tmp 9) (.const (.int .i64 4)) (.const (.int .u8 254))) [] (.l none none (.mapU [(1, .i .i64)] false (.tmp 9) (.const (.int .i64 8)) (.const (.int .u8 255))) [] (.q (some 10) none (.mov (.tmp 9)) (.q (some 11) none (.mov (.tmp 4)) (.q (some 12) none (.lkp [(1, .i .i64)] false false [(1, (.int .u8 0))] false (.tmp 10) (.tmp 11)) (.l (some 13) none (.call 50 [(.tmp 8), (.tmp 12)]) [] .done))))))))) false 2 [0, 1, 4],
  .cnd (.tmp 18) 1 3,
  .reg (.q (some 19) none (.bin .eql (.tmp 7) (.const (.int .i64 0))) (.q (some 18) none (.mov (.tmp 19)) .done)) false 4 [0, 1, 4, 18],
  .reg (.q (some 7) none (.mov (.tmp 4)) .done) false 5 [0, 1, 4, 7],
  .reg (.q (some 5) none (.mov (.tmp 1)) (.l (some 6) none (.call 49 [(.tmp 5)]) [] (.q (some 4) none (.mov (.tmp 6)) .done))) false 6 [0, 1, 4]
  ]
theorem c37_ok : cfgL Try.prog 37 = some (24, 7, c37.map Vc.Node.bare) := by kernel_rfl
/- (*strongbox/wire.Writer).Bytes: entry 2 -/
def c38 : List Vc.Node := [
  .ret [],
  .reg (.q (some 9) none (.mov (.tmp 0)) (.q (some 10) none (.mov (.tmp 1)) (.l (some 11) none (.call 36 [(.tmp 9), (.tmp 10)]) [] .done))) false 0 [],
  .reg (.q (some 4) none (.mov (.tmp 0)) (.q (some 5) none (.mov (.tmp 1)) (.q (some 6) none (.len (.tmp 5)) (.q (some 7) none (.cvi .u64 (.tmp 6)) (.l (some 8) none (.call 37 [(.tmp 4), (.tmp 7)]) [] .done))))) false 1 [0, 1]
  ]
theorem c38_ok : cfgL Try.prog 38 = some (12, 2, c38.map Vc.Node.bare) := by kernel_rfl
/- (*strongbox/wire.Writer).U64: entry 1 -/
def c39 : List Vc.Node := [
  .ret [],
  .reg (.q (some 4) none (.mov (.tmp 0)) (.q (some 5) none (.mov (.tmp 1)) (.l (some 6) none (.call 48 [(.tmp 4), (.tmp 5), (.const (.int .i64 8))]) [] .done))) false 0 []
  ]
theorem c39_ok : cfgL Try.prog 39 = some (7, 1, c39.map Vc.Node.bare) := by kernel_rfl
/- (*strongbox/wire.Writer).Out: entry 3 -/
def c40 : List Vc.Node := [
  .ret [.t 2],
  .ret [.t 2],
  .reg (.q (some 3) none (.mov (.tmp 0)) (.q (some 4) none (.nc (.tmp 3)) (.q (some 5) none (.fadr 0 (.tmp 4)) (.q (some 6) none (.ld1 (.tmp 5)) (.l (some 7) none (.call 29 [(.tmp 6)]) [] (.q (some 2) none (.mov (.tmp 7)) .done)))))) false 1 [2],
  .reg (.q (some 2) none (.mov (.const (.slice none 0 0))) .done) false 2 [0]
  ]
theorem c40_ok : cfgL Try.prog 40 = some (8, 3, c40.map Vc.Node.bare) := by kernel_rfl
/- strongbox/hash.begin256: entry 3 -/
def c41 : List Vc.Node := [
  .ret [.cN 0 8],
  .ret [.cN 0 8],
  .reg (.q (some 1) none (.bld [.x 1 (.const (.int .u32 1779033703)), .x 1 (.const (.int .u32 3144134277)), .x 1 (.const (.int .u32 1013904242)), .x 1 (.const (.int .u32 2773480762)), .x 1 (.const (.int .u32 1359893119)), .x 1 (.const (.int .u32 2600822924)), .x 1 (.const (.int .u32 528734635)), .x 1 (.const (.int .u32 1541459225))]) (.l none none (.stN 8 (.tmp 0) (.tmp 1)) [] .done)) false 1 [0],
  .reg (.l (some 0) none (.alloc 84 [(8, (.int .u32 0))]) [] .done) false 2 [0]
  ]
theorem c41_ok : cfgL Try.prog 41 = some (2, 3, c41.map Vc.Node.bare) := by kernel_rfl
/- strongbox/hash.k256: entry 3 -/
def c42 : List Vc.Node := [
  .ret [.cN 0 64],
  .ret [.cN 0 64],
  .reg (.q (some 1) none (.bld [.x 1 (.const (.int .u32 1116352408)), .x 1 (.const (.int .u32 1899447441)), .x 1 (.const (.int .u32 3049323471)), .x 1 (.const (.int .u32 3921009573)), .x 1 (.const (.int .u32 961987163)), .x 1 (.const (.int .u32 1508970993)), .x 1 (.const (.int .u32 2453635748)), .x 1 (.const (.int .u32 2870763221)), .x 1 (.const (.int .u32 3624381080)), .x 1 (.const (.int .u32 310598401)), .x 1 (.const (.int .u32 607225278)), .x 1 (.const (.int .u32 1426881987)), .x 1 (.const (.int .u32 1925078388)), .x 1 (.const (.int .u32 2162078206)), .x 1 (.const (.int .u32 2614888103)), .x 1 (.const (.int .u32 3248222580)), .x 1 (.const (.int .u32 3835390401)), .x 1 (.const (.int .u32 4022224774)), .x 1 (.const (.int .u32 264347078)), .x 1 (.const (.int .u32 604807628)), .x 1 (.const (.int .u32 770255983)), .x 1 (.const (.int .u32 1249150122)), .x 1 (.const (.int .u32 1555081692)), .x 1 (.const (.int .u32 1996064986)), .x 1 (.const (.int .u32 2554220882)), .x 1 (.const (.int .u32 2821834349)), .x 1 (.const (.int .u32 2952996808)), .x 1 (.const (.int .u32 3210313671)), .x 1 (.const (.int .u32 3336571891)), .x 1 (.const (.int .u32 3584528711)), .x 1 (.const (.int .u32 113926993)), .x 1 (.const (.int .u32 338241895)), .x 1 (.const (.int .u32 666307205)), .x 1 (.const (.int .u32 773529912)), .x 1 (.const (.int .u32 1294757372)), .x 1 (.const (.int .u32 1396182291)), .x 1 (.const (.int .u32 1695183700)), .x 1 (.const (.int .u32 1986661051)), .x 1 (.const (.int .u32 2177026350)), .x 1 (.const (.int .u32 2456956037)), .x 1 (.const (.int .u32 2730485921)), .x 1 (.const (.int .u32 2820302411)), .x 1 (.const (.int .u32 3259730800)), .x 1 (.const (.int .u32 3345764771)), .x 1 (.const (.int .u32 3516065817)), .x 1 (.const (.int .u32 3600352804)), .x 1 (.const (.int .u32 4094571909)), .x 1 (.const (.int .u32 275423344)), .x 1 (.const (.int .u32 430227734)), .x 1 (.const (.int .u32 506948616)), .x 1 (.const (.int .u32 659060556)), .x 1 (.const (.int .u32 883997877)), .x 1 (.const (.int .u32 958139571)), .x 1 (.const (.int .u32 1322822218)), .x 1 (.const (.int .u32 1537002063)), .x 1 (.const (.int .u32 1747873779)), .x 1 (.const (.int .u32 1955562222)), .x 1 (.const (.int .u32 2024104815)), .x 1 (.const (.int .u32 2227730452)), .x 1 (.const (.int .u32 2361852424)), .x 1 (.const (.int .u32 2428436474)), .x 1 (.const (.int .u32 2756734187)), .x 1 (.const (.int .u32 3204031479)), .x 1 (.const (.int .u32 3329325298))]) (.l none none (.stN 64 (.tmp 0) (.tmp 1)) [] .done)) false 1 [0],
  .reg (.l (some 0) none (.alloc 98 [(64, (.int .u32 0))]) [] .done) false 2 [0]
  ]
theorem c42_ok : cfgL Try.prog 42 = some (2, 3, c42.map Vc.Node.bare) := by kernel_rfl
/- (*strongbox/hash.state256).step: entry 32 -/
def c43 : List Vc.Node := [
  .ret [],
  .jmp 6,
  .reg (.q (some 189) none (.bin .add (.tmp 175) (.const (.int .i64 1))) (.q (some 175) none (.mov (.tmp 189)) .done)) false 1 [0, 10, 175],
  .reg (.q (some 178) none (.mov (.tmp 0)) (.q (some 179) none (.mov (.tmp 17)) (.q (some 180) none (.nc (.tmp 178)) (.q (some 181) none (.iadrA 8 1 (.tmp 180) (.tmp 179)) (.q (some 182) none (.ld1 (.tmp 181)) (.q (some 183) none (.mov (.tmp 17)) (.q (some 184) none (.iadrA 8 1 (.tmp 10) (.tmp 183)) (.q (some 185) none (.ld1 (.tmp 184)) (.q (some 186) none (.bin .add (.tmp 182) (.tmp 185)) (.q (some 187) none (.nc (.tmp 178)) (.q (some 188) none (.iadrA 8 1 (.tmp 187) (.tmp 179)) (.l none none (.st1 (.tmp 188) (.tmp 186)) [] .done)))))))))))) true 2 [0, 10, 175],
  .reg (.q (some 177) none (.mov (.tmp 175)) (.q (some 17) none (.mov (.tmp 177)) .done)) false 3 [0, 10, 17, 175],
  .cnd (.tmp 176) 4 0,
  .reg (.q (some 176) none (.bin .lss (.tmp 175) (.const (.int .i64 8))) .done) false 5 [0, 10, 175, 176],
  .reg (.q (some 175) none (.mov (.const (.int .i64 0))) .done) false 6 [0, 10, 175],
  .jmp 18,
  .reg (.q (some 174) none (.bin .add (.tmp 100) (.const (.int .i64 1))) (.q (some 100) none (.mov (.tmp 174)) .done)) false 8 [0, 1, 10, 99, 100],
  .reg (.q (some 170) none (.mov (.tmp 15)) (.q (some 171) none (.mov (.tmp 16)) (.q (some 172) none (.bin .add (.tmp 170) (.tmp 171)) (.q (some 173) none (.iadrA 8 1 (.tmp 10) (.const (.int .i64 0))) (.l none none (.st1 (.tmp 173) (.tmp 172)) [] .done))))) false 9 [0, 1, 10, 99, 100],
  .reg (.q (some 165) none (.iadrA 8 1 (.tmp 10) (.const (.int .i64 4))) (.q (some 166) none (.ld1 (.tmp 165)) (.q (some 167) none (.mov (.tmp 15)) (.q (some 168) none (.bin .add (.tmp 166) (.tmp 167)) (.q (some 169) none (.iadrA 8 1 (.tmp 10) (.const (.int .i64 4))) (.l none none (.st1 (.tmp 169) (.tmp 168)) [] .done)))))) false 10 [0, 1, 10, 15, 16, 99, 100],
  .reg (.q (some 162) none (.slcA 8 1 (.tmp 10) (some (.const (.int .i64 1))) none) (.q (some 163) none (.slcA 8 1 (.tmp 10) none (some (.const (.int .i64 7)))) (.l (some 164) none (.cpy 1 (.tmp 162) (.tmp 163)) [] .done))) true 11 [0, 1, 10, 15, 16, 99, 100],
  .reg (.q (some 138) none (.mov (.tmp 14)) (.q (some 140) none (.mov (.tmp 14)) (.q (some 143) none (.mov (.tmp 14)) (.q (some 146) none (.mov (.tmp 14)) (.q (some 147) none (.iadrA 8 1 (.tmp 10) (.const (.int .i64 1))) (.q (some 148) none (.ld1 (.tmp 147)) (.q (some 149) none (.bin .and (.tmp 146) (.tmp 148)) (.q (some 150) none (.mov (.tmp 14)) (.q (some 151) none (.iadrA 8 1 (.tmp 10) (.const (.int .i64 2))) (.q (some 152) none (.ld1 (.tmp 151)) (.q (some 153) none (.bin .and (.tmp 150) (.tmp 152)) (.q (some 154) none (.bin .xor (.tmp 149) (.tmp 153)) (.q (some 155) none (.iadrA 8 1 (.tmp 10) (.const (.int .i64 1))) (.q (some 156) none (.ld1 (.tmp 155)) (.q (some 157) none (.iadrA 8 1 (.tmp 10) (.const (.int .i64 2))) (.q (some 158) none (.ld1 (.tmp 157)) (.q (some 159) none (.bin .and (.tmp 156) (.tmp 158)) (.q (some 160) none (.bin .xor (.tmp 154) (.tmp 159)) (.l (some 139) none (.call 51 [(.tmp 138), (.const (.int .i64 2))]) [⟨158, none, (.ld1 (.tmp 157))⟩, ⟨156, none, (.ld1 (.tmp 155))⟩, ⟨152, none, (.ld1 (.tmp 151))⟩, ⟨148, none, (.ld1 (.tmp 147))⟩] (.l (some 141) none (.call 51 [(.tmp 140), (.const (.int .i64 13))]) [⟨158, none, (.ld1 (.tmp 157))⟩, ⟨156, none, (.ld1 (.tmp 155))⟩, ⟨152, none, (.ld1 (.tmp 151))⟩, ⟨148, none, (.ld1 (.tmp 147))⟩] (.q (some 142) none (.bin .xor (.tmp 139) (.tmp 141)) (.l (some 144) none (.call 51 [(.tmp 143), (.const (.int .i64 22))]) [⟨158, none, (.ld1 (.tmp 157))⟩, ⟨156, none, (.ld1 (.tmp 155))⟩, ⟨152, none, (.ld1 (.tmp 151))⟩, ⟨148, none, (.ld1 (.tmp 147))⟩] (.q (some 145) none (.bin .xor (.tmp 142) (.tmp 144)) (.q (some 161) none (.bin .add (.tmp 145) (.tmp 160)) (.q (some 16) none (.mov (.tmp 161)) .done))))))))))))))))))))))))) true 12 [0, 1, 10, 15, 16, 99, 100],
  .reg (.q (some 108) none (.iadrA 8 1 (.tmp 10) (.const (.int .i64 7))) (.q (some 109) none (.ld1 (.tmp 108)) (.q (some 110) none (.mov (.tmp 13)) (.q (some 112) none (.mov (.tmp 13)) (.q (some 115) none (.mov (.tmp 13)) (.q (some 119) none (.mov (.tmp 13)) (.q (some 120) none (.iadrA 8 1 (.tmp 10) (.const (.int .i64 5))) (.q (some 121) none (.ld1 (.tmp 120)) (.q (some 122) none (.bin .and (.tmp 119) (.tmp 121)) (.q (some 123) none (.mov (.tmp 13)) (.q (some 124) none (.bnot (.tmp 123)) (.q (some 125) none (.iadrA 8 1 (.tmp 10) (.const (.int .i64 6))) (.q (some 126) none (.ld1 (.tmp 125)) (.q (some 127) none (.bin .and (.tmp 124) (.tmp 126)) (.q (some 128) none (.bin .xor (.tmp 122) (.tmp 127)) (.q (some 130) none (.mov (.tmp 1)) (.q (some 131) none (.mov (.tmp 11)) (.q (some 132) none (.nc (.tmp 130)) (.q (some 133) none (.iadrA 64 1 (.tmp 132) (.tmp 131)) (.q (some 134) none (.ld1 (.tmp 133)) (.q (some 136) none (.mov (.tmp 12)) (.l (some 111) none (.call 51 [(.tmp 110), (.const (.int .i64 6))]) [⟨134, none, (.ld1 (.tmp 133))⟩, ⟨126, none, (.ld1 (.tmp 125))⟩, ⟨121, none, (.ld1 (.tmp 120))⟩, ⟨109, none, (.ld1 (.tmp 108))⟩] (.l (some 113) none (.call 51 [(.tmp 112), (.const (.int .i64 11))]) [⟨134, none, (.ld1 (.tmp 133))⟩, ⟨126, none, (.ld1 (.tmp 125))⟩, ⟨121, none, (.ld1 (.tmp 120))⟩, ⟨109, none, (.ld1 (.tmp 108))⟩] (.q (some 114) none (.bin .xor (.tmp 111) (.tmp 113)) (.l (some 116) none (.call 51 [(.tmp 115), (.const (.int .i64 25))]) [⟨134, none, (.ld1 (.tmp 133))⟩, ⟨126, none, (.ld1 (.tmp 125))⟩, ⟨121, none, (.ld1 (.tmp 120))⟩, ⟨109, none, (.ld1 (.tmp 108))⟩] (.q (some 117) none (.bin .xor (.tmp 114) (.tmp 116)) (.q (some 118) none (.bin .add (.tmp 109) (.tmp 117)) (.q (some 129) none (.bin .add (.tmp 118) (.tmp 128)) (.q (some 135) none (.bin .add (.tmp 129) (.tmp 134)) (.q (some 137) none (.bin .add (.tmp 135) (.tmp 136)) (.q (some 15) none (.mov (.tmp 137)) .done))))))))))))))))))))))))))))))) true 13 [0, 1, 10, 14, 15, 99, 100],
  .reg (.q (some 104) none (.iadrA 8 1 (.tmp 10) (.const (.int .i64 4))) (.q (some 105) none (.ld1 (.tmp 104)) (.q (some 106) none (.iadrA 8 1 (.tmp 10) (.const (.int .i64 0))) (.q (some 107) none (.ld1 (.tmp 106)) (.q (some 13) none (.mov (.tmp 105)) (.q (some 14) none (.mov (.tmp 107)) .done)))))) true 14 [0, 1, 10, 11, 12, 13, 14, 99, 100],
  .reg (.q (some 102) none (.mov (.tmp 100)) (.q (some 103) none (.idxA 64 1 false (.tmp 99) (.tmp 100)) (.q (some 11) none (.mov (.tmp 102)) (.q (some 12) none (.mov (.tmp 103)) .done)))) false 15 [0, 1, 10, 11, 12, 99, 100],
  .cnd (.tmp 101) 16 7,
  .reg (.q (some 101) none (.bin .lss (.tmp 100) (.const (.int .i64 64))) .done) false 17 [0, 1, 10, 99, 100, 101],
  .reg (.q (some 99) none (.ldN 64 (.tmp 6)) (.q (some 100) none (.mov (.const (.int .i64 0))) .done)) false 18 [0, 1, 10, 99, 100],
  .reg (.q (some 96) none (.mov (.tmp 0)) (.q (some 97) none (.nc (.tmp 96)) (.q (some 98) none (.ldN 8 (.tmp 97)) (.l (some 10) none (.alloc 84 [(8, (.int .u32 0))]) [] (.l none none (.stN 8 (.tmp 10) (.tmp 98)) [] .done))))) false 19 [0, 1, 6, 10],
  .jmp 30,
  .reg (.q (some 95) none (.bin .add (.tmp 18) (.const (.int .i64 1))) (.q (some 18) none (.mov (.tmp 95)) .done)) false 21 [0, 1, 2, 6, 18],
  .reg (.q (some 66) none (.mov (.tmp 7)) (.q (some 67) none (.mov (.tmp 7)) (.q (some 68) none (.bin .sub (.tmp 67) (.const (.int .i64 16))) (.q (some 69) none (.iadrA 64 1 (.tmp 6) (.tmp 68)) (.q (some 70) none (.ld1 (.tmp 69)) (.q (some 71) none (.mov (.tmp 7)) (.q (some 72) none (.bin .sub (.tmp 71) (.const (.int .i64 7))) (.q (some 73) none (.iadrA 64 1 (.tmp 6) (.tmp 72)) (.q (some 74) none (.ld1 (.tmp 73)) (.q (some 75) none (.bin .add (.tmp 70) (.tmp 74)) (.q (some 76) none (.mov (.tmp 8)) (.q (some 78) none (.mov (.tmp 8)) (.q (some 81) none (.mov (.tmp 8)) (.q (some 82) none (.bin .shr (.tmp 81) (.const (.int .u64 3))) (.q (some 85) none (.mov (.tmp 9)) (.q (some 87) none (.mov (.tmp 9)) (.q (some 90) none (.mov (.tmp 9)) (.q (some 91) none (.bin .shr (.tmp 90) (.const (.int .u64 10))) (.l (some 77) none (.call 51 [(.tmp 76), (.const (.int .i64 7))]) [⟨74, none, (.ld1 (.tmp 73))⟩, ⟨70, none, (.ld1 (.tmp 69))⟩] (.l (some 79) none (.call 51 [(.tmp 78), (.const (.int .i64 18))]) [⟨74, none, (.ld1 (.tmp 73))⟩, ⟨70, none, (.ld1 (.tmp 69))⟩] (.q (some 80) none (.bin .xor (.tmp 77) (.tmp 79)) (.q (some 83) none (.bin .xor (.tmp 80) (.tmp 82)) (.q (some 84) none (.bin .add (.tmp 75) (.tmp 83)) (.l (some 86) none (.call 51 [(.tmp 85), (.const (.int .i64 17))]) [⟨74, none, (.ld1 (.tmp 73))⟩, ⟨70, none, (.ld1 (.tmp 69))⟩] (.l (some 88) none (.call 51 [(.tmp 87), (.const (.int .i64 19))]) [⟨74, none, (.ld1 (.tmp 73))⟩, ⟨70, none, (.ld1 (.tmp 69))⟩] (.q (some 89) none (.bin .xor (.tmp 86) (.tmp 88)) (.q (some 92) none (.bin .xor (.tmp 89) (.tmp 91)) (.q (some 93) none (.bin .add (.tmp 84) (.tmp 92)) (.q (some 94) none (.iadrA 64 1 (.tmp 6) (.tmp 66)) (.l none none (.st1 (.tmp 94) (.tmp 93)) [] .done)))))))))))))))))))))))))))))) true 22 [0, 1, 2, 6, 18],
  .reg (.q (some 58) none (.mov (.tmp 7)) (.q (some 59) none (.bin .sub (.tmp 58) (.const (.int .i64 15))) (.q (some 60) none (.iadrA 64 1 (.tmp 6) (.tmp 59)) (.q (some 61) none (.ld1 (.tmp 60)) (.q (some 62) none (.mov (.tmp 7)) (.q (some 63) none (.bin .sub (.tmp 62) (.const (.int .i64 2))) (.q (some 64) none (.iadrA 64 1 (.tmp 6) (.tmp 63)) (.q (some 65) none (.ld1 (.tmp 64)) (.q (some 8) none (.mov (.tmp 61)) (.q (some 9) none (.mov (.tmp 65)) .done)))))))))) true 23 [0, 1, 2, 6, 7, 8, 9, 18],
  .reg (.q (some 23) none (.mov (.tmp 7)) (.q (some 24) none (.mov (.tmp 2)) (.q (some 25) none (.mov (.tmp 7)) (.q (some 26) none (.bin .mul (.const (.int .i64 4)) (.tmp 25)) (.q (some 27) none (.iadrS 1 (.tmp 24) (.tmp 26)) (.q (some 28) none (.ld1 (.tmp 27)) (.q (some 29) none (.cvi .u32 (.tmp 28)) (.q (some 30) none (.bin .shl (.tmp 29) (.const (.int .u64 24))) (.q (some 31) none (.mov (.tmp 2)) (.q (some 32) none (.mov (.tmp 7)) (.q (some 33) none (.bin .mul (.const (.int .i64 4)) (.tmp 32)) (.q (some 34) none (.bin .add (.tmp 33) (.const (.int .i64 1))) (.q (some 35) none (.iadrS 1 (.tmp 31) (.tmp 34)) (.q (some 36) none (.ld1 (.tmp 35)) (.q (some 37) none (.cvi .u32 (.tmp 36)) (.q (some 38) none (.bin .shl (.tmp 37) (.const (.int .u64 16))) (.q (some 39) none (.bin .or (.tmp 30) (.tmp 38)) (.q (some 40) none (.mov (.tmp 2)) (.q (some 41) none (.mov (.tmp 7)) (.q (some 42) none (.bin .mul (.const (.int .i64 4)) (.tmp 41)) (.q (some 43) none (.bin .add (.tmp 42) (.const (.int .i64 2))) (.q (some 44) none (.iadrS 1 (.tmp 40) (.tmp 43)) (.q (some 45) none (.ld1 (.tmp 44)) (.q (some 46) none (.cvi .u32 (.tmp 45)) (.q (some 47) none (.bin .shl (.tmp 46) (.const (.int .u64 8))) (.q (some 48) none (.bin .or (.tmp 39) (.tmp 47)) (.q (some 49) none (.mov (.tmp 2)) (.q (some 50) none (.mov (.tmp 7)) (.q (some 51) none (.bin .mul (.const (.int .i64 4)) (.tmp 50)) (.q (some 52) none (.bin .add (.tmp 51) (.const (.int .i64 3))) (.q (some 53) none (.iadrS 1 (.tmp 49) (.tmp 52)) (.q (some 54) none (.ld1 (.tmp 53)) (.q (some 55) none (.cvi .u32 (.tmp 54)) (.q (some 56) none (.bin .or (.tmp 48) (.tmp 55)) (.q (some 57) none (.iadrA 64 1 (.tmp 6) (.tmp 23)) (.l none none (.st1 (.tmp 57) (.tmp 56)) [] .done)))))))))))))))))))))))))))))))))))) true 22 [0, 1, 2, 6, 18],
  .cnd (.tmp 22) 25 24,
  .reg (.q (some 21) none (.mov (.tmp 7)) (.q (some 22) none (.bin .lss (.tmp 21) (.const (.int .i64 16))) .done)) false 26 [0, 1, 2, 6, 7, 18, 22],
  .reg (.q (some 20) none (.mov (.tmp 18)) (.q (some 7) none (.mov (.tmp 20)) .done)) false 27 [0, 1, 2, 6, 7, 18],
  .cnd (.tmp 19) 28 20,
  .reg (.q (some 19) none (.bin .lss (.tmp 18) (.const (.int .i64 64))) .done) false 29 [0, 1, 2, 6, 18, 19],
  .reg (.q (some 18) none (.mov (.const (.int .i64 0))) .done) false 30 [0, 1, 2, 6, 18],
  .reg (.l (some 6) none (.alloc 98 [(64, (.int .u32 0))]) [] .done) false 31 [0, 1, 2, 6]
  ]
theorem c43_ok : cfgL Try.prog 43 = some (190, 32, c43.map Vc.Node.bare) := by kernel_rfl
/- (*strongbox/hash.Sum).Hash: entry 13 -/
def c44 : List Vc.Node := [
  .ret [.cN 2 32],
  .ret [.cN 2 32],
  .reg (.q (some 64) none (.ldN 32 (.tmp 4)) (.l none none (.stN 32 (.tmp 2) (.tmp 64)) [] .done)) false 1 [2],
  .jmp 8,
  .reg (.q (some 63) none (.bin .add (.tmp 33) (.const (.int .i64 1))) (.q (some 33) none (.mov (.tmp 63)) .done)) false 3 [2, 4, 32, 33],
  .reg (.q (some 37) none (.mov (.tmp 5)) (.q (some 38) none (.bin .mul (.const (.int .i64 4)) (.tmp 37)) (.q (some 39) none (.mov (.tmp 5)) (.q (some 40) none (.bin .mul (.const (.int .i64 4)) (.tmp 39)) (.q (some 41) none (.bin .add (.tmp 40) (.const (.int .i64 1))) (.q (some 42) none (.mov (.tmp 5)) (.q (some 43) none (.bin .mul (.const (.int .i64 4)) (.tmp 42)) (.q (some 44) none (.bin .add (.tmp 43) (.const (.int .i64 2))) (.q (some 45) none (.mov (.tmp 5)) (.q (some 46) none (.bin .mul (.const (.int .i64 4)) (.tmp 45)) (.q (some 47) none (.bin .add (.tmp 46) (.const (.int .i64 3))) (.q (some 48) none (.mov (.tmp 6)) (.q (some 49) none (.bin .shr (.tmp 48) (.const (.int .u64 24))) (.q (some 50) none (.cvi .u8 (.tmp 49)) (.q (some 51) none (.mov (.tmp 6)) (.q (some 52) none (.bin .shr (.tmp 51) (.const (.int .u64 16))) (.q (some 53) none (.cvi .u8 (.tmp 52)) (.q (some 54) none (.mov (.tmp 6)) (.q (some 55) none (.bin .shr (.tmp 54) (.const (.int .u64 8))) (.q (some 56) none (.cvi .u8 (.tmp 55)) (.q (some 57) none (.mov (.tmp 6)) (.q (some 58) none (.cvi .u8 (.tmp 57)) (.q (some 59) none (.iadrA 32 1 (.tmp 4) (.tmp 38)) (.l none none (.st1 (.tmp 59) (.tmp 50)) [] (.q (some 60) none (.iadrA 32 1 (.tmp 4) (.tmp 41)) (.l none none (.st1 (.tmp 60) (.tmp 53)) [] (.q (some 61) none (.iadrA 32 1 (.tmp 4) (.tmp 44)) (.l none none (.st1 (.tmp 61) (.tmp 56)) [] (.q (some 62) none (.iadrA 32 1 (.tmp 4) (.tmp 47)) (.l none none (.st1 (.tmp 62) (.tmp 58)) [] .done)))))))))))))))))))))))))))))) false 4 [2, 4, 32, 33],
  .reg (.q (some 35) none (.mov (.tmp 33)) (.q (some 36) none (.idxA 8 1 false (.tmp 32) (.tmp 33)) (.q (some 5) none (.mov (.tmp 35)) (.q (some 6) none (.mov (.tmp 36)) .done)))) false 5 [2, 4, 5, 6, 32, 33],
  .cnd (.tmp 34) 6 2,
  .reg (.q (some 34) none (.bin .lss (.tmp 33) (.const (.int .i64 8))) .done) false 7 [2, 4, 32, 33, 34],
  .reg (.q (some 31) none (.fadr 0 (.tmp 3)) (.q (some 32) none (.ldN 8 (.tmp 31)) (.q (some 33) none (.mov (.const (.int .i64 0))) .done))) false 8 [2, 4, 32, 33],
  .reg (.l (some 4) none (.alloc 24 [(32, (.int .u8 0))]) [] .done) false 9 [2, 3, 4],
  .reg (.q (some 25) none (.mov (.tmp 0)) (.q (some 26) none (.nc (.tmp 25)) (.q (some 27) none (.fadr 9 (.tmp 26)) (.q (some 28) none (.ld1 (.tmp 27)) (.l (some 29) none (.call 53 [(.tmp 28), (.const (.int .i64 64)), (.const (.int .i64 8))]) [] (.l (some 30) none (.call 32 [(.tmp 3), (.tmp 29)]) [] .done)))))) false 10 [2, 3],
  .reg (.q (some 7) none (.mov (.tmp 0)) (.q (some 8) none (.nc (.tmp 7)) (.q (some 9) none (.fadr 0 (.tmp 8)) (.q (some 10) none (.ldN 8 (.tmp 9)) (.q (some 11) none (.mov (.tmp 0)) (.q (some 12) none (.nc (.tmp 11)) (.q (some 13) none (.fadr 8 (.tmp 12)) (.q (some 14) none (.ld1 (.tmp 13)) (.q (some 16) none (.mov (.tmp 0)) (.q (some 17) none (.nc (.tmp 16)) (.q (some 18) none (.fadr 9 (.tmp 17)) (.q (some 19) none (.ld1 (.tmp 18)) (.q (some 20) none (.mov (.tmp 0)) (.q (some 21) none (.nc (.tmp 20)) (.q (some 22) none (.fadr 10 (.tmp 21)) (.q (some 23) none (.ld1 (.tmp 22)) (.alt (.l (some 15) none (.call 52 [(.tmp 14)]) [⟨23, none, (.ld1 (.tmp 22))⟩, ⟨19, none, (.ld1 (.tmp 18))⟩, ⟨10, none, (.ldN 8 (.tmp 9))⟩] (.q (some 24) none (.bld [.x 8 (.tmp 10), .x 1 (.tmp 15), .x 1 (.tmp 19), .x 1 (.tmp 23)]) (.l (some 3) none (.alloc 87 [(8, (.int .u32 0)), (1, (.slice none 0 0)), (1, (.int .u64 0)), (1, (.bool false))]) [⟨23, none, (.ld1 (.tmp 22))⟩, ⟨19, none, (.ld1 (.tmp 18))⟩, ⟨10, none, (.ldN 8 (.tmp 9))⟩] (.l none none (.stN 11 (.tmp 3) (.tmp 24)) [] .done)))) (.l (some 3) none (.alloc 87 [(8, (.int .u32 0)), (1, (.slice none 0 0)), (1, (.int .u64 0)), (1, (.bool false))]) [⟨23, none, (.ld1 (.tmp 22))⟩, ⟨19, none, (.ld1 (.tmp 18))⟩, ⟨14, none, (.ld1 (.tmp 13))⟩, ⟨10, none, (.ldN 8 (.tmp 9))⟩] (.l (some 15) none (.call 52 [(.tmp 14)]) [⟨23, none, (.ld1 (.tmp 22))⟩, ⟨19, none, (.ld1 (.tmp 18))⟩, ⟨10, none, (.ldN 8 (.tmp 9))⟩] (.q (some 24) none (.bld [.x 8 (.tmp 10), .x 1 (.tmp 15), .x 1 (.tmp 19), .x 1 (.tmp 23)]) (.l none none (.stN 11 (.tmp 3) (.tmp 24)) [] .done))))))))))))))))))))) true 11 [0, 2, 3],
  .reg (.l (some 2) none (.alloc 24 [(32, (.int .u8 0))]) [] .done) false 12 [0, 2]
  ]
theorem c44_ok : cfgL Try.prog 44 = some (65, 13, c44.map Vc.Node.bare) := by kernel_rfl
/- strongbox/hash.Sum256: entry 5 -/
def c45 : List Vc.Node := [
  .ret [.cN 2 32],
  .ret [.cN 2 32],
  .reg (.l (some 6) none (.call 44 [(.tmp 3)]) [] (.l none none (.stN 32 (.tmp 2) (.tmp 6)) [] .done)) false 1 [2],
  .reg (.q (some 4) none (.mov (.tmp 0)) (.l (some 5) none (.call 32 [(.tmp 3), (.tmp 4)]) [] .done)) false 2 [2, 3],
  .reg (.l (some 3) none (.alloc 87 [(8, (.int .u32 0)), (1, (.slice none 0 0)), (1, (.int .u64 0)), (1, (.bool false))]) [] .done) false 3 [0, 2, 3],
  .reg (.l (some 2) none (.alloc 24 [(32, (.int .u8 0))]) [] .done) false 4 [0, 2]
  ]
theorem c45_ok : cfgL Try.prog 45 = some (7, 5, c45.map Vc.Node.bare) := by kernel_rfl
/- (*strongbox/wire.Writer).number: entry 7 -/
def c48 : List Vc.Node := [
  .ret [],
  .jmp 6,
  .reg (.q (some 22) none (.bin .add (.tmp 7) (.const (.int .i64 1))) (.q (some 7) none (.mov (.tmp 22)) .done)) false 1 [0, 1, 6, 7],
  .reg (.q (some 20) none (.mov (.tmp 1)) (.q (some 21) none (.bin .shr (.tmp 20) (.const (.int .u64 8))) (.q (some 1) none (.mov (.tmp 21)) .done))) false 2 [0, 1, 6, 7],
  .reg (.q (some 9) none (.mov (.tmp 0)) (.q (some 10) none (.mov (.tmp 0)) (.q (some 11) none (.nc (.tmp 10)) (.q (some 12) none (.fadr 0 (.tmp 11)) (.q (some 13) none (.ld1 (.tmp 12)) (.q (some 14) none (.mov (.tmp 1)) (.q (some 15) none (.cvi .u8 (.tmp 14)) (.l (some 16) none (.bldS 5 1 [(.tmp 15)]) [] (.l (some 17) none (.app 5 1 1 [(1, (.int .u8 0))] (.tmp 13) (.tmp 16)) [] (.q (some 18) none (.nc (.tmp 9)) (.q (some 19) none (.fadr 0 (.tmp 18)) (.l none none (.st1 (.tmp 19) (.tmp 17)) [] .done)))))))))))) false 3 [0, 1, 6, 7],
  .cnd (.tmp 8) 4 0,
  .reg (.q (some 8) none (.bin .lss (.tmp 7) (.tmp 6)) .done) false 5 [0, 1, 6, 7, 8],
  .reg (.q (some 6) none (.mov (.tmp 2)) (.q (some 7) none (.mov (.const (.int .i64 0))) .done)) false 6 [0, 1, 6, 7]
  ]
theorem c48_ok : cfgL Try.prog 48 = some (23, 7, c48.map Vc.Node.bare) := by kernel_rfl
/- strongbox/wire.wide: entry 15 -/
def c49 : List Vc.Node := [
  .ret [.t 2],
  .ret [.t 2],
  .reg (.q (some 2) none (.mov (.const (.int .i64 8))) .done) false 1 [2],
  .ret [.t 2],
  .reg (.q (some 2) none (.mov (.const (.int .i64 0))) .done) false 3 [2],
  .ret [.t 2],
  .reg (.q (some 2) none (.mov (.const (.int .i64 2))) .done) false 5 [2],
  .ret [.t 2],
  .reg (.q (some 2) none (.mov (.const (.int .i64 4))) .done) false 7 [2],
  .cnd (.tmp 9) 8 2,
  .reg (.q (some 10) none (.mov (.tmp 0)) (.q (some 11) none (.bin .lss (.tmp 10) (.const (.int .u64 4294967296))) (.q (some 9) none (.mov (.tmp 11)) .done))) false 9 [9],
  .cnd (.tmp 6) 6 10,
  .reg (.q (some 7) none (.mov (.tmp 0)) (.q (some 8) none (.bin .lss (.tmp 7) (.const (.int .u64 65536))) (.q (some 6) none (.mov (.tmp 8)) .done))) false 11 [0, 6],
  .cnd (.tmp 3) 4 12,
  .reg (.q (some 4) none (.mov (.tmp 0)) (.q (some 5) none (.bin .lss (.tmp 4) (.const (.int .u64 253))) (.q (some 3) none (.mov (.tmp 5)) .done))) false 13 [0, 3],
  .reg (.q (some 2) none (.mov (.const (.int .i64 0))) .done) false 14 [0]
  ]
theorem c49_ok : cfgL Try.prog 49 = some (12, 15, c49.map Vc.Node.bare) := by kernel_rfl
/- (*strongbox/wire.Writer).U8: entry 1 -/
def c50 : List Vc.Node := [
  .ret [],
  .reg (.q (some 4) none (.mov (.tmp 0)) (.q (some 5) none (.mov (.tmp 1)) (.q (some 6) none (.cvi .u64 (.tmp 5)) (.l (some 7) none (.call 48 [(.tmp 4), (.tmp 6), (.const (.int .i64 1))]) [] .done)))) false 0 []
  ]
theorem c50_ok : cfgL Try.prog 50 = some (8, 1, c50.map Vc.Node.bare) := by kernel_rfl
/- strongbox/hash.right: entry 3 -/
def c51 : List Vc.Node := [
  .ret [.t 4],
  .ret [.t 4],
  .reg (.q (some 5) none (.mov (.tmp 0)) (.q (some 6) none (.mov (.tmp 1)) (.q (some 7) none (.neg (.tmp 6)) (.l (some 8) none (.call 55 [(.tmp 5), (.tmp 7)]) [] (.q (some 4) none (.mov (.tmp 8)) .done))))) false 1 [4],
  .reg (.q (some 4) none (.mov (.const (.int .u32 0))) .done) false 2 [0, 1]
  ]
theorem c51_ok : cfgL Try.prog 51 = some (9, 3, c51.map Vc.Node.bare) := by kernel_rfl
/- slices.Clone[[]byte,byte]: entry 7 -/
def c52 : List Vc.Node := [
  .ret [.t 2],
  .ret [.t 2],
  .reg (.l (some 5) none (.bldS 5 1 []) [] (.q (some 6) none (.mov (.tmp 0)) (.l (some 7) none (.app 5 1 1 [(1, (.int .u8 0))] (.tmp 5) (.tmp 6)) [] (.q (some 2) none (.mov (.tmp 7)) .done)))) false 1 [2],
  .ret [.t 2],
  .reg (.q (some 2) none (.mov (.const (.slice none 0 0))) .done) false 3 [2],
  .cnd (.tmp 4) 4 2,
  .reg (.q (some 3) none (.mov (.tmp 0)) (.q (some 4) none (.eqS false (.tmp 3) (.const (.slice none 0 0))) .done)) false 5 [0, 4],
  .reg (.q (some 2) none (.mov (.const (.slice none 0 0))) .done) false 6 [0]
  ]
theorem c52_ok : cfgL Try.prog 52 = some (8, 7, c52.map Vc.Node.bare) := by kernel_rfl
/- strongbox/hash.tail: entry 16 -/
def c53 : List Vc.Node := [
  .ret [.t 6],
  .ret [.t 6],
  .reg (.q (some 56) none (.mov (.tmp 8)) (.q (some 6) none (.mov (.tmp 56)) .done)) false 1 [6],
  .reg (.q (some 48) none (.mov (.tmp 8)) (.q (some 49) none (.mov (.tmp 8)) (.q (some 50) none (.len (.tmp 49)) (.q (some 51) none (.bin .sub (.tmp 50) (.const (.int .i64 9))) (.q (some 52) none (.mov (.tmp 0)) (.q (some 53) none (.bin .shr (.tmp 52) (.const (.int .u64 61))) (.q (some 54) none (.cvi .u8 (.tmp 53)) (.q (some 55) none (.iadrS 1 (.tmp 48) (.tmp 51)) (.l none none (.st1 (.tmp 55) (.tmp 54)) [] .done))))))))) false 2 [8],
  .cnd (.tmp 47) 3 2,
  .reg (.q (some 46) none (.mov (.tmp 2)) (.q (some 47) none (.bin .gtr (.tmp 46) (.const (.int .i64 8))) .done)) false 4 [0, 8, 47],
  .jmp 11,
  .reg (.q (some 45) none (.bin .add (.tmp 29) (.const (.int .i64 1))) (.q (some 29) none (.mov (.tmp 45)) .done)) false 6 [0, 2, 8, 29],
  .reg (.q (some 32) none (.mov (.tmp 8)) (.q (some 33) none (.mov (.tmp 8)) (.q (some 34) none (.len (.tmp 33)) (.q (some 35) none (.bin .sub (.tmp 34) (.const (.int .i64 1))) (.q (some 36) none (.mov (.tmp 9)) (.q (some 37) none (.bin .sub (.tmp 35) (.tmp 36)) (.q (some 38) none (.mov (.tmp 0)) (.q (some 39) none (.bin .shl (.tmp 38) (.const (.int .u64 3))) (.q (some 40) none (.mov (.tmp 9)) (.q (some 41) none (.bin .mul (.const (.int .i64 8)) (.tmp 40)) (.q (some 42) none (.bin .shr (.tmp 39) (.tmp 41)) (.q (some 43) none (.cvi .u8 (.tmp 42)) (.q (some 44) none (.iadrS 1 (.tmp 32) (.tmp 37)) (.l none none (.st1 (.tmp 44) (.tmp 43)) [] .done)))))))))))))) false 7 [0, 2, 8, 29],
  .reg (.q (some 31) none (.mov (.tmp 29)) (.q (some 9) none (.mov (.tmp 31)) .done)) false 8 [0, 2, 8, 9, 29],
  .cnd (.tmp 30) 9 5,
  .reg (.q (some 30) none (.bin .lss (.tmp 29) (.const (.int .i64 8))) .done) false 10 [0, 2, 8, 29, 30],
  .reg (.q (some 29) none (.mov (.const (.int .i64 0))) .done) false 11 [0, 2, 8, 29],
  .reg (.q (some 27) none (.mov (.tmp 8)) (.q (some 28) none (.iadrS 1 (.tmp 27) (.const (.int .i64 0))) (.l none none (.st1 (.tmp 28) (.const (.int .u8 128))) [] .done))) false 12 [0, 2, 8],
  .reg (.q (some 22) none (.mov (.tmp 7)) (.q (some 23) none (.bin .add (.const (.int .i64 1)) (.tmp 22)) (.q (some 24) none (.mov (.tmp 2)) (.q (some 25) none (.bin .add (.tmp 23) (.tmp 24)) (.l (some 26) none (.mkS 5 1 1 [(1, (.int .u8 0))] (.tmp 25) (.tmp 25)) [] (.q (some 8) none (.mov (.tmp 26)) .done)))))) false 13 [0, 2, 8],
  .reg (.q (some 10) none (.mov (.tmp 1)) (.q (some 11) none (.bin .sub (.tmp 10) (.const (.int .i64 1))) (.q (some 12) none (.mov (.tmp 0)) (.q (some 13) none (.mov (.tmp 1)) (.q (some 14) none (.cvi .u64 (.tmp 13)) (.q (some 15) none (.bin .rem (.tmp 12) (.tmp 14)) (.q (some 16) none (.cvi .i64 (.tmp 15)) (.q (some 17) none (.mov (.tmp 2)) (.q (some 18) none (.bin .add (.tmp 16) (.tmp 17)) (.q (some 19) none (.mov (.tmp 1)) (.q (some 20) none (.bin .rem (.tmp 18) (.tmp 19)) (.q (some 21) none (.bin .sub (.tmp 11) (.tmp 20)) (.q (some 7) none (.mov (.tmp 21)) .done))))))))))))) false 14 [0, 2, 7],
  .reg (.q (some 6) none (.mov (.const (.slice none 0 0))) .done) false 15 [0, 1, 2]
  ]
theorem c53_ok : cfgL Try.prog 53 = some (57, 16, c53.map Vc.Node.bare) := by kernel_rfl
/- math/bits.RotateLeft32: entry 4 -/
def c55 : List Vc.Node := [
  .ret [.t 4],
  .ret [.t 4],
  .reg (.q (some 9) none (.mov (.tmp 0)) (.q (some 10) none (.mov (.tmp 5)) (.q (some 11) none (.bin .shl (.tmp 9) (.tmp 10)) (.q (some 12) none (.mov (.tmp 0)) (.q (some 13) none (.mov (.tmp 5)) (.q (some 14) none (.bin .sub (.const (.int .u64 32)) (.tmp 13)) (.q (some 15) none (.bin .shr (.tmp 12) (.tmp 14)) (.q (some 16) none (.bin .or (.tmp 11) (.tmp 15)) (.q (some 4) none (.mov (.tmp 16)) .done))))))))) false 1 [4],
  .reg (.q (some 6) none (.mov (.tmp 1)) (.q (some 7) none (.cvi .u64 (.tmp 6)) (.q (some 8) none (.bin .and (.tmp 7) (.const (.int .u64 31))) (.q (some 5) none (.mov (.tmp 8)) .done)))) false 2 [0, 5],
  .reg (.q (some 4) none (.mov (.const (.int .u32 0))) .done) false 3 [0, 1]
  ]
theorem c55_ok : cfgL Try.prog 55 = some (17, 4, c55.map Vc.Node.bare) := by kernel_rfl
end Go.Proofs
namespace Go.Proofs
open Go.Vc
set_option maxRecDepth 10000

/-- The bytes as values. -/
def bv (bs : List Int) : List Value := bs.map (.int .u8)
theorem bv_len (bs : List Int) : (bv bs).length = bs.length := by simp [bv]
theorem bv_app (a b : List Int) : bv (a ++ b) = bv a ++ bv b := by simp [bv]
theorem bv_flat (bs : List Int) : flat (bv bs).toArray := by
  intro v hv; simp [bv] at hv; obtain ⟨_, _, rfl⟩ := hv; rfl
def byt (bs : List Int) : Prop := ∀ b ∈ bs, 0 ≤ b ∧ b ≤ 255
theorem byt_app {a b : List Int} (h : byt a) (k : byt b) : byt (a ++ b) := by
  intro x hx; rcases List.mem_append.1 hx with hx | hx; exact h x hx; exact k x hx
theorem byt_take {a : List Int} (h : byt a) (n : Nat) : byt (a.take n) := fun x hx => h x (List.mem_of_mem_take hx)
theorem byt_drop {a : List Int} (h : byt a) (n : Nat) : byt (a.drop n) := fun x hx => h x (List.mem_of_mem_drop hx)
theorem byt_nil : byt [] := fun _ h => by cases h

/-- A slice that reads as bytes. -/
structure Rd (w : World) (v : Value) (bs : List Int) : Prop where
  is : ∃ q c, v = .slice q bs.length c ∧ bs.length ≤ c
  mx : bs.length ≤ maxLen
  rd : rdS w 1 v = some (bv bs).toArray
theorem Rd.keep {S : Nat → Prop} {w w' : World} {v : Value} {bs : List Int} (h : Rd w v bs) (k : Keep S w w') (hS : ∀ q n c, v = .slice (some q) n c → ¬ S q.block) : Rd w' v bs := by
  obtain ⟨⟨q, c, rfl, hc⟩, hm, hr⟩ := h
  refine ⟨⟨q, c, rfl, hc⟩, hm, ?_⟩
  simp only [rdS] at hr ⊢
  split
  · rename_i h0; rw [if_pos h0] at hr; exact hr
  · rename_i h0
    rw [if_neg h0] at hr
    split at hr
    · rename_i b o
      rw [rdN_heap] at hr ⊢
      cases hb : w.heap[b]? with
      | none => rw [hb] at hr; cases hr
      | some x =>
        have hk := k.at hb (hS _ _ _ rfl)
        simp only [rdN_heap, hk]
        rw [hb] at hr; exact hr
    · cases hr
theorem Rd.ext {w w' : World} {v : Value} {bs : List Int} (h : Rd w v bs) (k : Ext w w') : Rd w' v bs := h.keep k fun _ _ _ _ h => h
theorem Rd.len {w : World} {v : Value} {bs : List Int} (h : Rd w v bs) : lenR v = some (.int .i64 bs.length) := by
  obtain ⟨⟨q, c, rfl, _⟩, _, _⟩ := h; rfl
theorem Rd.one {w : World} {v : Value} {bs : List Int} (h : Rd w v bs) : v.oneCell' = true := by
  obtain ⟨⟨q, c, rfl, _⟩, _, _⟩ := h; rfl
theorem Rd.at {w : World} {v : Value} {bs : List Int} (h : Rd w v bs) {i : Nat} (hi : i < bs.length) :
    ∃ b o c, v = .slice (some ⟨b, o, none⟩) bs.length c ∧ cellO w.heap[b]? (o + i) = some (.int .u8 bs[i]) := by
  obtain ⟨⟨q, c, rfl, _⟩, hm, hr⟩ := h
  simp only [rdS] at hr
  rw [if_neg (by omega)] at hr
  split at hr
  · rename_i b o
    refine ⟨b, o, c, rfl, ?_⟩
    rw [rdN_heap] at hr
    cases hb : w.heap[b]? with
    | none => rw [hb] at hr; cases hr
    | some x =>
      rw [hb] at hr
      cases x with
      | cells d t fr =>
        simp only [rdO] at hr
        split at hr
        · rename_i hle
          simp only [Option.some.injEq] at hr
          rw [cellO_some]
          have h1 : (d.extract o (o + bs.length * 1))[i]? = some (.int .u8 bs[i]) := by rw [hr]; simp [bv, hi]
          rw [Array.getElem?_extract] at h1
          split at h1
          · exact h1
          · cases h1
        · cases hr
      | _ => cases hr
  · cases hr
/-- The text of some bytes. -/
def strOf (bs : List Int) : ByteArray := ⟨(bs.map fun m => UInt8.ofNat m.toNat).toArray⟩
theorem bytesOf_bv (bs : List Int) : bytesOf (bv bs) = some (bs.map fun m => UInt8.ofNat m.toNat) := by
  induction bs with
  | nil => rfl
  | cons b bs ih =>
    have : bv (b :: bs) = .int .u8 b :: bv bs := rfl
    rw [this, bytesOf, ih]; rfl
theorem Rd.b2s {w : World} {v : Value} {bs : List Int} (h : Rd w v bs) : b2sR w v = some (.string (strOf bs)) := by
  obtain ⟨⟨q, c, rfl, hc⟩, hm, hr⟩ := h
  cases q with
  | none =>
    have hb0 : bs = [] := by
      cases bs with
      | nil => rfl
      | cons b bs => simp [rdS] at hr
    subst hb0; rfl
  | some a =>
    simp only [b2sR]
    by_cases h0 : bs.length = 0
    · have : bs = [] := List.eq_nil_of_length_eq_zero h0
      subst this; rfl
    · rw [if_neg h0]
      simp only [rdS, if_neg h0] at hr
      obtain ⟨b, o, sp⟩ := a
      cases sp with
      | some x => cases hr
      | none =>
        simp only [Nat.mul_one] at hr
        simp only [hr, Option.bind_some, bytesOf_bv, Option.map_some]
        rfl
/-- A part of the bytes. -/
theorem Rd.cut {w : World} {q : Option Addr} {n c : Nat} {bs : List Int} (h : Rd w (.slice q n c) bs) {l j : Nat} (hl : l ≤ j) (hj : j ≤ n) : Rd w (.slice (advA 1 q c l) (j - l) (c - l)) ((bs.take j).drop l) := by
  obtain ⟨⟨q', c', e, hc⟩, hm, hr⟩ := h
  cases e
  have hlen : ((bs.take j).drop l).length = j - l := by rw [List.length_drop, List.length_take]; omega
  refine ⟨⟨_, _, by rw [hlen], by omega⟩, by omega, ?_⟩
  simp only [rdS] at hr ⊢
  split
  · rename_i h0
    have : (bs.take j).drop l = [] := List.eq_nil_of_length_eq_zero (by omega)
    rw [this]; rfl
  · rename_i h0
    rw [if_neg (by omega)] at hr
    split at hr
    · rename_i b o
      rw [rdN_heap] at hr
      have hadv : advA 1 (some ⟨b, o, none⟩) c l = some ⟨b, o + l, none⟩ := by
        unfold advA
        rw [if_neg (by omega)]
        simp only [Option.map_some, Addr.add, Nat.mul_one]
        split
        · rename_i h0; subst h0; rfl
        · rfl
      rw [hadv]
      simp only [rdN_heap]
      cases hb : w.heap[b]? with
      | none => rw [hb] at hr; cases hr
      | some x =>
        rw [hb] at hr
        cases x with
        | cells d t fr =>
          simp only [rdO] at hr ⊢
          split at hr
          · rw [if_pos (by omega)]
            simp only [Option.some.injEq] at hr ⊢
            apply Array.ext'
            have h3 := congrArg (fun x => (x.toList.take j).drop l) hr
            simp only [Array.toList_extract, List.extract_eq_take_drop, List.take_take, List.drop_take, List.drop_drop] at h3 ⊢
            rw [show o + l + (j - l) * 1 - (o + l) = j - l by omega]
            rw [show min j (o + bs.length * 1 - o) - l = j - l by omega] at h3
            rw [h3]; simp [bv, List.map_take, List.map_drop, List.drop_take]
          · cases hr
        | _ => cases hr
    · cases hr
theorem Rd.nil (w : World) : Rd w (.slice none 0 0) [] := ⟨⟨none, 0, rfl, Nat.le_refl _⟩, Nat.zero_le _, rfl⟩

/-- A slice of bytes of one's own. -/
abbrev Own1 (w : World) (v : Value) (bs : List Int) : Prop := w.ownsRow 0 5 1 v bs.length (bv bs)
theorem Own1.rd {w : World} {v : Value} {bs : List Int} (h : Own1 w v bs) : Rd w v bs := by
  refine ⟨?_, row_max h, rdS_own h⟩
  obtain ⟨_, ⟨rfl, h0⟩ | ⟨g, cap, cur, rfl, _, _, hn, _⟩⟩ := h
  · exact ⟨none, 0, by rw [h0], by omega⟩
  · exact ⟨_, _, rfl, hn⟩
theorem Own1.nil (w : World) : Own1 w (.slice none 0 0) [] := ⟨rfl, .inl ⟨rfl, rfl⟩⟩
theorem row_type {w : World} {base el size n : Nat} {v : Value} {xs : List Value} (h : w.ownsRow base el size v n xs) {g : Nat} (hg : v.ownBlock = some g) : ∃ cur, w.heap[g]? = some (.cells cur el (0, 0)) := by
  obtain ⟨_, ⟨rfl, _⟩ | ⟨g', cap, cur, rfl, hbg, hh, _⟩⟩ := h
  · cases hg
  · cases hg; exact ⟨cur, hh⟩
/-- 'b' is the block of the slice. -/
def blk (v : Value) (g : Nat) : Prop := v.ownBlock = some g
theorem Own1.lt {w : World} {v : Value} {bs : List Int} (h : Own1 w v bs) {g : Nat} (hg : blk v g) : g < w.heap.size := by
  obtain ⟨cur, hc⟩ := row_type h hg
  exact lt_of_heap hc
theorem Own1.keep {S : Nat → Prop} {w w' : World} {v : Value} {bs : List Int} (h : Own1 w v bs) (k : Keep S w w') (hS : ∀ g, blk v g → ¬ S g) : Own1 w' v bs := ownsRow_keep h k hS
theorem Own1.ext {w w' : World} {v : Value} {bs : List Int} (h : Own1 w v bs) (k : Ext w w') : Own1 w' v bs := ownsRow_keep h k fun _ _ h => h
theorem own_lit {w : World} {el size n : Nat} {cs : List Value} (hl : cs.length = n * size) (hn : n ≤ maxLen) : (w.alloc (.cells cs.toArray el)).ownsRow 0 el size (.slice (some ⟨w.heap.size, 0, none⟩) n n) n cs := by
  refine ⟨hl, .inr ⟨w.heap.size, n, cs.toArray, rfl, Nat.zero_le _, heap_new _ _ _ rfl, Nat.le_refl _, hn, by simp [hl], ?_⟩⟩
  rw [← hl]; simp
theorem own_lit1 {w : World} {bs : List Int} (hn : bs.length ≤ maxLen) : Own1 (w.alloc (.cells (bv bs).toArray 5)) (.slice (some ⟨w.heap.size, 0, none⟩) bs.length bs.length) bs :=
  own_lit (by rw [bv_len, Nat.mul_one]) hn

/-- 'append' of bytes onto a slice of one's own. -/
theorem appB {w : World} {v x : Value} {bs news : List Int} {K : Value → World → Prop} (h : Own1 w v bs) (hx : Rd w x news) (hlen : bs.length + news.length ≤ 1000000000)
    (hk : ∀ v' w', Own1 w' v' (bs ++ news) → Keep (blk v) w w' → (∀ g, blk v' g → blk v g ∨ w.heap.size ≤ g) → K v' w') : appV 5 1 1 [.int .u8 0] v x w K := by
  obtain ⟨⟨q, c, rfl, hc⟩, hm, hr⟩ := hx
  have hml : maxLen = 9223372036854775807 := rfl
  refine appV_own3 h rfl hr (bv_flat news) (by omega) (by omega) rfl (Nat.zero_le _) (by omega) fun v' w' ho hg hb => hk v' w' ?_ ?_ hb
  · have e : bv (bs ++ news) = bv bs ++ (bv news).toArray.toList := by rw [bv_app]
    show w'.ownsRow 0 5 1 v' (bs ++ news).length (bv (bs ++ news))
    rw [e, List.length_append]; exact ho
  · exact (Keep.refl _ w).grown hg fun k _ h => h
/-- The same, behind a literal of bytes. -/
theorem appL {w : World} {v : Value} {bs news : List Int} {K : Value → World → Prop} (h : Own1 w v bs) (hlen : bs.length + news.length ≤ 1000000000)
    (hk : ∀ v' w', Own1 w' v' (bs ++ news) → Keep (blk v) w w' → (∀ g, blk v' g → blk v g ∨ w.heap.size ≤ g) → K v' w') :
    appV 5 1 1 [.int .u8 0] v (.slice (some ⟨w.heap.size, 0, none⟩) news.length news.length) (w.alloc (.cells (bv news).toArray 5)) K := by
  have hE : Ext w (w.alloc (.cells (bv news).toArray 5)) := (Keep.refl _ w).alloc _
  have hml : maxLen = 9223372036854775807 := rfl
  refine appB (h.ext hE) (own_lit1 (w := w) (bs := news) (by omega)).rd hlen fun v' w' h1 h2 h3 => hk v' w' h1 ((hE.mono fun _ h => h.elim).trans h2 fun _ _ h => h) fun g hg => ?_
  rcases h3 g hg with h | h
  · exact .inl h
  · exact .inr (by rw [size_alloc] at h; omega)
end Go.Proofs
namespace Go.Proofs
open Go.Vc
set_option maxRecDepth 10000

/-! ### 64 bits -/
def U64 (x : BitVec 64) : Value := .int .u64 (x.toNat : Int)
theorem U64_of (n : Nat) (h : n < 18446744073709551616) : Value.int .u64 (n : Int) = U64 (BitVec.ofNat 64 n) := by
  unfold U64
  rw [BitVec.toNat_ofNat, Nat.mod_eq_of_lt h]
theorem U64_shr (x : BitVec 64) (k : IntKind) (n : Nat) (h : n ≤ 64) : binR .shr (U64 x) (.int k (n : Int)) = some (U64 (x >>> n)) := by
  unfold U64
  rw [bin_shr, if_pos (by omega)]
  show some (Value.int .u64 ((x.toNat : Int).fdiv (2 ^ Nat.min (n : Int).toNat 64))) = _
  rw [Int.toNat_natCast, show Nat.min n 64 = n from Nat.min_eq_left h, Int.fdiv_eq_ediv_of_nonneg _ (Int.le_of_lt (Int.pow_pos (by decide))), BitVec.toNat_ushiftRight, Nat.shiftRight_eq_div_pow]
  congr 2
theorem U64_shl (x : BitVec 64) (k : IntKind) (n : Nat) (h : n ≤ 64) : binR .shl (U64 x) (.int k (n : Int)) = some (U64 (x <<< n)) := by
  unfold U64
  rw [bin_shl, if_pos (by omega)]
  show some (Value.int .u64 (IntKind.u64.wrap ((x.toNat : Int) * (2 ^ Nat.min (n : Int).toNat 64)))) = _
  rw [Int.toNat_natCast, show Nat.min n 64 = n from Nat.min_eq_left h, BitVec.toNat_shiftLeft, Nat.shiftLeft_eq, wrap_u64]
  congr 2
/-! ### 32 bits -/
def U32 (x : BitVec 32) : Value := .int .u32 (x.toNat : Int)
theorem w32_ofInt (x : BitVec 32) : BitVec.ofInt 32 (x.toNat : Int) = x := by
  rw [BitVec.ofInt_natCast, BitVec.ofNat_toNat, BitVec.setWidth_eq]
theorem w32_wrap (x : BitVec 32) : IntKind.u32.wrap (x.toNat : Int) = (x.toNat : Int) := by
  have := x.isLt
  rw [wrap_u32]; omega
theorem U32_xor (x y : BitVec 32) : binR .xor (U32 x) (U32 y) = some (U32 (x ^^^ y)) := by
  unfold U32
  rw [bin_xor]
  show some (Value.int .u32 (IntKind.u32.wrap ((BitVec.ofInt 32 (x.toNat : Int) ^^^ BitVec.ofInt 32 (y.toNat : Int)).toNat : Int))) = _
  rw [w32_ofInt, w32_ofInt, w32_wrap]
theorem U32_and (x y : BitVec 32) : binR .and (U32 x) (U32 y) = some (U32 (x &&& y)) := by
  unfold U32
  rw [bin_and]
  show some (Value.int .u32 (IntKind.u32.wrap ((BitVec.ofInt 32 (x.toNat : Int) &&& BitVec.ofInt 32 (y.toNat : Int)).toNat : Int))) = _
  rw [w32_ofInt, w32_ofInt, w32_wrap]
theorem U32_or (x y : BitVec 32) : binR .or (U32 x) (U32 y) = some (U32 (x ||| y)) := by
  unfold U32
  rw [bin_or]
  show some (Value.int .u32 (IntKind.u32.wrap ((BitVec.ofInt 32 (x.toNat : Int) ||| BitVec.ofInt 32 (y.toNat : Int)).toNat : Int))) = _
  rw [w32_ofInt, w32_ofInt, w32_wrap]
theorem U32_not (x : BitVec 32) : bnotR (U32 x) = some (U32 (~~~x)) := by
  unfold U32
  rw [bnot_i]
  show some (Value.int .u32 (IntKind.u32.wrap ((BitVec.ofInt 32 (IntKind.u32.max) ^^^ BitVec.ofInt 32 (x.toNat : Int)).toNat : Int))) = _
  have e : BitVec.ofInt 32 (IntKind.u32.max) = BitVec.allOnes 32 := by decide +kernel
  rw [e, w32_ofInt, BitVec.allOnes_xor, w32_wrap]
theorem U32_add (x y : BitVec 32) : binR .add (U32 x) (U32 y) = some (U32 (x + y)) := by
  unfold U32
  rw [bin_add, wrap_u32, BitVec.toNat_add]
  congr 2
theorem U32_shr (x : BitVec 32) (k : IntKind) (n : Nat) (h : n ≤ 32) : binR .shr (U32 x) (.int k (n : Int)) = some (U32 (x >>> n)) := by
  unfold U32
  rw [bin_shr, if_pos (by omega)]
  show some (Value.int .u32 ((x.toNat : Int).fdiv (2 ^ Nat.min (n : Int).toNat 32))) = _
  rw [Int.toNat_natCast, show Nat.min n 32 = n from Nat.min_eq_left h, Int.fdiv_eq_ediv_of_nonneg _ (Int.le_of_lt (Int.pow_pos (by decide))), BitVec.toNat_ushiftRight, Nat.shiftRight_eq_div_pow]
  congr 2
theorem U32_shl (x : BitVec 32) (k : IntKind) (n : Nat) (h : n ≤ 32) : binR .shl (U32 x) (.int k (n : Int)) = some (U32 (x <<< n)) := by
  unfold U32
  rw [bin_shl, if_pos (by omega)]
  show some (Value.int .u32 (IntKind.u32.wrap ((x.toNat : Int) * (2 ^ Nat.min (n : Int).toNat 32)))) = _
  rw [Int.toNat_natCast, show Nat.min n 32 = n from Nat.min_eq_left h, BitVec.toNat_shiftLeft, Nat.shiftLeft_eq, wrap_u32]
  congr 2
end Go.Proofs
namespace Go.Proofs
open Go.Vc
set_option maxRecDepth 10000

theorem eqS_some (neg : Bool) (a : Addr) (n c m d : Nat) : eqSR neg (.slice (some a) n c) (.slice none m d) = some (.bool neg) := by simp [eqSR]
theorem eqS_none (neg : Bool) (n c m d : Nat) : eqSR neg (.slice none n c) (.slice none m d) = some (.bool (!neg)) := by simp [eqSR]

/-- A copy of one's own: what bytes.Clone hands back. -/
theorem clone_ok (w : World) (v : Value) (bs : List Int) (h : Rd w v bs) (hn : bs.length ≤ 1000000000) :
    Calls Try.prog 29 #[v] w (Ret fun u w' => Own1 w' u bs ∧ Ext w w' ∧ ∀ g, blk u g → w.heap.size ≤ g) := by
  refine calls_of_cfg c29_ok (Nat.le_of_ble_eq_true rfl) ?_
  simp only [argE_nil, argE_cons, Nat.reduceAdd, Nat.zero_add]
  have h0 := h
  obtain ⟨⟨q, c, rfl, hc⟩, hm, hr⟩ := h
  (refine W_at c29_ok ?_; refine ⟨_, rfl, ?_⟩; simp (disch := first | omega | assumption | rfl | (simp only [vcS] <;> omega) | fail) only [↓ptV_l, ↓vcA, vcB, ↓vcD, vcE, ↓reduceIte, Nat.reduceEqDiff, Nat.reduceAdd, Nat.reduceMul, Nat.reduceLeDiff, Int.reduceLE, Int.reduceLT, Int.reduceEq, Int.reduceToNat, Int.reduceAdd, Int.reduceSub, Int.reduceMul, Int.reduceNeg, reduceCtorEq, Option.bind_some, Option.map_some, List.length_cons, List.length_nil, vcM, List.getElem?_toArray, List.getElem?_cons_zero, List.getElem?_cons_succ])
  cases q with
  | none =>
    have hb0 : bs = [] := by
      cases bs with
      | nil => rfl
      | cons b bs =>
        simp only [rdS, List.length_cons] at hr
        rw [if_neg (by omega)] at hr; cases hr
    subst hb0
    (refine W_at c29_ok ?_; refine ⟨_, rfl, ?_⟩; simp (disch := first | omega | assumption | rfl | (simp only [vcS] <;> omega) | fail) only [↓ptV_l, ↓vcA, vcB, ↓vcD, vcE, ↓reduceIte, Nat.reduceEqDiff, Nat.reduceAdd, Nat.reduceMul, Nat.reduceLeDiff, Int.reduceLE, Int.reduceLT, Int.reduceEq, Int.reduceToNat, Int.reduceAdd, Int.reduceSub, Int.reduceMul, Int.reduceNeg, reduceCtorEq, Option.bind_some, Option.map_some, List.length_cons, List.length_nil, vcM, List.getElem?_toArray, List.getElem?_cons_zero, List.getElem?_cons_succ, eqS_none])
    (refine W_at c29_ok ?_; refine ⟨_, rfl, ?_⟩; simp (disch := first | omega | assumption | rfl | (simp only [vcS] <;> omega) | fail) only [↓ptV_l, ↓vcA, vcB, ↓vcD, vcE, ↓reduceIte, Nat.reduceEqDiff, Nat.reduceAdd, Nat.reduceMul, Nat.reduceLeDiff, Int.reduceLE, Int.reduceLT, Int.reduceEq, Int.reduceToNat, Int.reduceAdd, Int.reduceSub, Int.reduceMul, Int.reduceNeg, reduceCtorEq, Option.bind_some, Option.map_some, List.length_cons, List.length_nil, vcM, List.getElem?_toArray, List.getElem?_cons_zero, List.getElem?_cons_succ])
    (refine W_at c29_ok ?_; refine ⟨_, rfl, ?_⟩; simp (disch := first | omega | assumption | rfl | (simp only [vcS] <;> omega) | fail) only [↓ptV_l, ↓vcA, vcB, ↓vcD, vcE, ↓reduceIte, Nat.reduceEqDiff, Nat.reduceAdd, Nat.reduceMul, Nat.reduceLeDiff, Int.reduceLE, Int.reduceLT, Int.reduceEq, Int.reduceToNat, Int.reduceAdd, Int.reduceSub, Int.reduceMul, Int.reduceNeg, reduceCtorEq, Option.bind_some, Option.map_some, List.length_cons, List.length_nil, vcM, List.getElem?_toArray, List.getElem?_cons_zero, List.getElem?_cons_succ])
    (refine W_at c29_ok ?_; refine ⟨_, rfl, ?_⟩; simp (disch := first | omega | assumption | rfl | (simp only [vcS] <;> omega) | fail) only [↓ptV_l, ↓vcA, vcB, ↓vcD, vcE, ↓reduceIte, Nat.reduceEqDiff, Nat.reduceAdd, Nat.reduceMul, Nat.reduceLeDiff, Int.reduceLE, Int.reduceLT, Int.reduceEq, Int.reduceToNat, Int.reduceAdd, Int.reduceSub, Int.reduceMul, Int.reduceNeg, reduceCtorEq, Option.bind_some, Option.map_some, List.length_cons, List.length_nil, vcM, List.getElem?_toArray, List.getElem?_cons_zero, List.getElem?_cons_succ, Ret_returned])
    exact ⟨Own1.nil w, Keep.refl _ w, fun g hg => by cases hg⟩
  | some a =>
    (refine W_at c29_ok ?_; refine ⟨_, rfl, ?_⟩; simp (disch := first | omega | assumption | rfl | (simp only [vcS] <;> omega) | fail) only [↓ptV_l, ↓vcA, vcB, ↓vcD, vcE, ↓reduceIte, Nat.reduceEqDiff, Nat.reduceAdd, Nat.reduceMul, Nat.reduceLeDiff, Int.reduceLE, Int.reduceLT, Int.reduceEq, Int.reduceToNat, Int.reduceAdd, Int.reduceSub, Int.reduceMul, Int.reduceNeg, reduceCtorEq, Option.bind_some, Option.map_some, List.length_cons, List.length_nil, vcM, List.getElem?_toArray, List.getElem?_cons_zero, List.getElem?_cons_succ, eqS_some])
    (refine W_at c29_ok ?_; refine ⟨_, rfl, ?_⟩; simp (disch := first | omega | assumption | rfl | (simp only [vcS] <;> omega) | fail) only [↓ptV_l, ↓vcA, vcB, ↓vcD, vcE, ↓reduceIte, Nat.reduceEqDiff, Nat.reduceAdd, Nat.reduceMul, Nat.reduceLeDiff, Int.reduceLE, Int.reduceLT, Int.reduceEq, Int.reduceToNat, Int.reduceAdd, Int.reduceSub, Int.reduceMul, Int.reduceNeg, reduceCtorEq, Option.bind_some, Option.map_some, List.length_cons, List.length_nil, vcM, List.getElem?_toArray, List.getElem?_cons_zero, List.getElem?_cons_succ])
    (refine W_at c29_ok ?_; refine ⟨_, rfl, ?_⟩; simp (disch := first | omega | assumption | rfl | (simp only [vcS] <;> omega) | fail) only [↓ptV_l, ↓vcA, vcB, ↓vcD, vcE, ↓reduceIte, Nat.reduceEqDiff, Nat.reduceAdd, Nat.reduceMul, Nat.reduceLeDiff, Int.reduceLE, Int.reduceLT, Int.reduceEq, Int.reduceToNat, Int.reduceAdd, Int.reduceSub, Int.reduceMul, Int.reduceNeg, reduceCtorEq, Option.bind_some, Option.map_some, List.length_cons, List.length_nil, vcM, List.getElem?_toArray, List.getElem?_cons_zero, List.getElem?_cons_succ])
    have hE : Ext w (w.alloc (.cells #[] 5)) := by (repeat' first | exact Keep.refl _ _ | assumption | refine Keep.drew ?_ | refine Keep.alloc ?_ _ | refine Keep.putN ?_ _ ?_ | refine Keep.setCell ?_ _ ?_ | refine Keep.setO ?_ _ ?_ | exact fun _ => Or.inl rfl | exact fun _ => Or.inr rfl | exact fun _ => rfl | (intro hh; exfalso; ((try simp only [vcS] at hh) <;> omega)))
    have ho : Own1 (w.alloc (.cells #[] 5)) (.slice (some ⟨w.heap.size, 0, none⟩) 0 0) [] := own_lit1 (bs := []) (Nat.zero_le _)
    refine appB ho (h0.ext hE) (by simp; omega) fun v' w' h1 h2 h3 => ?_
    (refine W_at c29_ok ?_; refine ⟨_, rfl, ?_⟩; simp (disch := first | omega | assumption | rfl | (simp only [vcS] <;> omega) | fail) only [↓ptV_l, ↓vcA, vcB, ↓vcD, vcE, ↓reduceIte, Nat.reduceEqDiff, Nat.reduceAdd, Nat.reduceMul, Nat.reduceLeDiff, Int.reduceLE, Int.reduceLT, Int.reduceEq, Int.reduceToNat, Int.reduceAdd, Int.reduceSub, Int.reduceMul, Int.reduceNeg, reduceCtorEq, Option.bind_some, Option.map_some, List.length_cons, List.length_nil, vcM, List.getElem?_toArray, List.getElem?_cons_zero, List.getElem?_cons_succ, Ret_returned])
    refine ⟨h1, hE.trans h2 fun i hi hb => ?_, fun g hg => ?_⟩
    · cases hb; exact absurd hi (Nat.lt_irrefl _)
    · rcases h3 g hg with hb | hb
      · cases hb; exact Nat.le_refl _
      · rw [size_alloc] at hb; omega

/-- The writer's block. -/
structure WAt (w : World) (p : Nat) (v : Value) (bs : List Int) : Prop where
  at' : w.heap[p]? = some (.cells #[v] 91 (0, 0))
  own : Own1 w v bs
theorem WAt.keep {S : Nat → Prop} {w w' : World} {p : Nat} {v : Value} {bs : List Int} (h : WAt w p v bs) (k : Keep S w w') (hp : ¬ S p) (hS : ∀ g, blk v g → ¬ S g) : WAt w' p v bs := ⟨k.at h.at' hp, h.own.keep k hS⟩
theorem WAt.ne {w : World} {p : Nat} {v : Value} {bs : List Int} (h : WAt w p v bs) : ¬ blk v p := fun hb => by
  obtain ⟨cur, hc⟩ := row_type h.own hb
  rw [h.at'] at hc; cases hc
/-- What a step of the writer changes. -/
def WS (p : Nat) (v : Value) (i : Nat) : Prop := i = p ∨ blk v i
/-- What a step of the writer leaves: more bytes. -/
structure WTo (w w' : World) (p : Nat) (v : Value) (bs : List Int) : Prop where
  to : ∃ v', WAt w' p v' bs ∧ ∀ g, blk v' g → blk v g ∨ w.heap.size ≤ g
  keep : Keep (WS p v) w w'
theorem WTo.trans {w w1 w2 : World} {p : Nat} {v v1 : Value} {bs : List Int} (h1 : Keep (WS p v) w w1) (hb : ∀ g, blk v1 g → blk v g ∨ w.heap.size ≤ g) (h2 : WTo w1 w2 p v1 bs) : WTo w w2 p v bs := by
  obtain ⟨⟨v2, ha, hg⟩, hk⟩ := h2
  refine ⟨⟨v2, ha, fun g h => ?_⟩, h1.trans hk fun i hi hs => ?_⟩
  · rcases hg g h with h | h
    · exact hb g h
    · exact .inr (Nat.le_trans h1.size h)
  · rcases hs with rfl | hs
    · exact .inl rfl
    · rcases hb i hs with h | h
      · exact .inr h
      · omega

theorem WAt.lt {w : World} {p : Nat} {v : Value} {bs : List Int} (h : WAt w p v bs) : p < w.heap.size := lt_of_heap h.at'
/-- The new slice is stored. -/
theorem WAt.store {w w1 : World} {p : Nat} {v v' : Value} {bs bs' : List Int} (h : WAt w p v bs) (ho : Own1 w1 v' bs') (hk : Keep (blk v) w w1) (hb : ∀ g, blk v' g → blk v g ∨ w.heap.size ≤ g) :
    w1.heap[p]? = some (.cells #[v] 91 (0, 0)) ∧ WAt (w1.setCell ⟨p, 0, none⟩ v') p v' bs' ∧ Keep (WS p v) w (w1.setCell ⟨p, 0, none⟩ v') := by
  have hp := hk.at h.at' h.ne
  refine ⟨hp, ⟨?_, ?_⟩, ?_⟩
  · rw [heap_setCell_eq hp]; rfl
  · refine ho.keep (S := fun i => i = p) ((Keep.refl _ w1).setCell _ fun _ => rfl) ?_
    rintro g hg rfl
    rcases hb _ hg with hb | hb
    · exact h.ne hb
    · have := h.lt; omega
  · exact (hk.mono fun _ h => .inr h).setCell _ fun _ => .inl rfl

/-- A number's lowest n bytes. -/
def lowF : Nat → Int → List Int
  | 0, _ => []
  | n + 1, x => x % 256 :: lowF n (x / 256)
theorem lowF_len : ∀ (n : Nat) (x : Int), (lowF n x).length = n
  | 0, _ => rfl
  | n + 1, x => by simp [lowF, lowF_len n]
theorem lowF_byt : ∀ (n : Nat) (x : Int), byt (lowF n x)
  | 0, _ => byt_nil
  | n + 1, x => by
    intro b hb
    simp only [lowF, List.mem_cons] at hb
    rcases hb with rfl | hb
    · omega
    · exact lowF_byt n _ b hb
theorem shr_8 (x : Int) : x.fdiv (2 ^ Nat.min 8 IntKind.u64.bits) = x / 256 := by
  show x.fdiv (2 ^ (Nat.min 8 64)) = x / 256
  rw [show Nat.min 8 64 = 8 from rfl, Int.fdiv_eq_ediv_of_nonneg _ (by decide)]
  rfl

theorem number_ok (w : World) (p : Nat) (v : Value) (bs : List Int) (x : Int) (n : Nat) (h : WAt w p v bs) (hn : n ≤ 8) (hl : bs.length ≤ 100000000) :
    Calls Try.prog 48 #[.pointer (some ⟨p, 0, none⟩), .int .u64 x, .int .i64 n] w (Ret fun _ w' => WTo w w' p v (bs ++ lowF n x)) := by
  refine calls_of_cfg c48_ok (Nat.le_of_ble_eq_true rfl) ?_
  simp only [argE_nil, argE_cons, Nat.reduceAdd, Nat.zero_add]
  (refine W_at c48_ok ?_; refine ⟨_, rfl, ?_⟩; simp (disch := first | omega | assumption | rfl | (simp only [vcS] <;> omega) | fail) only [↓ptV_l, ↓vcA, vcB, ↓vcD, vcE, ↓reduceIte, Nat.reduceEqDiff, Nat.reduceAdd, Nat.reduceMul, Nat.reduceLeDiff, Int.reduceLE, Int.reduceLT, Int.reduceEq, Int.reduceToNat, Int.reduceAdd, Int.reduceSub, Int.reduceMul, Int.reduceNeg, reduceCtorEq, Option.bind_some, Option.map_some, List.length_cons, List.length_nil, vcM, List.getElem?_toArray, List.getElem?_cons_zero, List.getElem?_cons_succ])
  generalize hT : bs ++ lowF n x = T
  have L : ∀ (k i : Nat) (x : Int) (wj : World) (vj : Value) (bj : List Int), k + i = n → WAt wj p vj bj → Keep (WS p v) w wj → (∀ g, blk vj g → blk v g ∨ w.heap.size ≤ g) → bj.length + k ≤ 1000000000 → bj ++ lowF k x = T →
      W Try.prog (Ret fun _ w' => WTo w w' p v T) 48 6 [(0, .pointer (some ⟨p, 0, none⟩)), (1, .int .u64 x), (6, .int .i64 n), (7, .int .i64 i)] wj := by
    intro k
    induction k with
    | zero =>
      intro i x wj vj bj hk hW hK hB hl hT
      have hlt : ¬ ((i : Int) < n) := by omega
      (refine W_at c48_ok ?_; refine ⟨_, rfl, ?_⟩; simp (disch := first | omega | assumption | rfl | (simp only [vcS] <;> omega) | fail) only [↓ptV_l, ↓vcA, vcB, ↓vcD, vcE, ↓reduceIte, Nat.reduceEqDiff, Nat.reduceAdd, Nat.reduceMul, Nat.reduceLeDiff, Int.reduceLE, Int.reduceLT, Int.reduceEq, Int.reduceToNat, Int.reduceAdd, Int.reduceSub, Int.reduceMul, Int.reduceNeg, reduceCtorEq, Option.bind_some, Option.map_some, List.length_cons, List.length_nil, vcM, List.getElem?_toArray, List.getElem?_cons_zero, List.getElem?_cons_succ, hlt])
      (refine W_at c48_ok ?_; refine ⟨_, rfl, ?_⟩; simp (disch := first | omega | assumption | rfl | (simp only [vcS] <;> omega) | fail) only [↓ptV_l, ↓vcA, vcB, ↓vcD, vcE, ↓reduceIte, Nat.reduceEqDiff, Nat.reduceAdd, Nat.reduceMul, Nat.reduceLeDiff, Int.reduceLE, Int.reduceLT, Int.reduceEq, Int.reduceToNat, Int.reduceAdd, Int.reduceSub, Int.reduceMul, Int.reduceNeg, reduceCtorEq, Option.bind_some, Option.map_some, List.length_cons, List.length_nil, vcM, List.getElem?_toArray, List.getElem?_cons_zero, List.getElem?_cons_succ])
      (refine W_at c48_ok ?_; refine ⟨_, rfl, ?_⟩; simp (disch := first | omega | assumption | rfl | (simp only [vcS] <;> omega) | fail) only [↓ptV_l, ↓vcA, vcB, ↓vcD, vcE, ↓reduceIte, Nat.reduceEqDiff, Nat.reduceAdd, Nat.reduceMul, Nat.reduceLeDiff, Int.reduceLE, Int.reduceLT, Int.reduceEq, Int.reduceToNat, Int.reduceAdd, Int.reduceSub, Int.reduceMul, Int.reduceNeg, reduceCtorEq, Option.bind_some, Option.map_some, List.length_cons, List.length_nil, vcM, List.getElem?_toArray, List.getElem?_cons_zero, List.getElem?_cons_succ, Ret_returned])
      rw [lowF, List.append_nil] at hT
      rw [← hT]
      exact ⟨⟨vj, hW, hB⟩, hK⟩
    | succ k ih =>
      intro i x wj vj bj hk hW hK hB hl hT
      have hlt : ((i : Int) < n) := by omega
      have hwi : IntKind.i64.wrap ((i : Int) + 1) = ((i + 1 : Nat) : Int) := wrap_i64 (by omega) (by omega)
      have hat := hW.at'
      (refine W_at c48_ok ?_; refine ⟨_, rfl, ?_⟩; simp (disch := first | omega | assumption | rfl | (simp only [vcS] <;> omega) | fail) only [↓ptV_l, ↓vcA, vcB, ↓vcD, vcE, ↓reduceIte, Nat.reduceEqDiff, Nat.reduceAdd, Nat.reduceMul, Nat.reduceLeDiff, Int.reduceLE, Int.reduceLT, Int.reduceEq, Int.reduceToNat, Int.reduceAdd, Int.reduceSub, Int.reduceMul, Int.reduceNeg, reduceCtorEq, Option.bind_some, Option.map_some, List.length_cons, List.length_nil, vcM, List.getElem?_toArray, List.getElem?_cons_zero, List.getElem?_cons_succ, hlt])
      (refine W_at c48_ok ?_; refine ⟨_, rfl, ?_⟩; simp (disch := first | omega | assumption | rfl | (simp only [vcS] <;> omega) | fail) only [↓ptV_l, ↓vcA, vcB, ↓vcD, vcE, ↓reduceIte, Nat.reduceEqDiff, Nat.reduceAdd, Nat.reduceMul, Nat.reduceLeDiff, Int.reduceLE, Int.reduceLT, Int.reduceEq, Int.reduceToNat, Int.reduceAdd, Int.reduceSub, Int.reduceMul, Int.reduceNeg, reduceCtorEq, Option.bind_some, Option.map_some, List.length_cons, List.length_nil, vcM, List.getElem?_toArray, List.getElem?_cons_zero, List.getElem?_cons_succ])
      (refine W_at c48_ok ?_; refine ⟨_, rfl, ?_⟩; simp (disch := first | omega | assumption | rfl | (simp only [vcS] <;> omega) | fail) only [↓ptV_l, ↓vcA, vcB, ↓vcD, vcE, ↓reduceIte, Nat.reduceEqDiff, Nat.reduceAdd, Nat.reduceMul, Nat.reduceLeDiff, Int.reduceLE, Int.reduceLT, Int.reduceEq, Int.reduceToNat, Int.reduceAdd, Int.reduceSub, Int.reduceMul, Int.reduceNeg, reduceCtorEq, Option.bind_some, Option.map_some, List.length_cons, List.length_nil, vcM, List.getElem?_toArray, List.getElem?_cons_zero, List.getElem?_cons_succ, hat, wrap_u8])
      refine appL (news := [x % 256]) hW.own (by simp; omega) fun v' w' h1 h2 h3 => ?_
      obtain ⟨hp, hW', hK'⟩ := hW.store h1 h2 h3
      refine ⟨one_row h1, wr1_of hp (by simp), ?_⟩
      generalize w'.setCell _ _ = w'' at hW' hK' ⊢
      (refine W_at c48_ok ?_; refine ⟨_, rfl, ?_⟩; simp (disch := first | omega | assumption | rfl | (simp only [vcS] <;> omega) | fail) only [↓ptV_l, ↓vcA, vcB, ↓vcD, vcE, ↓reduceIte, Nat.reduceEqDiff, Nat.reduceAdd, Nat.reduceMul, Nat.reduceLeDiff, Int.reduceLE, Int.reduceLT, Int.reduceEq, Int.reduceToNat, Int.reduceAdd, Int.reduceSub, Int.reduceMul, Int.reduceNeg, reduceCtorEq, Option.bind_some, Option.map_some, List.length_cons, List.length_nil, vcM, List.getElem?_toArray, List.getElem?_cons_zero, List.getElem?_cons_succ, shr_8])
      (refine W_at c48_ok ?_; refine ⟨_, rfl, ?_⟩; simp (disch := first | omega | assumption | rfl | (simp only [vcS] <;> omega) | fail) only [↓ptV_l, ↓vcA, vcB, ↓vcD, vcE, ↓reduceIte, Nat.reduceEqDiff, Nat.reduceAdd, Nat.reduceMul, Nat.reduceLeDiff, Int.reduceLE, Int.reduceLT, Int.reduceEq, Int.reduceToNat, Int.reduceAdd, Int.reduceSub, Int.reduceMul, Int.reduceNeg, reduceCtorEq, Option.bind_some, Option.map_some, List.length_cons, List.length_nil, vcM, List.getElem?_toArray, List.getElem?_cons_zero, List.getElem?_cons_succ, hwi])
      (refine W_at c48_ok ?_; refine ⟨_, rfl, ?_⟩; simp (disch := first | omega | assumption | rfl | (simp only [vcS] <;> omega) | fail) only [↓ptV_l, ↓vcA, vcB, ↓vcD, vcE, ↓reduceIte, Nat.reduceEqDiff, Nat.reduceAdd, Nat.reduceMul, Nat.reduceLeDiff, Int.reduceLE, Int.reduceLT, Int.reduceEq, Int.reduceToNat, Int.reduceAdd, Int.reduceSub, Int.reduceMul, Int.reduceNeg, reduceCtorEq, Option.bind_some, Option.map_some, List.length_cons, List.length_nil, vcM, List.getElem?_toArray, List.getElem?_cons_zero, List.getElem?_cons_succ])
      refine ih (i + 1) (x / 256) w'' v' _ (by omega) hW' (hK.trans hK' fun j hj hs => ?_) (fun g hg => ?_) (by simp; omega) (by rw [← hT]; simp [lowF])
      · rcases hs with rfl | hs
        · exact .inl rfl
        · rcases hB j hs with h | h
          · exact .inr h
          · omega
      · rcases h3 g hg with h | h
        · exact hB g h
        · exact .inr (Nat.le_trans hK.size h)
  exact L n 0 x w v bs (by omega) h (Keep.refl _ w) (fun g h => .inl h) (by omega) hT

theorem u8_ok (w : World) (p : Nat) (v : Value) (bs : List Int) (x : Int) (h : WAt w p v bs) (hl : bs.length ≤ 100000000) (hx : 0 ≤ x ∧ x ≤ 255) :
    Calls Try.prog 50 #[.pointer (some ⟨p, 0, none⟩), .int .u8 x] w (Ret fun _ w' => WTo w w' p v (bs ++ lowF 1 x)) := by
  refine calls_of_cfg c50_ok (Nat.le_of_ble_eq_true rfl) ?_
  simp only [argE_nil, argE_cons, Nat.reduceAdd, Nat.zero_add]
  have hw : IntKind.u64.wrap x = x := by rw [wrap_u64]; omega
  (refine W_at c50_ok ?_; refine ⟨_, rfl, ?_⟩; simp (disch := first | omega | assumption | rfl | (simp only [vcS] <;> omega) | fail) only [↓ptV_l, ↓vcA, vcB, ↓vcD, vcE, ↓reduceIte, Nat.reduceEqDiff, Nat.reduceAdd, Nat.reduceMul, Nat.reduceLeDiff, Int.reduceLE, Int.reduceLT, Int.reduceEq, Int.reduceToNat, Int.reduceAdd, Int.reduceSub, Int.reduceMul, Int.reduceNeg, reduceCtorEq, Option.bind_some, Option.map_some, List.length_cons, List.length_nil, vcM, List.getElem?_toArray, List.getElem?_cons_zero, List.getElem?_cons_succ, hw])
  refine callV_ret (number_ok w p v bs x 1 h (by omega) hl) ?_
  intro _ w1 hT
  (refine W_at c50_ok ?_; refine ⟨_, rfl, ?_⟩; simp (disch := first | omega | assumption | rfl | (simp only [vcS] <;> omega) | fail) only [↓ptV_l, ↓vcA, vcB, ↓vcD, vcE, ↓reduceIte, Nat.reduceEqDiff, Nat.reduceAdd, Nat.reduceMul, Nat.reduceLeDiff, Int.reduceLE, Int.reduceLT, Int.reduceEq, Int.reduceToNat, Int.reduceAdd, Int.reduceSub, Int.reduceMul, Int.reduceNeg, reduceCtorEq, Option.bind_some, Option.map_some, List.length_cons, List.length_nil, vcM, List.getElem?_toArray, List.getElem?_cons_zero, List.getElem?_cons_succ, Ret_returned])
  exact hT
theorem u32_ok (w : World) (p : Nat) (v : Value) (bs : List Int) (x : Int) (h : WAt w p v bs) (hl : bs.length ≤ 100000000) (hx : 0 ≤ x ∧ x ≤ 4294967295) :
    Calls Try.prog 35 #[.pointer (some ⟨p, 0, none⟩), .int .u32 x] w (Ret fun _ w' => WTo w w' p v (bs ++ lowF 4 x)) := by
  refine calls_of_cfg c35_ok (Nat.le_of_ble_eq_true rfl) ?_
  simp only [argE_nil, argE_cons, Nat.reduceAdd, Nat.zero_add]
  have hw : IntKind.u64.wrap x = x := by rw [wrap_u64]; omega
  (refine W_at c35_ok ?_; refine ⟨_, rfl, ?_⟩; simp (disch := first | omega | assumption | rfl | (simp only [vcS] <;> omega) | fail) only [↓ptV_l, ↓vcA, vcB, ↓vcD, vcE, ↓reduceIte, Nat.reduceEqDiff, Nat.reduceAdd, Nat.reduceMul, Nat.reduceLeDiff, Int.reduceLE, Int.reduceLT, Int.reduceEq, Int.reduceToNat, Int.reduceAdd, Int.reduceSub, Int.reduceMul, Int.reduceNeg, reduceCtorEq, Option.bind_some, Option.map_some, List.length_cons, List.length_nil, vcM, List.getElem?_toArray, List.getElem?_cons_zero, List.getElem?_cons_succ, hw])
  refine callV_ret (number_ok w p v bs x 4 h (by omega) hl) ?_
  intro _ w1 hT
  (refine W_at c35_ok ?_; refine ⟨_, rfl, ?_⟩; simp (disch := first | omega | assumption | rfl | (simp only [vcS] <;> omega) | fail) only [↓ptV_l, ↓vcA, vcB, ↓vcD, vcE, ↓reduceIte, Nat.reduceEqDiff, Nat.reduceAdd, Nat.reduceMul, Nat.reduceLeDiff, Int.reduceLE, Int.reduceLT, Int.reduceEq, Int.reduceToNat, Int.reduceAdd, Int.reduceSub, Int.reduceMul, Int.reduceNeg, reduceCtorEq, Option.bind_some, Option.map_some, List.length_cons, List.length_nil, vcM, List.getElem?_toArray, List.getElem?_cons_zero, List.getElem?_cons_succ, Ret_returned])
  exact hT
theorem u64_ok (w : World) (p : Nat) (v : Value) (bs : List Int) (x : Int) (h : WAt w p v bs) (hl : bs.length ≤ 100000000) :
    Calls Try.prog 39 #[.pointer (some ⟨p, 0, none⟩), .int .u64 x] w (Ret fun _ w' => WTo w w' p v (bs ++ lowF 8 x)) := by
  refine calls_of_cfg c39_ok (Nat.le_of_ble_eq_true rfl) ?_
  simp only [argE_nil, argE_cons, Nat.reduceAdd, Nat.zero_add]
  (refine W_at c39_ok ?_; refine ⟨_, rfl, ?_⟩; simp (disch := first | omega | assumption | rfl | (simp only [vcS] <;> omega) | fail) only [↓ptV_l, ↓vcA, vcB, ↓vcD, vcE, ↓reduceIte, Nat.reduceEqDiff, Nat.reduceAdd, Nat.reduceMul, Nat.reduceLeDiff, Int.reduceLE, Int.reduceLT, Int.reduceEq, Int.reduceToNat, Int.reduceAdd, Int.reduceSub, Int.reduceMul, Int.reduceNeg, reduceCtorEq, Option.bind_some, Option.map_some, List.length_cons, List.length_nil, vcM, List.getElem?_toArray, List.getElem?_cons_zero, List.getElem?_cons_succ])
  refine callV_ret (number_ok w p v bs x 8 h (by omega) hl) ?_
  intro _ w1 hT
  (refine W_at c39_ok ?_; refine ⟨_, rfl, ?_⟩; simp (disch := first | omega | assumption | rfl | (simp only [vcS] <;> omega) | fail) only [↓ptV_l, ↓vcA, vcB, ↓vcD, vcE, ↓reduceIte, Nat.reduceEqDiff, Nat.reduceAdd, Nat.reduceMul, Nat.reduceLeDiff, Int.reduceLE, Int.reduceLT, Int.reduceEq, Int.reduceToNat, Int.reduceAdd, Int.reduceSub, Int.reduceMul, Int.reduceNeg, reduceCtorEq, Option.bind_some, Option.map_some, List.length_cons, List.length_nil, vcM, List.getElem?_toArray, List.getElem?_cons_zero, List.getElem?_cons_succ, Ret_returned])
  exact hT

/-- How many bytes a compact size has behind its first one. -/
def wideF (n : Int) : Nat := if n < 253 then 0 else if n < 65536 then 2 else if n < 4294967296 then 4 else 8
theorem wide_ok (w : World) (n : Int) : Calls Try.prog 49 #[.int .u64 n] w (Ret fun u w' => u = .int .i64 (wideF n) ∧ w' = w) := by
  refine calls_of_cfg c49_ok (Nat.le_of_ble_eq_true rfl) ?_
  simp only [argE_nil, argE_cons, Nat.reduceAdd, Nat.zero_add]
  (refine W_at c49_ok ?_; refine ⟨_, rfl, ?_⟩; simp (disch := first | omega | assumption | rfl | (simp only [vcS] <;> omega) | fail) only [↓ptV_l, ↓vcA, vcB, ↓vcD, vcE, ↓reduceIte, Nat.reduceEqDiff, Nat.reduceAdd, Nat.reduceMul, Nat.reduceLeDiff, Int.reduceLE, Int.reduceLT, Int.reduceEq, Int.reduceToNat, Int.reduceAdd, Int.reduceSub, Int.reduceMul, Int.reduceNeg, reduceCtorEq, Option.bind_some, Option.map_some, List.length_cons, List.length_nil, vcM, List.getElem?_toArray, List.getElem?_cons_zero, List.getElem?_cons_succ])
  unfold wideF
  by_cases h1 : n < 253
  · rw [if_pos h1]
    (refine W_at c49_ok ?_; refine ⟨_, rfl, ?_⟩; simp (disch := first | omega | assumption | rfl | (simp only [vcS] <;> omega) | fail) only [↓ptV_l, ↓vcA, vcB, ↓vcD, vcE, ↓reduceIte, Nat.reduceEqDiff, Nat.reduceAdd, Nat.reduceMul, Nat.reduceLeDiff, Int.reduceLE, Int.reduceLT, Int.reduceEq, Int.reduceToNat, Int.reduceAdd, Int.reduceSub, Int.reduceMul, Int.reduceNeg, reduceCtorEq, Option.bind_some, Option.map_some, List.length_cons, List.length_nil, vcM, List.getElem?_toArray, List.getElem?_cons_zero, List.getElem?_cons_succ, h1]); (refine W_at c49_ok ?_; refine ⟨_, rfl, ?_⟩; simp (disch := first | omega | assumption | rfl | (simp only [vcS] <;> omega) | fail) only [↓ptV_l, ↓vcA, vcB, ↓vcD, vcE, ↓reduceIte, Nat.reduceEqDiff, Nat.reduceAdd, Nat.reduceMul, Nat.reduceLeDiff, Int.reduceLE, Int.reduceLT, Int.reduceEq, Int.reduceToNat, Int.reduceAdd, Int.reduceSub, Int.reduceMul, Int.reduceNeg, reduceCtorEq, Option.bind_some, Option.map_some, List.length_cons, List.length_nil, vcM, List.getElem?_toArray, List.getElem?_cons_zero, List.getElem?_cons_succ]); (refine W_at c49_ok ?_; refine ⟨_, rfl, ?_⟩; simp (disch := first | omega | assumption | rfl | (simp only [vcS] <;> omega) | fail) only [↓ptV_l, ↓vcA, vcB, ↓vcD, vcE, ↓reduceIte, Nat.reduceEqDiff, Nat.reduceAdd, Nat.reduceMul, Nat.reduceLeDiff, Int.reduceLE, Int.reduceLT, Int.reduceEq, Int.reduceToNat, Int.reduceAdd, Int.reduceSub, Int.reduceMul, Int.reduceNeg, reduceCtorEq, Option.bind_some, Option.map_some, List.length_cons, List.length_nil, vcM, List.getElem?_toArray, List.getElem?_cons_zero, List.getElem?_cons_succ]); (refine W_at c49_ok ?_; refine ⟨_, rfl, ?_⟩; simp (disch := first | omega | assumption | rfl | (simp only [vcS] <;> omega) | fail) only [↓ptV_l, ↓vcA, vcB, ↓vcD, vcE, ↓reduceIte, Nat.reduceEqDiff, Nat.reduceAdd, Nat.reduceMul, Nat.reduceLeDiff, Int.reduceLE, Int.reduceLT, Int.reduceEq, Int.reduceToNat, Int.reduceAdd, Int.reduceSub, Int.reduceMul, Int.reduceNeg, reduceCtorEq, Option.bind_some, Option.map_some, List.length_cons, List.length_nil, vcM, List.getElem?_toArray, List.getElem?_cons_zero, List.getElem?_cons_succ, Ret_returned])
  rw [if_neg h1]
  by_cases h2 : n < 65536
  · rw [if_pos h2]
    (refine W_at c49_ok ?_; refine ⟨_, rfl, ?_⟩; simp (disch := first | omega | assumption | rfl | (simp only [vcS] <;> omega) | fail) only [↓ptV_l, ↓vcA, vcB, ↓vcD, vcE, ↓reduceIte, Nat.reduceEqDiff, Nat.reduceAdd, Nat.reduceMul, Nat.reduceLeDiff, Int.reduceLE, Int.reduceLT, Int.reduceEq, Int.reduceToNat, Int.reduceAdd, Int.reduceSub, Int.reduceMul, Int.reduceNeg, reduceCtorEq, Option.bind_some, Option.map_some, List.length_cons, List.length_nil, vcM, List.getElem?_toArray, List.getElem?_cons_zero, List.getElem?_cons_succ, h1]); (refine W_at c49_ok ?_; refine ⟨_, rfl, ?_⟩; simp (disch := first | omega | assumption | rfl | (simp only [vcS] <;> omega) | fail) only [↓ptV_l, ↓vcA, vcB, ↓vcD, vcE, ↓reduceIte, Nat.reduceEqDiff, Nat.reduceAdd, Nat.reduceMul, Nat.reduceLeDiff, Int.reduceLE, Int.reduceLT, Int.reduceEq, Int.reduceToNat, Int.reduceAdd, Int.reduceSub, Int.reduceMul, Int.reduceNeg, reduceCtorEq, Option.bind_some, Option.map_some, List.length_cons, List.length_nil, vcM, List.getElem?_toArray, List.getElem?_cons_zero, List.getElem?_cons_succ]); (refine W_at c49_ok ?_; refine ⟨_, rfl, ?_⟩; simp (disch := first | omega | assumption | rfl | (simp only [vcS] <;> omega) | fail) only [↓ptV_l, ↓vcA, vcB, ↓vcD, vcE, ↓reduceIte, Nat.reduceEqDiff, Nat.reduceAdd, Nat.reduceMul, Nat.reduceLeDiff, Int.reduceLE, Int.reduceLT, Int.reduceEq, Int.reduceToNat, Int.reduceAdd, Int.reduceSub, Int.reduceMul, Int.reduceNeg, reduceCtorEq, Option.bind_some, Option.map_some, List.length_cons, List.length_nil, vcM, List.getElem?_toArray, List.getElem?_cons_zero, List.getElem?_cons_succ, h2]); (refine W_at c49_ok ?_; refine ⟨_, rfl, ?_⟩; simp (disch := first | omega | assumption | rfl | (simp only [vcS] <;> omega) | fail) only [↓ptV_l, ↓vcA, vcB, ↓vcD, vcE, ↓reduceIte, Nat.reduceEqDiff, Nat.reduceAdd, Nat.reduceMul, Nat.reduceLeDiff, Int.reduceLE, Int.reduceLT, Int.reduceEq, Int.reduceToNat, Int.reduceAdd, Int.reduceSub, Int.reduceMul, Int.reduceNeg, reduceCtorEq, Option.bind_some, Option.map_some, List.length_cons, List.length_nil, vcM, List.getElem?_toArray, List.getElem?_cons_zero, List.getElem?_cons_succ]); (refine W_at c49_ok ?_; refine ⟨_, rfl, ?_⟩; simp (disch := first | omega | assumption | rfl | (simp only [vcS] <;> omega) | fail) only [↓ptV_l, ↓vcA, vcB, ↓vcD, vcE, ↓reduceIte, Nat.reduceEqDiff, Nat.reduceAdd, Nat.reduceMul, Nat.reduceLeDiff, Int.reduceLE, Int.reduceLT, Int.reduceEq, Int.reduceToNat, Int.reduceAdd, Int.reduceSub, Int.reduceMul, Int.reduceNeg, reduceCtorEq, Option.bind_some, Option.map_some, List.length_cons, List.length_nil, vcM, List.getElem?_toArray, List.getElem?_cons_zero, List.getElem?_cons_succ]); (refine W_at c49_ok ?_; refine ⟨_, rfl, ?_⟩; simp (disch := first | omega | assumption | rfl | (simp only [vcS] <;> omega) | fail) only [↓ptV_l, ↓vcA, vcB, ↓vcD, vcE, ↓reduceIte, Nat.reduceEqDiff, Nat.reduceAdd, Nat.reduceMul, Nat.reduceLeDiff, Int.reduceLE, Int.reduceLT, Int.reduceEq, Int.reduceToNat, Int.reduceAdd, Int.reduceSub, Int.reduceMul, Int.reduceNeg, reduceCtorEq, Option.bind_some, Option.map_some, List.length_cons, List.length_nil, vcM, List.getElem?_toArray, List.getElem?_cons_zero, List.getElem?_cons_succ, Ret_returned])
  rw [if_neg h2]
  by_cases h3 : n < 4294967296
  · rw [if_pos h3]
    (refine W_at c49_ok ?_; refine ⟨_, rfl, ?_⟩; simp (disch := first | omega | assumption | rfl | (simp only [vcS] <;> omega) | fail) only [↓ptV_l, ↓vcA, vcB, ↓vcD, vcE, ↓reduceIte, Nat.reduceEqDiff, Nat.reduceAdd, Nat.reduceMul, Nat.reduceLeDiff, Int.reduceLE, Int.reduceLT, Int.reduceEq, Int.reduceToNat, Int.reduceAdd, Int.reduceSub, Int.reduceMul, Int.reduceNeg, reduceCtorEq, Option.bind_some, Option.map_some, List.length_cons, List.length_nil, vcM, List.getElem?_toArray, List.getElem?_cons_zero, List.getElem?_cons_succ, h1]); (refine W_at c49_ok ?_; refine ⟨_, rfl, ?_⟩; simp (disch := first | omega | assumption | rfl | (simp only [vcS] <;> omega) | fail) only [↓ptV_l, ↓vcA, vcB, ↓vcD, vcE, ↓reduceIte, Nat.reduceEqDiff, Nat.reduceAdd, Nat.reduceMul, Nat.reduceLeDiff, Int.reduceLE, Int.reduceLT, Int.reduceEq, Int.reduceToNat, Int.reduceAdd, Int.reduceSub, Int.reduceMul, Int.reduceNeg, reduceCtorEq, Option.bind_some, Option.map_some, List.length_cons, List.length_nil, vcM, List.getElem?_toArray, List.getElem?_cons_zero, List.getElem?_cons_succ]); (refine W_at c49_ok ?_; refine ⟨_, rfl, ?_⟩; simp (disch := first | omega | assumption | rfl | (simp only [vcS] <;> omega) | fail) only [↓ptV_l, ↓vcA, vcB, ↓vcD, vcE, ↓reduceIte, Nat.reduceEqDiff, Nat.reduceAdd, Nat.reduceMul, Nat.reduceLeDiff, Int.reduceLE, Int.reduceLT, Int.reduceEq, Int.reduceToNat, Int.reduceAdd, Int.reduceSub, Int.reduceMul, Int.reduceNeg, reduceCtorEq, Option.bind_some, Option.map_some, List.length_cons, List.length_nil, vcM, List.getElem?_toArray, List.getElem?_cons_zero, List.getElem?_cons_succ, h2]); (refine W_at c49_ok ?_; refine ⟨_, rfl, ?_⟩; simp (disch := first | omega | assumption | rfl | (simp only [vcS] <;> omega) | fail) only [↓ptV_l, ↓vcA, vcB, ↓vcD, vcE, ↓reduceIte, Nat.reduceEqDiff, Nat.reduceAdd, Nat.reduceMul, Nat.reduceLeDiff, Int.reduceLE, Int.reduceLT, Int.reduceEq, Int.reduceToNat, Int.reduceAdd, Int.reduceSub, Int.reduceMul, Int.reduceNeg, reduceCtorEq, Option.bind_some, Option.map_some, List.length_cons, List.length_nil, vcM, List.getElem?_toArray, List.getElem?_cons_zero, List.getElem?_cons_succ]); (refine W_at c49_ok ?_; refine ⟨_, rfl, ?_⟩; simp (disch := first | omega | assumption | rfl | (simp only [vcS] <;> omega) | fail) only [↓ptV_l, ↓vcA, vcB, ↓vcD, vcE, ↓reduceIte, Nat.reduceEqDiff, Nat.reduceAdd, Nat.reduceMul, Nat.reduceLeDiff, Int.reduceLE, Int.reduceLT, Int.reduceEq, Int.reduceToNat, Int.reduceAdd, Int.reduceSub, Int.reduceMul, Int.reduceNeg, reduceCtorEq, Option.bind_some, Option.map_some, List.length_cons, List.length_nil, vcM, List.getElem?_toArray, List.getElem?_cons_zero, List.getElem?_cons_succ, h3]); (refine W_at c49_ok ?_; refine ⟨_, rfl, ?_⟩; simp (disch := first | omega | assumption | rfl | (simp only [vcS] <;> omega) | fail) only [↓ptV_l, ↓vcA, vcB, ↓vcD, vcE, ↓reduceIte, Nat.reduceEqDiff, Nat.reduceAdd, Nat.reduceMul, Nat.reduceLeDiff, Int.reduceLE, Int.reduceLT, Int.reduceEq, Int.reduceToNat, Int.reduceAdd, Int.reduceSub, Int.reduceMul, Int.reduceNeg, reduceCtorEq, Option.bind_some, Option.map_some, List.length_cons, List.length_nil, vcM, List.getElem?_toArray, List.getElem?_cons_zero, List.getElem?_cons_succ]); (refine W_at c49_ok ?_; refine ⟨_, rfl, ?_⟩; simp (disch := first | omega | assumption | rfl | (simp only [vcS] <;> omega) | fail) only [↓ptV_l, ↓vcA, vcB, ↓vcD, vcE, ↓reduceIte, Nat.reduceEqDiff, Nat.reduceAdd, Nat.reduceMul, Nat.reduceLeDiff, Int.reduceLE, Int.reduceLT, Int.reduceEq, Int.reduceToNat, Int.reduceAdd, Int.reduceSub, Int.reduceMul, Int.reduceNeg, reduceCtorEq, Option.bind_some, Option.map_some, List.length_cons, List.length_nil, vcM, List.getElem?_toArray, List.getElem?_cons_zero, List.getElem?_cons_succ]); (refine W_at c49_ok ?_; refine ⟨_, rfl, ?_⟩; simp (disch := first | omega | assumption | rfl | (simp only [vcS] <;> omega) | fail) only [↓ptV_l, ↓vcA, vcB, ↓vcD, vcE, ↓reduceIte, Nat.reduceEqDiff, Nat.reduceAdd, Nat.reduceMul, Nat.reduceLeDiff, Int.reduceLE, Int.reduceLT, Int.reduceEq, Int.reduceToNat, Int.reduceAdd, Int.reduceSub, Int.reduceMul, Int.reduceNeg, reduceCtorEq, Option.bind_some, Option.map_some, List.length_cons, List.length_nil, vcM, List.getElem?_toArray, List.getElem?_cons_zero, List.getElem?_cons_succ, Ret_returned])
  rw [if_neg h3]
  (refine W_at c49_ok ?_; refine ⟨_, rfl, ?_⟩; simp (disch := first | omega | assumption | rfl | (simp only [vcS] <;> omega) | fail) only [↓ptV_l, ↓vcA, vcB, ↓vcD, vcE, ↓reduceIte, Nat.reduceEqDiff, Nat.reduceAdd, Nat.reduceMul, Nat.reduceLeDiff, Int.reduceLE, Int.reduceLT, Int.reduceEq, Int.reduceToNat, Int.reduceAdd, Int.reduceSub, Int.reduceMul, Int.reduceNeg, reduceCtorEq, Option.bind_some, Option.map_some, List.length_cons, List.length_nil, vcM, List.getElem?_toArray, List.getElem?_cons_zero, List.getElem?_cons_succ, h1]); (refine W_at c49_ok ?_; refine ⟨_, rfl, ?_⟩; simp (disch := first | omega | assumption | rfl | (simp only [vcS] <;> omega) | fail) only [↓ptV_l, ↓vcA, vcB, ↓vcD, vcE, ↓reduceIte, Nat.reduceEqDiff, Nat.reduceAdd, Nat.reduceMul, Nat.reduceLeDiff, Int.reduceLE, Int.reduceLT, Int.reduceEq, Int.reduceToNat, Int.reduceAdd, Int.reduceSub, Int.reduceMul, Int.reduceNeg, reduceCtorEq, Option.bind_some, Option.map_some, List.length_cons, List.length_nil, vcM, List.getElem?_toArray, List.getElem?_cons_zero, List.getElem?_cons_succ]); (refine W_at c49_ok ?_; refine ⟨_, rfl, ?_⟩; simp (disch := first | omega | assumption | rfl | (simp only [vcS] <;> omega) | fail) only [↓ptV_l, ↓vcA, vcB, ↓vcD, vcE, ↓reduceIte, Nat.reduceEqDiff, Nat.reduceAdd, Nat.reduceMul, Nat.reduceLeDiff, Int.reduceLE, Int.reduceLT, Int.reduceEq, Int.reduceToNat, Int.reduceAdd, Int.reduceSub, Int.reduceMul, Int.reduceNeg, reduceCtorEq, Option.bind_some, Option.map_some, List.length_cons, List.length_nil, vcM, List.getElem?_toArray, List.getElem?_cons_zero, List.getElem?_cons_succ, h2]); (refine W_at c49_ok ?_; refine ⟨_, rfl, ?_⟩; simp (disch := first | omega | assumption | rfl | (simp only [vcS] <;> omega) | fail) only [↓ptV_l, ↓vcA, vcB, ↓vcD, vcE, ↓reduceIte, Nat.reduceEqDiff, Nat.reduceAdd, Nat.reduceMul, Nat.reduceLeDiff, Int.reduceLE, Int.reduceLT, Int.reduceEq, Int.reduceToNat, Int.reduceAdd, Int.reduceSub, Int.reduceMul, Int.reduceNeg, reduceCtorEq, Option.bind_some, Option.map_some, List.length_cons, List.length_nil, vcM, List.getElem?_toArray, List.getElem?_cons_zero, List.getElem?_cons_succ]); (refine W_at c49_ok ?_; refine ⟨_, rfl, ?_⟩; simp (disch := first | omega | assumption | rfl | (simp only [vcS] <;> omega) | fail) only [↓ptV_l, ↓vcA, vcB, ↓vcD, vcE, ↓reduceIte, Nat.reduceEqDiff, Nat.reduceAdd, Nat.reduceMul, Nat.reduceLeDiff, Int.reduceLE, Int.reduceLT, Int.reduceEq, Int.reduceToNat, Int.reduceAdd, Int.reduceSub, Int.reduceMul, Int.reduceNeg, reduceCtorEq, Option.bind_some, Option.map_some, List.length_cons, List.length_nil, vcM, List.getElem?_toArray, List.getElem?_cons_zero, List.getElem?_cons_succ, h3]); (refine W_at c49_ok ?_; refine ⟨_, rfl, ?_⟩; simp (disch := first | omega | assumption | rfl | (simp only [vcS] <;> omega) | fail) only [↓ptV_l, ↓vcA, vcB, ↓vcD, vcE, ↓reduceIte, Nat.reduceEqDiff, Nat.reduceAdd, Nat.reduceMul, Nat.reduceLeDiff, Int.reduceLE, Int.reduceLT, Int.reduceEq, Int.reduceToNat, Int.reduceAdd, Int.reduceSub, Int.reduceMul, Int.reduceNeg, reduceCtorEq, Option.bind_some, Option.map_some, List.length_cons, List.length_nil, vcM, List.getElem?_toArray, List.getElem?_cons_zero, List.getElem?_cons_succ]); (refine W_at c49_ok ?_; refine ⟨_, rfl, ?_⟩; simp (disch := first | omega | assumption | rfl | (simp only [vcS] <;> omega) | fail) only [↓ptV_l, ↓vcA, vcB, ↓vcD, vcE, ↓reduceIte, Nat.reduceEqDiff, Nat.reduceAdd, Nat.reduceMul, Nat.reduceLeDiff, Int.reduceLE, Int.reduceLT, Int.reduceEq, Int.reduceToNat, Int.reduceAdd, Int.reduceSub, Int.reduceMul, Int.reduceNeg, reduceCtorEq, Option.bind_some, Option.map_some, List.length_cons, List.length_nil, vcM, List.getElem?_toArray, List.getElem?_cons_zero, List.getElem?_cons_succ]); (refine W_at c49_ok ?_; refine ⟨_, rfl, ?_⟩; simp (disch := first | omega | assumption | rfl | (simp only [vcS] <;> omega) | fail) only [↓ptV_l, ↓vcA, vcB, ↓vcD, vcE, ↓reduceIte, Nat.reduceEqDiff, Nat.reduceAdd, Nat.reduceMul, Nat.reduceLeDiff, Int.reduceLE, Int.reduceLT, Int.reduceEq, Int.reduceToNat, Int.reduceAdd, Int.reduceSub, Int.reduceMul, Int.reduceNeg, reduceCtorEq, Option.bind_some, Option.map_some, List.length_cons, List.length_nil, vcM, List.getElem?_toArray, List.getElem?_cons_zero, List.getElem?_cons_succ, Ret_returned])
end Go.Proofs
namespace Go.Proofs
open Go.Vc
set_option maxRecDepth 10000

abbrev IE := Int × Value
def MapI (w : World) (r : Nat) (l : List IE) : Prop := ∃ es c, w.heap[r]? = some (.map es c) ∧ es.toList.map (fun e => (e.key, e.val)) = l.map fun p => (Value.int .i64 p.1, p.2)
theorem MapI.keep {S : Nat → Prop} {w w' : World} {r : Nat} {l : List IE} (h : MapI w r l) (k : Keep S w w') (hr : ¬ S r) : MapI w' r l := by
  obtain ⟨es, c, h1, h2⟩ := h; exact ⟨es, c, k.at h1 hr, h2⟩
theorem kOK_int (n : Int) : kOK (skR [(1, .i .i64)]) false (.int .i64 n) = true := by simp [kOK, skR, conf, SK.ok]
theorem MapI.mapE {w : World} {r : Nat} {l : List IE} {es : Array MapEntry} {c : Nat} (h1 : w.heap[r]? = some (.map es c)) (h2 : es.toList.map (fun e => (e.key, e.val)) = l.map fun p => (Value.int .i64 p.1, p.2)) :
    mapE (skR [(1, .i .i64)]) false w r = some (es, c) := by
  unfold Vc.mapE
  rw [h1]
  have hall : es.toList.all (fun e => kOK (skR [(1, .i .i64)]) false e.key) = true := by
    rw [List.all_eq_true]
    intro e he
    have h3 : (e.key, e.val) ∈ es.toList.map (fun e => (e.key, e.val)) := List.mem_map_of_mem he
    rw [h2] at h3
    obtain ⟨p, _, hp⟩ := List.mem_map.1 h3
    have hk : e.key = .int .i64 p.1 := (congrArg Prod.fst hp).symm
    rw [hk, kOK_int]
  simp only [hall, if_true]
def idxM (k : Int) : List IE → Option Nat
  | [] => none
  | p :: l => if k = p.1 then some 0 else (idxM k l).map (· + 1)
theorem fnd_int {k : Int} : ∀ {l : List IE} {es : List MapEntry} (j : Nat), es.map (fun e => (e.key, e.val)) = l.map (fun p => (Value.int .i64 p.1, p.2)) →
    fnd (.int .i64 k) es j = match idxM k l with
      | some i => (l[i]?).map fun p => (j + i, p.2)
      | none => none
  | [], es, j, h => by simp at h; subst h; simp [fnd, idxM]
  | p :: l, [], j, h => by simp at h
  | p :: l, m :: es, j, h => by
    simp only [List.map_cons, List.cons.injEq, Prod.mk.injEq] at h
    obtain ⟨⟨h1, h2⟩, h3⟩ := h
    have ih := fnd_int (k := k) (j + 1) h3
    have h1' : m.key = .int .i64 p.1 := h1
    simp only [fnd, idxM]
    rw [h1']
    by_cases hk : k = p.1
    · rw [hk, if_pos rfl]; simp [h2]
    · have hne : ¬ (Value.int .i64 k = Value.int .i64 p.1) := by intro h; cases h; exact hk rfl
      rw [if_neg hne, ih, if_neg hk]
      cases hq : idxM k l with
      | none => simp
      | some i => simp [Nat.add_assoc, Nat.add_comm 1 i]
theorem idxM_lt {k : Int} : ∀ {l : List IE} {i : Nat}, idxM k l = some i → ∃ p, l[i]? = some p ∧ p.1 = k
  | [], i, h => by simp [idxM] at h
  | p :: l, i, h => by
    simp only [idxM] at h
    split at h
    · rename_i hk; simp at h; subst h; exact ⟨p, by simp, hk.symm⟩
    · cases hq : idxM k l with
      | none => simp [hq] at h
      | some j => simp [hq] at h; subst h; obtain ⟨p', h1, h2⟩ := idxM_lt hq; exact ⟨p', by simpa using h1, h2⟩
/-- The value at a key. -/
def getM (k : Int) (l : List IE) : Option Value := (idxM k l).bind fun i => (l[i]?).map (·.2)
def putM (k : Int) (v : Value) (l : List IE) : List IE := match idxM k l with
  | some i => l.set i (k, v)
  | none => l ++ [(k, v)]
theorem MapI.lkp {w : World} {r : Nat} {l : List IE} (h : MapI w r l) (z : Value) (k : Int) (ok : Bool) :
    lkpR (skR [(1, .i .i64)]) false z ok w (.map (some r)) (.int .i64 k) = some (match getM k l with | some v => packL ok v true | none => packL ok z false) := by
  obtain ⟨es, c, h1, h2⟩ := h
  unfold lkpR
  rw [if_pos (kOK_int k)]
  simp only [MapI.mapE h1 h2, Option.map_some]
  rw [fnd_int 0 h2]
  unfold getM
  cases hq : idxM k l with
  | none => rfl
  | some i => obtain ⟨p, h3, _⟩ := idxM_lt hq; simp [h3]
theorem MapI.put {w : World} {r : Nat} {l : List IE} {K : World → Prop} (h : MapI w r l) (k : Int) (v : Value) (hk : ∀ w', MapI w' r (putM k v l) → Keep (fun i => i = r) w w' → K w') :
    mapUV (skR [(1, .i .i64)]) false (.map (some r)) (.int .i64 k) v w K := by
  obtain ⟨es, c, h1, h2⟩ := h
  refine ⟨kOK_int k, ?_⟩
  rw [MapI.mapE h1 h2, getV_some]
  have hlt := lt_of_heap h1
  refine hk _ ?_ ((Keep.refl _ w).setO _ fun _ => rfl)
  unfold putE
  rw [fnd_int 0 h2]
  unfold putM
  cases hq : idxM k l with
  | none =>
    refine ⟨_, _, heap_setO_eq _ _ _ hlt, ?_⟩
    simp [h2]
  | some i =>
    obtain ⟨p, h3, h4⟩ := idxM_lt hq
    simp only [h3, Option.map_some, Nat.zero_add]
    refine ⟨_, _, heap_setO_eq _ _ _ hlt, ?_⟩
    have hlen : es.toList.length = l.length := by simpa using congrArg List.length h2
    apply List.ext_getElem?
    intro j
    have h5 := congrArg (fun x => x[j]?) h2
    simp only [List.getElem?_map, Array.toList_modify, List.getElem?_modify, List.getElem?_set] at h5 ⊢
    by_cases hij : i = j
    · subst hij
      have hil : i < l.length := (List.getElem?_eq_some_iff.1 h3).1
      have hie : i < es.size := by rw [← Array.length_toList]; omega
      simp [hil, hie]
    · simp only [hij, if_false]
      rw [← h5]
      cases es.toList[j]? <;> simp
theorem MapI.empty (w : World) : MapI (w.alloc (.map #[] 0)) w.heap.size [] := ⟨#[], 0, heap_new _ _ _ rfl, rfl⟩
end Go.Proofs
namespace Go.Proofs
open Go.Vc
set_option maxRecDepth 10000

theorem raw_ok (w : World) (p : Nat) (v : Value) (bs : List Int) (x : Value) (news : List Int) (h : WAt w p v bs) (hx : Rd w x news) (hl : bs.length + news.length ≤ 100000000) :
    Calls Try.prog 36 #[.pointer (some ⟨p, 0, none⟩), x] w (Ret fun _ w' => WTo w w' p v (bs ++ news)) := by
  refine calls_of_cfg c36_ok (Nat.le_of_ble_eq_true rfl) ?_
  simp only [argE_nil, argE_cons, Nat.reduceAdd, Nat.zero_add]
  have hat := h.at'
  (refine W_at c36_ok ?_; refine ⟨_, rfl, ?_⟩; simp (disch := first | omega | assumption | rfl | (simp only [vcS] <;> omega) | fail) only [↓ptV_l, ↓vcA, vcB, ↓vcD, vcE, ↓reduceIte, Nat.reduceEqDiff, Nat.reduceAdd, Nat.reduceMul, Nat.reduceLeDiff, Int.reduceLE, Int.reduceLT, Int.reduceEq, Int.reduceToNat, Int.reduceAdd, Int.reduceSub, Int.reduceMul, Int.reduceNeg, reduceCtorEq, Option.bind_some, Option.map_some, List.length_cons, List.length_nil, vcM, List.getElem?_toArray, List.getElem?_cons_zero, List.getElem?_cons_succ, hat])
  refine appB h.own hx (by omega) fun v' w' h1 h2 h3 => ?_
  obtain ⟨hp, hW', hK'⟩ := h.store h1 h2 h3
  refine ⟨one_row h1, wr1_of hp (by simp), ?_⟩
  (refine W_at c36_ok ?_; refine ⟨_, rfl, ?_⟩; simp (disch := first | omega | assumption | rfl | (simp only [vcS] <;> omega) | fail) only [↓ptV_l, ↓vcA, vcB, ↓vcD, vcE, ↓reduceIte, Nat.reduceEqDiff, Nat.reduceAdd, Nat.reduceMul, Nat.reduceLeDiff, Int.reduceLE, Int.reduceLT, Int.reduceEq, Int.reduceToNat, Int.reduceAdd, Int.reduceSub, Int.reduceMul, Int.reduceNeg, reduceCtorEq, Option.bind_some, Option.map_some, List.length_cons, List.length_nil, vcM, List.getElem?_toArray, List.getElem?_cons_zero, List.getElem?_cons_succ, Ret_returned])
  exact ⟨⟨v', hW', h3⟩, hK'⟩

theorem out_ok (w : World) (p : Nat) (v : Value) (bs : List Int) (h : WAt w p v bs) (hl : bs.length ≤ 100000000) :
    Calls Try.prog 40 #[.pointer (some ⟨p, 0, none⟩)] w (Ret fun u w' => Own1 w' u bs ∧ Ext w w' ∧ ∀ g, blk u g → w.heap.size ≤ g) := by
  refine calls_of_cfg c40_ok (Nat.le_of_ble_eq_true rfl) ?_
  simp only [argE_nil, argE_cons, Nat.reduceAdd, Nat.zero_add]
  have hat := h.at'
  (refine W_at c40_ok ?_; refine ⟨_, rfl, ?_⟩; simp (disch := first | omega | assumption | rfl | (simp only [vcS] <;> omega) | fail) only [↓ptV_l, ↓vcA, vcB, ↓vcD, vcE, ↓reduceIte, Nat.reduceEqDiff, Nat.reduceAdd, Nat.reduceMul, Nat.reduceLeDiff, Int.reduceLE, Int.reduceLT, Int.reduceEq, Int.reduceToNat, Int.reduceAdd, Int.reduceSub, Int.reduceMul, Int.reduceNeg, reduceCtorEq, Option.bind_some, Option.map_some, List.length_cons, List.length_nil, vcM, List.getElem?_toArray, List.getElem?_cons_zero, List.getElem?_cons_succ])
  (refine W_at c40_ok ?_; refine ⟨_, rfl, ?_⟩; simp (disch := first | omega | assumption | rfl | (simp only [vcS] <;> omega) | fail) only [↓ptV_l, ↓vcA, vcB, ↓vcD, vcE, ↓reduceIte, Nat.reduceEqDiff, Nat.reduceAdd, Nat.reduceMul, Nat.reduceLeDiff, Int.reduceLE, Int.reduceLT, Int.reduceEq, Int.reduceToNat, Int.reduceAdd, Int.reduceSub, Int.reduceMul, Int.reduceNeg, reduceCtorEq, Option.bind_some, Option.map_some, List.length_cons, List.length_nil, vcM, List.getElem?_toArray, List.getElem?_cons_zero, List.getElem?_cons_succ, hat])
  refine callV_ret (clone_ok w v bs h.own.rd (by omega)) ?_
  rintro u w1 ⟨h1, h2, h3⟩
  (refine W_at c40_ok ?_; refine ⟨_, rfl, ?_⟩; simp (disch := first | omega | assumption | rfl | (simp only [vcS] <;> omega) | fail) only [↓ptV_l, ↓vcA, vcB, ↓vcD, vcE, ↓reduceIte, Nat.reduceEqDiff, Nat.reduceAdd, Nat.reduceMul, Nat.reduceLeDiff, Int.reduceLE, Int.reduceLT, Int.reduceEq, Int.reduceToNat, Int.reduceAdd, Int.reduceSub, Int.reduceMul, Int.reduceNeg, reduceCtorEq, Option.bind_some, Option.map_some, List.length_cons, List.length_nil, vcM, List.getElem?_toArray, List.getElem?_cons_zero, List.getElem?_cons_succ, Ret_returned])
  exact ⟨h1, h2, h3⟩

/-- A compact size. -/
def sizeF (n : Int) : List Int := if n < 253 then [n] else if n < 65536 then 253 :: lowF 2 n else if n < 4294967296 then 254 :: lowF 4 n else 255 :: lowF 8 n
theorem size_ok (w : World) (p : Nat) (v : Value) (bs : List Int) (n : Int) (h : WAt w p v bs) (hl : bs.length ≤ 1000000) (hn : 0 ≤ n) :
    Calls Try.prog 37 #[.pointer (some ⟨p, 0, none⟩), .int .u64 n] w (Ret fun _ w' => WTo w w' p v (bs ++ sizeF n)) := by
  refine calls_of_cfg c37_ok (Nat.le_of_ble_eq_true rfl) ?_
  simp only [argE_nil, argE_cons, Nat.reduceAdd, Nat.zero_add]
  (refine W_at c37_ok ?_; refine ⟨_, rfl, ?_⟩; simp (disch := first | omega | assumption | rfl | (simp only [vcS] <;> omega) | fail) only [↓ptV_l, ↓vcA, vcB, ↓vcD, vcE, ↓reduceIte, Nat.reduceEqDiff, Nat.reduceAdd, Nat.reduceMul, Nat.reduceLeDiff, Int.reduceLE, Int.reduceLT, Int.reduceEq, Int.reduceToNat, Int.reduceAdd, Int.reduceSub, Int.reduceMul, Int.reduceNeg, reduceCtorEq, Option.bind_some, Option.map_some, List.length_cons, List.length_nil, vcM, List.getElem?_toArray, List.getElem?_cons_zero, List.getElem?_cons_succ])
  refine callV_ret (wide_ok w n) ?_
  rintro _ w1 ⟨rfl, hw⟩
  obtain rfl : w = w1 := hw.symm
  by_cases h1 : n < 253
  · have hwd : wideF n = 0 := by unfold wideF; rw [if_pos h1]
    have hc : IntKind.u8.wrap n = n := by rw [wrap_u8]; omega
    rw [hwd]
    (refine W_at c37_ok ?_; refine ⟨_, rfl, ?_⟩; simp (disch := first | omega | assumption | rfl | (simp only [vcS] <;> omega) | fail) only [↓ptV_l, ↓vcA, vcB, ↓vcD, vcE, ↓reduceIte, Nat.reduceEqDiff, Nat.reduceAdd, Nat.reduceMul, Nat.reduceLeDiff, Int.reduceLE, Int.reduceLT, Int.reduceEq, Int.reduceToNat, Int.reduceAdd, Int.reduceSub, Int.reduceMul, Int.reduceNeg, reduceCtorEq, Option.bind_some, Option.map_some, List.length_cons, List.length_nil, vcM, List.getElem?_toArray, List.getElem?_cons_zero, List.getElem?_cons_succ])
    (refine W_at c37_ok ?_; refine ⟨_, rfl, ?_⟩; simp (disch := first | omega | assumption | rfl | (simp only [vcS] <;> omega) | fail) only [↓ptV_l, ↓vcA, vcB, ↓vcD, vcE, ↓reduceIte, Nat.reduceEqDiff, Nat.reduceAdd, Nat.reduceMul, Nat.reduceLeDiff, Int.reduceLE, Int.reduceLT, Int.reduceEq, Int.reduceToNat, Int.reduceAdd, Int.reduceSub, Int.reduceMul, Int.reduceNeg, reduceCtorEq, Option.bind_some, Option.map_some, List.length_cons, List.length_nil, vcM, List.getElem?_toArray, List.getElem?_cons_zero, List.getElem?_cons_succ])
    (refine W_at c37_ok ?_; refine ⟨_, rfl, ?_⟩; simp (disch := first | omega | assumption | rfl | (simp only [vcS] <;> omega) | fail) only [↓ptV_l, ↓vcA, vcB, ↓vcD, vcE, ↓reduceIte, Nat.reduceEqDiff, Nat.reduceAdd, Nat.reduceMul, Nat.reduceLeDiff, Int.reduceLE, Int.reduceLT, Int.reduceEq, Int.reduceToNat, Int.reduceAdd, Int.reduceSub, Int.reduceMul, Int.reduceNeg, reduceCtorEq, Option.bind_some, Option.map_some, List.length_cons, List.length_nil, vcM, List.getElem?_toArray, List.getElem?_cons_zero, List.getElem?_cons_succ])
    (refine W_at c37_ok ?_; refine ⟨_, rfl, ?_⟩; simp (disch := first | omega | assumption | rfl | (simp only [vcS] <;> omega) | fail) only [↓ptV_l, ↓vcA, vcB, ↓vcD, vcE, ↓reduceIte, Nat.reduceEqDiff, Nat.reduceAdd, Nat.reduceMul, Nat.reduceLeDiff, Int.reduceLE, Int.reduceLT, Int.reduceEq, Int.reduceToNat, Int.reduceAdd, Int.reduceSub, Int.reduceMul, Int.reduceNeg, reduceCtorEq, Option.bind_some, Option.map_some, List.length_cons, List.length_nil, vcM, List.getElem?_toArray, List.getElem?_cons_zero, List.getElem?_cons_succ, hc])
    refine callV_ret (u8_ok w p v bs n h (by omega) (by omega)) ?_
    intro _ w1 hT
    (refine W_at c37_ok ?_; refine ⟨_, rfl, ?_⟩; simp (disch := first | omega | assumption | rfl | (simp only [vcS] <;> omega) | fail) only [↓ptV_l, ↓vcA, vcB, ↓vcD, vcE, ↓reduceIte, Nat.reduceEqDiff, Nat.reduceAdd, Nat.reduceMul, Nat.reduceLeDiff, Int.reduceLE, Int.reduceLT, Int.reduceEq, Int.reduceToNat, Int.reduceAdd, Int.reduceSub, Int.reduceMul, Int.reduceNeg, reduceCtorEq, Option.bind_some, Option.map_some, List.length_cons, List.length_nil, vcM, List.getElem?_toArray, List.getElem?_cons_zero, List.getElem?_cons_succ, Ret_returned])
    have e : sizeF n = lowF 1 n := by unfold sizeF; rw [if_pos h1]; simp only [lowF]; congr 1; omega
    rw [e]; exact hT
  · have hkey : ∀ (k : Nat) (b : Int), (k = 2 ∧ b = 253) ∨ (k = 4 ∧ b = 254) ∨ (k = 8 ∧ b = 255) → wideF n = k → sizeF n = b :: lowF k n → W Try.prog (Ret fun x w' => WTo w w' p v (bs ++ sizeF n)) 37 6
        [(0, .pointer (some ⟨p, 0, none⟩)), (1, .int .u64 n), (4, .int .i64 (wideF n))] w := by
      intro k b hkb hw hsz
      rw [hw]
      have hk0 : ¬ ((k : Int) = 0) := by omega
      (refine W_at c37_ok ?_; refine ⟨_, rfl, ?_⟩; simp (disch := first | omega | assumption | rfl | (simp only [vcS] <;> omega) | fail) only [↓ptV_l, ↓vcA, vcB, ↓vcD, vcE, ↓reduceIte, Nat.reduceEqDiff, Nat.reduceAdd, Nat.reduceMul, Nat.reduceLeDiff, Int.reduceLE, Int.reduceLT, Int.reduceEq, Int.reduceToNat, Int.reduceAdd, Int.reduceSub, Int.reduceMul, Int.reduceNeg, reduceCtorEq, Option.bind_some, Option.map_some, List.length_cons, List.length_nil, vcM, List.getElem?_toArray, List.getElem?_cons_zero, List.getElem?_cons_succ])
      (refine W_at c37_ok ?_; refine ⟨_, rfl, ?_⟩; simp (disch := first | omega | assumption | rfl | (simp only [vcS] <;> omega) | fail) only [↓ptV_l, ↓vcA, vcB, ↓vcD, vcE, ↓reduceIte, Nat.reduceEqDiff, Nat.reduceAdd, Nat.reduceMul, Nat.reduceLeDiff, Int.reduceLE, Int.reduceLT, Int.reduceEq, Int.reduceToNat, Int.reduceAdd, Int.reduceSub, Int.reduceMul, Int.reduceNeg, reduceCtorEq, Option.bind_some, Option.map_some, List.length_cons, List.length_nil, vcM, List.getElem?_toArray, List.getElem?_cons_zero, List.getElem?_cons_succ, hk0])
      (refine W_at c37_ok ?_; refine ⟨_, rfl, ?_⟩; simp (disch := first | omega | assumption | rfl | (simp only [vcS] <;> omega) | fail) only [↓ptV_l, ↓vcA, vcB, ↓vcD, vcE, ↓reduceIte, Nat.reduceEqDiff, Nat.reduceAdd, Nat.reduceMul, Nat.reduceLeDiff, Int.reduceLE, Int.reduceLT, Int.reduceEq, Int.reduceToNat, Int.reduceAdd, Int.reduceSub, Int.reduceMul, Int.reduceNeg, reduceCtorEq, Option.bind_some, Option.map_some, List.length_cons, List.length_nil, vcM, List.getElem?_toArray, List.getElem?_cons_zero, List.getElem?_cons_succ])
      (refine W_at c37_ok ?_; refine ⟨_, rfl, ?_⟩; simp (disch := first | omega | assumption | rfl | (simp only [vcS] <;> omega) | fail) only [↓ptV_l, ↓vcA, vcB, ↓vcD, vcE, ↓reduceIte, Nat.reduceEqDiff, Nat.reduceAdd, Nat.reduceMul, Nat.reduceLeDiff, Int.reduceLE, Int.reduceLT, Int.reduceEq, Int.reduceToNat, Int.reduceAdd, Int.reduceSub, Int.reduceMul, Int.reduceNeg, reduceCtorEq, Option.bind_some, Option.map_some, List.length_cons, List.length_nil, vcM, List.getElem?_toArray, List.getElem?_cons_zero, List.getElem?_cons_succ])
      have hE0 : Ext w (w.alloc (Obj.map #[] 0)) := by (repeat' first | exact Keep.refl _ _ | assumption | refine Keep.drew ?_ | refine Keep.alloc ?_ _ | refine Keep.putN ?_ _ ?_ | refine Keep.setCell ?_ _ ?_ | refine Keep.setO ?_ _ ?_ | exact fun _ => Or.inl rfl | exact fun _ => Or.inr rfl | exact fun _ => rfl | (intro hh; exfalso; ((try simp only [vcS] at hh) <;> omega)))
      have hm0 := MapI.empty w
      have hrs : w.heap.size < (w.alloc (Obj.map #[] 0)).heap.size := by rw [size_alloc]; omega
      generalize hr : w.heap.size = r at hm0 hrs ⊢
      generalize World.alloc _ _ = w1 at hE0 hm0 hrs ⊢
      have kp : ∀ (wx wy : World), Ext w wx → Keep (fun i => i = r) wx wy → Ext w wy := fun wx wy h k => h.trans k fun i hi (e : i = r) => by omega
      refine hm0.put 2 _ fun w2 hm2 hk2 => ?_
      have hE2 := kp _ _ hE0 hk2
      refine hm2.put 4 _ fun w3 hm3 hk3 => ?_
      have hE3 := kp _ _ hE2 hk3
      refine hm3.put 8 _ fun w4 hm4 hk4 => ?_
      have hE4 := kp _ _ hE3 hk4
      rw [hm4.lkp]
      have hg : getM k (putM 8 (Value.int .u8 255) (putM 4 (Value.int .u8 254) (putM 2 (Value.int .u8 253) []))) = some (.int .u8 b) := by
        rcases hkb with ⟨rfl, rfl⟩ | ⟨rfl, rfl⟩ | ⟨rfl, rfl⟩ <;> rfl
      rw [hg]
      simp (disch := first | omega | assumption | rfl | (simp only [vcS] <;> omega) | fail) only [↓ptV_l, ↓vcA, vcB, ↓vcD, vcE, ↓reduceIte, Nat.reduceEqDiff, Nat.reduceAdd, Nat.reduceMul, Nat.reduceLeDiff, Int.reduceLE, Int.reduceLT, Int.reduceEq, Int.reduceToNat, Int.reduceAdd, Int.reduceSub, Int.reduceMul, Int.reduceNeg, reduceCtorEq, Option.bind_some, Option.map_some, List.length_cons, List.length_nil, vcM, List.getElem?_toArray, List.getElem?_cons_zero, List.getElem?_cons_succ, packL]
      have hW4 := h.keep hE4 (fun h => h) fun _ _ h => h
      refine callV_ret (u8_ok w4 p v bs b hW4 (by omega) (by omega)) ?_
      intro _ w5 hT
      obtain ⟨⟨v', hW5, hb5⟩, hk5⟩ := hT
      (refine W_at c37_ok ?_; refine ⟨_, rfl, ?_⟩; simp (disch := first | omega | assumption | rfl | (simp only [vcS] <;> omega) | fail) only [↓ptV_l, ↓vcA, vcB, ↓vcD, vcE, ↓reduceIte, Nat.reduceEqDiff, Nat.reduceAdd, Nat.reduceMul, Nat.reduceLeDiff, Int.reduceLE, Int.reduceLT, Int.reduceEq, Int.reduceToNat, Int.reduceAdd, Int.reduceSub, Int.reduceMul, Int.reduceNeg, reduceCtorEq, Option.bind_some, Option.map_some, List.length_cons, List.length_nil, vcM, List.getElem?_toArray, List.getElem?_cons_zero, List.getElem?_cons_succ])
      refine callV_ret (number_ok w5 p v' _ n k hW5 (by omega) (by simp [lowF]; omega)) ?_
      intro _ w6 hT
      (refine W_at c37_ok ?_; refine ⟨_, rfl, ?_⟩; simp (disch := first | omega | assumption | rfl | (simp only [vcS] <;> omega) | fail) only [↓ptV_l, ↓vcA, vcB, ↓vcD, vcE, ↓reduceIte, Nat.reduceEqDiff, Nat.reduceAdd, Nat.reduceMul, Nat.reduceLeDiff, Int.reduceLE, Int.reduceLT, Int.reduceEq, Int.reduceToNat, Int.reduceAdd, Int.reduceSub, Int.reduceMul, Int.reduceNeg, reduceCtorEq, Option.bind_some, Option.map_some, List.length_cons, List.length_nil, vcM, List.getElem?_toArray, List.getElem?_cons_zero, List.getElem?_cons_succ, Ret_returned])
      rw [hsz]
      have e : bs ++ b :: lowF k n = bs ++ lowF 1 b ++ lowF k n := by
        have : b % 256 = b := by omega
        simp only [lowF, this, List.append_assoc, List.cons_append, List.nil_append]
      rw [e]
      refine WTo.trans ((hE4.mono fun _ h => h.elim).trans hk5 fun i _ h => h) (fun g hg => ?_) hT
      rcases hb5 g hg with h | h
      · exact .inl h
      · exact .inr (Nat.le_trans hE4.size h)
    by_cases h2 : n < 65536
    · exact hkey 2 253 (.inl ⟨rfl, rfl⟩) (by unfold wideF; rw [if_neg h1, if_pos h2]) (by unfold sizeF; rw [if_neg h1, if_pos h2])
    by_cases h3 : n < 4294967296
    · exact hkey 4 254 (.inr (.inl ⟨rfl, rfl⟩)) (by unfold wideF; rw [if_neg h1, if_neg h2, if_pos h3]) (by unfold sizeF; rw [if_neg h1, if_neg h2, if_pos h3])
    · exact hkey 8 255 (.inr (.inr ⟨rfl, rfl⟩)) (by unfold wideF; rw [if_neg h1, if_neg h2, if_neg h3]) (by unfold sizeF; rw [if_neg h1, if_neg h2, if_neg h3])
theorem sizeF_len {n : Int} : 1 ≤ (sizeF n).length ∧ (sizeF n).length ≤ 9 := by
  unfold sizeF; split <;> (try split) <;> (try split) <;> simp [lowF_len]
/-- A size, and bytes. -/
theorem bytes_ok (w : World) (p : Nat) (v : Value) (bs : List Int) (x : Value) (news : List Int) (h : WAt w p v bs) (hx : Rd w x news) (hxs : ∀ w', Keep (WS p v) w w' → Rd w' x news) (hl : bs.length + news.length ≤ 900000) :
    Calls Try.prog 38 #[.pointer (some ⟨p, 0, none⟩), x] w (Ret fun _ w' => WTo w w' p v (bs ++ (sizeF news.length ++ news))) := by
  refine calls_of_cfg c38_ok (Nat.le_of_ble_eq_true rfl) ?_
  simp only [argE_nil, argE_cons, Nat.reduceAdd, Nat.zero_add]
  have hlen := hx.len
  have hw : IntKind.u64.wrap (news.length : Int) = news.length := by rw [wrap_u64]; omega
  (refine W_at c38_ok ?_; refine ⟨_, rfl, ?_⟩; simp (disch := first | omega | assumption | rfl | (simp only [vcS] <;> omega) | fail) only [↓ptV_l, ↓vcA, vcB, ↓vcD, vcE, ↓reduceIte, Nat.reduceEqDiff, Nat.reduceAdd, Nat.reduceMul, Nat.reduceLeDiff, Int.reduceLE, Int.reduceLT, Int.reduceEq, Int.reduceToNat, Int.reduceAdd, Int.reduceSub, Int.reduceMul, Int.reduceNeg, reduceCtorEq, Option.bind_some, Option.map_some, List.length_cons, List.length_nil, vcM, List.getElem?_toArray, List.getElem?_cons_zero, List.getElem?_cons_succ, hlen, hw])
  refine callV_ret (size_ok w p v bs news.length h (by omega) (by omega)) ?_
  intro _ w1 hT
  obtain ⟨⟨v', hW, hb⟩, hk⟩ := hT
  (refine W_at c38_ok ?_; refine ⟨_, rfl, ?_⟩; simp (disch := first | omega | assumption | rfl | (simp only [vcS] <;> omega) | fail) only [↓ptV_l, ↓vcA, vcB, ↓vcD, vcE, ↓reduceIte, Nat.reduceEqDiff, Nat.reduceAdd, Nat.reduceMul, Nat.reduceLeDiff, Int.reduceLE, Int.reduceLT, Int.reduceEq, Int.reduceToNat, Int.reduceAdd, Int.reduceSub, Int.reduceMul, Int.reduceNeg, reduceCtorEq, Option.bind_some, Option.map_some, List.length_cons, List.length_nil, vcM, List.getElem?_toArray, List.getElem?_cons_zero, List.getElem?_cons_succ])
  have hsl := @sizeF_len news.length
  refine callV_ret (raw_ok w1 p v' _ x news hW (hxs w1 hk) (by simp; omega)) ?_
  intro _ w2 hT
  (refine W_at c38_ok ?_; refine ⟨_, rfl, ?_⟩; simp (disch := first | omega | assumption | rfl | (simp only [vcS] <;> omega) | fail) only [↓ptV_l, ↓vcA, vcB, ↓vcD, vcE, ↓reduceIte, Nat.reduceEqDiff, Nat.reduceAdd, Nat.reduceMul, Nat.reduceLeDiff, Int.reduceLE, Int.reduceLT, Int.reduceEq, Int.reduceToNat, Int.reduceAdd, Int.reduceSub, Int.reduceMul, Int.reduceNeg, reduceCtorEq, Option.bind_some, Option.map_some, List.length_cons, List.length_nil, vcM, List.getElem?_toArray, List.getElem?_cons_zero, List.getElem?_cons_succ, Ret_returned])
  rw [← List.append_assoc]
  exact WTo.trans hk hb hT
end Go.Proofs
namespace Go.Proofs
open Go.Vc
set_option maxRecDepth 10000

/-- A slice of bytes that the call made. -/
structure New (w w' : World) (u : Value) (bs : List Int) : Prop where
  own : Own1 w' u bs
  ext : Ext w w'
  new : ∀ g, blk u g → w.heap.size ≤ g
theorem New.nil (w : World) : New w w (.slice none 0 0) [] := ⟨Own1.nil w, Keep.refl _ w, fun g h => by cases h⟩
theorem New.keep {w w' w2 : World} {u : Value} {bs : List Int} (h : New w w' u bs) (k : Ext w' w2) : New w w2 u bs := ⟨h.own.ext k, h.ext.ext k, h.new⟩
end Go.Proofs
namespace Go.Proofs
open Go.Vc
set_option maxRecDepth 10000

theorem bv_set (bs : List Int) (i : Nat) (x : Int) : bv (bs.set i x) = (bv bs).set i (.int .u8 x) := by
  simp [bv, List.map_set]
theorem Own1.set {w : World} {v : Value} {bs : List Int} (h : Own1 w v bs) {i : Nat} (hi : i < bs.length) (x : Int) :
    ∃ g c, v = .slice (some ⟨g, 0, none⟩) bs.length c ∧ wr1 w g i ∧ Own1 (w.setCell ⟨g, i, none⟩ (.int .u8 x)) v (bs.set i x) := by
  obtain ⟨hl, ⟨rfl, h0⟩ | ⟨g, cap, cur, rfl, hb, hh, hn, hm, hs, ht⟩⟩ := h
  · omega
  · refine ⟨g, cap, rfl, wr1_of hh (by omega), ⟨by rw [bv_len, Nat.mul_one], .inr ⟨g, cap, cur.setIfInBounds i (.int .u8 x), ?_, hb, heap_setCell_eq hh, ?_, hm, by rw [Array.size_setIfInBounds]; exact hs, ?_⟩⟩⟩
    · rw [List.length_set]
    · rw [List.length_set]; exact hn
    · rw [List.length_set, Array.toList_setIfInBounds, List.take_set, ht, bv_set]
theorem Own1.out {w : World} {v : Value} {bs : List Int} (h : Own1 w v bs) {g i : Nat} (hi : bs.length ≤ i) (x : Value) : Own1 (w.setCell ⟨g, i, none⟩ x) v bs := by
  by_cases hg : blk v g
  · obtain ⟨hl, ⟨rfl, h0⟩ | ⟨g', cap, cur, rfl, hb, hh, hn, hm, hs, ht⟩⟩ := h
    · cases hg
    · obtain rfl : g' = g := Option.some.inj hg
      refine ⟨hl, .inr ⟨g', cap, cur.setIfInBounds i x, rfl, hb, heap_setCell_eq hh, hn, hm, by rw [Array.size_setIfInBounds]; exact hs, ?_⟩⟩
      rw [Array.toList_setIfInBounds, List.take_set, ht, List.set_eq_of_length_le (by rw [bv_len]; exact hi)]
  · exact h.keep ((Keep.refl _ w).setCell (S := fun k => k = g) _ fun _ => rfl) fun k hk (e : k = g) => hg (e ▸ hk)
end Go.Proofs
namespace Go.Proofs
open Go.Vc
set_option maxRecDepth 10000

theorem Own1.set1 {w : World} {g n c : Nat} {bs : List Int} (h : Own1 w (.slice (some ⟨g, 0, none⟩) n c) bs) {i : Nat} (hi : i < bs.length) (x : Int) :
    wr1 w g i ∧ Own1 (w.setCell ⟨g, i, none⟩ (.int .u8 x)) (.slice (some ⟨g, 0, none⟩) n c) (bs.set i x) := by
  obtain ⟨g', c', e, h1, h2⟩ := h.set hi x
  injection e with e1 e2 e3
  cases e1
  exact ⟨h1, h2⟩
theorem mkB {w : World} {m : Nat} {K : Value → World → Prop} (hm : m ≤ 1000000000) (hk : ∀ w', Own1 w' (.slice (some ⟨w.heap.size, 0, none⟩) m m) (List.replicate m 0) → Ext w w' → K (.slice (some ⟨w.heap.size, 0, none⟩) m m) w') :
    mkSV 5 1 1 (runs [(1, Value.int .u8 0)]) (.int .i64 (m : Nat)) (.int .i64 (m : Nat)) w K := by
  refine ⟨by omega, by omega, by omega, by omega, rfl, ?_⟩
  have hml : maxLen = 9223372036854775807 := rfl
  rw [Int.toNat_natCast]
  refine hk _ ?_ ((Keep.refl _ w).alloc _)
  have h := own_lit1 (w := w) (bs := List.replicate m 0) (by simp; omega)
  have e1 : bv (List.replicate m 0) = zrep m (runs [(1, Value.int .u8 0)]) := by
    rw [show runs [(1, Value.int .u8 0)] = [Value.int .u8 0] from rfl, zrep_one, bv, List.map_replicate]
  rw [e1] at h
  simpa using h
end Go.Proofs
namespace Go.Proofs
open Go.Vc
set_option maxRecDepth 10000

theorem args_2 {args : Array Value} (h : args.size = 2) : ∃ v u, args = #[v, u] := by
  obtain ⟨l⟩ := args
  match l, h with
  | [v, u], _ => exact ⟨v, u, rfl⟩
theorem flat_ones {k : IntKind} : ∀ {xs : List (Array Value)} {bs : List Int}, bs.length = xs.length → (∀ i (h : i < xs.length) (h' : i < bs.length), xs[i] = #[Value.int k bs[i]]) → xs.flatMap Array.toList = bs.map (.int k)
  | [], [], _, _ => rfl
  | [], _ :: _, h, _ => by simp at h
  | _ :: _, [], h, _ => by simp at h
  | x :: xs, b :: bs, h, hx => by
    have h0 := hx 0 (by simp) (by simp)
    simp only [List.getElem_cons_zero] at h0
    have ih := flat_ones (k := k) (xs := xs) (bs := bs) (by simpa using h) fun i h1 h2 => by
      have := hx (i + 1) (by simpa using h1) (by simpa using h2)
      simpa using this
    rw [List.flatMap_cons, h0, ih]; rfl
/-- A slice of integers. -/
theorem ints_of {k : IntKind} {w : World} {q : Option Addr} {n c : Nat} (h : Lies w (.sl (.cons (.int k) .nil)) (.slice q n c)) : n ≤ maxLen ∧ ∃ bs : List Int, bs.length = n ∧ rdS w 1 (.slice q n c) = some (bs.map (.int k)).toArray ∧ ∀ b ∈ bs, k.min ≤ b ∧ b ≤ k.max := by
  simp only [Lies] at h
  obtain ⟨q', n', c', xs, h1, h2, h3, h4, h5, h6, h7⟩ := h
  cases h1
  have hx : ∀ x ∈ xs, ∃ b : Int, x = #[Value.int k b] ∧ k.min ≤ b ∧ b ≤ k.max := by
    intro x hx
    have h := h7 x hx
    cases hl : x.toList with
    | nil => rw [hl] at h; simp [LiesAll] at h
    | cons y l =>
      rw [hl] at h
      simp only [LiesAll, Lies] at h
      obtain ⟨⟨b, rfl, hb⟩, rfl⟩ := h
      exact ⟨b, Array.ext' hl, wf_int hb⟩
  obtain ⟨bs, hl, hbs⟩ := list_choose xs hx
  refine ⟨Nat.le_trans h2 h3, bs, by omega, ?_, ?_⟩
  · rw [show (1 : Nat) = Tys.len (.cons (.int k) .nil) from rfl, h5, flat_ones hl fun i h h' => (hbs i h h').1]
  · intro b hb
    obtain ⟨i, hi, rfl⟩ := List.getElem_of_mem hb
    exact (hbs i (by omega) hi).2
/-- A slice of bytes. -/
theorem bytes_of {w : World} {v : Value} (h : Lies w (.sl (.cons (.int .u8) .nil)) v) : ∃ bs, Rd w v bs ∧ byt bs := by
  have h0 := h
  simp only [Lies] at h
  obtain ⟨q, n, c, _, rfl, h2, _⟩ := h
  obtain ⟨hm, bs, hl, hr, hb⟩ := ints_of h0
  subst hl
  refine ⟨bs, ⟨⟨q, c, rfl, h2⟩, hm, hr⟩, fun b hx => ?_⟩
  have h1 : IntKind.u8.min = 0 := by decide
  have h2 : IntKind.u8.max = 255 := by decide
  have := hb b hx
  rw [h1, h2] at this; exact this
end Go.Proofs
namespace Go.Proofs
open Go.Vc
set_option maxRecDepth 10000

theorem rdS_at {w : World} {q : Option Addr} {n c size : Nat} {xs : List (Array Value)} (h : rdS w size (.slice q n c) = some (xs.flatMap Array.toList).toArray) (hl : xs.length = n) (hs : ∀ x ∈ xs, x.size = size) {i : Nat} (hi : i < n) :
    ∃ b o, q = some ⟨b, o, none⟩ ∧ rdO w.heap[b]? (o + i * size) size = some xs[i] := by
  simp only [rdS] at h
  rw [if_neg (by omega)] at h
  split at h
  · rename_i b o
    refine ⟨b, o, rfl, ?_⟩
    rw [rdN_heap] at h
    cases hb : w.heap[b]? with
    | none => rw [hb] at h; cases h
    | some x =>
      rw [hb] at h
      cases x with
      | cells d t fr =>
        simp only [rdO] at h
        split at h
        · rename_i hle
          simp only [Option.some.injEq] at h
          have hle1 : (i + 1) * size ≤ n * size := Nat.mul_le_mul_right _ hi
          rw [Nat.add_mul, Nat.one_mul] at hle1
          rw [rdO_some _ _ _ _ _ (by omega)]
          congr 1
          apply Array.ext'
          have ht : ((xs.flatMap Array.toList).drop (i * size)).take size = xs[i].toList := by
            rw [flat_drop i hs, List.drop_eq_getElem_cons (by omega), List.flatMap_cons, List.take_append_of_le_length (by simp [hs _ (List.getElem_mem (show i < xs.length by omega))]), List.take_of_length_le (by simp [hs _ (List.getElem_mem (show i < xs.length by omega))])]
          have h2 : (d.extract o (o + n * size)).toList = xs.flatMap Array.toList := by rw [h]
          rw [← ht, ← h2]
          simp only [Array.toList_extract, List.extract_eq_take_drop, List.drop_take, List.take_take, List.drop_drop]
          congr 1; omega
        · cases h
      | _ => cases h
  · cases h

theorem rdO_cell {o : Option Obj} {a n : Nat} {cs : Array Value} (h : rdO o a n = some cs) {j : Nat} (hj : j < n) : cellO o (a + j) = cs[j]? := by
  cases o with
  | none => cases h
  | some x =>
    cases x with
    | cells d t fr =>
      simp only [rdO] at h
      split at h
      · simp only [Option.some.injEq] at h
        subst h
        rw [cellO_some, Array.getElem?_extract]
        rw [if_pos (by omega)]
      · cases h
    | _ => cases h

structure OwnO (w : World) (base el size : Nat) (v : Value) (ids : List (Array Value)) : Prop where
  sz : ∀ k ∈ ids, k.size = size
  at' : (v = .slice none 0 0 ∧ ids = []) ∨ ∃ g o cap cur, v = .slice (some ⟨g, o, none⟩) ids.length cap ∧ base ≤ g ∧ w.heap[g]? = some (.cells cur el (0, 0)) ∧ ids.length ≤ cap ∧ cap ≤ maxLen ∧ o + cap * size ≤ cur.size ∧
    (cur.toList.drop o).take (ids.length * size) = ids.flatMap Array.toList
theorem OwnO.nil (w : World) (base el size : Nat) : OwnO w base el size (.slice none 0 0) [] := ⟨fun _ h => (by cases h), .inl ⟨rfl, rfl⟩⟩
theorem OwnO.keep {S : Nat → Prop} {w w' : World} {base el size : Nat} {v : Value} {ids : List (Array Value)} (h : OwnO w base el size v ids) (k : Keep S w w') (hS : ∀ g, blk v g → ¬ S g) : OwnO w' base el size v ids := by
  obtain ⟨hs, h | ⟨g, o, cap, cur, rfl, hb, hg, r⟩⟩ := h
  · exact ⟨hs, .inl h⟩
  · exact ⟨hs, .inr ⟨g, o, cap, cur, rfl, hb, k.at hg (hS g rfl), r⟩⟩
theorem OwnO.ext {w w' : World} {base el size : Nat} {v : Value} {ids : List (Array Value)} (h : OwnO w base el size v ids) (k : Ext w w') : OwnO w' base el size v ids := h.keep k fun _ _ h => h
theorem OwnO.len {w : World} {base el size : Nat} {v : Value} {ids : List (Array Value)} (h : OwnO w base el size v ids) : lenR v = some (.int .i64 (ids.length : Nat)) := by
  obtain ⟨_, ⟨rfl, rfl⟩ | ⟨g, o, cap, cur, rfl, _⟩⟩ := h <;> rfl
theorem OwnO.one {w : World} {base el size : Nat} {v : Value} {ids : List (Array Value)} (h : OwnO w base el size v ids) : v.oneCell' = true := by
  obtain ⟨_, ⟨rfl, rfl⟩ | ⟨g, o, cap, cur, rfl, _⟩⟩ := h <;> rfl
theorem OwnO.is {w : World} {base el size : Nat} {v : Value} {ids : List (Array Value)} (h : OwnO w base el size v ids) : ∃ q c, v = .slice q ids.length c ∧ ids.length ≤ c := by
  obtain ⟨_, ⟨rfl, rfl⟩ | ⟨g, o, cap, cur, rfl, _, _, h, _⟩⟩ := h
  · exact ⟨_, _, rfl, Nat.le_refl _⟩
  · exact ⟨_, _, rfl, h⟩
theorem OwnO.blk {w : World} {base el size : Nat} {v : Value} {ids : List (Array Value)} (h : OwnO w base el size v ids) {g : Nat} (hg : blk v g) : base ≤ g ∧ ∃ c, w.heap[g]? = some (.cells c el (0, 0)) := by
  obtain ⟨_, ⟨rfl, rfl⟩ | ⟨g', o, cap, cur, rfl, hb, hh, _⟩⟩ := h
  · cases hg
  · cases hg; exact ⟨hb, _, hh⟩
theorem OwnO.base {w : World} {base b el size : Nat} {v : Value} {ids : List (Array Value)} (h : OwnO w base el size v ids) (hb : b ≤ base) : OwnO w b el size v ids := by
  obtain ⟨hs, h | ⟨g, o, cap, cur, rfl, hbg, r⟩⟩ := h
  · exact ⟨hs, .inl h⟩
  · exact ⟨hs, .inr ⟨g, o, cap, cur, rfl, Nat.le_trans hb hbg, r⟩⟩
theorem OwnO.rd {w : World} {base el size : Nat} {v : Value} {ids : List (Array Value)} (h : OwnO w base el size v ids) : rdS w size v = some (ids.flatMap Array.toList).toArray := by
  obtain ⟨hs, ⟨rfl, rfl⟩ | ⟨g, o, cap, cur, rfl, hb, hg, hn, hcm, hle, htake⟩⟩ := h
  · rfl
  · have hle2 : ids.length * size ≤ cap * size := Nat.mul_le_mul_right _ hn
    simp only [rdS]
    split
    · rename_i h0
      have : ids = [] := List.eq_nil_of_length_eq_zero h0
      subst this; rfl
    · rw [rdN_heap, hg, rdO_some _ _ _ _ _ (by omega)]
      congr 1
      apply Array.ext'
      rw [← htake]
      simp only [Array.toList_extract, List.extract_eq_take_drop]
      congr 1; omega
/-- An element. -/
theorem OwnO.at {w : World} {base el size : Nat} {v : Value} {ids : List (Array Value)} (h : OwnO w base el size v ids) {j : Nat} (hj : j < ids.length) :
    ∃ g o cap cur, v = .slice (some ⟨g, o, none⟩) ids.length cap ∧ w.heap[g]? = some (.cells cur el (0, 0)) ∧ rdO (w.heap[g]?) (o + j * size) size = some ids[j] := by
  obtain ⟨q, c, e, _⟩ := h.is
  obtain ⟨b, o, hq, h1⟩ := rdS_at (size := size) (xs := ids) (q := q) (n := ids.length) (c := c) (by rw [← e]; exact h.rd) rfl h.sz hj
  subst hq
  obtain ⟨hs, ⟨rfl, rfl⟩ | ⟨g', o', cap, cur, e', hb, hg, _⟩⟩ := h
  · cases hj
  · rw [e] at e'
    injection e' with e1 e2 e3
    injection e1 with e1
    injection e1 with e4 e5
    subst e4 e5 e
    exact ⟨_, _, _, _, rfl, hg, h1⟩
/-- From an element on. -/
theorem OwnO.drop {w : World} {base el size : Nat} {v : Value} {ids : List (Array Value)} (h : OwnO w base el size v ids) {l : Nat} (hl : l ≤ ids.length) :
    ∃ q c, v = .slice q ids.length c ∧ ids.length ≤ c ∧ OwnO w base el size (.slice (advA size q c l) (ids.length - l) (c - l)) (ids.drop l) := by
  obtain ⟨hs, ⟨rfl, rfl⟩ | ⟨g, o, cap, cur, rfl, hb, hg, hn, hcm, hle, htake⟩⟩ := h
  · have : l = 0 := by simpa using hl
    subst this
    exact ⟨none, 0, rfl, Nat.le_refl _, OwnO.nil w base el size⟩
  · refine ⟨_, _, rfl, hn, fun k hk => hs k (List.mem_of_mem_drop hk), .inr ?_⟩
    have hd : (ids.drop l).length = ids.length - l := List.length_drop
    unfold advA
    by_cases hc : cap = l
    · rw [if_pos hc]
      have h0 : ids.drop l = [] := List.drop_eq_nil_of_le (by omega)
      refine ⟨g, o, cap - l, cur, by rw [hd], hb, hg, by omega, by omega, ?_, ?_⟩
      · have : (cap - l) * size = 0 := by rw [hc, Nat.sub_self, Nat.zero_mul]
        rw [this]; have := Nat.zero_le (cap * size); omega
      · rw [h0]; simp
    · rw [if_neg hc]
      have e1 : cap * size = l * size + (cap - l) * size := by rw [← Nat.add_mul]; congr 1; omega
      have e2 : ids.length * size = l * size + (ids.length - l) * size := by rw [← Nat.add_mul]; congr 1; omega
      refine ⟨g, o + l * size, cap - l, cur, by rw [hd]; simp [Addr.add], hb, hg, by omega, by omega, by omega, ?_⟩
      rw [hd, ← flat_drop l hs, ← htake, List.drop_take, List.drop_drop]
      congr 1; omega
end Go.Proofs
namespace Go.Proofs
open Go.Vc
set_option maxRecDepth 10000

/-! ### Words -/
def b32 (v : Int) : BitVec 32 := BitVec.ofNat 32 v.toNat
def rotF (n : Nat) (x : BitVec 32) : BitVec 32 := (x <<< (32 - n)) ||| (x >>> n)
def sg0 (x : BitVec 32) : BitVec 32 := rotF 7 x ^^^ rotF 18 x ^^^ x >>> 3
def sg1 (x : BitVec 32) : BitVec 32 := rotF 17 x ^^^ rotF 19 x ^^^ x >>> 10
def SG0 (x : BitVec 32) : BitVec 32 := rotF 2 x ^^^ rotF 13 x ^^^ rotF 22 x
def SG1 (x : BitVec 32) : BitVec 32 := rotF 6 x ^^^ rotF 11 x ^^^ rotF 25 x
def chF (e f g : BitVec 32) : BitVec 32 := (e &&& f) ^^^ (~~~e &&& g)
def majF (a b c : BitVec 32) : BitVec 32 := (a &&& b) ^^^ (a &&& c) ^^^ (b &&& c)
def wordF (a b c d : Int) : BitVec 32 := b32 a <<< 24 ||| b32 b <<< 16 ||| b32 c <<< 8 ||| b32 d
def kL : List (BitVec 32) := [0x428a2f98, 0x71374491, 0xb5c0fbcf, 0xe9b5dba5, 0x3956c25b, 0x59f111f1, 0x923f82a4, 0xab1c5ed5, 0xd807aa98, 0x12835b01, 0x243185be, 0x550c7dc3, 0x72be5d74, 0x80deb1fe, 0x9bdc06a7, 0xc19bf174, 0xe49b69c1, 0xefbe4786, 0x0fc19dc6, 0x240ca1cc, 0x2de92c6f, 0x4a7484aa, 0x5cb0a9dc, 0x76f988da, 0x983e5152, 0xa831c66d, 0xb00327c8, 0xbf597fc7, 0xc6e00bf3, 0xd5a79147, 0x06ca6351, 0x14292967, 0x27b70a85, 0x2e1b2138, 0x4d2c6dfc, 0x53380d13, 0x650a7354, 0x766a0abb, 0x81c2c92e, 0x92722c85, 0xa2bfe8a1, 0xa81a664b, 0xc24b8b70, 0xc76c51a3, 0xd192e819, 0xd6990624, 0xf40e3585, 0x106aa070, 0x19a4c116, 0x1e376c08, 0x2748774c, 0x34b0bcb5, 0x391c0cb3, 0x4ed8aa4a, 0x5b9cca4f, 0x682e6ff3, 0x748f82ee, 0x78a5636f, 0x84c87814, 0x8cc70208, 0x90befffa, 0xa4506ceb, 0xbef9a3f7, 0xc67178f2]
def w16 (blk : List Int) : List (BitVec 32) := (List.range 16).map fun t => wordF (blk.getD (4 * t) 0) (blk.getD (4 * t + 1) 0) (blk.getD (4 * t + 2) 0) (blk.getD (4 * t + 3) 0)
def nxtW (l : List (BitVec 32)) : BitVec 32 := l.getD (l.length - 16) 0 + l.getD (l.length - 7) 0 + sg0 (l.getD (l.length - 15) 0) + sg1 (l.getD (l.length - 2) 0)
def sch : Nat → List (BitVec 32) → List (BitVec 32)
  | 0, l => l
  | k + 1, l => sch k (l ++ [nxtW l])
def wsF (blk : List Int) : List (BitVec 32) := sch 48 (w16 blk)
structure S8 where
  a : BitVec 32
  b : BitVec 32
  c : BitVec 32
  d : BitVec 32
  e : BitVec 32
  f : BitVec 32
  g : BitVec 32
  h : BitVec 32
def S8.list (s : S8) : List (BitVec 32) := [s.a, s.b, s.c, s.d, s.e, s.f, s.g, s.h]
def S8.add (s v : S8) : S8 := ⟨s.a + v.a, s.b + v.b, s.c + v.c, s.d + v.d, s.e + v.e, s.f + v.f, s.g + v.g, s.h + v.h⟩
def t1F (s : S8) (k x : BitVec 32) : BitVec 32 := s.h + SG1 s.e + chF s.e s.f s.g + k + x
def t2F (s : S8) : BitVec 32 := SG0 s.a + majF s.a s.b s.c
def rnd (s : S8) (k x : BitVec 32) : S8 := ⟨t1F s k x + t2F s, s.a, s.b, s.c, s.d + t1F s k x, s.e, s.f, s.g⟩
def rndN : Nat → S8 → List (BitVec 32) → List (BitVec 32) → S8
  | n + 1, s, k :: ks, x :: xs => rndN n (rnd s k x) ks xs
  | _, s, _, _ => s
def compF (s : S8) (blk : List Int) : S8 := s.add (rndN 64 s kL (wsF blk))
def iv : S8 := ⟨0x6a09e667, 0xbb67ae85, 0x3c6ef372, 0xa54ff53a, 0x510e527f, 0x9b05688c, 0x1f83d9ab, 0x5be0cd19⟩
def runN : Nat → S8 → List Int → S8
  | 0, s, _ => s
  | k + 1, s, m => runN k (compF s (m.take 64)) (m.drop 64)
def bytesW (x : BitVec 32) : List Int := [(((x >>> 24).toNat % 256 : Nat) : Int), (((x >>> 16).toNat % 256 : Nat) : Int), (((x >>> 8).toNat % 256 : Nat) : Int), ((x.toNat % 256 : Nat) : Int)]
def outF (s : S8) : List Int := s.list.flatMap bytesW
/-- The lowest 8 bytes of a number, the highest first. -/
def be8 (n : Nat) : List Int := (List.range 8).map fun i => ((n / 256 ^ (7 - i) % 256 : Nat) : Int)
def padF (n : Nat) : List Int := 128 :: (List.replicate (63 - (n + 8) % 64) 0 ++ be8 (8 * n))
def allF (m : List Int) : List Int := m ++ padF m.length
def shaF (m : List Int) : List Int := outF (runN ((allF m).length / 64) iv (allF m))
def dblF (m : List Int) : List Int := shaF (shaF m)

theorem sch_len : ∀ (k : Nat) (l : List (BitVec 32)), (sch k l).length = l.length + k
  | 0, _ => rfl
  | k + 1, l => by rw [sch, sch_len k]; simp; omega
theorem sch_snoc : ∀ (k : Nat) (l : List (BitVec 32)), sch (k + 1) l = sch k l ++ [nxtW (sch k l)]
  | 0, _ => rfl
  | k + 1, l => by
    show sch (k + 1) (l ++ [nxtW l]) = _
    rw [sch_snoc k]
    rfl
theorem sch_pre : ∀ (k : Nat) (l : List (BitVec 32)), l <+: sch k l
  | 0, l => List.prefix_refl _
  | k + 1, l => (List.prefix_append _ _).trans (sch_pre k (l ++ [nxtW l]))
theorem w16_len (blk : List Int) : (w16 blk).length = 16 := by simp [w16]
theorem wsF_len (blk : List Int) : (wsF blk).length = 64 := by unfold wsF; rw [sch_len, w16_len]
theorem kL_len : kL.length = 64 := by decide +kernel
theorem outF_len (s : S8) : (outF s).length = 32 := by simp [outF, S8.list, bytesW]
theorem outF_byt (s : S8) : byt (outF s) := by
  intro x hx
  simp only [outF, List.mem_flatMap] at hx
  obtain ⟨y, _, hx⟩ := hx
  simp only [bytesW, List.mem_cons, List.not_mem_nil, or_false] at hx
  rcases hx with rfl | rfl | rfl | rfl <;> omega
theorem shaF_len (m : List Int) : (shaF m).length = 32 := outF_len _
theorem shaF_byt (m : List Int) : byt (shaF m) := outF_byt _
theorem dblF_len (m : List Int) : (dblF m).length = 32 := outF_len _
theorem be8_len (n : Nat) : (be8 n).length = 8 := by simp [be8]
theorem padF_len (n : Nat) : (padF n).length = 72 - (n + 8) % 64 := by
  simp only [padF, List.length_cons, List.length_append, List.length_replicate, be8_len]
  omega
theorem padF_byt (n : Nat) : byt (padF n) := by
  intro x hx
  simp only [padF, List.mem_cons, List.mem_append, be8, List.mem_map] at hx
  rcases hx with rfl | hx | ⟨i, _, rfl⟩
  · omega
  · have := List.eq_of_mem_replicate hx; omega
  · omega
theorem runN_add : ∀ (a b : Nat) (s : S8) (m : List Int), runN (a + b) s m = runN b (runN a s m) (m.drop (64 * a))
  | 0, b, s, m => by rw [Nat.zero_add]; rfl
  | a + 1, b, s, m => by
    rw [show a + 1 + b = (a + b) + 1 by omega]
    show runN (a + b) _ _ = _
    rw [runN_add a b, List.drop_drop]
    have e : 64 + 64 * a = 64 * (a + 1) := by omega
    rw [e]
    rfl
theorem runN_pre : ∀ (k : Nat) (s : S8) (m x : List Int), 64 * k ≤ m.length → runN k s (m ++ x) = runN k s m
  | 0, _, _, _, _ => rfl
  | k + 1, s, m, x, h => by
    show runN k (compF s ((m ++ x).take 64)) ((m ++ x).drop 64) = runN k (compF s (m.take 64)) (m.drop 64)
    rw [List.take_append_of_le_length (by omega), List.drop_append_of_le_length (by omega), runN_pre k _ _ _ (by rw [List.length_drop]; omega)]
/-- More bytes, block by block. -/
def fullN (m : List Int) : Nat := m.length / 64
def curS (m : List Int) : S8 := runN (fullN m) iv m
def waitL (m : List Int) : List Int := m.drop (64 * fullN m)
theorem waitL_len (m : List Int) : (waitL m).length = m.length % 64 := by
  unfold waitL fullN; rw [List.length_drop]; omega
/-- What has come to, behind some blocks of the whole. -/
theorem runN_step (m : List Int) (j : Nat) : runN (j + 1) iv m = compF (runN j iv m) ((m.drop (64 * j)).take 64) := by
  rw [runN_add j 1]
  rfl
end Go.Proofs
namespace Go.Proofs
open Go.Vc
set_option maxRecDepth 10000

theorem and31 (n : Nat) (h1 : 1 ≤ n) (h2 : n ≤ 31) : binR .and (.int .u64 (IntKind.u64.wrap (-(n : Int)))) (.int .u64 31) = some (.int .u64 ((32 - n : Nat) : Int)) := by
  rw [bin_and]
  have h : ∀ k : Fin 32, 1 ≤ k.val → IntKind.u64.wrap ((BitVec.ofInt IntKind.u64.bits (IntKind.u64.wrap (-((k.val : Nat) : Int))) &&& BitVec.ofInt IntKind.u64.bits 31).toNat : Int) = ((32 - k.val : Nat) : Int) := by decide +kernel
  have := h ⟨n, by omega⟩ h1
  simp only at this
  rw [this]
theorem rotl_ok (w : World) (x : BitVec 32) (n : Nat) (h1 : 1 ≤ n) (h2 : n ≤ 31) :
    Calls Try.prog 55 #[U32 x, .int .i64 (-(n : Int))] w (Ret fun u w' => u = U32 (rotF n x) ∧ w' = w) := by
  refine calls_of_cfg c55_ok (Nat.le_of_ble_eq_true rfl) ?_
  simp only [argE_nil, argE_cons, Nat.reduceAdd, Nat.zero_add]
  have hs := and31 n h1 h2
  have e1 : binR .shl (U32 x) (.int .u64 ((32 - n : Nat) : Int)) = some (U32 (x <<< (32 - n))) := U32_shl x .u64 (32 - n) (by omega)
  have hw : IntKind.u64.wrap (32 - ((32 - n : Nat) : Int)) = ((n : Nat) : Int) := by rw [wrap_u64]; omega
  have e2 : binR .shr (U32 x) (.int .u64 ((n : Nat) : Int)) = some (U32 (x >>> n)) := U32_shr x .u64 n (by omega)
  have e3 := U32_or (x <<< (32 - n)) (x >>> n)
  (refine W_at c55_ok ?_; refine ⟨_, rfl, ?_⟩; simp (disch := first | omega | assumption | rfl | (simp only [vcS] <;> omega) | fail) only [↓ptV_l, ↓vcA, vcB, ↓vcD, vcE, ↓reduceIte, Nat.reduceEqDiff, Nat.reduceAdd, Nat.reduceMul, Nat.reduceLeDiff, Int.reduceLE, Int.reduceLT, Int.reduceEq, Int.reduceToNat, Int.reduceAdd, Int.reduceSub, Int.reduceMul, Int.reduceNeg, reduceCtorEq, Option.bind_some, Option.map_some, List.length_cons, List.length_nil, vcM, List.getElem?_toArray, List.getElem?_cons_zero, List.getElem?_cons_succ])
  (refine W_at c55_ok ?_; refine ⟨_, rfl, ?_⟩; simp (disch := first | omega | assumption | rfl | (simp only [vcS] <;> omega) | fail) only [↓ptV_l, ↓vcA, vcB, ↓vcD, vcE, ↓reduceIte, Nat.reduceEqDiff, Nat.reduceAdd, Nat.reduceMul, Nat.reduceLeDiff, Int.reduceLE, Int.reduceLT, Int.reduceEq, Int.reduceToNat, Int.reduceAdd, Int.reduceSub, Int.reduceMul, Int.reduceNeg, reduceCtorEq, Option.bind_some, Option.map_some, List.length_cons, List.length_nil, vcM, List.getElem?_toArray, List.getElem?_cons_zero, List.getElem?_cons_succ, hs])
  (refine W_at c55_ok ?_; refine ⟨_, rfl, ?_⟩; simp (disch := first | omega | assumption | rfl | (simp only [vcS] <;> omega) | fail) only [↓ptV_l, ↓vcA, vcB, ↓vcD, vcE, ↓reduceIte, Nat.reduceEqDiff, Nat.reduceAdd, Nat.reduceMul, Nat.reduceLeDiff, Int.reduceLE, Int.reduceLT, Int.reduceEq, Int.reduceToNat, Int.reduceAdd, Int.reduceSub, Int.reduceMul, Int.reduceNeg, reduceCtorEq, Option.bind_some, Option.map_some, List.length_cons, List.length_nil, vcM, List.getElem?_toArray, List.getElem?_cons_zero, List.getElem?_cons_succ, e1, hw, e2, e3])
  (refine W_at c55_ok ?_; refine ⟨_, rfl, ?_⟩; simp (disch := first | omega | assumption | rfl | (simp only [vcS] <;> omega) | fail) only [↓ptV_l, ↓vcA, vcB, ↓vcD, vcE, ↓reduceIte, Nat.reduceEqDiff, Nat.reduceAdd, Nat.reduceMul, Nat.reduceLeDiff, Int.reduceLE, Int.reduceLT, Int.reduceEq, Int.reduceToNat, Int.reduceAdd, Int.reduceSub, Int.reduceMul, Int.reduceNeg, reduceCtorEq, Option.bind_some, Option.map_some, List.length_cons, List.length_nil, vcM, List.getElem?_toArray, List.getElem?_cons_zero, List.getElem?_cons_succ, Ret_returned])
  rfl
theorem right_ok (w : World) (x : BitVec 32) (n : Nat) (h1 : 1 ≤ n) (h2 : n ≤ 31) :
    Calls Try.prog 51 #[U32 x, .int .i64 n] w (Ret fun u w' => u = U32 (rotF n x) ∧ w' = w) := by
  refine calls_of_cfg c51_ok (Nat.le_of_ble_eq_true rfl) ?_
  simp only [argE_nil, argE_cons, Nat.reduceAdd, Nat.zero_add]
  have hw : IntKind.i64.wrap (0 - (n : Int)) = -(n : Int) := by rw [wrap_i64 (by omega) (by omega)]; omega
  (refine W_at c51_ok ?_; refine ⟨_, rfl, ?_⟩; simp (disch := first | omega | assumption | rfl | (simp only [vcS] <;> omega) | fail) only [↓ptV_l, ↓vcA, vcB, ↓vcD, vcE, ↓reduceIte, Nat.reduceEqDiff, Nat.reduceAdd, Nat.reduceMul, Nat.reduceLeDiff, Int.reduceLE, Int.reduceLT, Int.reduceEq, Int.reduceToNat, Int.reduceAdd, Int.reduceSub, Int.reduceMul, Int.reduceNeg, reduceCtorEq, Option.bind_some, Option.map_some, List.length_cons, List.length_nil, vcM, List.getElem?_toArray, List.getElem?_cons_zero, List.getElem?_cons_succ])
  (refine W_at c51_ok ?_; refine ⟨_, rfl, ?_⟩; simp (disch := first | omega | assumption | rfl | (simp only [vcS] <;> omega) | fail) only [↓ptV_l, ↓vcA, vcB, ↓vcD, vcE, ↓reduceIte, Nat.reduceEqDiff, Nat.reduceAdd, Nat.reduceMul, Nat.reduceLeDiff, Int.reduceLE, Int.reduceLT, Int.reduceEq, Int.reduceToNat, Int.reduceAdd, Int.reduceSub, Int.reduceMul, Int.reduceNeg, reduceCtorEq, Option.bind_some, Option.map_some, List.length_cons, List.length_nil, vcM, List.getElem?_toArray, List.getElem?_cons_zero, List.getElem?_cons_succ, hw])
  refine callV_ret (rotl_ok w x n h1 h2) ?_
  rintro _ w1 ⟨rfl, hw⟩
  obtain rfl : w = w1 := hw.symm
  first | (simp (disch := first | omega | assumption | rfl | (simp only [vcS] <;> omega) | fail) only [↓ptV_l, ↓vcA, vcB, ↓vcD, vcE, ↓reduceIte, Nat.reduceEqDiff, Nat.reduceAdd, Nat.reduceMul, Nat.reduceLeDiff, Int.reduceLE, Int.reduceLT, Int.reduceEq, Int.reduceToNat, Int.reduceAdd, Int.reduceSub, Int.reduceMul, Int.reduceNeg, reduceCtorEq, Option.bind_some, Option.map_some, List.length_cons, List.length_nil, vcM, List.getElem?_toArray, List.getElem?_cons_zero, List.getElem?_cons_succ]) | skip
  (refine W_at c51_ok ?_; refine ⟨_, rfl, ?_⟩; simp (disch := first | omega | assumption | rfl | (simp only [vcS] <;> omega) | fail) only [↓ptV_l, ↓vcA, vcB, ↓vcD, vcE, ↓reduceIte, Nat.reduceEqDiff, Nat.reduceAdd, Nat.reduceMul, Nat.reduceLeDiff, Int.reduceLE, Int.reduceLT, Int.reduceEq, Int.reduceToNat, Int.reduceAdd, Int.reduceSub, Int.reduceMul, Int.reduceNeg, reduceCtorEq, Option.bind_some, Option.map_some, List.length_cons, List.length_nil, vcM, List.getElem?_toArray, List.getElem?_cons_zero, List.getElem?_cons_succ, Ret_returned])
def wcs (l : List (BitVec 32)) : Array Value := (l.map U32).toArray
theorem wcs_size (l : List (BitVec 32)) : (wcs l).size = l.length := by simp [wcs]
theorem wcs_flat (l : List (BitVec 32)) : flat (wcs l) := by
  intro v hv
  simp only [wcs, List.mem_toArray, List.mem_map] at hv
  obtain ⟨x, _, rfl⟩ := hv
  rfl
theorem begin_ok (w : World) : Calls Try.prog 41 #[] w (Ret fun u w' => u = .agg (wcs iv.list) ∧ Ext w w') := by
  refine calls_of_cfg c41_ok (Nat.le_of_ble_eq_true rfl) ?_
  simp only [argE_nil, argE_cons, Nat.reduceAdd, Nat.zero_add]
  (refine W_at c41_ok ?_; refine ⟨_, rfl, ?_⟩; simp (disch := first | omega | assumption | rfl | (simp only [vcS] <;> omega) | fail) only [↓ptV_l, ↓vcA, vcB, ↓vcD, vcE, ↓reduceIte, Nat.reduceEqDiff, Nat.reduceAdd, Nat.reduceMul, Nat.reduceLeDiff, Int.reduceLE, Int.reduceLT, Int.reduceEq, Int.reduceToNat, Int.reduceAdd, Int.reduceSub, Int.reduceMul, Int.reduceNeg, reduceCtorEq, Option.bind_some, Option.map_some, List.length_cons, List.length_nil, vcM, List.getElem?_toArray, List.getElem?_cons_zero, List.getElem?_cons_succ])
  have hE0 : Ext w (w.alloc (.cells (zc [(8, .int .u32 0)]) 84)) := (Keep.refl _ w).alloc _
  have hc0 : (w.alloc (.cells (zc [(8, .int .u32 0)]) 84)).heap[w.heap.size]? = some (.cells (zc [(8, .int .u32 0)]) 84 (0, 0)) := heap_new _ _ _ rfl
  generalize World.alloc _ _ = w1 at hE0 hc0 ⊢
  generalize hg : w.heap.size = g at hc0 ⊢
  (refine W_at c41_ok ?_; refine ⟨_, rfl, ?_⟩; simp (disch := first | omega | assumption | rfl | (simp only [vcS] <;> omega) | fail) only [↓ptV_l, ↓vcA, vcB, ↓vcD, vcE, ↓reduceIte, Nat.reduceEqDiff, Nat.reduceAdd, Nat.reduceMul, Nat.reduceLeDiff, Int.reduceLE, Int.reduceLT, Int.reduceEq, Int.reduceToNat, Int.reduceAdd, Int.reduceSub, Int.reduceMul, Int.reduceNeg, reduceCtorEq, Option.bind_some, Option.map_some, List.length_cons, List.length_nil, vcM, List.getElem?_toArray, List.getElem?_cons_zero, List.getElem?_cons_succ])
  have e8 : (#[Value.int .u32 1779033703] ++ (#[Value.int .u32 3144134277] ++ (#[Value.int .u32 1013904242] ++ (#[Value.int .u32 2773480762] ++ (#[Value.int .u32 1359893119] ++ (#[Value.int .u32 2600822924] ++ (#[Value.int .u32 528734635, Value.int .u32 1541459225])))))) : Array Value) = wcs iv.list := by kernel_rfl
  rw [e8]
  have k1 : Keep (fun x => x = g) w1 (w1.putN g 0 (wcs iv.list)) := (Keep.refl _ w1).putN _ fun _ => rfl
  have hc1 : (w1.putN g 0 (wcs iv.list)).heap[g]? = some (.cells (wcs iv.list) 84 (0, 0)) := by
    rw [heap_putN_eq hc0, splice_all (by rfl)]
  refine ⟨rfl, wcs_flat _, by rw [hc0]; simp [okO, zc, runs], ?_⟩
  have hE1 : Ext w (w1.putN g 0 (wcs iv.list)) := hE0.trans k1 fun i hi e => by omega
  generalize World.putN _ _ _ _ = w2 at hc1 hE1 ⊢
  have hx : (wcs iv.list).extract 0 (0 + 8) = wcs iv.list := by rfl
  have s8 : (wcs iv.list).size = 8 := rfl
  (refine W_at c41_ok ?_; refine ⟨_, rfl, ?_⟩; simp (disch := first | omega | assumption | rfl | (simp only [vcS] <;> omega) | fail) only [↓ptV_l, ↓vcA, vcB, ↓vcD, vcE, ↓reduceIte, Nat.reduceEqDiff, Nat.reduceAdd, Nat.reduceMul, Nat.reduceLeDiff, Int.reduceLE, Int.reduceLT, Int.reduceEq, Int.reduceToNat, Int.reduceAdd, Int.reduceSub, Int.reduceMul, Int.reduceNeg, reduceCtorEq, Option.bind_some, Option.map_some, List.length_cons, List.length_nil, vcM, List.getElem?_toArray, List.getElem?_cons_zero, List.getElem?_cons_succ, Ret_returned, hc1, hx, s8])
  exact hE1
theorem k256_ok (w : World) : Calls Try.prog 42 #[] w (Ret fun u w' => u = .agg (wcs kL) ∧ Ext w w') := by
  refine calls_of_cfg c42_ok (Nat.le_of_ble_eq_true rfl) ?_
  simp only [argE_nil, argE_cons, Nat.reduceAdd, Nat.zero_add]
  (refine W_at c42_ok ?_; refine ⟨_, rfl, ?_⟩; simp (disch := first | omega | assumption | rfl | (simp only [vcS] <;> omega) | fail) only [↓ptV_l, ↓vcA, vcB, ↓vcD, vcE, ↓reduceIte, Nat.reduceEqDiff, Nat.reduceAdd, Nat.reduceMul, Nat.reduceLeDiff, Int.reduceLE, Int.reduceLT, Int.reduceEq, Int.reduceToNat, Int.reduceAdd, Int.reduceSub, Int.reduceMul, Int.reduceNeg, reduceCtorEq, Option.bind_some, Option.map_some, List.length_cons, List.length_nil, vcM, List.getElem?_toArray, List.getElem?_cons_zero, List.getElem?_cons_succ])
  have hE0 : Ext w (w.alloc (.cells (zc [(64, .int .u32 0)]) 98)) := (Keep.refl _ w).alloc _
  have hc0 : (w.alloc (.cells (zc [(64, .int .u32 0)]) 98)).heap[w.heap.size]? = some (.cells (zc [(64, .int .u32 0)]) 98 (0, 0)) := heap_new _ _ _ rfl
  have hgl : w.heap.size ≤ w.heap.size := Nat.le_refl _
  generalize World.alloc _ _ = w1 at hE0 hc0 ⊢
  generalize hg : w.heap.size = g at hc0 hgl ⊢
  (refine W_at c42_ok ?_; refine ⟨_, rfl, ?_⟩; simp (disch := first | omega | assumption | rfl | (simp only [vcS] <;> omega) | fail) only [↓ptV_l, ↓vcA, vcB, ↓vcD, vcE, ↓reduceIte, Nat.reduceEqDiff, Nat.reduceAdd, Nat.reduceMul, Nat.reduceLeDiff, Int.reduceLE, Int.reduceLT, Int.reduceEq, Int.reduceToNat, Int.reduceAdd, Int.reduceSub, Int.reduceMul, Int.reduceNeg, reduceCtorEq, Option.bind_some, Option.map_some, List.length_cons, List.length_nil, vcM, List.getElem?_toArray, List.getElem?_cons_zero, List.getElem?_cons_succ])
  have e64 : (#[Value.int .u32 1116352408] ++ (#[Value.int .u32 1899447441] ++ (#[Value.int .u32 3049323471] ++ (#[Value.int .u32 3921009573] ++ (#[Value.int .u32 961987163] ++ (#[Value.int .u32 1508970993] ++ (#[Value.int .u32 2453635748] ++ (#[Value.int .u32 2870763221] ++ (#[Value.int .u32 3624381080] ++ (#[Value.int .u32 310598401] ++ (#[Value.int .u32 607225278] ++ (#[Value.int .u32 1426881987] ++ (#[Value.int .u32 1925078388] ++ (#[Value.int .u32 2162078206] ++ (#[Value.int .u32 2614888103] ++ (#[Value.int .u32 3248222580] ++ (#[Value.int .u32 3835390401] ++ (#[Value.int .u32 4022224774] ++ (#[Value.int .u32 264347078] ++ (#[Value.int .u32 604807628] ++ (#[Value.int .u32 770255983] ++ (#[Value.int .u32 1249150122] ++ (#[Value.int .u32 1555081692] ++ (#[Value.int .u32 1996064986] ++ (#[Value.int .u32 2554220882] ++ (#[Value.int .u32 2821834349] ++ (#[Value.int .u32 2952996808] ++ (#[Value.int .u32 3210313671] ++ (#[Value.int .u32 3336571891] ++ (#[Value.int .u32 3584528711] ++ (#[Value.int .u32 113926993] ++ (#[Value.int .u32 338241895] ++ (#[Value.int .u32 666307205] ++ (#[Value.int .u32 773529912] ++ (#[Value.int .u32 1294757372] ++ (#[Value.int .u32 1396182291] ++ (#[Value.int .u32 1695183700] ++ (#[Value.int .u32 1986661051] ++ (#[Value.int .u32 2177026350] ++ (#[Value.int .u32 2456956037] ++ (#[Value.int .u32 2730485921] ++ (#[Value.int .u32 2820302411] ++ (#[Value.int .u32 3259730800] ++ (#[Value.int .u32 3345764771] ++ (#[Value.int .u32 3516065817] ++ (#[Value.int .u32 3600352804] ++ (#[Value.int .u32 4094571909] ++ (#[Value.int .u32 275423344] ++ (#[Value.int .u32 430227734] ++ (#[Value.int .u32 506948616] ++ (#[Value.int .u32 659060556] ++ (#[Value.int .u32 883997877] ++ (#[Value.int .u32 958139571] ++ (#[Value.int .u32 1322822218] ++ (#[Value.int .u32 1537002063] ++ (#[Value.int .u32 1747873779] ++ (#[Value.int .u32 1955562222] ++ (#[Value.int .u32 2024104815] ++ (#[Value.int .u32 2227730452] ++ (#[Value.int .u32 2361852424] ++ (#[Value.int .u32 2428436474] ++ (#[Value.int .u32 2756734187] ++ (#[Value.int .u32 3204031479, Value.int .u32 3329325298])))))))))))))))))))))))))))))))))))))))))))))))))))))))))))))) : Array Value) = wcs kL := by kernel_rfl
  rw [e64]
  have k1 : Keep (fun x => x = g) w1 (w1.putN g 0 (wcs kL)) := (Keep.refl _ w1).putN _ fun _ => rfl
  have s64 : (wcs kL).size = 64 := by rw [wcs_size, kL_len]
  have z64 : (zc [(64, Value.int .u32 0)]).size = 64 := by simp [zc, runs]
  have hc1 : (w1.putN g 0 (wcs kL)).heap[g]? = some (.cells (wcs kL) 98 (0, 0)) := by
    rw [heap_putN_eq hc0, splice_all (by rw [s64, z64])]
  refine ⟨s64, wcs_flat _, by rw [hc0]; simp [okO, z64], ?_⟩
  have hE1 : Ext w (w1.putN g 0 (wcs kL)) := hE0.trans k1 fun i hi e => by omega
  generalize World.putN _ _ _ _ = w2 at hc1 hE1 ⊢
  have hx : (wcs kL).extract 0 (0 + 64) = wcs kL := by rw [Nat.zero_add]; exact ext_all _ _ s64
  (refine W_at c42_ok ?_; refine ⟨_, rfl, ?_⟩; simp (disch := first | omega | assumption | rfl | (simp only [vcS] <;> omega) | fail) only [↓ptV_l, ↓vcA, vcB, ↓vcD, vcE, ↓reduceIte, Nat.reduceEqDiff, Nat.reduceAdd, Nat.reduceMul, Nat.reduceLeDiff, Int.reduceLE, Int.reduceLT, Int.reduceEq, Int.reduceToNat, Int.reduceAdd, Int.reduceSub, Int.reduceMul, Int.reduceNeg, reduceCtorEq, Option.bind_some, Option.map_some, List.length_cons, List.length_nil, vcM, List.getElem?_toArray, List.getElem?_cons_zero, List.getElem?_cons_succ, Ret_returned, hc1, hx, s64])
  exact hE1
end Go.Proofs
namespace Go.Proofs
open Go.Vc
set_option maxRecDepth 10000

theorem sch_le (j k : Nat) (l : List (BitVec 32)) (h : j ≤ k) : sch j l <+: sch k l := by
  induction k with
  | zero => rw [show j = 0 by omega]; exact List.prefix_refl _
  | succ k ih =>
    by_cases e : j = k + 1
    · rw [e]; exact List.prefix_refl _
    · rw [sch_snoc]
      exact (ih (by omega)).trans (List.prefix_append _ _)
theorem ws_take (blk : List Int) (i : Nat) (h1 : 16 ≤ i) (h2 : i ≤ 64) : (wsF blk).take i = sch (i - 16) (w16 blk) := by
  have h := sch_le (i - 16) 48 (w16 blk) (by omega)
  have e := List.prefix_iff_eq_take.1 h
  rw [sch_len, w16_len, show 16 + (i - 16) = i by omega] at e
  exact e.symm
theorem ws_rec (blk : List Int) (i : Nat) (h1 : 16 ≤ i) (h2 : i < 64) : (wsF blk)[i]? = some (nxtW ((wsF blk).take i)) := by
  have h := ws_take blk (i + 1) (by omega) (by omega)
  rw [show i + 1 - 16 = (i - 16) + 1 by omega, sch_snoc, ← ws_take blk i h1 (by omega)] at h
  have h3 : ((wsF blk).take (i + 1))[i]? = (wsF blk)[i]? := List.getElem?_take_of_lt (by omega)
  have hl : ((wsF blk).take i).length = i := by rw [List.length_take, wsF_len]; omega
  rw [← h3, h, List.getElem?_append_right (by omega), hl, Nat.sub_self]
  rfl
theorem ws_16 (blk : List Int) (i : Nat) (h : i < 16) : (wsF blk)[i]? = some (wordF (blk.getD (4 * i) 0) (blk.getD (4 * i + 1) 0) (blk.getD (4 * i + 2) 0) (blk.getD (4 * i + 3) 0)) := by
  obtain ⟨t, ht⟩ := sch_pre 48 (w16 blk)
  unfold wsF
  rw [← ht, List.getElem?_append_left (by rw [w16_len]; exact h)]
  unfold w16
  rw [List.getElem?_map, List.getElem?_range h]
  rfl
/-- The words so far, noughts behind. -/
def arrW (ws : List (BitVec 32)) (i : Nat) : Array Value := (((ws.take i).map U32) ++ List.replicate (64 - i) (U32 0#32)).toArray
theorem arrW_0 (ws : List (BitVec 32)) : arrW ws 0 = zc [(64, .int .u32 0)] := by
  unfold arrW; rw [List.take_zero]; simp [zc, runs, U32]
theorem arrW_size (ws : List (BitVec 32)) (i : Nat) (hl : ws.length = 64) (hi : i ≤ 64) : (arrW ws i).size = 64 := by simp [arrW, hl]; omega
theorem arrW_at (ws : List (BitVec 32)) (i k : Nat) (hl : ws.length = 64) (hk : k < i) (hi : i ≤ 64) : (arrW ws i)[k]? = some (U32 (ws.getD k 0)) := by
  unfold arrW
  rw [List.getElem?_toArray, List.getElem?_append_left (by simp [hl]; omega), List.getElem?_map, List.getElem?_take_of_lt hk, List.getElem?_eq_getElem (by omega)]
  simp [List.getD, List.getElem?_eq_getElem (show k < ws.length by omega)]
theorem arrW_set (ws : List (BitVec 32)) (i : Nat) (x : BitVec 32) (hl : ws.length = 64) (hi : i < 64) (hx : ws[i]? = some x) : (arrW ws i).setIfInBounds i (U32 x) = arrW ws (i + 1) := by
  unfold arrW
  rw [List.setIfInBounds_toArray]
  congr 1
  have hlt : ((ws.take i).map U32).length = i := by simp [hl]; omega
  rw [show 64 - i = (64 - (i + 1)) + 1 by omega, List.replicate_succ, List.set_append_right _ _ (by omega), hlt, Nat.sub_self, List.set_cons_zero, List.take_add_one, hx]
  simp
theorem arrW_all (ws : List (BitVec 32)) (hl : ws.length = 64) : arrW ws 64 = wcs ws := by
  unfold arrW wcs
  rw [List.take_of_length_le (by omega)]
  simp
theorem rndN_snoc : ∀ (i : Nat) (s : S8) (ks xs : List (BitVec 32)) (hk : i < ks.length) (hx : i < xs.length), rndN (i + 1) s ks xs = rnd (rndN i s ks xs) ks[i] xs[i]
  | 0, s, k :: ks, x :: xs, _, _ => by cases ks <;> cases xs <;> rfl
  | i + 1, s, k :: ks, x :: xs, hk, hx => by
    show rndN (i + 1) (rnd s k x) ks xs = rnd (rndN i (rnd s k x) ks xs) _ _
    rw [rndN_snoc i _ ks xs (by simpa using hk) (by simpa using hx)]
    rfl
  | _, _, [], _, hk, _ => by simp at hk
  | _, _, _ :: _, [], _, hx => by simp at hx
def addA (s v : S8) (rest : List Value) (i : Nat) : Array Value := ((((s.add v).list.take i ++ s.list.drop i).map U32) ++ rest).toArray
theorem addA_0 (s v : S8) (rest : List Value) : addA s v rest 0 = (s.list.map U32 ++ rest).toArray := rfl
theorem addA_8 (s v : S8) (rest : List Value) : addA s v rest 8 = ((s.add v).list.map U32 ++ rest).toArray := by simp [addA, S8.list]
theorem addA_at (s v : S8) (rest : List Value) (i : Nat) (h : i < 8) : (addA s v rest i)[i]? = some (U32 (s.list.getD i 0)) := by
  match i, h with
  | 0, _ => rfl
  | 1, _ => rfl
  | 2, _ => rfl
  | 3, _ => rfl
  | 4, _ => rfl
  | 5, _ => rfl
  | 6, _ => rfl
  | 7, _ => rfl
theorem addA_set (s v : S8) (rest : List Value) (i : Nat) (h : i < 8) : (addA s v rest i).setIfInBounds i (U32 (s.list.getD i 0 + v.list.getD i 0)) = addA s v rest (i + 1) := by
  unfold addA
  rw [List.setIfInBounds_toArray]
  match i, h with
  | 0, _ => rfl
  | 1, _ => rfl
  | 2, _ => rfl
  | 3, _ => rfl
  | 4, _ => rfl
  | 5, _ => rfl
  | 6, _ => rfl
  | 7, _ => rfl
theorem addA_size (s v : S8) (rest : List Value) (i : Nat) (h : i ≤ 8) : (addA s v rest i).size = 8 + rest.length := by
  simp [addA, S8.list, S8.add]; omega
theorem wcs8_at (s : S8) (i : Nat) (h : i < 8) : (wcs s.list)[i]? = some (U32 (s.list.getD i 0)) := by
  match i, h with
  | 0, _ => rfl
  | 1, _ => rfl
  | 2, _ => rfl
  | 3, _ => rfl
  | 4, _ => rfl
  | 5, _ => rfl
  | 6, _ => rfl
  | 7, _ => rfl
theorem ext8 (s : S8) (rest : List Value) : ((s.list.map U32 ++ rest).toArray).extract 0 (0 + 8) = wcs s.list := by
  apply Array.ext'
  simp [wcs, S8.list]
theorem rd8 (s : S8) (rest : List Value) (T : TypeId) : rdO (some (.cells ((s.list.map U32 ++ rest).toArray) T (0, 0))) 0 8 = some (wcs s.list) := by
  rw [rdO_some _ _ _ _ _ (by simp [S8.list]), ext8]
end Go.Proofs
