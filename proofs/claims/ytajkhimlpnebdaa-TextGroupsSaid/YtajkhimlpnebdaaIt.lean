/- Code trees of this seat's functions, written by program, each held against the translation by the kernel. -/
import Derived.Test.YtajkhimlpnebdaaProg
import Derived.Test.YtajkhimlpnebdaaVcN
import Derived.KernelRfl
set_option linter.unusedSimpArgs false
set_option linter.unusedVariables false
set_option linter.constructorNameAsVariable false
namespace Go.Proofs
open Go.Vc
/- strongbox/text.base -/
def t34 : CT :=
  (.seq (.reg (.l (some 4) none (.box 3 (.tmp 1)) [] (.l (some 5) none (.box 3 (.tmp 2)) [] (.q (some 6) none (.mov (.const (.slice none 0 0))) .done))) false)
  (.seq (.reg (.l (some 7) none (.alloc 28 [(1, (.slice none 0 0))]) [] .done) false)
  (.seq (.seq (.reg (.q (some 13) none (.mov (.tmp 0)) (.l (some 14) none (.call 33 [(.tmp 13)]) [] .done)) false)
  (.blk 0 (.rng (.tmp 14) [15, 16] (.reg (.q (some 9) none (.mov (.tmp 16)) .done) false)
  (.blk 1 (.seq (.reg (.q (some 17) none (.mov (.tmp 9)) (.q (some 18) none (.cvi .i64 (.tmp 17)) (.q (some 10) none (.mov (.tmp 18)) .done))) false)
  (.seq (.seq (.reg (.q (some 19) none (.ld1 (.tmp 7)) (.q (some 20) none (.len (.tmp 19)) (.q (some 21) none (.mov (.const (.int .i64 0))) .done))) false)
  (.blk 2 (.loop (.seq (.reg (.q (some 22) none (.bin .lss (.tmp 21) (.tmp 20)) .done) false)
  (.seq (.cnd (.tmp 22) .skip
  (.exit 2))
  (.seq (.blk 3 (.seq (.reg (.q (some 23) none (.mov (.tmp 21)) (.q (some 24) none (.iadrS 1 (.tmp 19) (.tmp 21)) (.q (some 25) none (.ld1 (.tmp 24)) (.q (some 11) none (.mov (.tmp 23)) (.q (some 12) none (.mov (.tmp 25)) .done))))) false)
  (.seq (.reg (.q (some 26) none (.mov (.tmp 10)) (.q (some 27) none (.mov (.tmp 12)) (.q (some 28) none (.cvi .i64 (.tmp 27)) (.q (some 29) none (.ld1 (.tmp 4)) (.q (some 30) none (.bin .mul (.tmp 28) (.tmp 29)) (.q (some 31) none (.bin .add (.tmp 26) (.tmp 30)) (.q (some 10) none (.mov (.tmp 31)) .done))))))) false)
  (.seq (.reg (.q (some 32) none (.ld1 (.tmp 7)) (.q (some 33) none (.mov (.tmp 11)) (.q (some 34) none (.mov (.tmp 10)) (.q (some 35) none (.ld1 (.tmp 5)) (.q (some 36) none (.bin .rem (.tmp 34) (.tmp 35)) (.q (some 37) none (.cvi .u8 (.tmp 36)) (.q (some 38) none (.iadrS 1 (.tmp 32) (.tmp 33)) (.l none none (.st1 (.tmp 38) (.tmp 37)) [] .done)))))))) true)
  (.reg (.q (some 39) none (.mov (.tmp 10)) (.q (some 40) none (.ld1 (.tmp 5)) (.q (some 41) none (.bin .quo (.tmp 39) (.tmp 40)) (.q (some 10) none (.mov (.tmp 41)) .done)))) false)))))
  (.reg (.q (some 42) none (.bin .add (.tmp 21) (.const (.int .i64 1))) (.q (some 21) none (.mov (.tmp 42)) .done)) false)))))))
  (.blk 4 (.loop (.seq (.seq (.reg (.q (some 43) none (.mov (.tmp 10)) (.q (some 44) none (.bin .gtr (.tmp 43) (.const (.int .i64 0))) .done)) false)
  (.cnd (.tmp 44) .skip
  (.exit 4)))
  (.seq (.blk 5 (.reg (.q (some 48) none (.ld1 (.tmp 7)) (.q (some 49) none (.mov (.tmp 10)) (.q (some 50) none (.ld1 (.tmp 5)) (.q (some 51) none (.bin .rem (.tmp 49) (.tmp 50)) (.q (some 52) none (.cvi .u8 (.tmp 51)) (.l (some 53) none (.bldS 5 1 [(.tmp 52)]) [⟨48, none, (.ld1 (.tmp 7))⟩] (.l (some 54) none (.app 5 1 1 [(1, (.int .u8 0))] (.tmp 48) (.tmp 53)) [] (.l none none (.st1 (.tmp 7) (.tmp 54)) [] .done)))))))) true))
  (.reg (.q (some 45) none (.mov (.tmp 10)) (.q (some 46) none (.ld1 (.tmp 5)) (.q (some 47) none (.bin .quo (.tmp 45) (.tmp 46)) (.q (some 10) none (.mov (.tmp 47)) .done)))) false)))))))))))
  (.seq (.reg (.q (some 55) none (.ld1 (.tmp 7)) (.q (some 6) none (.mov (.tmp 55)) .done)) false)
  .ret))))
theorem t34_ok : ctOf Try.prog 34 false = some (56, [.t 6], t34) := by kernel_rfl
/- strongbox/text.Base58 -/
def t19 : CT :=
  (.seq (.reg (.q (some 2) none (.mov (.const (.string ⟨#[]⟩))) .done) false)
  (.seq (.reg (.q (some 9) none (.mov (.tmp 0)) (.q (some 10) none (.len (.tmp 9)) (.q (some 3) none (.mov (.tmp 10)) .done))) false)
  (.seq (.seq (.reg (.q (some 11) none (.mov (.tmp 0)) (.q (some 12) none (.len (.tmp 11)) (.q (some 13) none (.mov (.const (.int .i64 0))) .done))) false)
  (.blk 0 (.loop (.seq (.reg (.q (some 14) none (.bin .lss (.tmp 13) (.tmp 12)) .done) false)
  (.seq (.cnd (.tmp 14) .skip
  (.exit 0))
  (.seq (.blk 1 (.seq (.reg (.q (some 15) none (.mov (.tmp 13)) (.q (some 16) none (.iadrS 1 (.tmp 11) (.tmp 13)) (.q (some 17) none (.ld1 (.tmp 16)) (.q (some 4) none (.mov (.tmp 15)) (.q (some 5) none (.mov (.tmp 17)) .done))))) false)
  (.seq (.reg (.q (some 18) none (.mov (.tmp 5)) (.q (some 19) none (.bin .neq (.tmp 18) (.const (.int .u8 0))) .done)) false)
  (.cnd (.tmp 19) (.seq (.reg (.q (some 20) none (.mov (.tmp 4)) (.q (some 3) none (.mov (.tmp 20)) .done)) false)
  (.exit 0))
  .skip))))
  (.reg (.q (some 21) none (.bin .add (.tmp 13) (.const (.int .i64 1))) (.q (some 13) none (.mov (.tmp 21)) .done)) false)))))))
  (.seq (.reg (.q (some 22) none (.idxS (.const (.string ⟨#[49, 50, 51, 52, 53, 54, 55, 56, 57, 65, 66, 67, 68, 69, 70, 71, 72, 74, 75, 76, 77, 78, 80, 81, 82, 83, 84, 85, 86, 87, 88, 89, 90, 97, 98, 99, 100, 101, 102, 103, 104, 105, 106, 107, 109, 110, 111, 112, 113, 114, 115, 116, 117, 118, 119, 120, 121, 122]⟩)) (.const (.int .i64 0))) (.l (some 23) none (.bldS 5 1 [(.tmp 22)]) [] (.q (some 24) none (.mov (.tmp 3)) (.l (some 25) none (.call 32 [(.tmp 23), (.tmp 24)]) [] (.l (some 6) none (.alloc 28 [(1, (.slice none 0 0))]) [] (.l none none (.st1 (.tmp 6) (.tmp 25)) [] .done)))))) false)
  (.seq (.seq (.reg (.q (some 26) none (.mov (.tmp 0)) (.l (some 27) none (.call 35 [(.tmp 26)]) [] (.l (some 28) none (.call 34 [(.tmp 27), (.const (.int .i64 256)), (.const (.int .i64 58))]) [] (.l (some 29) none (.call 33 [(.tmp 28)]) [] .done)))) false)
  (.blk 2 (.rng (.tmp 29) [30, 31] (.reg (.q (some 8) none (.mov (.tmp 31)) .done) false)
  (.blk 3 (.reg (.q (some 32) none (.ld1 (.tmp 6)) (.q (some 33) none (.mov (.tmp 8)) (.q (some 34) none (.idxS (.const (.string ⟨#[49, 50, 51, 52, 53, 54, 55, 56, 57, 65, 66, 67, 68, 69, 70, 71, 72, 74, 75, 76, 77, 78, 80, 81, 82, 83, 84, 85, 86, 87, 88, 89, 90, 97, 98, 99, 100, 101, 102, 103, 104, 105, 106, 107, 109, 110, 111, 112, 113, 114, 115, 116, 117, 118, 119, 120, 121, 122]⟩)) (.tmp 33)) (.l (some 35) none (.bldS 5 1 [(.tmp 34)]) [⟨32, none, (.ld1 (.tmp 6))⟩] (.l (some 36) none (.app 5 1 1 [(1, (.int .u8 0))] (.tmp 32) (.tmp 35)) [] (.l none none (.st1 (.tmp 6) (.tmp 36)) [] .done)))))) true)))))
  (.seq (.reg (.q (some 37) none (.ld1 (.tmp 6)) (.q (some 38) none (.b2s (.tmp 37)) (.q (some 2) none (.mov (.tmp 38)) .done))) false)
  .ret))))))
theorem t19_ok : ctOf Try.prog 19 false = some (39, [.t 2], t19) := by kernel_rfl
/- slices.Backward[[]byte,byte]$1 -/
def t41 : CT :=
  (.seq (.reg (.q (some 4) none (.ld1 (.tmp 1)) (.q (some 5) none (.len (.tmp 4)) (.q (some 6) none (.bin .sub (.tmp 5) (.const (.int .i64 1))) (.q (some 3) none (.mov (.tmp 6)) .done)))) false)
  (.blk 0 (.loop (.seq (.seq (.reg (.q (some 7) none (.mov (.tmp 3)) (.q (some 8) none (.bin .geq (.tmp 7) (.const (.int .i64 0))) .done)) false)
  (.cnd (.tmp 8) .skip
  (.exit 0)))
  (.seq (.blk 1 (.seq (.yld (.q (some 11) none (.mov (.tmp 0)) (.q (some 12) none (.mov (.tmp 3)) (.q (some 13) none (.ld1 (.tmp 1)) (.q (some 14) none (.mov (.tmp 3)) (.q (some 15) none (.iadrS 1 (.tmp 13) (.tmp 14)) (.q (some 16) none (.ld1 (.tmp 15)) .done)))))) (some 17) (.tmp 11) [(.tmp 12), (.tmp 16)] (.q (some 18) none (.not (.tmp 17)) .done))
  (.cnd (.tmp 18) .ret
  .skip)))
  (.reg (.q (some 9) none (.mov (.tmp 3)) (.q (some 10) none (.bin .sub (.tmp 9) (.const (.int .i64 1))) (.q (some 3) none (.mov (.tmp 10)) .done))) false))))))
theorem t41_ok : ctOf Try.prog 41 true = some (19, [], t41) := by kernel_rfl
end Go.Proofs
