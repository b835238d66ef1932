/- Code trees of this seat's functions, written by program, each held against the translation by the kernel. -/
import Derived.Test.YthjijgmhicplaaaProg
import Derived.Test.YthjijgmhicplaaaVcN
import Derived.KernelRfl
set_option linter.unusedSimpArgs false
set_option linter.unusedVariables false
set_option linter.constructorNameAsVariable false
namespace Go.Proofs
open Go.Vc
/- strongbox/script.multi -/
def t56 : CT :=
  (.seq (.reg (.l (some 2) none (.alloc 40 [(1, (.slice none 0 0))]) [] .done) false)
  (.seq (.seq (.reg (.q (some 8) none (.mov (.tmp 0)) (.q (some 9) none (.len (.tmp 8)) (.q (some 10) none (.bin .lss (.tmp 9) (.const (.int .i64 3))) (.q (some 11) none (.mov (.tmp 10)) (.q (some 12) (some (11, false)) (.mov (.tmp 0)) (.q (some 13) (some (11, false)) (.mov (.tmp 0)) (.q (some 14) (some (11, false)) (.len (.tmp 13)) (.q (some 15) (some (11, false)) (.bin .sub (.tmp 14) (.const (.int .i64 1))) (.q (some 16) (some (11, false)) (.iadrS 1 (.tmp 12) (.tmp 15)) (.q (some 17) (some (11, false)) (.ld1 (.tmp 16)) (.q (some 18) (some (11, false)) (.bin .neq (.tmp 17) (.const (.int .u8 174))) (.q (some 19) none (.pick (.tmp 11) (.const (.bool true)) (.tmp 18)) .done)))))))))))) false)
  (.cnd (.tmp 19) (.seq (.reg (.l none none (.st1 (.tmp 2) (.const (.slice none 0 0))) [] .done) false)
  .ret)
  .skip))
  (.seq (.reg (.q (some 20) none (.mov (.tmp 0)) (.q (some 21) none (.iadrS 1 (.tmp 20) (.const (.int .i64 0))) (.q (some 22) none (.ld1 (.tmp 21)) (.q (some 24) none (.mov (.tmp 0)) (.q (some 25) none (.mov (.tmp 0)) (.q (some 26) none (.len (.tmp 25)) (.q (some 27) none (.bin .sub (.tmp 26) (.const (.int .i64 2))) (.q (some 28) none (.iadrS 1 (.tmp 24) (.tmp 27)) (.q (some 29) none (.ld1 (.tmp 28)) (.l (some 23) none (.call 60 [(.tmp 22)]) [⟨29, none, (.ld1 (.tmp 28))⟩] (.l (some 30) none (.call 60 [(.tmp 29)]) [] (.q (some 3) none (.mov (.tmp 23)) (.q (some 4) none (.mov (.tmp 30)) .done))))))))))))) true)
  (.seq (.reg (.q (some 31) none (.mov (.tmp 0)) (.q (some 32) none (.mov (.tmp 0)) (.q (some 33) none (.len (.tmp 32)) (.q (some 34) none (.bin .sub (.tmp 33) (.const (.int .i64 2))) (.q (some 35) none (.slcS 1 (.tmp 31) (some (.const (.int .i64 1))) (some (.tmp 34))) (.q (some 5) none (.mov (.tmp 35)) .done)))))) false)
  (.seq (.seq (.reg (.q (some 36) none (.mov (.tmp 3)) (.q (some 37) none (.bin .lss (.tmp 36) (.const (.int .i64 1))) (.q (some 38) none (.mov (.tmp 37)) (.q (some 39) (some (38, false)) (.mov (.tmp 3)) (.q (some 40) (some (38, false)) (.mov (.tmp 4)) (.q (some 41) (some (38, false)) (.bin .gtr (.tmp 39) (.tmp 40)) (.q (some 42) none (.pick (.tmp 38) (.const (.bool true)) (.tmp 41)) (.q (some 43) none (.mov (.tmp 42)) (.q (some 44) (some (43, false)) (.mov (.tmp 5)) (.q (some 45) (some (43, false)) (.len (.tmp 44)) (.q (some 46) (some (43, false)) (.mov (.tmp 4)) (.q (some 47) (some (43, false)) (.bin .mul (.tmp 46) (.const (.int .i64 34))) (.q (some 48) (some (43, false)) (.bin .neq (.tmp 45) (.tmp 47)) (.q (some 49) none (.pick (.tmp 43) (.const (.bool true)) (.tmp 48)) .done)))))))))))))) false)
  (.cnd (.tmp 49) (.seq (.reg (.l none none (.st1 (.tmp 2) (.const (.slice none 0 0))) [] .done) false)
  .ret)
  .skip))
  (.seq (.reg (.q (some 50) none (.mov (.tmp 3)) (.q (some 51) none (.cvi .u8 (.tmp 50)) (.l (some 52) none (.bldS 5 1 [(.tmp 51)]) [] (.l (some 53) none (.bldS 22 1 [(.tmp 52)]) [] (.l (some 6) none (.alloc 40 [(1, (.slice none 0 0))]) [] (.l none none (.st1 (.tmp 6) (.tmp 53)) [] .done)))))) false)
  (.seq (.seq (.reg (.q (some 54) none (.mov (.tmp 5)) (.l (some 55) none (.call 70 [(.tmp 54), (.const (.int .i64 34))]) [] .done)) false)
  (.blk 0 (.rng (.tmp 55) [56] (.reg (.q (some 7) none (.mov (.tmp 56)) .done) false)
  (.blk 1 (.seq (.seq (.reg (.q (some 57) none (.mov (.tmp 7)) (.q (some 58) none (.iadrS 1 (.tmp 57) (.const (.int .i64 0))) (.q (some 59) none (.ld1 (.tmp 58)) (.q (some 60) none (.bin .neq (.tmp 59) (.const (.int .u8 33))) .done)))) false)
  (.cnd (.tmp 60) (.seq (.reg (.l none none (.st1 (.tmp 2) (.const (.slice none 0 0))) [] .done) false)
  .ret)
  .skip))
  (.reg (.q (some 61) none (.ld1 (.tmp 6)) (.q (some 62) none (.mov (.tmp 7)) (.q (some 63) none (.slcS 1 (.tmp 62) (some (.const (.int .i64 1))) none) (.l (some 64) none (.call 54 [(.tmp 63)]) [⟨61, none, (.ld1 (.tmp 6))⟩] (.l (some 65) none (.bldS 22 1 [(.tmp 64)]) [⟨61, none, (.ld1 (.tmp 6))⟩] (.l (some 66) none (.app 22 1 24 [(1, (.slice none 0 0))] (.tmp 61) (.tmp 65)) [] (.l none none (.st1 (.tmp 6) (.tmp 66)) [] .done))))))) true))))))
  (.seq (.reg (.q (some 67) none (.ld1 (.tmp 6)) (.l none none (.st1 (.tmp 2) (.tmp 67)) [] .done)) false)
  .ret))))))))
theorem t56_ok : ctOf Try.prog 56 false = some (68, [.c1 2], t56) := by kernel_rfl
/- slices.Chunk[[]byte,byte]$1 -/
def t83 : CT :=
  (.seq (.reg (.q (some 4) none (.mov (.const (.int .i64 0))) .done) false)
  (.blk 0 (.loop (.seq (.seq (.reg (.q (some 6) none (.mov (.tmp 4)) (.q (some 7) none (.ld1 (.tmp 1)) (.q (some 8) none (.len (.tmp 7)) (.q (some 9) none (.bin .lss (.tmp 6) (.tmp 8)) .done)))) false)
  (.cnd (.tmp 9) .skip
  (.exit 0)))
  (.seq (.blk 1 (.seq (.reg (.q (some 13) none (.ld1 (.tmp 2)) (.q (some 14) none (.ld1 (.tmp 1)) (.q (some 15) none (.mov (.tmp 4)) (.q (some 16) none (.slcS 1 (.tmp 14) (some (.tmp 15)) none) (.q (some 17) none (.len (.tmp 16)) (.q (some 18) none (.min [(.tmp 13), (.tmp 17)]) (.q (some 5) none (.mov (.tmp 18)) .done))))))) true)
  (.seq (.yld (.q (some 19) none (.mov (.tmp 0)) (.q (some 20) none (.ld1 (.tmp 1)) (.q (some 21) none (.mov (.tmp 4)) (.q (some 22) none (.mov (.tmp 4)) (.q (some 23) none (.mov (.tmp 5)) (.q (some 24) none (.bin .add (.tmp 22) (.tmp 23)) (.q (some 25) none (.mov (.tmp 4)) (.q (some 26) none (.mov (.tmp 5)) (.q (some 27) none (.bin .add (.tmp 25) (.tmp 26)) (.q (some 28) none (.slc3 1 (.tmp 20) (some (.tmp 21)) (.tmp 24) (.tmp 27)) .done)))))))))) (some 29) (.tmp 19) [(.tmp 28)] (.q (some 30) none (.not (.tmp 29)) .done))
  (.cnd (.tmp 30) .ret
  .skip))))
  (.reg (.q (some 10) none (.mov (.tmp 4)) (.q (some 11) none (.ld1 (.tmp 2)) (.q (some 12) none (.bin .add (.tmp 10) (.tmp 11)) (.q (some 4) none (.mov (.tmp 12)) .done)))) false))))))
theorem t83_ok : ctOf Try.prog 83 true = some (31, [], t83) := by kernel_rfl
end Go.Proofs
