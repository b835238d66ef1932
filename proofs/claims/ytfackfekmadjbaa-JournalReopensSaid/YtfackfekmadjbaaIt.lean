/- Code trees of this seat's functions, written by program, each held against the translation by the kernel. -/
import Derived.Test.YtfackfekmadjbaaProg
import Derived.Test.YtfackfekmadjbaaVcN
import Derived.KernelRfl
set_option linter.unusedSimpArgs false
set_option linter.unusedVariables false
set_option linter.constructorNameAsVariable false
namespace Go.Proofs
open Go.Vc
/- (*strongbox/disk.Disk).Read -/
def t27 : CT :=
  (.seq (.reg (.l (some 3) none (.box 3 (.tmp 1)) [] (.q (some 4) none (.mov (.const (.slice none 0 0))) (.q (some 5) none (.mov (.const (.int .i64 0))) .done))) false)
  (.seq (.seq (.reg (.q (some 9) none (.mov (.tmp 0)) (.q (some 10) none (.ld1 (.tmp 3)) (.l (some 11) none (.call 43 [(.tmp 9), (.tmp 10)]) [] (.q (some 12) none (.not (.tmp 11)) .done)))) false)
  (.cnd (.tmp 12) (.seq (.reg (.q (some 4) none (.mov (.const (.slice none 0 0))) (.q (some 5) none (.mov (.const (.int .i64 1))) .done)) false)
  .ret)
  .skip))
  (.seq (.seq (.reg (.q (some 13) none (.mov (.tmp 0)) (.q (some 14) none (.nc (.tmp 13)) (.q (some 15) none (.fadr 5 (.tmp 14)) (.q (some 16) none (.ld1 (.tmp 15)) .done)))) false)
  (.cnd (.tmp 16) (.seq (.reg (.q (some 4) none (.mov (.const (.slice none 0 0))) (.q (some 5) none (.mov (.const (.int .i64 10))) .done)) false)
  .ret)
  .skip))
  (.seq (.reg (.q (some 17) none (.mov (.tmp 0)) (.q (some 18) none (.nc (.tmp 17)) (.q (some 19) none (.fadr 1 (.tmp 18)) (.q (some 20) none (.ld1 (.tmp 19)) (.q (some 21) none (.ld1 (.tmp 3)) (.q (some 22) none (.lkp [(1, .i .i64)] false true [(64, (.int .u8 0))] false (.tmp 20) (.tmp 21)) (.l (some 6) none (.alloc 74 [(64, (.int .u8 0))]) [⟨22, none, (.lkp [(1, .i .i64)] false true [(64, (.int .u8 0))] false (.tmp 20) (.tmp 21))⟩, ⟨21, none, (.ld1 (.tmp 3))⟩, ⟨20, none, (.ld1 (.tmp 19))⟩] (.l none none (.stN 64 (.tmp 6) (.tmp 22)) [] .done)))))))) true)
  (.seq (.seq (.reg (.q (some 23) none (.mov (.tmp 0)) (.q (some 24) none (.nc (.tmp 23)) (.q (some 25) none (.fadr 2 (.tmp 24)) (.q (some 26) none (.ld1 (.tmp 25)) (.l (some 27) none (.call 44 [(.tmp 26)]) [] .done))))) false)
  (.blk 0 (.rng (.tmp 27) [28, 29] (.reg (.l (some 8) none (.alloc 77 [(1, (.int .i64 0)), (64, (.int .u8 0))]) [] (.l none none (.stN 65 (.tmp 8) (.tmp 29)) [] .done)) false)
  (.blk 1 (.seq (.reg (.q (some 30) none (.fadr 0 (.tmp 8)) (.q (some 31) none (.ld1 (.tmp 30)) (.q (some 32) none (.ld1 (.tmp 3)) (.q (some 33) none (.bin .eql (.tmp 31) (.tmp 32)) .done)))) false)
  (.cnd (.tmp 33) (.seq (.reg (.q (some 34) none (.fadr 1 (.tmp 8)) (.q (some 35) none (.ldN 64 (.tmp 34)) (.l none none (.stN 64 (.tmp 6) (.tmp 35)) [] .done))) false)
  (.exit 0))
  .skip))))))
  (.seq (.reg (.q (some 36) none (.slcA 64 1 (.tmp 6) none none) (.l (some 37) none (.call 34 [(.tmp 36)]) [] (.q (some 4) none (.mov (.tmp 37)) (.q (some 5) none (.mov (.const (.int .i64 0))) .done)))) false)
  .ret))))))
theorem t27_ok : ctOf Try.prog 27 false = some (38, [.t 4, .t 5], t27) := by kernel_rfl
/- slices.Backward[[]strongbox/disk.write,strongbox/disk.write]$1 -/
def t59 : CT :=
  (.seq (.reg (.q (some 4) none (.ld1 (.tmp 1)) (.q (some 5) none (.len (.tmp 4)) (.q (some 6) none (.bin .sub (.tmp 5) (.const (.int .i64 1))) (.q (some 3) none (.mov (.tmp 6)) .done)))) false)
  (.blk 0 (.loop (.seq (.seq (.reg (.q (some 7) none (.mov (.tmp 3)) (.q (some 8) none (.bin .geq (.tmp 7) (.const (.int .i64 0))) .done)) false)
  (.cnd (.tmp 8) .skip
  (.exit 0)))
  (.seq (.blk 1 (.seq (.yld (.q (some 11) none (.mov (.tmp 0)) (.q (some 12) none (.mov (.tmp 3)) (.q (some 13) none (.ld1 (.tmp 1)) (.q (some 14) none (.mov (.tmp 3)) (.q (some 15) none (.iadrS 65 (.tmp 13) (.tmp 14)) (.q (some 16) none (.ldN 65 (.tmp 15)) .done)))))) (some 17) (.tmp 11) [(.tmp 12), (.tmp 16)] (.q (some 18) none (.not (.tmp 17)) .done))
  (.cnd (.tmp 18) .ret
  .skip)))
  (.reg (.q (some 9) none (.mov (.tmp 3)) (.q (some 10) none (.bin .sub (.tmp 9) (.const (.int .i64 1))) (.q (some 3) none (.mov (.tmp 10)) .done))) false))))))
theorem t59_ok : ctOf Try.prog 59 true = some (19, [], t59) := by kernel_rfl
end Go.Proofs
