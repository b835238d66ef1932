/- Code trees of this seat's functions, written by program, each held against the translation by the kernel. -/
import Derived.Test.YthjgmajfkfhdaaaProg
import Derived.Test.YthjgmajfkfhdaaaVcN
import Derived.KernelRfl
set_option linter.unusedSimpArgs false
set_option linter.unusedVariables false
set_option linter.constructorNameAsVariable false
namespace Go.Proofs
open Go.Vc
/- strongbox/hash.Text -/
def t16 : CT :=
  (.seq (.reg (.l (some 1) none (.box 39 (.tmp 0)) [] (.q (some 2) none (.mov (.const (.string ⟨#[]⟩))) .done)) false)
  (.seq (.reg (.l (some 3) none (.alloc 71 [(1, (.pointer none)), (1, (.slice none 0 0))]) [] .done) false)
  (.seq (.seq (.reg (.q (some 6) none (.slcA 32 1 (.tmp 1) none none) (.l (some 7) none (.call 35 [(.tmp 6)]) [] .done)) false)
  (.blk 0 (.rng (.tmp 7) [8, 9] (.reg (.q (some 5) none (.mov (.tmp 9)) .done) false)
  (.blk 1 (.seq (.reg (.q (some 10) none (.mov (.tmp 5)) (.q (some 11) none (.bin .shr (.tmp 10) (.const (.int .u64 4))) (.q (some 12) none (.idxS (.const (.string ⟨#[48, 49, 50, 51, 52, 53, 54, 55, 56, 57, 97, 98, 99, 100, 101, 102]⟩)) (.tmp 11)) (.l (some 13) none (.call 36 [(.tmp 3), (.tmp 12)]) [] .done)))) false)
  (.reg (.q (some 14) none (.mov (.tmp 5)) (.q (some 15) none (.bin .and (.tmp 14) (.const (.int .u8 15))) (.q (some 16) none (.idxS (.const (.string ⟨#[48, 49, 50, 51, 52, 53, 54, 55, 56, 57, 97, 98, 99, 100, 101, 102]⟩)) (.tmp 15)) (.l (some 17) none (.call 36 [(.tmp 3), (.tmp 16)]) [] .done)))) false))))))
  (.seq (.reg (.l (some 18) none (.call 37 [(.tmp 3)]) [] (.q (some 2) none (.mov (.tmp 18)) .done)) false)
  .ret))))
theorem t16_ok : ctOf Try.prog 16 false = some (19, [.t 2], t16) := by kernel_rfl
/- slices.Backward[[]byte,byte]$1 -/
def t49 : CT :=
  (.seq (.reg (.q (some 4) none (.ld1 (.tmp 1)) (.q (some 5) none (.len (.tmp 4)) (.q (some 6) none (.bin .sub (.tmp 5) (.const (.int .i64 1))) (.q (some 3) none (.mov (.tmp 6)) .done)))) false)
  (.blk 0 (.loop (.seq (.seq (.reg (.q (some 7) none (.mov (.tmp 3)) (.q (some 8) none (.bin .geq (.tmp 7) (.const (.int .i64 0))) .done)) false)
  (.cnd (.tmp 8) .skip
  (.exit 0)))
  (.seq (.blk 1 (.seq (.yld (.q (some 11) none (.mov (.tmp 0)) (.q (some 12) none (.mov (.tmp 3)) (.q (some 13) none (.ld1 (.tmp 1)) (.q (some 14) none (.mov (.tmp 3)) (.q (some 15) none (.iadrS 1 (.tmp 13) (.tmp 14)) (.q (some 16) none (.ld1 (.tmp 15)) .done)))))) (some 17) (.tmp 11) [(.tmp 12), (.tmp 16)] (.q (some 18) none (.not (.tmp 17)) .done))
  (.cnd (.tmp 18) .ret
  .skip)))
  (.reg (.q (some 9) none (.mov (.tmp 3)) (.q (some 10) none (.bin .sub (.tmp 9) (.const (.int .i64 1))) (.q (some 3) none (.mov (.tmp 10)) .done))) false))))))
theorem t49_ok : ctOf Try.prog 49 true = some (19, [], t49) := by kernel_rfl
end Go.Proofs
