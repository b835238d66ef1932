/- The program's writer, the second half; what it writes. -/
import Derived.Test.YtajkhimlpnebdaaW1
import Derived.Test.YtajkhimlpnebdaaM0
set_option linter.unusedSimpArgs false
set_option linter.unusedVariables false
set_option linter.constructorNameAsVariable false
namespace Go.Proofs
open Go.Vc
set_option maxRecDepth 10000

/-- A compact size. -/
def sizeF (n : Int) : List Int := if n < 253 then [n] else if n < 65536 then 253 :: lowF 2 n else if n < 4294967296 then 254 :: lowF 4 n else 255 :: lowF 8 n
theorem sizeF_len {n : Int} : 1 ≤ (sizeF n).length ∧ (sizeF n).length ≤ 9 := by
  unfold sizeF; split <;> (try split) <;> (try split) <;> simp [lowF_len]
theorem sizeF_byt {n : Int} (h : 0 ≤ n) : byt (sizeF n) := by
  unfold sizeF
  split
  · intro b hb; simp at hb; subst hb; omega
  · split
    · intro b hb; rcases List.mem_cons.1 hb with rfl | hb; omega; exact lowF_byt _ _ b hb
    · split
      · intro b hb; rcases List.mem_cons.1 hb with rfl | hb; omega; exact lowF_byt _ _ b hb
      · intro b hb; rcases List.mem_cons.1 hb with rfl | hb; omega; exact lowF_byt _ _ b hb

end Go.Proofs
