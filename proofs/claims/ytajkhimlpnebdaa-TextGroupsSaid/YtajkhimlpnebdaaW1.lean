/- The program's writer. -/
import Derived.Test.YtajkhimlpnebdaaW0
set_option linter.unusedSimpArgs false
set_option linter.unusedVariables false
set_option linter.constructorNameAsVariable false
namespace Go.Proofs
open Go.Vc
set_option maxRecDepth 10000

theorem eqS_some (neg : Bool) (a : Addr) (n c m d : Nat) : eqSR neg (.slice (some a) n c) (.slice none m d) = some (.bool neg) := by simp [eqSR]
theorem eqS_none (neg : Bool) (n c m d : Nat) : eqSR neg (.slice none n c) (.slice none m d) = some (.bool (!neg)) := by simp [eqSR]

/-- What a step of the writer changes. -/
def WS (p : Nat) (v : Value) (i : Nat) : Prop := i = p ∨ blk v i
/-- A number's lowest n bytes. -/
def lowF : Nat → Int → List Int
  | 0, _ => []
  | n + 1, x => x % 256 :: lowF n (x / 256)
theorem lowF_len : ∀ (n : Nat) (x : Int), (lowF n x).length = n
  | 0, _ => rfl
  | n + 1, x => by simp [lowF, lowF_len n]
theorem lowF_byt : ∀ (n : Nat) (x : Int), byt (lowF n x)
  | 0, _ => byt_nil
  | n + 1, x => by
    intro b hb
    simp only [lowF, List.mem_cons] at hb
    rcases hb with rfl | hb
    · omega
    · exact lowF_byt n _ b hb
theorem shr_8 (x : Int) : x.fdiv (2 ^ Nat.min 8 IntKind.u64.bits) = x / 256 := by
  show x.fdiv (2 ^ (Nat.min 8 64)) = x / 256
  rw [show Nat.min 8 64 = 8 from rfl, Int.fdiv_eq_ediv_of_nonneg _ (by decide)]
  rfl

/-- How many bytes a compact size has behind its first one. -/
def wideF (n : Int) : Nat := if n < 253 then 0 else if n < 65536 then 2 else if n < 4294967296 then 4 else 8
end Go.Proofs
