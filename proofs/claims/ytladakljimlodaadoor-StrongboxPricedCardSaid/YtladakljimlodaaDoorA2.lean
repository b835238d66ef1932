/- Fees and rates: the plain law. -/
import Derived.KernelRfl
set_option linter.unusedSimpArgs false
set_option linter.unusedVariables false
set_option linter.constructorNameAsVariable false
namespace Go.Proofs

/-- A share, ahead of overflow by parts, is the share. -/
theorem share_eq {a b c : Int} (hc : 0 < c) : a / c * b + a % c * b / c = a * b / c ∧ a % c * b % c = a * b % c := by
  have e : a * b = a % c * b + c * (a / c * b) := by
    have h := Int.emod_add_mul_ediv a c
    calc a * b = (a % c + c * (a / c)) * b := by rw [h]
      _ = a % c * b + c * (a / c * b) := by rw [Int.add_mul, Int.mul_assoc]
  rw [e, Int.add_mul_ediv_left _ _ (by omega), Int.add_mul_emod_self_left]
  exact ⟨Int.add_comm _ _, rfl⟩
/-- What must be paid. -/
def feeF (r s : Int) : Int := if 0 < r * s % 1000 then r * s / 1000 + 1 else r * s / 1000
theorem fee_lo (r s : Int) : r * s ≤ 1000 * feeF r s ∧ 1000 * feeF r s < r * s + 1000 := by
  unfold feeF
  split <;> omega
theorem fee_of {p f : Int} (h1 : p ≤ 1000 * f) (h2 : 1000 * f < p + 1000) : (if 0 < p % 1000 then p / 1000 + 1 else p / 1000) = f := by
  split <;> omega
/-- The rate of what was paid is at least the rate, and asks for the same again. -/
theorem fee_back {r s : Int} (hs : 1 ≤ s) : r ≤ feeF r s * 1000 / s ∧ feeF (feeF r s * 1000 / s) s = feeF r s := by
  obtain ⟨h1, h2⟩ := fee_lo r s
  generalize hf : feeF r s = f at h1 h2
  have hb1 : f * 1000 / s * s ≤ f * 1000 := Int.ediv_mul_le _ (by omega)
  have hb2 : f * 1000 < (f * 1000 / s + 1) * s := Int.lt_ediv_add_one_mul_self _ (by omega)
  generalize f * 1000 / s = b at hb1 hb2
  have hr : r ≤ b := by
    by_cases h : r ≤ b
    · exact h
    · exfalso
      have : (b + 1) * s ≤ r * s := Int.mul_le_mul_of_nonneg_right (by omega) (by omega)
      omega
  have hrs : r * s ≤ b * s := Int.mul_le_mul_of_nonneg_right hr (by omega)
  exact ⟨hr, fee_of (p := b * s) (by omega) (by omega)⟩
end Go.Proofs
