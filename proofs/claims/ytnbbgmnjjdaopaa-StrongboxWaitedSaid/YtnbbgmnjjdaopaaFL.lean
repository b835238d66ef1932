/- Plain: of all that paid at least what is told. -/
import Derived.Test.YtnbbgmnjjdaopaaFI
set_option linter.unusedSimpArgs false
set_option linter.unusedVariables false
set_option linter.constructorNameAsVariable false
namespace Go.Proofs
open Go.Vc Go.Proofs.Fees
set_option maxRecDepth 10000

def preF (A : Nat → Int) : Nat → Int
  | 0 => 0
  | n + 1 => preF A n + A n
theorem preF_mono {A : Nat → Int} (hA : ∀ i, i < 24 → 0 ≤ A i ∧ A i ≤ 2400000) : ∀ (n k : Nat), k + n ≤ 24 → preF A k ≤ preF A (k + n) ∧ preF A (k + n) ≤ preF A k + 2400000 * n
  | 0, k, _ => by simp
  | n + 1, k, h => by
    have ih := preF_mono hA n k (by omega)
    have h1 := hA (k + n) (by omega)
    rw [show k + (n + 1) = (k + n) + 1 by omega]
    simp only [preF]
    omega
theorem preF_le {A : Nat → Int} (hA : ∀ i, i < 24 → 0 ≤ A i ∧ A i ≤ 2400000) {k n : Nat} (h : k ≤ n) (hn : n ≤ 24) : 0 ≤ preF A n - preF A k ∧ preF A n - preF A k ≤ 57600000 := by
  have := preF_mono hA (n - k) k (by omega)
  rw [show k + (n - k) = n by omega] at this
  omega
theorem preF_leB {A B : Nat → Int} (hB : ∀ i, i < 24 → B i ≤ A i) : ∀ (n k : Nat), k + n ≤ 24 → preF B (k + n) - preF B k ≤ preF A (k + n) - preF A k
  | 0, k, _ => by simp
  | n + 1, k, h => by
    have ih := preF_leB hB n k (by omega)
    have h1 := hB (k + n) (by omega)
    rw [show k + (n + 1) = (k + n) + 1 by omega]
    simp only [preF]
    omega

/-- What Estimate's answer says of the sums. -/
theorem estF_sum {A B : Nat → Int} {pc : Int} (hA : ∀ i, i < 24 → 0 ≤ A i ∧ A i ≤ 2400000) (hB : ∀ i, i < 24 → 0 ≤ B i ∧ B i ≤ 2400000) (h1 : 1 ≤ pc) (h3 : pc ≤ 100) :
    ∀ (k : Nat) (al wi best : Int) (k' : Nat), k ≤ k' → k' ≤ 24 → (best = 0 ∧ k' = 24 ∨ best = 1000 * 2 ^ k' ∧ k' < 24 ∧ 2000 ≤ preF A 24 - preF A k') → pc * (preF A 24 - preF A k') ≤ 100 * (preF B 24 - preF B k') →
      al = preF A k' - preF A k → wi = preF B k' - preF B k →
      ∃ k', (estF A B pc k al wi best = 0 ∧ k' = 24 ∨ estF A B pc k al wi best = 1000 * 2 ^ k' ∧ k' < 24 ∧ 2000 ≤ preF A 24 - preF A k') ∧ pc * (preF A 24 - preF A k') ≤ 100 * (preF B 24 - preF B k')
  | 0, al, wi, best, k', _, _, hb, hp, _, _ => ⟨k', by simp only [estF]; exact hb, hp⟩
  | k + 1, al, wi, best, k', hk, hk2, hb, hp, hal, hwi => by
    have ha := preF_le hA (k := k) (n := k') (by omega) hk2
    have hw := preF_le hB (k := k) (n := k') (by omega) hk2
    have ea : al + A k = preF A k' - preF A k := by rw [hal]; simp only [preF]; omega
    have ew : wi + B k = preF B k' - preF B k := by rw [hwi]; simp only [preF]; omega
    have hw1 : IntKind.i64.wrap (al + A k) = preF A k' - preF A k := by rw [ea]; exact wrap_i64 (by omega) (by omega)
    have hw2 : IntKind.i64.wrap (wi + B k) = preF B k' - preF B k := by rw [ew]; exact wrap_i64 (by omega) (by omega)
    have hw4 : IntKind.i64.wrap ((preF B k' - preF B k) * 100) = (preF B k' - preF B k) * 100 := wrap_i64 (by omega) (by omega)
    have hm1 : pc * (preF A k' - preF A k) ≤ 100 * (preF A k' - preF A k) := Int.mul_le_mul_of_nonneg_right h3 ha.1
    have hm3 : 1 * (preF A k' - preF A k) ≤ pc * (preF A k' - preF A k) := Int.mul_le_mul_of_nonneg_right h1 ha.1
    have hw6 : IntKind.i64.wrap (pc * (preF A k' - preF A k)) = pc * (preF A k' - preF A k) := wrap_i64 (by omega) (by omega)
    simp only [estF, hw1, hw2, hw4, hw6]
    by_cases h8 : preF A k' - preF A k < 2000
    · rw [if_pos h8]
      exact estF_sum hA hB h1 h3 k _ _ best k' (by omega) hk2 hb hp rfl rfl
    · rw [if_neg h8]
      by_cases h9 : (preF B k' - preF B k) * 100 < pc * (preF A k' - preF A k)
      · rw [if_pos h9]
        exact ⟨k', hb, hp⟩
      · rw [if_neg h9]
        have hs := preF_le hA (k := k') (n := 24) hk2 (by omega)
        have hd : pc * (preF A 24 - preF A k) = pc * (preF A 24 - preF A k') + pc * (preF A k' - preF A k) := by rw [← Int.mul_add]; congr 1; omega
        refine estF_sum hA hB h1 h3 k 0 0 _ k (Nat.le_refl _) (by omega) (.inr ⟨rfl, by omega, by omega⟩) (by omega) (by omega) (by omega)

theorem pow_le_iff {n k : Nat} : (1000 * (2 : Int) ^ k ≤ 1000 * 2 ^ n) ↔ k ≤ n := by
  have e : ∀ k : Nat, ((2 ^ k : Nat) : Int) = (2 : Int) ^ k := fun k => by simp
  rw [← e, ← e]
  constructor
  · intro h
    have : 2 ^ k ≤ 2 ^ n := by omega
    exact (Nat.pow_le_pow_iff_right (by decide)).1 this
  · intro h
    have : 2 ^ k ≤ 2 ^ n := Nat.pow_le_pow_right (by decide) h
    omega
end Go.Proofs
