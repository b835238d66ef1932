/- Plain: what is told grows. -/
import Derived.Test.YtnbbgmnjjdaopaaFH
set_option linter.unusedSimpArgs false
set_option linter.unusedVariables false
set_option linter.constructorNameAsVariable false
namespace Go.Proofs
open Go.Vc Go.Proofs.Fees
set_option maxRecDepth 10000

theorem pow_pos2 (k : Nat) : 0 < (2 : Int) ^ k := by
  have h2 : (0 : Nat) < 2 ^ k := Nat.pow_pos (by decide)
  have e : ((2 ^ k : Nat) : Int) = (2 : Int) ^ k := by simp
  omega
theorem estF_le (A B : Nat → Int) (pc : Int) : ∀ (k : Nat) (al wi best : Int), 1000 * 2 ^ k ≤ best → 0 < estF A B pc k al wi best ∧ estF A B pc k al wi best ≤ best
  | 0, _, _, best, h => by
    simp only [estF]
    have := pow_pos2 0
    omega
  | k + 1, al, wi, best, h => by
    have hp := pow_pos2 k
    rw [Int.pow_succ] at h
    simp only [estF]
    split
    · exact estF_le A B pc k _ _ best (by omega)
    · split
      · omega
      · have := estF_le A B pc k 0 0 (1000 * 2 ^ k) (by omega)
        omega

theorem estF_mono {A B B' : Nat → Int} {pc pc' : Int} (hA : ∀ i, i < 24 → 0 ≤ A i ∧ A i ≤ 2400000) (hB : ∀ i, i < 24 → 0 ≤ B i ∧ B i ≤ B' i ∧ B' i ≤ A i) (h1 : 1 ≤ pc') (h2 : pc' ≤ pc) (h3 : pc ≤ 100) :
    ∀ (k : Nat) (al wi wi' best : Int), k ≤ 24 → 0 ≤ wi → wi ≤ wi' → wi' ≤ al → al ≤ 2400000 * (24 - k) → (best = 0 ∨ 1000 * 2 ^ k ≤ best) →
      estF A B pc k al wi best = 0 ∨ (0 < estF A B' pc' k al wi' best ∧ estF A B' pc' k al wi' best ≤ estF A B pc k al wi best)
  | 0, al, wi, wi', best, _, _, _, _, _, hb => by
    simp only [estF]
    have := pow_pos2 0
    omega
  | k + 1, al, wi, wi', best, hk, hw, hww, hwa, hal, hb => by
    have hp := pow_pos2 k
    rw [Int.pow_succ] at hb
    have hAk := hA k (by omega)
    have hBk := hB k (by omega)
    have hw1 : IntKind.i64.wrap (al + A k) = al + A k := wrap_i64 (by omega) (by omega)
    have hw2 : IntKind.i64.wrap (wi + B k) = wi + B k := wrap_i64 (by omega) (by omega)
    have hw3 : IntKind.i64.wrap (wi' + B' k) = wi' + B' k := wrap_i64 (by omega) (by omega)
    have hw4 : IntKind.i64.wrap ((wi + B k) * 100) = (wi + B k) * 100 := wrap_i64 (by omega) (by omega)
    have hw5 : IntKind.i64.wrap ((wi' + B' k) * 100) = (wi' + B' k) * 100 := wrap_i64 (by omega) (by omega)
    simp only [estF, hw1, hw2, hw3, hw4, hw5]
    have e1 : al + A k ≤ 2400000 * (24 - (k : Int)) := by omega
    have e0 : 0 ≤ al + A k := by omega
    have hm1 : pc * (al + A k) ≤ 100 * (al + A k) := Int.mul_le_mul_of_nonneg_right h3 e0
    have hm2 : pc' * (al + A k) ≤ pc * (al + A k) := Int.mul_le_mul_of_nonneg_right h2 e0
    have hm3 : 1 * (al + A k) ≤ pc' * (al + A k) := Int.mul_le_mul_of_nonneg_right h1 e0
    have hw6 : IntKind.i64.wrap (pc * (al + A k)) = pc * (al + A k) := wrap_i64 (by omega) (by omega)
    have hw7 : IntKind.i64.wrap (pc' * (al + A k)) = pc' * (al + A k) := wrap_i64 (by omega) (by omega)
    rw [hw6, hw7]
    by_cases h8 : al + A k < 2000
    · rw [if_pos h8, if_pos h8]
      exact estF_mono hA hB h1 h2 h3 k _ _ _ _ (by omega) (by omega) (by omega) (by omega) (by omega) (by omega)
    · rw [if_neg h8, if_neg h8]
      by_cases h9 : (wi + B k) * 100 < pc * (al + A k)
      · rw [if_pos h9]
        rcases hb with hb | hb
        · exact .inl hb
        · right
          split
          · omega
          · have := estF_le A B' pc' k 0 0 (1000 * 2 ^ k) (by omega)
            omega
      · rw [if_neg h9, if_neg (by omega)]
        exact estF_mono hA hB h1 h2 h3 k 0 0 0 _ (by omega) (by omega) (by omega) (by omega) (by omega) (by omega)

/-- What is told, and whether it is. -/
theorem estR_grows {cnt : List Int} (hG : Good 2400000 cnt) {t pc t' pc' : Int} {x e : Int} (he : estR (fun k => cnt.getD (k * 13) 0) (fun k => cnt.getD (k * 13 + t.toNat) 0) t pc = #[.int .i64 x, .int .i64 e]) (he0 : e = 0)
    (ht : t' = t ∨ t' = t + 1 ∧ t < 12) (hp : pc' = pc ∨ pc' = pc - 1 ∧ 1 < pc) :
    ∃ y, estR (fun k => cnt.getD (k * 13) 0) (fun k => cnt.getD (k * 13 + t'.toNat) 0) t' pc' = #[.int .i64 y, .int .i64 0] ∧ y ≤ x := by
  subst he0
  unfold estR at he
  split at he
  · cases he
  · rename_i hb
    have hr : 1 ≤ t ∧ t ≤ 12 ∧ 1 ≤ pc ∧ pc ≤ 100 := by omega
    obtain ⟨h1, h2, h3, h4⟩ := hr
    have hA : ∀ i, i < 24 → 0 ≤ cnt.getD (i * 13) 0 ∧ cnt.getD (i * 13) 0 ≤ 2400000 := fun i hi => by
      have h5 := hG.top i hi; have h6 := hG.le i 0 hi (by omega); omega
    have hB : ∀ i, i < 24 → 0 ≤ cnt.getD (i * 13 + t.toNat) 0 ∧ cnt.getD (i * 13 + t.toNat) 0 ≤ cnt.getD (i * 13 + t'.toNat) 0 ∧ cnt.getD (i * 13 + t'.toNat) 0 ≤ cnt.getD (i * 13) 0 := fun i hi => by
      have h5 := hG.le i (t.toNat - 1) hi (by omega)
      have h6 := hG.le i (t'.toNat - 1) hi (by omega)
      rw [show i * 13 + 1 + (t.toNat - 1) = i * 13 + t.toNat by omega] at h5
      rw [show i * 13 + 1 + (t'.toNat - 1) = i * 13 + t'.toNat by omega] at h6
      refine ⟨h5.1, ?_, h6.2⟩
      rcases ht with rfl | ⟨rfl, ht⟩
      · exact Int.le_refl _
      · have h7 := hG.up i (t.toNat - 1) hi (by omega)
        rw [show i * 13 + 1 + (t.toNat - 1) = i * 13 + t.toNat by omega, show i * 13 + 2 + (t.toNat - 1) = i * 13 + (t + 1).toNat by omega] at h7
        exact h7
    have hm := estF_mono (A := fun k => cnt.getD (k * 13) 0) (B := fun k => cnt.getD (k * 13 + t.toNat) 0) (B' := fun k => cnt.getD (k * 13 + t'.toNat) 0) (pc := pc) (pc' := pc') hA hB (by omega) (by omega) h4 24 0 0 0 0 (Nat.le_refl _) (by omega) (by omega) (by omega) (by omega) (.inl rfl)
    generalize estF (fun k => cnt.getD (k * 13) 0) (fun k => cnt.getD (k * 13 + t.toNat) 0) pc 24 0 0 0 = X at he hm
    have hq : ¬ (t' < 1 ∨ 12 < t' ∨ pc' < 1 ∨ 100 < pc') := by omega
    rw [estR, if_neg hq]
    generalize estF (fun k => cnt.getD (k * 13) 0) (fun k => cnt.getD (k * 13 + t'.toNat) 0) pc' 24 0 0 0 = Y at hm ⊢
    simp only [estE] at he ⊢
    simp only [Array.mk.injEq, List.cons.injEq, Value.int.injEq, true_and, and_true] at he
    obtain ⟨hX, hE⟩ := he
    subst hX
    have hX0 : X ≠ 0 := by intro h; rw [if_pos h] at hE; omega
    rcases hm with hm | hm
    · exact absurd hm hX0
    · exact ⟨Y, by rw [if_neg (by omega)], hm.2⟩
end Go.Proofs
