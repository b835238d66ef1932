/- Amounts as text: what Format writes, cut at its point. -/
import Derived.Test.YtladakljimlodaaDoorA1
import Derived.Lib.IndexMore
set_option linter.unusedSimpArgs false
set_option linter.unusedVariables false
set_option linter.constructorNameAsVariable false
namespace Go.Proofs
open Go.Lib
set_option maxRecDepth 10000

/-- What Format writes. -/
def fmtN (v : Nat) : List UInt8 := decDigits (v / 100000000) ++ (46 :: pad 8 (v % 100000000))
theorem fmt_drop (v : Nat) : (decDigits (v + 100000000)).length = (decDigits ((v + 100000000) / 100000000)).length + 8 ∧ (decDigits (v + 100000000)).drop (decDigits ((v + 100000000) / 100000000)).length = pad 8 (v % 100000000) := by
  have hs := dec_split 8 (v + 100000000) (by omega)
  have e10 : (10 : Nat) ^ 8 = 100000000 := by decide
  rw [e10] at hs
  have hm : (v + 100000000) % 100000000 = v % 100000000 := by omega
  rw [hm] at hs
  rw [hs]
  exact ⟨by rw [List.length_append, pad_len], List.drop_left⟩
theorem fmt_atoi {v : Nat} (h : v ≤ 2100000000000000) : atoiAll (decDigits (v / 100000000) ++ pad 8 (v % 100000000)) = .ok (v : Int) := by
  have := amount_back h
  obtain ⟨h1, h2⟩ := fmt_drop v
  rw [show (decDigits (v + 100000000)).length - 8 = (decDigits ((v + 100000000) / 100000000)).length by omega, h2] at this
  exact this
theorem index_dot (l m : List UInt8) (h : ∀ c ∈ l, isDig c) : index (l ++ 46 :: m) [46] = l.length := by
  induction l with
  | nil => simp [index, List.isPrefixOf]
  | cons c l ih =>
    have hc : isDig c := h c (by simp)
    have hne : (46 : UInt8) ≠ c := by
      rintro rfl
      have := hc.1
      simp at this
    have ih := ih fun d hd => h d (by simp [hd])
    rw [List.cons_append, index]
    have e1 : List.isPrefixOf [46] (c :: (l ++ 46 :: m)) = false := by
      simp [List.isPrefixOf, hne]
    rw [e1, ih]
    have e2 : (((l.length : Int)) == -1) = false := by
      rw [beq_eq_false_iff_ne]; omega
    simp only [Bool.false_eq_true, if_false, e2, List.length_cons]
    omega
theorem cut_dot (l m : List UInt8) (h : ∀ c ∈ l, isDig c) : cut (l ++ 46 :: m) [46] = (l, m, true) := by
  unfold cut
  rw [index_dot l m h]
  have h1 : ((l.length : Int)).toNat = l.length := by omega
  simp [h1]
theorem dec_len : ∀ (k u : Nat), u < 10 ^ (k + 1) → (decDigits u).length ≤ k + 1
  | 0, u, h => by
    rw [decDigits, dif_pos (by simpa using h)]; simp
  | k + 1, u, h => by
    rw [decDigits]
    split
    · simp
    · rw [List.length_append]
      have := dec_len k (u / 10) (by rw [Nat.pow_succ] at h; omega)
      simp only [List.length_cons, List.length_nil]; omega
theorem dec_pos (u : Nat) : 1 ≤ (decDigits u).length := by
  rw [decDigits]
  split
  · simp
  · rw [List.length_append]; simp
theorem dec_head (u : Nat) : ∃ c t, decDigits u = c :: t ∧ (c.toNat = 48 → t = []) := by
  induction u using Nat.strongRecOn with
  | ind u ih =>
    rw [decDigits]
    split
    · exact ⟨_, [], rfl, fun _ => rfl⟩
    · rename_i hu
      by_cases h1 : u / 10 < 10
      · rw [decDigits, dif_pos h1]
        refine ⟨_, _, rfl, fun h => ?_⟩
        rw [(dig_of h1).2] at h
        omega
      · obtain ⟨c, t, e, hc⟩ := ih (u / 10) (by omega)
        refine ⟨c, t ++ [UInt8.ofNat (48 + u % 10)], by rw [e]; rfl, fun h => ?_⟩
        have := hc h
        subst this
        have hl := congrArg List.length e
        rw [decDigits, dif_neg h1, List.length_append] at hl
        have := dec_pos (u / 10 / 10)
        simp only [List.length_cons, List.length_nil] at hl
        omega
theorem fmt_len {v : Nat} (h : v ≤ 2100000000000000) : (decDigits (v / 100000000)).length ≤ 8 := dec_len 7 _ (by omega)
theorem fmt_one : fmtN 1 = [48, 46, 48, 48, 48, 48, 48, 48, 48, 49] := by
  simp [fmtN, pad, decDigits]
end Go.Proofs
