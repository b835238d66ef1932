/- Plain: what ends too early is told as that. -/
import Derived.Test.YtojgkbhpnebacaaWI
set_option linter.unusedSimpArgs false
set_option linter.unusedVariables false
set_option linter.constructorNameAsVariable false
namespace Go.Proofs
open Go.Vc
set_option maxRecDepth 10000

def nnA (kind n : Int) (b : List Int) : Int := if kind < 1 ∨ 5 < kind then ((b.take 300).length : Nat) else n
theorem nR_len (b : List Int) : nR ((b.take 300).length : Nat) = ((b.take 300).length : Nat) := by
  have : (b.take 300).length ≤ 300 := by rw [List.length_take]; omega
  unfold nR; split <;> omega
theorem byt_encm (m : Int) (b rest : List Int) (h : b.length ≤ 300) (hm : (b.length : Int) ≤ m) : bytR m (sizeF b.length ++ b ++ rest) = .ok (b, rest) := by
  unfold bytR
  rw [List.append_assoc, sz_enc _ _ (by omega) (by omega), if_neg (by omega)]
  simp only
  rw [if_neg (by omega), raw_enc]
theorem act_full (kind n : Int) (b t : List Int) (hn : 0 ≤ n ∧ n < 18446744073709551616) (h5 : kind = 5 → n ≤ 33554432) : actR kind (nnA kind n b) (encA kind n b ++ t) = .ok t := by
  have h3 : (b.take 300).length ≤ 300 := by rw [List.length_take]; omega
  by_cases k1 : kind = 1
  · subst k1
    have he : encA 1 n b = lowF 1 (n % 256) := by simp [encA, lowF]
    rw [actR, if_pos rfl, he, num_enc 1 _ t (by omega) (by omega)]; rfl
  by_cases k2 : kind = 2
  · subst k2
    have he : encA 2 n b = lowF 2 (n % 65536) := rfl
    rw [actR, if_neg (by decide), if_pos rfl, he, num_enc 2 _ t (by omega) (by omega)]; rfl
  by_cases k3 : kind = 3
  · subst k3
    have he : encA 3 n b = lowF 4 (n % 4294967296) := rfl
    rw [actR, if_neg (by decide), if_neg (by decide), if_pos rfl, he, num_enc 4 _ t (by omega) (by omega)]; rfl
  by_cases k4 : kind = 4
  · subst k4
    have he : encA 4 n b = lowF 8 n := rfl
    rw [actR, if_neg (by decide), if_neg (by decide), if_neg (by decide), if_pos rfl, he, num_enc 8 _ t (by omega) (by omega)]; rfl
  by_cases k5 : kind = 5
  · subst k5
    have he : encA 5 n b = sizeF n := rfl
    rw [actR, if_neg (by decide), if_neg (by decide), if_neg (by decide), if_neg (by decide), if_pos rfl, he, sz_enc n t hn.1 hn.2, if_neg (by have := h5 rfl; omega)]; rfl
  by_cases k6 : kind = 6
  · subst k6
    have he : encA 6 n b = b.take 300 := rfl
    rw [actR, if_neg (by decide), if_neg (by decide), if_neg (by decide), if_neg (by decide), if_neg (by decide), if_pos rfl, he, nnA, if_pos (by omega), nR_len, raw_enc]; rfl
  · have he : encA kind n b = sizeF (b.take 300).length ++ b.take 300 := by simp only [encA, if_neg k1, if_neg k2, if_neg k3, if_neg k4, if_neg k5, if_neg k6]
    rw [actR, if_neg k1, if_neg k2, if_neg k3, if_neg k4, if_neg k5, if_neg k6, he, nnA, if_pos (by omega), nR_len, byt_encm _ _ _ h3 (by omega)]; rfl
theorem num_short {k : Nat} {l : List Int} (h : l.length < k) : numR k l = .error 4 := by
  rw [numR, if_neg (by omega)]
theorem sz_short (n : Int) (j : Nat) (hn : 0 ≤ n) (hj : j < (sizeF n).length) : szR ((sizeF n).take j) = .error 4 := by
  cases j with
  | zero => rfl
  | succ j =>
    unfold sizeF at hj ⊢
    by_cases a1 : n < 253
    · rw [if_pos a1] at hj; simp at hj
    rw [if_neg a1] at hj ⊢
    have gen : ∀ (f : Int) (k : Nat), ¬ f < 253 → szK f = k → j + 1 < (f :: lowF k n).length → szR ((f :: lowF k n).take (j + 1)) = .error 4 := by
      intro f k hf hk hj
      have hl := lowF_len k n
      rw [List.length_cons, hl] at hj
      rw [List.take_succ_cons, szR, if_neg hf, hk, if_pos (by rw [List.length_take, hl]; omega)]
    by_cases a2 : n < 65536
    · rw [if_pos a2] at hj ⊢
      exact gen 253 2 (by omega) rfl hj
    rw [if_neg a2] at hj ⊢
    by_cases a3 : n < 4294967296
    · rw [if_pos a3] at hj ⊢
      exact gen 254 4 (by omega) rfl hj
    · rw [if_neg a3] at hj ⊢
      exact gen 255 8 (by omega) rfl hj
theorem act_short (kind n : Int) (b : List Int) (j : Nat) (hn : 0 ≤ n ∧ n < 18446744073709551616) (hj : j < (encA kind n b).length) : actR kind (nnA kind n b) ((encA kind n b).take j) = .error 4 := by
  have h3 : (b.take 300).length ≤ 300 := by rw [List.length_take]; omega
  have hjl : ((encA kind n b).take j).length = j := by rw [List.length_take]; omega
  by_cases k1 : kind = 1
  · subst k1
    have he : encA 1 n b = lowF 1 (n % 256) := by simp [encA, lowF]
    rw [he, lowF_len] at hj
    rw [actR, if_pos rfl, num_short (by omega)]; rfl
  by_cases k2 : kind = 2
  · subst k2
    have he : encA 2 n b = lowF 2 (n % 65536) := rfl
    rw [he, lowF_len] at hj
    rw [actR, if_neg (by decide), if_pos rfl, num_short (by omega)]; rfl
  by_cases k3 : kind = 3
  · subst k3
    have he : encA 3 n b = lowF 4 (n % 4294967296) := rfl
    rw [he, lowF_len] at hj
    rw [actR, if_neg (by decide), if_neg (by decide), if_pos rfl, num_short (by omega)]; rfl
  by_cases k4 : kind = 4
  · subst k4
    have he : encA 4 n b = lowF 8 n := rfl
    rw [he, lowF_len] at hj
    rw [actR, if_neg (by decide), if_neg (by decide), if_neg (by decide), if_pos rfl, num_short (by omega)]; rfl
  by_cases k5 : kind = 5
  · subst k5
    have he : encA 5 n b = sizeF n := rfl
    rw [he] at hj
    rw [actR, if_neg (by decide), if_neg (by decide), if_neg (by decide), if_neg (by decide), if_pos rfl, he, sz_short n j hn.1 hj]; rfl
  by_cases k6 : kind = 6
  · subst k6
    have he : encA 6 n b = b.take 300 := rfl
    rw [actR, if_neg (by decide), if_neg (by decide), if_neg (by decide), if_neg (by decide), if_neg (by decide), if_pos rfl, nnA, if_pos (by omega), nR_len, rawR, Int.toNat_natCast, if_neg (by rw [hjl]; rw [he] at hj; omega)]; rfl
  · have he : encA kind n b = sizeF (b.take 300).length ++ b.take 300 := by simp only [encA, if_neg k1, if_neg k2, if_neg k3, if_neg k4, if_neg k5, if_neg k6]
    rw [actR, if_neg k1, if_neg k2, if_neg k3, if_neg k4, if_neg k5, if_neg k6, he, nnA, if_pos (by omega), nR_len]
    rw [he, List.length_append] at hj
    generalize b.take 300 = bb at hj h3 ⊢
    by_cases hs : j < (sizeF (bb.length : Nat)).length
    · rw [List.take_append_of_le_length (by omega), bytR, sz_short _ j (by omega) hs]; rfl
    · rw [List.take_append, List.take_of_length_le (by omega), bytR, sz_enc _ _ (by omega) (by omega), if_neg (by omega)]
      simp only
      rw [if_neg (by omega), rawR, Int.toNat_natCast, if_neg (by rw [List.length_take]; omega)]; rfl
/-- The acts that are written. -/
def keepY (y : YE) : Bool := decide (y.1 ≠ 5 ∨ y.2.1 ≤ 33554432)
def flatW (ys : List YE) : List Int := (ys.filter keepY).flatMap encY
/-- What is left behind some acts: a part of what is still to come, or it was told. -/
def Cut (rest : List Int) (rem : List Int) (e : Int) : Prop := (e = 0 ∧ ∃ k, k < rest.length ∧ rem = rest.take k) ∨ e = 4
theorem Cut.step {kind n : Int} {b rest rem rem' : List Int} {e e' : Int} (hn : 0 ≤ n ∧ n < 18446744073709551616) (h5 : kind = 5 → n ≤ 33554432) (h : Cut (encA kind n b ++ rest) rem e)
    (h1 : e ≠ 0 → e' = e) (h2 : e = 0 → ∀ t, actR kind (nnA kind n b) rem = .ok t → rem' = t ∧ e' = 0) (h3 : e = 0 → ∀ k, actR kind (nnA kind n b) rem = .error k → e' = k) : Cut rest rem' e' := by
  rcases h with ⟨he, k, hk, hr⟩ | he
  · by_cases hs : k < (encA kind n b).length
    · rw [List.take_append_of_le_length (by omega)] at hr
      exact .inr (h3 he 4 (by rw [hr]; exact act_short kind n b k hn hs))
    · rw [List.take_append, List.take_of_length_le (by omega)] at hr
      rw [List.length_append] at hk
      obtain ⟨i1, i2⟩ := h2 he _ (by rw [hr]; exact act_full kind n b _ hn h5)
      exact .inl ⟨i2, k - (encA kind n b).length, by omega, i1⟩
  · exact .inr (by rw [h1 (by omega), he])
theorem Cut.end {rem : List Int} {e : Int} (h : Cut [] rem e) : e = 4 := by
  rcases h with ⟨_, k, hk, _⟩ | h
  · simp at hk
  · exact h
end Go.Proofs
