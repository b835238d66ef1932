/- Amounts as text: the plain law. -/
import Derived.Lib.AtoiAll
import Derived.Lib.ItoaNum
set_option linter.unusedSimpArgs false
set_option linter.unusedVariables false
set_option linter.constructorNameAsVariable false
namespace Go.Proofs
open Go.Lib
set_option maxRecDepth 10000

def isDig (c : UInt8) : Prop := 48 ≤ c.toNat ∧ c.toNat ≤ 57
def valD (l : List UInt8) : Nat := l.foldl (fun a c => a * 10 + (c.toNat - 48)) 0
theorem foldD (l : List UInt8) : ∀ a : Nat, l.foldl (fun a c => a * 10 + (c.toNat - 48)) a = a * 10 ^ l.length + valD l := by
  induction l with
  | nil => intro a; simp [valD]
  | cons c l ih =>
    intro a
    rw [valD, List.foldl_cons, List.foldl_cons, ih, ih, List.length_cons, Nat.pow_succ, Nat.add_mul, Nat.zero_mul, Nat.zero_add, Nat.mul_assoc, Nat.mul_comm 10 (10 ^ l.length), Nat.add_assoc]
theorem valD_append (l m : List UInt8) : valD (l ++ m) = valD l * 10 ^ m.length + valD m := by
  rw [valD, List.foldl_append, foldD m]; rfl
theorem valD_cons (c : UInt8) (l : List UInt8) : valD (c :: l) = (c.toNat - 48) * 10 ^ l.length + valD l := by
  have := valD_append [c] l
  simpa [valD] using this
theorem pu_ok : ∀ (l : List UInt8) (a : Nat), (∀ c ∈ l, isDig c) → a * 10 ^ l.length + valD l < 18446744073709551610 → parseUint10 a l = .ok (a * 10 ^ l.length + valD l)
  | [], a, _, _ => by simp [parseUint10, valD]
  | c :: l, a, h, hl => by
    have hc := h c (by simp)
    rw [valD_cons, List.length_cons, Nat.pow_succ] at hl ⊢
    have e : a * (10 ^ l.length * 10) + ((c.toNat - 48) * 10 ^ l.length + valD l) = (a * 10 + (c.toNat - 48)) * 10 ^ l.length + valD l := by
      rw [Nat.add_mul, Nat.mul_assoc, Nat.mul_comm 10 (10 ^ l.length), Nat.add_assoc]
    rw [e] at hl ⊢
    have hp : 1 ≤ 10 ^ l.length := Nat.pow_pos (by decide)
    have hle : a * 10 + (c.toNat - 48) ≤ (a * 10 + (c.toNat - 48)) * 10 ^ l.length := Nat.le_mul_of_pos_right _ hp
    rw [parseUint10, if_pos (show 48 ≤ c.toNat ∧ c.toNat ≤ 57 from hc), if_neg (by omega), if_neg (by omega)]
    exact pu_ok l _ (fun d hd => h d (by simp [hd])) hl
/-- k digits. -/
def pad : Nat → Nat → List UInt8
  | 0, _ => []
  | k + 1, n => pad k (n / 10) ++ [UInt8.ofNat (48 + n % 10)]
theorem pad_len : ∀ k n, (pad k n).length = k
  | 0, _ => rfl
  | k + 1, n => by rw [pad, List.length_append, pad_len k]; rfl
theorem dig_of {n : Nat} (h : n < 10) : isDig (UInt8.ofNat (48 + n)) ∧ (UInt8.ofNat (48 + n)).toNat = 48 + n := by
  have : (UInt8.ofNat (48 + n)).toNat = 48 + n := by
    rw [UInt8.toNat_ofNat']; omega
  exact ⟨⟨by omega, by omega⟩, this⟩
theorem pad_dig : ∀ k n, ∀ c ∈ pad k n, isDig c
  | 0, _, c, h => by cases h
  | k + 1, n, c, h => by
    rw [pad] at h
    rcases List.mem_append.1 h with h | h
    · exact pad_dig k _ c h
    · rw [List.mem_singleton.1 h]; exact (dig_of (Nat.mod_lt _ (by decide))).1
theorem pad_val : ∀ k n, valD (pad k n) = n % 10 ^ k
  | 0, n => by simp [pad, valD, Nat.mod_one]
  | k + 1, n => by
    rw [pad, valD_append, pad_val k, valD_cons, (dig_of (Nat.mod_lt n (by decide))).2]
    have e : 48 + n % 10 - 48 = n % 10 := by omega
    rw [e]
    simp only [List.length_cons, List.length_nil, Nat.pow_zero, Nat.mul_one, valD, List.foldl_nil, Nat.add_zero, Nat.zero_add, Nat.pow_one]
    rw [Nat.pow_succ, Nat.mul_comm (10 ^ k) 10, Nat.mod_mul]
    omega
theorem dec_dig (u : Nat) : ∀ c ∈ decDigits u, isDig c := by
  induction u using Nat.strongRecOn with
  | ind u ih =>
    intro c h
    rw [decDigits] at h
    split at h
    · rename_i hu
      rw [List.mem_singleton.1 h]; exact (dig_of hu).1
    · rename_i hu
      rcases List.mem_append.1 h with h | h
      · exact ih (u / 10) (by omega) c h
      · rw [List.mem_singleton.1 h]; exact (dig_of (Nat.mod_lt _ (by decide))).1
theorem dec_val (u : Nat) : valD (decDigits u) = u := by
  induction u using Nat.strongRecOn with
  | ind u ih =>
    rw [decDigits]
    split
    · rename_i hu
      have := (dig_of hu).2
      rw [valD_cons, this]
      simp only [List.length_nil, Nat.pow_zero, Nat.mul_one, valD, List.foldl_nil]
      omega
    · rename_i hu
      rw [valD_append, ih (u / 10) (by omega), valD_cons, (dig_of (Nat.mod_lt u (by decide))).2]
      simp only [List.length_cons, List.length_nil, Nat.pow_zero, Nat.mul_one, valD, List.foldl_nil]
      omega
/-- The last k digits of a number that has more. -/
theorem dec_split : ∀ (k u : Nat), 10 ^ k ≤ u → decDigits u = decDigits (u / 10 ^ k) ++ pad k (u % 10 ^ k)
  | 0, u, _ => by simp [pad]
  | k + 1, u, h => by
    have hp : 1 ≤ 10 ^ k := Nat.pow_pos (by decide)
    rw [Nat.pow_succ] at h
    have h1 : 10 ^ k ≤ u / 10 := (Nat.le_div_iff_mul_le (by decide)).2 h
    have hu : ¬ u < 10 := by omega
    rw [decDigits, dif_neg hu, dec_split k (u / 10) h1, List.append_assoc, pad]
    have e1 : u / 10 / 10 ^ k = u / 10 ^ (k + 1) := by rw [Nat.div_div_eq_div_mul, Nat.pow_succ, Nat.mul_comm]
    have e2 : u / 10 % 10 ^ k = u % 10 ^ (k + 1) / 10 := by
      rw [Nat.pow_succ, Nat.mul_comm (10 ^ k) 10, Nat.mod_mul_right_div_self]
    have e3 : u % 10 = u % 10 ^ (k + 1) % 10 := by
      rw [Nat.pow_succ, Nat.mul_comm (10 ^ k) 10, Nat.mod_mul_right_mod]
    rw [e1, e2, e3]
/-- What is told is read back. -/
theorem amount_back {v : Nat} (h : v ≤ 2100000000000000) : atoiAll (decDigits (v / 100000000) ++ (decDigits (v + 100000000)).drop ((decDigits (v + 100000000)).length - 8)) = .ok (v : Int) := by
  have hs := dec_split 8 (v + 100000000) (by omega)
  have e10 : (10 : Nat) ^ 8 = 100000000 := by decide
  rw [e10] at hs
  have hm : (v + 100000000) % 100000000 = v % 100000000 := by omega
  rw [hm] at hs
  have hl : (decDigits (v + 100000000)).length - 8 = (decDigits ((v + 100000000) / 100000000)).length := by rw [hs, List.length_append, pad_len]; omega
  have hd : (decDigits (v + 100000000)).drop ((decDigits (v + 100000000)).length - 8) = pad 8 (v % 100000000) := by rw [hl, hs, List.drop_left]
  rw [hd]
  have hval : valD (decDigits (v / 100000000) ++ pad 8 (v % 100000000)) = v := by
    rw [valD_append, dec_val, pad_len, pad_val, e10]; omega
  have hdig : ∀ c ∈ decDigits (v / 100000000) ++ pad 8 (v % 100000000), isDig c := fun c hc => by
    rcases List.mem_append.1 hc with hc | hc
    · exact dec_dig _ c hc
    · exact pad_dig _ _ c hc
  have hne : decDigits (v / 100000000) ++ pad 8 (v % 100000000) ≠ [] := by
    intro h
    have := congrArg List.length h
    rw [List.length_append, pad_len] at this
    simp at this
  generalize decDigits (v / 100000000) ++ pad 8 (v % 100000000) = l at hval hdig hne
  have hp := pu_ok l 0 hdig (by rw [Nat.zero_mul, Nat.zero_add, hval]; omega)
  rw [Nat.zero_mul, Nat.zero_add, hval] at hp
  cases l with
  | nil => exact absurd rfl hne
  | cons c r =>
    have hc := hdig c (by simp)
    unfold isDig at hc
    have n1 : ¬ (c.toNat = 43 ∨ c.toNat = 45) := by omega
    have n2 : ¬ c.toNat = 45 := by omega
    have hpm : parseMag (c :: r) = .ok v := by rw [parseMag, if_neg (by simp), hp]
    simp only [atoiAll, if_neg n1, hpm]
    rw [if_neg (by omega), if_neg (fun h => n2 h.1), if_neg n2]
end Go.Proofs
