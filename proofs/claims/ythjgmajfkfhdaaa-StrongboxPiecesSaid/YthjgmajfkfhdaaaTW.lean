/- Words of 64 and of 32 bits: what an operation yields. -/
import Derived.Test.YthjgmajfkfhdaaaW0
set_option linter.unusedSimpArgs false
set_option linter.unusedVariables false
set_option linter.constructorNameAsVariable false
namespace Go.Proofs
open Go.Vc
set_option maxRecDepth 10000

theorem int_nat_mod (x : Nat) (m : Nat) (h : x < m) : ((x : Nat) : Int) % (m : Nat) = (x : Nat) := by
  rw [← Int.natCast_emod, Nat.mod_eq_of_lt h]

/-! ### 64 bits -/
def U64 (x : BitVec 64) : Value := .int .u64 (x.toNat : Int)
theorem U64_inj {x y : BitVec 64} : U64 x = U64 y ↔ x = y := by
  constructor
  · intro h
    unfold U64 at h
    injection h with _ h
    exact BitVec.eq_of_toNat_eq (by omega)
  · rintro rfl; rfl
theorem w64_ofInt (x : BitVec 64) : BitVec.ofInt 64 (x.toNat : Int) = x := by
  rw [BitVec.ofInt_natCast, BitVec.ofNat_toNat, BitVec.setWidth_eq]
theorem w64_wrap (x : BitVec 64) : IntKind.u64.wrap (x.toNat : Int) = (x.toNat : Int) := by
  have := x.isLt
  rw [wrap_u64]; omega
theorem U64_of (n : Nat) (h : n < 18446744073709551616) : Value.int .u64 (n : Int) = U64 (BitVec.ofNat 64 n) := by
  unfold U64
  rw [BitVec.toNat_ofNat, Nat.mod_eq_of_lt h]
theorem U64_xor (x y : BitVec 64) : binR .xor (U64 x) (U64 y) = some (U64 (x ^^^ y)) := by
  unfold U64
  rw [bin_xor]
  show some (Value.int .u64 (IntKind.u64.wrap ((BitVec.ofInt 64 (x.toNat : Int) ^^^ BitVec.ofInt 64 (y.toNat : Int)).toNat : Int))) = _
  rw [w64_ofInt, w64_ofInt, w64_wrap]
theorem U64_and (x y : BitVec 64) : binR .and (U64 x) (U64 y) = some (U64 (x &&& y)) := by
  unfold U64
  rw [bin_and]
  show some (Value.int .u64 (IntKind.u64.wrap ((BitVec.ofInt 64 (x.toNat : Int) &&& BitVec.ofInt 64 (y.toNat : Int)).toNat : Int))) = _
  rw [w64_ofInt, w64_ofInt, w64_wrap]
theorem U64_or (x y : BitVec 64) : binR .or (U64 x) (U64 y) = some (U64 (x ||| y)) := by
  unfold U64
  rw [bin_or]
  show some (Value.int .u64 (IntKind.u64.wrap ((BitVec.ofInt 64 (x.toNat : Int) ||| BitVec.ofInt 64 (y.toNat : Int)).toNat : Int))) = _
  rw [w64_ofInt, w64_ofInt, w64_wrap]
theorem U64_not (x : BitVec 64) : bnotR (U64 x) = some (U64 (~~~x)) := by
  unfold U64
  rw [bnot_i]
  show some (Value.int .u64 (IntKind.u64.wrap ((BitVec.ofInt 64 (IntKind.u64.max) ^^^ BitVec.ofInt 64 (x.toNat : Int)).toNat : Int))) = _
  have e : BitVec.ofInt 64 (IntKind.u64.max) = BitVec.allOnes 64 := by decide +kernel
  rw [e, w64_ofInt, BitVec.allOnes_xor, w64_wrap]
theorem U64_add (x y : BitVec 64) : binR .add (U64 x) (U64 y) = some (U64 (x + y)) := by
  unfold U64
  rw [bin_add, wrap_u64, BitVec.toNat_add]
  congr 2
theorem U64_sub (x y : BitVec 64) : binR .sub (U64 x) (U64 y) = some (U64 (x - y)) := by
  have h1 := x.isLt
  have h2 := y.isLt
  unfold U64
  rw [bin_sub, wrap_u64, BitVec.toNat_sub]
  congr 2
  omega
theorem U64_mul (x y : BitVec 64) : binR .mul (U64 x) (U64 y) = some (U64 (x * y)) := by
  unfold U64
  rw [bin_mul, wrap_u64, BitVec.toNat_mul]
  congr 2
theorem U64_shr (x : BitVec 64) (k : IntKind) (n : Nat) (h : n ≤ 64) : binR .shr (U64 x) (.int k (n : Int)) = some (U64 (x >>> n)) := by
  unfold U64
  rw [bin_shr, if_pos (by omega)]
  show some (Value.int .u64 ((x.toNat : Int).fdiv (2 ^ Nat.min (n : Int).toNat 64))) = _
  rw [Int.toNat_natCast, show Nat.min n 64 = n from Nat.min_eq_left h, Int.fdiv_eq_ediv_of_nonneg _ (Int.le_of_lt (Int.pow_pos (by decide))), BitVec.toNat_ushiftRight, Nat.shiftRight_eq_div_pow]
  congr 2
theorem U64_shl (x : BitVec 64) (k : IntKind) (n : Nat) (h : n ≤ 64) : binR .shl (U64 x) (.int k (n : Int)) = some (U64 (x <<< n)) := by
  unfold U64
  rw [bin_shl, if_pos (by omega)]
  show some (Value.int .u64 (IntKind.u64.wrap ((x.toNat : Int) * (2 ^ Nat.min (n : Int).toNat 64)))) = _
  rw [Int.toNat_natCast, show Nat.min n 64 = n from Nat.min_eq_left h, BitVec.toNat_shiftLeft, Nat.shiftLeft_eq, wrap_u64]
  congr 2
theorem U64_eql (x y : BitVec 64) : binR .eql (U64 x) (U64 y) = some (.bool (decide (x = y))) := by
  unfold U64
  rw [bin_eql]
  congr 2
  rw [decide_eq_decide]
  constructor
  · intro h; exact BitVec.eq_of_toNat_eq (by omega)
  · rintro rfl; rfl
theorem U64_quo (x y : BitVec 64) (h : y ≠ 0) : binR .quo (U64 x) (U64 y) = some (U64 (x / y)) := by
  have hy : ¬ ((y.toNat : Int) = 0) := fun e => h (BitVec.eq_of_toNat_eq (by simp; omega))
  have h2 := (x / y).isLt
  rw [BitVec.toNat_udiv] at h2
  unfold U64
  rw [bin_quo, if_neg hy, Int.tdiv_eq_ediv_of_nonneg (by omega), wrap_u64, BitVec.toNat_udiv]
  congr 2
  rw [← Int.natCast_ediv]
  generalize x.toNat / y.toNat = z at h2 ⊢
  omega
theorem U64_rem (x y : BitVec 64) (h : y ≠ 0) : binR .rem (U64 x) (U64 y) = some (U64 (x % y)) := by
  have hy : ¬ ((y.toNat : Int) = 0) := fun e => h (BitVec.eq_of_toNat_eq (by simp; omega))
  unfold U64
  rw [bin_rem, if_neg hy, Int.tmod_eq_emod_of_nonneg (by omega), BitVec.toNat_umod]
  congr 2
theorem U64_one (x : BitVec 64) : (U64 x).oneCell' = true := rfl
theorem U64_cells (x : BitVec 64) : (U64 x).cells = #[U64 x] := rfl

/-! ### 32 bits -/
def U32 (x : BitVec 32) : Value := .int .u32 (x.toNat : Int)
theorem U32_inj {x y : BitVec 32} : U32 x = U32 y ↔ x = y := by
  constructor
  · intro h
    unfold U32 at h
    injection h with _ h
    exact BitVec.eq_of_toNat_eq (by omega)
  · rintro rfl; rfl
theorem w32_ofInt (x : BitVec 32) : BitVec.ofInt 32 (x.toNat : Int) = x := by
  rw [BitVec.ofInt_natCast, BitVec.ofNat_toNat, BitVec.setWidth_eq]
theorem w32_wrap (x : BitVec 32) : IntKind.u32.wrap (x.toNat : Int) = (x.toNat : Int) := by
  have := x.isLt
  rw [wrap_u32]; omega
theorem U32_of (n : Nat) (h : n < 4294967296) : Value.int .u32 (n : Int) = U32 (BitVec.ofNat 32 n) := by
  unfold U32
  rw [BitVec.toNat_ofNat, Nat.mod_eq_of_lt h]
theorem U32_xor (x y : BitVec 32) : binR .xor (U32 x) (U32 y) = some (U32 (x ^^^ y)) := by
  unfold U32
  rw [bin_xor]
  show some (Value.int .u32 (IntKind.u32.wrap ((BitVec.ofInt 32 (x.toNat : Int) ^^^ BitVec.ofInt 32 (y.toNat : Int)).toNat : Int))) = _
  rw [w32_ofInt, w32_ofInt, w32_wrap]
theorem U32_and (x y : BitVec 32) : binR .and (U32 x) (U32 y) = some (U32 (x &&& y)) := by
  unfold U32
  rw [bin_and]
  show some (Value.int .u32 (IntKind.u32.wrap ((BitVec.ofInt 32 (x.toNat : Int) &&& BitVec.ofInt 32 (y.toNat : Int)).toNat : Int))) = _
  rw [w32_ofInt, w32_ofInt, w32_wrap]
theorem U32_or (x y : BitVec 32) : binR .or (U32 x) (U32 y) = some (U32 (x ||| y)) := by
  unfold U32
  rw [bin_or]
  show some (Value.int .u32 (IntKind.u32.wrap ((BitVec.ofInt 32 (x.toNat : Int) ||| BitVec.ofInt 32 (y.toNat : Int)).toNat : Int))) = _
  rw [w32_ofInt, w32_ofInt, w32_wrap]
theorem U32_not (x : BitVec 32) : bnotR (U32 x) = some (U32 (~~~x)) := by
  unfold U32
  rw [bnot_i]
  show some (Value.int .u32 (IntKind.u32.wrap ((BitVec.ofInt 32 (IntKind.u32.max) ^^^ BitVec.ofInt 32 (x.toNat : Int)).toNat : Int))) = _
  have e : BitVec.ofInt 32 (IntKind.u32.max) = BitVec.allOnes 32 := by decide +kernel
  rw [e, w32_ofInt, BitVec.allOnes_xor, w32_wrap]
theorem U32_add (x y : BitVec 32) : binR .add (U32 x) (U32 y) = some (U32 (x + y)) := by
  unfold U32
  rw [bin_add, wrap_u32, BitVec.toNat_add]
  congr 2
theorem U32_sub (x y : BitVec 32) : binR .sub (U32 x) (U32 y) = some (U32 (x - y)) := by
  have h1 := x.isLt
  have h2 := y.isLt
  unfold U32
  rw [bin_sub, wrap_u32, BitVec.toNat_sub]
  congr 2
  omega
theorem U32_mul (x y : BitVec 32) : binR .mul (U32 x) (U32 y) = some (U32 (x * y)) := by
  unfold U32
  rw [bin_mul, wrap_u32, BitVec.toNat_mul]
  congr 2
theorem U32_shr (x : BitVec 32) (k : IntKind) (n : Nat) (h : n ≤ 32) : binR .shr (U32 x) (.int k (n : Int)) = some (U32 (x >>> n)) := by
  unfold U32
  rw [bin_shr, if_pos (by omega)]
  show some (Value.int .u32 ((x.toNat : Int).fdiv (2 ^ Nat.min (n : Int).toNat 32))) = _
  rw [Int.toNat_natCast, show Nat.min n 32 = n from Nat.min_eq_left h, Int.fdiv_eq_ediv_of_nonneg _ (Int.le_of_lt (Int.pow_pos (by decide))), BitVec.toNat_ushiftRight, Nat.shiftRight_eq_div_pow]
  congr 2
theorem U32_shl (x : BitVec 32) (k : IntKind) (n : Nat) (h : n ≤ 32) : binR .shl (U32 x) (.int k (n : Int)) = some (U32 (x <<< n)) := by
  unfold U32
  rw [bin_shl, if_pos (by omega)]
  show some (Value.int .u32 (IntKind.u32.wrap ((x.toNat : Int) * (2 ^ Nat.min (n : Int).toNat 32)))) = _
  rw [Int.toNat_natCast, show Nat.min n 32 = n from Nat.min_eq_left h, BitVec.toNat_shiftLeft, Nat.shiftLeft_eq, wrap_u32]
  congr 2
theorem U32_eql (x y : BitVec 32) : binR .eql (U32 x) (U32 y) = some (.bool (decide (x = y))) := by
  unfold U32
  rw [bin_eql]
  congr 2
  rw [decide_eq_decide]
  constructor
  · intro h; exact BitVec.eq_of_toNat_eq (by omega)
  · rintro rfl; rfl
theorem U32_quo (x y : BitVec 32) (h : y ≠ 0) : binR .quo (U32 x) (U32 y) = some (U32 (x / y)) := by
  have hy : ¬ ((y.toNat : Int) = 0) := fun e => h (BitVec.eq_of_toNat_eq (by simp; omega))
  have h2 := (x / y).isLt
  rw [BitVec.toNat_udiv] at h2
  unfold U32
  rw [bin_quo, if_neg hy, Int.tdiv_eq_ediv_of_nonneg (by omega), wrap_u32, BitVec.toNat_udiv]
  congr 2
  rw [← Int.natCast_ediv]
  generalize x.toNat / y.toNat = z at h2 ⊢
  omega
theorem U32_rem (x y : BitVec 32) (h : y ≠ 0) : binR .rem (U32 x) (U32 y) = some (U32 (x % y)) := by
  have hy : ¬ ((y.toNat : Int) = 0) := fun e => h (BitVec.eq_of_toNat_eq (by simp; omega))
  unfold U32
  rw [bin_rem, if_neg hy, Int.tmod_eq_emod_of_nonneg (by omega), BitVec.toNat_umod]
  congr 2
theorem U32_one (x : BitVec 32) : (U32 x).oneCell' = true := rfl
theorem U32_cells (x : BitVec 32) : (U32 x).cells = #[U32 x] := rfl
end Go.Proofs
