/- Plain: one byte that is another one changes a descriptor's checksum. -/
import Derived.Test.YtajkhimlpnebdaaTG
set_option linter.unusedSimpArgs false
set_option linter.unusedVariables false
set_option linter.constructorNameAsVariable false
namespace Go.Proofs
open Go.Vc
set_option maxRecDepth 10000

/-! ### A step, in parts -/
def mixM (b : BitVec 64) : BitVec 64 := mixF descG 0 b 0#64
def maskB : BitVec 64 := (1#64 <<< 35) - 1#64
theorem mix_xor : ∀ (g : List (BitVec 64)) (j : Nat) (b c : BitVec 64), mixF g j b c = c ^^^ mixF g j b 0#64
  | [], _, _, c => by simp [mixF]
  | x :: g, j, b, c => by
    simp only [mixF]
    rw [mix_xor g (j + 1) b (if (b >>> j) &&& 1#64 = 1#64 then c ^^^ x else c), mix_xor g (j + 1) b (if (b >>> j) &&& 1#64 = 1#64 then 0#64 ^^^ x else 0#64)]
    split
    · simp [BitVec.xor_assoc]
    · simp
theorem step_is (c : BitVec 64) (v : Int) : stepB 35 descG c v = ((c &&& maskB) <<< 5) ^^^ b64 v ^^^ mixM (c >>> 35) := mix_xor _ _ _ _
/-- What a difference becomes. -/
def tB (d e : BitVec 64) : BitVec 64 := ((d &&& maskB) <<< 5) ^^^ e ^^^ mixM (d >>> 35)
theorem lt32 {b : BitVec 64} (h : b.toNat < 32) : ∃ n : Fin 32, b = BitVec.ofNat 64 n.val := ⟨⟨b.toNat, h⟩, by simp⟩
theorem mixM_lin {a b : BitVec 64} (ha : a.toNat < 32) (hb : b.toNat < 32) : mixM (a ^^^ b) = mixM a ^^^ mixM b := by
  obtain ⟨n, rfl⟩ := lt32 ha
  obtain ⟨m, rfl⟩ := lt32 hb
  have hd : ∀ n m : Fin 32, mixM (BitVec.ofNat 64 n.val ^^^ BitVec.ofNat 64 m.val) = mixM (BitVec.ofNat 64 n.val) ^^^ mixM (BitVec.ofNat 64 m.val) := by decide +kernel
  exact hd n m
theorem shr35 {c : BitVec 64} (h : c.toNat < 2 ^ 40) : (c >>> 35).toNat < 32 := by
  rw [BitVec.toNat_ushiftRight, Nat.shiftRight_eq_div_pow]
  omega
theorem step_diff {a b : BitVec 64} (ha : a.toNat < 2 ^ 40) (hb : b.toNat < 2 ^ 40) (v u : Int) : stepB 35 descG a v ^^^ stepB 35 descG b u = tB (a ^^^ b) (b64 v ^^^ b64 u) := by
  rw [step_is, step_is, tB, BitVec.ushiftRight_xor_distrib, mixM_lin (shr35 ha) (shr35 hb)]
  have e : (a ^^^ b) &&& maskB = (a &&& maskB) ^^^ (b &&& maskB) := by
    apply BitVec.eq_of_getLsbD_eq
    intro i hi
    simp only [BitVec.getLsbD_and, BitVec.getLsbD_xor]
    cases a.getLsbD i <;> cases b.getLsbD i <;> cases maskB.getLsbD i <;> rfl
  rw [e, BitVec.shiftLeft_xor_distrib]
  ac_rfl
theorem maskB_nat : maskB.toNat = 2 ^ 35 - 1 := by decide +kernel
theorem and_mask (d : BitVec 64) : (d &&& maskB).toNat = d.toNat % 2 ^ 35 := by rw [BitVec.toNat_and, maskB_nat, Nat.and_two_pow_sub_one_eq_mod]
theorem shl_mask (d : BitVec 64) : ((d &&& maskB) <<< 5).toNat = d.toNat % 2 ^ 35 * 32 := by
  rw [BitVec.toNat_shiftLeft, and_mask, Nat.shiftLeft_eq]
  omega
theorem mixM_lt {b : BitVec 64} (h : b.toNat < 32) : (mixM b).toNat < 2 ^ 40 := by
  obtain ⟨n, rfl⟩ := lt32 h
  have hd : ∀ n : Fin 32, (mixM (BitVec.ofNat 64 n.val)).toNat < 2 ^ 40 := by decide +kernel
  exact hd n
theorem b64_lt {v : Int} (h : 0 ≤ v ∧ v < 32) : (b64 v).toNat < 32 := by
  rw [b64, BitVec.toNat_ofNat]
  omega
theorem xor_lt {a b : BitVec 64} {n : Nat} (ha : a.toNat < 2 ^ n) (hb : b.toNat < 2 ^ n) : (a ^^^ b).toNat < 2 ^ n := by
  rw [BitVec.toNat_xor]
  exact Nat.xor_lt_two_pow ha hb
theorem tB_lt {d e : BitVec 64} (hd : d.toNat < 2 ^ 40) (he : e.toNat < 32) : (tB d e).toNat < 2 ^ 40 := by
  refine xor_lt (xor_lt ?_ (by omega)) (mixM_lt (shr35 hd))
  rw [shl_mask]; omega
theorem step_lt {c : BitVec 64} (h : c.toNat < 2 ^ 40) {v : Int} (hv : 0 ≤ v ∧ v < 32) : (stepB 35 descG c v).toNat < 2 ^ 40 := by
  rw [step_is]
  exact tB_lt h (b64_lt hv)
/-- A difference never goes. -/
theorem tB_ne {d : BitVec 64} (hd : d.toNat < 2 ^ 40) (h : d ≠ 0#64) : tB d 0#64 ≠ 0#64 := by
  intro he
  have hlow : ∀ n : Fin 32, (mixM (BitVec.ofNat 64 n.val)).toNat % 32 = 0 → n.val = 0 := by decide +kernel
  have h1 : (d &&& maskB) <<< 5 = mixM (d >>> 35) := by
    rw [tB, BitVec.xor_zero] at he
    exact BitVec.xor_eq_zero_iff.1 he
  obtain ⟨n, hn⟩ := lt32 (shr35 hd)
  rw [hn] at h1
  have h2 := congrArg BitVec.toNat h1
  rw [shl_mask] at h2
  have h3 := hlow n (by rw [← h2]; omega)
  have h4 : d.toNat / 2 ^ 35 = 0 := by
    have := congrArg BitVec.toNat hn
    rw [BitVec.toNat_ushiftRight, Nat.shiftRight_eq_div_pow, BitVec.toNat_ofNat, h3] at this
    simpa using this
  have h5 : (mixM (BitVec.ofNat 64 n.val)).toNat = 0 := by
    have hz : ∀ n : Fin 32, n.val = 0 → (mixM (BitVec.ofNat 64 n.val)).toNat = 0 := by decide +kernel
    exact hz n h3
  rw [h5] at h2
  exact h (BitVec.eq_of_toNat_eq (by simp; omega))
end Go.Proofs
