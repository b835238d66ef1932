/- SHA-256: plain. -/
import Derived.Test.YthjgmajfkfhdaaaTW
import Derived.Test.YthjgmajfkfhdaaaD1
set_option linter.unusedSimpArgs false
set_option linter.unusedVariables false
set_option linter.constructorNameAsVariable false
namespace Go.Proofs
open Go.Vc
set_option maxRecDepth 10000

/-! ### Words -/
def b32 (v : Int) : BitVec 32 := BitVec.ofNat 32 v.toNat
def rotF (n : Nat) (x : BitVec 32) : BitVec 32 := (x <<< (32 - n)) ||| (x >>> n)
def sg0 (x : BitVec 32) : BitVec 32 := rotF 7 x ^^^ rotF 18 x ^^^ x >>> 3
def sg1 (x : BitVec 32) : BitVec 32 := rotF 17 x ^^^ rotF 19 x ^^^ x >>> 10
def SG0 (x : BitVec 32) : BitVec 32 := rotF 2 x ^^^ rotF 13 x ^^^ rotF 22 x
def SG1 (x : BitVec 32) : BitVec 32 := rotF 6 x ^^^ rotF 11 x ^^^ rotF 25 x
def chF (e f g : BitVec 32) : BitVec 32 := (e &&& f) ^^^ (~~~e &&& g)
def majF (a b c : BitVec 32) : BitVec 32 := (a &&& b) ^^^ (a &&& c) ^^^ (b &&& c)
def wordF (a b c d : Int) : BitVec 32 := b32 a <<< 24 ||| b32 b <<< 16 ||| b32 c <<< 8 ||| b32 d
def kL : List (BitVec 32) := [0x428a2f98, 0x71374491, 0xb5c0fbcf, 0xe9b5dba5, 0x3956c25b, 0x59f111f1, 0x923f82a4, 0xab1c5ed5, 0xd807aa98, 0x12835b01, 0x243185be, 0x550c7dc3, 0x72be5d74, 0x80deb1fe, 0x9bdc06a7, 0xc19bf174, 0xe49b69c1, 0xefbe4786, 0x0fc19dc6, 0x240ca1cc, 0x2de92c6f, 0x4a7484aa, 0x5cb0a9dc, 0x76f988da, 0x983e5152, 0xa831c66d, 0xb00327c8, 0xbf597fc7, 0xc6e00bf3, 0xd5a79147, 0x06ca6351, 0x14292967, 0x27b70a85, 0x2e1b2138, 0x4d2c6dfc, 0x53380d13, 0x650a7354, 0x766a0abb, 0x81c2c92e, 0x92722c85, 0xa2bfe8a1, 0xa81a664b, 0xc24b8b70, 0xc76c51a3, 0xd192e819, 0xd6990624, 0xf40e3585, 0x106aa070, 0x19a4c116, 0x1e376c08, 0x2748774c, 0x34b0bcb5, 0x391c0cb3, 0x4ed8aa4a, 0x5b9cca4f, 0x682e6ff3, 0x748f82ee, 0x78a5636f, 0x84c87814, 0x8cc70208, 0x90befffa, 0xa4506ceb, 0xbef9a3f7, 0xc67178f2]
def w16 (blk : List Int) : List (BitVec 32) := (List.range 16).map fun t => wordF (blk.getD (4 * t) 0) (blk.getD (4 * t + 1) 0) (blk.getD (4 * t + 2) 0) (blk.getD (4 * t + 3) 0)
def nxtW (l : List (BitVec 32)) : BitVec 32 := l.getD (l.length - 16) 0 + l.getD (l.length - 7) 0 + sg0 (l.getD (l.length - 15) 0) + sg1 (l.getD (l.length - 2) 0)
def sch : Nat → List (BitVec 32) → List (BitVec 32)
  | 0, l => l
  | k + 1, l => sch k (l ++ [nxtW l])
def wsF (blk : List Int) : List (BitVec 32) := sch 48 (w16 blk)
structure S8 where
  a : BitVec 32
  b : BitVec 32
  c : BitVec 32
  d : BitVec 32
  e : BitVec 32
  f : BitVec 32
  g : BitVec 32
  h : BitVec 32
def S8.list (s : S8) : List (BitVec 32) := [s.a, s.b, s.c, s.d, s.e, s.f, s.g, s.h]
def S8.add (s v : S8) : S8 := ⟨s.a + v.a, s.b + v.b, s.c + v.c, s.d + v.d, s.e + v.e, s.f + v.f, s.g + v.g, s.h + v.h⟩
def t1F (s : S8) (k x : BitVec 32) : BitVec 32 := s.h + SG1 s.e + chF s.e s.f s.g + k + x
def t2F (s : S8) : BitVec 32 := SG0 s.a + majF s.a s.b s.c
def rnd (s : S8) (k x : BitVec 32) : S8 := ⟨t1F s k x + t2F s, s.a, s.b, s.c, s.d + t1F s k x, s.e, s.f, s.g⟩
def rndN : Nat → S8 → List (BitVec 32) → List (BitVec 32) → S8
  | n + 1, s, k :: ks, x :: xs => rndN n (rnd s k x) ks xs
  | _, s, _, _ => s
def compF (s : S8) (blk : List Int) : S8 := s.add (rndN 64 s kL (wsF blk))
def iv : S8 := ⟨0x6a09e667, 0xbb67ae85, 0x3c6ef372, 0xa54ff53a, 0x510e527f, 0x9b05688c, 0x1f83d9ab, 0x5be0cd19⟩
def runN : Nat → S8 → List Int → S8
  | 0, s, _ => s
  | k + 1, s, m => runN k (compF s (m.take 64)) (m.drop 64)
def bytesW (x : BitVec 32) : List Int := [(((x >>> 24).toNat % 256 : Nat) : Int), (((x >>> 16).toNat % 256 : Nat) : Int), (((x >>> 8).toNat % 256 : Nat) : Int), ((x.toNat % 256 : Nat) : Int)]
def outF (s : S8) : List Int := s.list.flatMap bytesW
/-- The lowest 8 bytes of a number, the highest first. -/
def be8 (n : Nat) : List Int := (List.range 8).map fun i => ((n / 256 ^ (7 - i) % 256 : Nat) : Int)
def padF (n : Nat) : List Int := 128 :: (List.replicate (63 - (n + 8) % 64) 0 ++ be8 (8 * n))
def allF (m : List Int) : List Int := m ++ padF m.length
def shaF (m : List Int) : List Int := outF (runN ((allF m).length / 64) iv (allF m))
def dblF (m : List Int) : List Int := shaF (shaF m)

theorem sch_len : ∀ (k : Nat) (l : List (BitVec 32)), (sch k l).length = l.length + k
  | 0, _ => rfl
  | k + 1, l => by rw [sch, sch_len k]; simp; omega
theorem sch_snoc : ∀ (k : Nat) (l : List (BitVec 32)), sch (k + 1) l = sch k l ++ [nxtW (sch k l)]
  | 0, _ => rfl
  | k + 1, l => by
    show sch (k + 1) (l ++ [nxtW l]) = _
    rw [sch_snoc k]
    rfl
theorem sch_pre : ∀ (k : Nat) (l : List (BitVec 32)), l <+: sch k l
  | 0, l => List.prefix_refl _
  | k + 1, l => (List.prefix_append _ _).trans (sch_pre k (l ++ [nxtW l]))
theorem w16_len (blk : List Int) : (w16 blk).length = 16 := by simp [w16]
theorem wsF_len (blk : List Int) : (wsF blk).length = 64 := by unfold wsF; rw [sch_len, w16_len]
theorem kL_len : kL.length = 64 := by decide +kernel
theorem outF_len (s : S8) : (outF s).length = 32 := by simp [outF, S8.list, bytesW]
theorem outF_byt (s : S8) : byt (outF s) := by
  intro x hx
  simp only [outF, List.mem_flatMap] at hx
  obtain ⟨y, _, hx⟩ := hx
  simp only [bytesW, List.mem_cons, List.not_mem_nil, or_false] at hx
  rcases hx with rfl | rfl | rfl | rfl <;> omega
theorem shaF_len (m : List Int) : (shaF m).length = 32 := outF_len _
theorem shaF_byt (m : List Int) : byt (shaF m) := outF_byt _
theorem dblF_len (m : List Int) : (dblF m).length = 32 := outF_len _
theorem dblF_byt (m : List Int) : byt (dblF m) := outF_byt _
theorem be8_len (n : Nat) : (be8 n).length = 8 := by simp [be8]
theorem padF_len (n : Nat) : (padF n).length = 72 - (n + 8) % 64 := by
  simp only [padF, List.length_cons, List.length_append, List.length_replicate, be8_len]
  omega
theorem allF_len (m : List Int) : ∃ k, (allF m).length = 64 * (k + 1) := by
  refine ⟨(m.length + 8) / 64, ?_⟩
  unfold allF
  rw [List.length_append, padF_len]
  omega
theorem padF_byt (n : Nat) : byt (padF n) := by
  intro x hx
  simp only [padF, List.mem_cons, List.mem_append, be8, List.mem_map] at hx
  rcases hx with rfl | hx | ⟨i, _, rfl⟩
  · omega
  · have := List.eq_of_mem_replicate hx; omega
  · omega
theorem runN_add : ∀ (a b : Nat) (s : S8) (m : List Int), runN (a + b) s m = runN b (runN a s m) (m.drop (64 * a))
  | 0, b, s, m => by rw [Nat.zero_add]; rfl
  | a + 1, b, s, m => by
    rw [show a + 1 + b = (a + b) + 1 by omega]
    show runN (a + b) _ _ = _
    rw [runN_add a b, List.drop_drop]
    have e : 64 + 64 * a = 64 * (a + 1) := by omega
    rw [e]
    rfl
theorem runN_pre : ∀ (k : Nat) (s : S8) (m x : List Int), 64 * k ≤ m.length → runN k s (m ++ x) = runN k s m
  | 0, _, _, _, _ => rfl
  | k + 1, s, m, x, h => by
    show runN k (compF s ((m ++ x).take 64)) ((m ++ x).drop 64) = runN k (compF s (m.take 64)) (m.drop 64)
    rw [List.take_append_of_le_length (by omega), List.drop_append_of_le_length (by omega), runN_pre k _ _ _ (by rw [List.length_drop]; omega)]
theorem runN_one (s : S8) (m : List Int) : runN 1 s m = compF s (m.take 64) := rfl
/-- More bytes, block by block. -/
def fullN (m : List Int) : Nat := m.length / 64
def curS (m : List Int) : S8 := runN (fullN m) iv m
def waitL (m : List Int) : List Int := m.drop (64 * fullN m)
theorem waitL_len (m : List Int) : (waitL m).length = m.length % 64 := by
  unfold waitL fullN; rw [List.length_drop]; omega
/-- What has come to, behind some blocks of the whole. -/
theorem runN_step (m : List Int) (j : Nat) : runN (j + 1) iv m = compF (runN j iv m) ((m.drop (64 * j)).take 64) := by
  rw [runN_add j 1]
  rfl
end Go.Proofs
