/- A descriptor's checksum: the program's, whole. -/
import Derived.Test.YtajkhimlpnebdaaT8
set_option linter.unusedSimpArgs false
set_option linter.unusedVariables false
set_option linter.constructorNameAsVariable false
namespace Go.Proofs
open Go.Vc
set_option maxRecDepth 10000

def inS : List Int := [48, 49, 50, 51, 52, 53, 54, 55, 56, 57, 40, 41, 91, 93, 44, 39, 47, 42, 97, 98, 99, 100, 101, 102, 103, 104, 64, 58, 36, 37, 123, 125, 73, 74, 75, 76, 77, 78, 79, 80, 81, 82, 83, 84, 85, 86, 87, 88, 89, 90, 38, 43, 45, 46, 59, 60, 61, 62, 63, 33, 94, 95, 124, 126, 105, 106, 107, 108, 109, 110, 111, 112, 113, 114, 115, 116, 117, 118, 119, 120, 121, 122, 65, 66, 67, 68, 69, 70, 71, 72, 96, 35, 34, 92, 32]
theorem inS_byt : byt inS := by intro x hx; simp [inS] at hx; omega
theorem inS_is : (⟨#[48, 49, 50, 51, 52, 53, 54, 55, 56, 57, 40, 41, 91, 93, 44, 39, 47, 42, 97, 98, 99, 100, 101, 102, 103, 104, 64, 58, 36, 37, 123, 125, 73, 74, 75, 76, 77, 78, 79, 80, 81, 82, 83, 84, 85, 86, 87, 88, 89, 90, 38, 43, 45, 46, 59, 60, 61, 62, 63, 33, 94, 95, 124, 126, 105, 106, 107, 108, 109, 110, 111, 112, 113, 114, 115, 116, 117, 118, 119, 120, 121, 122, 65, 66, 67, 68, 69, 70, 71, 72, 96, 35, 34, 92, 32]⟩ : ByteArray) = strOf inS := by decide +kernel
def l32S : List Int := [113, 112, 122, 114, 121, 57, 120, 56, 103, 102, 50, 116, 118, 100, 119, 48, 115, 51, 106, 110, 53, 52, 107, 104, 99, 101, 54, 109, 117, 97, 55, 108]
theorem l32S_byt : byt l32S := by intro x hx; simp [l32S] at hx; omega
theorem l32S_is : (⟨#[113, 112, 122, 114, 121, 57, 120, 56, 103, 102, 50, 116, 118, 100, 119, 48, 115, 51, 106, 110, 53, 52, 107, 104, 99, 101, 54, 109, 117, 97, 55, 108]⟩ : ByteArray) = strOf l32S := by decide +kernel
def l32F (x : Int) : Int := l32S.getD x.toNat 0
theorem l32_at {x : Int} (h : 0 ≤ x ∧ x ≤ 31) : (strOf l32S)[x.toNat]? = some (UInt8.ofNat (l32F x).toNat) := by
  have hl : x.toNat < l32S.length := by simp [l32S]; omega
  rw [str_get hl]
  simp [l32F, List.getD, hl]
theorem l32F_b {x : Int} (h : 0 ≤ x ∧ x ≤ 31) : 0 ≤ l32F x ∧ l32F x ≤ 255 := by
  have hl : x.toNat < l32S.length := by simp [l32S]; omega
  have e : l32F x = l32S[x.toNat] := by simp [l32F, List.getD, hl]
  rw [e]
  exact l32S_byt _ (List.getElem_mem _)

/-- The values so far, and the groups of the last three. -/
def stepV (st : List Int × List Int) (p : Int) : List Int × List Int := match st.2 with
  | [a, b] => (st.1 ++ [p % 32] ++ [9 * a + 3 * b + p / 32], [])
  | gs => (st.1 ++ [p % 32], gs ++ [p / 32])
def endV (st : List Int × List Int) : List Int := match st.2 with
  | [a] => st.1 ++ [a]
  | [a, b] => st.1 ++ [3 * a + b]
  | _ => st.1
def placesF (bs : List Int) : List Int := bs.map fun b => placeF b inS 0
def valsOf (ps : List Int) : List Int := endV (ps.foldl stepV ([], []))
def sumOf (ps : List Int) : List Int := (lettersF (runB 35 descG (valsOf ps ++ List.replicate 8 0) ^^^ 1#64) 8).map l32F
def checkF (bs : List Int) : Option (List Int) := if (placesF bs).all (fun p => decide (0 ≤ p)) then some (sumOf (placesF bs)) else none
structure StOk (st : List Int × List Int) (n : Nat) : Prop where
  b1 : byt st.1
  b2 : ∀ a ∈ st.2, 0 ≤ a ∧ a ≤ 2
  l1 : st.1.length ≤ 2 * n
  l2 : st.2.length ≤ 2
theorem byt1 {x : Int} (h : 0 ≤ x ∧ x ≤ 255) : byt [x] := fun y hy => by rw [List.mem_singleton.1 hy]; exact h
theorem StOk.step {st : List Int × List Int} {n : Nat} (h : StOk st n) {p : Int} (hp : 0 ≤ p ∧ p ≤ 94) : StOk (stepV st p) (n + 1) := by
  obtain ⟨vs, gs⟩ := st
  obtain ⟨h1, h2, h3, h4⟩ := h
  simp only at h1 h2 h3 h4
  match gs, h2, h4 with
  | [], h2, h4 => exact ⟨byt_app h1 (byt1 (by omega)), fun a ha => by simp [stepV] at ha; subst ha; omega, by simp [stepV]; omega, by simp [stepV]⟩
  | [a], h2, h4 =>
    have ha := h2 a (by simp)
    exact ⟨byt_app h1 (byt1 (by omega)), fun x hx => by simp [stepV] at hx; rcases hx with rfl | rfl <;> omega, by simp [stepV]; omega, by simp [stepV]⟩
  | [a, b], h2, h4 =>
    have ha := h2 a (by simp)
    have hb := h2 b (by simp)
    exact ⟨byt_app (byt_app h1 (byt1 (by omega))) (byt1 (by omega)), fun x hx => by simp [stepV] at hx, by simp [stepV]; omega, by simp [stepV]⟩
theorem place_in (c : Int) : -1 ≤ placeF c inS 0 ∧ placeF c inS 0 ≤ 94 := by
  have := placeF_lt c inS 0
  refine ⟨this.1, ?_⟩
  have hl : inS.length = 95 := rfl
  rcases this.2 with h | h
  · omega
  · exact absurd h (by simp [inS])
theorem StOk.fold : ∀ (ps : List Int) {st : List Int × List Int} {n : Nat}, StOk st n → (∀ p ∈ ps, 0 ≤ p ∧ p ≤ 94) → StOk (ps.foldl stepV st) (n + ps.length)
  | [], st, n, h, _ => h
  | p :: ps, st, n, h, hp => by
    have := StOk.fold ps (h.step (hp p (by simp))) fun q hq => hp q (List.mem_cons_of_mem _ hq)
    rw [List.foldl_cons, List.length_cons, show n + (ps.length + 1) = n + 1 + ps.length by omega]
    exact this
theorem StOk.end {st : List Int × List Int} {n : Nat} (h : StOk st n) : byt (endV st) ∧ (endV st).length ≤ 2 * n + 1 := by
  obtain ⟨vs, gs⟩ := st
  obtain ⟨h1, h2, h3, h4⟩ := h
  simp only at h1 h2 h3 h4
  match gs, h2, h4 with
  | [], h2, h4 => exact ⟨h1, by simp [endV]; omega⟩
  | [a], h2, h4 =>
    have ha := h2 a (by simp)
    exact ⟨byt_app h1 (byt1 (by omega)), by simp [endV]; omega⟩
  | [a, b], h2, h4 =>
    have ha := h2 a (by simp)
    have hb := h2 b (by simp)
    exact ⟨byt_app h1 (byt1 (by omega)), by simp [endV]; omega⟩
theorem and_31 {x : Int} (h : 0 ≤ x ∧ x ≤ 94) : IntKind.u8.wrap (IntKind.i64.wrap (((BitVec.ofInt IntKind.i64.bits x &&& BitVec.ofInt IntKind.i64.bits 31).toNat : Nat) : Int)) = x % 32 := by
  obtain ⟨n, rfl⟩ := Int.eq_ofNat_of_zero_le h.1
  have hd : ∀ n : Fin 95, IntKind.u8.wrap (IntKind.i64.wrap (((BitVec.ofInt IntKind.i64.bits ((n.val : Nat) : Int) &&& BitVec.ofInt IntKind.i64.bits 31).toNat : Nat) : Int)) = ((n.val : Nat) : Int) % 32 := by decide +kernel
  exact hd ⟨n, by omega⟩
theorem shr_5 {x : Int} (h : 0 ≤ x ∧ x ≤ 94) : IntKind.u8.wrap (x.fdiv (2 ^ Nat.min 5 IntKind.i64.bits)) = x / 32 := by
  have e : x.fdiv (2 ^ Nat.min 5 IntKind.i64.bits) = x / 32 := by
    show x.fdiv (2 ^ (Nat.min 5 64)) = x / 32
    rw [show Nat.min 5 64 = 5 from rfl, Int.fdiv_eq_ediv_of_nonneg _ (by decide)]
    rfl
  rw [e, wrap_u8]; omega
end Go.Proofs
