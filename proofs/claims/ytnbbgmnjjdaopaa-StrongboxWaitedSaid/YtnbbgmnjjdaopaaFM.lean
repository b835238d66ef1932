/- The law StrongboxWaited: its walk. -/
import Derived.Test.YtnbbgmnjjdaopaaFL
set_option linter.unusedSimpArgs false
set_option linter.unusedVariables false
set_option linter.constructorNameAsVariable false
namespace Go.Proofs
open Go.Vc Go.Proofs.Fees
set_option maxRecDepth 10000

def idC (b : Int) : Array Value := #[.int .u8 b] ++ (#[.int .u8 1] ++ zc [(30, .int .u8 0)])
theorem idC_HK (b : Int) : HK (idC b) := by simp [HK, idC, zc, runs, skR, conf, SK.ok, List.replicate_succ]
theorem idC_size (b : Int) : (idC b).size = 32 := by simp [idC, size_zc]

theorem BOK_hits {h : Int} : ∀ {ids : List (Array Value)} {c : List Int} {ws : List WE}, BOK ws → BOK (hits h ids c ws).2
  | [], _, _, hB => hB
  | k :: ids, c, ws, hB => by
    simp only [hits]
    split
    · exact BOK_hits hB
    · exact BOK_hits (BOK_del hB)

structure MineW (w0 w : World) (n b : Nat) (m : Option Nat) (cnt : List Int) (ws : List WE) : Prop where
  mine : Mine w0 w b m cnt ws
  good : Good (1000 * n) cnt
  bok : BOK ws
theorem MineW.keep {w0 w w' : World} {n b : Nat} {m : Option Nat} {cnt : List Int} {ws : List WE} (h : MineW w0 w n b m cnt ws) (hE : Ext w w') : MineW w0 w' n b m cnt ws := ⟨h.mine.keep hE, h.good, h.bok⟩
theorem MineW.at54 {w0 w w' : World} {n b p : Nat} {m : Option Nat} {cnt : List Int} {ws : List WE} {c0 : Array Value} (h : MineW w0 w n b m cnt ws) (hp : w.heap[p]? = some (.cells c0 54 (0, 0))) (hk : Keep (Own b m) w w') : w'.heap[p]? = some (.cells c0 54 (0, 0)) := by
  refine hk.at hp ?_
  rintro (rfl | ho)
  · have := h.mine.book.1; rw [hp] at this; cases this
  · subst ho
    obtain ⟨es, c, hr, _⟩ := h.mine.book.2.2.1
    rw [hp] at hr; cases hr

/-- The sums, told at the end. -/
def sumF (A : Nat → Int) (x : Int) : Nat → Int
  | 0 => 0
  | n + 1 => if x ≤ 1000 * 2 ^ n then sumF A x n + A n else sumF A x n
theorem sumF_pre (A : Nat → Int) (k : Nat) : ∀ n, sumF A (1000 * 2 ^ k) n = if k ≤ n then preF A n - preF A k else 0
  | 0 => by
    simp only [sumF]
    split
    · rename_i h
      have : k = 0 := by omega
      subst this; omega
    · rfl
  | n + 1 => by
    have ih := sumF_pre A k n
    simp only [sumF]
    by_cases h : k ≤ n
    · rw [if_pos (pow_le_iff.2 h), ih, if_pos h, if_pos (by omega)]
      simp only [preF]; omega
    · rw [if_neg (fun h' => h (pow_le_iff.1 h')), ih, if_neg h]
      split
      · have : k = n + 1 := by omega
        subst this; omega
      · rfl

theorem waited_end (w w0 : World) (b : Nat) (m : Option Nat) (cnt : List Int) (ws : List WE) (t pc : Int) (a0 a1 : Value) (tl : Env) (hM : MineW w w0 60 b m cnt ws) :
    W Try.prog (Ret fun u w' => u = .bool true ∧ Ext w w') 7 18 ((0, a0) :: (1, a1) :: (7, .int .i64 t) :: (8, .int .i64 pc) :: (9, .pointer (some ⟨b, 0, none⟩)) :: tl) w0 := by
  have hbk := hM.mine.book
  (refine W_at c7_ok ?_; refine ⟨_, rfl, ?_⟩; simp (disch := first | omega | assumption | rfl | (simp only [vcS] <;> omega) | fail) only [↓vcA, vcB, ↓reduceIte, Nat.reduceEqDiff, Nat.reduceAdd, Nat.reduceMul, Nat.reduceLeDiff, Int.reduceLE, Int.reduceLT, Int.reduceEq, Int.reduceToNat, Int.reduceAdd, Int.reduceSub, Int.reduceMul, Int.reduceNeg, reduceCtorEq, Option.bind_some, Option.map_some, List.length_cons, List.length_nil, vcM, List.getElem?_toArray, List.getElem?_cons_zero, List.getElem?_cons_succ])
  refine callV_ret (est_ok w0 b cnt m ws t pc hbk) ?_
  rintro _ w4 ⟨rfl, hw⟩
  obtain rfl : w0 = w4 := hw.symm
  have hA : ∀ i, i < 24 → 0 ≤ cnt.getD (i * 13) 0 ∧ cnt.getD (i * 13) 0 ≤ 2400000 := fun i hi => by
    have h5 := hM.good.top i hi; have h6 := hM.good.le i 0 hi (by omega); omega
  by_cases hb : t < 1 ∨ 12 < t ∨ pc < 1 ∨ 100 < pc
  · rw [estR, if_pos hb]
    simp (disch := first | omega | assumption | rfl | (simp only [vcS] <;> omega) | fail) only [↓vcA, vcB, ↓reduceIte, Nat.reduceEqDiff, Nat.reduceAdd, Nat.reduceMul, Nat.reduceLeDiff, Int.reduceLE, Int.reduceLT, Int.reduceEq, Int.reduceToNat, Int.reduceAdd, Int.reduceSub, Int.reduceMul, Int.reduceNeg, reduceCtorEq, Option.bind_some, Option.map_some, List.length_cons, List.length_nil, vcM, List.getElem?_toArray, List.getElem?_cons_zero, List.getElem?_cons_succ]
    (refine W_at c7_ok ?_; refine ⟨_, rfl, ?_⟩; simp (disch := first | omega | assumption | rfl | (simp only [vcS] <;> omega) | fail) only [↓vcA, vcB, ↓reduceIte, Nat.reduceEqDiff, Nat.reduceAdd, Nat.reduceMul, Nat.reduceLeDiff, Int.reduceLE, Int.reduceLT, Int.reduceEq, Int.reduceToNat, Int.reduceAdd, Int.reduceSub, Int.reduceMul, Int.reduceNeg, reduceCtorEq, Option.bind_some, Option.map_some, List.length_cons, List.length_nil, vcM, List.getElem?_toArray, List.getElem?_cons_zero, List.getElem?_cons_succ])
    (refine W_at c7_ok ?_; refine ⟨_, rfl, ?_⟩; simp (disch := first | omega | assumption | rfl | (simp only [vcS] <;> omega) | fail) only [↓vcA, vcB, ↓reduceIte, Nat.reduceEqDiff, Nat.reduceAdd, Nat.reduceMul, Nat.reduceLeDiff, Int.reduceLE, Int.reduceLT, Int.reduceEq, Int.reduceToNat, Int.reduceAdd, Int.reduceSub, Int.reduceMul, Int.reduceNeg, reduceCtorEq, Option.bind_some, Option.map_some, List.length_cons, List.length_nil, vcM, List.getElem?_toArray, List.getElem?_cons_zero, List.getElem?_cons_succ])
    by_cases h1 : t < 1
    · (refine W_at c7_ok ?_; refine ⟨_, rfl, ?_⟩; simp (disch := first | omega | assumption | rfl | (simp only [vcS] <;> omega) | fail) only [↓vcA, vcB, ↓reduceIte, Nat.reduceEqDiff, Nat.reduceAdd, Nat.reduceMul, Nat.reduceLeDiff, Int.reduceLE, Int.reduceLT, Int.reduceEq, Int.reduceToNat, Int.reduceAdd, Int.reduceSub, Int.reduceMul, Int.reduceNeg, reduceCtorEq, Option.bind_some, Option.map_some, List.length_cons, List.length_nil, vcM, List.getElem?_toArray, List.getElem?_cons_zero, List.getElem?_cons_succ, h1]); (refine W_at c7_ok ?_; refine ⟨_, rfl, ?_⟩; simp (disch := first | omega | assumption | rfl | (simp only [vcS] <;> omega) | fail) only [↓vcA, vcB, ↓reduceIte, Nat.reduceEqDiff, Nat.reduceAdd, Nat.reduceMul, Nat.reduceLeDiff, Int.reduceLE, Int.reduceLT, Int.reduceEq, Int.reduceToNat, Int.reduceAdd, Int.reduceSub, Int.reduceMul, Int.reduceNeg, reduceCtorEq, Option.bind_some, Option.map_some, List.length_cons, List.length_nil, vcM, List.getElem?_toArray, List.getElem?_cons_zero, List.getElem?_cons_succ, Ret_returned])
      exact ⟨rfl, hM.mine.ext⟩
    by_cases h2 : 12 < t
    · (refine W_at c7_ok ?_; refine ⟨_, rfl, ?_⟩; simp (disch := first | omega | assumption | rfl | (simp only [vcS] <;> omega) | fail) only [↓vcA, vcB, ↓reduceIte, Nat.reduceEqDiff, Nat.reduceAdd, Nat.reduceMul, Nat.reduceLeDiff, Int.reduceLE, Int.reduceLT, Int.reduceEq, Int.reduceToNat, Int.reduceAdd, Int.reduceSub, Int.reduceMul, Int.reduceNeg, reduceCtorEq, Option.bind_some, Option.map_some, List.length_cons, List.length_nil, vcM, List.getElem?_toArray, List.getElem?_cons_zero, List.getElem?_cons_succ, h1, h2]); (refine W_at c7_ok ?_; refine ⟨_, rfl, ?_⟩; simp (disch := first | omega | assumption | rfl | (simp only [vcS] <;> omega) | fail) only [↓vcA, vcB, ↓reduceIte, Nat.reduceEqDiff, Nat.reduceAdd, Nat.reduceMul, Nat.reduceLeDiff, Int.reduceLE, Int.reduceLT, Int.reduceEq, Int.reduceToNat, Int.reduceAdd, Int.reduceSub, Int.reduceMul, Int.reduceNeg, reduceCtorEq, Option.bind_some, Option.map_some, List.length_cons, List.length_nil, vcM, List.getElem?_toArray, List.getElem?_cons_zero, List.getElem?_cons_succ, Ret_returned])
      exact ⟨rfl, hM.mine.ext⟩
    by_cases h3 : pc < 1
    · (refine W_at c7_ok ?_; refine ⟨_, rfl, ?_⟩; simp (disch := first | omega | assumption | rfl | (simp only [vcS] <;> omega) | fail) only [↓vcA, vcB, ↓reduceIte, Nat.reduceEqDiff, Nat.reduceAdd, Nat.reduceMul, Nat.reduceLeDiff, Int.reduceLE, Int.reduceLT, Int.reduceEq, Int.reduceToNat, Int.reduceAdd, Int.reduceSub, Int.reduceMul, Int.reduceNeg, reduceCtorEq, Option.bind_some, Option.map_some, List.length_cons, List.length_nil, vcM, List.getElem?_toArray, List.getElem?_cons_zero, List.getElem?_cons_succ, h1, h2, h3]); (refine W_at c7_ok ?_; refine ⟨_, rfl, ?_⟩; simp (disch := first | omega | assumption | rfl | (simp only [vcS] <;> omega) | fail) only [↓vcA, vcB, ↓reduceIte, Nat.reduceEqDiff, Nat.reduceAdd, Nat.reduceMul, Nat.reduceLeDiff, Int.reduceLE, Int.reduceLT, Int.reduceEq, Int.reduceToNat, Int.reduceAdd, Int.reduceSub, Int.reduceMul, Int.reduceNeg, reduceCtorEq, Option.bind_some, Option.map_some, List.length_cons, List.length_nil, vcM, List.getElem?_toArray, List.getElem?_cons_zero, List.getElem?_cons_succ, Ret_returned])
      exact ⟨rfl, hM.mine.ext⟩
    have h4 : 100 < pc := by omega
    (refine W_at c7_ok ?_; refine ⟨_, rfl, ?_⟩; simp (disch := first | omega | assumption | rfl | (simp only [vcS] <;> omega) | fail) only [↓vcA, vcB, ↓reduceIte, Nat.reduceEqDiff, Nat.reduceAdd, Nat.reduceMul, Nat.reduceLeDiff, Int.reduceLE, Int.reduceLT, Int.reduceEq, Int.reduceToNat, Int.reduceAdd, Int.reduceSub, Int.reduceMul, Int.reduceNeg, reduceCtorEq, Option.bind_some, Option.map_some, List.length_cons, List.length_nil, vcM, List.getElem?_toArray, List.getElem?_cons_zero, List.getElem?_cons_succ, h1, h2, h3, h4]); (refine W_at c7_ok ?_; refine ⟨_, rfl, ?_⟩; simp (disch := first | omega | assumption | rfl | (simp only [vcS] <;> omega) | fail) only [↓vcA, vcB, ↓reduceIte, Nat.reduceEqDiff, Nat.reduceAdd, Nat.reduceMul, Nat.reduceLeDiff, Int.reduceLE, Int.reduceLT, Int.reduceEq, Int.reduceToNat, Int.reduceAdd, Int.reduceSub, Int.reduceMul, Int.reduceNeg, reduceCtorEq, Option.bind_some, Option.map_some, List.length_cons, List.length_nil, vcM, List.getElem?_toArray, List.getElem?_cons_zero, List.getElem?_cons_succ, Ret_returned])
    exact ⟨rfl, hM.mine.ext⟩
  · have hB : ∀ i, i < 24 → 0 ≤ cnt.getD (i * 13 + t.toNat) 0 ∧ cnt.getD (i * 13 + t.toNat) 0 ≤ 2400000 := fun i hi => by
      have h5 := hM.good.le i (t.toNat - 1) hi (by omega)
      rw [show i * 13 + 1 + (t.toNat - 1) = i * 13 + t.toNat by omega] at h5
      have := hA i hi; omega
    rw [estR, if_neg hb]
    have hs := estF_sum (A := fun k => cnt.getD (k * 13) 0) (B := fun k => cnt.getD (k * 13 + t.toNat) 0) (pc := pc) hA hB (by omega) (by omega) 24 0 0 0 24 (Nat.le_refl _) (Nat.le_refl _) (.inl ⟨rfl, rfl⟩) (by simp) (by omega) (by omega)
    generalize estF (fun k => cnt.getD (k * 13) 0) (fun k => cnt.getD (k * 13 + t.toNat) 0) pc 24 0 0 0 = x at hs ⊢
    obtain ⟨k', hx, hp⟩ := hs
    have h1 : ¬ t < 1 := by omega
    have h2 : ¬ 12 < t := by omega
    have h3 : ¬ pc < 1 := by omega
    have h4 : ¬ 100 < pc := by omega
    simp (disch := first | omega | assumption | rfl | (simp only [vcS] <;> omega) | fail) only [↓vcA, vcB, ↓reduceIte, Nat.reduceEqDiff, Nat.reduceAdd, Nat.reduceMul, Nat.reduceLeDiff, Int.reduceLE, Int.reduceLT, Int.reduceEq, Int.reduceToNat, Int.reduceAdd, Int.reduceSub, Int.reduceMul, Int.reduceNeg, reduceCtorEq, Option.bind_some, Option.map_some, List.length_cons, List.length_nil, vcM, List.getElem?_toArray, List.getElem?_cons_zero, List.getElem?_cons_succ]
    rcases hx with ⟨hx, _⟩ | ⟨hx, hk', h2000⟩
    · subst hx
      have h7 : estE 0 = 7 := rfl
      rw [h7]
      (refine W_at c7_ok ?_; refine ⟨_, rfl, ?_⟩; simp (disch := first | omega | assumption | rfl | (simp only [vcS] <;> omega) | fail) only [↓vcA, vcB, ↓reduceIte, Nat.reduceEqDiff, Nat.reduceAdd, Nat.reduceMul, Nat.reduceLeDiff, Int.reduceLE, Int.reduceLT, Int.reduceEq, Int.reduceToNat, Int.reduceAdd, Int.reduceSub, Int.reduceMul, Int.reduceNeg, reduceCtorEq, Option.bind_some, Option.map_some, List.length_cons, List.length_nil, vcM, List.getElem?_toArray, List.getElem?_cons_zero, List.getElem?_cons_succ])
      (refine W_at c7_ok ?_; refine ⟨_, rfl, ?_⟩; simp (disch := first | omega | assumption | rfl | (simp only [vcS] <;> omega) | fail) only [↓vcA, vcB, ↓reduceIte, Nat.reduceEqDiff, Nat.reduceAdd, Nat.reduceMul, Nat.reduceLeDiff, Int.reduceLE, Int.reduceLT, Int.reduceEq, Int.reduceToNat, Int.reduceAdd, Int.reduceSub, Int.reduceMul, Int.reduceNeg, reduceCtorEq, Option.bind_some, Option.map_some, List.length_cons, List.length_nil, vcM, List.getElem?_toArray, List.getElem?_cons_zero, List.getElem?_cons_succ])
      (refine W_at c7_ok ?_; refine ⟨_, rfl, ?_⟩; simp (disch := first | omega | assumption | rfl | (simp only [vcS] <;> omega) | fail) only [↓vcA, vcB, ↓reduceIte, Nat.reduceEqDiff, Nat.reduceAdd, Nat.reduceMul, Nat.reduceLeDiff, Int.reduceLE, Int.reduceLT, Int.reduceEq, Int.reduceToNat, Int.reduceAdd, Int.reduceSub, Int.reduceMul, Int.reduceNeg, reduceCtorEq, Option.bind_some, Option.map_some, List.length_cons, List.length_nil, vcM, List.getElem?_toArray, List.getElem?_cons_zero, List.getElem?_cons_succ, h1, h2, h3, h4]); (refine W_at c7_ok ?_; refine ⟨_, rfl, ?_⟩; simp (disch := first | omega | assumption | rfl | (simp only [vcS] <;> omega) | fail) only [↓vcA, vcB, ↓reduceIte, Nat.reduceEqDiff, Nat.reduceAdd, Nat.reduceMul, Nat.reduceLeDiff, Int.reduceLE, Int.reduceLT, Int.reduceEq, Int.reduceToNat, Int.reduceAdd, Int.reduceSub, Int.reduceMul, Int.reduceNeg, reduceCtorEq, Option.bind_some, Option.map_some, List.length_cons, List.length_nil, vcM, List.getElem?_toArray, List.getElem?_cons_zero, List.getElem?_cons_succ, Ret_returned])
      exact ⟨rfl, hM.mine.ext⟩
    · have hx0 : x ≠ 0 := by have := pow_pos2 k'; omega
      have h7 : estE x = 0 := by unfold estE; rw [if_neg hx0]
      rw [h7]
      (refine W_at c7_ok ?_; refine ⟨_, rfl, ?_⟩; simp (disch := first | omega | assumption | rfl | (simp only [vcS] <;> omega) | fail) only [↓vcA, vcB, ↓reduceIte, Nat.reduceEqDiff, Nat.reduceAdd, Nat.reduceMul, Nat.reduceLeDiff, Int.reduceLE, Int.reduceLT, Int.reduceEq, Int.reduceToNat, Int.reduceAdd, Int.reduceSub, Int.reduceMul, Int.reduceNeg, reduceCtorEq, Option.bind_some, Option.map_some, List.length_cons, List.length_nil, vcM, List.getElem?_toArray, List.getElem?_cons_zero, List.getElem?_cons_succ])
      (refine W_at c7_ok ?_; refine ⟨_, rfl, ?_⟩; simp (disch := first | omega | assumption | rfl | (simp only [vcS] <;> omega) | fail) only [↓vcA, vcB, ↓reduceIte, Nat.reduceEqDiff, Nat.reduceAdd, Nat.reduceMul, Nat.reduceLeDiff, Int.reduceLE, Int.reduceLT, Int.reduceEq, Int.reduceToNat, Int.reduceAdd, Int.reduceSub, Int.reduceMul, Int.reduceNeg, reduceCtorEq, Option.bind_some, Option.map_some, List.length_cons, List.length_nil, vcM, List.getElem?_toArray, List.getElem?_cons_zero, List.getElem?_cons_succ])
      (refine W_at c7_ok ?_; refine ⟨_, rfl, ?_⟩; simp (disch := first | omega | assumption | rfl | (simp only [vcS] <;> omega) | fail) only [↓vcA, vcB, ↓reduceIte, Nat.reduceEqDiff, Nat.reduceAdd, Nat.reduceMul, Nat.reduceLeDiff, Int.reduceLE, Int.reduceLT, Int.reduceEq, Int.reduceToNat, Int.reduceAdd, Int.reduceSub, Int.reduceMul, Int.reduceNeg, reduceCtorEq, Option.bind_some, Option.map_some, List.length_cons, List.length_nil, vcM, List.getElem?_toArray, List.getElem?_cons_zero, List.getElem?_cons_succ])
      (refine W_at c7_ok ?_; refine ⟨_, rfl, ?_⟩; simp (disch := first | omega | assumption | rfl | (simp only [vcS] <;> omega) | fail) only [↓vcA, vcB, ↓reduceIte, Nat.reduceEqDiff, Nat.reduceAdd, Nat.reduceMul, Nat.reduceLeDiff, Int.reduceLE, Int.reduceLT, Int.reduceEq, Int.reduceToNat, Int.reduceAdd, Int.reduceSub, Int.reduceMul, Int.reduceNeg, reduceCtorEq, Option.bind_some, Option.map_some, List.length_cons, List.length_nil, vcM, List.getElem?_toArray, List.getElem?_cons_zero, List.getElem?_cons_succ])
      have L : ∀ (n k : Nat), n + k = 24 → W Try.prog (Ret fun u w' => u = .bool true ∧ Ext w w') 7 11
          [(7, .int .i64 t), (8, .int .i64 pc), (9, .pointer (some ⟨b, 0, none⟩)), (12, .int .i64 x), (14, .int .i64 (sumF (fun k => cnt.getD (k * 13) 0) x k)), (15, .int .i64 (sumF (fun k => cnt.getD (k * 13 + t.toNat) 0) x k)), (16, .int .i64 (1000 * 2 ^ k)), (17, .int .i64 k)] w0 := by
        intro n
        induction n with
        | zero =>
          intro k hk
          have hk24 : k = 24 := by omega
          subst hk24
          have hlt : ¬ ((24 : Nat) : Int) < 24 := by omega
          rw [hx, sumF_pre, sumF_pre, if_pos (by omega), if_pos (by omega)]
          generalize hSA : preF (fun k => cnt.getD (k * 13) 0) 24 - preF (fun k => cnt.getD (k * 13) 0) k' = SA at hp h2000
          generalize hSB : preF (fun k => cnt.getD (k * 13 + t.toNat) 0) 24 - preF (fun k => cnt.getD (k * 13 + t.toNat) 0) k' = SB at hp
          have hSA' := preF_le hA (k := k') (n := 24) (by omega) (by omega)
          have hSB' := preF_le hB (k := k') (n := 24) (by omega) (by omega)
          rw [hSA] at hSA'
          rw [hSB] at hSB'
          have hw1 : IntKind.i64.wrap (SB * 100) = SB * 100 := wrap_i64 (by omega) (by omega)
          have hm1 : pc * SA ≤ 100 * SA := Int.mul_le_mul_of_nonneg_right (by omega) hSA'.1
          have hm3 : 1 * SA ≤ pc * SA := Int.mul_le_mul_of_nonneg_right (by omega) hSA'.1
          have hw2 : IntKind.i64.wrap (pc * SA) = pc * SA := wrap_i64 (by omega) (by omega)
          have hle : pc * SA ≤ SB * 100 := by omega
          (refine W_at c7_ok ?_; refine ⟨_, rfl, ?_⟩; simp (disch := first | omega | assumption | rfl | (simp only [vcS] <;> omega) | fail) only [↓vcA, vcB, ↓reduceIte, Nat.reduceEqDiff, Nat.reduceAdd, Nat.reduceMul, Nat.reduceLeDiff, Int.reduceLE, Int.reduceLT, Int.reduceEq, Int.reduceToNat, Int.reduceAdd, Int.reduceSub, Int.reduceMul, Int.reduceNeg, reduceCtorEq, Option.bind_some, Option.map_some, List.length_cons, List.length_nil, vcM, List.getElem?_toArray, List.getElem?_cons_zero, List.getElem?_cons_succ, hlt])
          (refine W_at c7_ok ?_; refine ⟨_, rfl, ?_⟩; simp (disch := first | omega | assumption | rfl | (simp only [vcS] <;> omega) | fail) only [↓vcA, vcB, ↓reduceIte, Nat.reduceEqDiff, Nat.reduceAdd, Nat.reduceMul, Nat.reduceLeDiff, Int.reduceLE, Int.reduceLT, Int.reduceEq, Int.reduceToNat, Int.reduceAdd, Int.reduceSub, Int.reduceMul, Int.reduceNeg, reduceCtorEq, Option.bind_some, Option.map_some, List.length_cons, List.length_nil, vcM, List.getElem?_toArray, List.getElem?_cons_zero, List.getElem?_cons_succ])
          (refine W_at c7_ok ?_; refine ⟨_, rfl, ?_⟩; simp (disch := first | omega | assumption | rfl | (simp only [vcS] <;> omega) | fail) only [↓vcA, vcB, ↓reduceIte, Nat.reduceEqDiff, Nat.reduceAdd, Nat.reduceMul, Nat.reduceLeDiff, Int.reduceLE, Int.reduceLT, Int.reduceEq, Int.reduceToNat, Int.reduceAdd, Int.reduceSub, Int.reduceMul, Int.reduceNeg, reduceCtorEq, Option.bind_some, Option.map_some, List.length_cons, List.length_nil, vcM, List.getElem?_toArray, List.getElem?_cons_zero, List.getElem?_cons_succ, h2000, hw1, hw2, hle])
          (refine W_at c7_ok ?_; refine ⟨_, rfl, ?_⟩; simp (disch := first | omega | assumption | rfl | (simp only [vcS] <;> omega) | fail) only [↓vcA, vcB, ↓reduceIte, Nat.reduceEqDiff, Nat.reduceAdd, Nat.reduceMul, Nat.reduceLeDiff, Int.reduceLE, Int.reduceLT, Int.reduceEq, Int.reduceToNat, Int.reduceAdd, Int.reduceSub, Int.reduceMul, Int.reduceNeg, reduceCtorEq, Option.bind_some, Option.map_some, List.length_cons, List.length_nil, vcM, List.getElem?_toArray, List.getElem?_cons_zero, List.getElem?_cons_succ, Ret_returned])
          exact hM.mine.ext
        | succ n ih =>
          intro k hk
          have hlt : ((k : Nat) : Int) < 24 := by omega
          have hwk : IntKind.i64.wrap ((k : Int) + 1) = ((k + 1 : Nat) : Int) := wrap_i64 (by omega) (by omega)
          have hpw := pow_le23 (k := k) (by omega)
          have hw2 : IntKind.i64.wrap (1000 * 2 ^ k * 2) = 1000 * 2 ^ (k + 1) := by rw [Int.pow_succ, wrap_i64 (by omega) (by omega)]; omega
          (refine W_at c7_ok ?_; refine ⟨_, rfl, ?_⟩; simp (disch := first | omega | assumption | rfl | (simp only [vcS] <;> omega) | fail) only [↓vcA, vcB, ↓reduceIte, Nat.reduceEqDiff, Nat.reduceAdd, Nat.reduceMul, Nat.reduceLeDiff, Int.reduceLE, Int.reduceLT, Int.reduceEq, Int.reduceToNat, Int.reduceAdd, Int.reduceSub, Int.reduceMul, Int.reduceNeg, reduceCtorEq, Option.bind_some, Option.map_some, List.length_cons, List.length_nil, vcM, List.getElem?_toArray, List.getElem?_cons_zero, List.getElem?_cons_succ, hlt])
          (refine W_at c7_ok ?_; refine ⟨_, rfl, ?_⟩; simp (disch := first | omega | assumption | rfl | (simp only [vcS] <;> omega) | fail) only [↓vcA, vcB, ↓reduceIte, Nat.reduceEqDiff, Nat.reduceAdd, Nat.reduceMul, Nat.reduceLeDiff, Int.reduceLE, Int.reduceLT, Int.reduceEq, Int.reduceToNat, Int.reduceAdd, Int.reduceSub, Int.reduceMul, Int.reduceNeg, reduceCtorEq, Option.bind_some, Option.map_some, List.length_cons, List.length_nil, vcM, List.getElem?_toArray, List.getElem?_cons_zero, List.getElem?_cons_succ])
          by_cases hge : x ≤ 1000 * 2 ^ k
          · have hkk : k' ≤ k := by rw [hx] at hge; exact pow_le_iff.1 hge
            have e1 : ∀ A : Nat → Int, sumF A x (k + 1) = sumF A x k + A k := fun A => by simp only [sumF, if_pos hge]
            have hs1 := preF_le hA (k := k') (n := k) hkk (by omega)
            have hs2 := preF_le hB (k := k') (n := k) hkk (by omega)
            have hA2 := hA k (by omega)
            have hB2 := hB k (by omega)
            have hwa : IntKind.i64.wrap (sumF (fun k => cnt.getD (k * 13) 0) x k + cnt.getD (k * 13) 0) = sumF (fun k => cnt.getD (k * 13) 0) x (k + 1) := by
              rw [e1, hx, sumF_pre, if_pos hkk]; exact wrap_i64 (by omega) (by omega)
            have hwb : IntKind.i64.wrap (sumF (fun k => cnt.getD (k * 13 + t.toNat) 0) x k + cnt.getD (k * 13 + t.toNat) 0) = sumF (fun k => cnt.getD (k * 13 + t.toNat) 0) x (k + 1) := by
              rw [e1, hx, sumF_pre, if_pos hkk]; exact wrap_i64 (by omega) (by omega)
            (refine W_at c7_ok ?_; refine ⟨_, rfl, ?_⟩; simp (disch := first | omega | assumption | rfl | (simp only [vcS] <;> omega) | fail) only [↓vcA, vcB, ↓reduceIte, Nat.reduceEqDiff, Nat.reduceAdd, Nat.reduceMul, Nat.reduceLeDiff, Int.reduceLE, Int.reduceLT, Int.reduceEq, Int.reduceToNat, Int.reduceAdd, Int.reduceSub, Int.reduceMul, Int.reduceNeg, reduceCtorEq, Option.bind_some, Option.map_some, List.length_cons, List.length_nil, vcM, List.getElem?_toArray, List.getElem?_cons_zero, List.getElem?_cons_succ, hge])
            (refine W_at c7_ok ?_; refine ⟨_, rfl, ?_⟩; simp (disch := first | omega | assumption | rfl | (simp only [vcS] <;> omega) | fail) only [↓vcA, vcB, ↓reduceIte, Nat.reduceEqDiff, Nat.reduceAdd, Nat.reduceMul, Nat.reduceLeDiff, Int.reduceLE, Int.reduceLT, Int.reduceEq, Int.reduceToNat, Int.reduceAdd, Int.reduceSub, Int.reduceMul, Int.reduceNeg, reduceCtorEq, Option.bind_some, Option.map_some, List.length_cons, List.length_nil, vcM, List.getElem?_toArray, List.getElem?_cons_zero, List.getElem?_cons_succ])
            (refine W_at c7_ok ?_; refine ⟨_, rfl, ?_⟩; simp (disch := first | omega | assumption | rfl | (simp only [vcS] <;> omega) | fail) only [↓vcA, vcB, ↓reduceIte, Nat.reduceEqDiff, Nat.reduceAdd, Nat.reduceMul, Nat.reduceLeDiff, Int.reduceLE, Int.reduceLT, Int.reduceEq, Int.reduceToNat, Int.reduceAdd, Int.reduceSub, Int.reduceMul, Int.reduceNeg, reduceCtorEq, Option.bind_some, Option.map_some, List.length_cons, List.length_nil, vcM, List.getElem?_toArray, List.getElem?_cons_zero, List.getElem?_cons_succ])
            refine callV_ret (all_ok w0 b cnt m ws k hbk) ?_
            rintro _ w4 ⟨rfl, hw⟩
            obtain rfl : w0 = w4 := hw.symm
            rw [if_pos (by omega)]
            simp (disch := first | omega | assumption | rfl | (simp only [vcS] <;> omega) | fail) only [↓vcA, vcB, ↓reduceIte, Nat.reduceEqDiff, Nat.reduceAdd, Nat.reduceMul, Nat.reduceLeDiff, Int.reduceLE, Int.reduceLT, Int.reduceEq, Int.reduceToNat, Int.reduceAdd, Int.reduceSub, Int.reduceMul, Int.reduceNeg, reduceCtorEq, Option.bind_some, Option.map_some, List.length_cons, List.length_nil, vcM, List.getElem?_toArray, List.getElem?_cons_zero, List.getElem?_cons_succ, Int.toNat_natCast, hwa]
            (refine W_at c7_ok ?_; refine ⟨_, rfl, ?_⟩; simp (disch := first | omega | assumption | rfl | (simp only [vcS] <;> omega) | fail) only [↓vcA, vcB, ↓reduceIte, Nat.reduceEqDiff, Nat.reduceAdd, Nat.reduceMul, Nat.reduceLeDiff, Int.reduceLE, Int.reduceLT, Int.reduceEq, Int.reduceToNat, Int.reduceAdd, Int.reduceSub, Int.reduceMul, Int.reduceNeg, reduceCtorEq, Option.bind_some, Option.map_some, List.length_cons, List.length_nil, vcM, List.getElem?_toArray, List.getElem?_cons_zero, List.getElem?_cons_succ])
            refine callV_ret (within_ok w0 b cnt m ws k t hbk) ?_
            rintro _ w4 ⟨rfl, hw⟩
            obtain rfl : w0 = w4 := hw.symm
            rw [if_pos (by omega)]
            simp (disch := first | omega | assumption | rfl | (simp only [vcS] <;> omega) | fail) only [↓vcA, vcB, ↓reduceIte, Nat.reduceEqDiff, Nat.reduceAdd, Nat.reduceMul, Nat.reduceLeDiff, Int.reduceLE, Int.reduceLT, Int.reduceEq, Int.reduceToNat, Int.reduceAdd, Int.reduceSub, Int.reduceMul, Int.reduceNeg, reduceCtorEq, Option.bind_some, Option.map_some, List.length_cons, List.length_nil, vcM, List.getElem?_toArray, List.getElem?_cons_zero, List.getElem?_cons_succ, Int.toNat_natCast, hwb]
            (refine W_at c7_ok ?_; refine ⟨_, rfl, ?_⟩; simp (disch := first | omega | assumption | rfl | (simp only [vcS] <;> omega) | fail) only [↓vcA, vcB, ↓reduceIte, Nat.reduceEqDiff, Nat.reduceAdd, Nat.reduceMul, Nat.reduceLeDiff, Int.reduceLE, Int.reduceLT, Int.reduceEq, Int.reduceToNat, Int.reduceAdd, Int.reduceSub, Int.reduceMul, Int.reduceNeg, reduceCtorEq, Option.bind_some, Option.map_some, List.length_cons, List.length_nil, vcM, List.getElem?_toArray, List.getElem?_cons_zero, List.getElem?_cons_succ, hw2])
            (refine W_at c7_ok ?_; refine ⟨_, rfl, ?_⟩; simp (disch := first | omega | assumption | rfl | (simp only [vcS] <;> omega) | fail) only [↓vcA, vcB, ↓reduceIte, Nat.reduceEqDiff, Nat.reduceAdd, Nat.reduceMul, Nat.reduceLeDiff, Int.reduceLE, Int.reduceLT, Int.reduceEq, Int.reduceToNat, Int.reduceAdd, Int.reduceSub, Int.reduceMul, Int.reduceNeg, reduceCtorEq, Option.bind_some, Option.map_some, List.length_cons, List.length_nil, vcM, List.getElem?_toArray, List.getElem?_cons_zero, List.getElem?_cons_succ, hwk])
            (refine W_at c7_ok ?_; refine ⟨_, rfl, ?_⟩; simp (disch := first | omega | assumption | rfl | (simp only [vcS] <;> omega) | fail) only [↓vcA, vcB, ↓reduceIte, Nat.reduceEqDiff, Nat.reduceAdd, Nat.reduceMul, Nat.reduceLeDiff, Int.reduceLE, Int.reduceLT, Int.reduceEq, Int.reduceToNat, Int.reduceAdd, Int.reduceSub, Int.reduceMul, Int.reduceNeg, reduceCtorEq, Option.bind_some, Option.map_some, List.length_cons, List.length_nil, vcM, List.getElem?_toArray, List.getElem?_cons_zero, List.getElem?_cons_succ])
            exact ih (k + 1) (by omega)
          · have e1 : ∀ A : Nat → Int, sumF A x (k + 1) = sumF A x k := fun A => by simp only [sumF, if_neg hge]
            (refine W_at c7_ok ?_; refine ⟨_, rfl, ?_⟩; simp (disch := first | omega | assumption | rfl | (simp only [vcS] <;> omega) | fail) only [↓vcA, vcB, ↓reduceIte, Nat.reduceEqDiff, Nat.reduceAdd, Nat.reduceMul, Nat.reduceLeDiff, Int.reduceLE, Int.reduceLT, Int.reduceEq, Int.reduceToNat, Int.reduceAdd, Int.reduceSub, Int.reduceMul, Int.reduceNeg, reduceCtorEq, Option.bind_some, Option.map_some, List.length_cons, List.length_nil, vcM, List.getElem?_toArray, List.getElem?_cons_zero, List.getElem?_cons_succ, hge])
            (refine W_at c7_ok ?_; refine ⟨_, rfl, ?_⟩; simp (disch := first | omega | assumption | rfl | (simp only [vcS] <;> omega) | fail) only [↓vcA, vcB, ↓reduceIte, Nat.reduceEqDiff, Nat.reduceAdd, Nat.reduceMul, Nat.reduceLeDiff, Int.reduceLE, Int.reduceLT, Int.reduceEq, Int.reduceToNat, Int.reduceAdd, Int.reduceSub, Int.reduceMul, Int.reduceNeg, reduceCtorEq, Option.bind_some, Option.map_some, List.length_cons, List.length_nil, vcM, List.getElem?_toArray, List.getElem?_cons_zero, List.getElem?_cons_succ])
            (refine W_at c7_ok ?_; refine ⟨_, rfl, ?_⟩; simp (disch := first | omega | assumption | rfl | (simp only [vcS] <;> omega) | fail) only [↓vcA, vcB, ↓reduceIte, Nat.reduceEqDiff, Nat.reduceAdd, Nat.reduceMul, Nat.reduceLeDiff, Int.reduceLE, Int.reduceLT, Int.reduceEq, Int.reduceToNat, Int.reduceAdd, Int.reduceSub, Int.reduceMul, Int.reduceNeg, reduceCtorEq, Option.bind_some, Option.map_some, List.length_cons, List.length_nil, vcM, List.getElem?_toArray, List.getElem?_cons_zero, List.getElem?_cons_succ, hw2])
            (refine W_at c7_ok ?_; refine ⟨_, rfl, ?_⟩; simp (disch := first | omega | assumption | rfl | (simp only [vcS] <;> omega) | fail) only [↓vcA, vcB, ↓reduceIte, Nat.reduceEqDiff, Nat.reduceAdd, Nat.reduceMul, Nat.reduceLeDiff, Int.reduceLE, Int.reduceLT, Int.reduceEq, Int.reduceToNat, Int.reduceAdd, Int.reduceSub, Int.reduceMul, Int.reduceNeg, reduceCtorEq, Option.bind_some, Option.map_some, List.length_cons, List.length_nil, vcM, List.getElem?_toArray, List.getElem?_cons_zero, List.getElem?_cons_succ, hwk])
            (refine W_at c7_ok ?_; refine ⟨_, rfl, ?_⟩; simp (disch := first | omega | assumption | rfl | (simp only [vcS] <;> omega) | fail) only [↓vcA, vcB, ↓reduceIte, Nat.reduceEqDiff, Nat.reduceAdd, Nat.reduceMul, Nat.reduceLeDiff, Int.reduceLE, Int.reduceLT, Int.reduceEq, Int.reduceToNat, Int.reduceAdd, Int.reduceSub, Int.reduceMul, Int.reduceNeg, reduceCtorEq, Option.bind_some, Option.map_some, List.length_cons, List.length_nil, vcM, List.getElem?_toArray, List.getElem?_cons_zero, List.getElem?_cons_succ])
            have := ih (k + 1) (by omega)
            rw [e1, e1] at this
            exact this
      exact L 24 0 (by omega)

set_option maxHeartbeats 800000 in
/-- StrongboxWaited answers true. -/
theorem waited_ok (w : World) (q1 q2 : Option Addr) (n1 c1 n2 c2 : Nat) (rates waits : List Int) (t pc : Int)
    (h1l : rates.length = n1) (h1r : rdS w 1 (.slice q1 n1 c1) = some (rates.map (.int .i64)).toArray) (h2l : waits.length = n2) (h2r : rdS w 1 (.slice q2 n2 c2) = some (waits.map (.int .i64)).toArray) :
    Calls Try.prog 7 #[.slice q1 n1 c1, .slice q2 n2 c2, .agg #[.int .i64 t, .int .i64 pc]] w (Ret fun u w' => u = .bool true ∧ Ext w w') := by
  refine calls_of_cfg c7_ok (Nat.le_of_ble_eq_true rfl) ?_
  simp only [argE_nil, argE_cons, Nat.reduceAdd, Nat.zero_add]
  (refine W_at c7_ok ?_; refine ⟨_, rfl, ?_⟩; simp (disch := first | omega | assumption | rfl | (simp only [vcS] <;> omega) | fail) only [↓vcA, vcB, ↓reduceIte, Nat.reduceEqDiff, Nat.reduceAdd, Nat.reduceMul, Nat.reduceLeDiff, Int.reduceLE, Int.reduceLT, Int.reduceEq, Int.reduceToNat, Int.reduceAdd, Int.reduceSub, Int.reduceMul, Int.reduceNeg, reduceCtorEq, Option.bind_some, Option.map_some, List.length_cons, List.length_nil, vcM, List.getElem?_toArray, List.getElem?_cons_zero, List.getElem?_cons_succ])
  (refine W_at c7_ok ?_; refine ⟨_, rfl, ?_⟩; simp (disch := first | omega | assumption | rfl | (simp only [vcS] <;> omega) | fail) only [↓vcA, vcB, ↓reduceIte, Nat.reduceEqDiff, Nat.reduceAdd, Nat.reduceMul, Nat.reduceLeDiff, Int.reduceLE, Int.reduceLT, Int.reduceEq, Int.reduceToNat, Int.reduceAdd, Int.reduceSub, Int.reduceMul, Int.reduceNeg, reduceCtorEq, Option.bind_some, Option.map_some, List.length_cons, List.length_nil, vcM, List.getElem?_toArray, List.getElem?_cons_zero, List.getElem?_cons_succ])
  (refine W_at c7_ok ?_; refine ⟨_, rfl, ?_⟩; simp (disch := first | omega | assumption | rfl | (simp only [vcS] <;> omega) | fail) only [↓vcA, vcB, ↓reduceIte, Nat.reduceEqDiff, Nat.reduceAdd, Nat.reduceMul, Nat.reduceLeDiff, Int.reduceLE, Int.reduceLT, Int.reduceEq, Int.reduceToNat, Int.reduceAdd, Int.reduceSub, Int.reduceMul, Int.reduceNeg, reduceCtorEq, Option.bind_some, Option.map_some, List.length_cons, List.length_nil, vcM, List.getElem?_toArray, List.getElem?_cons_zero, List.getElem?_cons_succ])
  have hE1 : Ext w (w.alloc (Obj.cells #[Value.int IntKind.i64 t, Value.int IntKind.i64 pc] 53)).drew := by (repeat' first | exact Keep.refl _ _ | assumption | refine Keep.drew ?_ | refine Keep.alloc ?_ _ | refine Keep.putN ?_ _ ?_ | refine Keep.setCell ?_ _ ?_ | refine Keep.setO ?_ _ ?_ | exact fun _ => Or.inl rfl | exact fun _ => Or.inr rfl | exact fun _ => rfl | (intro hh; exfalso; ((try simp only [vcS] at hh) <;> omega)))
  generalize World.drew _ = w1 at hE1 ⊢
  refine callV_ret (new_ok w1) ?_
  rintro _ w2 ⟨rfl, rfl⟩
  have hM0 := Mine.start w1
  have hM : ∃ m, MineW w (w1.alloc (Obj.cells (bookC (List.replicate 312 0) none) 67)) 0 w1.heap.size m (List.replicate 312 0) [] :=
    ⟨none, ⟨hE1.ext hM0.ext, Nat.le_trans hE1.size hM0.bl, fun r hr => Nat.le_trans hE1.size (hM0.ml r hr), hM0.book⟩, Good.zero, fun e h => by cases h⟩
  clear hM0
  generalize w1.heap.size = b at hM ⊢
  generalize World.alloc _ _ = w2 at hM ⊢
  obtain ⟨m, hM⟩ := hM
  (refine W_at c7_ok ?_; refine ⟨_, rfl, ?_⟩; simp (disch := first | omega | assumption | rfl | (simp only [vcS] <;> omega) | fail) only [↓vcA, vcB, ↓reduceIte, Nat.reduceEqDiff, Nat.reduceAdd, Nat.reduceMul, Nat.reduceLeDiff, Int.reduceLE, Int.reduceLT, Int.reduceEq, Int.reduceToNat, Int.reduceAdd, Int.reduceSub, Int.reduceMul, Int.reduceNeg, reduceCtorEq, Option.bind_some, Option.map_some, List.length_cons, List.length_nil, vcM, List.getElem?_toArray, List.getElem?_cons_zero, List.getElem?_cons_succ])
  (refine W_at c7_ok ?_; refine ⟨_, rfl, ?_⟩; simp (disch := first | omega | assumption | rfl | (simp only [vcS] <;> omega) | fail) only [↓vcA, vcB, ↓reduceIte, Nat.reduceEqDiff, Nat.reduceAdd, Nat.reduceMul, Nat.reduceLeDiff, Int.reduceLE, Int.reduceLT, Int.reduceEq, Int.reduceToNat, Int.reduceAdd, Int.reduceSub, Int.reduceMul, Int.reduceNeg, reduceCtorEq, Option.bind_some, Option.map_some, List.length_cons, List.length_nil, vcM, List.getElem?_toArray, List.getElem?_cons_zero, List.getElem?_cons_succ])
  (refine W_at c7_ok ?_; refine ⟨_, rfl, ?_⟩; simp (disch := first | omega | assumption | rfl | (simp only [vcS] <;> omega) | fail) only [↓vcA, vcB, ↓reduceIte, Nat.reduceEqDiff, Nat.reduceAdd, Nat.reduceMul, Nat.reduceLeDiff, Int.reduceLE, Int.reduceLT, Int.reduceEq, Int.reduceToNat, Int.reduceAdd, Int.reduceSub, Int.reduceMul, Int.reduceNeg, reduceCtorEq, Option.bind_some, Option.map_some, List.length_cons, List.length_nil, vcM, List.getElem?_toArray, List.getElem?_cons_zero, List.getElem?_cons_succ])
  have hend : ∀ (i : Nat) (wj : World) (m : Option Nat) (cnt : List Int) (ws : List WE) (tl : Env), i ≤ 60 → MineW w wj i b m cnt ws →
      W Try.prog (Ret fun u w' => u = .bool true ∧ Ext w w') 7 18 ((0, .slice q1 n1 c1) :: (1, .slice q2 n2 c2) :: (7, .int .i64 t) :: (8, .int .i64 pc) :: (9, .pointer (some ⟨b, 0, none⟩)) :: tl) wj := by
    intro i wj m cnt ws tl hi hM
    exact waited_end w wj b m cnt ws t pc _ _ tl ⟨hM.mine, hM.good.mono (by omega), hM.bok⟩
  have L : ∀ (k i : Nat) (wj : World) (m : Option Nat) (cnt : List Int) (ws : List WE), k + i = 60 → MineW w wj i b m cnt ws →
      W Try.prog (Ret fun u w' => u = .bool true ∧ Ext w w') 7 27
        [(0, .slice q1 n1 c1), (1, .slice q2 n2 c2), (7, .int .i64 t), (8, .int .i64 pc), (9, .pointer (some ⟨b, 0, none⟩)), (10, .int .i64 i)] wj := by
    intro k
    induction k with
    | zero =>
      intro i wj m cnt ws hi hM
      have h60 : ¬ ((i : Int) < 60) := by omega
      by_cases hin : (i : Int) < n1
      · (refine W_at c7_ok ?_; refine ⟨_, rfl, ?_⟩; simp (disch := first | omega | assumption | rfl | (simp only [vcS] <;> omega) | fail) only [↓vcA, vcB, ↓reduceIte, Nat.reduceEqDiff, Nat.reduceAdd, Nat.reduceMul, Nat.reduceLeDiff, Int.reduceLE, Int.reduceLT, Int.reduceEq, Int.reduceToNat, Int.reduceAdd, Int.reduceSub, Int.reduceMul, Int.reduceNeg, reduceCtorEq, Option.bind_some, Option.map_some, List.length_cons, List.length_nil, vcM, List.getElem?_toArray, List.getElem?_cons_zero, List.getElem?_cons_succ, hin, h60])
        (refine W_at c7_ok ?_; refine ⟨_, rfl, ?_⟩; simp (disch := first | omega | assumption | rfl | (simp only [vcS] <;> omega) | fail) only [↓vcA, vcB, ↓reduceIte, Nat.reduceEqDiff, Nat.reduceAdd, Nat.reduceMul, Nat.reduceLeDiff, Int.reduceLE, Int.reduceLT, Int.reduceEq, Int.reduceToNat, Int.reduceAdd, Int.reduceSub, Int.reduceMul, Int.reduceNeg, reduceCtorEq, Option.bind_some, Option.map_some, List.length_cons, List.length_nil, vcM, List.getElem?_toArray, List.getElem?_cons_zero, List.getElem?_cons_succ])
        exact hend i wj m cnt ws _ (by omega) hM
      · (refine W_at c7_ok ?_; refine ⟨_, rfl, ?_⟩; simp (disch := first | omega | assumption | rfl | (simp only [vcS] <;> omega) | fail) only [↓vcA, vcB, ↓reduceIte, Nat.reduceEqDiff, Nat.reduceAdd, Nat.reduceMul, Nat.reduceLeDiff, Int.reduceLE, Int.reduceLT, Int.reduceEq, Int.reduceToNat, Int.reduceAdd, Int.reduceSub, Int.reduceMul, Int.reduceNeg, reduceCtorEq, Option.bind_some, Option.map_some, List.length_cons, List.length_nil, vcM, List.getElem?_toArray, List.getElem?_cons_zero, List.getElem?_cons_succ, hin])
        (refine W_at c7_ok ?_; refine ⟨_, rfl, ?_⟩; simp (disch := first | omega | assumption | rfl | (simp only [vcS] <;> omega) | fail) only [↓vcA, vcB, ↓reduceIte, Nat.reduceEqDiff, Nat.reduceAdd, Nat.reduceMul, Nat.reduceLeDiff, Int.reduceLE, Int.reduceLT, Int.reduceEq, Int.reduceToNat, Int.reduceAdd, Int.reduceSub, Int.reduceMul, Int.reduceNeg, reduceCtorEq, Option.bind_some, Option.map_some, List.length_cons, List.length_nil, vcM, List.getElem?_toArray, List.getElem?_cons_zero, List.getElem?_cons_succ])
        exact hend i wj m cnt ws _ (by omega) hM
    | succ k ih =>
      intro i wj m cnt ws hi hM
      have h60 : (i : Int) < 60 := by omega
      by_cases hin : (i : Int) < n1
      · have hi2 : 0 ≤ (i : Int) ∧ (i : Int) < n1 := by omega
        have hwi : IntKind.i64.wrap ((i : Int) + 1) = ((i + 1 : Nat) : Int) := wrap_i64 (by omega) (by omega)
        (refine W_at c7_ok ?_; refine ⟨_, rfl, ?_⟩; simp (disch := first | omega | assumption | rfl | (simp only [vcS] <;> omega) | fail) only [↓vcA, vcB, ↓reduceIte, Nat.reduceEqDiff, Nat.reduceAdd, Nat.reduceMul, Nat.reduceLeDiff, Int.reduceLE, Int.reduceLT, Int.reduceEq, Int.reduceToNat, Int.reduceAdd, Int.reduceSub, Int.reduceMul, Int.reduceNeg, reduceCtorEq, Option.bind_some, Option.map_some, List.length_cons, List.length_nil, vcM, List.getElem?_toArray, List.getElem?_cons_zero, List.getElem?_cons_succ, hin, h60])
        (refine W_at c7_ok ?_; refine ⟨_, rfl, ?_⟩; simp (disch := first | omega | assumption | rfl | (simp only [vcS] <;> omega) | fail) only [↓vcA, vcB, ↓reduceIte, Nat.reduceEqDiff, Nat.reduceAdd, Nat.reduceMul, Nat.reduceLeDiff, Int.reduceLE, Int.reduceLT, Int.reduceEq, Int.reduceToNat, Int.reduceAdd, Int.reduceSub, Int.reduceMul, Int.reduceNeg, reduceCtorEq, Option.bind_some, Option.map_some, List.length_cons, List.length_nil, vcM, List.getElem?_toArray, List.getElem?_cons_zero, List.getElem?_cons_succ])
        have hids := idC_size (IntKind.u8.wrap i)
        have hidf := HK_flat (idC_HK (IntKind.u8.wrap i))
        (refine W_at c7_ok ?_; refine ⟨_, rfl, ?_⟩; simp (disch := first | omega | assumption | rfl | (simp only [vcS] <;> omega) | fail) only [↓vcA, vcB, ↓reduceIte, Nat.reduceEqDiff, Nat.reduceAdd, Nat.reduceMul, Nat.reduceLeDiff, Int.reduceLE, Int.reduceLT, Int.reduceEq, Int.reduceToNat, Int.reduceAdd, Int.reduceSub, Int.reduceMul, Int.reduceNeg, reduceCtorEq, Option.bind_some, Option.map_some, List.length_cons, List.length_nil, vcM, List.getElem?_toArray, List.getElem?_cons_zero, List.getElem?_cons_succ])
        have e1 : (#[Value.int .u8 (IntKind.u8.wrap i)] ++ (#[Value.int .u8 1] ++ zc [(30, .int .u8 0)])) = idC (IntKind.u8.wrap i) := rfl
        rw [e1]
        generalize hid : idC (IntKind.u8.wrap i) = id at hids hidf ⊢
        have hidk : HK id := by rw [← hid]; exact idC_HK _
        clear hid e1
        refine ⟨hids, hidf, ?_⟩
        have hz : (zc [(32, Value.int IntKind.u8 0)]).size = 32 := by simp [size_zc]
        have hpp : ((wj.alloc (Obj.cells (zc [(32, Value.int IntKind.u8 0)]) 54)).putN wj.heap.size 0 id).heap[wj.heap.size]? = some (.cells id 54 (0, 0)) := heap_local _ (by rw [hids, hz])
        have hM3 := hM.keep (show Ext wj ((wj.alloc (Obj.cells (zc [(32, Value.int IntKind.u8 0)]) 54)).putN wj.heap.size 0 id) by (repeat' first | exact Keep.refl _ _ | assumption | refine Keep.drew ?_ | refine Keep.alloc ?_ _ | refine Keep.putN ?_ _ ?_ | refine Keep.setCell ?_ _ ?_ | refine Keep.setO ?_ _ ?_ | exact fun _ => Or.inl rfl | exact fun _ => Or.inr rfl | exact fun _ => rfl | (intro hh; exfalso; ((try simp only [vcS] at hh) <;> omega))))
        generalize wj.heap.size = p at hpp hM3 ⊢
        generalize World.putN _ _ _ _ = w3 at hpp hM3 ⊢
        obtain ⟨bq, oq, rfl, hcell⟩ := rd_at (rdS_keep h1r hM3.mine.ext fun _ _ h => h) (i := i) (by omega)
        have hcell' : cellO w3.heap[bq]? (oq + i) = some (.int .i64 rates[i]) := by rw [hcell]; simp [show i < rates.length by omega]
        (refine W_at c7_ok ?_; refine ⟨_, rfl, ?_⟩; simp (disch := first | omega | assumption | rfl | (simp only [vcS] <;> omega) | fail) only [↓vcA, vcB, ↓reduceIte, Nat.reduceEqDiff, Nat.reduceAdd, Nat.reduceMul, Nat.reduceLeDiff, Int.reduceLE, Int.reduceLT, Int.reduceEq, Int.reduceToNat, Int.reduceAdd, Int.reduceSub, Int.reduceMul, Int.reduceNeg, reduceCtorEq, Option.bind_some, Option.map_some, List.length_cons, List.length_nil, vcM, List.getElem?_toArray, List.getElem?_cons_zero, List.getElem?_cons_succ, hpp, hids, ext_all, hi2, Int.toNat_natCast, Nat.mul_one, hcell'])
        have hM3' := hM3.keep (Keep.drew (Keep.refl _ w3))
        refine callV_ret (enter_ok w3.drew b cnt m ws id rates[i] 10 hM3'.mine.book hidk) ?_
        intro _ w4 hT
        have hp4 := fun hk => hM3'.at54 (w' := w4) hpp hk
        obtain ⟨m4, hM4, hk4⟩ := hM3'.mine.step hT
        have hp4 := hp4 hk4
        have hM4' : MineW w w4 i b m4 cnt (entW id (bucketF rates[i]) 10 ws) := ⟨hM4, hM3'.good, BOK_ent hM3'.bok⟩
        have hnext : ∀ (w5 : World) (m5 : Option Nat) (cnt5 : List Int) (ws5 : List WE) (tl : Env), MineW w w5 (i + 1) b m5 cnt5 ws5 →
            W Try.prog (Ret fun u w' => u = .bool true ∧ Ext w w') 7 20 ((0, .slice (some ⟨bq, oq, none⟩) n1 c1) :: (1, .slice q2 n2 c2) :: (7, .int .i64 t) :: (8, .int .i64 pc) :: (9, .pointer (some ⟨b, 0, none⟩)) :: (10, .int .i64 i) :: tl) w5 := by
          intro w5 m5 cnt5 ws5 tl hM5
          (refine W_at c7_ok ?_; refine ⟨_, rfl, ?_⟩; simp (disch := first | omega | assumption | rfl | (simp only [vcS] <;> omega) | fail) only [↓vcA, vcB, ↓reduceIte, Nat.reduceEqDiff, Nat.reduceAdd, Nat.reduceMul, Nat.reduceLeDiff, Int.reduceLE, Int.reduceLT, Int.reduceEq, Int.reduceToNat, Int.reduceAdd, Int.reduceSub, Int.reduceMul, Int.reduceNeg, reduceCtorEq, Option.bind_some, Option.map_some, List.length_cons, List.length_nil, vcM, List.getElem?_toArray, List.getElem?_cons_zero, List.getElem?_cons_succ, hwi])
          (refine W_at c7_ok ?_; refine ⟨_, rfl, ?_⟩; simp (disch := first | omega | assumption | rfl | (simp only [vcS] <;> omega) | fail) only [↓vcA, vcB, ↓reduceIte, Nat.reduceEqDiff, Nat.reduceAdd, Nat.reduceMul, Nat.reduceLeDiff, Int.reduceLE, Int.reduceLT, Int.reduceEq, Int.reduceToNat, Int.reduceAdd, Int.reduceSub, Int.reduceMul, Int.reduceNeg, reduceCtorEq, Option.bind_some, Option.map_some, List.length_cons, List.length_nil, vcM, List.getElem?_toArray, List.getElem?_cons_zero, List.getElem?_cons_succ])
          exact ih (i + 1) w5 m5 cnt5 ws5 (by omega) hM5
        by_cases hn2 : 0 < (n2 : Int)
        · have hrem : Int.tmod (i : Int) (n2 : Int) = ((i % n2 : Nat) : Int) := by rw [Int.tmod_eq_emod_of_nonneg (by omega)]; simp
          have hrl : i % n2 < n2 := Nat.mod_lt _ (by omega)
          have hn0 : ¬ ((n2 : Int) = 0) := by omega
          have hr2 : 0 ≤ ((i % n2 : Nat) : Int) ∧ ((i % n2 : Nat) : Int) < n2 := by omega
          obtain ⟨bw, ow, rfl, hcw⟩ := rd_at (rdS_keep h2r hM4.ext fun _ _ h => h) (i := i % n2) hrl
          have hcw' : cellO w4.heap[bw]? (ow + i % n2) = some (.int .i64 (waits[i % n2]'(by omega))) := by rw [hcw]; simp [show i % n2 < waits.length by omega]
          (refine W_at c7_ok ?_; refine ⟨_, rfl, ?_⟩; simp (disch := first | omega | assumption | rfl | (simp only [vcS] <;> omega) | fail) only [↓vcA, vcB, ↓reduceIte, Nat.reduceEqDiff, Nat.reduceAdd, Nat.reduceMul, Nat.reduceLeDiff, Int.reduceLE, Int.reduceLT, Int.reduceEq, Int.reduceToNat, Int.reduceAdd, Int.reduceSub, Int.reduceMul, Int.reduceNeg, reduceCtorEq, Option.bind_some, Option.map_some, List.length_cons, List.length_nil, vcM, List.getElem?_toArray, List.getElem?_cons_zero, List.getElem?_cons_succ, hn2])
          (refine W_at c7_ok ?_; refine ⟨_, rfl, ?_⟩; simp (disch := first | omega | assumption | rfl | (simp only [vcS] <;> omega) | fail) only [↓vcA, vcB, ↓reduceIte, Nat.reduceEqDiff, Nat.reduceAdd, Nat.reduceMul, Nat.reduceLeDiff, Int.reduceLE, Int.reduceLT, Int.reduceEq, Int.reduceToNat, Int.reduceAdd, Int.reduceSub, Int.reduceMul, Int.reduceNeg, reduceCtorEq, Option.bind_some, Option.map_some, List.length_cons, List.length_nil, vcM, List.getElem?_toArray, List.getElem?_cons_zero, List.getElem?_cons_succ])
          (refine W_at c7_ok ?_; refine ⟨_, rfl, ?_⟩; simp (disch := first | omega | assumption | rfl | (simp only [vcS] <;> omega) | fail) only [↓vcA, vcB, ↓reduceIte, Nat.reduceEqDiff, Nat.reduceAdd, Nat.reduceMul, Nat.reduceLeDiff, Int.reduceLE, Int.reduceLT, Int.reduceEq, Int.reduceToNat, Int.reduceAdd, Int.reduceSub, Int.reduceMul, Int.reduceNeg, reduceCtorEq, Option.bind_some, Option.map_some, List.length_cons, List.length_nil, vcM, List.getElem?_toArray, List.getElem?_cons_zero, List.getElem?_cons_succ, hn0, hrem, hr2, Int.toNat_natCast, Nat.mul_one, hcw', hp4, hids, ext_all])
          have hM5 := hM4'.keep (show Ext w4 (w4.drew.alloc (Obj.cells (id.toList ++ []).toArray 54)) by (repeat' first | exact Keep.refl _ _ | assumption | refine Keep.drew ?_ | refine Keep.alloc ?_ _ | refine Keep.putN ?_ _ ?_ | refine Keep.setCell ?_ _ ?_ | refine Keep.setO ?_ _ ?_ | exact fun _ => Or.inl rfl | exact fun _ => Or.inr rfl | exact fun _ => rfl | (intro hh; exfalso; ((try simp only [vcS] at hh) <;> omega))))
          have hI : IdsAt 54 (w4.drew.alloc (Obj.cells (id.toList ++ []).toArray 54)) (.slice (some ⟨w4.heap.size, 0, none⟩) 1 1) [id] := by
            refine ⟨⟨0, own_lit (w := w4.drew) ?_ (by decide)⟩, ?_⟩
            · simp only [List.length_append, Array.length_toList, hids, List.length_nil]
            · intro k hk; simp at hk; subst hk; exact hidk
          refine ⟨?_, ?_⟩
          · obtain ⟨_, _, e, hcw⟩ := rd_at (rdS_keep h2r hM5.mine.ext fun _ _ h => h) (i := i % n2) hrl
            cases e; rw [hcw]; simp [show i % n2 < waits.length by omega]
          generalize World.alloc _ _ = w5 at hM5 hI ⊢
          generalize IntKind.i64.wrap (10 + (max 0 waits[i % n2]).tmod 14) = h
          refine callV_ret (block_ok w5 b cnt m4 _ h _ _ hM5.mine.book hM5.bok hI) ?_
          intro _ w6 hT
          obtain ⟨m6, hM6, _⟩ := hM5.mine.step hT
          have hfz := hM5.good.fade (by omega)
          have hG := Good.hits (ht := h) (ids := [id]) hfz hM5.bok (by simp; omega)
          refine hnext w6 m6 _ _ _ ⟨hM6, hG.mono (by simp; omega), BOK_hits hM5.bok⟩
        · (refine W_at c7_ok ?_; refine ⟨_, rfl, ?_⟩; simp (disch := first | omega | assumption | rfl | (simp only [vcS] <;> omega) | fail) only [↓vcA, vcB, ↓reduceIte, Nat.reduceEqDiff, Nat.reduceAdd, Nat.reduceMul, Nat.reduceLeDiff, Int.reduceLE, Int.reduceLT, Int.reduceEq, Int.reduceToNat, Int.reduceAdd, Int.reduceSub, Int.reduceMul, Int.reduceNeg, reduceCtorEq, Option.bind_some, Option.map_some, List.length_cons, List.length_nil, vcM, List.getElem?_toArray, List.getElem?_cons_zero, List.getElem?_cons_succ, hn2])
          (refine W_at c7_ok ?_; refine ⟨_, rfl, ?_⟩; simp (disch := first | omega | assumption | rfl | (simp only [vcS] <;> omega) | fail) only [↓vcA, vcB, ↓reduceIte, Nat.reduceEqDiff, Nat.reduceAdd, Nat.reduceMul, Nat.reduceLeDiff, Int.reduceLE, Int.reduceLT, Int.reduceEq, Int.reduceToNat, Int.reduceAdd, Int.reduceSub, Int.reduceMul, Int.reduceNeg, reduceCtorEq, Option.bind_some, Option.map_some, List.length_cons, List.length_nil, vcM, List.getElem?_toArray, List.getElem?_cons_zero, List.getElem?_cons_succ])
          exact hnext w4 m4 cnt _ _ ⟨hM4, hM3'.good.mono (by omega), BOK_ent hM3'.bok⟩
      · (refine W_at c7_ok ?_; refine ⟨_, rfl, ?_⟩; simp (disch := first | omega | assumption | rfl | (simp only [vcS] <;> omega) | fail) only [↓vcA, vcB, ↓reduceIte, Nat.reduceEqDiff, Nat.reduceAdd, Nat.reduceMul, Nat.reduceLeDiff, Int.reduceLE, Int.reduceLT, Int.reduceEq, Int.reduceToNat, Int.reduceAdd, Int.reduceSub, Int.reduceMul, Int.reduceNeg, reduceCtorEq, Option.bind_some, Option.map_some, List.length_cons, List.length_nil, vcM, List.getElem?_toArray, List.getElem?_cons_zero, List.getElem?_cons_succ, hin])
        (refine W_at c7_ok ?_; refine ⟨_, rfl, ?_⟩; simp (disch := first | omega | assumption | rfl | (simp only [vcS] <;> omega) | fail) only [↓vcA, vcB, ↓reduceIte, Nat.reduceEqDiff, Nat.reduceAdd, Nat.reduceMul, Nat.reduceLeDiff, Int.reduceLE, Int.reduceLT, Int.reduceEq, Int.reduceToNat, Int.reduceAdd, Int.reduceSub, Int.reduceMul, Int.reduceNeg, reduceCtorEq, Option.bind_some, Option.map_some, List.length_cons, List.length_nil, vcM, List.getElem?_toArray, List.getElem?_cons_zero, List.getElem?_cons_succ])
        exact hend i wj m cnt ws _ (by omega) hM
  exact L 60 0 w2 m _ _ rfl hM
end Go.Proofs
