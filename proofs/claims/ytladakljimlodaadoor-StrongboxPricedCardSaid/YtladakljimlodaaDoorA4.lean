/- Amounts: sizes and shares. -/
import Derived.Test.YtladakljimlodaaDoorA3
import Derived.Test.YtladakljimlodaaDoorA2
set_option linter.unusedSimpArgs false
set_option linter.unusedVariables false
set_option linter.constructorNameAsVariable false
namespace Go.Proofs
open Go.Vc
set_option maxRecDepth 10000

def szB (s l : Int) : Bool := decide (l ≤ s) && decide (s ≤ 1000000)
theorem szB_iff {s l : Int} : szB s l = true ↔ l ≤ s ∧ s ≤ 1000000 := by simp [szB]
theorem szB_not {s l : Int} : szB s l = false ↔ ¬ (l ≤ s ∧ s ≤ 1000000) := by rw [← szB_iff]; simp
theorem sized_ok (w : World) (s l : Int) : Calls Tryd.prog 19 #[.int .i64 s, .int .i64 l] w (Ret fun u w' => u = .bool (szB s l) ∧ w' = w) := by
  refine calls_of_cfg c19_ok (Nat.le_of_ble_eq_true rfl) ?_
  simp only [argE_nil, argE_cons, Nat.reduceAdd, Nat.zero_add]
  (refine W_at c19_ok ?_; refine ⟨_, rfl, ?_⟩; simp (disch := first | omega | assumption | rfl | (simp only [vcS] <;> omega) | fail) only [↓ptV_l, ↓vcA, vcB, ↓vcD, vcE, ↓reduceIte, Nat.reduceEqDiff, Nat.reduceAdd, Nat.reduceMul, Nat.reduceLeDiff, Int.reduceLE, Int.reduceLT, Int.reduceEq, Int.reduceToNat, Int.reduceAdd, Int.reduceSub, Int.reduceMul, Int.reduceNeg, reduceCtorEq, Option.bind_some, Option.map_some, List.length_cons, List.length_nil, vcM, List.getElem?_toArray, List.getElem?_cons_zero, List.getElem?_cons_succ])
  by_cases h1 : l ≤ s
  · by_cases h2 : s ≤ 1000000
    · have e : szB s l = true := szB_iff.2 ⟨h1, h2⟩
      rw [e]
      (refine W_at c19_ok ?_; refine ⟨_, rfl, ?_⟩; simp (disch := first | omega | assumption | rfl | (simp only [vcS] <;> omega) | fail) only [↓ptV_l, ↓vcA, vcB, ↓vcD, vcE, ↓reduceIte, Nat.reduceEqDiff, Nat.reduceAdd, Nat.reduceMul, Nat.reduceLeDiff, Int.reduceLE, Int.reduceLT, Int.reduceEq, Int.reduceToNat, Int.reduceAdd, Int.reduceSub, Int.reduceMul, Int.reduceNeg, reduceCtorEq, Option.bind_some, Option.map_some, List.length_cons, List.length_nil, vcM, List.getElem?_toArray, List.getElem?_cons_zero, List.getElem?_cons_succ, h1, h2])
      (refine W_at c19_ok ?_; refine ⟨_, rfl, ?_⟩; simp (disch := first | omega | assumption | rfl | (simp only [vcS] <;> omega) | fail) only [↓ptV_l, ↓vcA, vcB, ↓vcD, vcE, ↓reduceIte, Nat.reduceEqDiff, Nat.reduceAdd, Nat.reduceMul, Nat.reduceLeDiff, Int.reduceLE, Int.reduceLT, Int.reduceEq, Int.reduceToNat, Int.reduceAdd, Int.reduceSub, Int.reduceMul, Int.reduceNeg, reduceCtorEq, Option.bind_some, Option.map_some, List.length_cons, List.length_nil, vcM, List.getElem?_toArray, List.getElem?_cons_zero, List.getElem?_cons_succ, Ret_returned])
    · have e : szB s l = false := szB_not.2 fun h => h2 h.2
      rw [e]
      (refine W_at c19_ok ?_; refine ⟨_, rfl, ?_⟩; simp (disch := first | omega | assumption | rfl | (simp only [vcS] <;> omega) | fail) only [↓ptV_l, ↓vcA, vcB, ↓vcD, vcE, ↓reduceIte, Nat.reduceEqDiff, Nat.reduceAdd, Nat.reduceMul, Nat.reduceLeDiff, Int.reduceLE, Int.reduceLT, Int.reduceEq, Int.reduceToNat, Int.reduceAdd, Int.reduceSub, Int.reduceMul, Int.reduceNeg, reduceCtorEq, Option.bind_some, Option.map_some, List.length_cons, List.length_nil, vcM, List.getElem?_toArray, List.getElem?_cons_zero, List.getElem?_cons_succ, h1, h2])
      (refine W_at c19_ok ?_; refine ⟨_, rfl, ?_⟩; simp (disch := first | omega | assumption | rfl | (simp only [vcS] <;> omega) | fail) only [↓ptV_l, ↓vcA, vcB, ↓vcD, vcE, ↓reduceIte, Nat.reduceEqDiff, Nat.reduceAdd, Nat.reduceMul, Nat.reduceLeDiff, Int.reduceLE, Int.reduceLT, Int.reduceEq, Int.reduceToNat, Int.reduceAdd, Int.reduceSub, Int.reduceMul, Int.reduceNeg, reduceCtorEq, Option.bind_some, Option.map_some, List.length_cons, List.length_nil, vcM, List.getElem?_toArray, List.getElem?_cons_zero, List.getElem?_cons_succ, Ret_returned])
  · have e : szB s l = false := szB_not.2 fun h => h1 h.1
    rw [e]
    (refine W_at c19_ok ?_; refine ⟨_, rfl, ?_⟩; simp (disch := first | omega | assumption | rfl | (simp only [vcS] <;> omega) | fail) only [↓ptV_l, ↓vcA, vcB, ↓vcD, vcE, ↓reduceIte, Nat.reduceEqDiff, Nat.reduceAdd, Nat.reduceMul, Nat.reduceLeDiff, Int.reduceLE, Int.reduceLT, Int.reduceEq, Int.reduceToNat, Int.reduceAdd, Int.reduceSub, Int.reduceMul, Int.reduceNeg, reduceCtorEq, Option.bind_some, Option.map_some, List.length_cons, List.length_nil, vcM, List.getElem?_toArray, List.getElem?_cons_zero, List.getElem?_cons_succ, h1])
    (refine W_at c19_ok ?_; refine ⟨_, rfl, ?_⟩; simp (disch := first | omega | assumption | rfl | (simp only [vcS] <;> omega) | fail) only [↓ptV_l, ↓vcA, vcB, ↓vcD, vcE, ↓reduceIte, Nat.reduceEqDiff, Nat.reduceAdd, Nat.reduceMul, Nat.reduceLeDiff, Int.reduceLE, Int.reduceLT, Int.reduceEq, Int.reduceToNat, Int.reduceAdd, Int.reduceSub, Int.reduceMul, Int.reduceNeg, reduceCtorEq, Option.bind_some, Option.map_some, List.length_cons, List.length_nil, vcM, List.getElem?_toArray, List.getElem?_cons_zero, List.getElem?_cons_succ, Ret_returned])
theorem share_ok (w : World) (a b c : Int) (ha : 0 ≤ a) (hb : 0 ≤ b) (hc : 0 < c) (h1 : a / c * b ≤ 4000000000000000000) (h2 : a % c * b ≤ 4000000000000000000) (hac : a ≤ 9000000000000000000) (hbc : b ≤ 9000000000000000000) (hcc : c ≤ 9000000000000000000) :
    Calls Tryd.prog 20 #[.int .i64 a, .int .i64 b, .int .i64 c] w (Ret fun u w' => u = .tuple #[.int .i64 (a * b / c), .int .i64 (a * b % c)] ∧ Ext w w') := by
  refine calls_of_cfg c20_ok (Nat.le_of_ble_eq_true rfl) ?_
  simp only [argE_nil, argE_cons, Nat.reduceAdd, Nat.zero_add]
  obtain ⟨e1, e2⟩ := share_eq (a := a) (b := b) hc
  rw [← e1, ← e2]
  have q1 : a.tdiv c = a / c := Int.tdiv_eq_ediv_of_nonneg ha
  have q2 : a.tmod c = a % c := Int.tmod_eq_emod_of_nonneg ha
  have p1 : 0 ≤ a % c := Int.emod_nonneg _ (by omega)
  have p2 : a % c < c := Int.emod_lt_of_pos _ hc
  have p3 : 0 ≤ a / c := Int.ediv_nonneg ha (by omega)
  have p3' : a / c ≤ a := Int.ediv_le_self _ ha
  have hcn : c ≠ 0 := by omega
  have r0 : 0 ≤ a % c * b := Int.mul_nonneg p1 hb
  have r1 : 0 ≤ a / c * b := Int.mul_nonneg p3 hb
  have q3 : (a % c * b).tdiv c = a % c * b / c := Int.tdiv_eq_ediv_of_nonneg r0
  have q4 : (a % c * b).tmod c = a % c * b % c := Int.tmod_eq_emod_of_nonneg r0
  have r2 : 0 ≤ a % c * b / c := Int.ediv_nonneg r0 (by omega)
  have r3 : a % c * b / c ≤ a % c * b := Int.ediv_le_self _ r0
  have w1 : IntKind.i64.wrap (a / c) = a / c := wrap_i64 (by omega) (by omega)
  have w2 : IntKind.i64.wrap (a / c * b) = a / c * b := wrap_i64 (by omega) (by omega)
  have w3 : IntKind.i64.wrap (a % c * b) = a % c * b := wrap_i64 (by omega) (by omega)
  have w4 : IntKind.i64.wrap (a % c * b / c) = a % c * b / c := wrap_i64 (by omega) (by omega)
  have w5 : IntKind.i64.wrap (a / c * b + a % c * b / c) = a / c * b + a % c * b / c := wrap_i64 (by omega) (by omega)
  (refine W_at c20_ok ?_; refine ⟨_, rfl, ?_⟩; simp (disch := first | omega | assumption | rfl | (simp only [vcS] <;> omega) | fail) only [↓ptV_l, ↓vcA, vcB, ↓vcD, vcE, ↓reduceIte, Nat.reduceEqDiff, Nat.reduceAdd, Nat.reduceMul, Nat.reduceLeDiff, Int.reduceLE, Int.reduceLT, Int.reduceEq, Int.reduceToNat, Int.reduceAdd, Int.reduceSub, Int.reduceMul, Int.reduceNeg, reduceCtorEq, Option.bind_some, Option.map_some, List.length_cons, List.length_nil, vcM, List.getElem?_toArray, List.getElem?_cons_zero, List.getElem?_cons_succ])
  (refine W_at c20_ok ?_; refine ⟨_, rfl, ?_⟩; simp (disch := first | omega | assumption | rfl | (simp only [vcS] <;> omega) | fail) only [↓ptV_l, ↓vcA, vcB, ↓vcD, vcE, ↓reduceIte, Nat.reduceEqDiff, Nat.reduceAdd, Nat.reduceMul, Nat.reduceLeDiff, Int.reduceLE, Int.reduceLT, Int.reduceEq, Int.reduceToNat, Int.reduceAdd, Int.reduceSub, Int.reduceMul, Int.reduceNeg, reduceCtorEq, Option.bind_some, Option.map_some, List.length_cons, List.length_nil, vcM, List.getElem?_toArray, List.getElem?_cons_zero, List.getElem?_cons_succ, hcn, q1, q2, w1])
  (refine W_at c20_ok ?_; refine ⟨_, rfl, ?_⟩; simp (disch := first | omega | assumption | rfl | (simp only [vcS] <;> omega) | fail) only [↓ptV_l, ↓vcA, vcB, ↓vcD, vcE, ↓reduceIte, Nat.reduceEqDiff, Nat.reduceAdd, Nat.reduceMul, Nat.reduceLeDiff, Int.reduceLE, Int.reduceLT, Int.reduceEq, Int.reduceToNat, Int.reduceAdd, Int.reduceSub, Int.reduceMul, Int.reduceNeg, reduceCtorEq, Option.bind_some, Option.map_some, List.length_cons, List.length_nil, vcM, List.getElem?_toArray, List.getElem?_cons_zero, List.getElem?_cons_succ, hcn, q3, q4, w2, w3, w4, w5])
  (refine W_at c20_ok ?_; refine ⟨_, rfl, ?_⟩; simp (disch := first | omega | assumption | rfl | (simp only [vcS] <;> omega) | fail) only [↓ptV_l, ↓vcA, vcB, ↓vcD, vcE, ↓reduceIte, Nat.reduceEqDiff, Nat.reduceAdd, Nat.reduceMul, Nat.reduceLeDiff, Int.reduceLE, Int.reduceLT, Int.reduceEq, Int.reduceToNat, Int.reduceAdd, Int.reduceSub, Int.reduceMul, Int.reduceNeg, reduceCtorEq, Option.bind_some, Option.map_some, List.length_cons, List.length_nil, vcM, List.getElem?_toArray, List.getElem?_cons_zero, List.getElem?_cons_succ, Ret_returned])
  exact (Keep.refl _ w).drew.drew
end Go.Proofs
