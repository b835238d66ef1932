import Derived.Test.YtnbbgmnjjdaopaaF1
set_option linter.unusedSimpArgs false
set_option linter.unusedVariables false
set_option linter.constructorNameAsVariable false
namespace Go.Proofs
open Go.Vc

set_option maxRecDepth 10000

def bk : Nat → Int → Int → Nat → Nat
  | 0, _, _, k => k
  | n + 1, r, t, k => if t ≤ r then bk n r (t * 2) (k + 1) else k
def bucketF (r : Int) : Nat := bk 23 r 2000 0
theorem bucket_ok (rate : Int) (w : World) : Calls Try.prog 29 #[.int .i64 rate] w (Ret fun v w' => v = .int .i64 (bucketF rate) ∧ w' = w) := by
  refine calls_of_cfg c29_ok (Nat.le_of_ble_eq_true rfl) ?_
  simp only [argE_nil, argE_cons, Nat.reduceAdd, Nat.zero_add]
  (refine W_at c29_ok ?_; refine ⟨_, rfl, ?_⟩; simp only [↓ptV_l, ↓vcA, vcB, ↓vcD, vcE, ↓reduceIte, Nat.reduceEqDiff, Nat.reduceAdd, Nat.reduceMul, Nat.reduceLeDiff, Int.reduceLE, Int.reduceLT, Int.reduceEq, Int.reduceToNat, Int.reduceAdd, Int.reduceSub, Int.reduceMul, Int.reduceNeg, reduceCtorEq, Option.bind_some, Option.map_some, List.length_cons, List.length_nil]); (refine W_at c29_ok ?_; refine ⟨_, rfl, ?_⟩; simp only [↓ptV_l, ↓vcA, vcB, ↓vcD, vcE, ↓reduceIte, Nat.reduceEqDiff, Nat.reduceAdd, Nat.reduceMul, Nat.reduceLeDiff, Int.reduceLE, Int.reduceLT, Int.reduceEq, Int.reduceToNat, Int.reduceAdd, Int.reduceSub, Int.reduceMul, Int.reduceNeg, reduceCtorEq, Option.bind_some, Option.map_some, List.length_cons, List.length_nil]); (refine W_at c29_ok ?_; refine ⟨_, rfl, ?_⟩; simp only [↓ptV_l, ↓vcA, vcB, ↓vcD, vcE, ↓reduceIte, Nat.reduceEqDiff, Nat.reduceAdd, Nat.reduceMul, Nat.reduceLeDiff, Int.reduceLE, Int.reduceLT, Int.reduceEq, Int.reduceToNat, Int.reduceAdd, Int.reduceSub, Int.reduceMul, Int.reduceNeg, reduceCtorEq, Option.bind_some, Option.map_some, List.length_cons, List.length_nil])
  have H : ∀ (n k : Nat) (top : Int), n + k = 23 → 0 ≤ top → top * 2 ^ n ≤ 2000 * 2 ^ 23 → bk n rate top k = bucketF rate →
      W Try.prog (Ret fun v w' => v = .int .i64 (bucketF rate) ∧ w' = w) 29 7 [(0, .int .i64 rate), (3, .int .i64 k), (4, .int .i64 top)] w := by
    intro n
    induction n with
    | zero =>
      intro k top hk h0 hb hf
      have hk' : ¬ ((k : Int) < 23) := by omega
      have hf' : bucketF rate = k := hf.symm
      (refine W_at c29_ok ?_; refine ⟨_, rfl, ?_⟩; simp only [↓ptV_l, ↓vcA, vcB, ↓vcD, vcE, ↓reduceIte, Nat.reduceEqDiff, Nat.reduceAdd, Nat.reduceMul, Nat.reduceLeDiff, Int.reduceLE, Int.reduceLT, Int.reduceEq, Int.reduceToNat, Int.reduceAdd, Int.reduceSub, Int.reduceMul, Int.reduceNeg, reduceCtorEq, Option.bind_some, Option.map_some, List.length_cons, List.length_nil, hk'])
      refine ⟨fun h => ?_, fun h => ?_⟩ <;> ((refine W_at c29_ok ?_; refine ⟨_, rfl, ?_⟩; simp only [↓ptV_l, ↓vcA, vcB, ↓vcD, vcE, ↓reduceIte, Nat.reduceEqDiff, Nat.reduceAdd, Nat.reduceMul, Nat.reduceLeDiff, Int.reduceLE, Int.reduceLT, Int.reduceEq, Int.reduceToNat, Int.reduceAdd, Int.reduceSub, Int.reduceMul, Int.reduceNeg, reduceCtorEq, Option.bind_some, Option.map_some, List.length_cons, List.length_nil]); (refine W_at c29_ok ?_; refine ⟨_, rfl, ?_⟩; simp only [↓ptV_l, ↓vcA, vcB, ↓vcD, vcE, ↓reduceIte, Nat.reduceEqDiff, Nat.reduceAdd, Nat.reduceMul, Nat.reduceLeDiff, Int.reduceLE, Int.reduceLT, Int.reduceEq, Int.reduceToNat, Int.reduceAdd, Int.reduceSub, Int.reduceMul, Int.reduceNeg, reduceCtorEq, Option.bind_some, Option.map_some, List.length_cons, List.length_nil]); (refine W_at c29_ok ?_; refine ⟨_, rfl, ?_⟩; simp only [↓ptV_l, ↓vcA, vcB, ↓vcD, vcE, ↓reduceIte, Nat.reduceEqDiff, Nat.reduceAdd, Nat.reduceMul, Nat.reduceLeDiff, Int.reduceLE, Int.reduceLT, Int.reduceEq, Int.reduceToNat, Int.reduceAdd, Int.reduceSub, Int.reduceMul, Int.reduceNeg, reduceCtorEq, Option.bind_some, Option.map_some, List.length_cons, List.length_nil, Ret_returned, hf']))
    | succ n ih =>
      intro k top hk h0 hb hf
      have hk' : (k : Int) < 23 := by omega
      have hp : (1 : Int) ≤ 2 ^ n := by have := Int.pow_pos (n := 2) (m := n) (by omega); omega
      rw [Int.pow_succ] at hb
      have ht : top * 1 ≤ top * 2 ^ n := Int.mul_le_mul_of_nonneg_left hp h0
      (refine W_at c29_ok ?_; refine ⟨_, rfl, ?_⟩; simp only [↓ptV_l, ↓vcA, vcB, ↓vcD, vcE, ↓reduceIte, Nat.reduceEqDiff, Nat.reduceAdd, Nat.reduceMul, Nat.reduceLeDiff, Int.reduceLE, Int.reduceLT, Int.reduceEq, Int.reduceToNat, Int.reduceAdd, Int.reduceSub, Int.reduceMul, Int.reduceNeg, reduceCtorEq, Option.bind_some, Option.map_some, List.length_cons, List.length_nil, hk'])
      refine ⟨fun h => ?_, fun h => ?_⟩
      · have e1 : top * (2 ^ n * 2) = top * 2 * 2 ^ n := by rw [Int.mul_comm (2 ^ n) 2, Int.mul_assoc]
        have e2 : top * (2 ^ n * 2) = top * 2 ^ n * 2 := by rw [Int.mul_assoc]
        have w1 : IntKind.i64.wrap (top * 2) = top * 2 := wrap_i64 (by omega) (by omega)
        have w2 : IntKind.i64.wrap ((k : Int) + 1) = ((k + 1 : Nat) : Int) := by rw [wrap_i64 (by omega) (by omega)]; rfl
        (refine W_at c29_ok ?_; refine ⟨_, rfl, ?_⟩; simp only [↓ptV_l, ↓vcA, vcB, ↓vcD, vcE, ↓reduceIte, Nat.reduceEqDiff, Nat.reduceAdd, Nat.reduceMul, Nat.reduceLeDiff, Int.reduceLE, Int.reduceLT, Int.reduceEq, Int.reduceToNat, Int.reduceAdd, Int.reduceSub, Int.reduceMul, Int.reduceNeg, reduceCtorEq, Option.bind_some, Option.map_some, List.length_cons, List.length_nil]); (refine W_at c29_ok ?_; refine ⟨_, rfl, ?_⟩; simp only [↓ptV_l, ↓vcA, vcB, ↓vcD, vcE, ↓reduceIte, Nat.reduceEqDiff, Nat.reduceAdd, Nat.reduceMul, Nat.reduceLeDiff, Int.reduceLE, Int.reduceLT, Int.reduceEq, Int.reduceToNat, Int.reduceAdd, Int.reduceSub, Int.reduceMul, Int.reduceNeg, reduceCtorEq, Option.bind_some, Option.map_some, List.length_cons, List.length_nil, w2]); (refine W_at c29_ok ?_; refine ⟨_, rfl, ?_⟩; simp only [↓ptV_l, ↓vcA, vcB, ↓vcD, vcE, ↓reduceIte, Nat.reduceEqDiff, Nat.reduceAdd, Nat.reduceMul, Nat.reduceLeDiff, Int.reduceLE, Int.reduceLT, Int.reduceEq, Int.reduceToNat, Int.reduceAdd, Int.reduceSub, Int.reduceMul, Int.reduceNeg, reduceCtorEq, Option.bind_some, Option.map_some, List.length_cons, List.length_nil, w1]); (refine W_at c29_ok ?_; refine ⟨_, rfl, ?_⟩; simp only [↓ptV_l, ↓vcA, vcB, ↓vcD, vcE, ↓reduceIte, Nat.reduceEqDiff, Nat.reduceAdd, Nat.reduceMul, Nat.reduceLeDiff, Int.reduceLE, Int.reduceLT, Int.reduceEq, Int.reduceToNat, Int.reduceAdd, Int.reduceSub, Int.reduceMul, Int.reduceNeg, reduceCtorEq, Option.bind_some, Option.map_some, List.length_cons, List.length_nil])
        exact ih (k + 1) (top * 2) (by omega) (by omega) (by rw [← e1]; exact hb) (by rw [← hf]; simp only [bk, if_pos h])
      · have hf' : bucketF rate = k := by rw [← hf]; simp only [bk, if_neg h]
        (refine W_at c29_ok ?_; refine ⟨_, rfl, ?_⟩; simp only [↓ptV_l, ↓vcA, vcB, ↓vcD, vcE, ↓reduceIte, Nat.reduceEqDiff, Nat.reduceAdd, Nat.reduceMul, Nat.reduceLeDiff, Int.reduceLE, Int.reduceLT, Int.reduceEq, Int.reduceToNat, Int.reduceAdd, Int.reduceSub, Int.reduceMul, Int.reduceNeg, reduceCtorEq, Option.bind_some, Option.map_some, List.length_cons, List.length_nil]); (refine W_at c29_ok ?_; refine ⟨_, rfl, ?_⟩; simp only [↓ptV_l, ↓vcA, vcB, ↓vcD, vcE, ↓reduceIte, Nat.reduceEqDiff, Nat.reduceAdd, Nat.reduceMul, Nat.reduceLeDiff, Int.reduceLE, Int.reduceLT, Int.reduceEq, Int.reduceToNat, Int.reduceAdd, Int.reduceSub, Int.reduceMul, Int.reduceNeg, reduceCtorEq, Option.bind_some, Option.map_some, List.length_cons, List.length_nil]); (refine W_at c29_ok ?_; refine ⟨_, rfl, ?_⟩; simp only [↓ptV_l, ↓vcA, vcB, ↓vcD, vcE, ↓reduceIte, Nat.reduceEqDiff, Nat.reduceAdd, Nat.reduceMul, Nat.reduceLeDiff, Int.reduceLE, Int.reduceLT, Int.reduceEq, Int.reduceToNat, Int.reduceAdd, Int.reduceSub, Int.reduceMul, Int.reduceNeg, reduceCtorEq, Option.bind_some, Option.map_some, List.length_cons, List.length_nil, Ret_returned, hf'])
  exact H 23 0 2000 rfl (by omega) (by omega) rfl
end Go.Proofs
