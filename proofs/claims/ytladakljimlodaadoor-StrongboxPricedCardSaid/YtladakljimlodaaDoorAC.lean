/- Amounts: as text. -/
import Derived.Test.YtladakljimlodaaDoorAB
set_option linter.unusedSimpArgs false
set_option linter.unusedVariables false
set_option linter.constructorNameAsVariable false
namespace Go.Proofs
open Go.Vc
set_option maxRecDepth 10000

theorem sadd {a b : List UInt8} (h : a.length + b.length ≤ 1000000) : binR .add (.string (sb a)) (.string (sb b)) = some (.string (sb (a ++ b))) := by
  rw [bin_sadd, sb_size, sb_size, if_neg, sb_app]
  have : IntKind.i64.max = 9223372036854775807 := by decide
  omega
theorem Format_gen (w : World) (v a q : Int) (X A Q : List UInt8) (D : Nat) (hv : okB v = true) (hwa : IntKind.i64.wrap (v + 100000000) = a) (hq : v.tdiv 100000000 = q) (hwq : IntKind.i64.wrap q = q)
    (hX : X.length = D + 8) (hD : D ≤ 1000) (hA : A.length ≤ 1000) (hQ : X.drop D = Q) (G : Gs w)
    (C1 : ∀ w, Gs w → Calls Tryd.prog 12 #[.int .i64 a, .int .i64 10] w (Ret fun u w' => u = .string (sb X) ∧ Ext w w'))
    (C2 : ∀ w, Gs w → Calls Tryd.prog 12 #[.int .i64 q, .int .i64 10] w (Ret fun u w' => u = .string (sb A) ∧ Ext w w')) :
    Calls Tryd.prog 4 #[.int .i64 v] w (Ret fun u w' => u = .string (sb (A ++ 46 :: Q)) ∧ Ext w w') := by
  refine calls_of_cfg c4_ok (Nat.le_of_ble_eq_true rfl) ?_
  simp only [argE_nil, argE_cons, Nat.reduceAdd, Nat.zero_add]
  (refine W_at c4_ok ?_; refine ⟨_, rfl, ?_⟩; simp (disch := first | omega | assumption | rfl | (simp only [vcS] <;> omega) | fail) only [↓ptV_l, ↓vcA, vcB, ↓vcD, vcE, ↓reduceIte, Nat.reduceEqDiff, Nat.reduceAdd, Nat.reduceMul, Nat.reduceLeDiff, Int.reduceLE, Int.reduceLT, Int.reduceEq, Int.reduceToNat, Int.reduceAdd, Int.reduceSub, Int.reduceMul, Int.reduceNeg, reduceCtorEq, Option.bind_some, Option.map_some, List.length_cons, List.length_nil, vcM, List.getElem?_toArray, List.getElem?_cons_zero, List.getElem?_cons_succ])
  (refine W_at c4_ok ?_; refine ⟨_, rfl, ?_⟩; simp (disch := first | omega | assumption | rfl | (simp only [vcS] <;> omega) | fail) only [↓vcL1, ptS2_eq, ↓vcA, vcB, ↓vcD, vcE, ↓reduceIte, Nat.reduceEqDiff, Nat.reduceAdd, Nat.reduceMul, Nat.reduceLeDiff, Int.reduceLE, Int.reduceLT, Int.reduceEq, Int.reduceToNat, Int.reduceAdd, Int.reduceSub, Int.reduceMul, Int.reduceNeg, reduceCtorEq, Option.bind_some, Option.map_some, List.length_cons, List.length_nil, vcM, List.getElem?_toArray, List.getElem?_cons_zero, List.getElem?_cons_succ])
  refine callV_ret (Valid_ok w v) ?_
  rintro _ wq ⟨rfl, hw⟩
  obtain rfl : w = wq := hw.symm
  rw [hv]
  simp (disch := first | omega | assumption | rfl | (simp only [vcS] <;> omega) | fail) only [↓vcL2, ptS1_eq, ↓vcA, vcB, ↓vcD, vcE, ↓reduceIte, Nat.reduceEqDiff, Nat.reduceAdd, Nat.reduceMul, Nat.reduceLeDiff, Int.reduceLE, Int.reduceLT, Int.reduceEq, Int.reduceToNat, Int.reduceAdd, Int.reduceSub, Int.reduceMul, Int.reduceNeg, reduceCtorEq, Option.bind_some, Option.map_some, List.length_cons, List.length_nil, vcM, List.getElem?_toArray, List.getElem?_cons_zero, List.getElem?_cons_succ]
  (refine W_at c4_ok ?_; refine ⟨_, rfl, ?_⟩; simp (disch := first | omega | assumption | rfl | (simp only [vcS] <;> omega) | fail) only [↓ptV_l, ↓vcA, vcB, ↓vcD, vcE, ↓reduceIte, Nat.reduceEqDiff, Nat.reduceAdd, Nat.reduceMul, Nat.reduceLeDiff, Int.reduceLE, Int.reduceLT, Int.reduceEq, Int.reduceToNat, Int.reduceAdd, Int.reduceSub, Int.reduceMul, Int.reduceNeg, reduceCtorEq, Option.bind_some, Option.map_some, List.length_cons, List.length_nil, vcM, List.getElem?_toArray, List.getElem?_cons_zero, List.getElem?_cons_succ])
  (refine W_at c4_ok ?_; refine ⟨_, rfl, ?_⟩; simp (disch := first | omega | assumption | rfl | (simp only [vcS] <;> omega) | fail) only [↓vcL1, ptS2_eq, ↓vcA, vcB, ↓vcD, vcE, ↓reduceIte, Nat.reduceEqDiff, Nat.reduceAdd, Nat.reduceMul, Nat.reduceLeDiff, Int.reduceLE, Int.reduceLT, Int.reduceEq, Int.reduceToNat, Int.reduceAdd, Int.reduceSub, Int.reduceMul, Int.reduceNeg, reduceCtorEq, Option.bind_some, Option.map_some, List.length_cons, List.length_nil, vcM, List.getElem?_toArray, List.getElem?_cons_zero, List.getElem?_cons_succ, hwa])
  refine callV_ret (C1 w G) ?_
  rintro _ w1 ⟨rfl, hE⟩
  have G1 := G.ext hE
  simp (disch := first | omega | assumption | rfl | (simp only [vcS] <;> omega) | fail) only [↓vcL2, ptS1_eq, ↓vcA, vcB, ↓vcD, vcE, ↓reduceIte, Nat.reduceEqDiff, Nat.reduceAdd, Nat.reduceMul, Nat.reduceLeDiff, Int.reduceLE, Int.reduceLT, Int.reduceEq, Int.reduceToNat, Int.reduceAdd, Int.reduceSub, Int.reduceMul, Int.reduceNeg, reduceCtorEq, Option.bind_some, Option.map_some, List.length_cons, List.length_nil, vcM, List.getElem?_toArray, List.getElem?_cons_zero, List.getElem?_cons_succ]
  have hsz := sb_size X
  rw [hX] at hsz
  have hw8 : IntKind.i64.wrap (((D + 8 : Nat) : Int) - 8) = (D : Int) := by
    rw [wrap_i64 (by omega) (by omega)]; omega
  (refine W_at c4_ok ?_; refine ⟨_, rfl, ?_⟩; simp (disch := first | omega | assumption | rfl | (simp only [vcS] <;> omega) | fail) only [↓ptV_l, ↓vcA, vcB, ↓vcD, vcE, ↓reduceIte, Nat.reduceEqDiff, Nat.reduceAdd, Nat.reduceMul, Nat.reduceLeDiff, Int.reduceLE, Int.reduceLT, Int.reduceEq, Int.reduceToNat, Int.reduceAdd, Int.reduceSub, Int.reduceMul, Int.reduceNeg, reduceCtorEq, Option.bind_some, Option.map_some, List.length_cons, List.length_nil, vcM, List.getElem?_toArray, List.getElem?_cons_zero, List.getElem?_cons_succ, hsz, hw8])
  have b1 : 0 ≤ (D : Int) := by omega
  have b2 : (D : Int) ≤ ((D + 8 : Nat) : Int) := by omega
  have hcut : (sb X).extract D (D + 8) = sb Q := by rw [sb_cut, List.take_of_length_le (by omega), hQ]
  (refine W_at c4_ok ?_; refine ⟨_, rfl, ?_⟩; simp (disch := first | omega | assumption | rfl | (simp only [vcS] <;> omega) | fail) only [↓ptV_l, ↓vcA, vcB, ↓vcD, vcE, ↓reduceIte, Nat.reduceEqDiff, Nat.reduceAdd, Nat.reduceMul, Nat.reduceLeDiff, Int.reduceLE, Int.reduceLT, Int.reduceEq, Int.reduceToNat, Int.reduceAdd, Int.reduceSub, Int.reduceMul, Int.reduceNeg, reduceCtorEq, Option.bind_some, Option.map_some, List.length_cons, List.length_nil, vcM, List.getElem?_toArray, List.getElem?_cons_zero, List.getElem?_cons_succ, hq, hwq, hsz, b1, b2, Int.toNat_natCast, hcut])
  refine callV_ret (C2 w1.drew G1.drew) ?_
  rintro _ w2 ⟨rfl, hE2⟩
  have e1 : (⟨#[46]⟩ : ByteArray) = sb [46] := rfl
  have hQl : Q.length ≤ 1000 := by rw [← hQ, List.length_drop, hX]; omega
  have s1 := sadd (a := A) (b := [46]) (by simp; omega)
  have s2 := sadd (a := A ++ [46]) (b := Q) (by simp; omega)
  have e2 : A ++ [46] ++ Q = A ++ 46 :: Q := by simp
  rw [e2] at s2
  simp (disch := first | omega | assumption | rfl | (simp only [vcS] <;> omega) | fail) only [↓vcL2, ptS1_eq, ↓vcA, vcB, ↓vcD, vcE, ↓reduceIte, Nat.reduceEqDiff, Nat.reduceAdd, Nat.reduceMul, Nat.reduceLeDiff, Int.reduceLE, Int.reduceLT, Int.reduceEq, Int.reduceToNat, Int.reduceAdd, Int.reduceSub, Int.reduceMul, Int.reduceNeg, reduceCtorEq, Option.bind_some, Option.map_some, List.length_cons, List.length_nil, vcM, List.getElem?_toArray, List.getElem?_cons_zero, List.getElem?_cons_succ, e1, s1, s2]
  (refine W_at c4_ok ?_; refine ⟨_, rfl, ?_⟩; simp (disch := first | omega | assumption | rfl | (simp only [vcS] <;> omega) | fail) only [↓ptV_l, ↓vcA, vcB, ↓vcD, vcE, ↓reduceIte, Nat.reduceEqDiff, Nat.reduceAdd, Nat.reduceMul, Nat.reduceLeDiff, Int.reduceLE, Int.reduceLT, Int.reduceEq, Int.reduceToNat, Int.reduceAdd, Int.reduceSub, Int.reduceMul, Int.reduceNeg, reduceCtorEq, Option.bind_some, Option.map_some, List.length_cons, List.length_nil, vcM, List.getElem?_toArray, List.getElem?_cons_zero, List.getElem?_cons_succ, Ret_returned])
  have hE3 : Ext w w2 := (hE.trans (Keep.refl _ w1).drew fun _ _ h => h).trans hE2 fun _ _ h => h
  first | exact hE3 | exact ⟨rfl, hE3⟩
theorem Format_ok (w : World) (n : Nat) (hn : n ≤ 2100000000000000) (G : Gs w) : Calls Tryd.prog 4 #[.int .i64 (n : Int)] w (Ret fun u w' => u = .string (sb (fmtN n)) ∧ Ext w w') := by
  have hv : okB (n : Int) = true := okB_iff.2 (by omega)
  have hq : ((n : Int)).tdiv 100000000 = ((n / 100000000 : Nat) : Int) := by
    rw [Int.tdiv_eq_ediv_of_nonneg (by omega)]; omega
  have hwq : IntKind.i64.wrap ((n / 100000000 : Nat) : Int) = ((n / 100000000 : Nat) : Int) := wrap_i64 (by omega) (by omega)
  have hwa : IntKind.i64.wrap ((n : Int) + 100000000) = ((n + 100000000 : Nat) : Int) := by
    rw [wrap_i64 (by omega) (by omega)]; omega
  have hlD : (Lib.decDigits ((n + 100000000) / 100000000)).length ≤ 7 + 1 := dec_len 7 _ (by omega)
  have hlA := fmt_len hn
  obtain ⟨h1, h2⟩ := fmt_drop n
  exact Format_gen w n _ _ _ _ _ _ hv hwa hq hwq h1 (by omega) (by omega) h2 G (fun w G => FormatInt_ok w (n + 100000000) (by omega) G) (fun w G => FormatInt_ok w (n / 100000000) (by omega) G)
end Go.Proofs
