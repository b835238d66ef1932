/- The law WireShort: its walk. -/
import Derived.Test.YtojgkbhpnebacaaWJ
set_option linter.unusedSimpArgs false
set_option linter.unusedVariables false
set_option linter.constructorNameAsVariable false
namespace Go.Proofs
open Go.Vc
set_option maxRecDepth 10000

set_option maxHeartbeats 1600000 in
theorem short_law (w : World) (q : Option Addr) (n c : Nat) (xs : List (Array Value)) (ys : List YE) (ha : ActsY w q n c xs ys) (at' : Int) :
    Calls Try.prog 5 #[.slice q n c, .int .i64 at'] w (Ret fun u w' => u = .bool true ∧ Ext w w') := by
  refine calls_of_cfg c5_ok (Nat.le_of_ble_eq_true rfl) ?_
  simp only [argE_nil, argE_cons, Nat.reduceAdd, Nat.zero_add]
  (refine W_at c5_ok ?_; refine ⟨_, rfl, ?_⟩; simp (disch := first | omega | assumption | rfl | (simp only [vcS] <;> omega) | fail) only [↓ptV_l, ↓vcA, vcB, ↓vcD, vcE, ↓reduceIte, Nat.reduceEqDiff, Nat.reduceAdd, Nat.reduceMul, Nat.reduceLeDiff, Int.reduceLE, Int.reduceLT, Int.reduceEq, Int.reduceToNat, Int.reduceAdd, Int.reduceSub, Int.reduceMul, Int.reduceNeg, reduceCtorEq, Option.bind_some, Option.map_some, List.length_cons, List.length_nil, vcM, List.getElem?_toArray, List.getElem?_cons_zero, List.getElem?_cons_succ])
  (refine W_at c5_ok ?_; refine ⟨_, rfl, ?_⟩; simp (disch := first | omega | assumption | rfl | (simp only [vcS] <;> omega) | fail) only [↓ptV_l, ↓vcA, vcB, ↓vcD, vcE, ↓reduceIte, Nat.reduceEqDiff, Nat.reduceAdd, Nat.reduceMul, Nat.reduceLeDiff, Int.reduceLE, Int.reduceLT, Int.reduceEq, Int.reduceToNat, Int.reduceAdd, Int.reduceSub, Int.reduceMul, Int.reduceNeg, reduceCtorEq, Option.bind_some, Option.map_some, List.length_cons, List.length_nil, vcM, List.getElem?_toArray, List.getElem?_cons_zero, List.getElem?_cons_succ])
  refine callV_ret (awake_ok w) ?_
  rintro _ w1 ⟨rfl, hE1⟩
  simp (disch := first | omega | assumption | rfl | (simp only [vcS] <;> omega) | fail) only [↓ptV_l, ↓vcA, vcB, ↓vcD, vcE, ↓reduceIte, Nat.reduceEqDiff, Nat.reduceAdd, Nat.reduceMul, Nat.reduceLeDiff, Int.reduceLE, Int.reduceLT, Int.reduceEq, Int.reduceToNat, Int.reduceAdd, Int.reduceSub, Int.reduceMul, Int.reduceNeg, reduceCtorEq, Option.bind_some, Option.map_some, List.length_cons, List.length_nil, vcM, List.getElem?_toArray, List.getElem?_cons_zero, List.getElem?_cons_succ]
  (refine W_at c5_ok ?_; refine ⟨_, rfl, ?_⟩; simp (disch := first | omega | assumption | rfl | (simp only [vcS] <;> omega) | fail) only [↓ptV_l, ↓vcA, vcB, ↓vcD, vcE, ↓reduceIte, Nat.reduceEqDiff, Nat.reduceAdd, Nat.reduceMul, Nat.reduceLeDiff, Int.reduceLE, Int.reduceLT, Int.reduceEq, Int.reduceToNat, Int.reduceAdd, Int.reduceSub, Int.reduceMul, Int.reduceNeg, reduceCtorEq, Option.bind_some, Option.map_some, List.length_cons, List.length_nil, vcM, List.getElem?_toArray, List.getElem?_cons_zero, List.getElem?_cons_succ])
  have hz1 : zc [(1, Value.slice none 0 0)] = #[.slice none 0 0] := rfl
  (refine W_at c5_ok ?_; refine ⟨_, rfl, ?_⟩; simp (disch := first | omega | assumption | rfl | (simp only [vcS] <;> omega) | fail) only [↓ptV_l, ↓vcA, vcB, ↓vcD, vcE, ↓reduceIte, Nat.reduceEqDiff, Nat.reduceAdd, Nat.reduceMul, Nat.reduceLeDiff, Int.reduceLE, Int.reduceLT, Int.reduceEq, Int.reduceToNat, Int.reduceAdd, Int.reduceSub, Int.reduceMul, Int.reduceNeg, reduceCtorEq, Option.bind_some, Option.map_some, List.length_cons, List.length_nil, vcM, List.getElem?_toArray, List.getElem?_cons_zero, List.getElem?_cons_succ, hz1])
  have hp : (w1.alloc (Obj.cells #[Value.slice none 0 0] 26)).heap[w1.heap.size]? = some (.cells #[.slice none 0 0] 26 (0, 0)) := heap_new _ _ _ rfl
  have hE2 : Ext w (w1.alloc (Obj.cells #[Value.slice none 0 0] 26)) := hE1.ext (by (repeat' first | exact Keep.refl _ _ | assumption | refine Keep.drew ?_ | refine Keep.alloc ?_ _ | refine Keep.putN ?_ _ ?_ | refine Keep.setCell ?_ _ ?_ | refine Keep.setO ?_ _ ?_ | exact fun _ => Or.inl rfl | exact fun _ => Or.inr rfl | exact fun _ => rfl | (intro hh; exfalso; ((try simp only [vcS] at hh) <;> omega))))
  have hS := St.start w _ hE2 hp hE1.size
  generalize w1.heap.size = p at hS ⊢
  generalize World.alloc _ _ = w2 at hS ⊢
  (refine W_at c5_ok ?_; refine ⟨_, rfl, ?_⟩; simp (disch := first | omega | assumption | rfl | (simp only [vcS] <;> omega) | fail) only [↓ptV_l, ↓vcA, vcB, ↓vcD, vcE, ↓reduceIte, Nat.reduceEqDiff, Nat.reduceAdd, Nat.reduceMul, Nat.reduceLeDiff, Int.reduceLE, Int.reduceLT, Int.reduceEq, Int.reduceToNat, Int.reduceAdd, Int.reduceSub, Int.reduceMul, Int.reduceNeg, reduceCtorEq, Option.bind_some, Option.map_some, List.length_cons, List.length_nil, vcM, List.getElem?_toArray, List.getElem?_cons_zero, List.getElem?_cons_succ])
  have hyl : ys.length = n := ha.len
  have hread : ∀ (m : Nat) (wj : World) (v : Value) (tl : Env), (m = 12 ∨ m = n) → m ≤ n → m ≤ 12 → St w wj p v (.slice none 0 0) (flatW (ys.take m)) [] → (flatW (ys.take m)).length ≤ 309 * m → byt (flatW (ys.take m)) →
      W Try.prog (Ret fun u w' => u = .bool true ∧ Ext w w') 5 25 ((0, .slice q n c) :: (1, .int .i64 at') :: (5, .pointer (some ⟨p, 0, none⟩)) :: tl) wj := by
    intro m wj v tl hm hmn hm40 hS hl hb
    generalize hfl : flatW (ys.take m) = fl at hS hl hb
    (refine W_at c5_ok ?_; refine ⟨_, rfl, ?_⟩; simp (disch := first | omega | assumption | rfl | (simp only [vcS] <;> omega) | fail) only [↓ptV_l, ↓vcA, vcB, ↓vcD, vcE, ↓reduceIte, Nat.reduceEqDiff, Nat.reduceAdd, Nat.reduceMul, Nat.reduceLeDiff, Int.reduceLE, Int.reduceLT, Int.reduceEq, Int.reduceToNat, Int.reduceAdd, Int.reduceSub, Int.reduceMul, Int.reduceNeg, reduceCtorEq, Option.bind_some, Option.map_some, List.length_cons, List.length_nil, vcM, List.getElem?_toArray, List.getElem?_cons_zero, List.getElem?_cons_succ])
    refine callV_ret (out_ok wj p v _ hS.at' (by omega)) ?_
    rintro o w3 ⟨h1, h2, h3⟩
    have hE3 := hS.ext.ext h2
    have hrd := h1.rd
    obtain ⟨⟨qo, co, rfl, hco⟩, _, _⟩ := id hrd
    have hyes : ∀ tl, W Try.prog (Ret fun u w' => u = .bool true ∧ Ext w w') 5 22 tl w3 := by
      intro tl
      (refine W_at c5_ok ?_; refine ⟨_, rfl, ?_⟩; simp (disch := first | omega | assumption | rfl | (simp only [vcS] <;> omega) | fail) only [↓ptV_l, ↓vcA, vcB, ↓vcD, vcE, ↓reduceIte, Nat.reduceEqDiff, Nat.reduceAdd, Nat.reduceMul, Nat.reduceLeDiff, Int.reduceLE, Int.reduceLT, Int.reduceEq, Int.reduceToNat, Int.reduceAdd, Int.reduceSub, Int.reduceMul, Int.reduceNeg, reduceCtorEq, Option.bind_some, Option.map_some, List.length_cons, List.length_nil, vcM, List.getElem?_toArray, List.getElem?_cons_zero, List.getElem?_cons_succ])
      (refine W_at c5_ok ?_; refine ⟨_, rfl, ?_⟩; simp (disch := first | omega | assumption | rfl | (simp only [vcS] <;> omega) | fail) only [↓ptV_l, ↓vcA, vcB, ↓vcD, vcE, ↓reduceIte, Nat.reduceEqDiff, Nat.reduceAdd, Nat.reduceMul, Nat.reduceLeDiff, Int.reduceLE, Int.reduceLT, Int.reduceEq, Int.reduceToNat, Int.reduceAdd, Int.reduceSub, Int.reduceMul, Int.reduceNeg, reduceCtorEq, Option.bind_some, Option.map_some, List.length_cons, List.length_nil, vcM, List.getElem?_toArray, List.getElem?_cons_zero, List.getElem?_cons_succ, Ret_returned])
      exact hE3
    by_cases hneg : at' < 0
    · (refine W_at c5_ok ?_; refine ⟨_, rfl, ?_⟩; simp (disch := first | omega | assumption | rfl | (simp only [vcS] <;> omega) | fail) only [↓ptV_l, ↓vcA, vcB, ↓vcD, vcE, ↓reduceIte, Nat.reduceEqDiff, Nat.reduceAdd, Nat.reduceMul, Nat.reduceLeDiff, Int.reduceLE, Int.reduceLT, Int.reduceEq, Int.reduceToNat, Int.reduceAdd, Int.reduceSub, Int.reduceMul, Int.reduceNeg, reduceCtorEq, Option.bind_some, Option.map_some, List.length_cons, List.length_nil, vcM, List.getElem?_toArray, List.getElem?_cons_zero, List.getElem?_cons_succ, hneg])
      (refine W_at c5_ok ?_; refine ⟨_, rfl, ?_⟩; simp (disch := first | omega | assumption | rfl | (simp only [vcS] <;> omega) | fail) only [↓ptV_l, ↓vcA, vcB, ↓vcD, vcE, ↓reduceIte, Nat.reduceEqDiff, Nat.reduceAdd, Nat.reduceMul, Nat.reduceLeDiff, Int.reduceLE, Int.reduceLT, Int.reduceEq, Int.reduceToNat, Int.reduceAdd, Int.reduceSub, Int.reduceMul, Int.reduceNeg, reduceCtorEq, Option.bind_some, Option.map_some, List.length_cons, List.length_nil, vcM, List.getElem?_toArray, List.getElem?_cons_zero, List.getElem?_cons_succ])
      exact hyes _
    by_cases hge : at' ≥ fl.length
    · (refine W_at c5_ok ?_; refine ⟨_, rfl, ?_⟩; simp (disch := first | omega | assumption | rfl | (simp only [vcS] <;> omega) | fail) only [↓ptV_l, ↓vcA, vcB, ↓vcD, vcE, ↓reduceIte, Nat.reduceEqDiff, Nat.reduceAdd, Nat.reduceMul, Nat.reduceLeDiff, Int.reduceLE, Int.reduceLT, Int.reduceEq, Int.reduceToNat, Int.reduceAdd, Int.reduceSub, Int.reduceMul, Int.reduceNeg, reduceCtorEq, Option.bind_some, Option.map_some, List.length_cons, List.length_nil, vcM, List.getElem?_toArray, List.getElem?_cons_zero, List.getElem?_cons_succ, hneg, hge])
      (refine W_at c5_ok ?_; refine ⟨_, rfl, ?_⟩; simp (disch := first | omega | assumption | rfl | (simp only [vcS] <;> omega) | fail) only [↓ptV_l, ↓vcA, vcB, ↓vcD, vcE, ↓reduceIte, Nat.reduceEqDiff, Nat.reduceAdd, Nat.reduceMul, Nat.reduceLeDiff, Int.reduceLE, Int.reduceLT, Int.reduceEq, Int.reduceToNat, Int.reduceAdd, Int.reduceSub, Int.reduceMul, Int.reduceNeg, reduceCtorEq, Option.bind_some, Option.map_some, List.length_cons, List.length_nil, vcM, List.getElem?_toArray, List.getElem?_cons_zero, List.getElem?_cons_succ])
      exact hyes _
    (refine W_at c5_ok ?_; refine ⟨_, rfl, ?_⟩; simp (disch := first | omega | assumption | rfl | (simp only [vcS] <;> omega) | fail) only [↓ptV_l, ↓vcA, vcB, ↓vcD, vcE, ↓reduceIte, Nat.reduceEqDiff, Nat.reduceAdd, Nat.reduceMul, Nat.reduceLeDiff, Int.reduceLE, Int.reduceLT, Int.reduceEq, Int.reduceToNat, Int.reduceAdd, Int.reduceSub, Int.reduceMul, Int.reduceNeg, reduceCtorEq, Option.bind_some, Option.map_some, List.length_cons, List.length_nil, vcM, List.getElem?_toArray, List.getElem?_cons_zero, List.getElem?_cons_succ, hneg, hge])
    (refine W_at c5_ok ?_; refine ⟨_, rfl, ?_⟩; simp (disch := first | omega | assumption | rfl | (simp only [vcS] <;> omega) | fail) only [↓ptV_l, ↓vcA, vcB, ↓vcD, vcE, ↓reduceIte, Nat.reduceEqDiff, Nat.reduceAdd, Nat.reduceMul, Nat.reduceLeDiff, Int.reduceLE, Int.reduceLT, Int.reduceEq, Int.reduceToNat, Int.reduceAdd, Int.reduceSub, Int.reduceMul, Int.reduceNeg, reduceCtorEq, Option.bind_some, Option.map_some, List.length_cons, List.length_nil, vcM, List.getElem?_toArray, List.getElem?_cons_zero, List.getElem?_cons_succ])
    have hsl2 : 0 ≤ at' ∧ at' ≤ co := by omega
    have hcut := hrd.cut (l := 0) (j := at'.toNat) (by omega) (by omega)
    rw [List.drop_zero] at hcut
    (refine W_at c5_ok ?_; refine ⟨_, rfl, ?_⟩; simp (disch := first | omega | assumption | rfl | (simp only [vcS] <;> omega) | fail) only [↓vcL1, ptS2_eq, ↓vcA, vcB, ↓vcD, vcE, ↓reduceIte, Nat.reduceEqDiff, Nat.reduceAdd, Nat.reduceMul, Nat.reduceLeDiff, Int.reduceLE, Int.reduceLT, Int.reduceEq, Int.reduceToNat, Int.reduceAdd, Int.reduceSub, Int.reduceMul, Int.reduceNeg, reduceCtorEq, Option.bind_some, Option.map_some, List.length_cons, List.length_nil, vcM, List.getElem?_toArray, List.getElem?_cons_zero, List.getElem?_cons_succ, hsl2])
    have hzI : zc [(1, Value.slice none 0 0), (2, Value.int .i64 0)] = #[.slice none 0 0, .int .i64 0, .int .i64 0] := rfl
    have hzI2 : zc [(2, Value.int .i64 0)] = #[.int .i64 0, .int .i64 0] := rfl
    have hap : (#[Value.slice qo at'.toNat co] ++ #[Value.int .i64 0, .int .i64 0] : Array Value) = #[.slice qo at'.toNat co, .int .i64 0, .int .i64 0] := rfl
    have hsub : at'.toNat - 0 = at'.toNat := rfl
    have hsub2 : co - 0 = co := rfl
    have hadv : advA 1 qo co 0 = qo := advA_0 _ _ _
    rw [hadv, hsub, hsub2] at hcut
    have hR0 : ∀ (r B p9 : Nat) (v : Value) (wj : World), Ext w3 wj → RAt wj r B v (fl.take at'.toNat) 0 → B < wj.heap.size → w3.heap.size ≤ r → w3.heap.size ≤ p9 → p9 ≠ r → p9 ≠ B → wj.heap[p9]? = some (.cells #[.slice qo at'.toNat co, .int .i64 0, .int .i64 0] 49 (0, 0)) →
        W Try.prog (Ret fun u w' => u = .bool true ∧ Ext w w') 5 19 [(0, .slice q n c), (8, .pointer (some ⟨r, 0, none⟩)), (9, .pointer (some ⟨p9, 0, none⟩))] wj := by
      intro r B p9 v wj hE hR hB hr hp9 hp9r hp9B h9
      have hll : (fl.take at'.toNat).length = at'.toNat := by rw [List.length_take]; omega
      have hbl : byt (fl.take at'.toNat) := byt_take hb _
      (refine W_at c5_ok ?_; refine ⟨_, rfl, ?_⟩; simp (disch := first | omega | assumption | rfl | (simp only [vcS] <;> omega) | fail) only [↓ptV_l, ↓vcA, vcB, ↓vcD, vcE, ↓reduceIte, Nat.reduceEqDiff, Nat.reduceAdd, Nat.reduceMul, Nat.reduceLeDiff, Int.reduceLE, Int.reduceLT, Int.reduceEq, Int.reduceToNat, Int.reduceAdd, Int.reduceSub, Int.reduceMul, Int.reduceNeg, reduceCtorEq, Option.bind_some, Option.map_some, List.length_cons, List.length_nil, vcM, List.getElem?_toArray, List.getElem?_cons_zero, List.getElem?_cons_succ])
      have hcut0 : Cut (flatW ((ys.take m).drop 0)) ((fl.take at'.toNat).drop 0) 0 := .inl ⟨rfl, at'.toNat, by rw [List.drop_zero, hfl]; omega, by rw [List.drop_zero, List.drop_zero, hfl]⟩
      generalize hl' : fl.take at'.toNat = l' at hcut hR hll hbl hcut0
      generalize hxx : Value.slice qo at'.toNat co = xx at hcut h9
      have hcut' := hcut
      have R : ∀ (k i : Nat) (wj : World) (v : Value) (a : Nat) (e : Int), k + i = m → Ext w3 wj → RAt wj r B v (l'.drop a) e → B < wj.heap.size → a ≤ l'.length → wj.heap[p9]? = some (.cells #[xx, .int .i64 a, .int .i64 e] 49 (0, 0)) → Cut (flatW ((ys.take m).drop i)) (l'.drop a) e →
          W Try.prog (Ret fun u w' => u = .bool true ∧ Ext w w') 5 18 [(0, .slice q n c), (8, .pointer (some ⟨r, 0, none⟩)), (9, .pointer (some ⟨p9, 0, none⟩)), (10, .int .i64 i)] wj := by
        intro k
        induction k with
        | zero =>
          intro i wj v a e hi hE hR hB hal h9 hcut
          obtain rfl : i = m := by omega
          have hfin : ∀ tl, W Try.prog (Ret fun u w' => u = .bool true ∧ Ext w w') 5 2 ((0, .slice q n c) :: (8, .pointer (some ⟨r, 0, none⟩)) :: (9, .pointer (some ⟨p9, 0, none⟩)) :: tl) wj := by
            intro tl
            have he : e = 4 := Cut.end (rem := l'.drop a) (by
              have : flatW ((ys.take i).drop i) = [] := by rw [List.drop_eq_nil_of_le (by rw [List.length_take]; omega)]; rfl
              rwa [this] at hcut)
            subst he
            (refine W_at c5_ok ?_; refine ⟨_, rfl, ?_⟩; simp (disch := first | omega | assumption | rfl | (simp only [vcS] <;> omega) | fail) only [↓vcL1, ptS2_eq, ↓vcA, vcB, ↓vcD, vcE, ↓reduceIte, Nat.reduceEqDiff, Nat.reduceAdd, Nat.reduceMul, Nat.reduceLeDiff, Int.reduceLE, Int.reduceLT, Int.reduceEq, Int.reduceToNat, Int.reduceAdd, Int.reduceSub, Int.reduceMul, Int.reduceNeg, reduceCtorEq, Option.bind_some, Option.map_some, List.length_cons, List.length_nil, vcM, List.getElem?_toArray, List.getElem?_cons_zero, List.getElem?_cons_succ])
            refine callV_ret (err_ok wj r B v _ 4 hR) ?_
            rintro _ w6 ⟨rfl, hw⟩
            obtain rfl : wj = w6 := hw.symm
            simp (disch := first | omega | assumption | rfl | (simp only [vcS] <;> omega) | fail) only [↓vcL2, ptS1_eq, ↓vcA, vcB, ↓vcD, vcE, ↓reduceIte, Nat.reduceEqDiff, Nat.reduceAdd, Nat.reduceMul, Nat.reduceLeDiff, Int.reduceLE, Int.reduceLT, Int.reduceEq, Int.reduceToNat, Int.reduceAdd, Int.reduceSub, Int.reduceMul, Int.reduceNeg, reduceCtorEq, Option.bind_some, Option.map_some, List.length_cons, List.length_nil, vcM, List.getElem?_toArray, List.getElem?_cons_zero, List.getElem?_cons_succ]
            refine callV_ret (close_ok wj r B v _ 4 hR) ?_
            rintro _ w6 ⟨rfl, hw⟩
            obtain rfl : wj = w6 := hw.symm
            rw [if_neg (by omega)]
            simp (disch := first | omega | assumption | rfl | (simp only [vcS] <;> omega) | fail) only [↓vcL1, ptS2_eq, ↓vcA, vcB, ↓vcD, vcE, ↓reduceIte, Nat.reduceEqDiff, Nat.reduceAdd, Nat.reduceMul, Nat.reduceLeDiff, Int.reduceLE, Int.reduceLT, Int.reduceEq, Int.reduceToNat, Int.reduceAdd, Int.reduceSub, Int.reduceMul, Int.reduceNeg, reduceCtorEq, Option.bind_some, Option.map_some, List.length_cons, List.length_nil, vcM, List.getElem?_toArray, List.getElem?_cons_zero, List.getElem?_cons_succ, h9]
            (refine W_at c5_ok ?_; refine ⟨_, rfl, ?_⟩; simp (disch := first | omega | assumption | rfl | (simp only [vcS] <;> omega) | fail) only [↓ptV_l, ↓vcA, vcB, ↓vcD, vcE, ↓reduceIte, Nat.reduceEqDiff, Nat.reduceAdd, Nat.reduceMul, Nat.reduceLeDiff, Int.reduceLE, Int.reduceLT, Int.reduceEq, Int.reduceToNat, Int.reduceAdd, Int.reduceSub, Int.reduceMul, Int.reduceNeg, reduceCtorEq, Option.bind_some, Option.map_some, List.length_cons, List.length_nil, vcM, List.getElem?_toArray, List.getElem?_cons_zero, List.getElem?_cons_succ, Ret_returned])
            exact hE3.ext hE
          by_cases hin : (i : Int) < n
          · have h40 : ¬ ((i : Int) < 12) := by omega
            (refine W_at c5_ok ?_; refine ⟨_, rfl, ?_⟩; simp (disch := first | omega | assumption | rfl | (simp only [vcS] <;> omega) | fail) only [↓ptV_l, ↓vcA, vcB, ↓vcD, vcE, ↓reduceIte, Nat.reduceEqDiff, Nat.reduceAdd, Nat.reduceMul, Nat.reduceLeDiff, Int.reduceLE, Int.reduceLT, Int.reduceEq, Int.reduceToNat, Int.reduceAdd, Int.reduceSub, Int.reduceMul, Int.reduceNeg, reduceCtorEq, Option.bind_some, Option.map_some, List.length_cons, List.length_nil, vcM, List.getElem?_toArray, List.getElem?_cons_zero, List.getElem?_cons_succ, hin, h40])
            (refine W_at c5_ok ?_; refine ⟨_, rfl, ?_⟩; simp (disch := first | omega | assumption | rfl | (simp only [vcS] <;> omega) | fail) only [↓ptV_l, ↓vcA, vcB, ↓vcD, vcE, ↓reduceIte, Nat.reduceEqDiff, Nat.reduceAdd, Nat.reduceMul, Nat.reduceLeDiff, Int.reduceLE, Int.reduceLT, Int.reduceEq, Int.reduceToNat, Int.reduceAdd, Int.reduceSub, Int.reduceMul, Int.reduceNeg, reduceCtorEq, Option.bind_some, Option.map_some, List.length_cons, List.length_nil, vcM, List.getElem?_toArray, List.getElem?_cons_zero, List.getElem?_cons_succ])
            exact hfin _
          · (refine W_at c5_ok ?_; refine ⟨_, rfl, ?_⟩; simp (disch := first | omega | assumption | rfl | (simp only [vcS] <;> omega) | fail) only [↓ptV_l, ↓vcA, vcB, ↓vcD, vcE, ↓reduceIte, Nat.reduceEqDiff, Nat.reduceAdd, Nat.reduceMul, Nat.reduceLeDiff, Int.reduceLE, Int.reduceLT, Int.reduceEq, Int.reduceToNat, Int.reduceAdd, Int.reduceSub, Int.reduceMul, Int.reduceNeg, reduceCtorEq, Option.bind_some, Option.map_some, List.length_cons, List.length_nil, vcM, List.getElem?_toArray, List.getElem?_cons_zero, List.getElem?_cons_succ, hin])
            (refine W_at c5_ok ?_; refine ⟨_, rfl, ?_⟩; simp (disch := first | omega | assumption | rfl | (simp only [vcS] <;> omega) | fail) only [↓ptV_l, ↓vcA, vcB, ↓vcD, vcE, ↓reduceIte, Nat.reduceEqDiff, Nat.reduceAdd, Nat.reduceMul, Nat.reduceLeDiff, Int.reduceLE, Int.reduceLT, Int.reduceEq, Int.reduceToNat, Int.reduceAdd, Int.reduceSub, Int.reduceMul, Int.reduceNeg, reduceCtorEq, Option.bind_some, Option.map_some, List.length_cons, List.length_nil, vcM, List.getElem?_toArray, List.getElem?_cons_zero, List.getElem?_cons_succ])
            exact hfin _
        | succ k ih =>
          intro i wj v a e hi hE hR hB hal h9 hcut
          have hin : (i : Int) < n := by omega
          have h40 : (i : Int) < 12 := by omega
          have hi2 : 0 ≤ (i : Int) ∧ (i : Int) < n := by omega
          have hwi : IntKind.i64.wrap ((i : Int) + 1) = ((i + 1 : Nat) : Int) := wrap_i64 (by omega) (by omega)
          obtain ⟨bq, oq, ca, kind, nn, bb, x, rfl, hyi, hax, hrd, hat, hsz, hc0, hc1, hc2, hxr⟩ := ha.at (hE3.ext hE) (i := i) (by omega)
          have hdrop : (ys.take m).drop i = (kind, nn, bb) :: (ys.take m).drop (i + 1) := by
            have hlt : i < (ys.take m).length := by rw [List.length_take]; omega
            rw [List.drop_eq_getElem_cons hlt]
            have : (ys.take m)[i] = (kind, nn, bb) := by
              rw [List.getElem_take]
              have := List.getElem?_eq_getElem (l := ys) (i := i) (by omega)
              rw [hyi] at this; exact (Option.some.inj this).symm
            rw [this]
          have hnum := hat.num
          (refine W_at c5_ok ?_; refine ⟨_, rfl, ?_⟩; simp (disch := first | omega | assumption | rfl | (simp only [vcS] <;> omega) | fail) only [↓ptV_l, ↓vcA, vcB, ↓vcD, vcE, ↓reduceIte, Nat.reduceEqDiff, Nat.reduceAdd, Nat.reduceMul, Nat.reduceLeDiff, Int.reduceLE, Int.reduceLT, Int.reduceEq, Int.reduceToNat, Int.reduceAdd, Int.reduceSub, Int.reduceMul, Int.reduceNeg, reduceCtorEq, Option.bind_some, Option.map_some, List.length_cons, List.length_nil, vcM, List.getElem?_toArray, List.getElem?_cons_zero, List.getElem?_cons_succ, hin, h40])
          (refine W_at c5_ok ?_; refine ⟨_, rfl, ?_⟩; simp (disch := first | omega | assumption | rfl | (simp only [vcS] <;> omega) | fail) only [↓ptV_l, ↓vcA, vcB, ↓vcD, vcE, ↓reduceIte, Nat.reduceEqDiff, Nat.reduceAdd, Nat.reduceMul, Nat.reduceLeDiff, Int.reduceLE, Int.reduceLT, Int.reduceEq, Int.reduceToNat, Int.reduceAdd, Int.reduceSub, Int.reduceMul, Int.reduceNeg, reduceCtorEq, Option.bind_some, Option.map_some, List.length_cons, List.length_nil, vcM, List.getElem?_toArray, List.getElem?_cons_zero, List.getElem?_cons_succ])
          have hnext : ∀ (s : Env) (wx : World) (v' : Value) (a' : Nat) (e' : Int), Ext w3 wx → RAt wx r B v' (l'.drop a') e' → B < wx.heap.size → a' ≤ l'.length → wx.heap[p9]? = some (.cells #[xx, .int .i64 a', .int .i64 e'] 49 (0, 0)) → Cut (flatW ((ys.take m).drop (i + 1))) (l'.drop a') e' →
              W Try.prog (Ret fun u w' => u = .bool true ∧ Ext w w') 5 4 ((0, .slice (some ⟨bq, oq, none⟩) n c) :: (8, .pointer (some ⟨r, 0, none⟩)) :: (9, .pointer (some ⟨p9, 0, none⟩)) :: (10, .int .i64 i) :: s) wx := by
            intro s wx v' a' e' hE hR hB hal h9 hcut
            (refine W_at c5_ok ?_; refine ⟨_, rfl, ?_⟩; simp (disch := first | omega | assumption | rfl | (simp only [vcS] <;> omega) | fail) only [↓ptV_l, ↓vcA, vcB, ↓vcD, vcE, ↓reduceIte, Nat.reduceEqDiff, Nat.reduceAdd, Nat.reduceMul, Nat.reduceLeDiff, Int.reduceLE, Int.reduceLT, Int.reduceEq, Int.reduceToNat, Int.reduceAdd, Int.reduceSub, Int.reduceMul, Int.reduceNeg, reduceCtorEq, Option.bind_some, Option.map_some, List.length_cons, List.length_nil, vcM, List.getElem?_toArray, List.getElem?_cons_zero, List.getElem?_cons_succ, hwi])
            (refine W_at c5_ok ?_; refine ⟨_, rfl, ?_⟩; simp (disch := first | omega | assumption | rfl | (simp only [vcS] <;> omega) | fail) only [↓ptV_l, ↓vcA, vcB, ↓vcD, vcE, ↓reduceIte, Nat.reduceEqDiff, Nat.reduceAdd, Nat.reduceMul, Nat.reduceLeDiff, Int.reduceLE, Int.reduceLT, Int.reduceEq, Int.reduceToNat, Int.reduceAdd, Int.reduceSub, Int.reduceMul, Int.reduceNeg, reduceCtorEq, Option.bind_some, Option.map_some, List.length_cons, List.length_nil, vcM, List.getElem?_toArray, List.getElem?_cons_zero, List.getElem?_cons_succ])
            exact ih (i + 1) wx v' a' e' (by omega) hE hR hB hal h9 hcut
          by_cases hkeep : kind = 5 ∧ 33554432 < nn
          · obtain ⟨rfl, hbig⟩ := hkeep
            (refine W_at c5_ok ?_; refine ⟨_, rfl, ?_⟩; simp (disch := first | omega | assumption | rfl | (simp only [vcS] <;> omega) | fail) only [↓ptV_l, ↓vcA, vcB, ↓vcD, vcE, ↓reduceIte, Nat.reduceEqDiff, Nat.reduceAdd, Nat.reduceMul, Nat.reduceLeDiff, Int.reduceLE, Int.reduceLT, Int.reduceEq, Int.reduceToNat, Int.reduceAdd, Int.reduceSub, Int.reduceMul, Int.reduceNeg, reduceCtorEq, Option.bind_some, Option.map_some, List.length_cons, List.length_nil, vcM, List.getElem?_toArray, List.getElem?_cons_zero, List.getElem?_cons_succ, hi2, Int.toNat_natCast, hc0, hc1, hbig])
            (refine W_at c5_ok ?_; refine ⟨_, rfl, ?_⟩; simp (disch := first | omega | assumption | rfl | (simp only [vcS] <;> omega) | fail) only [↓ptV_l, ↓vcA, vcB, ↓vcD, vcE, ↓reduceIte, Nat.reduceEqDiff, Nat.reduceAdd, Nat.reduceMul, Nat.reduceLeDiff, Int.reduceLE, Int.reduceLT, Int.reduceEq, Int.reduceToNat, Int.reduceAdd, Int.reduceSub, Int.reduceMul, Int.reduceNeg, reduceCtorEq, Option.bind_some, Option.map_some, List.length_cons, List.length_nil, vcM, List.getElem?_toArray, List.getElem?_cons_zero, List.getElem?_cons_succ])
            refine hnext _ wj v a e hE hR hB hal h9 ?_
            rw [hdrop] at hcut
            have hk : keepY (5, nn, bb) = false := by simp [keepY]; omega
            rw [flatW, List.filter_cons_of_neg (by rw [hk]; decide)] at hcut
            exact hcut
          · have hk : keepY (kind, nn, bb) = true := by simp [keepY]; omega
            rw [hdrop, flatW, List.filter_cons_of_pos hk, List.flatMap_cons] at hcut
            have hfla : flat ca := by rw [hax]; intro z hz; simp at hz; rcases hz with rfl | rfl | rfl; rfl; rfl; exact hxr.one
            have hzA : zc [(1, Value.int .i64 0), (1, .int .u64 0), (1, .slice none 0 0)] = #[.int .i64 0, .int .u64 0, .slice none 0 0] := rfl
            have hzs : (#[Value.int .i64 0, .int .u64 0, .slice none 0 0] : Array Value).size = 3 := rfl
            have hEa : Ext wj ((wj.alloc (Obj.cells #[Value.int .i64 0, .int .u64 0, .slice none 0 0] 31)).putN wj.heap.size 0 ca) := by (repeat' first | exact Keep.refl _ _ | assumption | refine Keep.drew ?_ | refine Keep.alloc ?_ _ | refine Keep.putN ?_ _ ?_ | refine Keep.setCell ?_ _ ?_ | refine Keep.setO ?_ _ ?_ | exact fun _ => Or.inl rfl | exact fun _ => Or.inr rfl | exact fun _ => rfl | (intro hh; exfalso; ((try simp only [vcS] at hh) <;> omega)))
            have h11 : ((wj.alloc (Obj.cells #[Value.int .i64 0, .int .u64 0, .slice none 0 0] 31)).putN wj.heap.size 0 ca).heap[wj.heap.size]? = some (.cells #[.int .i64 kind, .int .u64 nn, x] 31 (0, 0)) := by rw [hax]; exact heap_local wj rfl
            have hs3 := hE.size
            have hrl := hR.lt
            have h9l := lt_of_heap h9
            have hmain : W Try.prog (Ret fun u w' => u = .bool true ∧ Ext w w') 5 13 [(0, .slice (some ⟨bq, oq, none⟩) n c), (8, .pointer (some ⟨r, 0, none⟩)), (9, .pointer (some ⟨p9, 0, none⟩)), (10, .int .i64 i), (11, .pointer (some ⟨wj.heap.size, 0, none⟩))]
                ((wj.alloc (Obj.cells #[Value.int .i64 0, .int .u64 0, .slice none 0 0] 31)).putN wj.heap.size 0 ca) := by
              generalize hp11 : wj.heap.size = p11 at h11 hEa h9l hrl ⊢
              generalize World.putN _ _ _ _ = wa at h11 hEa ⊢
              have hEa3 : Ext w3 wa := hE.ext hEa
              have hRa : RAt wa r B v (l'.drop a) e := hR.ext hEa
              have h9a := hEa.at h9 fun h => h
              have hread : ∀ (wb : World) (N : Int) (s : Env), N = nnA kind nn bb → Ext w3 wb → RAt wb r B v (l'.drop a) e → B < wb.heap.size → wb.heap[p9]? = some (.cells #[xx, .int .i64 a, .int .i64 e] 49 (0, 0)) → wb.heap[p11]? = some (.cells #[.int .i64 kind, .int .u64 N, x] 31 (0, 0)) →
                  W Try.prog (Ret fun u w' => u = .bool true ∧ Ext w w') 5 10 ((0, .slice (some ⟨bq, oq, none⟩) n c) :: (8, .pointer (some ⟨r, 0, none⟩)) :: (9, .pointer (some ⟨p9, 0, none⟩)) :: (10, .int .i64 i) :: (11, .pointer (some ⟨p11, 0, none⟩)) :: s) wb := by
                intro wb N s hN hEb hRb hBb h9b h11b
                have hnA : 0 ≤ N ∧ N < 18446744073709551616 := by
                  have h3 : (bb.take 300).length ≤ 300 := by rw [List.length_take]; omega
                  rw [hN]; unfold nnA; split <;> omega
                have ho3 : x.oneCell' = true := hxr.one
                (refine W_at c5_ok ?_; refine ⟨_, rfl, ?_⟩; simp (disch := first | omega | assumption | rfl | (simp only [vcS] <;> omega) | fail) only [↓ptV_l, ↓vcA, vcB, ↓vcD, vcE, ↓reduceIte, Nat.reduceEqDiff, Nat.reduceAdd, Nat.reduceMul, Nat.reduceLeDiff, Int.reduceLE, Int.reduceLT, Int.reduceEq, Int.reduceToNat, Int.reduceAdd, Int.reduceSub, Int.reduceMul, Int.reduceNeg, reduceCtorEq, Option.bind_some, Option.map_some, List.length_cons, List.length_nil, vcM, List.getElem?_toArray, List.getElem?_cons_zero, List.getElem?_cons_succ, h9b, h11b, rdO3])
                refine callV_ret (read_ok wb r B v xx l' a e #[.int .i64 kind, .int .u64 N, x] kind N bb (hcut'.ext hEb) hbl hal (by omega) hRb hBb ⟨x, rfl, ho3⟩ hnA) ?_
                rintro u wc ⟨hkc, a', e', v', rfl, hal', hRc, g1, g2, g3⟩
                have h9c := hkc.at h9b hp9r
                have hEc : Ext w3 wc := hEb.trans hkc fun j hj (h : j = r) => by omega
                have hx1 : xx.oneCell' = true := hcut'.one
                have hcutc : Cut (flatW ((ys.take m).drop (i + 1))) (l'.drop a') e' := by
                  refine Cut.step (kind := kind) (n := nn) (b := bb) hnum (by omega) hcut (fun h => (g1 h).2) (fun h t ht => ?_) (fun h k ht => ?_)
                  · rw [← hN] at ht; exact g2 h t ht
                  · rw [← hN] at ht; exact (g3 h k ht).2
                simp (disch := first | omega | assumption | rfl | (simp only [vcS] <;> omega) | fail) only [↓ptV_l, ↓vcA, vcB, ↓vcD, vcE, ↓reduceIte, Nat.reduceEqDiff, Nat.reduceAdd, Nat.reduceMul, Nat.reduceLeDiff, Int.reduceLE, Int.reduceLT, Int.reduceEq, Int.reduceToNat, Int.reduceAdd, Int.reduceSub, Int.reduceMul, Int.reduceNeg, reduceCtorEq, Option.bind_some, Option.map_some, List.length_cons, List.length_nil, vcM, List.getElem?_toArray, List.getElem?_cons_zero, List.getElem?_cons_succ, hzI, hx1]
                have hEd : Ext wc ((wc.alloc (Obj.cells #[Value.slice none 0 0, Value.int IntKind.i64 0, Value.int IntKind.i64 0] 49)).putN wc.heap.size 0 #[xx, Value.int IntKind.i64 ↑a', Value.int IntKind.i64 e']) := by (repeat' first | exact Keep.refl _ _ | assumption | refine Keep.drew ?_ | refine Keep.alloc ?_ _ | refine Keep.putN ?_ _ ?_ | refine Keep.setCell ?_ _ ?_ | refine Keep.setO ?_ _ ?_ | exact fun _ => Or.inl rfl | exact fun _ => Or.inr rfl | exact fun _ => rfl | (intro hh; exfalso; ((try simp only [vcS] at hh) <;> omega)))
                have h12 : ((wc.alloc (Obj.cells #[Value.slice none 0 0, Value.int IntKind.i64 0, Value.int IntKind.i64 0] 49)).putN wc.heap.size 0 #[xx, Value.int IntKind.i64 ↑a', Value.int IntKind.i64 e']).heap[wc.heap.size]? = some (.cells #[xx, .int .i64 a', .int .i64 e'] 49 (0, 0)) := heap_local wc rfl
                have h9d := hEd.at h9c fun h => h
                have hBc' := Nat.lt_of_lt_of_le hBb hkc.size
                generalize wc.heap.size = p12 at h12 hEd h9d ⊢
                generalize World.putN _ _ _ _ = wd at h12 hEd h9d ⊢
                (refine W_at c5_ok ?_; refine ⟨_, rfl, ?_⟩; simp (disch := first | omega | assumption | rfl | (simp only [vcS] <;> omega) | fail) only [↓ptV_l, ↓vcA, vcB, ↓vcD, vcE, ↓reduceIte, Nat.reduceEqDiff, Nat.reduceAdd, Nat.reduceMul, Nat.reduceLeDiff, Int.reduceLE, Int.reduceLT, Int.reduceEq, Int.reduceToNat, Int.reduceAdd, Int.reduceSub, Int.reduceMul, Int.reduceNeg, reduceCtorEq, Option.bind_some, Option.map_some, List.length_cons, List.length_nil, vcM, List.getElem?_toArray, List.getElem?_cons_zero, List.getElem?_cons_succ, h12, h9d, rdO3, hx1])
                have hkd : Keep (fun i => i = p9) wd (wd.putN p9 0 #[xx, .int .i64 a', .int .i64 e']) := (Keep.refl _ wd).putN _ fun _ => rfl
                have h9e : (wd.putN p9 0 #[xx, .int .i64 a', .int .i64 e']).heap[p9]? = some (.cells #[xx, .int .i64 a', .int .i64 e'] 49 (0, 0)) := by rw [heap_putN_eq h9d, splice_all (by rfl)]
                have hEe : Ext w3 (wd.putN p9 0 #[xx, .int .i64 a', .int .i64 e']) := (hEc.ext hEd).putN _ (by omega)
                have hRe : RAt (wd.putN p9 0 #[xx, .int .i64 a', .int .i64 e']) r B v' (l'.drop a') e' := (hRc.ext hEd).keep hkd (fun h => hp9r h.symm) fun _ h => hp9B h.symm
                have hBe : B < (wd.putN p9 0 #[xx, .int .i64 a', .int .i64 e']).heap.size := by rw [size_putN]; exact Nat.lt_of_lt_of_le hBc' hEd.size
                generalize World.putN _ _ _ _ = we at h9e hEe hRe hBe ⊢
                (refine W_at c5_ok ?_; refine ⟨_, rfl, ?_⟩; simp (disch := first | omega | assumption | rfl | (simp only [vcS] <;> omega) | fail) only [↓ptV_l, ↓vcA, vcB, ↓vcD, vcE, ↓reduceIte, Nat.reduceEqDiff, Nat.reduceAdd, Nat.reduceMul, Nat.reduceLeDiff, Int.reduceLE, Int.reduceLT, Int.reduceEq, Int.reduceToNat, Int.reduceAdd, Int.reduceSub, Int.reduceMul, Int.reduceNeg, reduceCtorEq, Option.bind_some, Option.map_some, List.length_cons, List.length_nil, vcM, List.getElem?_toArray, List.getElem?_cons_zero, List.getElem?_cons_succ])
                (refine W_at c5_ok ?_; refine ⟨_, rfl, ?_⟩; simp (disch := first | omega | assumption | rfl | (simp only [vcS] <;> omega) | fail) only [↓ptV_l, ↓vcA, vcB, ↓vcD, vcE, ↓reduceIte, Nat.reduceEqDiff, Nat.reduceAdd, Nat.reduceMul, Nat.reduceLeDiff, Int.reduceLE, Int.reduceLT, Int.reduceEq, Int.reduceToNat, Int.reduceAdd, Int.reduceSub, Int.reduceMul, Int.reduceNeg, reduceCtorEq, Option.bind_some, Option.map_some, List.length_cons, List.length_nil, vcM, List.getElem?_toArray, List.getElem?_cons_zero, List.getElem?_cons_succ])
                exact hnext _ we v' a' e' hEe hRe hBe hal' h9e hcutc
              have hchg : kind < 1 ∨ 5 < kind → W Try.prog (Ret fun u w' => u = .bool true ∧ Ext w w') 5 11 [(0, .slice (some ⟨bq, oq, none⟩) n c), (8, .pointer (some ⟨r, 0, none⟩)), (9, .pointer (some ⟨p9, 0, none⟩)), (10, .int .i64 i), (11, .pointer (some ⟨p11, 0, none⟩)), (97, .bool true)] wa := by
                intro hk
                (refine W_at c5_ok ?_; refine ⟨_, rfl, ?_⟩; simp (disch := first | omega | assumption | rfl | (simp only [vcS] <;> omega) | fail) only [↓ptV_l, ↓vcA, vcB, ↓vcD, vcE, ↓reduceIte, Nat.reduceEqDiff, Nat.reduceAdd, Nat.reduceMul, Nat.reduceLeDiff, Int.reduceLE, Int.reduceLT, Int.reduceEq, Int.reduceToNat, Int.reduceAdd, Int.reduceSub, Int.reduceMul, Int.reduceNeg, reduceCtorEq, Option.bind_some, Option.map_some, List.length_cons, List.length_nil, vcM, List.getElem?_toArray, List.getElem?_cons_zero, List.getElem?_cons_succ, h11])
                refine callV_ret (short_ok wa x bb ((hxr.ext (hE3.ext hEa3)))) ?_
                rintro y wb ⟨hy, hw⟩
                obtain rfl : wa = wb := hw.symm
                have hyl := (hy wa (hxr.ext (hE3.ext hEa3))).len
                have h3 : (bb.take 300).length ≤ 300 := by rw [List.length_take]; omega
                have hcw : IntKind.u64.wrap ((bb.take 300).length : Nat) = ((bb.take 300).length : Nat) := by rw [wrap_u64]; omega
                simp (disch := first | omega | assumption | rfl | (simp only [vcS] <;> omega) | fail) only [↓ptV_l, ↓vcA, vcB, ↓vcD, vcE, ↓reduceIte, Nat.reduceEqDiff, Nat.reduceAdd, Nat.reduceMul, Nat.reduceLeDiff, Int.reduceLE, Int.reduceLT, Int.reduceEq, Int.reduceToNat, Int.reduceAdd, Int.reduceSub, Int.reduceMul, Int.reduceNeg, reduceCtorEq, Option.bind_some, Option.map_some, List.length_cons, List.length_nil, vcM, List.getElem?_toArray, List.getElem?_cons_zero, List.getElem?_cons_succ, hyl, hcw, h11]
                refine ⟨wr1_of h11 (by simp), ?_⟩
                have hks : Keep (fun i => i = p11) wa (wa.setCell ⟨p11, 1, none⟩ (.int .u64 ((bb.take 300).length : Nat))) := (Keep.refl _ wa).setCell _ fun _ => rfl
                have hsz1 := hks.size
                refine hread _ _ _ (by rw [nnA, if_pos hk]) (hEa3.setCell _ (by omega)) (hRa.keep hks (by omega) (by omega)) (Nat.lt_of_lt_of_le (Nat.lt_of_lt_of_le hB hEa.size) hsz1) (hks.at h9a (by omega)) (by rw [heap_setCell_eq h11]; rfl)
              by_cases hk1 : kind < 1
              · (refine W_at c5_ok ?_; refine ⟨_, rfl, ?_⟩; simp (disch := first | omega | assumption | rfl | (simp only [vcS] <;> omega) | fail) only [↓ptV_l, ↓vcA, vcB, ↓vcD, vcE, ↓reduceIte, Nat.reduceEqDiff, Nat.reduceAdd, Nat.reduceMul, Nat.reduceLeDiff, Int.reduceLE, Int.reduceLT, Int.reduceEq, Int.reduceToNat, Int.reduceAdd, Int.reduceSub, Int.reduceMul, Int.reduceNeg, reduceCtorEq, Option.bind_some, Option.map_some, List.length_cons, List.length_nil, vcM, List.getElem?_toArray, List.getElem?_cons_zero, List.getElem?_cons_succ, h11, hk1])
                (refine W_at c5_ok ?_; refine ⟨_, rfl, ?_⟩; simp (disch := first | omega | assumption | rfl | (simp only [vcS] <;> omega) | fail) only [↓ptV_l, ↓vcA, vcB, ↓vcD, vcE, ↓reduceIte, Nat.reduceEqDiff, Nat.reduceAdd, Nat.reduceMul, Nat.reduceLeDiff, Int.reduceLE, Int.reduceLT, Int.reduceEq, Int.reduceToNat, Int.reduceAdd, Int.reduceSub, Int.reduceMul, Int.reduceNeg, reduceCtorEq, Option.bind_some, Option.map_some, List.length_cons, List.length_nil, vcM, List.getElem?_toArray, List.getElem?_cons_zero, List.getElem?_cons_succ])
                exact hchg (.inl hk1)
              by_cases hk5 : 5 < kind
              · (refine W_at c5_ok ?_; refine ⟨_, rfl, ?_⟩; simp (disch := first | omega | assumption | rfl | (simp only [vcS] <;> omega) | fail) only [↓ptV_l, ↓vcA, vcB, ↓vcD, vcE, ↓reduceIte, Nat.reduceEqDiff, Nat.reduceAdd, Nat.reduceMul, Nat.reduceLeDiff, Int.reduceLE, Int.reduceLT, Int.reduceEq, Int.reduceToNat, Int.reduceAdd, Int.reduceSub, Int.reduceMul, Int.reduceNeg, reduceCtorEq, Option.bind_some, Option.map_some, List.length_cons, List.length_nil, vcM, List.getElem?_toArray, List.getElem?_cons_zero, List.getElem?_cons_succ, h11, hk1, hk5])
                (refine W_at c5_ok ?_; refine ⟨_, rfl, ?_⟩; simp (disch := first | omega | assumption | rfl | (simp only [vcS] <;> omega) | fail) only [↓ptV_l, ↓vcA, vcB, ↓vcD, vcE, ↓reduceIte, Nat.reduceEqDiff, Nat.reduceAdd, Nat.reduceMul, Nat.reduceLeDiff, Int.reduceLE, Int.reduceLT, Int.reduceEq, Int.reduceToNat, Int.reduceAdd, Int.reduceSub, Int.reduceMul, Int.reduceNeg, reduceCtorEq, Option.bind_some, Option.map_some, List.length_cons, List.length_nil, vcM, List.getElem?_toArray, List.getElem?_cons_zero, List.getElem?_cons_succ])
                exact hchg (.inr hk5)
              · (refine W_at c5_ok ?_; refine ⟨_, rfl, ?_⟩; simp (disch := first | omega | assumption | rfl | (simp only [vcS] <;> omega) | fail) only [↓ptV_l, ↓vcA, vcB, ↓vcD, vcE, ↓reduceIte, Nat.reduceEqDiff, Nat.reduceAdd, Nat.reduceMul, Nat.reduceLeDiff, Int.reduceLE, Int.reduceLT, Int.reduceEq, Int.reduceToNat, Int.reduceAdd, Int.reduceSub, Int.reduceMul, Int.reduceNeg, reduceCtorEq, Option.bind_some, Option.map_some, List.length_cons, List.length_nil, vcM, List.getElem?_toArray, List.getElem?_cons_zero, List.getElem?_cons_succ, h11, hk1, hk5])
                (refine W_at c5_ok ?_; refine ⟨_, rfl, ?_⟩; simp (disch := first | omega | assumption | rfl | (simp only [vcS] <;> omega) | fail) only [↓ptV_l, ↓vcA, vcB, ↓vcD, vcE, ↓reduceIte, Nat.reduceEqDiff, Nat.reduceAdd, Nat.reduceMul, Nat.reduceLeDiff, Int.reduceLE, Int.reduceLT, Int.reduceEq, Int.reduceToNat, Int.reduceAdd, Int.reduceSub, Int.reduceMul, Int.reduceNeg, reduceCtorEq, Option.bind_some, Option.map_some, List.length_cons, List.length_nil, vcM, List.getElem?_toArray, List.getElem?_cons_zero, List.getElem?_cons_succ])
                exact hread wa nn _ (by rw [nnA, if_neg (by omega)]) hEa3 hRa (Nat.lt_of_lt_of_le hB hEa.size) h9a h11
            by_cases k5 : kind = 5
            · have hnb : ¬ 33554432 < nn := by omega
              (refine W_at c5_ok ?_; refine ⟨_, rfl, ?_⟩; simp (disch := first | omega | assumption | rfl | (simp only [vcS] <;> omega) | fail) only [↓ptV_l, ↓vcA, vcB, ↓vcD, vcE, ↓reduceIte, Nat.reduceEqDiff, Nat.reduceAdd, Nat.reduceMul, Nat.reduceLeDiff, Int.reduceLE, Int.reduceLT, Int.reduceEq, Int.reduceToNat, Int.reduceAdd, Int.reduceSub, Int.reduceMul, Int.reduceNeg, reduceCtorEq, Option.bind_some, Option.map_some, List.length_cons, List.length_nil, vcM, List.getElem?_toArray, List.getElem?_cons_zero, List.getElem?_cons_succ, hi2, Int.toNat_natCast, hc0, hc1, k5, hnb])
              (refine W_at c5_ok ?_; refine ⟨_, rfl, ?_⟩; simp (disch := first | omega | assumption | rfl | (simp only [vcS] <;> omega) | fail) only [↓ptV_l, ↓vcA, vcB, ↓vcD, vcE, ↓reduceIte, Nat.reduceEqDiff, Nat.reduceAdd, Nat.reduceMul, Nat.reduceLeDiff, Int.reduceLE, Int.reduceLT, Int.reduceEq, Int.reduceToNat, Int.reduceAdd, Int.reduceSub, Int.reduceMul, Int.reduceNeg, reduceCtorEq, Option.bind_some, Option.map_some, List.length_cons, List.length_nil, vcM, List.getElem?_toArray, List.getElem?_cons_zero, List.getElem?_cons_succ])
              (refine W_at c5_ok ?_; refine ⟨_, rfl, ?_⟩; simp (disch := first | omega | assumption | rfl | (simp only [vcS] <;> omega) | fail) only [↓ptV_l, ↓vcA, vcB, ↓vcD, vcE, ↓reduceIte, Nat.reduceEqDiff, Nat.reduceAdd, Nat.reduceMul, Nat.reduceLeDiff, Int.reduceLE, Int.reduceLT, Int.reduceEq, Int.reduceToNat, Int.reduceAdd, Int.reduceSub, Int.reduceMul, Int.reduceNeg, reduceCtorEq, Option.bind_some, Option.map_some, List.length_cons, List.length_nil, vcM, List.getElem?_toArray, List.getElem?_cons_zero, List.getElem?_cons_succ, hi2, Int.toNat_natCast, hrd, hzA, hzs, hsz])
              exact ⟨hfla, hmain⟩
            · (refine W_at c5_ok ?_; refine ⟨_, rfl, ?_⟩; simp (disch := first | omega | assumption | rfl | (simp only [vcS] <;> omega) | fail) only [↓ptV_l, ↓vcA, vcB, ↓vcD, vcE, ↓reduceIte, Nat.reduceEqDiff, Nat.reduceAdd, Nat.reduceMul, Nat.reduceLeDiff, Int.reduceLE, Int.reduceLT, Int.reduceEq, Int.reduceToNat, Int.reduceAdd, Int.reduceSub, Int.reduceMul, Int.reduceNeg, reduceCtorEq, Option.bind_some, Option.map_some, List.length_cons, List.length_nil, vcM, List.getElem?_toArray, List.getElem?_cons_zero, List.getElem?_cons_succ, hi2, Int.toNat_natCast, hc0, hc1, k5])
              (refine W_at c5_ok ?_; refine ⟨_, rfl, ?_⟩; simp (disch := first | omega | assumption | rfl | (simp only [vcS] <;> omega) | fail) only [↓ptV_l, ↓vcA, vcB, ↓vcD, vcE, ↓reduceIte, Nat.reduceEqDiff, Nat.reduceAdd, Nat.reduceMul, Nat.reduceLeDiff, Int.reduceLE, Int.reduceLT, Int.reduceEq, Int.reduceToNat, Int.reduceAdd, Int.reduceSub, Int.reduceMul, Int.reduceNeg, reduceCtorEq, Option.bind_some, Option.map_some, List.length_cons, List.length_nil, vcM, List.getElem?_toArray, List.getElem?_cons_zero, List.getElem?_cons_succ])
              (refine W_at c5_ok ?_; refine ⟨_, rfl, ?_⟩; simp (disch := first | omega | assumption | rfl | (simp only [vcS] <;> omega) | fail) only [↓ptV_l, ↓vcA, vcB, ↓vcD, vcE, ↓reduceIte, Nat.reduceEqDiff, Nat.reduceAdd, Nat.reduceMul, Nat.reduceLeDiff, Int.reduceLE, Int.reduceLT, Int.reduceEq, Int.reduceToNat, Int.reduceAdd, Int.reduceSub, Int.reduceMul, Int.reduceNeg, reduceCtorEq, Option.bind_some, Option.map_some, List.length_cons, List.length_nil, vcM, List.getElem?_toArray, List.getElem?_cons_zero, List.getElem?_cons_succ, hi2, Int.toNat_natCast, hrd, hzA, hzs, hsz])
              exact ⟨hfla, hmain⟩
      exact R m 0 wj v 0 0 (by omega) hE (by rw [List.drop_zero]; exact hR) hB (Nat.zero_le _) h9 hcut0
    refine ⟨?_, ?_⟩
    · refine callV_ret (open_ok w3.drew _ _ (hcut.ext ((Keep.refl _ w3).drew)) (by rw [List.length_take]; omega)) ?_
      rintro _ w4 ⟨r, B, v4, rfl, hR, hE4, hr4, hB4, hB4'⟩
      have hs4 : w3.heap.size ≤ w4.heap.size := hE4.size
      have hr4' : w3.heap.size ≤ r := hr4
      have hrlt := hR.lt
      simp (disch := first | omega | assumption | rfl | (simp only [vcS] <;> omega) | fail) only [↓vcL2, ptS1_eq, ↓vcA, vcB, ↓vcD, vcE, ↓reduceIte, Nat.reduceEqDiff, Nat.reduceAdd, Nat.reduceMul, Nat.reduceLeDiff, Int.reduceLE, Int.reduceLT, Int.reduceEq, Int.reduceToNat, Int.reduceAdd, Int.reduceSub, Int.reduceMul, Int.reduceNeg, reduceCtorEq, Option.bind_some, Option.map_some, List.length_cons, List.length_nil, vcM, List.getElem?_toArray, List.getElem?_cons_zero, List.getElem?_cons_succ, hzI, hzI2, hsub, hsub2, hap]
      have hEa : Ext w4 ((w4.alloc (Obj.cells #[Value.slice none 0 0, Value.int IntKind.i64 0, Value.int IntKind.i64 0] 49)).putN w4.heap.size 0 #[Value.slice qo at'.toNat co, Value.int IntKind.i64 0, Value.int IntKind.i64 0]) := by (repeat' first | exact Keep.refl _ _ | assumption | refine Keep.drew ?_ | refine Keep.alloc ?_ _ | refine Keep.putN ?_ _ ?_ | refine Keep.setCell ?_ _ ?_ | refine Keep.setO ?_ _ ?_ | exact fun _ => Or.inl rfl | exact fun _ => Or.inr rfl | exact fun _ => rfl | (intro hh; exfalso; ((try simp only [vcS] at hh) <;> omega)))
      exact hR0 r B w4.heap.size v4 _ (((Keep.refl _ w3).drew).ext (hE4.ext hEa)) (hR.ext hEa) (Nat.lt_of_lt_of_le hB4' hEa.size) hr4' hs4 (by omega) (by omega) (heap_local w4 rfl)
    · have hEa : Ext w3.drew (w3.drew.alloc (Obj.cells (zc [(1, Value.slice none 0 0), (2, Value.int IntKind.i64 0)]) 49)) := by (repeat' first | exact Keep.refl _ _ | assumption | refine Keep.drew ?_ | refine Keep.alloc ?_ _ | refine Keep.putN ?_ _ ?_ | refine Keep.setCell ?_ _ ?_ | refine Keep.setO ?_ _ ?_ | exact fun _ => Or.inl rfl | exact fun _ => Or.inr rfl | exact fun _ => rfl | (intro hh; exfalso; ((try simp only [vcS] at hh) <;> omega)))
      have h9 : (w3.drew.alloc (Obj.cells (zc [(1, Value.slice none 0 0), (2, Value.int IntKind.i64 0)]) 49)).heap[w3.heap.size]? = some (.cells #[.slice none 0 0, .int .i64 0, .int .i64 0] 49 (0, 0)) := heap_new _ _ _ rfl
      have hsz : w3.heap.size + 1 ≤ (w3.drew.alloc (Obj.cells (zc [(1, Value.slice none 0 0), (2, Value.int IntKind.i64 0)]) 49)).heap.size := by rw [size_alloc]; exact Nat.le_refl _
      generalize World.alloc _ _ = w3' at hEa h9 hsz ⊢
      refine callV_ret (open_ok w3' _ _ (hcut.ext (((Keep.refl _ w3).drew).ext hEa)) (by rw [List.length_take]; omega)) ?_
      rintro _ w4 ⟨r, B, v4, rfl, hR, hE4, hr4, hB4, hB4'⟩
      have hrlt := hR.lt
      have h9' := hE4.at h9 fun h => h
      simp (disch := first | omega | assumption | rfl | (simp only [vcS] <;> omega) | fail) only [↓vcL2, ptS1_eq, ↓vcA, vcB, ↓vcD, vcE, ↓reduceIte, Nat.reduceEqDiff, Nat.reduceAdd, Nat.reduceMul, Nat.reduceLeDiff, Int.reduceLE, Int.reduceLT, Int.reduceEq, Int.reduceToNat, Int.reduceAdd, Int.reduceSub, Int.reduceMul, Int.reduceNeg, reduceCtorEq, Option.bind_some, Option.map_some, List.length_cons, List.length_nil, vcM, List.getElem?_toArray, List.getElem?_cons_zero, List.getElem?_cons_succ, hzI, hzI2, hsub, hsub2, hap, h9']
      have hEp : Ext w3 (w4.putN w3.heap.size 0 #[Value.slice qo at'.toNat co, Value.int IntKind.i64 0, Value.int IntKind.i64 0]) := ((((Keep.refl _ w3).drew.ext hEa).ext hE4)).putN _ (by omega)
      have hkp : Keep (fun i => i = w3.heap.size) w4 (w4.putN w3.heap.size 0 #[Value.slice qo at'.toNat co, Value.int IntKind.i64 0, Value.int IntKind.i64 0]) := (Keep.refl _ w4).putN _ fun _ => rfl
      exact hR0 r B w3.heap.size v4 _ hEp (hR.keep hkp (by omega) (by omega)) (Nat.lt_of_lt_of_le hB4' hkp.size) (by omega) (Nat.le_refl _) (by omega) (by omega) (by rw [heap_putN_eq h9', splice_all (by rfl)])
  have L : ∀ (k i : Nat) (wj : World) (v : Value), k + i = n → i ≤ 12 → St w wj p v (.slice none 0 0) (flatW (ys.take i)) [] → (flatW (ys.take i)).length ≤ 309 * i → byt (flatW (ys.take i)) →
      W Try.prog (Ret fun u w' => u = .bool true ∧ Ext w w') 5 32 [(0, .slice q n c), (1, .int .i64 at'), (5, .pointer (some ⟨p, 0, none⟩)), (6, .int .i64 i)] wj := by
    intro k
    induction k with
    | zero =>
      intro i wj v hi h40 hS hl hb
      have hin : ¬ ((i : Int) < n) := by omega
      (refine W_at c5_ok ?_; refine ⟨_, rfl, ?_⟩; simp (disch := first | omega | assumption | rfl | (simp only [vcS] <;> omega) | fail) only [↓ptV_l, ↓vcA, vcB, ↓vcD, vcE, ↓reduceIte, Nat.reduceEqDiff, Nat.reduceAdd, Nat.reduceMul, Nat.reduceLeDiff, Int.reduceLE, Int.reduceLT, Int.reduceEq, Int.reduceToNat, Int.reduceAdd, Int.reduceSub, Int.reduceMul, Int.reduceNeg, reduceCtorEq, Option.bind_some, Option.map_some, List.length_cons, List.length_nil, vcM, List.getElem?_toArray, List.getElem?_cons_zero, List.getElem?_cons_succ, hin])
      (refine W_at c5_ok ?_; refine ⟨_, rfl, ?_⟩; simp (disch := first | omega | assumption | rfl | (simp only [vcS] <;> omega) | fail) only [↓ptV_l, ↓vcA, vcB, ↓vcD, vcE, ↓reduceIte, Nat.reduceEqDiff, Nat.reduceAdd, Nat.reduceMul, Nat.reduceLeDiff, Int.reduceLE, Int.reduceLT, Int.reduceEq, Int.reduceToNat, Int.reduceAdd, Int.reduceSub, Int.reduceMul, Int.reduceNeg, reduceCtorEq, Option.bind_some, Option.map_some, List.length_cons, List.length_nil, vcM, List.getElem?_toArray, List.getElem?_cons_zero, List.getElem?_cons_succ])
      exact hread i wj v _ (.inr (by omega)) (by omega) h40 hS hl hb
    | succ k ih =>
      intro i wj v hi h40 hS hl hb
      have hin : (i : Int) < n := by omega
      by_cases h41 : (i : Int) < 12
      · (refine W_at c5_ok ?_; refine ⟨_, rfl, ?_⟩; simp (disch := first | omega | assumption | rfl | (simp only [vcS] <;> omega) | fail) only [↓ptV_l, ↓vcA, vcB, ↓vcD, vcE, ↓reduceIte, Nat.reduceEqDiff, Nat.reduceAdd, Nat.reduceMul, Nat.reduceLeDiff, Int.reduceLE, Int.reduceLT, Int.reduceEq, Int.reduceToNat, Int.reduceAdd, Int.reduceSub, Int.reduceMul, Int.reduceNeg, reduceCtorEq, Option.bind_some, Option.map_some, List.length_cons, List.length_nil, vcM, List.getElem?_toArray, List.getElem?_cons_zero, List.getElem?_cons_succ, hin, h41])
        (refine W_at c5_ok ?_; refine ⟨_, rfl, ?_⟩; simp (disch := first | omega | assumption | rfl | (simp only [vcS] <;> omega) | fail) only [↓ptV_l, ↓vcA, vcB, ↓vcD, vcE, ↓reduceIte, Nat.reduceEqDiff, Nat.reduceAdd, Nat.reduceMul, Nat.reduceLeDiff, Int.reduceLE, Int.reduceLT, Int.reduceEq, Int.reduceToNat, Int.reduceAdd, Int.reduceSub, Int.reduceMul, Int.reduceNeg, reduceCtorEq, Option.bind_some, Option.map_some, List.length_cons, List.length_nil, vcM, List.getElem?_toArray, List.getElem?_cons_zero, List.getElem?_cons_succ])
        obtain ⟨bq, oq, a, kind, nn, bb, x, rfl, hyi, hax, hrd, hat, hsz, hc0, hc1, hc2, hxr⟩ := ha.at hS.ext (i := i) (by omega)
        have hi2 : 0 ≤ (i : Int) ∧ (i : Int) < n := by omega
        have hwi : IntKind.i64.wrap ((i : Int) + 1) = ((i + 1 : Nat) : Int) := wrap_i64 (by omega) (by omega)
        have htk : flatW (ys.take (i + 1)) = flatW (ys.take i) ++ (if keepY (kind, nn, bb) = true then encA kind nn bb else []) := by
          rw [List.take_add_one, hyi, flatW, List.filter_append, List.flatMap_append, Option.toList_some, flatW]
          congr 1
          by_cases hk : keepY (kind, nn, bb) = true
          · rw [List.filter_cons_of_pos hk, if_pos hk]; simp [encY]
          · rw [List.filter_cons_of_neg hk, if_neg hk]; rfl
        have hel := encA_len kind nn bb
        have hnx : ∀ (s : Env) (wx : World) (vx : Value), St w wx p vx (.slice none 0 0) (flatW (ys.take (i + 1))) [] → (flatW (ys.take (i + 1))).length ≤ 309 * (i + 1) → byt (flatW (ys.take (i + 1))) →
            W Try.prog (Ret fun u w' => u = .bool true ∧ Ext w w') 5 27 ((0, .slice (some ⟨bq, oq, none⟩) n c) :: (1, .int .i64 at') :: (5, .pointer (some ⟨p, 0, none⟩)) :: (6, .int .i64 i) :: s) wx := by
          intro s wx vx hSx hlx hbx
          (refine W_at c5_ok ?_; refine ⟨_, rfl, ?_⟩; simp (disch := first | omega | assumption | rfl | (simp only [vcS] <;> omega) | fail) only [↓ptV_l, ↓vcA, vcB, ↓vcD, vcE, ↓reduceIte, Nat.reduceEqDiff, Nat.reduceAdd, Nat.reduceMul, Nat.reduceLeDiff, Int.reduceLE, Int.reduceLT, Int.reduceEq, Int.reduceToNat, Int.reduceAdd, Int.reduceSub, Int.reduceMul, Int.reduceNeg, reduceCtorEq, Option.bind_some, Option.map_some, List.length_cons, List.length_nil, vcM, List.getElem?_toArray, List.getElem?_cons_zero, List.getElem?_cons_succ, hwi])
          (refine W_at c5_ok ?_; refine ⟨_, rfl, ?_⟩; simp (disch := first | omega | assumption | rfl | (simp only [vcS] <;> omega) | fail) only [↓ptV_l, ↓vcA, vcB, ↓vcD, vcE, ↓reduceIte, Nat.reduceEqDiff, Nat.reduceAdd, Nat.reduceMul, Nat.reduceLeDiff, Int.reduceLE, Int.reduceLT, Int.reduceEq, Int.reduceToNat, Int.reduceAdd, Int.reduceSub, Int.reduceMul, Int.reduceNeg, reduceCtorEq, Option.bind_some, Option.map_some, List.length_cons, List.length_nil, vcM, List.getElem?_toArray, List.getElem?_cons_zero, List.getElem?_cons_succ])
          exact ih (i + 1) wx vx (by omega) (by omega) hSx hlx hbx
        have hwr : keepY (kind, nn, bb) = true → ∀ s, W Try.prog (Ret fun u w' => u = .bool true ∧ Ext w w') 5 28 ((0, .slice (some ⟨bq, oq, none⟩) n c) :: (1, .int .i64 at') :: (5, .pointer (some ⟨p, 0, none⟩)) :: (6, .int .i64 i) :: s) wj := by
          intro hk s
          rw [if_pos hk] at htk
          (refine W_at c5_ok ?_; refine ⟨_, rfl, ?_⟩; simp (disch := first | omega | assumption | rfl | (simp only [vcS] <;> omega) | fail) only [↓ptV_l, ↓vcA, vcB, ↓vcD, vcE, ↓reduceIte, Nat.reduceEqDiff, Nat.reduceAdd, Nat.reduceMul, Nat.reduceLeDiff, Int.reduceLE, Int.reduceLT, Int.reduceEq, Int.reduceToNat, Int.reduceAdd, Int.reduceSub, Int.reduceMul, Int.reduceNeg, reduceCtorEq, Option.bind_some, Option.map_some, List.length_cons, List.length_nil, vcM, List.getElem?_toArray, List.getElem?_cons_zero, List.getElem?_cons_succ, hi2, Int.toNat_natCast, hrd])
          refine callV_ret (write_ok w wj p v _ _ [] a kind nn bb hS hat (by simp only [List.length_nil]; omega)) ?_
          rintro u w5 ⟨v5, hS5⟩
          rw [← htk] at hS5
          first | (simp (disch := first | omega | assumption | rfl | (simp only [vcS] <;> omega) | fail) only [↓ptV_l, ↓vcA, vcB, ↓vcD, vcE, ↓reduceIte, Nat.reduceEqDiff, Nat.reduceAdd, Nat.reduceMul, Nat.reduceLeDiff, Int.reduceLE, Int.reduceLT, Int.reduceEq, Int.reduceToNat, Int.reduceAdd, Int.reduceSub, Int.reduceMul, Int.reduceNeg, reduceCtorEq, Option.bind_some, Option.map_some, List.length_cons, List.length_nil, vcM, List.getElem?_toArray, List.getElem?_cons_zero, List.getElem?_cons_succ]) | skip
          exact hnx _ w5 v5 hS5.drop (by rw [htk, List.length_append]; omega) (by rw [htk]; exact byt_app hb (encA_byt hat.num.1 hat.byt))
        by_cases k5 : kind = 5
        · by_cases hbig : nn ≤ 33554432
          · (refine W_at c5_ok ?_; refine ⟨_, rfl, ?_⟩; simp (disch := first | omega | assumption | rfl | (simp only [vcS] <;> omega) | fail) only [↓ptV_l, ↓vcA, vcB, ↓vcD, vcE, ↓reduceIte, Nat.reduceEqDiff, Nat.reduceAdd, Nat.reduceMul, Nat.reduceLeDiff, Int.reduceLE, Int.reduceLT, Int.reduceEq, Int.reduceToNat, Int.reduceAdd, Int.reduceSub, Int.reduceMul, Int.reduceNeg, reduceCtorEq, Option.bind_some, Option.map_some, List.length_cons, List.length_nil, vcM, List.getElem?_toArray, List.getElem?_cons_zero, List.getElem?_cons_succ, hi2, Int.toNat_natCast, hc0, hc1, k5, hbig])
            (refine W_at c5_ok ?_; refine ⟨_, rfl, ?_⟩; simp (disch := first | omega | assumption | rfl | (simp only [vcS] <;> omega) | fail) only [↓ptV_l, ↓vcA, vcB, ↓vcD, vcE, ↓reduceIte, Nat.reduceEqDiff, Nat.reduceAdd, Nat.reduceMul, Nat.reduceLeDiff, Int.reduceLE, Int.reduceLT, Int.reduceEq, Int.reduceToNat, Int.reduceAdd, Int.reduceSub, Int.reduceMul, Int.reduceNeg, reduceCtorEq, Option.bind_some, Option.map_some, List.length_cons, List.length_nil, vcM, List.getElem?_toArray, List.getElem?_cons_zero, List.getElem?_cons_succ])
            exact hwr (by simp [keepY]; omega) _
          · (refine W_at c5_ok ?_; refine ⟨_, rfl, ?_⟩; simp (disch := first | omega | assumption | rfl | (simp only [vcS] <;> omega) | fail) only [↓ptV_l, ↓vcA, vcB, ↓vcD, vcE, ↓reduceIte, Nat.reduceEqDiff, Nat.reduceAdd, Nat.reduceMul, Nat.reduceLeDiff, Int.reduceLE, Int.reduceLT, Int.reduceEq, Int.reduceToNat, Int.reduceAdd, Int.reduceSub, Int.reduceMul, Int.reduceNeg, reduceCtorEq, Option.bind_some, Option.map_some, List.length_cons, List.length_nil, vcM, List.getElem?_toArray, List.getElem?_cons_zero, List.getElem?_cons_succ, hi2, Int.toNat_natCast, hc0, hc1, k5, hbig])
            (refine W_at c5_ok ?_; refine ⟨_, rfl, ?_⟩; simp (disch := first | omega | assumption | rfl | (simp only [vcS] <;> omega) | fail) only [↓ptV_l, ↓vcA, vcB, ↓vcD, vcE, ↓reduceIte, Nat.reduceEqDiff, Nat.reduceAdd, Nat.reduceMul, Nat.reduceLeDiff, Int.reduceLE, Int.reduceLT, Int.reduceEq, Int.reduceToNat, Int.reduceAdd, Int.reduceSub, Int.reduceMul, Int.reduceNeg, reduceCtorEq, Option.bind_some, Option.map_some, List.length_cons, List.length_nil, vcM, List.getElem?_toArray, List.getElem?_cons_zero, List.getElem?_cons_succ])
            have hk : keepY (kind, nn, bb) = false := by simp [keepY]; omega
            rw [if_neg (by rw [hk]; decide), List.append_nil] at htk
            exact hnx _ wj v (by rw [htk]; exact hS) (by rw [htk]; omega) (by rw [htk]; exact hb)
        · (refine W_at c5_ok ?_; refine ⟨_, rfl, ?_⟩; simp (disch := first | omega | assumption | rfl | (simp only [vcS] <;> omega) | fail) only [↓ptV_l, ↓vcA, vcB, ↓vcD, vcE, ↓reduceIte, Nat.reduceEqDiff, Nat.reduceAdd, Nat.reduceMul, Nat.reduceLeDiff, Int.reduceLE, Int.reduceLT, Int.reduceEq, Int.reduceToNat, Int.reduceAdd, Int.reduceSub, Int.reduceMul, Int.reduceNeg, reduceCtorEq, Option.bind_some, Option.map_some, List.length_cons, List.length_nil, vcM, List.getElem?_toArray, List.getElem?_cons_zero, List.getElem?_cons_succ, hi2, Int.toNat_natCast, hc0, hc1, k5])
          (refine W_at c5_ok ?_; refine ⟨_, rfl, ?_⟩; simp (disch := first | omega | assumption | rfl | (simp only [vcS] <;> omega) | fail) only [↓ptV_l, ↓vcA, vcB, ↓vcD, vcE, ↓reduceIte, Nat.reduceEqDiff, Nat.reduceAdd, Nat.reduceMul, Nat.reduceLeDiff, Int.reduceLE, Int.reduceLT, Int.reduceEq, Int.reduceToNat, Int.reduceAdd, Int.reduceSub, Int.reduceMul, Int.reduceNeg, reduceCtorEq, Option.bind_some, Option.map_some, List.length_cons, List.length_nil, vcM, List.getElem?_toArray, List.getElem?_cons_zero, List.getElem?_cons_succ])
          exact hwr (by simp [keepY]; omega) _
      · (refine W_at c5_ok ?_; refine ⟨_, rfl, ?_⟩; simp (disch := first | omega | assumption | rfl | (simp only [vcS] <;> omega) | fail) only [↓ptV_l, ↓vcA, vcB, ↓vcD, vcE, ↓reduceIte, Nat.reduceEqDiff, Nat.reduceAdd, Nat.reduceMul, Nat.reduceLeDiff, Int.reduceLE, Int.reduceLT, Int.reduceEq, Int.reduceToNat, Int.reduceAdd, Int.reduceSub, Int.reduceMul, Int.reduceNeg, reduceCtorEq, Option.bind_some, Option.map_some, List.length_cons, List.length_nil, vcM, List.getElem?_toArray, List.getElem?_cons_zero, List.getElem?_cons_succ, hin, h41])
        (refine W_at c5_ok ?_; refine ⟨_, rfl, ?_⟩; simp (disch := first | omega | assumption | rfl | (simp only [vcS] <;> omega) | fail) only [↓ptV_l, ↓vcA, vcB, ↓vcD, vcE, ↓reduceIte, Nat.reduceEqDiff, Nat.reduceAdd, Nat.reduceMul, Nat.reduceLeDiff, Int.reduceLE, Int.reduceLT, Int.reduceEq, Int.reduceToNat, Int.reduceAdd, Int.reduceSub, Int.reduceMul, Int.reduceNeg, reduceCtorEq, Option.bind_some, Option.map_some, List.length_cons, List.length_nil, vcM, List.getElem?_toArray, List.getElem?_cons_zero, List.getElem?_cons_succ])
        exact hread i wj v _ (.inl (by omega)) (by omega) h40 hS hl hb
  exact L n 0 w2 _ (by omega) (by omega) hS (by simp [flatW]) (by intro z hz; simp [flatW] at hz)
end Go.Proofs
