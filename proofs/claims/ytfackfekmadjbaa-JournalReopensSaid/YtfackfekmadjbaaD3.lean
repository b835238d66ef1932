/- 'slices.Backward', and what a disk reads. -/
import Derived.Test.YtfackfekmadjbaaD2
set_option linter.unusedSimpArgs false
set_option linter.unusedVariables false
set_option linter.constructorNameAsVariable false
namespace Go.Proofs
open Go.Vc Go.RowKit
set_option maxRecDepth 10000

def bkL (k j : Nat) : List (Fin k) := (List.finRange k).reverse.take j
theorem bkL_len {k j : Nat} (h : j ≤ k) : (bkL k j).length = j := by simp [bkL]; omega
theorem bkL_succ {k j : Nat} (h : j < k) : bkL k (j + 1) = bkL k j ++ [⟨k - 1 - j, by omega⟩] := by
  unfold bkL
  rw [List.take_add_one, List.getElem?_eq_getElem (by simpa using h)]
  simp
theorem bkL_mem {k j : Nat} {y : Fin k} (h : k ≤ y.val + j) : y ∈ bkL k j := by
  have hy := y.isLt
  unfold bkL
  rw [List.mem_take_iff_getElem]
  refine ⟨k - 1 - y.val, by simp; omega, ?_⟩
  simp only [List.getElem_reverse, List.getElem_finRange, List.length_finRange]
  apply Fin.ext
  simp; omega
theorem OwnO.kp {w w' : World} {base el size : Nat} {v : Value} {ids : List (Array Value)} (h : OwnO w base el size v ids) (k : ∀ g, Go.Proofs.blk v g → w'.heap[g]? = w.heap[g]?) : OwnO w' base el size v ids := by
  obtain ⟨hs, h | ⟨g, o, cap, cur, rfl, hb, hg, r⟩⟩ := h
  · exact ⟨hs, .inl h⟩
  · exact ⟨hs, .inr ⟨g, o, cap, cur, rfl, hb, (k g rfl).trans hg, r⟩⟩
theorem grown_drew (w : World) : w.grownBy w.drew none := ⟨rfl, rfl, rfl, Nat.le_refl _, fun _ _ _ => rfl⟩
set_option maxHeartbeats 1600000 in
theorem back_stops (w0 : World) (b1 : Nat) (qv : Value) (ids : List (Array Value)) (T1 : TypeId) (h1 : w0.heap[b1]? = some (.cells #[qv] T1 (0, 0))) (hq : OwnO w0 0 77 65 qv ids) (hl : ids.length ≤ 1000000) :
    SeqStopsK (fen none) 2 Try.prog 59 #[.pointer (some ⟨b1, 0, none⟩)] (fun i : Fin ids.length => #[.int .i64 (i.val : Nat), .agg ids[i.val]]) (KpB (b1 :: qv.ownBlock.toList))
      (fun xs => xs = (List.finRange ids.length).reverse) (fun pre => ∃ j, pre = bkL ids.length j) ids.length w0 := by
  intro l J Jx W hW hJ hJx hY h0
  refine callsIn_of_ct t59_ok (Nat.le_of_ble_eq_true rfl) ?_
  simp only [List.toList_toArray, Array.toList_append, List.cons_append, List.nil_append]
  simp only [argE_nil, argE_cons, Nat.reduceAdd, Nat.zero_add]
  have m1 := (hW.block b1 (Array.getElem?_eq_some_iff.1 h1).1).trans h1
  have q1 : OwnO W 0 77 65 qv ids := hq.kp fun g hg => hW.block g (by obtain ⟨_, c, e⟩ := hq.blk hg; exact (Array.getElem?_eq_some_iff.1 e).1)
  have hlen := hq.len
  have hws : IntKind.i64.wrap ((ids.length : Int) - 1) = (ids.length : Int) - 1 := wrap_i64 (by omega) (by omega)
  simp (disch := first | omega | assumption | rfl | (simp only [vcS] <;> omega) | fail) only [t59, ↓vcC, slc3_s, ↓ptV_l, ↓vcA, vcB, ↓vcD, vcE, ↓reduceIte, Nat.reduceEqDiff, Nat.reduceAdd, Nat.reduceMul, Nat.reduceLeDiff, Int.reduceLE, Int.reduceLT, Int.reduceEq, Int.reduceToNat, Int.reduceAdd, Int.reduceSub, Int.reduceMul, Int.reduceNeg, reduceCtorEq, Option.bind_some, Option.map_some, List.length_cons, List.length_nil, vcM, List.getElem?_toArray, List.getElem?_cons_zero, List.getElem?_cons_succ, m1, hlen, hws]
  (refine nx_at ?_; simp (disch := first | omega | assumption | rfl | (simp only [vcS] <;> omega) | fail) only [↓vcC, slc3_s, ↓ptV_l, ↓vcA, vcB, ↓vcD, vcE, ↓reduceIte, Nat.reduceEqDiff, Nat.reduceAdd, Nat.reduceMul, Nat.reduceLeDiff, Int.reduceLE, Int.reduceLT, Int.reduceEq, Int.reduceToNat, Int.reduceAdd, Int.reduceSub, Int.reduceMul, Int.reduceNeg, reduceCtorEq, Option.bind_some, Option.map_some, List.length_cons, List.length_nil, vcM, List.getElem?_toArray, List.getElem?_cons_zero, List.getElem?_cons_succ])
  refine lp_of (fun j ds e W => ds = [] ∧ ∃ i, i + j = ids.length ∧ Vc.look e 3 = some (.int .i64 ((ids.length : Int) - 1 - (i : Nat))) ∧ Vc.look e 0 = some (.func (.yield l) #[] #[]) ∧ Vc.look e 1 = some (.pointer (some ⟨b1, 0, none⟩)) ∧
    J (bkL ids.length i) W ∧ W.heap[b1]? = some (.cells #[qv] T1 (0, 0)) ∧ OwnO W 0 77 65 qv ids) ids.length ?_ ?_
  · exact ⟨rfl, 0, by omega, by simp [Vc.look], rfl, rfl, h0, m1, q1⟩
  clear h0 m1 hW q1
  generalize W.heap.size = B at hJ hJx
  clear W
  rintro j ds e W ⟨rfl, i, hi, l3, l0, l1, hJi, m1, q1⟩
  by_cases hik : i < ids.length
  · have c1 : 0 ≤ (ids.length : Int) - 1 - (i : Nat) := by omega
    simp (disch := first | omega | assumption | rfl | (simp only [vcS] <;> omega) | fail) only [↓vcC, slc3_s, ↓ptV_l, ↓vcA, vcB, ↓vcD, vcE, ↓reduceIte, Nat.reduceEqDiff, Nat.reduceAdd, Nat.reduceMul, Nat.reduceLeDiff, Int.reduceLE, Int.reduceLT, Int.reduceEq, Int.reduceToNat, Int.reduceAdd, Int.reduceSub, Int.reduceMul, Int.reduceNeg, reduceCtorEq, Option.bind_some, Option.map_some, List.length_cons, List.length_nil, vcM, List.getElem?_toArray, List.getElem?_cons_zero, List.getElem?_cons_succ, l3, c1]
    (refine nx_at ?_; simp (disch := first | omega | assumption | rfl | (simp only [vcS] <;> omega) | fail) only [↓vcC, slc3_s, ↓ptV_l, ↓vcA, vcB, ↓vcD, vcE, ↓reduceIte, Nat.reduceEqDiff, Nat.reduceAdd, Nat.reduceMul, Nat.reduceLeDiff, Int.reduceLE, Int.reduceLT, Int.reduceEq, Int.reduceToNat, Int.reduceAdd, Int.reduceSub, Int.reduceMul, Int.reduceNeg, reduceCtorEq, Option.bind_some, Option.map_some, List.length_cons, List.length_nil, vcM, List.getElem?_toArray, List.getElem?_cons_zero, List.getElem?_cons_succ])
    obtain ⟨g, o, cap, cur, rfl, hg, hrd⟩ := q1.at (j := ids.length - 1 - i) (by omega)
    have c2 : (ids.length : Int) - 1 - (i : Nat) = ((ids.length - 1 - i : Nat) : Int) := by omega
    rw [c2] at l3 c1
    have c3 : 0 ≤ ((ids.length - 1 - i : Nat) : Int) ∧ ((ids.length - 1 - i : Nat) : Int) < (ids.length : Nat) := by omega
    (refine nx_at ?_; simp (disch := first | omega | assumption | rfl | (simp only [vcS] <;> omega) | fail) only [↓vcC, slc3_s, ↓ptV_l, ↓vcA, vcB, ↓vcD, vcE, ↓reduceIte, Nat.reduceEqDiff, Nat.reduceAdd, Nat.reduceMul, Nat.reduceLeDiff, Int.reduceLE, Int.reduceLT, Int.reduceEq, Int.reduceToNat, Int.reduceAdd, Int.reduceSub, Int.reduceMul, Int.reduceNeg, reduceCtorEq, Option.bind_some, Option.map_some, List.length_cons, List.length_nil, vcM, List.getElem?_toArray, List.getElem?_cons_zero, List.getElem?_cons_succ, l3, l0, l1, m1, c3, Int.toNat_natCast, hrd])
    refine yv_of (hY (bkL ids.length i) ⟨ids.length - 1 - i, by omega⟩ W hJi (by rw [bkL_len (by omega)]; exact hik)) ?_
    rintro en W2 (⟨rfl, hJ2, hB2⟩ | ⟨rfl, hJx2⟩)
    · refine ⟨_, rfl, ?_⟩
      have m1' := (hB2 b1 (by simp)).trans m1
      have q2 := q1.kp fun g' hg' => hB2 g' (by cases hg'; simp [Value.ownBlock])
      have c4 : IntKind.i64.wrap (((ids.length - 1 - i : Nat) : Int) - 1) = (ids.length : Int) - 1 - ((i + 1 : Nat)) := by rw [wrap_i64 (by omega) (by omega)]; omega
      simp (disch := first | omega | assumption | rfl | (simp only [vcS] <;> omega) | fail) only [↓vcC, slc3_s, ↓ptV_l, ↓vcA, vcB, ↓vcD, vcE, ↓reduceIte, Nat.reduceEqDiff, Nat.reduceAdd, Nat.reduceMul, Nat.reduceLeDiff, Int.reduceLE, Int.reduceLT, Int.reduceEq, Int.reduceToNat, Int.reduceAdd, Int.reduceSub, Int.reduceMul, Int.reduceNeg, reduceCtorEq, Option.bind_some, Option.map_some, List.length_cons, List.length_nil, vcM, List.getElem?_toArray, List.getElem?_cons_zero, List.getElem?_cons_succ]
      (refine nx_at ?_; simp (disch := first | omega | assumption | rfl | (simp only [vcS] <;> omega) | fail) only [↓vcC, slc3_s, ↓ptV_l, ↓vcA, vcB, ↓vcD, vcE, ↓reduceIte, Nat.reduceEqDiff, Nat.reduceAdd, Nat.reduceMul, Nat.reduceLeDiff, Int.reduceLE, Int.reduceLT, Int.reduceEq, Int.reduceToNat, Int.reduceAdd, Int.reduceSub, Int.reduceMul, Int.reduceNeg, reduceCtorEq, Option.bind_some, Option.map_some, List.length_cons, List.length_nil, vcM, List.getElem?_toArray, List.getElem?_cons_zero, List.getElem?_cons_succ])
      (refine nx_at ?_; simp (disch := first | omega | assumption | rfl | (simp only [vcS] <;> omega) | fail) only [↓vcC, slc3_s, ↓ptV_l, ↓vcA, vcB, ↓vcD, vcE, ↓reduceIte, Nat.reduceEqDiff, Nat.reduceAdd, Nat.reduceMul, Nat.reduceLeDiff, Int.reduceLE, Int.reduceLT, Int.reduceEq, Int.reduceToNat, Int.reduceAdd, Int.reduceSub, Int.reduceMul, Int.reduceNeg, reduceCtorEq, Option.bind_some, Option.map_some, List.length_cons, List.length_nil, vcM, List.getElem?_toArray, List.getElem?_cons_zero, List.getElem?_cons_succ, l3, l1, m1', c4])
      refine ⟨j - 1, by omega, i + 1, by omega, rfl, l0, by rw [bkL_succ hik]; exact hJ2, q2⟩
    · refine ⟨_, rfl, ?_⟩
      simp (disch := first | omega | assumption | rfl | (simp only [vcS] <;> omega) | fail) only [↓vcC, slc3_s, ↓ptV_l, ↓vcA, vcB, ↓vcD, vcE, ↓reduceIte, Nat.reduceEqDiff, Nat.reduceAdd, Nat.reduceMul, Nat.reduceLeDiff, Int.reduceLE, Int.reduceLT, Int.reduceEq, Int.reduceToNat, Int.reduceAdd, Int.reduceSub, Int.reduceMul, Int.reduceNeg, reduceCtorEq, Option.bind_some, Option.map_some, List.length_cons, List.length_nil, vcM, List.getElem?_toArray, List.getElem?_cons_zero, List.getElem?_cons_succ]
      (refine nx_at ?_; simp (disch := first | omega | assumption | rfl | (simp only [vcS] <;> omega) | fail) only [↓vcC, slc3_s, ↓ptV_l, ↓vcA, vcB, ↓vcD, vcE, ↓reduceIte, Nat.reduceEqDiff, Nat.reduceAdd, Nat.reduceMul, Nat.reduceLeDiff, Int.reduceLE, Int.reduceLT, Int.reduceEq, Int.reduceToNat, Int.reduceAdd, Int.reduceSub, Int.reduceMul, Int.reduceNeg, reduceCtorEq, Option.bind_some, Option.map_some, List.length_cons, List.length_nil, vcM, List.getElem?_toArray, List.getElem?_cons_zero, List.getElem?_cons_succ])
      exact ⟨⟨_, rfl⟩, .inr ⟨_, ⟨i + 1, (bkL_succ hik).symm⟩, hJx2⟩⟩
  · obtain rfl : i = ids.length := by omega
    have c1 : ¬ 0 ≤ (ids.length : Int) - 1 - (ids.length : Nat) := by omega
    simp (disch := first | omega | assumption | rfl | (simp only [vcS] <;> omega) | fail) only [↓vcC, slc3_s, ↓ptV_l, ↓vcA, vcB, ↓vcD, vcE, ↓reduceIte, Nat.reduceEqDiff, Nat.reduceAdd, Nat.reduceMul, Nat.reduceLeDiff, Int.reduceLE, Int.reduceLT, Int.reduceEq, Int.reduceToNat, Int.reduceAdd, Int.reduceSub, Int.reduceMul, Int.reduceNeg, reduceCtorEq, Option.bind_some, Option.map_some, List.length_cons, List.length_nil, vcM, List.getElem?_toArray, List.getElem?_cons_zero, List.getElem?_cons_succ, l3, c1]
    (refine nx_at ?_; simp (disch := first | omega | assumption | rfl | (simp only [vcS] <;> omega) | fail) only [↓vcC, slc3_s, ↓ptV_l, ↓vcA, vcB, ↓vcD, vcE, ↓reduceIte, Nat.reduceEqDiff, Nat.reduceAdd, Nat.reduceMul, Nat.reduceLeDiff, Int.reduceLE, Int.reduceLT, Int.reduceEq, Int.reduceToNat, Int.reduceAdd, Int.reduceSub, Int.reduceMul, Int.reduceNeg, reduceCtorEq, Option.bind_some, Option.map_some, List.length_cons, List.length_nil, vcM, List.getElem?_toArray, List.getElem?_cons_zero, List.getElem?_cons_succ])
    refine ⟨⟨_, rfl⟩, .inl ⟨_, rfl, ?_⟩⟩
    unfold bkL at hJi
    rwa [List.take_of_length_le (by simp)] at hJi
theorem back_ok (w : World) (x : Value) (hx : x.cells = #[x]) :
    Calls Try.prog 44 #[x] w (Ret fun u w' => ∃ b1 T1, u = .func (.func 59) #[] #[.pointer (some ⟨b1, 0, none⟩)] ∧
      w'.heap[b1]? = some (.cells #[x] T1 (0, 0)) ∧ Ext w w' ∧ b1 < w'.heap.size ∧ w.heap.size ≤ b1) := by
  refine calls_of_cfg c44_ok (Nat.le_of_ble_eq_true rfl) ?_
  simp only [argE_nil, argE_cons, Nat.reduceAdd, Nat.zero_add]
  (refine W_at c44_ok ?_; refine ⟨_, rfl, ?_⟩; simp (disch := first | omega | assumption | rfl | (simp only [vcS] <;> omega) | fail) only [↓ptV_l, ↓vcA, vcB, ↓vcD, vcE, ↓reduceIte, Nat.reduceEqDiff, Nat.reduceAdd, Nat.reduceMul, Nat.reduceLeDiff, Int.reduceLE, Int.reduceLT, Int.reduceEq, Int.reduceToNat, Int.reduceAdd, Int.reduceSub, Int.reduceMul, Int.reduceNeg, reduceCtorEq, Option.bind_some, Option.map_some, List.length_cons, List.length_nil, vcM, List.getElem?_toArray, List.getElem?_cons_zero, List.getElem?_cons_succ, hx])
  (refine W_at c44_ok ?_; refine ⟨_, rfl, ?_⟩; simp (disch := first | omega | assumption | rfl | (simp only [vcS] <;> omega) | fail) only [↓ptV_l, ↓vcA, vcB, ↓vcD, vcE, ↓reduceIte, Nat.reduceEqDiff, Nat.reduceAdd, Nat.reduceMul, Nat.reduceLeDiff, Int.reduceLE, Int.reduceLT, Int.reduceEq, Int.reduceToNat, Int.reduceAdd, Int.reduceSub, Int.reduceMul, Int.reduceNeg, reduceCtorEq, Option.bind_some, Option.map_some, List.length_cons, List.length_nil, vcM, List.getElem?_toArray, List.getElem?_cons_zero, List.getElem?_cons_succ])
  (refine W_at c44_ok ?_; refine ⟨_, rfl, ?_⟩; simp (disch := first | omega | assumption | rfl | (simp only [vcS] <;> omega) | fail) only [↓ptV_l, ↓vcA, vcB, ↓vcD, vcE, ↓reduceIte, Nat.reduceEqDiff, Nat.reduceAdd, Nat.reduceMul, Nat.reduceLeDiff, Int.reduceLE, Int.reduceLT, Int.reduceEq, Int.reduceToNat, Int.reduceAdd, Int.reduceSub, Int.reduceMul, Int.reduceNeg, reduceCtorEq, Option.bind_some, Option.map_some, List.length_cons, List.length_nil, vcM, List.getElem?_toArray, List.getElem?_cons_zero, List.getElem?_cons_succ, Ret_returned])
  exact ⟨_, _, rfl, heap_new _ _ _ rfl, (Keep.refl _ w).alloc _, by omega, Nat.le_refl _⟩
end Go.Proofs
