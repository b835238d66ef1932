/- The pieces of a slice: the iterator of 'slices.Chunk'. -/
import Derived.Test.YthjijgmhicplaaaSL0
import Derived.Test.YthjijgmhicplaaaIt
set_option linter.unusedSimpArgs false
set_option linter.unusedVariables false
set_option linter.constructorNameAsVariable false
namespace Go.Proofs
open Go.Vc Go.RowKit
set_option maxRecDepth 10000

def chV (q : Option Addr) (z : Nat) (i : Nat) : Value := .slice (q.map (·.add (z * i * 1))) z z
def chL (k i : Nat) : List (Fin k) := (List.finRange k).take i
theorem chL_succ {k i : Nat} (h : i < k) : chL k (i + 1) = chL k i ++ [⟨i, h⟩] := by
  unfold chL
  rw [List.take_add_one, List.getElem?_eq_getElem (by simpa using h)]
  simp
theorem chL_len {k i : Nat} (h : i ≤ k) : (chL k i).length = i := by simp [chL]; omega
theorem chL_all (k : Nat) : chL k k = List.finRange k := by
  unfold chL
  rw [List.take_of_length_le (by simp)]
theorem fin_map {β : Type} (k : Nat) (f : Nat → β) : (List.finRange k).map (fun i => f i.val) = (List.range k).map f := by
  apply List.ext_getElem <;> simp
theorem Rd.cap {w : World} {q : Option Addr} {n c c' : Nat} {bs : List Int} (h : Rd w (.slice q n c) bs) (hc : n ≤ c') : Rd w (.slice q n c') bs := by
  obtain ⟨⟨q', c2, e, hc2⟩, hm, hr⟩ := h
  injection e with e1 e2 e3
  subst e2
  exact ⟨⟨q, c', rfl, hc⟩, hm, hr⟩
theorem chV_rd {w : World} {q : Option Addr} {n c z i : Nat} {bs : List Int} (h : Rd w (.slice q n c) bs) (hz : 1 ≤ z) (hi : z * i + z ≤ n) : Rd w (chV q z i) ((bs.take (z * i + z)).drop (z * i)) := by
  obtain ⟨⟨q', c2, e, hc2⟩, _, _⟩ := id h
  injection e with e1 e2 e3
  have hc := h.cut (l := z * i) (j := z * i + z) (by omega) hi
  have e4 : z * i + z - z * i = z := by omega
  rw [e4] at hc
  have h2 := hc.cap (c' := z) (Nat.le_refl _)
  unfold advA at h2
  rw [if_neg (by omega)] at h2
  exact h2
theorem grown_drew (w : World) : w.grownBy w.drew none := ⟨rfl, rfl, rfl, Nat.le_refl _, fun _ _ _ => rfl⟩
set_option maxHeartbeats 1600000 in
theorem chunk_stops (w0 : World) (b1 b2 n c z k : Nat) (q : Option Addr) (T1 T2 : TypeId) (h1 : w0.heap[b1]? = some (.cells #[.slice q n c] T1 (0, 0))) (h2 : w0.heap[b2]? = some (.cells #[.int .i64 (z : Nat)] T2 (0, 0)))
    (hb1 : b1 < w0.heap.size) (hb2 : b2 < w0.heap.size) (hn : n = z * k) (hnc : n ≤ c) (hz : 1 ≤ z) (hl : n ≤ 1000000000) (hz2 : z ≤ 1000) :
    SeqStopsK (fen none) 2 Try.prog 83 #[.pointer (some ⟨b1, 0, none⟩), .pointer (some ⟨b2, 0, none⟩)] (fun i : Fin k => #[chV q z i.val]) (KpB [b1, b2]) (fun xs => xs = List.finRange k) (fun _ => True) k w0 := by
  intro l J Jx W hW hJ hJx hY h0
  refine callsIn_of_ct t83_ok (Nat.le_of_ble_eq_true rfl) ?_
  simp only [List.toList_toArray, Array.toList_append, List.cons_append, List.nil_append]
  simp only [argE_nil, argE_cons, Nat.reduceAdd, Nat.zero_add]
  have m1 := (hW.block b1 (by omega)).trans h1
  have m2 := (hW.block b2 (by omega)).trans h2
  simp (disch := first | omega | assumption | rfl | (simp only [vcS] <;> omega) | fail) only [t83, ↓vcC, slc3_s, ↓ptV_l, ↓vcA, vcB, ↓vcD, vcE, ↓reduceIte, Nat.reduceEqDiff, Nat.reduceAdd, Nat.reduceMul, Nat.reduceLeDiff, Int.reduceLE, Int.reduceLT, Int.reduceEq, Int.reduceToNat, Int.reduceAdd, Int.reduceSub, Int.reduceMul, Int.reduceNeg, reduceCtorEq, Option.bind_some, Option.map_some, List.length_cons, List.length_nil, vcM, List.getElem?_toArray, List.getElem?_cons_zero, List.getElem?_cons_succ]
  (refine nx_at ?_; simp (disch := first | omega | assumption | rfl | (simp only [vcS] <;> omega) | fail) only [↓vcC, slc3_s, ↓ptV_l, ↓vcA, vcB, ↓vcD, vcE, ↓reduceIte, Nat.reduceEqDiff, Nat.reduceAdd, Nat.reduceMul, Nat.reduceLeDiff, Int.reduceLE, Int.reduceLT, Int.reduceEq, Int.reduceToNat, Int.reduceAdd, Int.reduceSub, Int.reduceMul, Int.reduceNeg, reduceCtorEq, Option.bind_some, Option.map_some, List.length_cons, List.length_nil, vcM, List.getElem?_toArray, List.getElem?_cons_zero, List.getElem?_cons_succ])
  refine lp_of (fun j ds e W => ds = [] ∧ ∃ i, i + j = k ∧ Vc.look e 4 = some (.int .i64 (z * i : Nat)) ∧ Vc.look e 0 = some (.func (.yield l) #[] #[]) ∧ Vc.look e 1 = some (.pointer (some ⟨b1, 0, none⟩)) ∧ Vc.look e 2 = some (.pointer (some ⟨b2, 0, none⟩)) ∧
    J (chL k i) W ∧ W.heap[b1]? = some (.cells #[.slice q n c] T1 (0, 0)) ∧ W.heap[b2]? = some (.cells #[.int .i64 (z : Nat)] T2 (0, 0))) k ?_ ?_
  · exact ⟨rfl, 0, by omega, rfl, rfl, rfl, rfl, h0, m1, m2⟩
  clear h0 m1 m2 hW
  generalize W.heap.size = B at hJ hJx
  clear W
  rintro j ds e W ⟨rfl, i, hi, l4, l0, l1, l2, hJi, m1, m2⟩
  have hzk : z * i ≤ z * k := Nat.mul_le_mul_left z (by omega)
  simp (disch := first | omega | assumption | rfl | (simp only [vcS] <;> omega) | fail) only [↓vcC, slc3_s, ↓ptV_l, ↓vcA, vcB, ↓vcD, vcE, ↓reduceIte, Nat.reduceEqDiff, Nat.reduceAdd, Nat.reduceMul, Nat.reduceLeDiff, Int.reduceLE, Int.reduceLT, Int.reduceEq, Int.reduceToNat, Int.reduceAdd, Int.reduceSub, Int.reduceMul, Int.reduceNeg, reduceCtorEq, Option.bind_some, Option.map_some, List.length_cons, List.length_nil, vcM, List.getElem?_toArray, List.getElem?_cons_zero, List.getElem?_cons_succ, l4, l1, m1]
  by_cases hik : i < k
  · have hzi : z * i + z ≤ z * k := by
      have := Nat.mul_le_mul_left z (show i + 1 ≤ k by omega)
      rwa [Nat.mul_succ] at this
    have c1 : ((z * i : Nat) : Int) < (n : Nat) := by omega
    (refine nx_at ?_; simp (disch := first | omega | assumption | rfl | (simp only [vcS] <;> omega) | fail) only [↓vcC, slc3_s, ↓ptV_l, ↓vcA, vcB, ↓vcD, vcE, ↓reduceIte, Nat.reduceEqDiff, Nat.reduceAdd, Nat.reduceMul, Nat.reduceLeDiff, Int.reduceLE, Int.reduceLT, Int.reduceEq, Int.reduceToNat, Int.reduceAdd, Int.reduceSub, Int.reduceMul, Int.reduceNeg, reduceCtorEq, Option.bind_some, Option.map_some, List.length_cons, List.length_nil, vcM, List.getElem?_toArray, List.getElem?_cons_zero, List.getElem?_cons_succ, c1])
    have c2 : 0 ≤ ((z * i : Nat) : Int) ∧ ((z * i : Nat) : Int) ≤ (n : Nat) := by omega
    have c3 : min ((z : Nat) : Int) ((n - ((z * i : Nat) : Int).toNat : Nat) : Int) = (z : Nat) := by omega
    (refine nx_at ?_; simp (disch := first | omega | assumption | rfl | (simp only [vcS] <;> omega) | fail) only [↓vcC, slc3_s, ↓ptV_l, ↓vcA, vcB, ↓vcD, vcE, ↓reduceIte, Nat.reduceEqDiff, Nat.reduceAdd, Nat.reduceMul, Nat.reduceLeDiff, Int.reduceLE, Int.reduceLT, Int.reduceEq, Int.reduceToNat, Int.reduceAdd, Int.reduceSub, Int.reduceMul, Int.reduceNeg, reduceCtorEq, Option.bind_some, Option.map_some, List.length_cons, List.length_nil, vcM, List.getElem?_toArray, List.getElem?_cons_zero, List.getElem?_cons_succ, l4, l1, l2, m1, m2, c2, c3])
    have c4 : IntKind.i64.wrap (((z * i : Nat) : Int) + (z : Nat)) = ((z * i + z : Nat) : Int) := by rw [wrap_i64 (by omega) (by omega)]; omega
    have c5 : 0 ≤ ((z * i + z : Nat) : Int) ∧ ((z * i + z : Nat) : Int) ≤ (c : Nat) ∧ 0 ≤ ((z * i + z : Nat) : Int) ∧ ((z * i + z : Nat) : Int) ≤ ((z * i + z : Nat) : Int) := by omega
    have c6 : 0 ≤ ((z * i : Nat) : Int) ∧ ((z * i : Nat) : Int) ≤ ((z * i + z : Nat) : Int) := by omega
    have c7 : advA 1 q (z * i + z) (z * i) = q.map (·.add (z * i * 1)) := if_neg (by omega)
    have c8 : z * i + z - z * i = z := by omega
    (refine nx_at ?_; simp (disch := first | omega | assumption | rfl | (simp only [vcS] <;> omega) | fail) only [↓vcC, slc3_s, ↓ptV_l, ↓vcA, vcB, ↓vcD, vcE, ↓reduceIte, Nat.reduceEqDiff, Nat.reduceAdd, Nat.reduceMul, Nat.reduceLeDiff, Int.reduceLE, Int.reduceLT, Int.reduceEq, Int.reduceToNat, Int.reduceAdd, Int.reduceSub, Int.reduceMul, Int.reduceNeg, reduceCtorEq, Option.bind_some, Option.map_some, List.length_cons, List.length_nil, vcM, List.getElem?_toArray, List.getElem?_cons_zero, List.getElem?_cons_succ, l0, l4, l1, l2, m1, m2, c4, c5, c6, Int.toNat_natCast, c7, c8])
    have hJd : J (chL k i) W.drew := hJ _ _ _ _ hJi (grown_drew W) (fun r h => by cases h)
    refine yv_of (hY (chL k i) ⟨i, hik⟩ W.drew hJd (by rw [chL_len (by omega)]; exact hik)) ?_
    rintro en W2 (⟨rfl, hJ2, hB2⟩ | ⟨rfl, hJx2⟩)
    · refine ⟨_, rfl, ?_⟩
      have m1' := (hB2 b1 (by simp)).trans m1
      have m2' := (hB2 b2 (by simp)).trans m2
      simp (disch := first | omega | assumption | rfl | (simp only [vcS] <;> omega) | fail) only [↓vcC, slc3_s, ↓ptV_l, ↓vcA, vcB, ↓vcD, vcE, ↓reduceIte, Nat.reduceEqDiff, Nat.reduceAdd, Nat.reduceMul, Nat.reduceLeDiff, Int.reduceLE, Int.reduceLT, Int.reduceEq, Int.reduceToNat, Int.reduceAdd, Int.reduceSub, Int.reduceMul, Int.reduceNeg, reduceCtorEq, Option.bind_some, Option.map_some, List.length_cons, List.length_nil, vcM, List.getElem?_toArray, List.getElem?_cons_zero, List.getElem?_cons_succ]
      (refine nx_at ?_; simp (disch := first | omega | assumption | rfl | (simp only [vcS] <;> omega) | fail) only [↓vcC, slc3_s, ↓ptV_l, ↓vcA, vcB, ↓vcD, vcE, ↓reduceIte, Nat.reduceEqDiff, Nat.reduceAdd, Nat.reduceMul, Nat.reduceLeDiff, Int.reduceLE, Int.reduceLT, Int.reduceEq, Int.reduceToNat, Int.reduceAdd, Int.reduceSub, Int.reduceMul, Int.reduceNeg, reduceCtorEq, Option.bind_some, Option.map_some, List.length_cons, List.length_nil, vcM, List.getElem?_toArray, List.getElem?_cons_zero, List.getElem?_cons_succ])
      (refine nx_at ?_; simp (disch := first | omega | assumption | rfl | (simp only [vcS] <;> omega) | fail) only [↓vcC, slc3_s, ↓ptV_l, ↓vcA, vcB, ↓vcD, vcE, ↓reduceIte, Nat.reduceEqDiff, Nat.reduceAdd, Nat.reduceMul, Nat.reduceLeDiff, Int.reduceLE, Int.reduceLT, Int.reduceEq, Int.reduceToNat, Int.reduceAdd, Int.reduceSub, Int.reduceMul, Int.reduceNeg, reduceCtorEq, Option.bind_some, Option.map_some, List.length_cons, List.length_nil, vcM, List.getElem?_toArray, List.getElem?_cons_zero, List.getElem?_cons_succ, l4, l1, l2, m1', m2', c4])
      refine ⟨j - 1, by omega, i + 1, by omega, by rw [Nat.mul_succ], l0, by rw [chL_succ hik]; exact hJ2⟩
    · refine ⟨_, rfl, ?_⟩
      simp (disch := first | omega | assumption | rfl | (simp only [vcS] <;> omega) | fail) only [↓vcC, slc3_s, ↓ptV_l, ↓vcA, vcB, ↓vcD, vcE, ↓reduceIte, Nat.reduceEqDiff, Nat.reduceAdd, Nat.reduceMul, Nat.reduceLeDiff, Int.reduceLE, Int.reduceLT, Int.reduceEq, Int.reduceToNat, Int.reduceAdd, Int.reduceSub, Int.reduceMul, Int.reduceNeg, reduceCtorEq, Option.bind_some, Option.map_some, List.length_cons, List.length_nil, vcM, List.getElem?_toArray, List.getElem?_cons_zero, List.getElem?_cons_succ]
      (refine nx_at ?_; simp (disch := first | omega | assumption | rfl | (simp only [vcS] <;> omega) | fail) only [↓vcC, slc3_s, ↓ptV_l, ↓vcA, vcB, ↓vcD, vcE, ↓reduceIte, Nat.reduceEqDiff, Nat.reduceAdd, Nat.reduceMul, Nat.reduceLeDiff, Int.reduceLE, Int.reduceLT, Int.reduceEq, Int.reduceToNat, Int.reduceAdd, Int.reduceSub, Int.reduceMul, Int.reduceNeg, reduceCtorEq, Option.bind_some, Option.map_some, List.length_cons, List.length_nil, vcM, List.getElem?_toArray, List.getElem?_cons_zero, List.getElem?_cons_succ])
      exact ⟨⟨_, rfl⟩, .inr ⟨_, hJx2⟩⟩
  · obtain rfl : i = k := by omega
    have c1 : ¬ ((z * i : Nat) : Int) < (n : Nat) := by omega
    (refine nx_at ?_; simp (disch := first | omega | assumption | rfl | (simp only [vcS] <;> omega) | fail) only [↓vcC, slc3_s, ↓ptV_l, ↓vcA, vcB, ↓vcD, vcE, ↓reduceIte, Nat.reduceEqDiff, Nat.reduceAdd, Nat.reduceMul, Nat.reduceLeDiff, Int.reduceLE, Int.reduceLT, Int.reduceEq, Int.reduceToNat, Int.reduceAdd, Int.reduceSub, Int.reduceMul, Int.reduceNeg, reduceCtorEq, Option.bind_some, Option.map_some, List.length_cons, List.length_nil, vcM, List.getElem?_toArray, List.getElem?_cons_zero, List.getElem?_cons_succ, c1])
    rw [chL_all] at hJi
    exact ⟨⟨_, rfl⟩, .inl ⟨_, rfl, hJi⟩⟩
/-- 'Chunk' gives an iterator over two boxes. -/
theorem chunk_ok (w : World) (x : Value) (z : Nat) (hx : x.cells = #[x]) (hz : 1 ≤ z) (hz2 : z ≤ 1000) :
    Calls Try.prog 70 #[x, .int .i64 (z : Nat)] w (Ret fun u w' => ∃ b1 b2 T1 T2, u = .func (.func 83) #[] #[.pointer (some ⟨b1, 0, none⟩), .pointer (some ⟨b2, 0, none⟩)] ∧
      w'.heap[b1]? = some (.cells #[x] T1 (0, 0)) ∧ w'.heap[b2]? = some (.cells #[.int .i64 (z : Nat)] T2 (0, 0)) ∧ Ext w w' ∧ b1 < w'.heap.size ∧ b2 < w'.heap.size ∧ w.heap.size ≤ b1 ∧ w.heap.size ≤ b2) := by
  refine calls_of_cfg c70_ok (Nat.le_of_ble_eq_true rfl) ?_
  simp only [argE_nil, argE_cons, Nat.reduceAdd, Nat.zero_add]
  (refine W_at c70_ok ?_; refine ⟨_, rfl, ?_⟩; simp (disch := first | omega | assumption | rfl | (simp only [vcS] <;> omega) | fail) only [↓ptV_l, ↓vcA, vcB, ↓vcD, vcE, ↓reduceIte, Nat.reduceEqDiff, Nat.reduceAdd, Nat.reduceMul, Nat.reduceLeDiff, Int.reduceLE, Int.reduceLT, Int.reduceEq, Int.reduceToNat, Int.reduceAdd, Int.reduceSub, Int.reduceMul, Int.reduceNeg, reduceCtorEq, Option.bind_some, Option.map_some, List.length_cons, List.length_nil, vcM, List.getElem?_toArray, List.getElem?_cons_zero, List.getElem?_cons_succ, hx])
  have hlt : ¬ ((z : Nat) : Int) < 1 := by omega
  have h1 : ((w.alloc (.cells #[x] 22)).alloc (.cells #[.int .i64 (z : Nat)] 3)).heap[w.heap.size]? = some (.cells #[x] 22 (0, 0)) := by rw [heap_old _ _ _ (by simp)]; exact heap_new _ _ _ rfl
  have h2 : ((w.alloc (.cells #[x] 22)).alloc (.cells #[.int .i64 (z : Nat)] 3)).heap[w.heap.size + 1]? = some (.cells #[.int .i64 (z : Nat)] 3 (0, 0)) := heap_new _ _ _ (by simp)
  have hE : Ext w ((w.alloc (.cells #[x] 22)).alloc (.cells #[.int .i64 (z : Nat)] 3)) := ((Keep.refl _ w).alloc _).alloc _
  have hS : ((w.alloc (.cells #[x] 22)).alloc (.cells #[.int .i64 (z : Nat)] 3)).heap.size = w.heap.size + 2 := by simp

  generalize World.alloc _ _ = w1 at h1 h2 hE hS ⊢
  (refine W_at c70_ok ?_; refine ⟨_, rfl, ?_⟩; simp (disch := first | omega | assumption | rfl | (simp only [vcS] <;> omega) | fail) only [↓ptV_l, ↓vcA, vcB, ↓vcD, vcE, ↓reduceIte, Nat.reduceEqDiff, Nat.reduceAdd, Nat.reduceMul, Nat.reduceLeDiff, Int.reduceLE, Int.reduceLT, Int.reduceEq, Int.reduceToNat, Int.reduceAdd, Int.reduceSub, Int.reduceMul, Int.reduceNeg, reduceCtorEq, Option.bind_some, Option.map_some, List.length_cons, List.length_nil, vcM, List.getElem?_toArray, List.getElem?_cons_zero, List.getElem?_cons_succ, h2, hlt])
  (refine W_at c70_ok ?_; refine ⟨_, rfl, ?_⟩; simp (disch := first | omega | assumption | rfl | (simp only [vcS] <;> omega) | fail) only [↓ptV_l, ↓vcA, vcB, ↓vcD, vcE, ↓reduceIte, Nat.reduceEqDiff, Nat.reduceAdd, Nat.reduceMul, Nat.reduceLeDiff, Int.reduceLE, Int.reduceLT, Int.reduceEq, Int.reduceToNat, Int.reduceAdd, Int.reduceSub, Int.reduceMul, Int.reduceNeg, reduceCtorEq, Option.bind_some, Option.map_some, List.length_cons, List.length_nil, vcM, List.getElem?_toArray, List.getElem?_cons_zero, List.getElem?_cons_succ])
  (refine W_at c70_ok ?_; refine ⟨_, rfl, ?_⟩; simp (disch := first | omega | assumption | rfl | (simp only [vcS] <;> omega) | fail) only [↓ptV_l, ↓vcA, vcB, ↓vcD, vcE, ↓reduceIte, Nat.reduceEqDiff, Nat.reduceAdd, Nat.reduceMul, Nat.reduceLeDiff, Int.reduceLE, Int.reduceLT, Int.reduceEq, Int.reduceToNat, Int.reduceAdd, Int.reduceSub, Int.reduceMul, Int.reduceNeg, reduceCtorEq, Option.bind_some, Option.map_some, List.length_cons, List.length_nil, vcM, List.getElem?_toArray, List.getElem?_cons_zero, List.getElem?_cons_succ])
  (refine W_at c70_ok ?_; refine ⟨_, rfl, ?_⟩; simp (disch := first | omega | assumption | rfl | (simp only [vcS] <;> omega) | fail) only [↓ptV_l, ↓vcA, vcB, ↓vcD, vcE, ↓reduceIte, Nat.reduceEqDiff, Nat.reduceAdd, Nat.reduceMul, Nat.reduceLeDiff, Int.reduceLE, Int.reduceLT, Int.reduceEq, Int.reduceToNat, Int.reduceAdd, Int.reduceSub, Int.reduceMul, Int.reduceNeg, reduceCtorEq, Option.bind_some, Option.map_some, List.length_cons, List.length_nil, vcM, List.getElem?_toArray, List.getElem?_cons_zero, List.getElem?_cons_succ, Ret_returned])
  exact ⟨_, _, _, _, rfl, h1, h2, hE, by omega, by omega, by omega, by omega⟩
end Go.Proofs
