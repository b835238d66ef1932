/- The program's writer, the second half; what it writes. -/
import Derived.Test.YtfackfekmadjbaaW1
import Derived.Test.YtfackfekmadjbaaM0
set_option linter.unusedSimpArgs false
set_option linter.unusedVariables false
set_option linter.constructorNameAsVariable false
namespace Go.Proofs
open Go.Vc
set_option maxRecDepth 10000

theorem raw_ok (w : World) (p : Nat) (v : Value) (bs : List Int) (x : Value) (news : List Int) (h : WAt w p v bs) (hx : Rd w x news) (hl : bs.length + news.length ≤ 100000000) :
    Calls Try.prog 53 #[.pointer (some ⟨p, 0, none⟩), x] w (Ret fun _ w' => WTo w w' p v (bs ++ news)) := by
  refine calls_of_cfg c53_ok (Nat.le_of_ble_eq_true rfl) ?_
  simp only [argE_nil, argE_cons, Nat.reduceAdd, Nat.zero_add]
  have hat := h.at'
  (refine W_at c53_ok ?_; refine ⟨_, rfl, ?_⟩; simp (disch := first | omega | assumption | rfl | (simp only [vcS] <;> omega) | fail) only [↓ptV_l, ↓vcA, vcB, ↓vcD, vcE, ↓reduceIte, Nat.reduceEqDiff, Nat.reduceAdd, Nat.reduceMul, Nat.reduceLeDiff, Int.reduceLE, Int.reduceLT, Int.reduceEq, Int.reduceToNat, Int.reduceAdd, Int.reduceSub, Int.reduceMul, Int.reduceNeg, reduceCtorEq, Option.bind_some, Option.map_some, List.length_cons, List.length_nil, vcM, List.getElem?_toArray, List.getElem?_cons_zero, List.getElem?_cons_succ, hat])
  refine appB h.own hx (by omega) fun v' w' h1 h2 h3 => ?_
  obtain ⟨hp, hW', hK'⟩ := h.store h1 h2 h3
  refine ⟨one_row h1, wr1_of hp (by simp), ?_⟩
  (refine W_at c53_ok ?_; refine ⟨_, rfl, ?_⟩; simp (disch := first | omega | assumption | rfl | (simp only [vcS] <;> omega) | fail) only [↓ptV_l, ↓vcA, vcB, ↓vcD, vcE, ↓reduceIte, Nat.reduceEqDiff, Nat.reduceAdd, Nat.reduceMul, Nat.reduceLeDiff, Int.reduceLE, Int.reduceLT, Int.reduceEq, Int.reduceToNat, Int.reduceAdd, Int.reduceSub, Int.reduceMul, Int.reduceNeg, reduceCtorEq, Option.bind_some, Option.map_some, List.length_cons, List.length_nil, vcM, List.getElem?_toArray, List.getElem?_cons_zero, List.getElem?_cons_succ, Ret_returned])
  exact ⟨⟨v', hW', h3⟩, hK'⟩

theorem out_ok (w : World) (p : Nat) (v : Value) (bs : List Int) (h : WAt w p v bs) (hl : bs.length ≤ 100000000) :
    Calls Try.prog 54 #[.pointer (some ⟨p, 0, none⟩)] w (Ret fun u w' => Own1 w' u bs ∧ Ext w w' ∧ ∀ g, blk u g → w.heap.size ≤ g) := by
  refine calls_of_cfg c54_ok (Nat.le_of_ble_eq_true rfl) ?_
  simp only [argE_nil, argE_cons, Nat.reduceAdd, Nat.zero_add]
  have hat := h.at'
  (refine W_at c54_ok ?_; refine ⟨_, rfl, ?_⟩; simp (disch := first | omega | assumption | rfl | (simp only [vcS] <;> omega) | fail) only [↓ptV_l, ↓vcA, vcB, ↓vcD, vcE, ↓reduceIte, Nat.reduceEqDiff, Nat.reduceAdd, Nat.reduceMul, Nat.reduceLeDiff, Int.reduceLE, Int.reduceLT, Int.reduceEq, Int.reduceToNat, Int.reduceAdd, Int.reduceSub, Int.reduceMul, Int.reduceNeg, reduceCtorEq, Option.bind_some, Option.map_some, List.length_cons, List.length_nil, vcM, List.getElem?_toArray, List.getElem?_cons_zero, List.getElem?_cons_succ])
  (refine W_at c54_ok ?_; refine ⟨_, rfl, ?_⟩; simp (disch := first | omega | assumption | rfl | (simp only [vcS] <;> omega) | fail) only [↓ptV_l, ↓vcA, vcB, ↓vcD, vcE, ↓reduceIte, Nat.reduceEqDiff, Nat.reduceAdd, Nat.reduceMul, Nat.reduceLeDiff, Int.reduceLE, Int.reduceLT, Int.reduceEq, Int.reduceToNat, Int.reduceAdd, Int.reduceSub, Int.reduceMul, Int.reduceNeg, reduceCtorEq, Option.bind_some, Option.map_some, List.length_cons, List.length_nil, vcM, List.getElem?_toArray, List.getElem?_cons_zero, List.getElem?_cons_succ, hat])
  refine callV_ret (clone_ok w v bs h.own.rd (by omega)) ?_
  rintro u w1 ⟨h1, h2, h3⟩
  (refine W_at c54_ok ?_; refine ⟨_, rfl, ?_⟩; simp (disch := first | omega | assumption | rfl | (simp only [vcS] <;> omega) | fail) only [↓ptV_l, ↓vcA, vcB, ↓vcD, vcE, ↓reduceIte, Nat.reduceEqDiff, Nat.reduceAdd, Nat.reduceMul, Nat.reduceLeDiff, Int.reduceLE, Int.reduceLT, Int.reduceEq, Int.reduceToNat, Int.reduceAdd, Int.reduceSub, Int.reduceMul, Int.reduceNeg, reduceCtorEq, Option.bind_some, Option.map_some, List.length_cons, List.length_nil, vcM, List.getElem?_toArray, List.getElem?_cons_zero, List.getElem?_cons_succ, Ret_returned])
  exact ⟨h1, h2, h3⟩

/-- A compact size. -/
def sizeF (n : Int) : List Int := if n < 253 then [n] else if n < 65536 then 253 :: lowF 2 n else if n < 4294967296 then 254 :: lowF 4 n else 255 :: lowF 8 n
theorem sizeF_len {n : Int} : 1 ≤ (sizeF n).length ∧ (sizeF n).length ≤ 9 := by
  unfold sizeF; split <;> (try split) <;> (try split) <;> simp [lowF_len]
theorem sizeF_byt {n : Int} (h : 0 ≤ n) : byt (sizeF n) := by
  unfold sizeF
  split
  · intro b hb; simp at hb; subst hb; omega
  · split
    · intro b hb; rcases List.mem_cons.1 hb with rfl | hb; omega; exact lowF_byt _ _ b hb
    · split
      · intro b hb; rcases List.mem_cons.1 hb with rfl | hb; omega; exact lowF_byt _ _ b hb
      · intro b hb; rcases List.mem_cons.1 hb with rfl | hb; omega; exact lowF_byt _ _ b hb

end Go.Proofs
