/- What the document writes. -/
import Derived.Test.YtfackfekmadjbaaW2
set_option linter.unusedSimpArgs false
set_option linter.unusedVariables false
set_option linter.constructorNameAsVariable false
namespace Go.Proofs
open Go.Vc
set_option maxRecDepth 10000

/-- A slice of bytes that the call made. -/
structure New (w w' : World) (u : Value) (bs : List Int) : Prop where
  own : Own1 w' u bs
  ext : Ext w w'
  new : ∀ g, blk u g → w.heap.size ≤ g
theorem New.nil (w : World) : New w w (.slice none 0 0) [] := ⟨Own1.nil w, Keep.refl _ w, fun g h => by cases h⟩
theorem New.keep {w w' w2 : World} {u : Value} {bs : List Int} (h : New w w' u bs) (k : Ext w' w2) : New w w2 u bs := ⟨h.own.ext k, h.ext.ext k, h.new⟩
theorem New.pre {w0 w w' : World} {u : Value} {bs : List Int} (h : New w w' u bs) (k : Ext w0 w) : New w0 w' u bs := ⟨h.own, k.ext h.ext, fun g hg => Nat.le_trans k.size (h.new g hg)⟩
theorem New.lit {w : World} {bs : List Int} (hn : bs.length ≤ maxLen) : New w (w.alloc (.cells (bv bs).toArray 5)) (.slice (some ⟨w.heap.size, 0, none⟩) bs.length bs.length) bs :=
  ⟨own_lit1 hn, (Keep.refl _ w).alloc _, fun g hg => by cases hg; exact Nat.le_refl _⟩
/-- 'append' of bytes onto such a slice. -/
theorem appN {w0 w : World} {v x : Value} {bs news : List Int} {K : Value → World → Prop} (h : New w0 w v bs) (hx : Rd w x news) (hlen : bs.length + news.length ≤ 1000000000)
    (hk : ∀ v' w', New w0 w' v' (bs ++ news) → Keep (blk v) w w' → (∀ g, blk v' g → blk v g ∨ w.heap.size ≤ g) → K v' w') : appV 5 1 1 [.int .u8 0] v x w K := by
  refine appB h.own hx hlen fun v' w' h1 h2 h3 => hk v' w' ⟨h1, ?_, fun g hg => ?_⟩ h2 h3
  · exact h.ext.trans h2 fun i hi hb => by have := h.new i hb; omega
  · rcases h3 g hg with h4 | h4
    · exact h.new g h4
    · exact Nat.le_trans h.ext.size h4
theorem appNL {w0 w : World} {v : Value} {bs news : List Int} {K : Value → World → Prop} (h : New w0 w v bs) (hlen : bs.length + news.length ≤ 1000000000)
    (hk : ∀ v' w', New w0 w' v' (bs ++ news) → Keep (blk v) w w' → (∀ g, blk v' g → blk v g ∨ w.heap.size ≤ g) → K v' w') :
    appV 5 1 1 [.int .u8 0] v (.slice (some ⟨w.heap.size, 0, none⟩) news.length news.length) (w.alloc (.cells (bv news).toArray 5)) K := by
  refine appL h.own hlen fun v' w' h1 h2 h3 => hk v' w' ⟨h1, ?_, fun g hg => ?_⟩ h2 h3
  · exact h.ext.trans h2 fun i hi hb => by have := h.new i hb; omega
  · rcases h3 g hg with h4 | h4
    · exact h.new g h4
    · exact Nat.le_trans h.ext.size h4

/-- 'Equal' of bytes. -/
theorem equal_ok (w : World) (x y : Value) (a b : List Int) (hx : Rd w x a) (hy : Rd w y b) (ha : byt a) (hb : byt b) :
    Calls Try.prog 38 #[x, y] w (Ret fun u w' => u = .bool (decide (a = b)) ∧ w' = w) := by
  refine calls_of_cfg c38_ok (Nat.le_of_ble_eq_true rfl) ?_
  simp only [argE_nil, argE_cons, Nat.reduceAdd, Nat.zero_add]
  have h1 := hx.b2s
  have h2 := hy.b2s
  have h3 := strOf_inj ha hb
  (refine W_at c38_ok ?_; refine ⟨_, rfl, ?_⟩; simp (disch := first | omega | assumption | rfl | (simp only [vcS] <;> omega) | fail) only [↓ptV_l, ↓vcA, vcB, ↓vcD, vcE, ↓reduceIte, Nat.reduceEqDiff, Nat.reduceAdd, Nat.reduceMul, Nat.reduceLeDiff, Int.reduceLE, Int.reduceLT, Int.reduceEq, Int.reduceToNat, Int.reduceAdd, Int.reduceSub, Int.reduceMul, Int.reduceNeg, reduceCtorEq, Option.bind_some, Option.map_some, List.length_cons, List.length_nil, vcM, List.getElem?_toArray, List.getElem?_cons_zero, List.getElem?_cons_succ])
  (refine W_at c38_ok ?_; refine ⟨_, rfl, ?_⟩; simp (disch := first | omega | assumption | rfl | (simp only [vcS] <;> omega) | fail) only [↓ptV_l, ↓vcA, vcB, ↓vcD, vcE, ↓reduceIte, Nat.reduceEqDiff, Nat.reduceAdd, Nat.reduceMul, Nat.reduceLeDiff, Int.reduceLE, Int.reduceLT, Int.reduceEq, Int.reduceToNat, Int.reduceAdd, Int.reduceSub, Int.reduceMul, Int.reduceNeg, reduceCtorEq, Option.bind_some, Option.map_some, List.length_cons, List.length_nil, vcM, List.getElem?_toArray, List.getElem?_cons_zero, List.getElem?_cons_succ, h1, h2, h3])
  (refine W_at c38_ok ?_; refine ⟨_, rfl, ?_⟩; simp (disch := first | omega | assumption | rfl | (simp only [vcS] <;> omega) | fail) only [↓ptV_l, ↓vcA, vcB, ↓vcD, vcE, ↓reduceIte, Nat.reduceEqDiff, Nat.reduceAdd, Nat.reduceMul, Nat.reduceLeDiff, Int.reduceLE, Int.reduceLT, Int.reduceEq, Int.reduceToNat, Int.reduceAdd, Int.reduceSub, Int.reduceMul, Int.reduceNeg, reduceCtorEq, Option.bind_some, Option.map_some, List.length_cons, List.length_nil, vcM, List.getElem?_toArray, List.getElem?_cons_zero, List.getElem?_cons_succ, Ret_returned])
end Go.Proofs
