/- The program's writer. -/
import Derived.Test.YtehloghkgdilkaaW0
set_option linter.unusedSimpArgs false
set_option linter.unusedVariables false
set_option linter.constructorNameAsVariable false
namespace Go.Proofs
open Go.Vc
set_option maxRecDepth 10000

theorem eqS_some (neg : Bool) (a : Addr) (n c m d : Nat) : eqSR neg (.slice (some a) n c) (.slice none m d) = some (.bool neg) := by simp [eqSR]
theorem eqS_none (neg : Bool) (n c m d : Nat) : eqSR neg (.slice none n c) (.slice none m d) = some (.bool (!neg)) := by simp [eqSR]

/-- A copy of one's own: what bytes.Clone hands back. -/
theorem clone_ok (w : World) (v : Value) (bs : List Int) (h : Rd w v bs) (hn : bs.length ≤ 1000000000) :
    Calls Try.prog 33 #[v] w (Ret fun u w' => Own1 w' u bs ∧ Ext w w' ∧ ∀ g, blk u g → w.heap.size ≤ g) := by
  refine calls_of_cfg c33_ok (Nat.le_of_ble_eq_true rfl) ?_
  simp only [argE_nil, argE_cons, Nat.reduceAdd, Nat.zero_add]
  have h0 := h
  obtain ⟨⟨q, c, rfl, hc⟩, hm, hr⟩ := h
  (refine W_at c33_ok ?_; refine ⟨_, rfl, ?_⟩; simp (disch := first | omega | assumption | rfl | (simp only [vcS] <;> omega) | fail) only [↓ptV_l, ↓vcA, vcB, ↓vcD, vcE, ↓reduceIte, Nat.reduceEqDiff, Nat.reduceAdd, Nat.reduceMul, Nat.reduceLeDiff, Int.reduceLE, Int.reduceLT, Int.reduceEq, Int.reduceToNat, Int.reduceAdd, Int.reduceSub, Int.reduceMul, Int.reduceNeg, reduceCtorEq, Option.bind_some, Option.map_some, List.length_cons, List.length_nil, vcM, List.getElem?_toArray, List.getElem?_cons_zero, List.getElem?_cons_succ])
  cases q with
  | none =>
    have hb0 : bs = [] := by
      cases bs with
      | nil => rfl
      | cons b bs =>
        simp only [rdS, List.length_cons] at hr
        rw [if_neg (by omega)] at hr; cases hr
    subst hb0
    (refine W_at c33_ok ?_; refine ⟨_, rfl, ?_⟩; simp (disch := first | omega | assumption | rfl | (simp only [vcS] <;> omega) | fail) only [↓ptV_l, ↓vcA, vcB, ↓vcD, vcE, ↓reduceIte, Nat.reduceEqDiff, Nat.reduceAdd, Nat.reduceMul, Nat.reduceLeDiff, Int.reduceLE, Int.reduceLT, Int.reduceEq, Int.reduceToNat, Int.reduceAdd, Int.reduceSub, Int.reduceMul, Int.reduceNeg, reduceCtorEq, Option.bind_some, Option.map_some, List.length_cons, List.length_nil, vcM, List.getElem?_toArray, List.getElem?_cons_zero, List.getElem?_cons_succ, eqS_none])
    (refine W_at c33_ok ?_; refine ⟨_, rfl, ?_⟩; simp (disch := first | omega | assumption | rfl | (simp only [vcS] <;> omega) | fail) only [↓ptV_l, ↓vcA, vcB, ↓vcD, vcE, ↓reduceIte, Nat.reduceEqDiff, Nat.reduceAdd, Nat.reduceMul, Nat.reduceLeDiff, Int.reduceLE, Int.reduceLT, Int.reduceEq, Int.reduceToNat, Int.reduceAdd, Int.reduceSub, Int.reduceMul, Int.reduceNeg, reduceCtorEq, Option.bind_some, Option.map_some, List.length_cons, List.length_nil, vcM, List.getElem?_toArray, List.getElem?_cons_zero, List.getElem?_cons_succ])
    (refine W_at c33_ok ?_; refine ⟨_, rfl, ?_⟩; simp (disch := first | omega | assumption | rfl | (simp only [vcS] <;> omega) | fail) only [↓ptV_l, ↓vcA, vcB, ↓vcD, vcE, ↓reduceIte, Nat.reduceEqDiff, Nat.reduceAdd, Nat.reduceMul, Nat.reduceLeDiff, Int.reduceLE, Int.reduceLT, Int.reduceEq, Int.reduceToNat, Int.reduceAdd, Int.reduceSub, Int.reduceMul, Int.reduceNeg, reduceCtorEq, Option.bind_some, Option.map_some, List.length_cons, List.length_nil, vcM, List.getElem?_toArray, List.getElem?_cons_zero, List.getElem?_cons_succ])
    (refine W_at c33_ok ?_; refine ⟨_, rfl, ?_⟩; simp (disch := first | omega | assumption | rfl | (simp only [vcS] <;> omega) | fail) only [↓ptV_l, ↓vcA, vcB, ↓vcD, vcE, ↓reduceIte, Nat.reduceEqDiff, Nat.reduceAdd, Nat.reduceMul, Nat.reduceLeDiff, Int.reduceLE, Int.reduceLT, Int.reduceEq, Int.reduceToNat, Int.reduceAdd, Int.reduceSub, Int.reduceMul, Int.reduceNeg, reduceCtorEq, Option.bind_some, Option.map_some, List.length_cons, List.length_nil, vcM, List.getElem?_toArray, List.getElem?_cons_zero, List.getElem?_cons_succ, Ret_returned])
    exact ⟨Own1.nil w, Keep.refl _ w, fun g hg => by cases hg⟩
  | some a =>
    (refine W_at c33_ok ?_; refine ⟨_, rfl, ?_⟩; simp (disch := first | omega | assumption | rfl | (simp only [vcS] <;> omega) | fail) only [↓ptV_l, ↓vcA, vcB, ↓vcD, vcE, ↓reduceIte, Nat.reduceEqDiff, Nat.reduceAdd, Nat.reduceMul, Nat.reduceLeDiff, Int.reduceLE, Int.reduceLT, Int.reduceEq, Int.reduceToNat, Int.reduceAdd, Int.reduceSub, Int.reduceMul, Int.reduceNeg, reduceCtorEq, Option.bind_some, Option.map_some, List.length_cons, List.length_nil, vcM, List.getElem?_toArray, List.getElem?_cons_zero, List.getElem?_cons_succ, eqS_some])
    (refine W_at c33_ok ?_; refine ⟨_, rfl, ?_⟩; simp (disch := first | omega | assumption | rfl | (simp only [vcS] <;> omega) | fail) only [↓ptV_l, ↓vcA, vcB, ↓vcD, vcE, ↓reduceIte, Nat.reduceEqDiff, Nat.reduceAdd, Nat.reduceMul, Nat.reduceLeDiff, Int.reduceLE, Int.reduceLT, Int.reduceEq, Int.reduceToNat, Int.reduceAdd, Int.reduceSub, Int.reduceMul, Int.reduceNeg, reduceCtorEq, Option.bind_some, Option.map_some, List.length_cons, List.length_nil, vcM, List.getElem?_toArray, List.getElem?_cons_zero, List.getElem?_cons_succ])
    (refine W_at c33_ok ?_; refine ⟨_, rfl, ?_⟩; simp (disch := first | omega | assumption | rfl | (simp only [vcS] <;> omega) | fail) only [↓ptV_l, ↓vcA, vcB, ↓vcD, vcE, ↓reduceIte, Nat.reduceEqDiff, Nat.reduceAdd, Nat.reduceMul, Nat.reduceLeDiff, Int.reduceLE, Int.reduceLT, Int.reduceEq, Int.reduceToNat, Int.reduceAdd, Int.reduceSub, Int.reduceMul, Int.reduceNeg, reduceCtorEq, Option.bind_some, Option.map_some, List.length_cons, List.length_nil, vcM, List.getElem?_toArray, List.getElem?_cons_zero, List.getElem?_cons_succ])
    have hE : Ext w (w.alloc (.cells #[] 5)) := by (repeat' first | exact Keep.refl _ _ | assumption | refine Keep.drew ?_ | refine Keep.alloc ?_ _ | refine Keep.putN ?_ _ ?_ | refine Keep.setCell ?_ _ ?_ | refine Keep.setO ?_ _ ?_ | exact fun _ => Or.inl rfl | exact fun _ => Or.inr rfl | exact fun _ => rfl | (intro hh; exfalso; ((try simp only [vcS] at hh) <;> omega)))
    have ho : Own1 (w.alloc (.cells #[] 5)) (.slice (some ⟨w.heap.size, 0, none⟩) 0 0) [] := own_lit1 (bs := []) (Nat.zero_le _)
    refine appB ho (h0.ext hE) (by simp; omega) fun v' w' h1 h2 h3 => ?_
    (refine W_at c33_ok ?_; refine ⟨_, rfl, ?_⟩; simp (disch := first | omega | assumption | rfl | (simp only [vcS] <;> omega) | fail) only [↓ptV_l, ↓vcA, vcB, ↓vcD, vcE, ↓reduceIte, Nat.reduceEqDiff, Nat.reduceAdd, Nat.reduceMul, Nat.reduceLeDiff, Int.reduceLE, Int.reduceLT, Int.reduceEq, Int.reduceToNat, Int.reduceAdd, Int.reduceSub, Int.reduceMul, Int.reduceNeg, reduceCtorEq, Option.bind_some, Option.map_some, List.length_cons, List.length_nil, vcM, List.getElem?_toArray, List.getElem?_cons_zero, List.getElem?_cons_succ, Ret_returned])
    refine ⟨h1, hE.trans h2 fun i hi hb => ?_, fun g hg => ?_⟩
    · cases hb; exact absurd hi (Nat.lt_irrefl _)
    · rcases h3 g hg with hb | hb
      · cases hb; exact Nat.le_refl _
      · rw [size_alloc] at hb; omega

/-- What a step of the writer changes. -/
def WS (p : Nat) (v : Value) (i : Nat) : Prop := i = p ∨ blk v i
/-- A number's lowest n bytes. -/
def lowF : Nat → Int → List Int
  | 0, _ => []
  | n + 1, x => x % 256 :: lowF n (x / 256)
theorem lowF_len : ∀ (n : Nat) (x : Int), (lowF n x).length = n
  | 0, _ => rfl
  | n + 1, x => by simp [lowF, lowF_len n]
theorem lowF_byt : ∀ (n : Nat) (x : Int), byt (lowF n x)
  | 0, _ => byt_nil
  | n + 1, x => by
    intro b hb
    simp only [lowF, List.mem_cons] at hb
    rcases hb with rfl | hb
    · omega
    · exact lowF_byt n _ b hb
theorem shr_8 (x : Int) : x.fdiv (2 ^ Nat.min 8 IntKind.u64.bits) = x / 256 := by
  show x.fdiv (2 ^ (Nat.min 8 64)) = x / 256
  rw [show Nat.min 8 64 = 8 from rfl, Int.fdiv_eq_ediv_of_nonneg _ (by decide)]
  rfl

/-- How many bytes a compact size has behind its first one. -/
def wideF (n : Int) : Nat := if n < 253 then 0 else if n < 65536 then 2 else if n < 4294967296 then 4 else 8
end Go.Proofs
