/- Laws that the last text of this claim uses, part 3: written for it, merged by program. -/
import Derived.Test.YtabagepjaccjnaaQA2
set_option linter.unusedSimpArgs false
set_option linter.unusedVariables false
set_option linter.constructorNameAsVariable false
namespace Go.Proofs
open Go.Vc
set_option maxRecDepth 10000

theorem appB4 {w : World} {v x : Value} {bs news : List Int} {K : Value → World → Prop} (h : Own1 w v bs) (hx : Rd w x news) (hlen : bs.length + news.length ≤ 140737488355328)
    (hk : ∀ v' w', Own1 w' v' (bs ++ news) → Keep (blk v) w w' → (∀ g, blk v' g → blk v g ∨ w.heap.size ≤ g) → K v' w') : appV 5 1 1 [.int .u8 0] v x w K := by
  obtain ⟨⟨q, c, rfl, hc⟩, hm, hr⟩ := hx
  have hml : maxLen = 9223372036854775807 := rfl
  refine appV_own3 h rfl hr (bv_flat news) (by omega) (by omega) rfl (Nat.zero_le _) (by omega) fun v' w' ho hg hb => hk v' w' ?_ ?_ hb
  · have e : bv (bs ++ news) = bv bs ++ (bv news).toArray.toList := by rw [bv_app]
    show w'.ownsRow 0 5 1 v' (bs ++ news).length (bv (bs ++ news))
    rw [e, List.length_append]; exact ho
  · exact (Keep.refl _ w).grown hg fun k _ h => h
/-- A copy of one's own, however long. -/
theorem clone4_ok (w : World) (v : Value) (bs : List Int) (h : Rd w v bs) (hn : bs.length ≤ 140737488355328) :
    Calls Try.prog 29 #[v] w (Ret fun u w' => Own1 w' u bs ∧ Ext w w' ∧ ∀ g, blk u g → w.heap.size ≤ g) := by
  refine calls_of_cfg c29_ok (Nat.le_of_ble_eq_true rfl) ?_
  simp only [argE_nil, argE_cons, Nat.reduceAdd, Nat.zero_add]
  have h0 := h
  obtain ⟨⟨q, c, rfl, hc⟩, hm, hr⟩ := h
  (refine W_at c29_ok ?_; refine ⟨_, rfl, ?_⟩; simp (disch := first | omega | assumption | rfl | (simp only [vcS] <;> omega) | fail) only [↓ptV_l, ↓vcA, vcB, ↓vcD, vcE, ↓reduceIte, Nat.reduceEqDiff, Nat.reduceAdd, Nat.reduceMul, Nat.reduceLeDiff, Int.reduceLE, Int.reduceLT, Int.reduceEq, Int.reduceToNat, Int.reduceAdd, Int.reduceSub, Int.reduceMul, Int.reduceNeg, reduceCtorEq, Option.bind_some, Option.map_some, List.length_cons, List.length_nil, vcM, List.getElem?_toArray, List.getElem?_cons_zero, List.getElem?_cons_succ])
  cases q with
  | none =>
    have hb0 : bs = [] := by
      cases bs with
      | nil => rfl
      | cons b bs =>
        simp only [rdS, List.length_cons] at hr
        rw [if_neg (by omega)] at hr; cases hr
    subst hb0
    (refine W_at c29_ok ?_; refine ⟨_, rfl, ?_⟩; simp (disch := first | omega | assumption | rfl | (simp only [vcS] <;> omega) | fail) only [↓ptV_l, ↓vcA, vcB, ↓vcD, vcE, ↓reduceIte, Nat.reduceEqDiff, Nat.reduceAdd, Nat.reduceMul, Nat.reduceLeDiff, Int.reduceLE, Int.reduceLT, Int.reduceEq, Int.reduceToNat, Int.reduceAdd, Int.reduceSub, Int.reduceMul, Int.reduceNeg, reduceCtorEq, Option.bind_some, Option.map_some, List.length_cons, List.length_nil, vcM, List.getElem?_toArray, List.getElem?_cons_zero, List.getElem?_cons_succ, eqS_none])
    (refine W_at c29_ok ?_; refine ⟨_, rfl, ?_⟩; simp (disch := first | omega | assumption | rfl | (simp only [vcS] <;> omega) | fail) only [↓ptV_l, ↓vcA, vcB, ↓vcD, vcE, ↓reduceIte, Nat.reduceEqDiff, Nat.reduceAdd, Nat.reduceMul, Nat.reduceLeDiff, Int.reduceLE, Int.reduceLT, Int.reduceEq, Int.reduceToNat, Int.reduceAdd, Int.reduceSub, Int.reduceMul, Int.reduceNeg, reduceCtorEq, Option.bind_some, Option.map_some, List.length_cons, List.length_nil, vcM, List.getElem?_toArray, List.getElem?_cons_zero, List.getElem?_cons_succ])
    (refine W_at c29_ok ?_; refine ⟨_, rfl, ?_⟩; simp (disch := first | omega | assumption | rfl | (simp only [vcS] <;> omega) | fail) only [↓ptV_l, ↓vcA, vcB, ↓vcD, vcE, ↓reduceIte, Nat.reduceEqDiff, Nat.reduceAdd, Nat.reduceMul, Nat.reduceLeDiff, Int.reduceLE, Int.reduceLT, Int.reduceEq, Int.reduceToNat, Int.reduceAdd, Int.reduceSub, Int.reduceMul, Int.reduceNeg, reduceCtorEq, Option.bind_some, Option.map_some, List.length_cons, List.length_nil, vcM, List.getElem?_toArray, List.getElem?_cons_zero, List.getElem?_cons_succ])
    (refine W_at c29_ok ?_; refine ⟨_, rfl, ?_⟩; simp (disch := first | omega | assumption | rfl | (simp only [vcS] <;> omega) | fail) only [↓ptV_l, ↓vcA, vcB, ↓vcD, vcE, ↓reduceIte, Nat.reduceEqDiff, Nat.reduceAdd, Nat.reduceMul, Nat.reduceLeDiff, Int.reduceLE, Int.reduceLT, Int.reduceEq, Int.reduceToNat, Int.reduceAdd, Int.reduceSub, Int.reduceMul, Int.reduceNeg, reduceCtorEq, Option.bind_some, Option.map_some, List.length_cons, List.length_nil, vcM, List.getElem?_toArray, List.getElem?_cons_zero, List.getElem?_cons_succ, Ret_returned])
    exact ⟨Own1.nil w, Keep.refl _ w, fun g hg => by cases hg⟩
  | some a =>
    (refine W_at c29_ok ?_; refine ⟨_, rfl, ?_⟩; simp (disch := first | omega | assumption | rfl | (simp only [vcS] <;> omega) | fail) only [↓ptV_l, ↓vcA, vcB, ↓vcD, vcE, ↓reduceIte, Nat.reduceEqDiff, Nat.reduceAdd, Nat.reduceMul, Nat.reduceLeDiff, Int.reduceLE, Int.reduceLT, Int.reduceEq, Int.reduceToNat, Int.reduceAdd, Int.reduceSub, Int.reduceMul, Int.reduceNeg, reduceCtorEq, Option.bind_some, Option.map_some, List.length_cons, List.length_nil, vcM, List.getElem?_toArray, List.getElem?_cons_zero, List.getElem?_cons_succ, eqS_some])
    (refine W_at c29_ok ?_; refine ⟨_, rfl, ?_⟩; simp (disch := first | omega | assumption | rfl | (simp only [vcS] <;> omega) | fail) only [↓ptV_l, ↓vcA, vcB, ↓vcD, vcE, ↓reduceIte, Nat.reduceEqDiff, Nat.reduceAdd, Nat.reduceMul, Nat.reduceLeDiff, Int.reduceLE, Int.reduceLT, Int.reduceEq, Int.reduceToNat, Int.reduceAdd, Int.reduceSub, Int.reduceMul, Int.reduceNeg, reduceCtorEq, Option.bind_some, Option.map_some, List.length_cons, List.length_nil, vcM, List.getElem?_toArray, List.getElem?_cons_zero, List.getElem?_cons_succ])
    (refine W_at c29_ok ?_; refine ⟨_, rfl, ?_⟩; simp (disch := first | omega | assumption | rfl | (simp only [vcS] <;> omega) | fail) only [↓ptV_l, ↓vcA, vcB, ↓vcD, vcE, ↓reduceIte, Nat.reduceEqDiff, Nat.reduceAdd, Nat.reduceMul, Nat.reduceLeDiff, Int.reduceLE, Int.reduceLT, Int.reduceEq, Int.reduceToNat, Int.reduceAdd, Int.reduceSub, Int.reduceMul, Int.reduceNeg, reduceCtorEq, Option.bind_some, Option.map_some, List.length_cons, List.length_nil, vcM, List.getElem?_toArray, List.getElem?_cons_zero, List.getElem?_cons_succ])
    have hE : Ext w (w.alloc (.cells #[] 5)) := by (repeat' first | exact Keep.refl _ _ | assumption | refine Keep.drew ?_ | refine Keep.alloc ?_ _ | refine Keep.putN ?_ _ ?_ | refine Keep.setCell ?_ _ ?_ | refine Keep.setO ?_ _ ?_ | exact fun _ => Or.inl rfl | exact fun _ => Or.inr rfl | exact fun _ => rfl | (intro hh; exfalso; ((try simp only [vcS] at hh) <;> omega)))
    have ho : Own1 (w.alloc (.cells #[] 5)) (.slice (some ⟨w.heap.size, 0, none⟩) 0 0) [] := own_lit1 (bs := []) (Nat.zero_le _)
    refine appB4 ho (h0.ext hE) (by simp; omega) fun v' w' h1 h2 h3 => ?_
    (refine W_at c29_ok ?_; refine ⟨_, rfl, ?_⟩; simp (disch := first | omega | assumption | rfl | (simp only [vcS] <;> omega) | fail) only [↓ptV_l, ↓vcA, vcB, ↓vcD, vcE, ↓reduceIte, Nat.reduceEqDiff, Nat.reduceAdd, Nat.reduceMul, Nat.reduceLeDiff, Int.reduceLE, Int.reduceLT, Int.reduceEq, Int.reduceToNat, Int.reduceAdd, Int.reduceSub, Int.reduceMul, Int.reduceNeg, reduceCtorEq, Option.bind_some, Option.map_some, List.length_cons, List.length_nil, vcM, List.getElem?_toArray, List.getElem?_cons_zero, List.getElem?_cons_succ, Ret_returned])
    refine ⟨h1, hE.trans h2 fun i hi hb => ?_, fun g hg => ?_⟩
    · cases hb; exact absurd hi (Nat.lt_irrefl _)
    · rcases h3 g hg with hb | hb
      · cases hb; exact Nat.le_refl _
      · rw [size_alloc] at hb; omega
theorem cloneI_ok (w : World) (v : Value) (cs : List (Array Value)) (hr : rdS w 36 v = some (cs.flatMap Array.toList).toArray) (hsz : ∀ c ∈ cs, c.size = 36) (hfl : ∀ c ∈ cs, flat c) (hv : ∃ q c, v = .slice q cs.length c ∧ cs.length ≤ c) (hl : cs.length ≤ 100000) :
    Calls Try.prog 27 #[v] w (Ret fun u w' => OwnO w' w.heap.size 75 36 u cs ∧ Ext w w') := by
  refine calls_of_cfg c27_ok (Nat.le_of_ble_eq_true rfl) ?_
  simp only [argE_nil, argE_cons, Nat.reduceAdd, Nat.zero_add]
  obtain ⟨q, c, rfl, hc⟩ := hv
  (refine W_at c27_ok ?_; refine ⟨_, rfl, ?_⟩; simp (disch := first | omega | assumption | rfl | (simp only [vcS] <;> omega) | fail) only [↓ptV_l, ↓vcA, vcB, ↓vcD, vcE, ↓reduceIte, Nat.reduceEqDiff, Nat.reduceAdd, Nat.reduceMul, Nat.reduceLeDiff, Int.reduceLE, Int.reduceLT, Int.reduceEq, Int.reduceToNat, Int.reduceAdd, Int.reduceSub, Int.reduceMul, Int.reduceNeg, reduceCtorEq, Option.bind_some, Option.map_some, List.length_cons, List.length_nil, vcM, List.getElem?_toArray, List.getElem?_cons_zero, List.getElem?_cons_succ])
  cases q with
  | none =>
    have h0 : cs = [] := by
      by_cases h0 : cs.length = 0
      · exact List.eq_nil_of_length_eq_zero h0
      · simp only [rdS] at hr
        rw [if_neg (by omega)] at hr
        cases hr
    subst h0
    (refine W_at c27_ok ?_; refine ⟨_, rfl, ?_⟩; simp (disch := first | omega | assumption | rfl | (simp only [vcS] <;> omega) | fail) only [↓ptV_l, ↓vcA, vcB, ↓vcD, vcE, ↓reduceIte, Nat.reduceEqDiff, Nat.reduceAdd, Nat.reduceMul, Nat.reduceLeDiff, Int.reduceLE, Int.reduceLT, Int.reduceEq, Int.reduceToNat, Int.reduceAdd, Int.reduceSub, Int.reduceMul, Int.reduceNeg, reduceCtorEq, Option.bind_some, Option.map_some, List.length_cons, List.length_nil, vcM, List.getElem?_toArray, List.getElem?_cons_zero, List.getElem?_cons_succ, eqS_none])
    (refine W_at c27_ok ?_; refine ⟨_, rfl, ?_⟩; simp (disch := first | omega | assumption | rfl | (simp only [vcS] <;> omega) | fail) only [↓ptV_l, ↓vcA, vcB, ↓vcD, vcE, ↓reduceIte, Nat.reduceEqDiff, Nat.reduceAdd, Nat.reduceMul, Nat.reduceLeDiff, Int.reduceLE, Int.reduceLT, Int.reduceEq, Int.reduceToNat, Int.reduceAdd, Int.reduceSub, Int.reduceMul, Int.reduceNeg, reduceCtorEq, Option.bind_some, Option.map_some, List.length_cons, List.length_nil, vcM, List.getElem?_toArray, List.getElem?_cons_zero, List.getElem?_cons_succ])
    (refine W_at c27_ok ?_; refine ⟨_, rfl, ?_⟩; simp (disch := first | omega | assumption | rfl | (simp only [vcS] <;> omega) | fail) only [↓ptV_l, ↓vcA, vcB, ↓vcD, vcE, ↓reduceIte, Nat.reduceEqDiff, Nat.reduceAdd, Nat.reduceMul, Nat.reduceLeDiff, Int.reduceLE, Int.reduceLT, Int.reduceEq, Int.reduceToNat, Int.reduceAdd, Int.reduceSub, Int.reduceMul, Int.reduceNeg, reduceCtorEq, Option.bind_some, Option.map_some, List.length_cons, List.length_nil, vcM, List.getElem?_toArray, List.getElem?_cons_zero, List.getElem?_cons_succ])
    (refine W_at c27_ok ?_; refine ⟨_, rfl, ?_⟩; simp (disch := first | omega | assumption | rfl | (simp only [vcS] <;> omega) | fail) only [↓ptV_l, ↓vcA, vcB, ↓vcD, vcE, ↓reduceIte, Nat.reduceEqDiff, Nat.reduceAdd, Nat.reduceMul, Nat.reduceLeDiff, Int.reduceLE, Int.reduceLT, Int.reduceEq, Int.reduceToNat, Int.reduceAdd, Int.reduceSub, Int.reduceMul, Int.reduceNeg, reduceCtorEq, Option.bind_some, Option.map_some, List.length_cons, List.length_nil, vcM, List.getElem?_toArray, List.getElem?_cons_zero, List.getElem?_cons_succ, Ret_returned])
    exact ⟨OwnO.nil _ _ _ _, Keep.refl _ w⟩
  | some a =>
    (refine W_at c27_ok ?_; refine ⟨_, rfl, ?_⟩; simp (disch := first | omega | assumption | rfl | (simp only [vcS] <;> omega) | fail) only [↓ptV_l, ↓vcA, vcB, ↓vcD, vcE, ↓reduceIte, Nat.reduceEqDiff, Nat.reduceAdd, Nat.reduceMul, Nat.reduceLeDiff, Int.reduceLE, Int.reduceLT, Int.reduceEq, Int.reduceToNat, Int.reduceAdd, Int.reduceSub, Int.reduceMul, Int.reduceNeg, reduceCtorEq, Option.bind_some, Option.map_some, List.length_cons, List.length_nil, vcM, List.getElem?_toArray, List.getElem?_cons_zero, List.getElem?_cons_succ, eqS_sn])
    (refine W_at c27_ok ?_; refine ⟨_, rfl, ?_⟩; simp (disch := first | omega | assumption | rfl | (simp only [vcS] <;> omega) | fail) only [↓ptV_l, ↓vcA, vcB, ↓vcD, vcE, ↓reduceIte, Nat.reduceEqDiff, Nat.reduceAdd, Nat.reduceMul, Nat.reduceLeDiff, Int.reduceLE, Int.reduceLT, Int.reduceEq, Int.reduceToNat, Int.reduceAdd, Int.reduceSub, Int.reduceMul, Int.reduceNeg, reduceCtorEq, Option.bind_some, Option.map_some, List.length_cons, List.length_nil, vcM, List.getElem?_toArray, List.getElem?_cons_zero, List.getElem?_cons_succ])
    (refine W_at c27_ok ?_; refine ⟨_, rfl, ?_⟩; simp (disch := first | omega | assumption | rfl | (simp only [vcS] <;> omega) | fail) only [↓ptV_l, ↓vcA, vcB, ↓vcD, vcE, ↓reduceIte, Nat.reduceEqDiff, Nat.reduceAdd, Nat.reduceMul, Nat.reduceLeDiff, Int.reduceLE, Int.reduceLT, Int.reduceEq, Int.reduceToNat, Int.reduceAdd, Int.reduceSub, Int.reduceMul, Int.reduceNeg, reduceCtorEq, Option.bind_some, Option.map_some, List.length_cons, List.length_nil, vcM, List.getElem?_toArray, List.getElem?_cons_zero, List.getElem?_cons_succ])
    have hE : Ext w (w.alloc (.cells [].toArray 75)) := (Keep.refl _ w).alloc _
    have hO : OwnO (w.alloc (.cells [].toArray 75)) w.heap.size 75 36 (.slice (some ⟨w.heap.size, 0, none⟩) 0 0) [] :=
      ⟨fun _ h => (by cases h), .inr ⟨_, 0, 0, _, rfl, Nat.le_refl _, heap_new _ _ _ rfl, Nat.le_refl _, Nat.zero_le _, by simp, by simp⟩⟩
    refine appO4 (ids2 := cs) hO (rdS_keep hr hE fun _ _ h => h) rfl hsz hfl (by simp; omega) (by simp; omega) rfl hE.size (by decide) fun v' w' k1 k2 k3 => ?_
    rw [List.nil_append] at k1
    first | (simp (disch := first | omega | assumption | rfl | (simp only [vcS] <;> omega) | fail) only [↓ptV_l, ↓vcA, vcB, ↓vcD, vcE, ↓reduceIte, Nat.reduceEqDiff, Nat.reduceAdd, Nat.reduceMul, Nat.reduceLeDiff, Int.reduceLE, Int.reduceLT, Int.reduceEq, Int.reduceToNat, Int.reduceAdd, Int.reduceSub, Int.reduceMul, Int.reduceNeg, reduceCtorEq, Option.bind_some, Option.map_some, List.length_cons, List.length_nil, vcM, List.getElem?_toArray, List.getElem?_cons_zero, List.getElem?_cons_succ]) | skip
    (refine W_at c27_ok ?_; refine ⟨_, rfl, ?_⟩; simp (disch := first | omega | assumption | rfl | (simp only [vcS] <;> omega) | fail) only [↓ptV_l, ↓vcA, vcB, ↓vcD, vcE, ↓reduceIte, Nat.reduceEqDiff, Nat.reduceAdd, Nat.reduceMul, Nat.reduceLeDiff, Int.reduceLE, Int.reduceLT, Int.reduceEq, Int.reduceToNat, Int.reduceAdd, Int.reduceSub, Int.reduceMul, Int.reduceNeg, reduceCtorEq, Option.bind_some, Option.map_some, List.length_cons, List.length_nil, vcM, List.getElem?_toArray, List.getElem?_cons_zero, List.getElem?_cons_succ, Ret_returned])
    exact ⟨k1, hE.trans k2 fun i hi e => by have e' : w.heap.size = i := Option.some.inj e; omega⟩
theorem cloneO_ok (w : World) (v : Value) (cs : List (Array Value)) (hr : rdS w 2 v = some (cs.flatMap Array.toList).toArray) (hsz : ∀ c ∈ cs, c.size = 2) (hfl : ∀ c ∈ cs, flat c) (hv : ∃ q c, v = .slice q cs.length c ∧ cs.length ≤ c) (hl : cs.length ≤ 100000) :
    Calls Try.prog 28 #[v] w (Ret fun u w' => OwnO w' w.heap.size 36 2 u cs ∧ Ext w w') := by
  refine calls_of_cfg c28_ok (Nat.le_of_ble_eq_true rfl) ?_
  simp only [argE_nil, argE_cons, Nat.reduceAdd, Nat.zero_add]
  obtain ⟨q, c, rfl, hc⟩ := hv
  (refine W_at c28_ok ?_; refine ⟨_, rfl, ?_⟩; simp (disch := first | omega | assumption | rfl | (simp only [vcS] <;> omega) | fail) only [↓ptV_l, ↓vcA, vcB, ↓vcD, vcE, ↓reduceIte, Nat.reduceEqDiff, Nat.reduceAdd, Nat.reduceMul, Nat.reduceLeDiff, Int.reduceLE, Int.reduceLT, Int.reduceEq, Int.reduceToNat, Int.reduceAdd, Int.reduceSub, Int.reduceMul, Int.reduceNeg, reduceCtorEq, Option.bind_some, Option.map_some, List.length_cons, List.length_nil, vcM, List.getElem?_toArray, List.getElem?_cons_zero, List.getElem?_cons_succ])
  cases q with
  | none =>
    have h0 : cs = [] := by
      by_cases h0 : cs.length = 0
      · exact List.eq_nil_of_length_eq_zero h0
      · simp only [rdS] at hr
        rw [if_neg (by omega)] at hr
        cases hr
    subst h0
    (refine W_at c28_ok ?_; refine ⟨_, rfl, ?_⟩; simp (disch := first | omega | assumption | rfl | (simp only [vcS] <;> omega) | fail) only [↓ptV_l, ↓vcA, vcB, ↓vcD, vcE, ↓reduceIte, Nat.reduceEqDiff, Nat.reduceAdd, Nat.reduceMul, Nat.reduceLeDiff, Int.reduceLE, Int.reduceLT, Int.reduceEq, Int.reduceToNat, Int.reduceAdd, Int.reduceSub, Int.reduceMul, Int.reduceNeg, reduceCtorEq, Option.bind_some, Option.map_some, List.length_cons, List.length_nil, vcM, List.getElem?_toArray, List.getElem?_cons_zero, List.getElem?_cons_succ, eqS_none])
    (refine W_at c28_ok ?_; refine ⟨_, rfl, ?_⟩; simp (disch := first | omega | assumption | rfl | (simp only [vcS] <;> omega) | fail) only [↓ptV_l, ↓vcA, vcB, ↓vcD, vcE, ↓reduceIte, Nat.reduceEqDiff, Nat.reduceAdd, Nat.reduceMul, Nat.reduceLeDiff, Int.reduceLE, Int.reduceLT, Int.reduceEq, Int.reduceToNat, Int.reduceAdd, Int.reduceSub, Int.reduceMul, Int.reduceNeg, reduceCtorEq, Option.bind_some, Option.map_some, List.length_cons, List.length_nil, vcM, List.getElem?_toArray, List.getElem?_cons_zero, List.getElem?_cons_succ])
    (refine W_at c28_ok ?_; refine ⟨_, rfl, ?_⟩; simp (disch := first | omega | assumption | rfl | (simp only [vcS] <;> omega) | fail) only [↓ptV_l, ↓vcA, vcB, ↓vcD, vcE, ↓reduceIte, Nat.reduceEqDiff, Nat.reduceAdd, Nat.reduceMul, Nat.reduceLeDiff, Int.reduceLE, Int.reduceLT, Int.reduceEq, Int.reduceToNat, Int.reduceAdd, Int.reduceSub, Int.reduceMul, Int.reduceNeg, reduceCtorEq, Option.bind_some, Option.map_some, List.length_cons, List.length_nil, vcM, List.getElem?_toArray, List.getElem?_cons_zero, List.getElem?_cons_succ])
    (refine W_at c28_ok ?_; refine ⟨_, rfl, ?_⟩; simp (disch := first | omega | assumption | rfl | (simp only [vcS] <;> omega) | fail) only [↓ptV_l, ↓vcA, vcB, ↓vcD, vcE, ↓reduceIte, Nat.reduceEqDiff, Nat.reduceAdd, Nat.reduceMul, Nat.reduceLeDiff, Int.reduceLE, Int.reduceLT, Int.reduceEq, Int.reduceToNat, Int.reduceAdd, Int.reduceSub, Int.reduceMul, Int.reduceNeg, reduceCtorEq, Option.bind_some, Option.map_some, List.length_cons, List.length_nil, vcM, List.getElem?_toArray, List.getElem?_cons_zero, List.getElem?_cons_succ, Ret_returned])
    exact ⟨OwnO.nil _ _ _ _, Keep.refl _ w⟩
  | some a =>
    (refine W_at c28_ok ?_; refine ⟨_, rfl, ?_⟩; simp (disch := first | omega | assumption | rfl | (simp only [vcS] <;> omega) | fail) only [↓ptV_l, ↓vcA, vcB, ↓vcD, vcE, ↓reduceIte, Nat.reduceEqDiff, Nat.reduceAdd, Nat.reduceMul, Nat.reduceLeDiff, Int.reduceLE, Int.reduceLT, Int.reduceEq, Int.reduceToNat, Int.reduceAdd, Int.reduceSub, Int.reduceMul, Int.reduceNeg, reduceCtorEq, Option.bind_some, Option.map_some, List.length_cons, List.length_nil, vcM, List.getElem?_toArray, List.getElem?_cons_zero, List.getElem?_cons_succ, eqS_sn])
    (refine W_at c28_ok ?_; refine ⟨_, rfl, ?_⟩; simp (disch := first | omega | assumption | rfl | (simp only [vcS] <;> omega) | fail) only [↓ptV_l, ↓vcA, vcB, ↓vcD, vcE, ↓reduceIte, Nat.reduceEqDiff, Nat.reduceAdd, Nat.reduceMul, Nat.reduceLeDiff, Int.reduceLE, Int.reduceLT, Int.reduceEq, Int.reduceToNat, Int.reduceAdd, Int.reduceSub, Int.reduceMul, Int.reduceNeg, reduceCtorEq, Option.bind_some, Option.map_some, List.length_cons, List.length_nil, vcM, List.getElem?_toArray, List.getElem?_cons_zero, List.getElem?_cons_succ])
    (refine W_at c28_ok ?_; refine ⟨_, rfl, ?_⟩; simp (disch := first | omega | assumption | rfl | (simp only [vcS] <;> omega) | fail) only [↓ptV_l, ↓vcA, vcB, ↓vcD, vcE, ↓reduceIte, Nat.reduceEqDiff, Nat.reduceAdd, Nat.reduceMul, Nat.reduceLeDiff, Int.reduceLE, Int.reduceLT, Int.reduceEq, Int.reduceToNat, Int.reduceAdd, Int.reduceSub, Int.reduceMul, Int.reduceNeg, reduceCtorEq, Option.bind_some, Option.map_some, List.length_cons, List.length_nil, vcM, List.getElem?_toArray, List.getElem?_cons_zero, List.getElem?_cons_succ])
    have hE : Ext w (w.alloc (.cells [].toArray 36)) := (Keep.refl _ w).alloc _
    have hO : OwnO (w.alloc (.cells [].toArray 36)) w.heap.size 36 2 (.slice (some ⟨w.heap.size, 0, none⟩) 0 0) [] :=
      ⟨fun _ h => (by cases h), .inr ⟨_, 0, 0, _, rfl, Nat.le_refl _, heap_new _ _ _ rfl, Nat.le_refl _, Nat.zero_le _, by simp, by simp⟩⟩
    refine appO4 (ids2 := cs) hO (rdS_keep hr hE fun _ _ h => h) rfl hsz hfl (by simp; omega) (by simp; omega) rfl hE.size (by decide) fun v' w' k1 k2 k3 => ?_
    rw [List.nil_append] at k1
    first | (simp (disch := first | omega | assumption | rfl | (simp only [vcS] <;> omega) | fail) only [↓ptV_l, ↓vcA, vcB, ↓vcD, vcE, ↓reduceIte, Nat.reduceEqDiff, Nat.reduceAdd, Nat.reduceMul, Nat.reduceLeDiff, Int.reduceLE, Int.reduceLT, Int.reduceEq, Int.reduceToNat, Int.reduceAdd, Int.reduceSub, Int.reduceMul, Int.reduceNeg, reduceCtorEq, Option.bind_some, Option.map_some, List.length_cons, List.length_nil, vcM, List.getElem?_toArray, List.getElem?_cons_zero, List.getElem?_cons_succ]) | skip
    (refine W_at c28_ok ?_; refine ⟨_, rfl, ?_⟩; simp (disch := first | omega | assumption | rfl | (simp only [vcS] <;> omega) | fail) only [↓ptV_l, ↓vcA, vcB, ↓vcD, vcE, ↓reduceIte, Nat.reduceEqDiff, Nat.reduceAdd, Nat.reduceMul, Nat.reduceLeDiff, Int.reduceLE, Int.reduceLT, Int.reduceEq, Int.reduceToNat, Int.reduceAdd, Int.reduceSub, Int.reduceMul, Int.reduceNeg, reduceCtorEq, Option.bind_some, Option.map_some, List.length_cons, List.length_nil, vcM, List.getElem?_toArray, List.getElem?_cons_zero, List.getElem?_cons_succ, Ret_returned])
    exact ⟨k1, hE.trans k2 fun i hi e => by have e' : w.heap.size = i := Option.some.inj e; omega⟩
theorem cloneR_ok (w : World) (v : Value) (cs : List (Array Value)) (hr : rdS w 1 v = some (cs.flatMap Array.toList).toArray) (hsz : ∀ c ∈ cs, c.size = 1) (hfl : ∀ c ∈ cs, flat c) (hv : ∃ q c, v = .slice q cs.length c ∧ cs.length ≤ c) (hl : cs.length * 24 ≤ 140737488355328) :
    Calls Try.prog 30 #[v] w (Ret fun u w' => OwnO w' w.heap.size 22 1 u cs ∧ Ext w w') := by
  refine calls_of_cfg c30_ok (Nat.le_of_ble_eq_true rfl) ?_
  simp only [argE_nil, argE_cons, Nat.reduceAdd, Nat.zero_add]
  obtain ⟨q, c, rfl, hc⟩ := hv
  (refine W_at c30_ok ?_; refine ⟨_, rfl, ?_⟩; simp (disch := first | omega | assumption | rfl | (simp only [vcS] <;> omega) | fail) only [↓ptV_l, ↓vcA, vcB, ↓vcD, vcE, ↓reduceIte, Nat.reduceEqDiff, Nat.reduceAdd, Nat.reduceMul, Nat.reduceLeDiff, Int.reduceLE, Int.reduceLT, Int.reduceEq, Int.reduceToNat, Int.reduceAdd, Int.reduceSub, Int.reduceMul, Int.reduceNeg, reduceCtorEq, Option.bind_some, Option.map_some, List.length_cons, List.length_nil, vcM, List.getElem?_toArray, List.getElem?_cons_zero, List.getElem?_cons_succ])
  cases q with
  | none =>
    have h0 : cs = [] := by
      by_cases h0 : cs.length = 0
      · exact List.eq_nil_of_length_eq_zero h0
      · simp only [rdS] at hr
        rw [if_neg (by omega)] at hr
        cases hr
    subst h0
    (refine W_at c30_ok ?_; refine ⟨_, rfl, ?_⟩; simp (disch := first | omega | assumption | rfl | (simp only [vcS] <;> omega) | fail) only [↓ptV_l, ↓vcA, vcB, ↓vcD, vcE, ↓reduceIte, Nat.reduceEqDiff, Nat.reduceAdd, Nat.reduceMul, Nat.reduceLeDiff, Int.reduceLE, Int.reduceLT, Int.reduceEq, Int.reduceToNat, Int.reduceAdd, Int.reduceSub, Int.reduceMul, Int.reduceNeg, reduceCtorEq, Option.bind_some, Option.map_some, List.length_cons, List.length_nil, vcM, List.getElem?_toArray, List.getElem?_cons_zero, List.getElem?_cons_succ, eqS_none])
    (refine W_at c30_ok ?_; refine ⟨_, rfl, ?_⟩; simp (disch := first | omega | assumption | rfl | (simp only [vcS] <;> omega) | fail) only [↓ptV_l, ↓vcA, vcB, ↓vcD, vcE, ↓reduceIte, Nat.reduceEqDiff, Nat.reduceAdd, Nat.reduceMul, Nat.reduceLeDiff, Int.reduceLE, Int.reduceLT, Int.reduceEq, Int.reduceToNat, Int.reduceAdd, Int.reduceSub, Int.reduceMul, Int.reduceNeg, reduceCtorEq, Option.bind_some, Option.map_some, List.length_cons, List.length_nil, vcM, List.getElem?_toArray, List.getElem?_cons_zero, List.getElem?_cons_succ])
    (refine W_at c30_ok ?_; refine ⟨_, rfl, ?_⟩; simp (disch := first | omega | assumption | rfl | (simp only [vcS] <;> omega) | fail) only [↓ptV_l, ↓vcA, vcB, ↓vcD, vcE, ↓reduceIte, Nat.reduceEqDiff, Nat.reduceAdd, Nat.reduceMul, Nat.reduceLeDiff, Int.reduceLE, Int.reduceLT, Int.reduceEq, Int.reduceToNat, Int.reduceAdd, Int.reduceSub, Int.reduceMul, Int.reduceNeg, reduceCtorEq, Option.bind_some, Option.map_some, List.length_cons, List.length_nil, vcM, List.getElem?_toArray, List.getElem?_cons_zero, List.getElem?_cons_succ])
    (refine W_at c30_ok ?_; refine ⟨_, rfl, ?_⟩; simp (disch := first | omega | assumption | rfl | (simp only [vcS] <;> omega) | fail) only [↓ptV_l, ↓vcA, vcB, ↓vcD, vcE, ↓reduceIte, Nat.reduceEqDiff, Nat.reduceAdd, Nat.reduceMul, Nat.reduceLeDiff, Int.reduceLE, Int.reduceLT, Int.reduceEq, Int.reduceToNat, Int.reduceAdd, Int.reduceSub, Int.reduceMul, Int.reduceNeg, reduceCtorEq, Option.bind_some, Option.map_some, List.length_cons, List.length_nil, vcM, List.getElem?_toArray, List.getElem?_cons_zero, List.getElem?_cons_succ, Ret_returned])
    exact ⟨OwnO.nil _ _ _ _, Keep.refl _ w⟩
  | some a =>
    (refine W_at c30_ok ?_; refine ⟨_, rfl, ?_⟩; simp (disch := first | omega | assumption | rfl | (simp only [vcS] <;> omega) | fail) only [↓ptV_l, ↓vcA, vcB, ↓vcD, vcE, ↓reduceIte, Nat.reduceEqDiff, Nat.reduceAdd, Nat.reduceMul, Nat.reduceLeDiff, Int.reduceLE, Int.reduceLT, Int.reduceEq, Int.reduceToNat, Int.reduceAdd, Int.reduceSub, Int.reduceMul, Int.reduceNeg, reduceCtorEq, Option.bind_some, Option.map_some, List.length_cons, List.length_nil, vcM, List.getElem?_toArray, List.getElem?_cons_zero, List.getElem?_cons_succ, eqS_sn])
    (refine W_at c30_ok ?_; refine ⟨_, rfl, ?_⟩; simp (disch := first | omega | assumption | rfl | (simp only [vcS] <;> omega) | fail) only [↓ptV_l, ↓vcA, vcB, ↓vcD, vcE, ↓reduceIte, Nat.reduceEqDiff, Nat.reduceAdd, Nat.reduceMul, Nat.reduceLeDiff, Int.reduceLE, Int.reduceLT, Int.reduceEq, Int.reduceToNat, Int.reduceAdd, Int.reduceSub, Int.reduceMul, Int.reduceNeg, reduceCtorEq, Option.bind_some, Option.map_some, List.length_cons, List.length_nil, vcM, List.getElem?_toArray, List.getElem?_cons_zero, List.getElem?_cons_succ])
    (refine W_at c30_ok ?_; refine ⟨_, rfl, ?_⟩; simp (disch := first | omega | assumption | rfl | (simp only [vcS] <;> omega) | fail) only [↓ptV_l, ↓vcA, vcB, ↓vcD, vcE, ↓reduceIte, Nat.reduceEqDiff, Nat.reduceAdd, Nat.reduceMul, Nat.reduceLeDiff, Int.reduceLE, Int.reduceLT, Int.reduceEq, Int.reduceToNat, Int.reduceAdd, Int.reduceSub, Int.reduceMul, Int.reduceNeg, reduceCtorEq, Option.bind_some, Option.map_some, List.length_cons, List.length_nil, vcM, List.getElem?_toArray, List.getElem?_cons_zero, List.getElem?_cons_succ])
    have hE : Ext w (w.alloc (.cells [].toArray 22)) := (Keep.refl _ w).alloc _
    have hO : OwnO (w.alloc (.cells [].toArray 22)) w.heap.size 22 1 (.slice (some ⟨w.heap.size, 0, none⟩) 0 0) [] :=
      ⟨fun _ h => (by cases h), .inr ⟨_, 0, 0, _, rfl, Nat.le_refl _, heap_new _ _ _ rfl, Nat.le_refl _, Nat.zero_le _, by simp, by simp⟩⟩
    refine appO4 (ids2 := cs) hO (rdS_keep hr hE fun _ _ h => h) rfl hsz hfl (by simp; omega) (by simp; omega) rfl hE.size (by decide) fun v' w' k1 k2 k3 => ?_
    rw [List.nil_append] at k1
    first | (simp (disch := first | omega | assumption | rfl | (simp only [vcS] <;> omega) | fail) only [↓ptV_l, ↓vcA, vcB, ↓vcD, vcE, ↓reduceIte, Nat.reduceEqDiff, Nat.reduceAdd, Nat.reduceMul, Nat.reduceLeDiff, Int.reduceLE, Int.reduceLT, Int.reduceEq, Int.reduceToNat, Int.reduceAdd, Int.reduceSub, Int.reduceMul, Int.reduceNeg, reduceCtorEq, Option.bind_some, Option.map_some, List.length_cons, List.length_nil, vcM, List.getElem?_toArray, List.getElem?_cons_zero, List.getElem?_cons_succ]) | skip
    (refine W_at c30_ok ?_; refine ⟨_, rfl, ?_⟩; simp (disch := first | omega | assumption | rfl | (simp only [vcS] <;> omega) | fail) only [↓ptV_l, ↓vcA, vcB, ↓vcD, vcE, ↓reduceIte, Nat.reduceEqDiff, Nat.reduceAdd, Nat.reduceMul, Nat.reduceLeDiff, Int.reduceLE, Int.reduceLT, Int.reduceEq, Int.reduceToNat, Int.reduceAdd, Int.reduceSub, Int.reduceMul, Int.reduceNeg, reduceCtorEq, Option.bind_some, Option.map_some, List.length_cons, List.length_nil, vcM, List.getElem?_toArray, List.getElem?_cons_zero, List.getElem?_cons_succ, Ret_returned])
    exact ⟨k1, hE.trans k2 fun i hi e => by have e' : w.heap.size = i := Option.some.inj e; omega⟩
end Go.Proofs
namespace Go.Proofs
open Go.Vc
set_option maxRecDepth 10000

/-- A slice whose first elements are one's own, the rest as they were. -/
def CL {α : Type} (R : World → Array Value → α → Prop) (RN : Nat → World → Array Value → α → Prop) (T size : Nat) (w wj : World) (i : Nat) (v : Value) (l : List α) : Prop :=
  ∃ cs : List (Array Value), cs.length = l.length ∧ OwnO wj w.heap.size T size v cs ∧ ∀ j (h : j < cs.length) (h' : j < l.length), (j < i → RN w.heap.size wj cs[j] l[j]) ∧ (i ≤ j → R w cs[j] l[j])
section
variable {α : Type} {R : World → Array Value → α → Prop} {RN : Nat → World → Array Value → α → Prop} {T size : Nat} {w wj w' : World} {i : Nat} {v : Value} {l : List α}
theorem CL.keepT {S : Nat → Prop} (h : CL R RN T size w wj i v l) (k : Keep S wj w') (hS : ∀ g, S g → ∀ c, wj.heap[g]? ≠ some (.cells c T (0, 0))) (hR : ∀ c x, RN w.heap.size wj c x → RN w.heap.size w' c x) : CL R RN T size w w' i v l := by
  obtain ⟨cs, h1, h2, h3⟩ := h
  exact ⟨cs, h1, h2.keep k fun g hg hs => by obtain ⟨_, c, hc⟩ := h2.blk hg; exact hS g hs c hc, fun j a b => ⟨fun hj => hR _ _ ((h3 j a b).1 hj), (h3 j a b).2⟩⟩
theorem CL.len (h : CL R RN T size w wj i v l) : lenR v = some (.int .i64 (l.length : Nat)) := by
  obtain ⟨cs, h1, h2, _⟩ := h
  rw [h2.len, h1]
theorem CL.one (h : CL R RN T size w wj i v l) : v.oneCell' = true := by
  obtain ⟨cs, h1, h2, _⟩ := h
  exact h2.one
theorem CL.done (h : CL R RN T size w wj i v l) (hi : l.length ≤ i) : ListN RN T size w.heap.size wj v l := by
  obtain ⟨cs, h1, h2, h3⟩ := h
  exact ⟨cs, h1, h2, fun j a b => (h3 j a b).1 (by omega)⟩
theorem CL.start {cs : List (Array Value)} (h1 : cs.length = l.length) (h2 : OwnO wj w.heap.size T size v cs) (h3 : ∀ j (h : j < cs.length) (h' : j < l.length), R w cs[j] l[j]) : CL R RN T size w wj 0 v l :=
  ⟨cs, h1, h2, fun j a b => ⟨fun h => by omega, fun _ => h3 j a b⟩⟩
theorem CL.blkT (h : CL R RN T size w wj i v l) {g : Nat} (hg : blk v g) : w.heap.size ≤ g ∧ ∃ c, wj.heap[g]? = some (.cells c T (0, 0)) := by
  obtain ⟨_, _, h, _⟩ := h
  exact h.blk hg
end
abbrev CI (w wj : World) (i : Nat) (v : Value) (l : List TxI) : Prop := CL InAt InN 75 36 w wj i v l
abbrev CO (w wj : World) (i : Nat) (v : Value) (l : List TxO) : Prop := CL OuAt OuN 36 2 w wj i v l
structure CT (w wj : World) (p1 p2 : Nat) (t : TxV) (vi vo : Value) (i1 i2 : Nat) : Prop where
  ext : Ext w wj
  c1 : wj.heap[p1]? = some (.cells (txC t vi vo) 40 (0, 0))
  c2 : ∃ c, wj.heap[p2]? = some (.cells c 40 (0, 0)) ∧ c.size = 4
  ins : CI w wj i1 vi t.ins
  outs : CO w wj i2 vo t.outs
  l1 : w.heap.size ≤ p1
  l2 : w.heap.size ≤ p2
  ne : p1 ≠ p2
theorem CT.keep {w wj w' : World} {p1 p2 i1 i2 : Nat} {t : TxV} {vi vo : Value} (h : CT w wj p1 p2 t vi vo i1 i2) (k : Ext wj w') : CT w w' p1 p2 t vi vo i1 i2 := by
  obtain ⟨c, h2, h3⟩ := h.c2
  exact ⟨h.ext.ext k, k.at h.c1 (fun h => h), ⟨c, k.at h2 (fun h => h), h3⟩, CL.keepT h.ins k (fun _ h => h.elim) fun _ _ h => h.ext k, CL.keepT h.outs k (fun _ h => h.elim) fun _ _ h => h.ext k, h.l1, h.l2, h.ne⟩
/-- The second phase's step: an output's script is copied. -/
theorem CT.setO {w wj : World} {p1 p2 i1 i : Nat} {t : TxV} {vi vo : Value} (h : CT w wj p1 p2 t vi vo i1 i) {g o n cap : Nat} (he : vo = .slice (some ⟨g, o, none⟩) n cap) (hi : i < t.outs.length) {u : Value} (hu : N1 w.heap.size wj u t.outs[i].script) :
    wr1 wj g (o + i * 2 + 1) ∧ CT w (wj.setCell ⟨g, o + i * 2 + 1, none⟩ u) p1 p2 t vi vo i1 (i + 1) := by
  have hk : Keep (fun y => y = g) wj (wj.setCell ⟨g, o + i * 2 + 1, none⟩ u) := (Keep.refl _ wj).setCell _ fun _ => rfl
  obtain ⟨hm, cur, hg⟩ := CL.blkT h.outs (g := g) (by rw [he]; rfl)
  have n5 := ne_T (T' := 5) hg (by decide)
  have n26 := ne_T (T' := 40) hg (by decide)
  have n27 := ne_T (T' := 22) hg (by decide)
  have n50 := ne_T (T' := 75) hg (by decide)
  obtain ⟨c, h2, h3⟩ := h.c2
  obtain ⟨ds, b1, b2, b3⟩ := h.outs
  obtain ⟨g', o', cap', e, hb, hw, hO⟩ := b2.setc (e := i) (j := 1) (by omega) (by decide) u
  rw [he] at e
  injection e with e1 e2 e3
  injection e1 with e1
  injection e1 with e4 e5
  subst e4 e5
  refine ⟨hw, h.ext.trans hk fun y hy e => by omega, hk.at h.c1 fun e => n26 _ (e ▸ h.c1), ⟨c, hk.at h2 fun e => n26 _ (e ▸ h2), h3⟩, CL.keepT h.ins hk (fun g' hg' c => by subst hg'; exact n50 c) fun _ _ hR => hR.keepT hk fun g' hg' c => by subst hg'; exact ⟨n5 c, n27 c⟩,
    ⟨_, by rw [List.length_set]; exact b1, hO, fun j a b => ?_⟩, h.l1, h.l2, h.ne⟩
  rw [List.length_set] at a
  by_cases hj : i = j
  · subst hj
    rw [List.getElem_set_self]
    refine ⟨fun _ => ?_, fun h => by omega⟩
    obtain ⟨sv, e, _⟩ := (b3 i a b).2 (Nat.le_refl _)
    exact ⟨u, by rw [e]; rfl, hu.keepT hk fun g' hg' c => by subst hg'; exact n5 c⟩
  · rw [List.getElem_set_ne hj]
    exact ⟨fun hji => ((b3 j a b).1 (by omega)).keepT hk fun g' hg' c => by subst hg'; exact n5 c, fun hji => (b3 j a b).2 (by omega)⟩
theorem CL.at {α : Type} {R : World → Array Value → α → Prop} {RN : Nat → World → Array Value → α → Prop} {T size : Nat} {w wj : World} {i : Nat} {v : Value} {l : List α} (h : CL R RN T size w wj i v l) (hi : i < l.length) :
    ∃ g o cap c, v = .slice (some ⟨g, o, none⟩) l.length cap ∧ rdO wj.heap[g]? (o + i * size) size = some c ∧ R w c l[i] := by
  obtain ⟨cs, h1, h2, h3⟩ := h
  obtain ⟨g, o, cap, cur, e, hg, hr⟩ := h2.at (j := i) (by omega)
  rw [h1] at e
  exact ⟨g, o, cap, cs[i], e, hr, (h3 i (by omega) hi).2 (Nat.le_refl _)⟩
set_option maxHeartbeats 1600000 in
theorem clone_outs (w : World) (p1 p2 : Nat) (t : TxV) (iv0 ov0 : Value) (hz : ∀ y ∈ t.outs, y.script.length ≤ 1000000) (hlo : t.outs.length ≤ 100000) (vi vo : Value) :
    ∀ (k i : Nat) (wj : World) (tl : Env), k + i = t.outs.length → CT w wj p1 p2 t vi vo t.ins.length i →
      W Try.prog (Ret fun u w' => ∃ iv' ov', u = .agg (txC t iv' ov') ∧ InsN w.heap.size w' iv' t.ins ∧ OusN w.heap.size w' ov' t.outs ∧ Ext w w') 15 8 ((1, .pointer (some ⟨p1, 0, none⟩)) :: (2, .pointer (some ⟨p2, 0, none⟩)) :: (67, .int .i64 (t.outs.length : Nat)) :: (68, .int .i64 (i : Nat)) :: tl) wj := by
  intro k
  induction k with
  | zero =>
    intro i wj tl hi hP
    have hil : ¬ ((i : Int) < (t.outs.length : Nat)) := by omega
    have d1 := hP.c1
    obtain ⟨cc, d2, hcc⟩ := hP.c2
    have r4 : rdO (some (.cells (txC t vi vo) 40 (0, 0))) 0 4 = some (txC t vi vo) := rdO_all _ _ _ _ rfl
    have z4 := txC_sz t vi vo
    have o4 : okO (some (.cells cc 40 (0, 0))) 0 4 = True := by simp only [okO, hcc]; simp
    have hI := CL.done hP.ins (Nat.le_refl _)
    have hO := CL.done hP.outs (by omega)
    (refine W_at c15_ok ?_; refine ⟨_, rfl, ?_⟩; simp (disch := first | omega | assumption | rfl | (simp only [vcS] <;> omega) | fail) only [↓ptV_l, ↓vcA, vcB, ↓vcD, vcE, ↓reduceIte, Nat.reduceEqDiff, Nat.reduceAdd, Nat.reduceMul, Nat.reduceLeDiff, Int.reduceLE, Int.reduceLT, Int.reduceEq, Int.reduceToNat, Int.reduceAdd, Int.reduceSub, Int.reduceMul, Int.reduceNeg, reduceCtorEq, Option.bind_some, Option.map_some, List.length_cons, List.length_nil, vcM, List.getElem?_toArray, List.getElem?_cons_zero, List.getElem?_cons_succ, hil])
    (refine W_at c15_ok ?_; refine ⟨_, rfl, ?_⟩; simp (disch := first | omega | assumption | rfl | (simp only [vcS] <;> omega) | fail) only [↓ptV_l, ↓vcA, vcB, ↓vcD, vcE, ↓reduceIte, Nat.reduceEqDiff, Nat.reduceAdd, Nat.reduceMul, Nat.reduceLeDiff, Int.reduceLE, Int.reduceLT, Int.reduceEq, Int.reduceToNat, Int.reduceAdd, Int.reduceSub, Int.reduceMul, Int.reduceNeg, reduceCtorEq, Option.bind_some, Option.map_some, List.length_cons, List.length_nil, vcM, List.getElem?_toArray, List.getElem?_cons_zero, List.getElem?_cons_succ])
    (refine W_at c15_ok ?_; refine ⟨_, rfl, ?_⟩; simp (disch := first | omega | assumption | rfl | (simp only [vcS] <;> omega) | fail) only [↓ptV_l, ↓vcA, vcB, ↓vcD, vcE, ↓reduceIte, Nat.reduceEqDiff, Nat.reduceAdd, Nat.reduceMul, Nat.reduceLeDiff, Int.reduceLE, Int.reduceLT, Int.reduceEq, Int.reduceToNat, Int.reduceAdd, Int.reduceSub, Int.reduceMul, Int.reduceNeg, reduceCtorEq, Option.bind_some, Option.map_some, List.length_cons, List.length_nil, vcM, List.getElem?_toArray, List.getElem?_cons_zero, List.getElem?_cons_succ, d1, r4, z4, d2, o4])
    have hfl : flat (txC t vi vo) := by
      have a1 := ListN.one hI
      have a2 := ListN.one hO
      intro y hy; simp only [txC, List.mem_toArray, List.mem_cons, List.not_mem_nil, or_false] at hy; rcases hy with rfl | rfl | rfl | rfl <;> first | rfl | assumption
    refine ⟨hfl, ?_⟩
    have hk : Keep (fun g => g = p2) wj (wj.putN p2 0 (txC t vi vo)) := (Keep.refl _ wj).putN _ fun _ => rfl
    have d9 : (wj.putN p2 0 (txC t vi vo)).heap[p2]? = some (.cells (txC t vi vo) 40 (0, 0)) := by
      rw [heap_putN_eq d2, splice_all (by rw [hcc, txC_sz])]
    have l2 := hP.l2
    (refine W_at c15_ok ?_; refine ⟨_, rfl, ?_⟩; simp (disch := first | omega | assumption | rfl | (simp only [vcS] <;> omega) | fail) only [↓ptV_l, ↓vcA, vcB, ↓vcD, vcE, ↓reduceIte, Nat.reduceEqDiff, Nat.reduceAdd, Nat.reduceMul, Nat.reduceLeDiff, Int.reduceLE, Int.reduceLT, Int.reduceEq, Int.reduceToNat, Int.reduceAdd, Int.reduceSub, Int.reduceMul, Int.reduceNeg, reduceCtorEq, Option.bind_some, Option.map_some, List.length_cons, List.length_nil, vcM, List.getElem?_toArray, List.getElem?_cons_zero, List.getElem?_cons_succ, d9, r4, Ret_returned])
    exact ⟨vi, vo, rfl, InsN.setT hI hk d2 (by decide) (by decide) (by decide), OusN.setT hO hk d2 (by decide) (by decide), hP.ext.trans hk fun g hg e => by omega⟩
  | succ k ih =>
    intro i wj tl hi hP
    have hi0 : i < t.outs.length := by omega
    have hil : ((i : Int) < (t.outs.length : Nat)) := by omega
    have c3 : 0 ≤ (i : Int) ∧ (i : Int) < (t.outs.length : Nat) := by omega
    have d1 := hP.c1
    obtain ⟨g, o, cap, c, hvo, hrd, sv, rfl, hsv⟩ := CL.at hP.outs hi0
    have q1 := rdO_cell hrd (j := 1) (by omega)
    have q1' : (oC t.outs[i] sv)[1]? = some sv := rfl
    rw [q1'] at q1
    (refine W_at c15_ok ?_; refine ⟨_, rfl, ?_⟩; simp (disch := first | omega | assumption | rfl | (simp only [vcS] <;> omega) | fail) only [↓ptV_l, ↓vcA, vcB, ↓vcD, vcE, ↓reduceIte, Nat.reduceEqDiff, Nat.reduceAdd, Nat.reduceMul, Nat.reduceLeDiff, Int.reduceLE, Int.reduceLT, Int.reduceEq, Int.reduceToNat, Int.reduceAdd, Int.reduceSub, Int.reduceMul, Int.reduceNeg, reduceCtorEq, Option.bind_some, Option.map_some, List.length_cons, List.length_nil, vcM, List.getElem?_toArray, List.getElem?_cons_zero, List.getElem?_cons_succ, hil])
    (refine W_at c15_ok ?_; refine ⟨_, rfl, ?_⟩; simp (disch := first | omega | assumption | rfl | (simp only [vcS] <;> omega) | fail) only [↓ptV_l, ↓vcA, vcB, ↓vcD, vcE, ↓reduceIte, Nat.reduceEqDiff, Nat.reduceAdd, Nat.reduceMul, Nat.reduceLeDiff, Int.reduceLE, Int.reduceLT, Int.reduceEq, Int.reduceToNat, Int.reduceAdd, Int.reduceSub, Int.reduceMul, Int.reduceNeg, reduceCtorEq, Option.bind_some, Option.map_some, List.length_cons, List.length_nil, vcM, List.getElem?_toArray, List.getElem?_cons_zero, List.getElem?_cons_succ])
    (refine W_at c15_ok ?_; refine ⟨_, rfl, ?_⟩; simp (disch := first | omega | assumption | rfl | (simp only [vcS] <;> omega) | fail) only [↓ptV_l, ↓vcA, vcB, ↓vcD, vcE, ↓reduceIte, Nat.reduceEqDiff, Nat.reduceAdd, Nat.reduceMul, Nat.reduceLeDiff, Int.reduceLE, Int.reduceLT, Int.reduceEq, Int.reduceToNat, Int.reduceAdd, Int.reduceSub, Int.reduceMul, Int.reduceNeg, reduceCtorEq, Option.bind_some, Option.map_some, List.length_cons, List.length_nil, vcM, List.getElem?_toArray, List.getElem?_cons_zero, List.getElem?_cons_succ])
    (refine W_at c15_ok ?_; refine ⟨_, rfl, ?_⟩; simp (disch := first | omega | assumption | rfl | (simp only [vcS] <;> omega) | fail) only [↓ptV_l, ↓vcA, vcB, ↓vcD, vcE, ↓reduceIte, Nat.reduceEqDiff, Nat.reduceAdd, Nat.reduceMul, Nat.reduceLeDiff, Int.reduceLE, Int.reduceLT, Int.reduceEq, Int.reduceToNat, Int.reduceAdd, Int.reduceSub, Int.reduceMul, Int.reduceNeg, reduceCtorEq, Option.bind_some, Option.map_some, List.length_cons, List.length_nil, vcM, List.getElem?_toArray, List.getElem?_cons_zero, List.getElem?_cons_succ, d1, txC_2, hvo, c3, Int.toNat_natCast, q1])
    have hEd : Ext wj wj.drew := (Keep.refl _ wj).drew
    refine callV_ret (clone_ok wj.drew sv _ ((hsv.ext hP.ext).ext hEd) (by have := hz _ (List.getElem_mem hi0); omega)) ?_
    rintro u w6 ⟨hu1, hu2, hu3⟩
    have hE6 : Ext wj w6 := hEd.ext hu2
    have d16 := hE6.at d1 (fun h => h)
    first | (simp (disch := first | omega | assumption | rfl | (simp only [vcS] <;> omega) | fail) only [↓ptV_l, ↓vcA, vcB, ↓vcD, vcE, ↓reduceIte, Nat.reduceEqDiff, Nat.reduceAdd, Nat.reduceMul, Nat.reduceLeDiff, Int.reduceLE, Int.reduceLT, Int.reduceEq, Int.reduceToNat, Int.reduceAdd, Int.reduceSub, Int.reduceMul, Int.reduceNeg, reduceCtorEq, Option.bind_some, Option.map_some, List.length_cons, List.length_nil, vcM, List.getElem?_toArray, List.getElem?_cons_zero, List.getElem?_cons_succ, d16, txC_2, hvo]) | skip
    have hP6 := hP.keep hE6
    have hms := hP.ext.size
    obtain ⟨hw, hP7⟩ := hP6.setO hvo hi0 (u := u) ⟨hu1, fun g hg => Nat.le_trans (hP.keep hEd).ext.size (hu3 g hg)⟩
    have wi : IntKind.i64.wrap ((i : Int) + 1) = ((i + 1 : Nat) : Int) := wrap_i64 (by omega) (by omega)
    refine ⟨hu1.rd.one, hw, ?_⟩
    (refine W_at c15_ok ?_; refine ⟨_, rfl, ?_⟩; simp (disch := first | omega | assumption | rfl | (simp only [vcS] <;> omega) | fail) only [↓ptV_l, ↓vcA, vcB, ↓vcD, vcE, ↓reduceIte, Nat.reduceEqDiff, Nat.reduceAdd, Nat.reduceMul, Nat.reduceLeDiff, Int.reduceLE, Int.reduceLT, Int.reduceEq, Int.reduceToNat, Int.reduceAdd, Int.reduceSub, Int.reduceMul, Int.reduceNeg, reduceCtorEq, Option.bind_some, Option.map_some, List.length_cons, List.length_nil, vcM, List.getElem?_toArray, List.getElem?_cons_zero, List.getElem?_cons_succ, wi])
    (refine W_at c15_ok ?_; refine ⟨_, rfl, ?_⟩; simp (disch := first | omega | assumption | rfl | (simp only [vcS] <;> omega) | fail) only [↓ptV_l, ↓vcA, vcB, ↓vcD, vcE, ↓reduceIte, Nat.reduceEqDiff, Nat.reduceAdd, Nat.reduceMul, Nat.reduceLeDiff, Int.reduceLE, Int.reduceLT, Int.reduceEq, Int.reduceToNat, Int.reduceAdd, Int.reduceSub, Int.reduceMul, Int.reduceNeg, reduceCtorEq, Option.bind_some, Option.map_some, List.length_cons, List.length_nil, vcM, List.getElem?_toArray, List.getElem?_cons_zero, List.getElem?_cons_succ])
    exact ih (i + 1) _ _ (by omega) hP7
/-- One input's rows, the first of them copied. -/
structure RS (w wF wj : World) (g : Nat) (vi : Value) (cs : List (Array Value)) (u1 u2 : Value) (x : TxI) (kk : Nat) : Prop where
  k0 : Keep (fun y => y = g) wF wj
  arr : OwnO wj w.heap.size 75 36 vi cs
  s1 : N1 w.heap.size wj u1 x.script
  rows : ∃ vs : List Value, OwnO wj wF.heap.size 22 1 u2 (vs.map fun v => #[v]) ∧ vs.length = x.wit.length ∧ ∀ j (h : j < vs.length) (h' : j < x.wit.length), (j < kk → N1 w.heap.size wj vs[j] x.wit[j]) ∧ (kk ≤ j → Rd w vs[j] x.wit[j])
theorem RS.keep {w wF wj w' : World} {g : Nat} {vi : Value} {cs : List (Array Value)} {u1 u2 : Value} {x : TxI} {kk : Nat} (h : RS w wF wj g vi cs u1 u2 x kk) (k : Ext wj w') : RS w wF w' g vi cs u1 u2 x kk := by
  obtain ⟨vs, h1, h2, h3⟩ := h.rows
  exact ⟨h.k0.ext k, h.arr.ext k, h.s1.ext k, vs, h1.ext k, h2, fun j a b => ⟨fun hj => ((h3 j a b).1 hj).ext k, (h3 j a b).2⟩⟩
theorem RS.step {w wF wj : World} {g : Nat} {vi : Value} {cs : List (Array Value)} {u1 u2 u3 : Value} {x : TxI} {kk : Nat} (h : RS w wF wj g vi cs u1 u2 x kk) (hk : kk < x.wit.length) (hu : N1 w.heap.size wj u3 x.wit[kk]) {gw ow n cap : Nat} (he : u2 = .slice (some ⟨gw, ow, none⟩) n cap) :
    wr1 wj gw (ow + kk) ∧ RS w wF (wj.setCell ⟨gw, ow + kk, none⟩ u3) g vi cs u1 u2 x (kk + 1) := by
  obtain ⟨vs, h1, h2, h3⟩ := h.rows
  obtain ⟨g', o', cap', e, hb, hw, hO⟩ := h1.setc (e := kk) (j := 0) (by rw [List.length_map]; omega) (by decide) u3
  rw [he] at e
  injection e with e1 e2 e3
  injection e1 with e1
  injection e1 with e4 e5
  subst e4 e5
  rw [Nat.mul_one, Nat.add_zero] at hw hO
  obtain ⟨hm, cur, hg⟩ := h1.blk (g := gw) (by rw [he]; rfl)
  have n5 := ne_T (T' := 5) hg (by decide)
  have n50 := ne_T (T' := 75) hg (by decide)
  have k2 : Keep (fun y => y = gw) wj (wj.setCell ⟨gw, ow + kk, none⟩ u3) := (Keep.refl _ wj).setCell _ fun _ => rfl
  have hvk : kk < vs.length := by omega
  refine ⟨hw, h.k0.trans k2 fun y hy e => by omega, h.arr.keep k2 fun y hy e => by obtain ⟨_, c, hc⟩ := h.arr.blk hy; subst e; exact n50 c hc, h.s1.keepT k2 fun y hy c => by subst hy; exact n5 c, vs.set kk u3, ?_, by rw [List.length_set]; exact h2, fun j a b => ?_⟩
  · have e : (vs.map fun v => (#[v] : Array Value)).set kk (((vs.map fun v => (#[v] : Array Value))[kk]'(by rw [List.length_map]; exact hvk)).setIfInBounds 0 u3) = (vs.set kk u3).map fun v => #[v] := by
      rw [List.map_set, List.getElem_map]; rfl
    rw [e] at hO
    exact hO
  · rw [List.length_set] at a
    by_cases hj : kk = j
    · subst hj
      rw [List.getElem_set_self]
      exact ⟨fun _ => hu.keepT k2 fun y hy c => by subst hy; exact n5 c, fun h => by omega⟩
    · rw [List.getElem_set_ne hj]
      exact ⟨fun hjk => ((h3 j a b).1 (by omega)).keepT k2 fun y hy c => by subst hy; exact n5 c, fun hjk => (h3 j a b).2 (by omega)⟩
theorem RS.done {w wF wj : World} {p1 p2 i : Nat} {t : TxV} {vi vo : Value} {g o n cap : Nat} {cs : List (Array Value)} {u1 u2 : Value} (hF : CT w wF p1 p2 t vi vo i 0) (he : vi = .slice (some ⟨g, o, none⟩) n cap) (hi : i < t.ins.length)
    (b1 : cs.length = t.ins.length) (b3 : ∀ j (h : j < cs.length) (h' : j < t.ins.length), (j < i → InN w.heap.size wF cs[j] t.ins[j]) ∧ (i ≤ j → InAt w cs[j] t.ins[j]))
    (h : RS w wF wj g vi (cs.set i (iC t.ins[i] u1 u2)) u1 u2 t.ins[i] t.ins[i].wit.length) : CT w wj p1 p2 t vi vo (i + 1) 0 := by
  obtain ⟨hm, cur, hg⟩ := CL.blkT hF.ins (g := g) (by rw [he]; rfl)
  have n5 := ne_T (T' := 5) hg (by decide)
  have n26 := ne_T (T' := 40) hg (by decide)
  have n27 := ne_T (T' := 22) hg (by decide)
  have n54 := ne_T (T' := 36) hg (by decide)
  obtain ⟨c, h2, h3⟩ := hF.c2
  obtain ⟨vs, r1, r2, r3⟩ := h.rows
  have hk := h.k0
  refine ⟨hF.ext.trans hk fun y hy e => by omega, hk.at hF.c1 fun e => n26 _ (e ▸ hF.c1), ⟨c, hk.at h2 fun e => n26 _ (e ▸ h2), h3⟩, ⟨_, by rw [List.length_set]; exact b1, h.arr, fun j a b => ?_⟩,
    CL.keepT hF.outs hk (fun g' hg' c => by subst hg'; exact n54 c) fun _ _ hR => hR.keepT hk fun g' hg' c => by subst hg'; exact n5 c, hF.l1, hF.l2, hF.ne⟩
  rw [List.length_set] at a
  by_cases hj : i = j
  · subst hj
    rw [List.getElem_set_self]
    exact ⟨fun _ => ⟨u1, u2, rfl, h.s1, vs, r1.base hF.ext.size, r2, fun j a b => (r3 j a b).1 b⟩, fun h => by omega⟩
  · rw [List.getElem_set_ne hj]
    exact ⟨fun hji => ((b3 j a b).1 (by omega)).keepT hk fun g' hg' c => by subst hg'; exact ⟨n5 c, n27 c⟩, fun hji => (b3 j a b).2 (by omega)⟩
end Go.Proofs
namespace Go.Proofs
open Go.Vc
set_option maxRecDepth 10000

set_option maxHeartbeats 1600000 in
theorem clone_rows (Q : Ending → World → Prop) (w wF : World) (p1 p2 : Nat) (g o cap i ni : Nat) (vi : Value) (cs : List (Array Value)) (hcs : cs.length = ni) (hi : i < ni) (hvi : vi = .slice (some ⟨g, o, none⟩) ni cap) (x : TxI) (hx : x.prev.length = 32) (u1 u2 : Value) (hwl : ∀ p ∈ x.wit, p.length ≤ 140737488355328) (hwn : x.wit.length * 24 ≤ 140737488355328) (hEF : Ext w wF) (hgm : w.heap.size ≤ g)
    (hdone : ∀ wj tl, RS w wF wj g vi (cs.set i (iC x u1 u2)) u1 u2 x x.wit.length → W Try.prog Q 15 11 ((1, .pointer (some ⟨p1, 0, none⟩)) :: (2, .pointer (some ⟨p2, 0, none⟩)) :: (4, .pointer (some ⟨g, o + i * 36, none⟩)) :: (17, .int .i64 (ni : Nat)) :: (18, .int .i64 (i : Nat)) :: tl) wj) :
    ∀ (k j : Nat) (wj : World) (tl : Env), k + j = x.wit.length → RS w wF wj g vi (cs.set i (iC x u1 u2)) u1 u2 x j →
      W Try.prog Q 15 17 ((1, .pointer (some ⟨p1, 0, none⟩)) :: (2, .pointer (some ⟨p2, 0, none⟩)) :: (4, .pointer (some ⟨g, o + i * 36, none⟩)) :: (17, .int .i64 (ni : Nat)) :: (18, .int .i64 (i : Nat)) :: (45, .int .i64 (x.wit.length : Nat)) :: (46, .int .i64 (j : Nat)) :: tl) wj := by
  intro k
  induction k with
  | zero =>
    intro j wj tl hj hP
    have hil : ¬ ((j : Int) < (x.wit.length : Nat)) := by omega
    obtain rfl : j = x.wit.length := by omega
    (refine W_at c15_ok ?_; refine ⟨_, rfl, ?_⟩; simp (disch := first | omega | assumption | rfl | (simp only [vcS] <;> omega) | fail) only [↓ptV_l, ↓vcA, vcB, ↓vcD, vcE, ↓reduceIte, Nat.reduceEqDiff, Nat.reduceAdd, Nat.reduceMul, Nat.reduceLeDiff, Int.reduceLE, Int.reduceLT, Int.reduceEq, Int.reduceToNat, Int.reduceAdd, Int.reduceSub, Int.reduceMul, Int.reduceNeg, reduceCtorEq, Option.bind_some, Option.map_some, List.length_cons, List.length_nil, vcM, List.getElem?_toArray, List.getElem?_cons_zero, List.getElem?_cons_succ, hil])
    (refine W_at c15_ok ?_; refine ⟨_, rfl, ?_⟩; simp (disch := first | omega | assumption | rfl | (simp only [vcS] <;> omega) | fail) only [↓ptV_l, ↓vcA, vcB, ↓vcD, vcE, ↓reduceIte, Nat.reduceEqDiff, Nat.reduceAdd, Nat.reduceMul, Nat.reduceLeDiff, Int.reduceLE, Int.reduceLT, Int.reduceEq, Int.reduceToNat, Int.reduceAdd, Int.reduceSub, Int.reduceMul, Int.reduceNeg, reduceCtorEq, Option.bind_some, Option.map_some, List.length_cons, List.length_nil, vcM, List.getElem?_toArray, List.getElem?_cons_zero, List.getElem?_cons_succ])
    exact hdone wj _ hP
  | succ k ih =>
    intro j wj tl hj hP
    have hil : ((j : Int) < (x.wit.length : Nat)) := by omega
    have hj0 : j < x.wit.length := by omega
    have wi : IntKind.i64.wrap ((j : Int) + 1) = ((j + 1 : Nat) : Int) := wrap_i64 (by omega) (by omega)
    obtain ⟨vs, r1, r2, r3⟩ := hP.rows
    have hlm : (vs.map fun v => (#[v] : Array Value)).length = x.wit.length := by rw [List.length_map]; exact r2
    obtain ⟨gw, ow, capw, curw, e2, hgw, hrw⟩ := r1.at (j := j) (by omega)
    rw [hlm] at e2
    have qc := rdO_cell hrw (j := 0) (by omega)
    rw [Nat.mul_one, Nat.add_zero, List.getElem_map] at qc
    have qc' : cellO wj.heap[gw]? (ow + j) = some vs[j] := qc
    have hrd := (r3 j (by omega) hj0).2 (Nat.le_refl _)
    have hwE : Keep (fun y => y = g) w wj := (hEF.mono fun _ h => h.elim).trans hP.k0 fun y hy e => e
    have hrdj : Rd wj vs[j] x.wit[j] := hrd.keep0 hwE fun h0 q n c e e' => by have := hrd.lt h0 q n c e; omega
    have harr := hP.arr.at (j := i) (by rw [List.length_set]; omega)
    obtain ⟨ga, oa, capa, cura, ea, hga, hra⟩ := harr
    rw [List.getElem_set_self] at hra
    have hra0 : rdO wj.heap[g]? (o + i * 36) 36 = some (iC x u1 u2) := by
      rw [hvi] at ea
      injection ea with e5 e6 e7
      injection e5 with e5
      injection e5 with e8 e9
      rw [e8, e9]; exact hra
    have qw := rdO_cell hra0 (j := 35) (by omega)
    rw [iC_35 hx] at qw
    have c4 : 0 ≤ (j : Int) ∧ (j : Int) < (x.wit.length : Nat) := by omega
    have hEd : Ext wj wj.drew := (Keep.refl _ wj).drew
    (refine W_at c15_ok ?_; refine ⟨_, rfl, ?_⟩; simp (disch := first | omega | assumption | rfl | (simp only [vcS] <;> omega) | fail) only [↓ptV_l, ↓vcA, vcB, ↓vcD, vcE, ↓reduceIte, Nat.reduceEqDiff, Nat.reduceAdd, Nat.reduceMul, Nat.reduceLeDiff, Int.reduceLE, Int.reduceLT, Int.reduceEq, Int.reduceToNat, Int.reduceAdd, Int.reduceSub, Int.reduceMul, Int.reduceNeg, reduceCtorEq, Option.bind_some, Option.map_some, List.length_cons, List.length_nil, vcM, List.getElem?_toArray, List.getElem?_cons_zero, List.getElem?_cons_succ, hil])
    (refine W_at c15_ok ?_; refine ⟨_, rfl, ?_⟩; simp (disch := first | omega | assumption | rfl | (simp only [vcS] <;> omega) | fail) only [↓ptV_l, ↓vcA, vcB, ↓vcD, vcE, ↓reduceIte, Nat.reduceEqDiff, Nat.reduceAdd, Nat.reduceMul, Nat.reduceLeDiff, Int.reduceLE, Int.reduceLT, Int.reduceEq, Int.reduceToNat, Int.reduceAdd, Int.reduceSub, Int.reduceMul, Int.reduceNeg, reduceCtorEq, Option.bind_some, Option.map_some, List.length_cons, List.length_nil, vcM, List.getElem?_toArray, List.getElem?_cons_zero, List.getElem?_cons_succ])
    (refine W_at c15_ok ?_; refine ⟨_, rfl, ?_⟩; simp (disch := first | omega | assumption | rfl | (simp only [vcS] <;> omega) | fail) only [↓ptV_l, ↓vcA, vcB, ↓vcD, vcE, ↓reduceIte, Nat.reduceEqDiff, Nat.reduceAdd, Nat.reduceMul, Nat.reduceLeDiff, Int.reduceLE, Int.reduceLT, Int.reduceEq, Int.reduceToNat, Int.reduceAdd, Int.reduceSub, Int.reduceMul, Int.reduceNeg, reduceCtorEq, Option.bind_some, Option.map_some, List.length_cons, List.length_nil, vcM, List.getElem?_toArray, List.getElem?_cons_zero, List.getElem?_cons_succ])
    (refine W_at c15_ok ?_; refine ⟨_, rfl, ?_⟩; simp (disch := first | omega | assumption | rfl | (simp only [vcS] <;> omega) | fail) only [↓ptV_l, ↓vcA, vcB, ↓vcD, vcE, ↓reduceIte, Nat.reduceEqDiff, Nat.reduceAdd, Nat.reduceMul, Nat.reduceLeDiff, Int.reduceLE, Int.reduceLT, Int.reduceEq, Int.reduceToNat, Int.reduceAdd, Int.reduceSub, Int.reduceMul, Int.reduceNeg, reduceCtorEq, Option.bind_some, Option.map_some, List.length_cons, List.length_nil, vcM, List.getElem?_toArray, List.getElem?_cons_zero, List.getElem?_cons_succ, qw, e2, c4, Int.toNat_natCast, Nat.mul_one, qc'])
    refine callV_ret (clone4_ok wj.drew vs[j] _ (hrdj.ext hEd) (hwl _ (List.getElem_mem hj0))) ?_
    rintro u w6 ⟨hu1, hu2, hu3⟩
    have hE6 : Ext wj w6 := hEd.ext hu2
    have qw6 := cell_ext qw hE6
    have hP6 := hP.keep hE6
    have hsz6 : w.heap.size ≤ wj.drew.heap.size := Nat.le_trans hEF.size (hP.k0.ext hEd).size
    obtain ⟨hw, hP7⟩ := hP6.step hj0 (u3 := u) ⟨hu1, fun g hg => Nat.le_trans hsz6 (hu3 g hg)⟩ e2
    first | (simp (disch := first | omega | assumption | rfl | (simp only [vcS] <;> omega) | fail) only [↓ptV_l, ↓vcA, vcB, ↓vcD, vcE, ↓reduceIte, Nat.reduceEqDiff, Nat.reduceAdd, Nat.reduceMul, Nat.reduceLeDiff, Int.reduceLE, Int.reduceLT, Int.reduceEq, Int.reduceToNat, Int.reduceAdd, Int.reduceSub, Int.reduceMul, Int.reduceNeg, reduceCtorEq, Option.bind_some, Option.map_some, List.length_cons, List.length_nil, vcM, List.getElem?_toArray, List.getElem?_cons_zero, List.getElem?_cons_succ, qw6, e2]) | skip
    refine ⟨hu1.rd.one, hw, ?_⟩
    (refine W_at c15_ok ?_; refine ⟨_, rfl, ?_⟩; simp (disch := first | omega | assumption | rfl | (simp only [vcS] <;> omega) | fail) only [↓ptV_l, ↓vcA, vcB, ↓vcD, vcE, ↓reduceIte, Nat.reduceEqDiff, Nat.reduceAdd, Nat.reduceMul, Nat.reduceLeDiff, Int.reduceLE, Int.reduceLT, Int.reduceEq, Int.reduceToNat, Int.reduceAdd, Int.reduceSub, Int.reduceMul, Int.reduceNeg, reduceCtorEq, Option.bind_some, Option.map_some, List.length_cons, List.length_nil, vcM, List.getElem?_toArray, List.getElem?_cons_zero, List.getElem?_cons_succ, wi])
    (refine W_at c15_ok ?_; refine ⟨_, rfl, ?_⟩; simp (disch := first | omega | assumption | rfl | (simp only [vcS] <;> omega) | fail) only [↓ptV_l, ↓vcA, vcB, ↓vcD, vcE, ↓reduceIte, Nat.reduceEqDiff, Nat.reduceAdd, Nat.reduceMul, Nat.reduceLeDiff, Int.reduceLE, Int.reduceLT, Int.reduceEq, Int.reduceToNat, Int.reduceAdd, Int.reduceSub, Int.reduceMul, Int.reduceNeg, reduceCtorEq, Option.bind_some, Option.map_some, List.length_cons, List.length_nil, vcM, List.getElem?_toArray, List.getElem?_cons_zero, List.getElem?_cons_succ])
    exact ih (j + 1) _ _ (by omega) hP7
structure TxV.Sm (t : TxV) : Prop where
  ins : t.ins.length ≤ 100000
  outs : t.outs.length ≤ 100000
  inp : ∀ x ∈ t.ins, x.script.length ≤ 1000000 ∧ x.wit.length * 24 ≤ 140737488355328 ∧ ∀ p ∈ x.wit, p.length ≤ 140737488355328
  out : ∀ y ∈ t.outs, y.script.length ≤ 1000000
set_option maxHeartbeats 3200000 in
theorem clone_ins (w : World) (p1 p2 : Nat) (t : TxV) (hok : t.Ok) (hs : t.Sm) (vi vo : Value) :
    ∀ (k i : Nat) (wj : World) (tl : Env), k + i = t.ins.length → CT w wj p1 p2 t vi vo i 0 →
      W Try.prog (Ret fun u w' => ∃ iv' ov', u = .agg (txC t iv' ov') ∧ InsN w.heap.size w' iv' t.ins ∧ OusN w.heap.size w' ov' t.outs ∧ Ext w w') 15 23 ((1, .pointer (some ⟨p1, 0, none⟩)) :: (2, .pointer (some ⟨p2, 0, none⟩)) :: (17, .int .i64 (t.ins.length : Nat)) :: (18, .int .i64 (i : Nat)) :: tl) wj := by
  intro k
  induction k with
  | zero =>
    intro i wj tl hi hP
    have hil : ¬ ((i : Int) < (t.ins.length : Nat)) := by omega
    obtain rfl : i = t.ins.length := by omega
    have d1 := hP.c1
    have hlen := CL.len hP.outs
    (refine W_at c15_ok ?_; refine ⟨_, rfl, ?_⟩; simp (disch := first | omega | assumption | rfl | (simp only [vcS] <;> omega) | fail) only [↓ptV_l, ↓vcA, vcB, ↓vcD, vcE, ↓reduceIte, Nat.reduceEqDiff, Nat.reduceAdd, Nat.reduceMul, Nat.reduceLeDiff, Int.reduceLE, Int.reduceLT, Int.reduceEq, Int.reduceToNat, Int.reduceAdd, Int.reduceSub, Int.reduceMul, Int.reduceNeg, reduceCtorEq, Option.bind_some, Option.map_some, List.length_cons, List.length_nil, vcM, List.getElem?_toArray, List.getElem?_cons_zero, List.getElem?_cons_succ, hil])
    (refine W_at c15_ok ?_; refine ⟨_, rfl, ?_⟩; simp (disch := first | omega | assumption | rfl | (simp only [vcS] <;> omega) | fail) only [↓ptV_l, ↓vcA, vcB, ↓vcD, vcE, ↓reduceIte, Nat.reduceEqDiff, Nat.reduceAdd, Nat.reduceMul, Nat.reduceLeDiff, Int.reduceLE, Int.reduceLT, Int.reduceEq, Int.reduceToNat, Int.reduceAdd, Int.reduceSub, Int.reduceMul, Int.reduceNeg, reduceCtorEq, Option.bind_some, Option.map_some, List.length_cons, List.length_nil, vcM, List.getElem?_toArray, List.getElem?_cons_zero, List.getElem?_cons_succ])
    (refine W_at c15_ok ?_; refine ⟨_, rfl, ?_⟩; simp (disch := first | omega | assumption | rfl | (simp only [vcS] <;> omega) | fail) only [↓ptV_l, ↓vcA, vcB, ↓vcD, vcE, ↓reduceIte, Nat.reduceEqDiff, Nat.reduceAdd, Nat.reduceMul, Nat.reduceLeDiff, Int.reduceLE, Int.reduceLT, Int.reduceEq, Int.reduceToNat, Int.reduceAdd, Int.reduceSub, Int.reduceMul, Int.reduceNeg, reduceCtorEq, Option.bind_some, Option.map_some, List.length_cons, List.length_nil, vcM, List.getElem?_toArray, List.getElem?_cons_zero, List.getElem?_cons_succ, d1, txC_2, hlen])
    exact clone_outs w p1 p2 t vi vo hs.out hs.outs vi vo t.outs.length 0 wj _ (by omega) hP
  | succ k ih =>
    intro i wj tl hi hP
    have hi0 : i < t.ins.length := by omega
    have hil : ((i : Int) < (t.ins.length : Nat)) := by omega
    have c3 : 0 ≤ (i : Int) ∧ (i : Int) < (t.ins.length : Nat) := by omega
    have wi : IntKind.i64.wrap ((i : Int) + 1) = ((i + 1 : Nat) : Int) := wrap_i64 (by omega) (by have := hs.ins; omega)
    have d1 := hP.c1
    have hoi := hok.ins _ (List.getElem_mem hi0)
    have hsi := hs.inp _ (List.getElem_mem hi0)
    obtain ⟨g, o, cap, c, hvi, hrd, sv, wv, rfl, hsv, hwv⟩ := CL.at hP.ins hi0
    obtain ⟨hgm, curg, hg⟩ := CL.blkT hP.ins (g := g) (by rw [hvi]; rfl)
    have q33 := rdO_cell hrd (j := 33) (by omega)
    rw [iC_33 hoi.len] at q33
    have q35 := rdO_cell hrd (j := 35) (by omega)
    rw [iC_35 hoi.len] at q35
    (refine W_at c15_ok ?_; refine ⟨_, rfl, ?_⟩; simp (disch := first | omega | assumption | rfl | (simp only [vcS] <;> omega) | fail) only [↓ptV_l, ↓vcA, vcB, ↓vcD, vcE, ↓reduceIte, Nat.reduceEqDiff, Nat.reduceAdd, Nat.reduceMul, Nat.reduceLeDiff, Int.reduceLE, Int.reduceLT, Int.reduceEq, Int.reduceToNat, Int.reduceAdd, Int.reduceSub, Int.reduceMul, Int.reduceNeg, reduceCtorEq, Option.bind_some, Option.map_some, List.length_cons, List.length_nil, vcM, List.getElem?_toArray, List.getElem?_cons_zero, List.getElem?_cons_succ, hil])
    (refine W_at c15_ok ?_; refine ⟨_, rfl, ?_⟩; simp (disch := first | omega | assumption | rfl | (simp only [vcS] <;> omega) | fail) only [↓ptV_l, ↓vcA, vcB, ↓vcD, vcE, ↓reduceIte, Nat.reduceEqDiff, Nat.reduceAdd, Nat.reduceMul, Nat.reduceLeDiff, Int.reduceLE, Int.reduceLT, Int.reduceEq, Int.reduceToNat, Int.reduceAdd, Int.reduceSub, Int.reduceMul, Int.reduceNeg, reduceCtorEq, Option.bind_some, Option.map_some, List.length_cons, List.length_nil, vcM, List.getElem?_toArray, List.getElem?_cons_zero, List.getElem?_cons_succ])
    (refine W_at c15_ok ?_; refine ⟨_, rfl, ?_⟩; simp (disch := first | omega | assumption | rfl | (simp only [vcS] <;> omega) | fail) only [↓ptV_l, ↓vcA, vcB, ↓vcD, vcE, ↓reduceIte, Nat.reduceEqDiff, Nat.reduceAdd, Nat.reduceMul, Nat.reduceLeDiff, Int.reduceLE, Int.reduceLT, Int.reduceEq, Int.reduceToNat, Int.reduceAdd, Int.reduceSub, Int.reduceMul, Int.reduceNeg, reduceCtorEq, Option.bind_some, Option.map_some, List.length_cons, List.length_nil, vcM, List.getElem?_toArray, List.getElem?_cons_zero, List.getElem?_cons_succ])
    (refine W_at c15_ok ?_; refine ⟨_, rfl, ?_⟩; simp (disch := first | omega | assumption | rfl | (simp only [vcS] <;> omega) | fail) only [↓ptV_l, ↓vcA, vcB, ↓vcD, vcE, ↓reduceIte, Nat.reduceEqDiff, Nat.reduceAdd, Nat.reduceMul, Nat.reduceLeDiff, Int.reduceLE, Int.reduceLT, Int.reduceEq, Int.reduceToNat, Int.reduceAdd, Int.reduceSub, Int.reduceMul, Int.reduceNeg, reduceCtorEq, Option.bind_some, Option.map_some, List.length_cons, List.length_nil, vcM, List.getElem?_toArray, List.getElem?_cons_zero, List.getElem?_cons_succ, d1, txC_1, hvi, c3, Int.toNat_natCast])
    (refine W_at c15_ok ?_; refine ⟨_, rfl, ?_⟩; simp (disch := first | omega | assumption | rfl | (simp only [vcS] <;> omega) | fail) only [↓ptV_l, ↓vcA, vcB, ↓vcD, vcE, ↓reduceIte, Nat.reduceEqDiff, Nat.reduceAdd, Nat.reduceMul, Nat.reduceLeDiff, Int.reduceLE, Int.reduceLT, Int.reduceEq, Int.reduceToNat, Int.reduceAdd, Int.reduceSub, Int.reduceMul, Int.reduceNeg, reduceCtorEq, Option.bind_some, Option.map_some, List.length_cons, List.length_nil, vcM, List.getElem?_toArray, List.getElem?_cons_zero, List.getElem?_cons_succ, q33, q35])
    have hEd : Ext wj wj.drew := (Keep.refl _ wj).drew
    refine callV_ret (clone_ok wj.drew sv _ ((hsv.ext hP.ext).ext hEd) (by omega)) ?_
    rintro u1 w6 ⟨hu1, hu2, hu3⟩
    have hE6 : Ext wj w6 := hEd.ext hu2
    have q356 := cell_ext q35 hE6
    have hF := hP.keep hE6
    first | (simp (disch := first | omega | assumption | rfl | (simp only [vcS] <;> omega) | fail) only [↓ptV_l, ↓vcA, vcB, ↓vcD, vcE, ↓reduceIte, Nat.reduceEqDiff, Nat.reduceAdd, Nat.reduceMul, Nat.reduceLeDiff, Int.reduceLE, Int.reduceLT, Int.reduceEq, Int.reduceToNat, Int.reduceAdd, Int.reduceSub, Int.reduceMul, Int.reduceNeg, reduceCtorEq, Option.bind_some, Option.map_some, List.length_cons, List.length_nil, vcM, List.getElem?_toArray, List.getElem?_cons_zero, List.getElem?_cons_succ, q356]) | skip
    obtain ⟨vs, v1, v2, ⟨qv, cv, v3, v4⟩, v5, v6⟩ := hwv
    have hrv : rdS w 1 wv = some ((vs.map fun v => (#[v] : Array Value)).flatMap Array.toList).toArray := by rw [flat1_list]; exact v1
    have hrv6 : rdS w6 1 wv = some ((vs.map fun v => (#[v] : Array Value)).flatMap Array.toList).toArray := by
      subst v3
      exact rdS_keep hrv hF.ext fun _ _ h => h
    have hvl : (vs.map fun v => (#[v] : Array Value)).length = t.ins[i].wit.length := by rw [List.length_map]; exact v2
    refine callV_ret (cloneR_ok w6 wv (vs.map fun v => #[v]) hrv6 (by simp) (fun c hc => ?_) ⟨qv, cv, by rw [hvl]; exact v3, by omega⟩ (by omega)) ?_
    · obtain ⟨v, hv, rfl⟩ := List.mem_map.1 hc
      obtain ⟨j, hj, rfl⟩ := List.getElem_of_mem hv
      rw [flat_1]
      exact (v6 j hj (by omega)).one
    rintro u2 w7 ⟨hO2, hE7⟩
    first | (simp (disch := first | omega | assumption | rfl | (simp only [vcS] <;> omega) | fail) only [↓ptV_l, ↓vcA, vcB, ↓vcD, vcE, ↓reduceIte, Nat.reduceEqDiff, Nat.reduceAdd, Nat.reduceMul, Nat.reduceLeDiff, Int.reduceLE, Int.reduceLT, Int.reduceEq, Int.reduceToNat, Int.reduceAdd, Int.reduceSub, Int.reduceMul, Int.reduceNeg, reduceCtorEq, Option.bind_some, Option.map_some, List.length_cons, List.length_nil, vcM, List.getElem?_toArray, List.getElem?_cons_zero, List.getElem?_cons_succ]) | skip
    obtain ⟨cs, b1, b2, b3⟩ := hF.ins
    obtain ⟨sv', wv', hci, _⟩ := (b3 i (by omega) hi0).2 (Nat.le_refl _)
    have hg7 := hE7.at (hE6.at hg (fun h => h)) (fun h => h)
    obtain ⟨g1, o1, cap1, e1, _, hw1, hO1⟩ := (b2.ext hE7).setc (e := i) (j := 33) (by omega) (by decide) u1
    have hgo : g1 = g ∧ o1 = o := by
      rw [hvi] at e1
      injection e1 with e1
      injection e1 with e1
      injection e1 with e1 e2
      exact ⟨e1.symm, e2.symm⟩
    obtain ⟨rfl, rfl⟩ := hgo
    rw [hci, iC_set33 hoi.len] at hO1
    obtain ⟨g2, o2, cap2, e2, _, hw2, hO3⟩ := hO1.setc (e := i) (j := 35) (by rw [List.length_set]; omega) (by decide) u2
    have hgo : g2 = g1 ∧ o2 = o1 := by
      rw [hvi] at e2
      injection e2 with e2
      injection e2 with e2
      injection e2 with e1 e2
      exact ⟨e1.symm, e2.symm⟩
    obtain ⟨rfl, rfl⟩ := hgo
    rw [List.getElem_set_self, iC_set35 hoi.len, List.set_set] at hO3
    refine ⟨hu1.rd.one, hw1, hO2.one, hw2, ?_⟩
    have n5 := ne_T (T' := 5) hg7 (by decide)
    have n27 := ne_T (T' := 22) hg7 (by decide)
    have ka : Keep (fun y => y = g2) w7 (w7.setCell ⟨g2, o2 + i * 36 + 33, none⟩ u1) := (Keep.refl _ w7).setCell _ fun _ => rfl
    have kb : Keep (fun y => y = g2) w7 ((w7.setCell ⟨g2, o2 + i * 36 + 33, none⟩ u1).setCell ⟨g2, o2 + i * 36 + 35, none⟩ u2) := ka.setCell _ fun _ => rfl
    have hms := (hP.keep hEd).ext.size
    have hE7' : Keep (fun y => y = g2) w6 w7 := hE7.mono fun _ h => h.elim
    have hR : RS w w6 ((w7.setCell ⟨g2, o2 + i * 36 + 33, none⟩ u1).setCell ⟨g2, o2 + i * 36 + 35, none⟩ u2) g2 vi (cs.set i (iC t.ins[i] u1 u2)) u1 u2 t.ins[i] 0 := by
      refine ⟨hE7'.trans kb fun y hy e => e, hO3, ?_, vs, hO2.keep kb fun y hy e => ?_, v2, fun j a b => ⟨fun h => by omega, fun _ => v6 j a b⟩⟩
      · exact N1.keepT ⟨hu1.ext hE7, fun y hy => Nat.le_trans hms (hu3 y hy)⟩ kb fun y hy c => by subst hy; exact n5 c
      · obtain ⟨_, c, hc⟩ := hO2.blk hy
        subst e
        exact n27 c hc
    generalize hw9 : World.setCell _ _ _ = w9 at hR ⊢
    have hlen2 : lenR u2 = some (.int .i64 (t.ins[i].wit.length : Nat)) := by rw [hO2.len, hvl]
    have q35' : cellO w9.heap[g2]? (o2 + i * 36 + 35) = some u2 := by
      obtain ⟨ga, oa, capa, cura, ea, hga, hra⟩ := hR.arr.at (j := i) (by rw [List.length_set]; omega)
      rw [List.getElem_set_self] at hra
      have := rdO_cell hra (j := 35) (by omega)
      rw [iC_35 hoi.len] at this
      rw [hvi] at ea
      injection ea with e5 e6 e7
      injection e5 with e5
      injection e5 with e8 e9
      rw [e8, e9]; exact this
    (refine W_at c15_ok ?_; refine ⟨_, rfl, ?_⟩; simp (disch := first | omega | assumption | rfl | (simp only [vcS] <;> omega) | fail) only [↓ptV_l, ↓vcA, vcB, ↓vcD, vcE, ↓reduceIte, Nat.reduceEqDiff, Nat.reduceAdd, Nat.reduceMul, Nat.reduceLeDiff, Int.reduceLE, Int.reduceLT, Int.reduceEq, Int.reduceToNat, Int.reduceAdd, Int.reduceSub, Int.reduceMul, Int.reduceNeg, reduceCtorEq, Option.bind_some, Option.map_some, List.length_cons, List.length_nil, vcM, List.getElem?_toArray, List.getElem?_cons_zero, List.getElem?_cons_succ, q35', hlen2])
    refine clone_rows _ w w6 p1 p2 g2 o2 cap i t.ins.length vi cs b1 hi0 hvi t.ins[i] hoi.len u1 u2 hsi.2.2 hsi.2.1 hF.ext hgm ?_ t.ins[i].wit.length 0 w9 _ (by omega) hR
    intro wz tlz hRz
    have hz := RS.done hF hvi hi0 b1 b3 hRz
    (refine W_at c15_ok ?_; refine ⟨_, rfl, ?_⟩; simp (disch := first | omega | assumption | rfl | (simp only [vcS] <;> omega) | fail) only [↓ptV_l, ↓vcA, vcB, ↓vcD, vcE, ↓reduceIte, Nat.reduceEqDiff, Nat.reduceAdd, Nat.reduceMul, Nat.reduceLeDiff, Int.reduceLE, Int.reduceLT, Int.reduceEq, Int.reduceToNat, Int.reduceAdd, Int.reduceSub, Int.reduceMul, Int.reduceNeg, reduceCtorEq, Option.bind_some, Option.map_some, List.length_cons, List.length_nil, vcM, List.getElem?_toArray, List.getElem?_cons_zero, List.getElem?_cons_succ, wi])
    (refine W_at c15_ok ?_; refine ⟨_, rfl, ?_⟩; simp (disch := first | omega | assumption | rfl | (simp only [vcS] <;> omega) | fail) only [↓ptV_l, ↓vcA, vcB, ↓vcD, vcE, ↓reduceIte, Nat.reduceEqDiff, Nat.reduceAdd, Nat.reduceMul, Nat.reduceLeDiff, Int.reduceLE, Int.reduceLT, Int.reduceEq, Int.reduceToNat, Int.reduceAdd, Int.reduceSub, Int.reduceMul, Int.reduceNeg, reduceCtorEq, Option.bind_some, Option.map_some, List.length_cons, List.length_nil, vcM, List.getElem?_toArray, List.getElem?_cons_zero, List.getElem?_cons_succ])
    exact ih (i + 1) wz _ (by omega) hz
set_option maxHeartbeats 3200000 in
theorem tclone_ok (w : World) (iv ov : Value) (t : TxV) (hT : TxR w iv ov t) (hok : t.Ok) (hs : t.Sm) :
    Calls Try.prog 15 #[.agg (txC t iv ov)] w (Ret fun u w' => ∃ iv' ov', u = .agg (txC t iv' ov') ∧ InsN w.heap.size w' iv' t.ins ∧ OusN w.heap.size w' ov' t.outs ∧ Ext w w') := by
  refine calls_of_cfg c15_ok (Nat.le_of_ble_eq_true rfl) ?_
  simp only [argE_nil, argE_cons, Nat.reduceAdd, Nat.zero_add]
  have hi1 := ListR.one hT.ins
  have ho1 := ListR.one hT.outs
  have hfx : flat (txC t iv ov) := by intro y hy; simp only [txC, List.mem_toArray, List.mem_cons, List.not_mem_nil, or_false] at hy; rcases hy with rfl | rfl | rfl | rfl <;> first | rfl | assumption
  have hcx : (Value.agg (txC t iv ov)).cells = txC t iv ov := rfl
  have hzx := txC_sz t iv ov
  (refine W_at c15_ok ?_; refine ⟨_, rfl, ?_⟩; simp (disch := first | omega | assumption | rfl | (simp only [vcS] <;> omega) | fail) only [↓ptV_l, ↓vcA, vcB, ↓vcD, vcE, ↓reduceIte, Nat.reduceEqDiff, Nat.reduceAdd, Nat.reduceMul, Nat.reduceLeDiff, Int.reduceLE, Int.reduceLT, Int.reduceEq, Int.reduceToNat, Int.reduceAdd, Int.reduceSub, Int.reduceMul, Int.reduceNeg, reduceCtorEq, Option.bind_some, Option.map_some, List.length_cons, List.length_nil, vcM, List.getElem?_toArray, List.getElem?_cons_zero, List.getElem?_cons_succ, hfx, hcx, hzx])
  have hE1 : Ext w (w.alloc (.cells (txC t iv ov) 40)) := (Keep.refl _ w).alloc _
  have c1 : (w.alloc (.cells (txC t iv ov) 40)).heap[w.heap.size]? = some (.cells (txC t iv ov) 40 (0, 0)) := heap_new _ _ _ rfl
  have s1 : (w.alloc (.cells (txC t iv ov) 40)).heap.size = w.heap.size + 1 := size_alloc _ _
  generalize World.alloc w _ = w1 at hE1 c1 s1 ⊢
  have hE2 : Ext w1 (w1.alloc (.cells (zc [(1, .int .i32 0), (2, .slice none 0 0), (1, .int .u32 0)]) 40)) := (Keep.refl _ w1).alloc _
  have c2 : (w1.alloc (.cells (zc [(1, .int .i32 0), (2, .slice none 0 0), (1, .int .u32 0)]) 40)).heap[w1.heap.size]? = some (.cells (zc [(1, .int .i32 0), (2, .slice none 0 0), (1, .int .u32 0)]) 40 (0, 0)) := heap_new _ _ _ rfl
  generalize World.alloc w1 _ = w2 at hE2 c2 ⊢
  rw [s1] at c2
  generalize hp1 : w.heap.size = p1 at c1 c2 s1 ⊢
  generalize hp2 : p1 + 1 = p2 at c2 s1 ⊢
  have c12 := hE2.at c1 (fun h => h)
  have hE02 := hE1.ext hE2
  have hEd : Ext w2 w2.drew := (Keep.refl _ w2).drew
  obtain ⟨cs, a1, a2, a3, ⟨qi, ci, a4, a5⟩, a6, a7⟩ := hT.ins
  obtain ⟨ds, b1, b2, b3, ⟨qo, co, b4, b5⟩, b6, b7⟩ := hT.outs
  have l1 := hs.ins
  have l2 := hs.outs
  have a3d : rdS w2.drew 36 iv = some (cs.flatMap Array.toList).toArray := by subst a4; exact rdS_keep a3 (hE02.ext hEd) fun _ _ h => h
  (refine W_at c15_ok ?_; refine ⟨_, rfl, ?_⟩; simp (disch := first | omega | assumption | rfl | (simp only [vcS] <;> omega) | fail) only [↓ptV_l, ↓vcA, vcB, ↓vcD, vcE, ↓reduceIte, Nat.reduceEqDiff, Nat.reduceAdd, Nat.reduceMul, Nat.reduceLeDiff, Int.reduceLE, Int.reduceLT, Int.reduceEq, Int.reduceToNat, Int.reduceAdd, Int.reduceSub, Int.reduceMul, Int.reduceNeg, reduceCtorEq, Option.bind_some, Option.map_some, List.length_cons, List.length_nil, vcM, List.getElem?_toArray, List.getElem?_cons_zero, List.getElem?_cons_succ, c12, txC_1, txC_2])
  refine callV_ret (cloneI_ok w2.drew iv cs a3d a2 (fun c hc => ?_) ⟨qi, ci, by rw [a1]; exact a4, by omega⟩ (by omega)) ?_
  · obtain ⟨j, hj, rfl⟩ := List.getElem_of_mem hc
    obtain ⟨sv, wv, e, r1, r2⟩ := a7 j hj (by omega)
    rw [e]; exact iC_flat r1.one (RowR.one r2)
  rintro vi w3 ⟨hO3, hE3⟩
  have c13 := hE3.at (hEd.at c12 (fun h => h)) (fun h => h)
  have c23 := hE3.at (hEd.at c2 (fun h => h)) (fun h => h)
  have b3d : rdS w3 2 ov = some (ds.flatMap Array.toList).toArray := by subst b4; exact rdS_keep b3 ((hE02.ext hEd).ext hE3) fun _ _ h => h
  first | (simp (disch := first | omega | assumption | rfl | (simp only [vcS] <;> omega) | fail) only [↓ptV_l, ↓vcA, vcB, ↓vcD, vcE, ↓reduceIte, Nat.reduceEqDiff, Nat.reduceAdd, Nat.reduceMul, Nat.reduceLeDiff, Int.reduceLE, Int.reduceLT, Int.reduceEq, Int.reduceToNat, Int.reduceAdd, Int.reduceSub, Int.reduceMul, Int.reduceNeg, reduceCtorEq, Option.bind_some, Option.map_some, List.length_cons, List.length_nil, vcM, List.getElem?_toArray, List.getElem?_cons_zero, List.getElem?_cons_succ, c13, txC_1, txC_2]) | skip
  refine callV_ret (cloneO_ok w3 ov ds b3d b2 (fun c hc => ?_) ⟨qo, co, by rw [b1]; exact b4, by omega⟩ (by omega)) ?_
  · obtain ⟨j, hj, rfl⟩ := List.getElem_of_mem hc
    obtain ⟨sv, e, r1⟩ := b7 j hj (by omega)
    rw [e]; exact oC_flat r1.one
  rintro vo w4 ⟨hO4, hE4⟩
  have c14 := hE4.at c13 (fun h => h)
  have c24 := hE4.at c23 (fun h => h)
  first | (simp (disch := first | omega | assumption | rfl | (simp only [vcS] <;> omega) | fail) only [↓ptV_l, ↓vcA, vcB, ↓vcD, vcE, ↓reduceIte, Nat.reduceEqDiff, Nat.reduceAdd, Nat.reduceMul, Nat.reduceLeDiff, Int.reduceLE, Int.reduceLT, Int.reduceEq, Int.reduceToNat, Int.reduceAdd, Int.reduceSub, Int.reduceMul, Int.reduceNeg, reduceCtorEq, Option.bind_some, Option.map_some, List.length_cons, List.length_nil, vcM, List.getElem?_toArray, List.getElem?_cons_zero, List.getElem?_cons_succ, c14, txC_1, txC_2]) | skip
  have ka : Keep (fun y => y = p1) w4 (w4.setCell ⟨p1, 1, none⟩ vi) := (Keep.refl _ w4).setCell _ fun _ => rfl
  have kb : Keep (fun y => y = p1) w4 ((w4.setCell ⟨p1, 1, none⟩ vi).setCell ⟨p1, 2, none⟩ vo) := ka.setCell _ fun _ => rfl
  have d1 : (w4.setCell ⟨p1, 1, none⟩ vi).heap[p1]? = some (.cells (txC t vi ov) 40 (0, 0)) := by rw [heap_setCell_eq c14]; rfl
  have d2 : ((w4.setCell ⟨p1, 1, none⟩ vi).setCell ⟨p1, 2, none⟩ vo).heap[p1]? = some (.cells (txC t vi vo) 40 (0, 0)) := by rw [heap_setCell_eq d1]; rfl
  have n50 := ne_T (T' := 75) c14 (by decide)
  have n54 := ne_T (T' := 36) c14 (by decide)
  have hsd := (hE02.ext hEd).size
  have hP : CT w ((w4.setCell ⟨p1, 1, none⟩ vi).setCell ⟨p1, 2, none⟩ vo) p1 p2 t vi vo 0 0 :=
    ⟨(((hE02.ext hEd).ext hE3).ext hE4).trans kb fun y hy e => by omega, d2, ⟨_, kb.at c24 (by omega), by decide⟩,
      CL.start a1 (((hO3.ext hE4).keep kb fun y hy e => by obtain ⟨_, c, hc⟩ := (hO3.ext hE4).blk hy; subst e; exact n50 c hc).base hsd) a7,
      CL.start b1 ((hO4.keep kb fun y hy e => by obtain ⟨_, c, hc⟩ := hO4.blk hy; subst e; exact n54 c hc).base (Nat.le_trans hsd hE3.size)) b7, by omega, by omega, by omega⟩
  refine ⟨hO3.one, wr1_of c14 (by rw [txC_sz]; decide), hO4.one, wr1_of d1 (by rw [txC_sz]; decide), ?_⟩
  generalize World.setCell _ _ _ = w6 at hP d2 ⊢
  have hlen := CL.len hP.ins
  (refine W_at c15_ok ?_; refine ⟨_, rfl, ?_⟩; simp (disch := first | omega | assumption | rfl | (simp only [vcS] <;> omega) | fail) only [↓ptV_l, ↓vcA, vcB, ↓vcD, vcE, ↓reduceIte, Nat.reduceEqDiff, Nat.reduceAdd, Nat.reduceMul, Nat.reduceLeDiff, Int.reduceLE, Int.reduceLT, Int.reduceEq, Int.reduceToNat, Int.reduceAdd, Int.reduceSub, Int.reduceMul, Int.reduceNeg, reduceCtorEq, Option.bind_some, Option.map_some, List.length_cons, List.length_nil, vcM, List.getElem?_toArray, List.getElem?_cons_zero, List.getElem?_cons_succ, d2, txC_1, hlen])
  subst hp1
  exact clone_ins w _ p2 t hok hs vi vo t.ins.length 0 w6 _ (by omega) hP
end Go.Proofs
namespace Go.Proofs
open Go.Vc
set_option maxRecDepth 10000

abbrev KV := Value × Value
/-- Where a key stands. -/
noncomputable def idxG (k : Value) : List KV → Option Nat
  | [] => none
  | p :: l => @ite _ (k = p.1) (Classical.propDecidable _) (some 0) ((idxG k l).map (· + 1))
theorem map_erase {α β : Type} (f : α → β) : ∀ (l : List α) (i : Nat), (l.eraseIdx i).map f = (l.map f).eraseIdx i
  | [], i => by simp
  | x :: l, 0 => rfl
  | x :: l, i + 1 => by simp [map_erase f l i]
noncomputable def getG (k : Value) (l : List KV) : Option Value := (idxG k l).bind fun i => (l[i]?).map (·.2)
noncomputable def putG (k v : Value) (l : List KV) : List KV := match idxG k l with
  | some i => l.set i (k, v)
  | none => l ++ [(k, v)]
noncomputable def delG (k : Value) (l : List KV) : List KV := match idxG k l with
  | some i => l.eraseIdx i
  | none => l
structure EsG (lay : List SK) (g : Bool) (es : Array MapEntry) (c : Nat) (l : List KV) : Prop where
  eq : es.toList.map (fun e => (e.key, e.val)) = l
  lt : ∀ e ∈ es.toList, e.born < c
  ne : es.toList.Pairwise fun a b => a.born ≠ b.born
  ok : ∀ p ∈ l, kOK lay g p.1 = true
def MG (lay : List SK) (g : Bool) (w : World) (r : Nat) (l : List KV) : Prop := ∃ es c, w.heap[r]? = some (.map es c) ∧ EsG lay g es c l
section
variable {lay : List SK} {g : Bool} {w w' : World} {r : Nat} {l : List KV} {k v : Value}
theorem MG.keep {S : Nat → Prop} (h : MG lay g w r l) (k : Keep S w w') (hr : ¬ S r) : MG lay g w' r l := by
  obtain ⟨es, c, h1, h2⟩ := h; exact ⟨es, c, k.at h1 hr, h2⟩
theorem MG.ext (h : MG lay g w r l) (k : Ext w w') : MG lay g w' r l := h.keep k fun h => h
theorem MG.empty (w : World) : MG lay g (w.alloc (.map #[] 0)) w.heap.size [] := ⟨#[], 0, heap_new _ _ _ rfl, rfl, fun e he => (by cases he), List.Pairwise.nil, fun p hp => (by cases hp)⟩
theorem MG.lt (h : MG lay g w r l) : r < w.heap.size := by obtain ⟨es, c, h1, _⟩ := h; exact lt_of_heap h1
theorem EsG.mapE {es : Array MapEntry} {c : Nat} (h1 : w.heap[r]? = some (.map es c)) (h2 : EsG lay g es c l) : mapE lay g w r = some (es, c) := by
  unfold Vc.mapE
  rw [h1]
  have hall : es.toList.all (fun e => kOK lay g e.key) = true := by
    rw [List.all_eq_true]
    intro e he
    have h3 : (e.key, e.val) ∈ es.toList.map (fun e => (e.key, e.val)) := List.mem_map_of_mem he
    rw [h2.eq] at h3
    exact h2.ok _ h3
  simp only [hall, if_true]
theorem fnd_g {k : Value} : ∀ {l : List KV} {es : List MapEntry} (j : Nat), es.map (fun e => (e.key, e.val)) = l →
    fnd k es j = match idxG k l with
      | some i => (l[i]?).map fun p => (j + i, p.2)
      | none => none
  | [], es, j, h => by simp at h; subst h; simp [fnd, idxG]
  | p :: l, [], j, h => by simp at h
  | p :: l, m :: es, j, h => by
    simp only [List.map_cons, List.cons.injEq] at h
    obtain ⟨h1, h3⟩ := h
    have ih := fnd_g (k := k) (j + 1) h3
    have e1 : m.key = p.1 := congrArg Prod.fst h1
    have e2 : m.val = p.2 := congrArg Prod.snd h1
    simp only [fnd, idxG]
    rw [e1]
    by_cases hk : k = p.1
    · rw [if_pos hk, if_pos hk]; simp [e2]
    · rw [if_neg hk, ih, if_neg hk]
      cases hq : idxG k l with
      | none => simp
      | some i => simp [Nat.add_assoc, Nat.add_comm 1 i]
theorem idxG_lt {k : Value} : ∀ {l : List KV} {i : Nat}, idxG k l = some i → ∃ p, l[i]? = some p ∧ p.1 = k
  | [], i, h => by simp [idxG] at h
  | p :: l, i, h => by
    simp only [idxG] at h
    split at h
    · rename_i hk; simp at h; subst h; exact ⟨p, by simp, hk.symm⟩
    · cases hq : idxG k l with
      | none => simp [hq] at h
      | some j => simp [hq] at h; subst h; obtain ⟨p', h1, h2⟩ := idxG_lt hq; exact ⟨p', by simpa using h1, h2⟩
theorem idxG_mem {k : Value} : ∀ {l : List KV}, (∃ p ∈ l, p.1 = k) → ∃ i, idxG k l = some i
  | [], h => by obtain ⟨p, hp, _⟩ := h; cases hp
  | q :: l, h => by
    simp only [idxG]
    by_cases hk : k = q.1
    · exact ⟨0, by rw [if_pos hk]⟩
    · obtain ⟨p, hp, e⟩ := h
      rcases List.mem_cons.1 hp with rfl | hp
      · exact absurd e.symm hk
      · obtain ⟨i, hi⟩ := idxG_mem ⟨p, hp, e⟩
        exact ⟨i + 1, by rw [if_neg hk, hi]; rfl⟩
theorem getG_mem (h : getG k l = some v) : (k, v) ∈ l := by
  unfold getG at h
  cases hq : idxG k l with
  | none => rw [hq] at h; cases h
  | some i =>
    obtain ⟨p, h1, h2⟩ := idxG_lt hq
    rw [hq] at h
    simp only [Option.bind_some, h1, Option.map_some, Option.some.injEq] at h
    have := List.mem_of_getElem? h1
    rw [← h2, ← h]; exact this
theorem getG_some (h : ∃ p ∈ l, p.1 = k) : ∃ v, getG k l = some v := by
  obtain ⟨i, hi⟩ := idxG_mem h
  obtain ⟨p, h1, _⟩ := idxG_lt hi
  exact ⟨p.2, by unfold getG; rw [hi]; simp [h1]⟩
theorem MG.lkp (h : MG lay g w r l) (z : Value) (hk : kOK lay g k = true) (ok : Bool) :
    lkpR lay g z ok w (.map (some r)) k = some (match getG k l with | some v => packL ok v true | none => packL ok z false) := by
  obtain ⟨es, c, h1, h2⟩ := h
  unfold lkpR
  rw [if_pos hk]
  simp only [EsG.mapE h1 h2, Option.map_some]
  rw [fnd_g 0 h2.eq]
  unfold getG
  cases hq : idxG k l with
  | none => rfl
  | some i => obtain ⟨p, h3, _⟩ := idxG_lt hq; simp [h3]
theorem MG.len (h : MG lay g w r l) : lenMR w (.map (some r)) = some (.int .i64 (l.length : Nat)) := by
  obtain ⟨es, c, hr, he⟩ := h
  have := congrArg List.length he.eq
  simp at this
  rw [lenM_some w r es c hr, this]
theorem MG.put {K : World → Prop} (h : MG lay g w r l) (hk : kOK lay g k = true) (hK : ∀ w', MG lay g w' r (putG k v l) → Keep (fun i => i = r) w w' → K w') :
    mapUV lay g (.map (some r)) k v w K := by
  obtain ⟨es, c, h1, h2⟩ := h
  refine ⟨hk, ?_⟩
  rw [EsG.mapE h1 h2, getV_some]
  have hlt := lt_of_heap h1
  have hlen : es.toList.length = l.length := by simpa using congrArg List.length h2.eq
  refine hK _ ?_ ((Keep.refl _ w).setO _ fun _ => rfl)
  unfold putE
  rw [fnd_g 0 h2.eq]
  unfold putG
  cases hq : idxG k l with
  | none =>
    refine ⟨_, _, heap_setO_eq _ _ _ hlt, by simp [h2.eq], fun e he => ?_, ?_, fun p hp => ?_⟩
    · rw [Array.toList_push] at he
      rcases List.mem_append.1 he with he | he
      · exact Nat.lt_succ_of_lt (h2.lt e he)
      · rw [List.mem_singleton.1 he]; exact Nat.lt_succ_self _
    · rw [Array.toList_push, List.pairwise_append]
      exact ⟨h2.ne, List.pairwise_singleton _ _, fun a ha b hb => by rw [List.mem_singleton.1 hb]; exact Nat.ne_of_lt (h2.lt a ha)⟩
    · rcases List.mem_append.1 hp with hp | hp
      · exact h2.ok p hp
      · rw [List.mem_singleton.1 hp]; exact hk
  | some i =>
    obtain ⟨p, h3, h4⟩ := idxG_lt hq
    simp only [h3, Option.map_some, Nat.zero_add]
    have hil : i < l.length := (List.getElem?_eq_some_iff.1 h3).1
    have hie : i < es.size := by rw [← Array.length_toList]; omega
    have hbo : (es.modify i fun e => { e with key := k, val := v }).toList.map (·.born) = es.toList.map (·.born) := by
      apply List.ext_getElem?
      intro j
      simp only [List.getElem?_map, Array.toList_modify, List.getElem?_modify]
      by_cases hij : i = j
      · subst hij; simp [hie]
      · simp only [hij, if_false]; cases es.toList[j]? <;> simp
    refine ⟨_, _, heap_setO_eq _ _ _ hlt, ?_, fun e he => ?_, ?_, fun q hq' => ?_⟩
    · apply List.ext_getElem?
      intro j
      have h5 := congrArg (fun x => x[j]?) h2.eq
      simp only [List.getElem?_map, Array.toList_modify, List.getElem?_modify, List.getElem?_set] at h5 ⊢
      by_cases hij : i = j
      · subst hij; simp [hil, hie]
      · simp only [hij, if_false]
        rw [← h5]
        cases es.toList[j]? <;> simp
    · have : e.born ∈ es.toList.map (·.born) := by rw [← hbo]; exact List.mem_map_of_mem he
      obtain ⟨e', he', e2⟩ := List.mem_map.1 this
      rw [← e2]; exact h2.lt e' he'
    · have := List.pairwise_map.2 h2.ne
      rw [← hbo] at this
      exact List.pairwise_map.1 this
    · rcases List.mem_or_eq_of_mem_set hq' with hq' | rfl
      · exact h2.ok q hq'
      · exact hk
theorem MG.del {K : World → Prop} (h : MG lay g w r l) (hk : kOK lay g k = true) (hK : ∀ w', MG lay g w' r (delG k l) → Keep (fun i => i = r) w w' → K w') :
    mapDV lay g (.map (some r)) k w K := by
  obtain ⟨es, c, h1, h2⟩ := h
  refine ⟨hk, ?_⟩
  rw [EsG.mapE h1 h2, getV_some]
  have hlt := lt_of_heap h1
  have hlen : es.toList.length = l.length := by simpa using congrArg List.length h2.eq
  refine hK _ ?_ ((Keep.refl _ w).setO _ fun _ => rfl)
  unfold delE
  rw [fnd_g 0 h2.eq]
  unfold delG
  cases hq : idxG k l with
  | none => exact ⟨_, _, heap_setO_eq _ _ _ hlt, h2⟩
  | some i =>
    obtain ⟨p, h3, h4⟩ := idxG_lt hq
    simp only [h3, Option.map_some, Nat.zero_add]
    have hil : i < l.length := (List.getElem?_eq_some_iff.1 h3).1
    have hie : i < es.size := by rw [← Array.length_toList]; omega
    have el : (es.eraseIdxIfInBounds i).toList = es.toList.eraseIdx i := by
      rw [Array.eraseIdxIfInBounds, dif_pos hie, Array.toList_eraseIdx]
    refine ⟨_, _, heap_setO_eq _ _ _ hlt, by rw [el, ← h2.eq, map_erase], fun e he => ?_, ?_, fun q hq' => h2.ok q (List.mem_of_mem_eraseIdx hq')⟩
    · rw [el] at he; exact h2.lt e (List.mem_of_mem_eraseIdx he)
    · rw [el]; exact h2.ne.sublist (List.eraseIdx_sublist _ _)
end
end Go.Proofs
namespace Go.Proofs
open Go.Vc
set_option maxRecDepth 10000

abbrev layH : List SK := skR [(32, .i .u8)]
abbrev layP : List SK := skR [(32, .i .u8), (1, .i .u32)]
abbrev layS : List SK := skR [(1, .st)]
/-- What the model does for 'maps.clone': a new map with the old entries. -/
theorem mclone_run {P : Program} {f : FuncId} {fn : Func} (hf : P.funcs[f]? = some fn) (hname : (fn.name == "runtime.NumGoroutine") = false) (hb : fn.body.isNone = true) (hn : Extern.findNext fn = none) (he : Extern.find fn = some Extern.MapsClone.clone)
    {w : World} {r : Nat} {es : Array MapEntry} {c : Nat} (t : TypeId) (h : w.heap[r]? = some (.map es c)) :
    (callFunc f [Value.iface t (.map (some r))].toArray).run P w = .ok (.value (.iface t (.map (some w.heap.size)))) (w.alloc (.map es c)) := by
  rw [run_callFunc_extern hf hname hb hn he]
  have e : Extern.MapsClone.clone [Value.iface t (.map (some r))].toArray = (getObj r >>= fun o => match o with
      | .map entries clock => (newObj (.map entries clock) >>= fun n => pure (.iface t (.map (some n))))
      | _ => stuck "maps.clone: a map expected") := rfl
  rw [e]
  simp [MapKept.run_getObj_map h, Result.andThen, go_sem]
theorem cloneH_ok (w : World) (r : Nat) (l : List KV) (h : MG layH true w r l) :
    Calls Try.prog 17 #[.map (some r)] w (Ret fun u w' => ∃ r', u = .map (some r') ∧ MG layH true w' r' l ∧ Ext w w' ∧ w.heap.size ≤ r') := by
  refine calls_of_cfg c17_ok (Nat.le_of_ble_eq_true rfl) ?_
  simp only [argE_nil, argE_cons, Nat.reduceAdd, Nat.zero_add]
  obtain ⟨es, c, hr, he⟩ := h
  (refine W_at c17_ok ?_; refine ⟨_, rfl, ?_⟩; simp (disch := first | omega | assumption | rfl | (simp only [vcS] <;> omega) | fail) only [↓ptV_l, ↓vcA, vcB, ↓vcD, vcE, ↓reduceIte, Nat.reduceEqDiff, Nat.reduceAdd, Nat.reduceMul, Nat.reduceLeDiff, Int.reduceLE, Int.reduceLT, Int.reduceEq, Int.reduceToNat, Int.reduceAdd, Int.reduceSub, Int.reduceMul, Int.reduceNeg, reduceCtorEq, Option.bind_some, Option.map_some, List.length_cons, List.length_nil, vcM, List.getElem?_toArray, List.getElem?_cons_zero, List.getElem?_cons_succ])
  (refine W_at c17_ok ?_; refine ⟨_, rfl, ?_⟩; simp (disch := first | omega | assumption | rfl | (simp only [vcS] <;> omega) | fail) only [↓ptV_l, ↓vcA, vcB, ↓vcD, vcE, ↓reduceIte, Nat.reduceEqDiff, Nat.reduceAdd, Nat.reduceMul, Nat.reduceLeDiff, Int.reduceLE, Int.reduceLT, Int.reduceEq, Int.reduceToNat, Int.reduceAdd, Int.reduceSub, Int.reduceMul, Int.reduceNeg, reduceCtorEq, Option.bind_some, Option.map_some, List.length_cons, List.length_nil, vcM, List.getElem?_toArray, List.getElem?_cons_zero, List.getElem?_cons_succ])
  (refine W_at c17_ok ?_; refine ⟨_, rfl, ?_⟩; simp (disch := first | omega | assumption | rfl | (simp only [vcS] <;> omega) | fail) only [↓ptV_l, ↓vcA, vcB, ↓vcD, vcE, ↓reduceIte, Nat.reduceEqDiff, Nat.reduceAdd, Nat.reduceMul, Nat.reduceLeDiff, Int.reduceLE, Int.reduceLT, Int.reduceEq, Int.reduceToNat, Int.reduceAdd, Int.reduceSub, Int.reduceMul, Int.reduceNeg, reduceCtorEq, Option.bind_some, Option.map_some, List.length_cons, List.length_nil, vcM, List.getElem?_toArray, List.getElem?_cons_zero, List.getElem?_cons_succ])
  (refine W_at c17_ok ?_; refine ⟨_, rfl, ?_⟩; simp (disch := first | omega | assumption | rfl | (simp only [vcS] <;> omega) | fail) only [↓ptV_l, ↓vcA, vcB, ↓vcD, vcE, ↓reduceIte, Nat.reduceEqDiff, Nat.reduceAdd, Nat.reduceMul, Nat.reduceLeDiff, Int.reduceLE, Int.reduceLT, Int.reduceEq, Int.reduceToNat, Int.reduceAdd, Int.reduceSub, Int.reduceMul, Int.reduceNeg, reduceCtorEq, Option.bind_some, Option.map_some, List.length_cons, List.length_nil, vcM, List.getElem?_toArray, List.getElem?_cons_zero, List.getElem?_cons_succ])
  refine ⟨_, _, mclone_run Try.func31 (by kernel_rfl) (by kernel_rfl) (by kernel_rfl) (by kernel_rfl) _ hr, ?_⟩
  simp (disch := first | omega | assumption | rfl | (simp only [vcS] <;> omega) | fail) only [↓ptV_l, ↓vcA, vcB, ↓vcD, vcE, ↓reduceIte, Nat.reduceEqDiff, Nat.reduceAdd, Nat.reduceMul, Nat.reduceLeDiff, Int.reduceLE, Int.reduceLT, Int.reduceEq, Int.reduceToNat, Int.reduceAdd, Int.reduceSub, Int.reduceMul, Int.reduceNeg, reduceCtorEq, Option.bind_some, Option.map_some, List.length_cons, List.length_nil, vcM, List.getElem?_toArray, List.getElem?_cons_zero, List.getElem?_cons_succ]
  (refine W_at c17_ok ?_; refine ⟨_, rfl, ?_⟩; simp (disch := first | omega | assumption | rfl | (simp only [vcS] <;> omega) | fail) only [↓ptV_l, ↓vcA, vcB, ↓vcD, vcE, ↓reduceIte, Nat.reduceEqDiff, Nat.reduceAdd, Nat.reduceMul, Nat.reduceLeDiff, Int.reduceLE, Int.reduceLT, Int.reduceEq, Int.reduceToNat, Int.reduceAdd, Int.reduceSub, Int.reduceMul, Int.reduceNeg, reduceCtorEq, Option.bind_some, Option.map_some, List.length_cons, List.length_nil, vcM, List.getElem?_toArray, List.getElem?_cons_zero, List.getElem?_cons_succ, Ret_returned])
  exact ⟨w.heap.size, rfl, ⟨es, c, heap_new _ _ _ rfl, he⟩, (Keep.refl _ w).alloc _, Nat.le_refl _⟩
theorem cloneP_ok (w : World) (r : Nat) (l : List KV) (h : MG layP true w r l) :
    Calls Try.prog 18 #[.map (some r)] w (Ret fun u w' => ∃ r', u = .map (some r') ∧ MG layP true w' r' l ∧ Ext w w' ∧ w.heap.size ≤ r') := by
  refine calls_of_cfg c18_ok (Nat.le_of_ble_eq_true rfl) ?_
  simp only [argE_nil, argE_cons, Nat.reduceAdd, Nat.zero_add]
  obtain ⟨es, c, hr, he⟩ := h
  (refine W_at c18_ok ?_; refine ⟨_, rfl, ?_⟩; simp (disch := first | omega | assumption | rfl | (simp only [vcS] <;> omega) | fail) only [↓ptV_l, ↓vcA, vcB, ↓vcD, vcE, ↓reduceIte, Nat.reduceEqDiff, Nat.reduceAdd, Nat.reduceMul, Nat.reduceLeDiff, Int.reduceLE, Int.reduceLT, Int.reduceEq, Int.reduceToNat, Int.reduceAdd, Int.reduceSub, Int.reduceMul, Int.reduceNeg, reduceCtorEq, Option.bind_some, Option.map_some, List.length_cons, List.length_nil, vcM, List.getElem?_toArray, List.getElem?_cons_zero, List.getElem?_cons_succ])
  (refine W_at c18_ok ?_; refine ⟨_, rfl, ?_⟩; simp (disch := first | omega | assumption | rfl | (simp only [vcS] <;> omega) | fail) only [↓ptV_l, ↓vcA, vcB, ↓vcD, vcE, ↓reduceIte, Nat.reduceEqDiff, Nat.reduceAdd, Nat.reduceMul, Nat.reduceLeDiff, Int.reduceLE, Int.reduceLT, Int.reduceEq, Int.reduceToNat, Int.reduceAdd, Int.reduceSub, Int.reduceMul, Int.reduceNeg, reduceCtorEq, Option.bind_some, Option.map_some, List.length_cons, List.length_nil, vcM, List.getElem?_toArray, List.getElem?_cons_zero, List.getElem?_cons_succ])
  (refine W_at c18_ok ?_; refine ⟨_, rfl, ?_⟩; simp (disch := first | omega | assumption | rfl | (simp only [vcS] <;> omega) | fail) only [↓ptV_l, ↓vcA, vcB, ↓vcD, vcE, ↓reduceIte, Nat.reduceEqDiff, Nat.reduceAdd, Nat.reduceMul, Nat.reduceLeDiff, Int.reduceLE, Int.reduceLT, Int.reduceEq, Int.reduceToNat, Int.reduceAdd, Int.reduceSub, Int.reduceMul, Int.reduceNeg, reduceCtorEq, Option.bind_some, Option.map_some, List.length_cons, List.length_nil, vcM, List.getElem?_toArray, List.getElem?_cons_zero, List.getElem?_cons_succ])
  (refine W_at c18_ok ?_; refine ⟨_, rfl, ?_⟩; simp (disch := first | omega | assumption | rfl | (simp only [vcS] <;> omega) | fail) only [↓ptV_l, ↓vcA, vcB, ↓vcD, vcE, ↓reduceIte, Nat.reduceEqDiff, Nat.reduceAdd, Nat.reduceMul, Nat.reduceLeDiff, Int.reduceLE, Int.reduceLT, Int.reduceEq, Int.reduceToNat, Int.reduceAdd, Int.reduceSub, Int.reduceMul, Int.reduceNeg, reduceCtorEq, Option.bind_some, Option.map_some, List.length_cons, List.length_nil, vcM, List.getElem?_toArray, List.getElem?_cons_zero, List.getElem?_cons_succ])
  refine ⟨_, _, mclone_run Try.func31 (by kernel_rfl) (by kernel_rfl) (by kernel_rfl) (by kernel_rfl) _ hr, ?_⟩
  simp (disch := first | omega | assumption | rfl | (simp only [vcS] <;> omega) | fail) only [↓ptV_l, ↓vcA, vcB, ↓vcD, vcE, ↓reduceIte, Nat.reduceEqDiff, Nat.reduceAdd, Nat.reduceMul, Nat.reduceLeDiff, Int.reduceLE, Int.reduceLT, Int.reduceEq, Int.reduceToNat, Int.reduceAdd, Int.reduceSub, Int.reduceMul, Int.reduceNeg, reduceCtorEq, Option.bind_some, Option.map_some, List.length_cons, List.length_nil, vcM, List.getElem?_toArray, List.getElem?_cons_zero, List.getElem?_cons_succ]
  (refine W_at c18_ok ?_; refine ⟨_, rfl, ?_⟩; simp (disch := first | omega | assumption | rfl | (simp only [vcS] <;> omega) | fail) only [↓ptV_l, ↓vcA, vcB, ↓vcD, vcE, ↓reduceIte, Nat.reduceEqDiff, Nat.reduceAdd, Nat.reduceMul, Nat.reduceLeDiff, Int.reduceLE, Int.reduceLT, Int.reduceEq, Int.reduceToNat, Int.reduceAdd, Int.reduceSub, Int.reduceMul, Int.reduceNeg, reduceCtorEq, Option.bind_some, Option.map_some, List.length_cons, List.length_nil, vcM, List.getElem?_toArray, List.getElem?_cons_zero, List.getElem?_cons_succ, Ret_returned])
  exact ⟨w.heap.size, rfl, ⟨es, c, heap_new _ _ _ rfl, he⟩, (Keep.refl _ w).alloc _, Nat.le_refl _⟩
theorem cloneS_ok (w : World) (r : Nat) (l : List KV) (h : MG layS false w r l) :
    Calls Try.prog 19 #[.map (some r)] w (Ret fun u w' => ∃ r', u = .map (some r') ∧ MG layS false w' r' l ∧ Ext w w' ∧ w.heap.size ≤ r') := by
  refine calls_of_cfg c19_ok (Nat.le_of_ble_eq_true rfl) ?_
  simp only [argE_nil, argE_cons, Nat.reduceAdd, Nat.zero_add]
  obtain ⟨es, c, hr, he⟩ := h
  (refine W_at c19_ok ?_; refine ⟨_, rfl, ?_⟩; simp (disch := first | omega | assumption | rfl | (simp only [vcS] <;> omega) | fail) only [↓ptV_l, ↓vcA, vcB, ↓vcD, vcE, ↓reduceIte, Nat.reduceEqDiff, Nat.reduceAdd, Nat.reduceMul, Nat.reduceLeDiff, Int.reduceLE, Int.reduceLT, Int.reduceEq, Int.reduceToNat, Int.reduceAdd, Int.reduceSub, Int.reduceMul, Int.reduceNeg, reduceCtorEq, Option.bind_some, Option.map_some, List.length_cons, List.length_nil, vcM, List.getElem?_toArray, List.getElem?_cons_zero, List.getElem?_cons_succ])
  (refine W_at c19_ok ?_; refine ⟨_, rfl, ?_⟩; simp (disch := first | omega | assumption | rfl | (simp only [vcS] <;> omega) | fail) only [↓ptV_l, ↓vcA, vcB, ↓vcD, vcE, ↓reduceIte, Nat.reduceEqDiff, Nat.reduceAdd, Nat.reduceMul, Nat.reduceLeDiff, Int.reduceLE, Int.reduceLT, Int.reduceEq, Int.reduceToNat, Int.reduceAdd, Int.reduceSub, Int.reduceMul, Int.reduceNeg, reduceCtorEq, Option.bind_some, Option.map_some, List.length_cons, List.length_nil, vcM, List.getElem?_toArray, List.getElem?_cons_zero, List.getElem?_cons_succ])
  (refine W_at c19_ok ?_; refine ⟨_, rfl, ?_⟩; simp (disch := first | omega | assumption | rfl | (simp only [vcS] <;> omega) | fail) only [↓ptV_l, ↓vcA, vcB, ↓vcD, vcE, ↓reduceIte, Nat.reduceEqDiff, Nat.reduceAdd, Nat.reduceMul, Nat.reduceLeDiff, Int.reduceLE, Int.reduceLT, Int.reduceEq, Int.reduceToNat, Int.reduceAdd, Int.reduceSub, Int.reduceMul, Int.reduceNeg, reduceCtorEq, Option.bind_some, Option.map_some, List.length_cons, List.length_nil, vcM, List.getElem?_toArray, List.getElem?_cons_zero, List.getElem?_cons_succ])
  (refine W_at c19_ok ?_; refine ⟨_, rfl, ?_⟩; simp (disch := first | omega | assumption | rfl | (simp only [vcS] <;> omega) | fail) only [↓ptV_l, ↓vcA, vcB, ↓vcD, vcE, ↓reduceIte, Nat.reduceEqDiff, Nat.reduceAdd, Nat.reduceMul, Nat.reduceLeDiff, Int.reduceLE, Int.reduceLT, Int.reduceEq, Int.reduceToNat, Int.reduceAdd, Int.reduceSub, Int.reduceMul, Int.reduceNeg, reduceCtorEq, Option.bind_some, Option.map_some, List.length_cons, List.length_nil, vcM, List.getElem?_toArray, List.getElem?_cons_zero, List.getElem?_cons_succ])
  refine ⟨_, _, mclone_run Try.func31 (by kernel_rfl) (by kernel_rfl) (by kernel_rfl) (by kernel_rfl) _ hr, ?_⟩
  simp (disch := first | omega | assumption | rfl | (simp only [vcS] <;> omega) | fail) only [↓ptV_l, ↓vcA, vcB, ↓vcD, vcE, ↓reduceIte, Nat.reduceEqDiff, Nat.reduceAdd, Nat.reduceMul, Nat.reduceLeDiff, Int.reduceLE, Int.reduceLT, Int.reduceEq, Int.reduceToNat, Int.reduceAdd, Int.reduceSub, Int.reduceMul, Int.reduceNeg, reduceCtorEq, Option.bind_some, Option.map_some, List.length_cons, List.length_nil, vcM, List.getElem?_toArray, List.getElem?_cons_zero, List.getElem?_cons_succ]
  (refine W_at c19_ok ?_; refine ⟨_, rfl, ?_⟩; simp (disch := first | omega | assumption | rfl | (simp only [vcS] <;> omega) | fail) only [↓ptV_l, ↓vcA, vcB, ↓vcD, vcE, ↓reduceIte, Nat.reduceEqDiff, Nat.reduceAdd, Nat.reduceMul, Nat.reduceLeDiff, Int.reduceLE, Int.reduceLT, Int.reduceEq, Int.reduceToNat, Int.reduceAdd, Int.reduceSub, Int.reduceMul, Int.reduceNeg, reduceCtorEq, Option.bind_some, Option.map_some, List.length_cons, List.length_nil, vcM, List.getElem?_toArray, List.getElem?_cons_zero, List.getElem?_cons_succ, Ret_returned])
  exact ⟨w.heap.size, rfl, ⟨es, c, heap_new _ _ _ rfl, he⟩, (Keep.refl _ w).alloc _, Nat.le_refl _⟩
/-- Of two maps: both empty, or of other lengths. -/
theorem equalP_ok (w : World) (r r2 : Nat) (l l2 : List KV) (h : MG layP true w r l) (h2 : MG layP true w r2 l2) (hl : l = [] ∨ l.length ≠ l2.length) :
    Calls Try.prog 23 #[.map (some r), .map (some r2)] w (Ret fun u w' => u = .bool (decide (l.length = l2.length)) ∧ Ext w w') := by
  refine calls_of_cfg c23_ok (Nat.le_of_ble_eq_true rfl) ?_
  simp only [argE_nil, argE_cons, Nat.reduceAdd, Nat.zero_add]
  have l1 := h.len
  have l2' := h2.len
  (refine W_at c23_ok ?_; refine ⟨_, rfl, ?_⟩; simp (disch := first | omega | assumption | rfl | (simp only [vcS] <;> omega) | fail) only [↓ptV_l, ↓vcA, vcB, ↓vcD, vcE, ↓reduceIte, Nat.reduceEqDiff, Nat.reduceAdd, Nat.reduceMul, Nat.reduceLeDiff, Int.reduceLE, Int.reduceLT, Int.reduceEq, Int.reduceToNat, Int.reduceAdd, Int.reduceSub, Int.reduceMul, Int.reduceNeg, reduceCtorEq, Option.bind_some, Option.map_some, List.length_cons, List.length_nil, vcM, List.getElem?_toArray, List.getElem?_cons_zero, List.getElem?_cons_succ])
  by_cases hq : l.length = l2.length
  · have hl0 : l = [] := by rcases hl with hl | hl; exact hl; exact absurd hq hl
    subst hl0
    obtain rfl : l2 = [] := List.eq_nil_of_length_eq_zero hq.symm
    obtain ⟨es, c, hr, he⟩ := h
    have hes : es.toList = [] := List.map_eq_nil_iff.1 he.eq
    rw [decide_eq_true hq]
    (refine W_at c23_ok ?_; refine ⟨_, rfl, ?_⟩; simp (disch := first | omega | assumption | rfl | (simp only [vcS] <;> omega) | fail) only [↓ptV_l, ↓vcA, vcB, ↓vcD, vcE, ↓reduceIte, Nat.reduceEqDiff, Nat.reduceAdd, Nat.reduceMul, Nat.reduceLeDiff, Int.reduceLE, Int.reduceLT, Int.reduceEq, Int.reduceToNat, Int.reduceAdd, Int.reduceSub, Int.reduceMul, Int.reduceNeg, reduceCtorEq, Option.bind_some, Option.map_some, List.length_cons, List.length_nil, vcM, List.getElem?_toArray, List.getElem?_cons_zero, List.getElem?_cons_succ, l1, l2'])
    (refine W_at c23_ok ?_; refine ⟨_, rfl, ?_⟩; simp (disch := first | omega | assumption | rfl | (simp only [vcS] <;> omega) | fail) only [↓ptV_l, ↓vcA, vcB, ↓vcD, vcE, ↓reduceIte, Nat.reduceEqDiff, Nat.reduceAdd, Nat.reduceMul, Nat.reduceLeDiff, Int.reduceLE, Int.reduceLT, Int.reduceEq, Int.reduceToNat, Int.reduceAdd, Int.reduceSub, Int.reduceMul, Int.reduceNeg, reduceCtorEq, Option.bind_some, Option.map_some, List.length_cons, List.length_nil, vcM, List.getElem?_toArray, List.getElem?_cons_zero, List.getElem?_cons_succ])
    (refine W_at c23_ok ?_; refine ⟨_, rfl, ?_⟩; simp (disch := first | omega | assumption | rfl | (simp only [vcS] <;> omega) | fail) only [↓ptV_l, ↓vcA, vcB, ↓vcD, vcE, ↓reduceIte, Nat.reduceEqDiff, Nat.reduceAdd, Nat.reduceMul, Nat.reduceLeDiff, Int.reduceLE, Int.reduceLT, Int.reduceEq, Int.reduceToNat, Int.reduceAdd, Int.reduceSub, Int.reduceMul, Int.reduceNeg, reduceCtorEq, Option.bind_some, Option.map_some, List.length_cons, List.length_nil, vcM, List.getElem?_toArray, List.getElem?_cons_zero, List.getElem?_cons_succ])
    refine rngV_map Try.underlying51 hr he.lt ?_
    intro w1 hE1 hI1 hsz
    rw [hes] at hI1
    first | (simp (disch := first | omega | assumption | rfl | (simp only [vcS] <;> omega) | fail) only [↓ptV_l, ↓vcA, vcB, ↓vcD, vcE, ↓reduceIte, Nat.reduceEqDiff, Nat.reduceAdd, Nat.reduceMul, Nat.reduceLeDiff, Int.reduceLE, Int.reduceLT, Int.reduceEq, Int.reduceToNat, Int.reduceAdd, Int.reduceSub, Int.reduceMul, Int.reduceNeg, reduceCtorEq, Option.bind_some, Option.map_some, List.length_cons, List.length_nil, vcM, List.getElem?_toArray, List.getElem?_cons_zero, List.getElem?_cons_succ]) | skip
    (refine W_at c23_ok ?_; refine ⟨_, rfl, ?_⟩; simp (disch := first | omega | assumption | rfl | (simp only [vcS] <;> omega) | fail) only [↓ptV_l, ↓vcA, vcB, ↓vcD, vcE, ↓reduceIte, Nat.reduceEqDiff, Nat.reduceAdd, Nat.reduceMul, Nat.reduceLeDiff, Int.reduceLE, Int.reduceLT, Int.reduceEq, Int.reduceToNat, Int.reduceAdd, Int.reduceSub, Int.reduceMul, Int.reduceNeg, reduceCtorEq, Option.bind_some, Option.map_some, List.length_cons, List.length_nil, vcM, List.getElem?_toArray, List.getElem?_cons_zero, List.getElem?_cons_succ])
    refine nxtV_map hI1 (fun _ => ?_) (fun x hx => by cases hx)
    first | (simp (disch := first | omega | assumption | rfl | (simp only [vcS] <;> omega) | fail) only [↓ptV_l, ↓vcA, vcB, ↓vcD, vcE, ↓reduceIte, Nat.reduceEqDiff, Nat.reduceAdd, Nat.reduceMul, Nat.reduceLeDiff, Int.reduceLE, Int.reduceLT, Int.reduceEq, Int.reduceToNat, Int.reduceAdd, Int.reduceSub, Int.reduceMul, Int.reduceNeg, reduceCtorEq, Option.bind_some, Option.map_some, List.length_cons, List.length_nil, vcM, List.getElem?_toArray, List.getElem?_cons_zero, List.getElem?_cons_succ]) | skip
    (refine W_at c23_ok ?_; refine ⟨_, rfl, ?_⟩; simp (disch := first | omega | assumption | rfl | (simp only [vcS] <;> omega) | fail) only [↓ptV_l, ↓vcA, vcB, ↓vcD, vcE, ↓reduceIte, Nat.reduceEqDiff, Nat.reduceAdd, Nat.reduceMul, Nat.reduceLeDiff, Int.reduceLE, Int.reduceLT, Int.reduceEq, Int.reduceToNat, Int.reduceAdd, Int.reduceSub, Int.reduceMul, Int.reduceNeg, reduceCtorEq, Option.bind_some, Option.map_some, List.length_cons, List.length_nil, vcM, List.getElem?_toArray, List.getElem?_cons_zero, List.getElem?_cons_succ])
    (refine W_at c23_ok ?_; refine ⟨_, rfl, ?_⟩; simp (disch := first | omega | assumption | rfl | (simp only [vcS] <;> omega) | fail) only [↓ptV_l, ↓vcA, vcB, ↓vcD, vcE, ↓reduceIte, Nat.reduceEqDiff, Nat.reduceAdd, Nat.reduceMul, Nat.reduceLeDiff, Int.reduceLE, Int.reduceLT, Int.reduceEq, Int.reduceToNat, Int.reduceAdd, Int.reduceSub, Int.reduceMul, Int.reduceNeg, reduceCtorEq, Option.bind_some, Option.map_some, List.length_cons, List.length_nil, vcM, List.getElem?_toArray, List.getElem?_cons_zero, List.getElem?_cons_succ])
    (refine W_at c23_ok ?_; refine ⟨_, rfl, ?_⟩; simp (disch := first | omega | assumption | rfl | (simp only [vcS] <;> omega) | fail) only [↓ptV_l, ↓vcA, vcB, ↓vcD, vcE, ↓reduceIte, Nat.reduceEqDiff, Nat.reduceAdd, Nat.reduceMul, Nat.reduceLeDiff, Int.reduceLE, Int.reduceLT, Int.reduceEq, Int.reduceToNat, Int.reduceAdd, Int.reduceSub, Int.reduceMul, Int.reduceNeg, reduceCtorEq, Option.bind_some, Option.map_some, List.length_cons, List.length_nil, vcM, List.getElem?_toArray, List.getElem?_cons_zero, List.getElem?_cons_succ, Ret_returned])
    exact hE1
  · have hq' : decide ((l.length : Int) = (l2.length : Nat)) = false := by rw [decide_eq_false]; omega
    rw [decide_eq_false hq]
    (refine W_at c23_ok ?_; refine ⟨_, rfl, ?_⟩; simp (disch := first | omega | assumption | rfl | (simp only [vcS] <;> omega) | fail) only [↓ptV_l, ↓vcA, vcB, ↓vcD, vcE, ↓reduceIte, Nat.reduceEqDiff, Nat.reduceAdd, Nat.reduceMul, Nat.reduceLeDiff, Int.reduceLE, Int.reduceLT, Int.reduceEq, Int.reduceToNat, Int.reduceAdd, Int.reduceSub, Int.reduceMul, Int.reduceNeg, reduceCtorEq, Option.bind_some, Option.map_some, List.length_cons, List.length_nil, vcM, List.getElem?_toArray, List.getElem?_cons_zero, List.getElem?_cons_succ, l1, l2', hq'])
    (refine W_at c23_ok ?_; refine ⟨_, rfl, ?_⟩; simp (disch := first | omega | assumption | rfl | (simp only [vcS] <;> omega) | fail) only [↓ptV_l, ↓vcA, vcB, ↓vcD, vcE, ↓reduceIte, Nat.reduceEqDiff, Nat.reduceAdd, Nat.reduceMul, Nat.reduceLeDiff, Int.reduceLE, Int.reduceLT, Int.reduceEq, Int.reduceToNat, Int.reduceAdd, Int.reduceSub, Int.reduceMul, Int.reduceNeg, reduceCtorEq, Option.bind_some, Option.map_some, List.length_cons, List.length_nil, vcM, List.getElem?_toArray, List.getElem?_cons_zero, List.getElem?_cons_succ])
    (refine W_at c23_ok ?_; refine ⟨_, rfl, ?_⟩; simp (disch := first | omega | assumption | rfl | (simp only [vcS] <;> omega) | fail) only [↓ptV_l, ↓vcA, vcB, ↓vcD, vcE, ↓reduceIte, Nat.reduceEqDiff, Nat.reduceAdd, Nat.reduceMul, Nat.reduceLeDiff, Int.reduceLE, Int.reduceLT, Int.reduceEq, Int.reduceToNat, Int.reduceAdd, Int.reduceSub, Int.reduceMul, Int.reduceNeg, reduceCtorEq, Option.bind_some, Option.map_some, List.length_cons, List.length_nil, vcM, List.getElem?_toArray, List.getElem?_cons_zero, List.getElem?_cons_succ])
    (refine W_at c23_ok ?_; refine ⟨_, rfl, ?_⟩; simp (disch := first | omega | assumption | rfl | (simp only [vcS] <;> omega) | fail) only [↓ptV_l, ↓vcA, vcB, ↓vcD, vcE, ↓reduceIte, Nat.reduceEqDiff, Nat.reduceAdd, Nat.reduceMul, Nat.reduceLeDiff, Int.reduceLE, Int.reduceLT, Int.reduceEq, Int.reduceToNat, Int.reduceAdd, Int.reduceSub, Int.reduceMul, Int.reduceNeg, reduceCtorEq, Option.bind_some, Option.map_some, List.length_cons, List.length_nil, vcM, List.getElem?_toArray, List.getElem?_cons_zero, List.getElem?_cons_succ, Ret_returned])
    exact Keep.refl _ w
/-- Of two maps: both empty, or of other lengths. -/
theorem equalS_ok (w : World) (r r2 : Nat) (l l2 : List KV) (h : MG layS false w r l) (h2 : MG layS false w r2 l2) (hl : l = [] ∨ l.length ≠ l2.length) :
    Calls Try.prog 24 #[.map (some r), .map (some r2)] w (Ret fun u w' => u = .bool (decide (l.length = l2.length)) ∧ Ext w w') := by
  refine calls_of_cfg c24_ok (Nat.le_of_ble_eq_true rfl) ?_
  simp only [argE_nil, argE_cons, Nat.reduceAdd, Nat.zero_add]
  have l1 := h.len
  have l2' := h2.len
  (refine W_at c24_ok ?_; refine ⟨_, rfl, ?_⟩; simp (disch := first | omega | assumption | rfl | (simp only [vcS] <;> omega) | fail) only [↓ptV_l, ↓vcA, vcB, ↓vcD, vcE, ↓reduceIte, Nat.reduceEqDiff, Nat.reduceAdd, Nat.reduceMul, Nat.reduceLeDiff, Int.reduceLE, Int.reduceLT, Int.reduceEq, Int.reduceToNat, Int.reduceAdd, Int.reduceSub, Int.reduceMul, Int.reduceNeg, reduceCtorEq, Option.bind_some, Option.map_some, List.length_cons, List.length_nil, vcM, List.getElem?_toArray, List.getElem?_cons_zero, List.getElem?_cons_succ])
  by_cases hq : l.length = l2.length
  · have hl0 : l = [] := by rcases hl with hl | hl; exact hl; exact absurd hq hl
    subst hl0
    obtain rfl : l2 = [] := List.eq_nil_of_length_eq_zero hq.symm
    obtain ⟨es, c, hr, he⟩ := h
    have hes : es.toList = [] := List.map_eq_nil_iff.1 he.eq
    rw [decide_eq_true hq]
    (refine W_at c24_ok ?_; refine ⟨_, rfl, ?_⟩; simp (disch := first | omega | assumption | rfl | (simp only [vcS] <;> omega) | fail) only [↓ptV_l, ↓vcA, vcB, ↓vcD, vcE, ↓reduceIte, Nat.reduceEqDiff, Nat.reduceAdd, Nat.reduceMul, Nat.reduceLeDiff, Int.reduceLE, Int.reduceLT, Int.reduceEq, Int.reduceToNat, Int.reduceAdd, Int.reduceSub, Int.reduceMul, Int.reduceNeg, reduceCtorEq, Option.bind_some, Option.map_some, List.length_cons, List.length_nil, vcM, List.getElem?_toArray, List.getElem?_cons_zero, List.getElem?_cons_succ, l1, l2'])
    (refine W_at c24_ok ?_; refine ⟨_, rfl, ?_⟩; simp (disch := first | omega | assumption | rfl | (simp only [vcS] <;> omega) | fail) only [↓ptV_l, ↓vcA, vcB, ↓vcD, vcE, ↓reduceIte, Nat.reduceEqDiff, Nat.reduceAdd, Nat.reduceMul, Nat.reduceLeDiff, Int.reduceLE, Int.reduceLT, Int.reduceEq, Int.reduceToNat, Int.reduceAdd, Int.reduceSub, Int.reduceMul, Int.reduceNeg, reduceCtorEq, Option.bind_some, Option.map_some, List.length_cons, List.length_nil, vcM, List.getElem?_toArray, List.getElem?_cons_zero, List.getElem?_cons_succ])
    (refine W_at c24_ok ?_; refine ⟨_, rfl, ?_⟩; simp (disch := first | omega | assumption | rfl | (simp only [vcS] <;> omega) | fail) only [↓ptV_l, ↓vcA, vcB, ↓vcD, vcE, ↓reduceIte, Nat.reduceEqDiff, Nat.reduceAdd, Nat.reduceMul, Nat.reduceLeDiff, Int.reduceLE, Int.reduceLT, Int.reduceEq, Int.reduceToNat, Int.reduceAdd, Int.reduceSub, Int.reduceMul, Int.reduceNeg, reduceCtorEq, Option.bind_some, Option.map_some, List.length_cons, List.length_nil, vcM, List.getElem?_toArray, List.getElem?_cons_zero, List.getElem?_cons_succ])
    refine rngV_map Try.underlying52 hr he.lt ?_
    intro w1 hE1 hI1 hsz
    rw [hes] at hI1
    first | (simp (disch := first | omega | assumption | rfl | (simp only [vcS] <;> omega) | fail) only [↓ptV_l, ↓vcA, vcB, ↓vcD, vcE, ↓reduceIte, Nat.reduceEqDiff, Nat.reduceAdd, Nat.reduceMul, Nat.reduceLeDiff, Int.reduceLE, Int.reduceLT, Int.reduceEq, Int.reduceToNat, Int.reduceAdd, Int.reduceSub, Int.reduceMul, Int.reduceNeg, reduceCtorEq, Option.bind_some, Option.map_some, List.length_cons, List.length_nil, vcM, List.getElem?_toArray, List.getElem?_cons_zero, List.getElem?_cons_succ]) | skip
    (refine W_at c24_ok ?_; refine ⟨_, rfl, ?_⟩; simp (disch := first | omega | assumption | rfl | (simp only [vcS] <;> omega) | fail) only [↓ptV_l, ↓vcA, vcB, ↓vcD, vcE, ↓reduceIte, Nat.reduceEqDiff, Nat.reduceAdd, Nat.reduceMul, Nat.reduceLeDiff, Int.reduceLE, Int.reduceLT, Int.reduceEq, Int.reduceToNat, Int.reduceAdd, Int.reduceSub, Int.reduceMul, Int.reduceNeg, reduceCtorEq, Option.bind_some, Option.map_some, List.length_cons, List.length_nil, vcM, List.getElem?_toArray, List.getElem?_cons_zero, List.getElem?_cons_succ])
    refine nxtV_map hI1 (fun _ => ?_) (fun x hx => by cases hx)
    first | (simp (disch := first | omega | assumption | rfl | (simp only [vcS] <;> omega) | fail) only [↓ptV_l, ↓vcA, vcB, ↓vcD, vcE, ↓reduceIte, Nat.reduceEqDiff, Nat.reduceAdd, Nat.reduceMul, Nat.reduceLeDiff, Int.reduceLE, Int.reduceLT, Int.reduceEq, Int.reduceToNat, Int.reduceAdd, Int.reduceSub, Int.reduceMul, Int.reduceNeg, reduceCtorEq, Option.bind_some, Option.map_some, List.length_cons, List.length_nil, vcM, List.getElem?_toArray, List.getElem?_cons_zero, List.getElem?_cons_succ]) | skip
    (refine W_at c24_ok ?_; refine ⟨_, rfl, ?_⟩; simp (disch := first | omega | assumption | rfl | (simp only [vcS] <;> omega) | fail) only [↓ptV_l, ↓vcA, vcB, ↓vcD, vcE, ↓reduceIte, Nat.reduceEqDiff, Nat.reduceAdd, Nat.reduceMul, Nat.reduceLeDiff, Int.reduceLE, Int.reduceLT, Int.reduceEq, Int.reduceToNat, Int.reduceAdd, Int.reduceSub, Int.reduceMul, Int.reduceNeg, reduceCtorEq, Option.bind_some, Option.map_some, List.length_cons, List.length_nil, vcM, List.getElem?_toArray, List.getElem?_cons_zero, List.getElem?_cons_succ])
    (refine W_at c24_ok ?_; refine ⟨_, rfl, ?_⟩; simp (disch := first | omega | assumption | rfl | (simp only [vcS] <;> omega) | fail) only [↓ptV_l, ↓vcA, vcB, ↓vcD, vcE, ↓reduceIte, Nat.reduceEqDiff, Nat.reduceAdd, Nat.reduceMul, Nat.reduceLeDiff, Int.reduceLE, Int.reduceLT, Int.reduceEq, Int.reduceToNat, Int.reduceAdd, Int.reduceSub, Int.reduceMul, Int.reduceNeg, reduceCtorEq, Option.bind_some, Option.map_some, List.length_cons, List.length_nil, vcM, List.getElem?_toArray, List.getElem?_cons_zero, List.getElem?_cons_succ])
    (refine W_at c24_ok ?_; refine ⟨_, rfl, ?_⟩; simp (disch := first | omega | assumption | rfl | (simp only [vcS] <;> omega) | fail) only [↓ptV_l, ↓vcA, vcB, ↓vcD, vcE, ↓reduceIte, Nat.reduceEqDiff, Nat.reduceAdd, Nat.reduceMul, Nat.reduceLeDiff, Int.reduceLE, Int.reduceLT, Int.reduceEq, Int.reduceToNat, Int.reduceAdd, Int.reduceSub, Int.reduceMul, Int.reduceNeg, reduceCtorEq, Option.bind_some, Option.map_some, List.length_cons, List.length_nil, vcM, List.getElem?_toArray, List.getElem?_cons_zero, List.getElem?_cons_succ, Ret_returned])
    exact hE1
  · have hq' : decide ((l.length : Int) = (l2.length : Nat)) = false := by rw [decide_eq_false]; omega
    rw [decide_eq_false hq]
    (refine W_at c24_ok ?_; refine ⟨_, rfl, ?_⟩; simp (disch := first | omega | assumption | rfl | (simp only [vcS] <;> omega) | fail) only [↓ptV_l, ↓vcA, vcB, ↓vcD, vcE, ↓reduceIte, Nat.reduceEqDiff, Nat.reduceAdd, Nat.reduceMul, Nat.reduceLeDiff, Int.reduceLE, Int.reduceLT, Int.reduceEq, Int.reduceToNat, Int.reduceAdd, Int.reduceSub, Int.reduceMul, Int.reduceNeg, reduceCtorEq, Option.bind_some, Option.map_some, List.length_cons, List.length_nil, vcM, List.getElem?_toArray, List.getElem?_cons_zero, List.getElem?_cons_succ, l1, l2', hq'])
    (refine W_at c24_ok ?_; refine ⟨_, rfl, ?_⟩; simp (disch := first | omega | assumption | rfl | (simp only [vcS] <;> omega) | fail) only [↓ptV_l, ↓vcA, vcB, ↓vcD, vcE, ↓reduceIte, Nat.reduceEqDiff, Nat.reduceAdd, Nat.reduceMul, Nat.reduceLeDiff, Int.reduceLE, Int.reduceLT, Int.reduceEq, Int.reduceToNat, Int.reduceAdd, Int.reduceSub, Int.reduceMul, Int.reduceNeg, reduceCtorEq, Option.bind_some, Option.map_some, List.length_cons, List.length_nil, vcM, List.getElem?_toArray, List.getElem?_cons_zero, List.getElem?_cons_succ])
    (refine W_at c24_ok ?_; refine ⟨_, rfl, ?_⟩; simp (disch := first | omega | assumption | rfl | (simp only [vcS] <;> omega) | fail) only [↓ptV_l, ↓vcA, vcB, ↓vcD, vcE, ↓reduceIte, Nat.reduceEqDiff, Nat.reduceAdd, Nat.reduceMul, Nat.reduceLeDiff, Int.reduceLE, Int.reduceLT, Int.reduceEq, Int.reduceToNat, Int.reduceAdd, Int.reduceSub, Int.reduceMul, Int.reduceNeg, reduceCtorEq, Option.bind_some, Option.map_some, List.length_cons, List.length_nil, vcM, List.getElem?_toArray, List.getElem?_cons_zero, List.getElem?_cons_succ])
    (refine W_at c24_ok ?_; refine ⟨_, rfl, ?_⟩; simp (disch := first | omega | assumption | rfl | (simp only [vcS] <;> omega) | fail) only [↓ptV_l, ↓vcA, vcB, ↓vcD, vcE, ↓reduceIte, Nat.reduceEqDiff, Nat.reduceAdd, Nat.reduceMul, Nat.reduceLeDiff, Int.reduceLE, Int.reduceLT, Int.reduceEq, Int.reduceToNat, Int.reduceAdd, Int.reduceSub, Int.reduceMul, Int.reduceNeg, reduceCtorEq, Option.bind_some, Option.map_some, List.length_cons, List.length_nil, vcM, List.getElem?_toArray, List.getElem?_cons_zero, List.getElem?_cons_succ, Ret_returned])
    exact Keep.refl _ w
theorem hclone_ok (w : World) (b0 : Nat) (v : Value) (cs : List (Array Value)) (h : OwnO w b0 24 32 v cs) (hfl : ∀ c ∈ cs, flat c) (hl : cs.length ≤ 100000) :
    Calls Try.prog 16 #[v] w (Ret fun u w' => OwnO w' w.heap.size 24 32 u cs ∧ Ext w w') := by
  refine calls_of_cfg c16_ok (Nat.le_of_ble_eq_true rfl) ?_
  simp only [argE_nil, argE_cons, Nat.reduceAdd, Nat.zero_add]
  have hr := h.rd
  have hsz := h.sz
  obtain ⟨q, c, rfl, hc⟩ := h.is
  (refine W_at c16_ok ?_; refine ⟨_, rfl, ?_⟩; simp (disch := first | omega | assumption | rfl | (simp only [vcS] <;> omega) | fail) only [↓ptV_l, ↓vcA, vcB, ↓vcD, vcE, ↓reduceIte, Nat.reduceEqDiff, Nat.reduceAdd, Nat.reduceMul, Nat.reduceLeDiff, Int.reduceLE, Int.reduceLT, Int.reduceEq, Int.reduceToNat, Int.reduceAdd, Int.reduceSub, Int.reduceMul, Int.reduceNeg, reduceCtorEq, Option.bind_some, Option.map_some, List.length_cons, List.length_nil, vcM, List.getElem?_toArray, List.getElem?_cons_zero, List.getElem?_cons_succ])
  cases q with
  | none =>
    have h0 : cs = [] := by
      by_cases h0 : cs.length = 0
      · exact List.eq_nil_of_length_eq_zero h0
      · simp only [rdS] at hr
        rw [if_neg (by omega)] at hr
        cases hr
    subst h0
    (refine W_at c16_ok ?_; refine ⟨_, rfl, ?_⟩; simp (disch := first | omega | assumption | rfl | (simp only [vcS] <;> omega) | fail) only [↓ptV_l, ↓vcA, vcB, ↓vcD, vcE, ↓reduceIte, Nat.reduceEqDiff, Nat.reduceAdd, Nat.reduceMul, Nat.reduceLeDiff, Int.reduceLE, Int.reduceLT, Int.reduceEq, Int.reduceToNat, Int.reduceAdd, Int.reduceSub, Int.reduceMul, Int.reduceNeg, reduceCtorEq, Option.bind_some, Option.map_some, List.length_cons, List.length_nil, vcM, List.getElem?_toArray, List.getElem?_cons_zero, List.getElem?_cons_succ, eqS_none])
    (refine W_at c16_ok ?_; refine ⟨_, rfl, ?_⟩; simp (disch := first | omega | assumption | rfl | (simp only [vcS] <;> omega) | fail) only [↓ptV_l, ↓vcA, vcB, ↓vcD, vcE, ↓reduceIte, Nat.reduceEqDiff, Nat.reduceAdd, Nat.reduceMul, Nat.reduceLeDiff, Int.reduceLE, Int.reduceLT, Int.reduceEq, Int.reduceToNat, Int.reduceAdd, Int.reduceSub, Int.reduceMul, Int.reduceNeg, reduceCtorEq, Option.bind_some, Option.map_some, List.length_cons, List.length_nil, vcM, List.getElem?_toArray, List.getElem?_cons_zero, List.getElem?_cons_succ])
    (refine W_at c16_ok ?_; refine ⟨_, rfl, ?_⟩; simp (disch := first | omega | assumption | rfl | (simp only [vcS] <;> omega) | fail) only [↓ptV_l, ↓vcA, vcB, ↓vcD, vcE, ↓reduceIte, Nat.reduceEqDiff, Nat.reduceAdd, Nat.reduceMul, Nat.reduceLeDiff, Int.reduceLE, Int.reduceLT, Int.reduceEq, Int.reduceToNat, Int.reduceAdd, Int.reduceSub, Int.reduceMul, Int.reduceNeg, reduceCtorEq, Option.bind_some, Option.map_some, List.length_cons, List.length_nil, vcM, List.getElem?_toArray, List.getElem?_cons_zero, List.getElem?_cons_succ])
    (refine W_at c16_ok ?_; refine ⟨_, rfl, ?_⟩; simp (disch := first | omega | assumption | rfl | (simp only [vcS] <;> omega) | fail) only [↓ptV_l, ↓vcA, vcB, ↓vcD, vcE, ↓reduceIte, Nat.reduceEqDiff, Nat.reduceAdd, Nat.reduceMul, Nat.reduceLeDiff, Int.reduceLE, Int.reduceLT, Int.reduceEq, Int.reduceToNat, Int.reduceAdd, Int.reduceSub, Int.reduceMul, Int.reduceNeg, reduceCtorEq, Option.bind_some, Option.map_some, List.length_cons, List.length_nil, vcM, List.getElem?_toArray, List.getElem?_cons_zero, List.getElem?_cons_succ, Ret_returned])
    exact ⟨OwnO.nil _ _ _ _, Keep.refl _ w⟩
  | some a =>
    (refine W_at c16_ok ?_; refine ⟨_, rfl, ?_⟩; simp (disch := first | omega | assumption | rfl | (simp only [vcS] <;> omega) | fail) only [↓ptV_l, ↓vcA, vcB, ↓vcD, vcE, ↓reduceIte, Nat.reduceEqDiff, Nat.reduceAdd, Nat.reduceMul, Nat.reduceLeDiff, Int.reduceLE, Int.reduceLT, Int.reduceEq, Int.reduceToNat, Int.reduceAdd, Int.reduceSub, Int.reduceMul, Int.reduceNeg, reduceCtorEq, Option.bind_some, Option.map_some, List.length_cons, List.length_nil, vcM, List.getElem?_toArray, List.getElem?_cons_zero, List.getElem?_cons_succ, eqS_sn])
    (refine W_at c16_ok ?_; refine ⟨_, rfl, ?_⟩; simp (disch := first | omega | assumption | rfl | (simp only [vcS] <;> omega) | fail) only [↓ptV_l, ↓vcA, vcB, ↓vcD, vcE, ↓reduceIte, Nat.reduceEqDiff, Nat.reduceAdd, Nat.reduceMul, Nat.reduceLeDiff, Int.reduceLE, Int.reduceLT, Int.reduceEq, Int.reduceToNat, Int.reduceAdd, Int.reduceSub, Int.reduceMul, Int.reduceNeg, reduceCtorEq, Option.bind_some, Option.map_some, List.length_cons, List.length_nil, vcM, List.getElem?_toArray, List.getElem?_cons_zero, List.getElem?_cons_succ])
    (refine W_at c16_ok ?_; refine ⟨_, rfl, ?_⟩; simp (disch := first | omega | assumption | rfl | (simp only [vcS] <;> omega) | fail) only [↓ptV_l, ↓vcA, vcB, ↓vcD, vcE, ↓reduceIte, Nat.reduceEqDiff, Nat.reduceAdd, Nat.reduceMul, Nat.reduceLeDiff, Int.reduceLE, Int.reduceLT, Int.reduceEq, Int.reduceToNat, Int.reduceAdd, Int.reduceSub, Int.reduceMul, Int.reduceNeg, reduceCtorEq, Option.bind_some, Option.map_some, List.length_cons, List.length_nil, vcM, List.getElem?_toArray, List.getElem?_cons_zero, List.getElem?_cons_succ])
    have hE : Ext w (w.alloc (.cells [].toArray 24)) := (Keep.refl _ w).alloc _
    have hO : OwnO (w.alloc (.cells [].toArray 24)) w.heap.size 24 32 (.slice (some ⟨w.heap.size, 0, none⟩) 0 0) [] :=
      ⟨fun _ h => (by cases h), .inr ⟨_, 0, 0, _, rfl, Nat.le_refl _, heap_new _ _ _ rfl, Nat.le_refl _, Nat.zero_le _, by simp, by simp⟩⟩
    refine appO4 (ids2 := cs) hO (rdS_keep hr hE fun _ _ h => h) rfl hsz hfl (by simp; omega) (by simp; omega) rfl hE.size (by decide) fun v' w' k1 k2 k3 => ?_
    rw [List.nil_append] at k1
    first | (simp (disch := first | omega | assumption | rfl | (simp only [vcS] <;> omega) | fail) only [↓ptV_l, ↓vcA, vcB, ↓vcD, vcE, ↓reduceIte, Nat.reduceEqDiff, Nat.reduceAdd, Nat.reduceMul, Nat.reduceLeDiff, Int.reduceLE, Int.reduceLT, Int.reduceEq, Int.reduceToNat, Int.reduceAdd, Int.reduceSub, Int.reduceMul, Int.reduceNeg, reduceCtorEq, Option.bind_some, Option.map_some, List.length_cons, List.length_nil, vcM, List.getElem?_toArray, List.getElem?_cons_zero, List.getElem?_cons_succ]) | skip
    (refine W_at c16_ok ?_; refine ⟨_, rfl, ?_⟩; simp (disch := first | omega | assumption | rfl | (simp only [vcS] <;> omega) | fail) only [↓ptV_l, ↓vcA, vcB, ↓vcD, vcE, ↓reduceIte, Nat.reduceEqDiff, Nat.reduceAdd, Nat.reduceMul, Nat.reduceLeDiff, Int.reduceLE, Int.reduceLT, Int.reduceEq, Int.reduceToNat, Int.reduceAdd, Int.reduceSub, Int.reduceMul, Int.reduceNeg, reduceCtorEq, Option.bind_some, Option.map_some, List.length_cons, List.length_nil, vcM, List.getElem?_toArray, List.getElem?_cons_zero, List.getElem?_cons_succ, Ret_returned])
    exact ⟨k1, hE.trans k2 fun i hi e => by have e' : w.heap.size = i := Option.some.inj e; omega⟩
theorem conf_u8' : ∀ (bs : List Int), conf (List.replicate bs.length (.i .u8)) (bv bs) = true
  | [] => rfl
  | b :: bs => by
    have := conf_u8' bs
    simp only [bv, List.length_cons, List.replicate_succ, List.map_cons, conf, SK.ok, decide_true, Bool.true_and] at this ⊢
    exact this
theorem conf32' {D : List Int} (h : D.length = 32) : conf (skR [(32, .i .u8)]) (bv D).toArray.toList = true := by
  have := conf_u8' D
  rw [h] at this
  simpa [skR] using this
/-- Names that are alike. -/
theorem hequal_ok (w : World) (b0 b1 : Nat) (v v2 : Value) (hs : List (List Int)) (h : OwnO w b0 24 32 v (hs.map fun b => (bv b).toArray)) (h2 : OwnO w b1 24 32 v2 (hs.map fun b => (bv b).toArray)) (hl : ∀ b ∈ hs, b.length = 32) (hn : hs.length ≤ 100000) :
    Calls Try.prog 20 #[v, v2] w (Ret fun u w' => u = .bool true ∧ Ext w w') := by
  refine calls_of_cfg c20_ok (Nat.le_of_ble_eq_true rfl) ?_
  simp only [argE_nil, argE_cons, Nat.reduceAdd, Nat.zero_add]
  have hx := h.len
  have hy := h2.len
  rw [List.length_map] at hx hy
  (refine W_at c20_ok ?_; refine ⟨_, rfl, ?_⟩; simp (disch := first | omega | assumption | rfl | (simp only [vcS] <;> omega) | fail) only [↓ptV_l, ↓vcA, vcB, ↓vcD, vcE, ↓reduceIte, Nat.reduceEqDiff, Nat.reduceAdd, Nat.reduceMul, Nat.reduceLeDiff, Int.reduceLE, Int.reduceLT, Int.reduceEq, Int.reduceToNat, Int.reduceAdd, Int.reduceSub, Int.reduceMul, Int.reduceNeg, reduceCtorEq, Option.bind_some, Option.map_some, List.length_cons, List.length_nil, vcM, List.getElem?_toArray, List.getElem?_cons_zero, List.getElem?_cons_succ])
  (refine W_at c20_ok ?_; refine ⟨_, rfl, ?_⟩; simp (disch := first | omega | assumption | rfl | (simp only [vcS] <;> omega) | fail) only [↓ptV_l, ↓vcA, vcB, ↓vcD, vcE, ↓reduceIte, Nat.reduceEqDiff, Nat.reduceAdd, Nat.reduceMul, Nat.reduceLeDiff, Int.reduceLE, Int.reduceLT, Int.reduceEq, Int.reduceToNat, Int.reduceAdd, Int.reduceSub, Int.reduceMul, Int.reduceNeg, reduceCtorEq, Option.bind_some, Option.map_some, List.length_cons, List.length_nil, vcM, List.getElem?_toArray, List.getElem?_cons_zero, List.getElem?_cons_succ, hx, hy])
  (refine W_at c20_ok ?_; refine ⟨_, rfl, ?_⟩; simp (disch := first | omega | assumption | rfl | (simp only [vcS] <;> omega) | fail) only [↓ptV_l, ↓vcA, vcB, ↓vcD, vcE, ↓reduceIte, Nat.reduceEqDiff, Nat.reduceAdd, Nat.reduceMul, Nat.reduceLeDiff, Int.reduceLE, Int.reduceLT, Int.reduceEq, Int.reduceToNat, Int.reduceAdd, Int.reduceSub, Int.reduceMul, Int.reduceNeg, reduceCtorEq, Option.bind_some, Option.map_some, List.length_cons, List.length_nil, vcM, List.getElem?_toArray, List.getElem?_cons_zero, List.getElem?_cons_succ])
  (refine W_at c20_ok ?_; refine ⟨_, rfl, ?_⟩; simp (disch := first | omega | assumption | rfl | (simp only [vcS] <;> omega) | fail) only [↓ptV_l, ↓vcA, vcB, ↓vcD, vcE, ↓reduceIte, Nat.reduceEqDiff, Nat.reduceAdd, Nat.reduceMul, Nat.reduceLeDiff, Int.reduceLE, Int.reduceLT, Int.reduceEq, Int.reduceToNat, Int.reduceAdd, Int.reduceSub, Int.reduceMul, Int.reduceNeg, reduceCtorEq, Option.bind_some, Option.map_some, List.length_cons, List.length_nil, vcM, List.getElem?_toArray, List.getElem?_cons_zero, List.getElem?_cons_succ, hx])
  have L : ∀ (k i : Nat) (wj : World) (tl : Env), i + k = hs.length → Ext w wj → W Try.prog (Ret fun u w' => u = .bool true ∧ Ext w w') 20 11 ((0, v) :: (1, v2) :: (12, .int .i64 (hs.length : Nat)) :: (13, .int .i64 (i : Nat)) :: tl) wj := by
    intro k
    induction k with
    | zero =>
      intro i wj tl hi hE
      obtain rfl : i = hs.length := by omega
      have hno : ¬ ((hs.length : Nat) : Int) < (hs.length : Nat) := by omega
      (refine W_at c20_ok ?_; refine ⟨_, rfl, ?_⟩; simp (disch := first | omega | assumption | rfl | (simp only [vcS] <;> omega) | fail) only [↓ptV_l, ↓vcA, vcB, ↓vcD, vcE, ↓reduceIte, Nat.reduceEqDiff, Nat.reduceAdd, Nat.reduceMul, Nat.reduceLeDiff, Int.reduceLE, Int.reduceLT, Int.reduceEq, Int.reduceToNat, Int.reduceAdd, Int.reduceSub, Int.reduceMul, Int.reduceNeg, reduceCtorEq, Option.bind_some, Option.map_some, List.length_cons, List.length_nil, vcM, List.getElem?_toArray, List.getElem?_cons_zero, List.getElem?_cons_succ, hno])
      (refine W_at c20_ok ?_; refine ⟨_, rfl, ?_⟩; simp (disch := first | omega | assumption | rfl | (simp only [vcS] <;> omega) | fail) only [↓ptV_l, ↓vcA, vcB, ↓vcD, vcE, ↓reduceIte, Nat.reduceEqDiff, Nat.reduceAdd, Nat.reduceMul, Nat.reduceLeDiff, Int.reduceLE, Int.reduceLT, Int.reduceEq, Int.reduceToNat, Int.reduceAdd, Int.reduceSub, Int.reduceMul, Int.reduceNeg, reduceCtorEq, Option.bind_some, Option.map_some, List.length_cons, List.length_nil, vcM, List.getElem?_toArray, List.getElem?_cons_zero, List.getElem?_cons_succ])
      (refine W_at c20_ok ?_; refine ⟨_, rfl, ?_⟩; simp (disch := first | omega | assumption | rfl | (simp only [vcS] <;> omega) | fail) only [↓ptV_l, ↓vcA, vcB, ↓vcD, vcE, ↓reduceIte, Nat.reduceEqDiff, Nat.reduceAdd, Nat.reduceMul, Nat.reduceLeDiff, Int.reduceLE, Int.reduceLT, Int.reduceEq, Int.reduceToNat, Int.reduceAdd, Int.reduceSub, Int.reduceMul, Int.reduceNeg, reduceCtorEq, Option.bind_some, Option.map_some, List.length_cons, List.length_nil, vcM, List.getElem?_toArray, List.getElem?_cons_zero, List.getElem?_cons_succ])
      (refine W_at c20_ok ?_; refine ⟨_, rfl, ?_⟩; simp (disch := first | omega | assumption | rfl | (simp only [vcS] <;> omega) | fail) only [↓ptV_l, ↓vcA, vcB, ↓vcD, vcE, ↓reduceIte, Nat.reduceEqDiff, Nat.reduceAdd, Nat.reduceMul, Nat.reduceLeDiff, Int.reduceLE, Int.reduceLT, Int.reduceEq, Int.reduceToNat, Int.reduceAdd, Int.reduceSub, Int.reduceMul, Int.reduceNeg, reduceCtorEq, Option.bind_some, Option.map_some, List.length_cons, List.length_nil, vcM, List.getElem?_toArray, List.getElem?_cons_zero, List.getElem?_cons_succ, Ret_returned])
      exact hE
    | succ k ih =>
      intro i wj tl hi hE
      have hil : i < hs.length := by omega
      have hlt : ((i : Nat) : Int) < (hs.length : Nat) := by omega
      have c1 : 0 ≤ ((i : Nat) : Int) ∧ ((i : Nat) : Int) < (hs.length : Nat) := by omega
      have hwi : IntKind.i64.wrap (((i : Nat) : Int) + 1) = ((i + 1 : Nat) : Int) := wrap_i64 (by omega) (by omega)
      obtain ⟨g, o, c, cur, ex, hg, hr⟩ := (h.ext hE).at (j := i) (by rw [List.length_map]; exact hil)
      obtain ⟨g2, o2, c2, cur2, ey, hg2, hr2⟩ := (h2.ext hE).at (j := i) (by rw [List.length_map]; exact hil)
      rw [List.length_map] at ex ey
      rw [List.getElem_map] at hr hr2
      have s32 : (bv hs[i]).toArray.size = 32 := by rw [bva_size, hl _ (List.getElem_mem hil)]
      have qe : eqAR true layH (.agg (bv hs[i]).toArray) (.agg (bv hs[i]).toArray) = some (.bool false) := by
        have hc : conf layH (bv hs[i]).toArray.toList = true := conf32' (hl _ (List.getElem_mem hil))
        rw [eqA_a, if_pos ⟨hc, hc⟩, eqc_self]; rfl
      have hEd : Ext wj wj.drew := (Keep.refl _ wj).drew
      have hrd := rdO_ext' hEd hr
      have hrd2 := rdO_ext' hEd hr2
      (refine W_at c20_ok ?_; refine ⟨_, rfl, ?_⟩; simp (disch := first | omega | assumption | rfl | (simp only [vcS] <;> omega) | fail) only [↓ptV_l, ↓vcA, vcB, ↓vcD, vcE, ↓reduceIte, Nat.reduceEqDiff, Nat.reduceAdd, Nat.reduceMul, Nat.reduceLeDiff, Int.reduceLE, Int.reduceLT, Int.reduceEq, Int.reduceToNat, Int.reduceAdd, Int.reduceSub, Int.reduceMul, Int.reduceNeg, reduceCtorEq, Option.bind_some, Option.map_some, List.length_cons, List.length_nil, vcM, List.getElem?_toArray, List.getElem?_cons_zero, List.getElem?_cons_succ, hlt])
      (refine W_at c20_ok ?_; refine ⟨_, rfl, ?_⟩; simp (disch := first | omega | assumption | rfl | (simp only [vcS] <;> omega) | fail) only [↓ptV_l, ↓vcA, vcB, ↓vcD, vcE, ↓reduceIte, Nat.reduceEqDiff, Nat.reduceAdd, Nat.reduceMul, Nat.reduceLeDiff, Int.reduceLE, Int.reduceLT, Int.reduceEq, Int.reduceToNat, Int.reduceAdd, Int.reduceSub, Int.reduceMul, Int.reduceNeg, reduceCtorEq, Option.bind_some, Option.map_some, List.length_cons, List.length_nil, vcM, List.getElem?_toArray, List.getElem?_cons_zero, List.getElem?_cons_succ])
      (refine W_at c20_ok ?_; refine ⟨_, rfl, ?_⟩; simp (disch := first | omega | assumption | rfl | (simp only [vcS] <;> omega) | fail) only [↓ptV_l, ↓vcA, vcB, ↓vcD, vcE, ↓reduceIte, Nat.reduceEqDiff, Nat.reduceAdd, Nat.reduceMul, Nat.reduceLeDiff, Int.reduceLE, Int.reduceLT, Int.reduceEq, Int.reduceToNat, Int.reduceAdd, Int.reduceSub, Int.reduceMul, Int.reduceNeg, reduceCtorEq, Option.bind_some, Option.map_some, List.length_cons, List.length_nil, vcM, List.getElem?_toArray, List.getElem?_cons_zero, List.getElem?_cons_succ])
      (refine W_at c20_ok ?_; refine ⟨_, rfl, ?_⟩; simp (disch := first | omega | assumption | rfl | (simp only [vcS] <;> omega) | fail) only [↓ptV_l, ↓vcA, vcB, ↓vcD, vcE, ↓reduceIte, Nat.reduceEqDiff, Nat.reduceAdd, Nat.reduceMul, Nat.reduceLeDiff, Int.reduceLE, Int.reduceLT, Int.reduceEq, Int.reduceToNat, Int.reduceAdd, Int.reduceSub, Int.reduceMul, Int.reduceNeg, reduceCtorEq, Option.bind_some, Option.map_some, List.length_cons, List.length_nil, vcM, List.getElem?_toArray, List.getElem?_cons_zero, List.getElem?_cons_succ, ex, ey, c1, Int.toNat_natCast, hr, hr2, hrd, hrd2, qe])
      (refine W_at c20_ok ?_; refine ⟨_, rfl, ?_⟩; simp (disch := first | omega | assumption | rfl | (simp only [vcS] <;> omega) | fail) only [↓ptV_l, ↓vcA, vcB, ↓vcD, vcE, ↓reduceIte, Nat.reduceEqDiff, Nat.reduceAdd, Nat.reduceMul, Nat.reduceLeDiff, Int.reduceLE, Int.reduceLT, Int.reduceEq, Int.reduceToNat, Int.reduceAdd, Int.reduceSub, Int.reduceMul, Int.reduceNeg, reduceCtorEq, Option.bind_some, Option.map_some, List.length_cons, List.length_nil, vcM, List.getElem?_toArray, List.getElem?_cons_zero, List.getElem?_cons_succ])
      (refine W_at c20_ok ?_; refine ⟨_, rfl, ?_⟩; simp (disch := first | omega | assumption | rfl | (simp only [vcS] <;> omega) | fail) only [↓ptV_l, ↓vcA, vcB, ↓vcD, vcE, ↓reduceIte, Nat.reduceEqDiff, Nat.reduceAdd, Nat.reduceMul, Nat.reduceLeDiff, Int.reduceLE, Int.reduceLT, Int.reduceEq, Int.reduceToNat, Int.reduceAdd, Int.reduceSub, Int.reduceMul, Int.reduceNeg, reduceCtorEq, Option.bind_some, Option.map_some, List.length_cons, List.length_nil, vcM, List.getElem?_toArray, List.getElem?_cons_zero, List.getElem?_cons_succ, hwi])
      (refine W_at c20_ok ?_; refine ⟨_, rfl, ?_⟩; simp (disch := first | omega | assumption | rfl | (simp only [vcS] <;> omega) | fail) only [↓ptV_l, ↓vcA, vcB, ↓vcD, vcE, ↓reduceIte, Nat.reduceEqDiff, Nat.reduceAdd, Nat.reduceMul, Nat.reduceLeDiff, Int.reduceLE, Int.reduceLT, Int.reduceEq, Int.reduceToNat, Int.reduceAdd, Int.reduceSub, Int.reduceMul, Int.reduceNeg, reduceCtorEq, Option.bind_some, Option.map_some, List.length_cons, List.length_nil, vcM, List.getElem?_toArray, List.getElem?_cons_zero, List.getElem?_cons_succ])
      rw [← ex, ← ey]
      exact ih (i + 1) _ _ (by omega) (hE.ext hEd)
  exact L hs.length 0 w _ (by omega) (Keep.refl _ w)
end Go.Proofs
namespace Go.Proofs
open Go.Vc
set_option maxRecDepth 10000

/-- A record that isn't abandoned, under its name. -/
structure RecV (p : KV) : Prop where
  key : ∃ K, p.1 = .agg (bv K).toArray ∧ K.length = 32
  val : ∃ R, p.2 = .agg R ∧ R.size = 37 ∧ flat R ∧ R[36]? = some (.bool false)
theorem kokH {K : List Int} (hl : K.length = 32) : kOK layH true (.agg (bv K).toArray) = true := by
  have := conf32' hl
  simpa [kOK] using this
/-- Two blocks, each written whole. -/
theorem put_two (w : World) {T1 T2 : TypeId} {z1 z2 c1 c2 : Array Value} (h1 : c1.size = z1.size) (h2 : c2.size = z2.size) :
    Ext w ((((w.alloc (.cells z1 T1)).alloc (.cells z2 T2)).putN w.heap.size 0 c1).putN (w.heap.size + 1) 0 c2) ∧
    ((((w.alloc (.cells z1 T1)).alloc (.cells z2 T2)).putN w.heap.size 0 c1).putN (w.heap.size + 1) 0 c2).heap[w.heap.size]? = some (.cells c1 T1 (0, 0)) ∧
    ((((w.alloc (.cells z1 T1)).alloc (.cells z2 T2)).putN w.heap.size 0 c1).putN (w.heap.size + 1) 0 c2).heap[w.heap.size + 1]? = some (.cells c2 T2 (0, 0)) := by
  refine ⟨?_, ?_, ?_⟩
  · exact ((((Keep.refl _ w).alloc _).alloc _).putN _ (by intro hh; exfalso; omega)).putN _ (by intro hh; exfalso; omega)
  · rw [heap_putN_ne _ _ _ _ _ (by omega), heap_putN_eq (by rw [heap_old _ _ _ (by rw [size_alloc]; omega)]; exact heap_new _ _ _ rfl), splice_all (by rw [h1])]
  · rw [heap_putN_eq (by rw [heap_putN_ne _ _ _ _ _ (by omega)]; exact heap_new _ _ _ (by rw [size_alloc])), splice_all (by rw [h2])]
set_option maxHeartbeats 1600000 in
theorem same1_ok (w : World) (R R2 : Array Value) (h1 : R.size = 37) (h2 : R2.size = 37) (f1 : flat R) (f2 : flat R2) (e1 : R[36]? = some (.bool false)) (e2 : R2[36]? = some (.bool false)) :
    Calls Try.prog 22 #[.agg R, .agg R2] w (Ret fun u w' => u = .bool true ∧ Ext w w') := by
  refine calls_of_cfg c22_ok (Nat.le_of_ble_eq_true rfl) ?_
  simp only [argE_nil, argE_cons, Nat.reduceAdd, Nat.zero_add]
  have hc1 : (Value.agg R).cells = R := rfl
  have hc2 : (Value.agg R2).cells = R2 := rfl
  (refine W_at c22_ok ?_; refine ⟨_, rfl, ?_⟩; simp (disch := first | omega | assumption | rfl | (simp only [vcS] <;> omega) | fail) only [↓ptV_l, ↓vcA, vcB, ↓vcD, vcE, ↓reduceIte, Nat.reduceEqDiff, Nat.reduceAdd, Nat.reduceMul, Nat.reduceLeDiff, Int.reduceLE, Int.reduceLT, Int.reduceEq, Int.reduceToNat, Int.reduceAdd, Int.reduceSub, Int.reduceMul, Int.reduceNeg, reduceCtorEq, Option.bind_some, Option.map_some, List.length_cons, List.length_nil, vcM, List.getElem?_toArray, List.getElem?_cons_zero, List.getElem?_cons_succ, f1, f2, hc1, hc2, h1, h2])
  have hE1 : Ext w (w.alloc (.cells R 58)) := (Keep.refl _ w).alloc _
  have c1 : (w.alloc (.cells R 58)).heap[w.heap.size]? = some (.cells R 58 (0, 0)) := heap_new _ _ _ rfl
  have s1 : (w.alloc (.cells R 58)).heap.size = w.heap.size + 1 := size_alloc _ _
  generalize World.alloc w _ = w1 at hE1 c1 s1 ⊢
  have hE2 : Ext w1 (w1.alloc (.cells R2 58)) := (Keep.refl _ w1).alloc _
  have c2 : (w1.alloc (.cells R2 58)).heap[w.heap.size + 1]? = some (.cells R2 58 (0, 0)) := heap_new _ _ _ s1.symm
  generalize World.alloc w1 _ = w2 at hE2 c2 ⊢
  have c12 := hE2.at c1 (fun h => h)
  have hEd : Ext w2 w2.drew := (Keep.refl _ w2).drew
  have c12d := hEd.at c12 (fun h => h)
  have c2d := hEd.at c2 (fun h => h)
  (refine W_at c22_ok ?_; refine ⟨_, rfl, ?_⟩; simp (disch := first | omega | assumption | rfl | (simp only [vcS] <;> omega) | fail) only [↓ptV_l, ↓vcA, vcB, ↓vcD, vcE, ↓reduceIte, Nat.reduceEqDiff, Nat.reduceAdd, Nat.reduceMul, Nat.reduceLeDiff, Int.reduceLE, Int.reduceLT, Int.reduceEq, Int.reduceToNat, Int.reduceAdd, Int.reduceSub, Int.reduceMul, Int.reduceNeg, reduceCtorEq, Option.bind_some, Option.map_some, List.length_cons, List.length_nil, vcM, List.getElem?_toArray, List.getElem?_cons_zero, List.getElem?_cons_succ, c12, c2, c12d, c2d, e1, e2])
  first | ((refine W_at c22_ok ?_; refine ⟨_, rfl, ?_⟩; simp (disch := first | omega | assumption | rfl | (simp only [vcS] <;> omega) | fail) only [↓ptV_l, ↓vcA, vcB, ↓vcD, vcE, ↓reduceIte, Nat.reduceEqDiff, Nat.reduceAdd, Nat.reduceMul, Nat.reduceLeDiff, Int.reduceLE, Int.reduceLT, Int.reduceEq, Int.reduceToNat, Int.reduceAdd, Int.reduceSub, Int.reduceMul, Int.reduceNeg, reduceCtorEq, Option.bind_some, Option.map_some, List.length_cons, List.length_nil, vcM, List.getElem?_toArray, List.getElem?_cons_zero, List.getElem?_cons_succ, Ret_returned])) | skip
  first | exact ⟨rfl, hE1.ext hE2⟩ | exact ⟨rfl, (hE1.ext hE2).ext hEd⟩
set_option maxHeartbeats 3200000 in
theorem equalF_ok (w : World) (r r2 : Nat) (l : List KV) (h : MG layH true w r l) (h2 : MG layH true w r2 l) (hg : ∀ p ∈ l, RecV p) :
    Calls Try.prog 21 #[.map (some r), .map (some r2), .func (.func 22) #[] #[]] w (Ret fun u w' => u = .bool true ∧ Ext w w') := by
  refine calls_of_cfg c21_ok (Nat.le_of_ble_eq_true rfl) ?_
  simp only [argE_nil, argE_cons, Nat.reduceAdd, Nat.zero_add]
  have l1 := h.len
  have l2 := h2.len
  obtain ⟨es, c, hr, he⟩ := h
  (refine W_at c21_ok ?_; refine ⟨_, rfl, ?_⟩; simp (disch := first | omega | assumption | rfl | (simp only [vcS] <;> omega) | fail) only [↓ptV_l, ↓vcA, vcB, ↓vcD, vcE, ↓reduceIte, Nat.reduceEqDiff, Nat.reduceAdd, Nat.reduceMul, Nat.reduceLeDiff, Int.reduceLE, Int.reduceLT, Int.reduceEq, Int.reduceToNat, Int.reduceAdd, Int.reduceSub, Int.reduceMul, Int.reduceNeg, reduceCtorEq, Option.bind_some, Option.map_some, List.length_cons, List.length_nil, vcM, List.getElem?_toArray, List.getElem?_cons_zero, List.getElem?_cons_succ])
  (refine W_at c21_ok ?_; refine ⟨_, rfl, ?_⟩; simp (disch := first | omega | assumption | rfl | (simp only [vcS] <;> omega) | fail) only [↓ptV_l, ↓vcA, vcB, ↓vcD, vcE, ↓reduceIte, Nat.reduceEqDiff, Nat.reduceAdd, Nat.reduceMul, Nat.reduceLeDiff, Int.reduceLE, Int.reduceLT, Int.reduceEq, Int.reduceToNat, Int.reduceAdd, Int.reduceSub, Int.reduceMul, Int.reduceNeg, reduceCtorEq, Option.bind_some, Option.map_some, List.length_cons, List.length_nil, vcM, List.getElem?_toArray, List.getElem?_cons_zero, List.getElem?_cons_succ, l1, l2])
  (refine W_at c21_ok ?_; refine ⟨_, rfl, ?_⟩; simp (disch := first | omega | assumption | rfl | (simp only [vcS] <;> omega) | fail) only [↓ptV_l, ↓vcA, vcB, ↓vcD, vcE, ↓reduceIte, Nat.reduceEqDiff, Nat.reduceAdd, Nat.reduceMul, Nat.reduceLeDiff, Int.reduceLE, Int.reduceLT, Int.reduceEq, Int.reduceToNat, Int.reduceAdd, Int.reduceSub, Int.reduceMul, Int.reduceNeg, reduceCtorEq, Option.bind_some, Option.map_some, List.length_cons, List.length_nil, vcM, List.getElem?_toArray, List.getElem?_cons_zero, List.getElem?_cons_succ])
  (refine W_at c21_ok ?_; refine ⟨_, rfl, ?_⟩; simp (disch := first | omega | assumption | rfl | (simp only [vcS] <;> omega) | fail) only [↓ptV_l, ↓vcA, vcB, ↓vcD, vcE, ↓reduceIte, Nat.reduceEqDiff, Nat.reduceAdd, Nat.reduceMul, Nat.reduceLeDiff, Int.reduceLE, Int.reduceLT, Int.reduceEq, Int.reduceToNat, Int.reduceAdd, Int.reduceSub, Int.reduceMul, Int.reduceNeg, reduceCtorEq, Option.bind_some, Option.map_some, List.length_cons, List.length_nil, vcM, List.getElem?_toArray, List.getElem?_cons_zero, List.getElem?_cons_succ])
  refine rngV_map Try.underlying50 hr he.lt ?_
  intro w1 hE1 hI1 hsz
  have hrw : r < w.heap.size := lt_of_heap hr
  first | (simp (disch := first | omega | assumption | rfl | (simp only [vcS] <;> omega) | fail) only [↓ptV_l, ↓vcA, vcB, ↓vcD, vcE, ↓reduceIte, Nat.reduceEqDiff, Nat.reduceAdd, Nat.reduceMul, Nat.reduceLeDiff, Int.reduceLE, Int.reduceLT, Int.reduceEq, Int.reduceToNat, Int.reduceAdd, Int.reduceSub, Int.reduceMul, Int.reduceNeg, reduceCtorEq, Option.bind_some, Option.map_some, List.length_cons, List.length_nil, vcM, List.getElem?_toArray, List.getElem?_cons_zero, List.getElem?_cons_succ]) | skip
  have hmem : ∀ x ∈ es.toList, (x.key, x.val) ∈ l := fun x hx => by
    rw [← he.eq]; exact List.mem_map.2 ⟨x, hx, rfl⟩
  generalize hit : w.heap.size = it at hI1 hsz ⊢
  have L : ∀ (n : Nat) (left : List MapEntry) (wj : World) (tl : Env), left.length ≤ n → Ext w wj → ItAt wj it r es c left →
      W Try.prog (Ret fun u w' => u = .bool true ∧ Ext w w') 21 11 ((1, .map (some r2)) :: (2, .func (.func 22) #[] #[]) :: (17, .pointer (some ⟨it, 0, none⟩)) :: tl) wj := by
    intro n
    induction n with
    | zero =>
      intro left wj tl hn hE hI
      have hl0 : left = [] := List.eq_nil_of_length_eq_zero (Nat.le_zero.1 hn)
      subst hl0
      (refine W_at c21_ok ?_; refine ⟨_, rfl, ?_⟩; simp (disch := first | omega | assumption | rfl | (simp only [vcS] <;> omega) | fail) only [↓ptV_l, ↓vcA, vcB, ↓vcD, vcE, ↓reduceIte, Nat.reduceEqDiff, Nat.reduceAdd, Nat.reduceMul, Nat.reduceLeDiff, Int.reduceLE, Int.reduceLT, Int.reduceEq, Int.reduceToNat, Int.reduceAdd, Int.reduceSub, Int.reduceMul, Int.reduceNeg, reduceCtorEq, Option.bind_some, Option.map_some, List.length_cons, List.length_nil, vcM, List.getElem?_toArray, List.getElem?_cons_zero, List.getElem?_cons_succ])
      refine nxtV_map hI (fun _ => ?_) (fun x hx => by cases hx)
      first | (simp (disch := first | omega | assumption | rfl | (simp only [vcS] <;> omega) | fail) only [↓ptV_l, ↓vcA, vcB, ↓vcD, vcE, ↓reduceIte, Nat.reduceEqDiff, Nat.reduceAdd, Nat.reduceMul, Nat.reduceLeDiff, Int.reduceLE, Int.reduceLT, Int.reduceEq, Int.reduceToNat, Int.reduceAdd, Int.reduceSub, Int.reduceMul, Int.reduceNeg, reduceCtorEq, Option.bind_some, Option.map_some, List.length_cons, List.length_nil, vcM, List.getElem?_toArray, List.getElem?_cons_zero, List.getElem?_cons_succ]) | skip
      (refine W_at c21_ok ?_; refine ⟨_, rfl, ?_⟩; simp (disch := first | omega | assumption | rfl | (simp only [vcS] <;> omega) | fail) only [↓ptV_l, ↓vcA, vcB, ↓vcD, vcE, ↓reduceIte, Nat.reduceEqDiff, Nat.reduceAdd, Nat.reduceMul, Nat.reduceLeDiff, Int.reduceLE, Int.reduceLT, Int.reduceEq, Int.reduceToNat, Int.reduceAdd, Int.reduceSub, Int.reduceMul, Int.reduceNeg, reduceCtorEq, Option.bind_some, Option.map_some, List.length_cons, List.length_nil, vcM, List.getElem?_toArray, List.getElem?_cons_zero, List.getElem?_cons_succ])
      (refine W_at c21_ok ?_; refine ⟨_, rfl, ?_⟩; simp (disch := first | omega | assumption | rfl | (simp only [vcS] <;> omega) | fail) only [↓ptV_l, ↓vcA, vcB, ↓vcD, vcE, ↓reduceIte, Nat.reduceEqDiff, Nat.reduceAdd, Nat.reduceMul, Nat.reduceLeDiff, Int.reduceLE, Int.reduceLT, Int.reduceEq, Int.reduceToNat, Int.reduceAdd, Int.reduceSub, Int.reduceMul, Int.reduceNeg, reduceCtorEq, Option.bind_some, Option.map_some, List.length_cons, List.length_nil, vcM, List.getElem?_toArray, List.getElem?_cons_zero, List.getElem?_cons_succ])
      (refine W_at c21_ok ?_; refine ⟨_, rfl, ?_⟩; simp (disch := first | omega | assumption | rfl | (simp only [vcS] <;> omega) | fail) only [↓ptV_l, ↓vcA, vcB, ↓vcD, vcE, ↓reduceIte, Nat.reduceEqDiff, Nat.reduceAdd, Nat.reduceMul, Nat.reduceLeDiff, Int.reduceLE, Int.reduceLT, Int.reduceEq, Int.reduceToNat, Int.reduceAdd, Int.reduceSub, Int.reduceMul, Int.reduceNeg, reduceCtorEq, Option.bind_some, Option.map_some, List.length_cons, List.length_nil, vcM, List.getElem?_toArray, List.getElem?_cons_zero, List.getElem?_cons_succ, Ret_returned])
      exact hE
    | succ n ih =>
      intro left wj tl hn hE hI
      (refine W_at c21_ok ?_; refine ⟨_, rfl, ?_⟩; simp (disch := first | omega | assumption | rfl | (simp only [vcS] <;> omega) | fail) only [↓ptV_l, ↓vcA, vcB, ↓vcD, vcE, ↓reduceIte, Nat.reduceEqDiff, Nat.reduceAdd, Nat.reduceMul, Nat.reduceLeDiff, Int.reduceLE, Int.reduceLT, Int.reduceEq, Int.reduceToNat, Int.reduceAdd, Int.reduceSub, Int.reduceMul, Int.reduceNeg, reduceCtorEq, Option.bind_some, Option.map_some, List.length_cons, List.length_nil, vcM, List.getElem?_toArray, List.getElem?_cons_zero, List.getElem?_cons_succ])
      refine nxtV_map hI (fun hl0 => ?_) (fun x hx w2 k2 hs2' hC hI2 => ?_)
      · first | (simp (disch := first | omega | assumption | rfl | (simp only [vcS] <;> omega) | fail) only [↓ptV_l, ↓vcA, vcB, ↓vcD, vcE, ↓reduceIte, Nat.reduceEqDiff, Nat.reduceAdd, Nat.reduceMul, Nat.reduceLeDiff, Int.reduceLE, Int.reduceLT, Int.reduceEq, Int.reduceToNat, Int.reduceAdd, Int.reduceSub, Int.reduceMul, Int.reduceNeg, reduceCtorEq, Option.bind_some, Option.map_some, List.length_cons, List.length_nil, vcM, List.getElem?_toArray, List.getElem?_cons_zero, List.getElem?_cons_succ]) | skip
        (refine W_at c21_ok ?_; refine ⟨_, rfl, ?_⟩; simp (disch := first | omega | assumption | rfl | (simp only [vcS] <;> omega) | fail) only [↓ptV_l, ↓vcA, vcB, ↓vcD, vcE, ↓reduceIte, Nat.reduceEqDiff, Nat.reduceAdd, Nat.reduceMul, Nat.reduceLeDiff, Int.reduceLE, Int.reduceLT, Int.reduceEq, Int.reduceToNat, Int.reduceAdd, Int.reduceSub, Int.reduceMul, Int.reduceNeg, reduceCtorEq, Option.bind_some, Option.map_some, List.length_cons, List.length_nil, vcM, List.getElem?_toArray, List.getElem?_cons_zero, List.getElem?_cons_succ])
        (refine W_at c21_ok ?_; refine ⟨_, rfl, ?_⟩; simp (disch := first | omega | assumption | rfl | (simp only [vcS] <;> omega) | fail) only [↓ptV_l, ↓vcA, vcB, ↓vcD, vcE, ↓reduceIte, Nat.reduceEqDiff, Nat.reduceAdd, Nat.reduceMul, Nat.reduceLeDiff, Int.reduceLE, Int.reduceLT, Int.reduceEq, Int.reduceToNat, Int.reduceAdd, Int.reduceSub, Int.reduceMul, Int.reduceNeg, reduceCtorEq, Option.bind_some, Option.map_some, List.length_cons, List.length_nil, vcM, List.getElem?_toArray, List.getElem?_cons_zero, List.getElem?_cons_succ])
        (refine W_at c21_ok ?_; refine ⟨_, rfl, ?_⟩; simp (disch := first | omega | assumption | rfl | (simp only [vcS] <;> omega) | fail) only [↓ptV_l, ↓vcA, vcB, ↓vcD, vcE, ↓reduceIte, Nat.reduceEqDiff, Nat.reduceAdd, Nat.reduceMul, Nat.reduceLeDiff, Int.reduceLE, Int.reduceLT, Int.reduceEq, Int.reduceToNat, Int.reduceAdd, Int.reduceSub, Int.reduceMul, Int.reduceNeg, reduceCtorEq, Option.bind_some, Option.map_some, List.length_cons, List.length_nil, vcM, List.getElem?_toArray, List.getElem?_cons_zero, List.getElem?_cons_succ, Ret_returned])
        exact hE
      · first | (simp (disch := first | omega | assumption | rfl | (simp only [vcS] <;> omega) | fail) only [↓ptV_l, ↓vcA, vcB, ↓vcD, vcE, ↓reduceIte, Nat.reduceEqDiff, Nat.reduceAdd, Nat.reduceMul, Nat.reduceLeDiff, Int.reduceLE, Int.reduceLT, Int.reduceEq, Int.reduceToNat, Int.reduceAdd, Int.reduceSub, Int.reduceMul, Int.reduceNeg, reduceCtorEq, Option.bind_some, Option.map_some, List.length_cons, List.length_nil, vcM, List.getElem?_toArray, List.getElem?_cons_zero, List.getElem?_cons_succ]) | skip
        have hE2 : Ext w w2 := hE.trans k2 fun i hi e => by omega
        have hxl := hmem x hC.mem
        have hrv := hg _ hxl
        obtain ⟨K, hK, hKl⟩ := hrv.key
        obtain ⟨R, hR, hRs, hRf, hRe⟩ := hrv.val
        have hK' : x.key = .agg (bv K).toArray := hK
        have hR' : x.val = .agg R := hR
        have hks : (bv K).toArray.size = 32 := by rw [bva_size, hKl]
        (refine W_at c21_ok ?_; refine ⟨_, rfl, ?_⟩; simp (disch := first | omega | assumption | rfl | (simp only [vcS] <;> omega) | fail) only [↓ptV_l, ↓vcA, vcB, ↓vcD, vcE, ↓reduceIte, Nat.reduceEqDiff, Nat.reduceAdd, Nat.reduceMul, Nat.reduceLeDiff, Int.reduceLE, Int.reduceLT, Int.reduceEq, Int.reduceToNat, Int.reduceAdd, Int.reduceSub, Int.reduceMul, Int.reduceNeg, reduceCtorEq, Option.bind_some, Option.map_some, List.length_cons, List.length_nil, vcM, List.getElem?_toArray, List.getElem?_cons_zero, List.getElem?_cons_succ])
        (refine W_at c21_ok ?_; refine ⟨_, rfl, ?_⟩; simp (disch := first | omega | assumption | rfl | (simp only [vcS] <;> omega) | fail) only [↓ptV_l, ↓vcA, vcB, ↓vcD, vcE, ↓reduceIte, Nat.reduceEqDiff, Nat.reduceAdd, Nat.reduceMul, Nat.reduceLeDiff, Int.reduceLE, Int.reduceLT, Int.reduceEq, Int.reduceToNat, Int.reduceAdd, Int.reduceSub, Int.reduceMul, Int.reduceNeg, reduceCtorEq, Option.bind_some, Option.map_some, List.length_cons, List.length_nil, vcM, List.getElem?_toArray, List.getElem?_cons_zero, List.getElem?_cons_succ])
        refine entV_of hC he.ne ?_
        rw [hK', hR']
        simp (disch := first | omega | assumption | rfl | (simp only [vcS] <;> omega) | fail) only [↓ptV_l, ↓vcA, vcB, ↓vcD, vcE, ↓reduceIte, Nat.reduceEqDiff, Nat.reduceAdd, Nat.reduceMul, Nat.reduceLeDiff, Int.reduceLE, Int.reduceLT, Int.reduceEq, Int.reduceToNat, Int.reduceAdd, Int.reduceSub, Int.reduceMul, Int.reduceNeg, reduceCtorEq, Option.bind_some, Option.map_some, List.length_cons, List.length_nil, vcM, List.getElem?_toArray, List.getElem?_cons_zero, List.getElem?_cons_succ, hks, hRs]
        have hzk : (zc [(32, Value.int .u8 0)]).size = 32 := rfl
        have hzr : (zc [(1, Value.int .i32 0), (2, .slice none 0 0), (1, .int .u32 0), (32, .int .u8 0), (1, .bool false)]).size = 37 := rfl
        refine ⟨bv_flat _, hRf, by decide, ?_⟩
        obtain ⟨hE3, hp7, hp8⟩ := put_two w2 (T1 := 24) (T2 := 58) (hks.trans hzk.symm) (hRs.trans hzr.symm)
        generalize World.putN _ _ _ _ = w3 at hE3 hp7 hp8 ⊢
        have hitl : it < w2.heap.size := hI2.lt
        generalize w2.heap.size + 1 = p8 at hp8 ⊢
        generalize w2.heap.size = p7 at hp7 hitl ⊢
        have hI3 := hI2.keep hE3 (fun h => h) (fun h => h)
        have hm3 := h2.ext (hE2.ext hE3)
        obtain ⟨v2, hv2⟩ := getG_some (k := .agg (bv K).toArray) ⟨_, hxl, hK⟩
        obtain ⟨R2, hR2, hRs2, hRf2, hRe2⟩ := (hg _ (getG_mem hv2)).val
        simp only at hR2
        subst hR2
        have hlk : ∀ z, lkpR layH true z true w3 (.map (some r2)) (.agg (bv K).toArray) = some (.tuple #[.agg R2, .bool true]) := fun z => by
          rw [hm3.lkp z (kokH hKl) true, hv2]; rfl
        have hr7 : rdO (some (.cells (bv K).toArray 24 (0, 0))) 0 32 = some (bv K).toArray := rdO_all _ _ _ _ hks
        have hr8 : rdO (some (.cells R 58 (0, 0))) 0 37 = some R := rdO_all _ _ _ _ hRs
        (refine W_at c21_ok ?_; refine ⟨_, rfl, ?_⟩; simp (disch := first | omega | assumption | rfl | (simp only [vcS] <;> omega) | fail) only [↓ptV_l, ↓vcA, vcB, ↓vcD, vcE, ↓reduceIte, Nat.reduceEqDiff, Nat.reduceAdd, Nat.reduceMul, Nat.reduceLeDiff, Int.reduceLE, Int.reduceLT, Int.reduceEq, Int.reduceToNat, Int.reduceAdd, Int.reduceSub, Int.reduceMul, Int.reduceNeg, reduceCtorEq, Option.bind_some, Option.map_some, List.length_cons, List.length_nil, vcM, List.getElem?_toArray, List.getElem?_cons_zero, List.getElem?_cons_succ, hp7, hr7, hks, hlk, hRs2])
        refine ⟨hRf2, by decide, ?_⟩
        have hE4 : Ext w3 ((w3.alloc (.cells (zc [(1, .int .i32 0), (2, .slice none 0 0), (1, .int .u32 0), (32, .int .u8 0), (1, .bool false)]) 58)).putN w3.heap.size 0 R2) := ((Keep.refl _ w3).alloc _).putN _ (by intro hh; exfalso; omega)
        have hp9 : ((w3.alloc (.cells (zc [(1, .int .i32 0), (2, .slice none 0 0), (1, .int .u32 0), (32, .int .u8 0), (1, .bool false)]) 58)).putN w3.heap.size 0 R2).heap[w3.heap.size]? = some (.cells R2 58 (0, 0)) := by
          rw [heap_putN_eq (heap_new _ _ _ rfl), splice_all (by rw [hRs2]; rfl)]
        generalize World.putN _ _ _ _ = w4 at hE4 hp9 ⊢
        generalize w3.heap.size = p9 at hp9 ⊢
        have hp84 := hE4.at hp8 (fun h => h)
        have hr9 : rdO (some (.cells R2 58 (0, 0))) 0 37 = some R2 := rdO_all _ _ _ _ hRs2
        have hpl : plainF Try.prog 22 = true := by kernel_rfl
        (refine W_at c21_ok ?_; refine ⟨_, rfl, ?_⟩; simp (disch := first | omega | assumption | rfl | (simp only [vcS] <;> omega) | fail) only [↓ptV_l, ↓vcA, vcB, ↓vcD, vcE, ↓reduceIte, Nat.reduceEqDiff, Nat.reduceAdd, Nat.reduceMul, Nat.reduceLeDiff, Int.reduceLE, Int.reduceLT, Int.reduceEq, Int.reduceToNat, Int.reduceAdd, Int.reduceSub, Int.reduceMul, Int.reduceNeg, reduceCtorEq, Option.bind_some, Option.map_some, List.length_cons, List.length_nil, vcM, List.getElem?_toArray, List.getElem?_cons_zero, List.getElem?_cons_succ, hp84, hp9, hr8, hr9, hpl])
        refine callV_ret (same1_ok w4 R R2 hRs hRs2 hRf hRf2 hRe hRe2) ?_
        rintro _ w5 ⟨rfl, hE5⟩
        first | (simp (disch := first | omega | assumption | rfl | (simp only [vcS] <;> omega) | fail) only [↓ptV_l, ↓vcA, vcB, ↓vcD, vcE, ↓reduceIte, Nat.reduceEqDiff, Nat.reduceAdd, Nat.reduceMul, Nat.reduceLeDiff, Int.reduceLE, Int.reduceLT, Int.reduceEq, Int.reduceToNat, Int.reduceAdd, Int.reduceSub, Int.reduceMul, Int.reduceNeg, reduceCtorEq, Option.bind_some, Option.map_some, List.length_cons, List.length_nil, vcM, List.getElem?_toArray, List.getElem?_cons_zero, List.getElem?_cons_succ]) | skip
        (refine W_at c21_ok ?_; refine ⟨_, rfl, ?_⟩; simp (disch := first | omega | assumption | rfl | (simp only [vcS] <;> omega) | fail) only [↓ptV_l, ↓vcA, vcB, ↓vcD, vcE, ↓reduceIte, Nat.reduceEqDiff, Nat.reduceAdd, Nat.reduceMul, Nat.reduceLeDiff, Int.reduceLE, Int.reduceLT, Int.reduceEq, Int.reduceToNat, Int.reduceAdd, Int.reduceSub, Int.reduceMul, Int.reduceNeg, reduceCtorEq, Option.bind_some, Option.map_some, List.length_cons, List.length_nil, vcM, List.getElem?_toArray, List.getElem?_cons_zero, List.getElem?_cons_succ])
        (refine W_at c21_ok ?_; refine ⟨_, rfl, ?_⟩; simp (disch := first | omega | assumption | rfl | (simp only [vcS] <;> omega) | fail) only [↓ptV_l, ↓vcA, vcB, ↓vcD, vcE, ↓reduceIte, Nat.reduceEqDiff, Nat.reduceAdd, Nat.reduceMul, Nat.reduceLeDiff, Int.reduceLE, Int.reduceLT, Int.reduceEq, Int.reduceToNat, Int.reduceAdd, Int.reduceSub, Int.reduceMul, Int.reduceNeg, reduceCtorEq, Option.bind_some, Option.map_some, List.length_cons, List.length_nil, vcM, List.getElem?_toArray, List.getElem?_cons_zero, List.getElem?_cons_succ])
        refine ih _ w5 _ (by have := left_lt hx; omega) ((hE2.ext hE3).ext (hE4.ext hE5)) (hI3.keep (hE4.ext hE5) (fun h => h) fun h => h)
  exact L es.toList.length es.toList w1 _ (Nat.le_refl _) hE1 hI1
end Go.Proofs
namespace Go.Proofs
open Go.Vc
set_option maxRecDepth 10000

def ldC (ov : Value) (r1 r2 r3 : Nat) : Array Value := #[ov, .map (some r1), .map (some r2), .map (some r3)]
structure LedAt (w : World) (lo hi b : Nat) (ov : Value) (r1 r2 r3 : Nat) (ids : List (List Int)) (recs locks labels : List KV) : Prop where
  c : w.heap[b]? = some (.cells (ldC ov r1 r2 r3) 55 (0, 0))
  ord : OwnO w lo 24 32 ov (ids.map fun b => (bv b).toArray)
  oh : ∀ g, blk ov g → g < hi
  m1 : MG layH true w r1 recs
  m2 : MG layP true w r2 locks
  m3 : MG layS false w r3 labels
  idl : ∀ b ∈ ids, b.length = 32
  rv : ∀ p ∈ recs, RecV p
  n12 : r1 ≠ r2
  n13 : r1 ≠ r3
  n23 : r2 ≠ r3
  lb : lo ≤ b ∧ b < hi
  l1 : lo ≤ r1 ∧ r1 < hi
  l2 : lo ≤ r2 ∧ r2 < hi
  l3 : lo ≤ r3 ∧ r3 < hi
section
variable {w w' : World} {lo hi b : Nat} {ov : Value} {r1 r2 r3 : Nat} {ids : List (List Int)} {recs locks labels : List KV}
theorem LedAt.keep {S : Nat → Prop} (h : LedAt w lo hi b ov r1 r2 r3 ids recs locks labels) (k : Keep S w w') (hS : ∀ g, S g → g < lo ∨ hi ≤ g) : LedAt w' lo hi b ov r1 r2 r3 ids recs locks labels := by
  have hn : ∀ g, lo ≤ g → g < hi → ¬ S g := fun g h1 h2 hs => by rcases hS g hs with h | h <;> omega
  exact ⟨k.at h.c (hn _ h.lb.1 h.lb.2), h.ord.keep k fun g hg => hn g (h.ord.blk hg).1 (h.oh g hg), h.oh, h.m1.keep k (hn _ h.l1.1 h.l1.2), h.m2.keep k (hn _ h.l2.1 h.l2.2), h.m3.keep k (hn _ h.l3.1 h.l3.2), h.idl, h.rv, h.n12, h.n13, h.n23, h.lb, h.l1, h.l2, h.l3⟩
theorem LedAt.ext (h : LedAt w lo hi b ov r1 r2 r3 ids recs locks labels) (k : Ext w w') : LedAt w' lo hi b ov r1 r2 r3 ids recs locks labels := h.keep k fun _ h => h.elim
theorem LedAt.wide (h : LedAt w lo hi b ov r1 r2 r3 ids recs locks labels) {hi' : Nat} (hh : hi ≤ hi') : LedAt w lo hi' b ov r1 r2 r3 ids recs locks labels :=
  ⟨h.c, h.ord, fun g hg => Nat.lt_of_lt_of_le (h.oh g hg) hh, h.m1, h.m2, h.m3, h.idl, h.rv, h.n12, h.n13, h.n23, ⟨h.lb.1, by have := h.lb.2; omega⟩, ⟨h.l1.1, by have := h.l1.2; omega⟩, ⟨h.l2.1, by have := h.l2.2; omega⟩, ⟨h.l3.1, by have := h.l3.2; omega⟩⟩
/-- One map of it changes. -/
theorem LedAt.set2 (h : LedAt w lo hi b ov r1 r2 r3 ids recs locks labels) {locks' : List KV} (hm : MG layP true w' r2 locks') (k : Keep (fun g => g = r2) w w') : LedAt w' lo hi b ov r1 r2 r3 ids recs locks' labels := by
  have nb : b ≠ r2 := fun e => by obtain ⟨es, c, h1, _⟩ := h.m2; have := h.c; rw [e, h1] at this; cases this
  have no : ∀ g, blk ov g → g ≠ r2 := fun g hg e => by obtain ⟨_, c, hc⟩ := h.ord.blk hg; obtain ⟨es, c', h1, _⟩ := h.m2; rw [e, h1] at hc; cases hc
  exact ⟨k.at h.c nb, h.ord.keep k no, h.oh, h.m1.keep k h.n12, hm, h.m3.keep k (Ne.symm h.n23), h.idl, h.rv, h.n12, h.n13, h.n23, h.lb, h.l1, h.l2, h.l3⟩
theorem LedAt.set3 (h : LedAt w lo hi b ov r1 r2 r3 ids recs locks labels) {labels' : List KV} (hm : MG layS false w' r3 labels') (k : Keep (fun g => g = r3) w w') : LedAt w' lo hi b ov r1 r2 r3 ids recs locks labels' := by
  have nb : b ≠ r3 := fun e => by obtain ⟨es, c, h1, _⟩ := h.m3; have := h.c; rw [e, h1] at this; cases this
  have no : ∀ g, blk ov g → g ≠ r3 := fun g hg e => by obtain ⟨_, c, hc⟩ := h.ord.blk hg; obtain ⟨es, c', h1, _⟩ := h.m3; rw [e, h1] at hc; cases hc
  exact ⟨k.at h.c nb, h.ord.keep k no, h.oh, h.m1.keep k h.n13, h.m2.keep k h.n23, hm, h.idl, h.rv, h.n12, h.n13, h.n23, h.lb, h.l1, h.l2, h.l3⟩
end
theorem ldC_0 (ov : Value) (r1 r2 r3 : Nat) : (ldC ov r1 r2 r3)[0]? = some ov := rfl
theorem ldC_1 (ov : Value) (r1 r2 r3 : Nat) : (ldC ov r1 r2 r3)[1]? = some (.map (some r1)) := rfl
theorem ldC_2 (ov : Value) (r1 r2 r3 : Nat) : (ldC ov r1 r2 r3)[2]? = some (.map (some r2)) := rfl
theorem ldC_3 (ov : Value) (r1 r2 r3 : Nat) : (ldC ov r1 r2 r3)[3]? = some (.map (some r3)) := rfl
theorem ldC_flat {ov : Value} {r1 r2 r3 : Nat} (h : ov.oneCell' = true) : flat (ldC ov r1 r2 r3) := by
  intro y hy; simp only [ldC, List.mem_toArray, List.mem_cons, List.not_mem_nil, or_false] at hy; rcases hy with rfl | rfl | rfl | rfl <;> first | rfl | assumption
set_option maxHeartbeats 1600000 in
theorem lnew_ok (w : World) : Calls Try.prog 5 #[] w (Ret fun u w' => ∃ b r1 r2 r3, u = .pointer (some ⟨b, 0, none⟩) ∧ LedAt w' w.heap.size w'.heap.size b (.slice none 0 0) r1 r2 r3 [] [] [] [] ∧ Ext w w') := by
  refine calls_of_cfg c5_ok (Nat.le_of_ble_eq_true rfl) ?_
  simp only [argE_nil, argE_cons, Nat.reduceAdd, Nat.zero_add]
  have al : ∀ (w : World) (o : Obj), Ext w (w.alloc o) := fun w o => (Keep.refl _ w).alloc _
  have hb : ∀ r1 r2 r3 : Nat, zc [(1, Value.slice none 0 0)] ++ (#[Value.map (some r1)] ++ #[Value.map (some r2), Value.map (some r3)]) = ldC (.slice none 0 0) r1 r2 r3 := fun _ _ _ => rfl
  (refine W_at c5_ok ?_; refine ⟨_, rfl, ?_⟩; simp (disch := first | omega | assumption | rfl | (simp only [vcS] <;> omega) | fail) only [↓ptV_l, ↓vcA, vcB, ↓vcD, vcE, ↓reduceIte, Nat.reduceEqDiff, Nat.reduceAdd, Nat.reduceMul, Nat.reduceLeDiff, Int.reduceLE, Int.reduceLT, Int.reduceEq, Int.reduceToNat, Int.reduceAdd, Int.reduceSub, Int.reduceMul, Int.reduceNeg, reduceCtorEq, Option.bind_some, Option.map_some, List.length_cons, List.length_nil, vcM, List.getElem?_toArray, List.getElem?_cons_zero, List.getElem?_cons_succ])
  (refine W_at c5_ok ?_; refine ⟨_, rfl, ?_⟩; simp (disch := first | omega | assumption | rfl | (simp only [vcS] <;> omega) | fail) only [↓ptV_l, ↓vcA, vcB, ↓vcD, vcE, ↓reduceIte, Nat.reduceEqDiff, Nat.reduceAdd, Nat.reduceMul, Nat.reduceLeDiff, Int.reduceLE, Int.reduceLT, Int.reduceEq, Int.reduceToNat, Int.reduceAdd, Int.reduceSub, Int.reduceMul, Int.reduceNeg, reduceCtorEq, Option.bind_some, Option.map_some, List.length_cons, List.length_nil, vcM, List.getElem?_toArray, List.getElem?_cons_zero, List.getElem?_cons_succ])
  rw [hb]
  generalize e1 : w.alloc (.map #[] 0) = w1
  have s1 : w1.heap.size = w.heap.size + 1 := by rw [← e1]; exact size_alloc _ _
  have x1 : Ext w w1 := by rw [← e1]; exact al _ _
  have m1 : MG layH true w1 w.heap.size [] := by rw [← e1]; exact MG.empty w
  generalize e2 : w1.alloc (.map #[] 0) = w2
  have s2 : w2.heap.size = w.heap.size + 1 + 1 := by rw [← e2, size_alloc, s1]
  have x2 : Ext w1 w2 := by rw [← e2]; exact al _ _
  have m2 : MG layP true w2 (w.heap.size + 1) [] := by rw [← s1, ← e2]; exact MG.empty w1
  generalize e3 : w2.alloc (.map #[] 0) = w3
  have s3 : w3.heap.size = w.heap.size + 1 + 1 + 1 := by rw [← e3, size_alloc, s2]
  have x3 : Ext w2 w3 := by rw [← e3]; exact al _ _
  have m3 : MG layS false w3 (w.heap.size + 1 + 1) [] := by rw [← s2, ← e3]; exact MG.empty w2
  have x4 := al w3 (.cells (ldC (.slice none 0 0) w.heap.size (w.heap.size + 1) (w.heap.size + 1 + 1)) 55)
  have c4 : (w3.alloc (.cells (ldC (.slice none 0 0) w.heap.size (w.heap.size + 1) (w.heap.size + 1 + 1)) 55)).heap[w.heap.size + 1 + 1 + 1]? = some (.cells (ldC (.slice none 0 0) w.heap.size (w.heap.size + 1) (w.heap.size + 1 + 1)) 55 (0, 0)) := heap_new _ _ _ s3.symm
  have s4 : (w3.alloc (.cells (ldC (.slice none 0 0) w.heap.size (w.heap.size + 1) (w.heap.size + 1 + 1)) 55)).heap.size = w.heap.size + 1 + 1 + 1 + 1 := by rw [size_alloc, s3]
  generalize World.alloc w3 _ = w4 at x4 c4 s4 ⊢
  (refine W_at c5_ok ?_; refine ⟨_, rfl, ?_⟩; simp (disch := first | omega | assumption | rfl | (simp only [vcS] <;> omega) | fail) only [↓ptV_l, ↓vcA, vcB, ↓vcD, vcE, ↓reduceIte, Nat.reduceEqDiff, Nat.reduceAdd, Nat.reduceMul, Nat.reduceLeDiff, Int.reduceLE, Int.reduceLT, Int.reduceEq, Int.reduceToNat, Int.reduceAdd, Int.reduceSub, Int.reduceMul, Int.reduceNeg, reduceCtorEq, Option.bind_some, Option.map_some, List.length_cons, List.length_nil, vcM, List.getElem?_toArray, List.getElem?_cons_zero, List.getElem?_cons_succ, Ret_returned])
  exact ⟨w.heap.size + 1 + 1 + 1, w.heap.size, w.heap.size + 1, w.heap.size + 1 + 1, rfl, ⟨c4, OwnO.nil _ _ _ _, fun g hg => (by cases hg), ((m1.ext x2).ext x3).ext x4, (m2.ext x3).ext x4, m3.ext x4, fun b hb => (by cases hb), fun p hp => (by cases hp), by omega, by omega, by omega, by omega, by omega, by omega, by omega⟩, ((x1.ext x2).ext x3).ext x4⟩
/-- The text of a script. -/
def keyS (bs : List Int) : Value := .string (strOf bs)
theorem kokS (s : ByteArray) : kOK layS false (.string s) = true := rfl
set_option maxHeartbeats 1600000 in
theorem label_ok (w : World) (lo hi b : Nat) (ov : Value) (r1 r2 r3 : Nat) (ids : List (List Int)) (recs locks labels : List KV) (h : LedAt w lo hi b ov r1 r2 r3 ids recs locks labels) (x : Value) (bs : List Int) (hx : Rd w x bs) (s : ByteArray) :
    Calls Try.prog 8 #[.pointer (some ⟨b, 0, none⟩), x, .string s] w (Ret fun u w' => u = .int .i64 (if 100 < s.size then 2 else 0) ∧ LedAt w' lo hi b ov r1 r2 r3 ids recs locks (if 100 < s.size then labels else if s = ByteArray.empty then delG (keyS bs) labels else putG (keyS bs) (.string s) labels) ∧ Keep (fun g => g = r3) w w') := by
  refine calls_of_cfg c8_ok (Nat.le_of_ble_eq_true rfl) ?_
  simp only [argE_nil, argE_cons, Nat.reduceAdd, Nat.zero_add]
  have hb2 := hx.b2s
  have hc := h.c
  by_cases hs : 100 < s.size
  · have hs' : (100 : Int) < (s.size : Nat) := by omega
    rw [if_pos hs, if_pos hs]
    (refine W_at c8_ok ?_; refine ⟨_, rfl, ?_⟩; simp (disch := first | omega | assumption | rfl | (simp only [vcS] <;> omega) | fail) only [↓ptV_l, ↓vcA, vcB, ↓vcD, vcE, ↓reduceIte, Nat.reduceEqDiff, Nat.reduceAdd, Nat.reduceMul, Nat.reduceLeDiff, Int.reduceLE, Int.reduceLT, Int.reduceEq, Int.reduceToNat, Int.reduceAdd, Int.reduceSub, Int.reduceMul, Int.reduceNeg, reduceCtorEq, Option.bind_some, Option.map_some, List.length_cons, List.length_nil, vcM, List.getElem?_toArray, List.getElem?_cons_zero, List.getElem?_cons_succ])
    (refine W_at c8_ok ?_; refine ⟨_, rfl, ?_⟩; simp (disch := first | omega | assumption | rfl | (simp only [vcS] <;> omega) | fail) only [↓ptV_l, ↓vcA, vcB, ↓vcD, vcE, ↓reduceIte, Nat.reduceEqDiff, Nat.reduceAdd, Nat.reduceMul, Nat.reduceLeDiff, Int.reduceLE, Int.reduceLT, Int.reduceEq, Int.reduceToNat, Int.reduceAdd, Int.reduceSub, Int.reduceMul, Int.reduceNeg, reduceCtorEq, Option.bind_some, Option.map_some, List.length_cons, List.length_nil, vcM, List.getElem?_toArray, List.getElem?_cons_zero, List.getElem?_cons_succ, hs'])
    (refine W_at c8_ok ?_; refine ⟨_, rfl, ?_⟩; simp (disch := first | omega | assumption | rfl | (simp only [vcS] <;> omega) | fail) only [↓ptV_l, ↓vcA, vcB, ↓vcD, vcE, ↓reduceIte, Nat.reduceEqDiff, Nat.reduceAdd, Nat.reduceMul, Nat.reduceLeDiff, Int.reduceLE, Int.reduceLT, Int.reduceEq, Int.reduceToNat, Int.reduceAdd, Int.reduceSub, Int.reduceMul, Int.reduceNeg, reduceCtorEq, Option.bind_some, Option.map_some, List.length_cons, List.length_nil, vcM, List.getElem?_toArray, List.getElem?_cons_zero, List.getElem?_cons_succ])
    (refine W_at c8_ok ?_; refine ⟨_, rfl, ?_⟩; simp (disch := first | omega | assumption | rfl | (simp only [vcS] <;> omega) | fail) only [↓ptV_l, ↓vcA, vcB, ↓vcD, vcE, ↓reduceIte, Nat.reduceEqDiff, Nat.reduceAdd, Nat.reduceMul, Nat.reduceLeDiff, Int.reduceLE, Int.reduceLT, Int.reduceEq, Int.reduceToNat, Int.reduceAdd, Int.reduceSub, Int.reduceMul, Int.reduceNeg, reduceCtorEq, Option.bind_some, Option.map_some, List.length_cons, List.length_nil, vcM, List.getElem?_toArray, List.getElem?_cons_zero, List.getElem?_cons_succ])
    (refine W_at c8_ok ?_; refine ⟨_, rfl, ?_⟩; simp (disch := first | omega | assumption | rfl | (simp only [vcS] <;> omega) | fail) only [↓ptV_l, ↓vcA, vcB, ↓vcD, vcE, ↓reduceIte, Nat.reduceEqDiff, Nat.reduceAdd, Nat.reduceMul, Nat.reduceLeDiff, Int.reduceLE, Int.reduceLT, Int.reduceEq, Int.reduceToNat, Int.reduceAdd, Int.reduceSub, Int.reduceMul, Int.reduceNeg, reduceCtorEq, Option.bind_some, Option.map_some, List.length_cons, List.length_nil, vcM, List.getElem?_toArray, List.getElem?_cons_zero, List.getElem?_cons_succ, Ret_returned])
    exact ⟨h, Keep.refl _ w⟩
  · have hs' : ¬ (100 : Int) < (s.size : Nat) := by omega
    rw [if_neg hs, if_neg hs]
    (refine W_at c8_ok ?_; refine ⟨_, rfl, ?_⟩; simp (disch := first | omega | assumption | rfl | (simp only [vcS] <;> omega) | fail) only [↓ptV_l, ↓vcA, vcB, ↓vcD, vcE, ↓reduceIte, Nat.reduceEqDiff, Nat.reduceAdd, Nat.reduceMul, Nat.reduceLeDiff, Int.reduceLE, Int.reduceLT, Int.reduceEq, Int.reduceToNat, Int.reduceAdd, Int.reduceSub, Int.reduceMul, Int.reduceNeg, reduceCtorEq, Option.bind_some, Option.map_some, List.length_cons, List.length_nil, vcM, List.getElem?_toArray, List.getElem?_cons_zero, List.getElem?_cons_succ])
    (refine W_at c8_ok ?_; refine ⟨_, rfl, ?_⟩; simp (disch := first | omega | assumption | rfl | (simp only [vcS] <;> omega) | fail) only [↓ptV_l, ↓vcA, vcB, ↓vcD, vcE, ↓reduceIte, Nat.reduceEqDiff, Nat.reduceAdd, Nat.reduceMul, Nat.reduceLeDiff, Int.reduceLE, Int.reduceLT, Int.reduceEq, Int.reduceToNat, Int.reduceAdd, Int.reduceSub, Int.reduceMul, Int.reduceNeg, reduceCtorEq, Option.bind_some, Option.map_some, List.length_cons, List.length_nil, vcM, List.getElem?_toArray, List.getElem?_cons_zero, List.getElem?_cons_succ, hs'])
    (refine W_at c8_ok ?_; refine ⟨_, rfl, ?_⟩; simp (disch := first | omega | assumption | rfl | (simp only [vcS] <;> omega) | fail) only [↓ptV_l, ↓vcA, vcB, ↓vcD, vcE, ↓reduceIte, Nat.reduceEqDiff, Nat.reduceAdd, Nat.reduceMul, Nat.reduceLeDiff, Int.reduceLE, Int.reduceLT, Int.reduceEq, Int.reduceToNat, Int.reduceAdd, Int.reduceSub, Int.reduceMul, Int.reduceNeg, reduceCtorEq, Option.bind_some, Option.map_some, List.length_cons, List.length_nil, vcM, List.getElem?_toArray, List.getElem?_cons_zero, List.getElem?_cons_succ])
    by_cases he : s = ByteArray.empty
    · rw [if_pos he]
      subst he
      (refine W_at c8_ok ?_; refine ⟨_, rfl, ?_⟩; simp (disch := first | omega | assumption | rfl | (simp only [vcS] <;> omega) | fail) only [↓ptV_l, ↓vcA, vcB, ↓vcD, vcE, ↓reduceIte, Nat.reduceEqDiff, Nat.reduceAdd, Nat.reduceMul, Nat.reduceLeDiff, Int.reduceLE, Int.reduceLT, Int.reduceEq, Int.reduceToNat, Int.reduceAdd, Int.reduceSub, Int.reduceMul, Int.reduceNeg, reduceCtorEq, Option.bind_some, Option.map_some, List.length_cons, List.length_nil, vcM, List.getElem?_toArray, List.getElem?_cons_zero, List.getElem?_cons_succ])
      have he1 : decide (ByteArray.empty = (⟨#[]⟩ : ByteArray)) = true := decide_eq_true rfl
      (refine W_at c8_ok ?_; refine ⟨_, rfl, ?_⟩; simp (disch := first | omega | assumption | rfl | (simp only [vcS] <;> omega) | fail) only [↓ptV_l, ↓vcA, vcB, ↓vcD, vcE, ↓reduceIte, Nat.reduceEqDiff, Nat.reduceAdd, Nat.reduceMul, Nat.reduceLeDiff, Int.reduceLE, Int.reduceLT, Int.reduceEq, Int.reduceToNat, Int.reduceAdd, Int.reduceSub, Int.reduceMul, Int.reduceNeg, reduceCtorEq, Option.bind_some, Option.map_some, List.length_cons, List.length_nil, vcM, List.getElem?_toArray, List.getElem?_cons_zero, List.getElem?_cons_succ, he1])
      have hEd : Ext w w.drew := (Keep.refl _ w).drew
      have hd := h.ext hEd
      have hb2d := (hx.ext hEd).b2s
      (refine W_at c8_ok ?_; refine ⟨_, rfl, ?_⟩; simp (disch := first | omega | assumption | rfl | (simp only [vcS] <;> omega) | fail) only [↓ptV_l, ↓vcA, vcB, ↓vcD, vcE, ↓reduceIte, Nat.reduceEqDiff, Nat.reduceAdd, Nat.reduceMul, Nat.reduceLeDiff, Int.reduceLE, Int.reduceLT, Int.reduceEq, Int.reduceToNat, Int.reduceAdd, Int.reduceSub, Int.reduceMul, Int.reduceNeg, reduceCtorEq, Option.bind_some, Option.map_some, List.length_cons, List.length_nil, vcM, List.getElem?_toArray, List.getElem?_cons_zero, List.getElem?_cons_succ, hc, ldC_3, hb2, hb2d])
      refine MG.del hd.m3 (kokS _) fun w' hm hk => ?_
      first | (simp (disch := first | omega | assumption | rfl | (simp only [vcS] <;> omega) | fail) only [↓ptV_l, ↓vcA, vcB, ↓vcD, vcE, ↓reduceIte, Nat.reduceEqDiff, Nat.reduceAdd, Nat.reduceMul, Nat.reduceLeDiff, Int.reduceLE, Int.reduceLT, Int.reduceEq, Int.reduceToNat, Int.reduceAdd, Int.reduceSub, Int.reduceMul, Int.reduceNeg, reduceCtorEq, Option.bind_some, Option.map_some, List.length_cons, List.length_nil, vcM, List.getElem?_toArray, List.getElem?_cons_zero, List.getElem?_cons_succ]) | skip
      (refine W_at c8_ok ?_; refine ⟨_, rfl, ?_⟩; simp (disch := first | omega | assumption | rfl | (simp only [vcS] <;> omega) | fail) only [↓ptV_l, ↓vcA, vcB, ↓vcD, vcE, ↓reduceIte, Nat.reduceEqDiff, Nat.reduceAdd, Nat.reduceMul, Nat.reduceLeDiff, Int.reduceLE, Int.reduceLT, Int.reduceEq, Int.reduceToNat, Int.reduceAdd, Int.reduceSub, Int.reduceMul, Int.reduceNeg, reduceCtorEq, Option.bind_some, Option.map_some, List.length_cons, List.length_nil, vcM, List.getElem?_toArray, List.getElem?_cons_zero, List.getElem?_cons_succ])
      (refine W_at c8_ok ?_; refine ⟨_, rfl, ?_⟩; simp (disch := first | omega | assumption | rfl | (simp only [vcS] <;> omega) | fail) only [↓ptV_l, ↓vcA, vcB, ↓vcD, vcE, ↓reduceIte, Nat.reduceEqDiff, Nat.reduceAdd, Nat.reduceMul, Nat.reduceLeDiff, Int.reduceLE, Int.reduceLT, Int.reduceEq, Int.reduceToNat, Int.reduceAdd, Int.reduceSub, Int.reduceMul, Int.reduceNeg, reduceCtorEq, Option.bind_some, Option.map_some, List.length_cons, List.length_nil, vcM, List.getElem?_toArray, List.getElem?_cons_zero, List.getElem?_cons_succ, Ret_returned])
      exact ⟨hd.set3 hm hk, (hEd.mono fun _ h => h.elim).trans hk fun _ _ h => h⟩
    · rw [if_neg he]
      (refine W_at c8_ok ?_; refine ⟨_, rfl, ?_⟩; simp (disch := first | omega | assumption | rfl | (simp only [vcS] <;> omega) | fail) only [↓ptV_l, ↓vcA, vcB, ↓vcD, vcE, ↓reduceIte, Nat.reduceEqDiff, Nat.reduceAdd, Nat.reduceMul, Nat.reduceLeDiff, Int.reduceLE, Int.reduceLT, Int.reduceEq, Int.reduceToNat, Int.reduceAdd, Int.reduceSub, Int.reduceMul, Int.reduceNeg, reduceCtorEq, Option.bind_some, Option.map_some, List.length_cons, List.length_nil, vcM, List.getElem?_toArray, List.getElem?_cons_zero, List.getElem?_cons_succ])
      have he1 : decide (s = (⟨#[]⟩ : ByteArray)) = false := decide_eq_false he
      (refine W_at c8_ok ?_; refine ⟨_, rfl, ?_⟩; simp (disch := first | omega | assumption | rfl | (simp only [vcS] <;> omega) | fail) only [↓ptV_l, ↓vcA, vcB, ↓vcD, vcE, ↓reduceIte, Nat.reduceEqDiff, Nat.reduceAdd, Nat.reduceMul, Nat.reduceLeDiff, Int.reduceLE, Int.reduceLT, Int.reduceEq, Int.reduceToNat, Int.reduceAdd, Int.reduceSub, Int.reduceMul, Int.reduceNeg, reduceCtorEq, Option.bind_some, Option.map_some, List.length_cons, List.length_nil, vcM, List.getElem?_toArray, List.getElem?_cons_zero, List.getElem?_cons_succ, he1])
      have hEd : Ext w w.drew := (Keep.refl _ w).drew
      have hd := h.ext hEd
      have hb2d := (hx.ext hEd).b2s
      (refine W_at c8_ok ?_; refine ⟨_, rfl, ?_⟩; simp (disch := first | omega | assumption | rfl | (simp only [vcS] <;> omega) | fail) only [↓ptV_l, ↓vcA, vcB, ↓vcD, vcE, ↓reduceIte, Nat.reduceEqDiff, Nat.reduceAdd, Nat.reduceMul, Nat.reduceLeDiff, Int.reduceLE, Int.reduceLT, Int.reduceEq, Int.reduceToNat, Int.reduceAdd, Int.reduceSub, Int.reduceMul, Int.reduceNeg, reduceCtorEq, Option.bind_some, Option.map_some, List.length_cons, List.length_nil, vcM, List.getElem?_toArray, List.getElem?_cons_zero, List.getElem?_cons_succ, hc, ldC_3, hb2, hb2d])
      refine MG.put hd.m3 (kokS _) fun w' hm hk => ?_
      first | (simp (disch := first | omega | assumption | rfl | (simp only [vcS] <;> omega) | fail) only [↓ptV_l, ↓vcA, vcB, ↓vcD, vcE, ↓reduceIte, Nat.reduceEqDiff, Nat.reduceAdd, Nat.reduceMul, Nat.reduceLeDiff, Int.reduceLE, Int.reduceLT, Int.reduceEq, Int.reduceToNat, Int.reduceAdd, Int.reduceSub, Int.reduceMul, Int.reduceNeg, reduceCtorEq, Option.bind_some, Option.map_some, List.length_cons, List.length_nil, vcM, List.getElem?_toArray, List.getElem?_cons_zero, List.getElem?_cons_succ]) | skip
      (refine W_at c8_ok ?_; refine ⟨_, rfl, ?_⟩; simp (disch := first | omega | assumption | rfl | (simp only [vcS] <;> omega) | fail) only [↓ptV_l, ↓vcA, vcB, ↓vcD, vcE, ↓reduceIte, Nat.reduceEqDiff, Nat.reduceAdd, Nat.reduceMul, Nat.reduceLeDiff, Int.reduceLE, Int.reduceLT, Int.reduceEq, Int.reduceToNat, Int.reduceAdd, Int.reduceSub, Int.reduceMul, Int.reduceNeg, reduceCtorEq, Option.bind_some, Option.map_some, List.length_cons, List.length_nil, vcM, List.getElem?_toArray, List.getElem?_cons_zero, List.getElem?_cons_succ])
      (refine W_at c8_ok ?_; refine ⟨_, rfl, ?_⟩; simp (disch := first | omega | assumption | rfl | (simp only [vcS] <;> omega) | fail) only [↓ptV_l, ↓vcA, vcB, ↓vcD, vcE, ↓reduceIte, Nat.reduceEqDiff, Nat.reduceAdd, Nat.reduceMul, Nat.reduceLeDiff, Int.reduceLE, Int.reduceLT, Int.reduceEq, Int.reduceToNat, Int.reduceAdd, Int.reduceSub, Int.reduceMul, Int.reduceNeg, reduceCtorEq, Option.bind_some, Option.map_some, List.length_cons, List.length_nil, vcM, List.getElem?_toArray, List.getElem?_cons_zero, List.getElem?_cons_succ, Ret_returned])
      exact ⟨hd.set3 hm hk, (hEd.mono fun _ h => h.elim).trans hk fun _ _ h => h⟩
end Go.Proofs
namespace Go.Proofs
open Go.Vc
set_option maxRecDepth 10000

theorem labeled_ok (w : World) (lo hi b : Nat) (ov : Value) (r1 r2 r3 : Nat) (ids : List (List Int)) (recs locks labels : List KV) (h : LedAt w lo hi b ov r1 r2 r3 ids recs locks labels) (x : Value) (bs : List Int) (hx : Rd w x bs) :
    Calls Try.prog 10 #[.pointer (some ⟨b, 0, none⟩), x] w (Ret fun u w' => u = (getG (keyS bs) labels).getD (.string ByteArray.empty) ∧ Ext w w') := by
  refine calls_of_cfg c10_ok (Nat.le_of_ble_eq_true rfl) ?_
  simp only [argE_nil, argE_cons, Nat.reduceAdd, Nat.zero_add]
  have hb2 := hx.b2s
  have hc := h.c
  have hEd : Ext w w.drew := (Keep.refl _ w).drew
  have hd := h.ext hEd
  have hlk : lkpR layS false (.string ⟨#[]⟩) false w (.map (some r3)) (.string (strOf bs)) = some ((getG (keyS bs) labels).getD (.string ByteArray.empty)) := by
    rw [h.m3.lkp (.string ⟨#[]⟩) (kokS _) false]
    unfold keyS
    cases getG (.string (strOf bs)) labels <;> rfl
  have hlkd : lkpR layS false (.string ⟨#[]⟩) false w.drew (.map (some r3)) (.string (strOf bs)) = some ((getG (keyS bs) labels).getD (.string ByteArray.empty)) := by
    rw [hd.m3.lkp (.string ⟨#[]⟩) (kokS _) false]
    unfold keyS
    cases getG (.string (strOf bs)) labels <;> rfl
  have hzv : zvR false [(1, Value.string ⟨#[]⟩)] = .string ⟨#[]⟩ := rfl
  (refine W_at c10_ok ?_; refine ⟨_, rfl, ?_⟩; simp (disch := first | omega | assumption | rfl | (simp only [vcS] <;> omega) | fail) only [↓ptV_l, ↓vcA, vcB, ↓vcD, vcE, ↓reduceIte, Nat.reduceEqDiff, Nat.reduceAdd, Nat.reduceMul, Nat.reduceLeDiff, Int.reduceLE, Int.reduceLT, Int.reduceEq, Int.reduceToNat, Int.reduceAdd, Int.reduceSub, Int.reduceMul, Int.reduceNeg, reduceCtorEq, Option.bind_some, Option.map_some, List.length_cons, List.length_nil, vcM, List.getElem?_toArray, List.getElem?_cons_zero, List.getElem?_cons_succ])
  have hb2d := (hx.ext hEd).b2s
  (refine W_at c10_ok ?_; refine ⟨_, rfl, ?_⟩; simp (disch := first | omega | assumption | rfl | (simp only [vcS] <;> omega) | fail) only [↓ptV_l, ↓vcA, vcB, ↓vcD, vcE, ↓reduceIte, Nat.reduceEqDiff, Nat.reduceAdd, Nat.reduceMul, Nat.reduceLeDiff, Int.reduceLE, Int.reduceLT, Int.reduceEq, Int.reduceToNat, Int.reduceAdd, Int.reduceSub, Int.reduceMul, Int.reduceNeg, reduceCtorEq, Option.bind_some, Option.map_some, List.length_cons, List.length_nil, vcM, List.getElem?_toArray, List.getElem?_cons_zero, List.getElem?_cons_succ, hc, ldC_3, hb2, hb2d, hzv, hlk, hlkd])
  (refine W_at c10_ok ?_; refine ⟨_, rfl, ?_⟩; simp (disch := first | omega | assumption | rfl | (simp only [vcS] <;> omega) | fail) only [↓ptV_l, ↓vcA, vcB, ↓vcD, vcE, ↓reduceIte, Nat.reduceEqDiff, Nat.reduceAdd, Nat.reduceMul, Nat.reduceLeDiff, Int.reduceLE, Int.reduceLT, Int.reduceEq, Int.reduceToNat, Int.reduceAdd, Int.reduceSub, Int.reduceMul, Int.reduceNeg, reduceCtorEq, Option.bind_some, Option.map_some, List.length_cons, List.length_nil, vcM, List.getElem?_toArray, List.getElem?_cons_zero, List.getElem?_cons_succ, Ret_returned])
  first | exact hEd | exact Keep.refl _ w | exact ⟨rfl, hEd⟩
/-- A place. -/
def pK (prev : List Int) (idx : Int) : Value := .agg ((bv prev ++ [Value.int .u32 idx]).toArray)
theorem kokP {prev : List Int} (idx : Int) (h : prev.length = 32) : kOK layP true (pK prev idx) = true := by
  have h1 := conf_u8' prev
  rw [h] at h1
  have app : ∀ (l : List SK) (vs : List Value) (s : SK) (v : Value), conf l vs = true → s.ok v = true → conf (l ++ [s]) (vs ++ [v]) = true := by
    intro l
    induction l with
    | nil =>
      intro vs s v h1 h2
      cases vs with
      | nil => simp [conf, h2]
      | cons x vs => simp [conf] at h1
    | cons s0 l ih =>
      intro vs s v h1 h2
      cases vs with
      | nil => simp [conf] at h1
      | cons x vs =>
        simp only [conf, Bool.and_eq_true] at h1
        simp only [List.cons_append, conf, Bool.and_eq_true]
        exact ⟨h1.1, ih vs s v h1.2 h2⟩
  have := app _ _ (.i .u32) (.int .u32 idx) h1 (by simp [SK.ok])
  simpa [kOK, skR, pK] using this
theorem pK_size {prev : List Int} (idx : Int) (h : prev.length = 32) : ((bv prev ++ [Value.int .u32 idx]).toArray).size = 33 := by simp [bv_len, h]
theorem pK_flat (prev : List Int) (idx : Int) : flat ((bv prev ++ [Value.int .u32 idx]).toArray) := by
  intro y hy
  simp only [List.mem_toArray, List.mem_append, List.mem_cons, List.not_mem_nil, or_false] at hy
  rcases hy with hy | rfl
  · exact bv_flat prev y (by simpa using hy)
  · rfl
set_option maxHeartbeats 1600000 in
theorem lock_ok (w : World) (lo hi b : Nat) (ov : Value) (r1 r2 r3 : Nat) (ids : List (List Int)) (recs locks labels : List KV) (h : LedAt w lo hi b ov r1 r2 r3 ids recs locks labels) (prev : List Int) (idx : Int) (hp : prev.length = 32) (on : Bool) :
    Calls Try.prog 11 #[.pointer (some ⟨b, 0, none⟩), pK prev idx, .bool on] w (Ret fun _ w' => LedAt w' lo hi b ov r1 r2 r3 ids recs (if on then putG (pK prev idx) (.bool true) locks else delG (pK prev idx) locks) labels ∧ Keep (fun g => g = r2) w w') := by
  refine calls_of_cfg c11_ok (Nat.le_of_ble_eq_true rfl) ?_
  simp only [argE_nil, argE_cons, Nat.reduceAdd, Nat.zero_add]
  have hk := kokP idx hp
  have hs := pK_size idx hp
  have hf := pK_flat prev idx
  have hc := h.c
  unfold pK at hk ⊢
  generalize hA : (bv prev ++ [Value.int .u32 idx]).toArray = A at hk hs hf ⊢
  have hca : (Value.agg A).cells = A := rfl
  (refine W_at c11_ok ?_; refine ⟨_, rfl, ?_⟩; simp (disch := first | omega | assumption | rfl | (simp only [vcS] <;> omega) | fail) only [↓ptV_l, ↓vcA, vcB, ↓vcD, vcE, ↓reduceIte, Nat.reduceEqDiff, Nat.reduceAdd, Nat.reduceMul, Nat.reduceLeDiff, Int.reduceLE, Int.reduceLT, Int.reduceEq, Int.reduceToNat, Int.reduceAdd, Int.reduceSub, Int.reduceMul, Int.reduceNeg, reduceCtorEq, Option.bind_some, Option.map_some, List.length_cons, List.length_nil, vcM, List.getElem?_toArray, List.getElem?_cons_zero, List.getElem?_cons_succ, hf, hca, hs])
  have hE1 : Ext w (w.alloc (.cells A 27)) := (Keep.refl _ w).alloc _
  have c4 : (w.alloc (.cells A 27)).heap[w.heap.size]? = some (.cells A 27 (0, 0)) := heap_new _ _ _ rfl
  generalize World.alloc w _ = w1 at hE1 c4 ⊢
  generalize w.heap.size = p4 at c4 ⊢
  have hr : rdO (some (.cells A 27 (0, 0))) 0 33 = some A := rdO_all _ _ _ _ hs
  have hEd : Ext w1 w1.drew := (Keep.refl _ w1).drew
  have h1 := h.ext (hE1.ext hEd)
  have hc1 := hE1.at hc (fun h => h)
  cases on with
  | true =>
    (refine W_at c11_ok ?_; refine ⟨_, rfl, ?_⟩; simp (disch := first | omega | assumption | rfl | (simp only [vcS] <;> omega) | fail) only [↓ptV_l, ↓vcA, vcB, ↓vcD, vcE, ↓reduceIte, Nat.reduceEqDiff, Nat.reduceAdd, Nat.reduceMul, Nat.reduceLeDiff, Int.reduceLE, Int.reduceLT, Int.reduceEq, Int.reduceToNat, Int.reduceAdd, Int.reduceSub, Int.reduceMul, Int.reduceNeg, reduceCtorEq, Option.bind_some, Option.map_some, List.length_cons, List.length_nil, vcM, List.getElem?_toArray, List.getElem?_cons_zero, List.getElem?_cons_succ])
    (refine W_at c11_ok ?_; refine ⟨_, rfl, ?_⟩; simp (disch := first | omega | assumption | rfl | (simp only [vcS] <;> omega) | fail) only [↓ptV_l, ↓vcA, vcB, ↓vcD, vcE, ↓reduceIte, Nat.reduceEqDiff, Nat.reduceAdd, Nat.reduceMul, Nat.reduceLeDiff, Int.reduceLE, Int.reduceLT, Int.reduceEq, Int.reduceToNat, Int.reduceAdd, Int.reduceSub, Int.reduceMul, Int.reduceNeg, reduceCtorEq, Option.bind_some, Option.map_some, List.length_cons, List.length_nil, vcM, List.getElem?_toArray, List.getElem?_cons_zero, List.getElem?_cons_succ])
    (refine W_at c11_ok ?_; refine ⟨_, rfl, ?_⟩; simp (disch := first | omega | assumption | rfl | (simp only [vcS] <;> omega) | fail) only [↓ptV_l, ↓vcA, vcB, ↓vcD, vcE, ↓reduceIte, Nat.reduceEqDiff, Nat.reduceAdd, Nat.reduceMul, Nat.reduceLeDiff, Int.reduceLE, Int.reduceLT, Int.reduceEq, Int.reduceToNat, Int.reduceAdd, Int.reduceSub, Int.reduceMul, Int.reduceNeg, reduceCtorEq, Option.bind_some, Option.map_some, List.length_cons, List.length_nil, vcM, List.getElem?_toArray, List.getElem?_cons_zero, List.getElem?_cons_succ, hc1, ldC_2, c4, hr])
    refine MG.put h1.m2 hk fun w' hm hk => ?_
    first | (simp (disch := first | omega | assumption | rfl | (simp only [vcS] <;> omega) | fail) only [↓ptV_l, ↓vcA, vcB, ↓vcD, vcE, ↓reduceIte, Nat.reduceEqDiff, Nat.reduceAdd, Nat.reduceMul, Nat.reduceLeDiff, Int.reduceLE, Int.reduceLT, Int.reduceEq, Int.reduceToNat, Int.reduceAdd, Int.reduceSub, Int.reduceMul, Int.reduceNeg, reduceCtorEq, Option.bind_some, Option.map_some, List.length_cons, List.length_nil, vcM, List.getElem?_toArray, List.getElem?_cons_zero, List.getElem?_cons_succ]) | skip
    (refine W_at c11_ok ?_; refine ⟨_, rfl, ?_⟩; simp (disch := first | omega | assumption | rfl | (simp only [vcS] <;> omega) | fail) only [↓ptV_l, ↓vcA, vcB, ↓vcD, vcE, ↓reduceIte, Nat.reduceEqDiff, Nat.reduceAdd, Nat.reduceMul, Nat.reduceLeDiff, Int.reduceLE, Int.reduceLT, Int.reduceEq, Int.reduceToNat, Int.reduceAdd, Int.reduceSub, Int.reduceMul, Int.reduceNeg, reduceCtorEq, Option.bind_some, Option.map_some, List.length_cons, List.length_nil, vcM, List.getElem?_toArray, List.getElem?_cons_zero, List.getElem?_cons_succ, Ret_returned])
    exact ⟨h1.set2 hm hk, ((hE1.ext hEd).mono fun _ h => h.elim).trans hk fun _ _ h => h⟩
  | false =>
    (refine W_at c11_ok ?_; refine ⟨_, rfl, ?_⟩; simp (disch := first | omega | assumption | rfl | (simp only [vcS] <;> omega) | fail) only [↓ptV_l, ↓vcA, vcB, ↓vcD, vcE, ↓reduceIte, Nat.reduceEqDiff, Nat.reduceAdd, Nat.reduceMul, Nat.reduceLeDiff, Int.reduceLE, Int.reduceLT, Int.reduceEq, Int.reduceToNat, Int.reduceAdd, Int.reduceSub, Int.reduceMul, Int.reduceNeg, reduceCtorEq, Option.bind_some, Option.map_some, List.length_cons, List.length_nil, vcM, List.getElem?_toArray, List.getElem?_cons_zero, List.getElem?_cons_succ])
    (refine W_at c11_ok ?_; refine ⟨_, rfl, ?_⟩; simp (disch := first | omega | assumption | rfl | (simp only [vcS] <;> omega) | fail) only [↓ptV_l, ↓vcA, vcB, ↓vcD, vcE, ↓reduceIte, Nat.reduceEqDiff, Nat.reduceAdd, Nat.reduceMul, Nat.reduceLeDiff, Int.reduceLE, Int.reduceLT, Int.reduceEq, Int.reduceToNat, Int.reduceAdd, Int.reduceSub, Int.reduceMul, Int.reduceNeg, reduceCtorEq, Option.bind_some, Option.map_some, List.length_cons, List.length_nil, vcM, List.getElem?_toArray, List.getElem?_cons_zero, List.getElem?_cons_succ])
    (refine W_at c11_ok ?_; refine ⟨_, rfl, ?_⟩; simp (disch := first | omega | assumption | rfl | (simp only [vcS] <;> omega) | fail) only [↓ptV_l, ↓vcA, vcB, ↓vcD, vcE, ↓reduceIte, Nat.reduceEqDiff, Nat.reduceAdd, Nat.reduceMul, Nat.reduceLeDiff, Int.reduceLE, Int.reduceLT, Int.reduceEq, Int.reduceToNat, Int.reduceAdd, Int.reduceSub, Int.reduceMul, Int.reduceNeg, reduceCtorEq, Option.bind_some, Option.map_some, List.length_cons, List.length_nil, vcM, List.getElem?_toArray, List.getElem?_cons_zero, List.getElem?_cons_succ, hc1, ldC_2, c4, hr])
    refine MG.del h1.m2 hk fun w' hm hk => ?_
    first | (simp (disch := first | omega | assumption | rfl | (simp only [vcS] <;> omega) | fail) only [↓ptV_l, ↓vcA, vcB, ↓vcD, vcE, ↓reduceIte, Nat.reduceEqDiff, Nat.reduceAdd, Nat.reduceMul, Nat.reduceLeDiff, Int.reduceLE, Int.reduceLT, Int.reduceEq, Int.reduceToNat, Int.reduceAdd, Int.reduceSub, Int.reduceMul, Int.reduceNeg, reduceCtorEq, Option.bind_some, Option.map_some, List.length_cons, List.length_nil, vcM, List.getElem?_toArray, List.getElem?_cons_zero, List.getElem?_cons_succ]) | skip
    (refine W_at c11_ok ?_; refine ⟨_, rfl, ?_⟩; simp (disch := first | omega | assumption | rfl | (simp only [vcS] <;> omega) | fail) only [↓ptV_l, ↓vcA, vcB, ↓vcD, vcE, ↓reduceIte, Nat.reduceEqDiff, Nat.reduceAdd, Nat.reduceMul, Nat.reduceLeDiff, Int.reduceLE, Int.reduceLT, Int.reduceEq, Int.reduceToNat, Int.reduceAdd, Int.reduceSub, Int.reduceMul, Int.reduceNeg, reduceCtorEq, Option.bind_some, Option.map_some, List.length_cons, List.length_nil, vcM, List.getElem?_toArray, List.getElem?_cons_zero, List.getElem?_cons_succ, Ret_returned])
    exact ⟨h1.set2 hm hk, ((hE1.ext hEd).mono fun _ h => h.elim).trans hk fun _ _ h => h⟩
set_option maxHeartbeats 1600000 in
theorem locked_ok (w : World) (lo hi b : Nat) (ov : Value) (r1 r2 r3 : Nat) (ids : List (List Int)) (recs locks labels : List KV) (h : LedAt w lo hi b ov r1 r2 r3 ids recs locks labels) (prev : List Int) (idx : Int) (hp : prev.length = 32) :
    Calls Try.prog 12 #[.pointer (some ⟨b, 0, none⟩), pK prev idx] w (Ret fun u w' => u = (getG (pK prev idx) locks).getD (.bool false) ∧ Ext w w') := by
  refine calls_of_cfg c12_ok (Nat.le_of_ble_eq_true rfl) ?_
  simp only [argE_nil, argE_cons, Nat.reduceAdd, Nat.zero_add]
  have hk := kokP idx hp
  have hs := pK_size idx hp
  have hf := pK_flat prev idx
  have hc := h.c
  unfold pK at hk ⊢
  generalize hA : (bv prev ++ [Value.int .u32 idx]).toArray = A at hk hs hf ⊢
  have hca : (Value.agg A).cells = A := rfl
  (refine W_at c12_ok ?_; refine ⟨_, rfl, ?_⟩; simp (disch := first | omega | assumption | rfl | (simp only [vcS] <;> omega) | fail) only [↓ptV_l, ↓vcA, vcB, ↓vcD, vcE, ↓reduceIte, Nat.reduceEqDiff, Nat.reduceAdd, Nat.reduceMul, Nat.reduceLeDiff, Int.reduceLE, Int.reduceLT, Int.reduceEq, Int.reduceToNat, Int.reduceAdd, Int.reduceSub, Int.reduceMul, Int.reduceNeg, reduceCtorEq, Option.bind_some, Option.map_some, List.length_cons, List.length_nil, vcM, List.getElem?_toArray, List.getElem?_cons_zero, List.getElem?_cons_succ, hf, hca, hs])
  have hE1 : Ext w (w.alloc (.cells A 27)) := (Keep.refl _ w).alloc _
  have c4 : (w.alloc (.cells A 27)).heap[w.heap.size]? = some (.cells A 27 (0, 0)) := heap_new _ _ _ rfl
  generalize World.alloc w _ = w1 at hE1 c4 ⊢
  generalize w.heap.size = p4 at c4 ⊢
  have hr : rdO (some (.cells A 27 (0, 0))) 0 33 = some A := rdO_all _ _ _ _ hs
  have hEd : Ext w1 w1.drew := (Keep.refl _ w1).drew
  have h1 := h.ext hE1
  have h1d := h1.ext hEd
  have hc1 := h1.c
  have hzv : zvR false [(1, Value.bool false)] = .bool false := rfl
  have hlk : lkpR layP true (.bool false) false w1 (.map (some r2)) (.agg A) = some ((getG (.agg A) locks).getD (.bool false)) := by
    rw [h1.m2.lkp (.bool false) hk false]
    cases getG (.agg A) locks <;> rfl
  have hlkd : lkpR layP true (.bool false) false w1.drew (.map (some r2)) (.agg A) = some ((getG (.agg A) locks).getD (.bool false)) := by
    rw [h1d.m2.lkp (.bool false) hk false]
    cases getG (.agg A) locks <;> rfl
  (refine W_at c12_ok ?_; refine ⟨_, rfl, ?_⟩; simp (disch := first | omega | assumption | rfl | (simp only [vcS] <;> omega) | fail) only [↓ptV_l, ↓vcA, vcB, ↓vcD, vcE, ↓reduceIte, Nat.reduceEqDiff, Nat.reduceAdd, Nat.reduceMul, Nat.reduceLeDiff, Int.reduceLE, Int.reduceLT, Int.reduceEq, Int.reduceToNat, Int.reduceAdd, Int.reduceSub, Int.reduceMul, Int.reduceNeg, reduceCtorEq, Option.bind_some, Option.map_some, List.length_cons, List.length_nil, vcM, List.getElem?_toArray, List.getElem?_cons_zero, List.getElem?_cons_succ, hc1, ldC_2, c4, hr, hzv, hlk, hlkd])
  (refine W_at c12_ok ?_; refine ⟨_, rfl, ?_⟩; simp (disch := first | omega | assumption | rfl | (simp only [vcS] <;> omega) | fail) only [↓ptV_l, ↓vcA, vcB, ↓vcD, vcE, ↓reduceIte, Nat.reduceEqDiff, Nat.reduceAdd, Nat.reduceMul, Nat.reduceLeDiff, Int.reduceLE, Int.reduceLT, Int.reduceEq, Int.reduceToNat, Int.reduceAdd, Int.reduceSub, Int.reduceMul, Int.reduceNeg, reduceCtorEq, Option.bind_some, Option.map_some, List.length_cons, List.length_nil, vcM, List.getElem?_toArray, List.getElem?_cons_zero, List.getElem?_cons_succ, Ret_returned])
  first | exact hE1.ext hEd | exact hE1 | exact ⟨rfl, hE1.ext hEd⟩
end Go.Proofs
namespace Go.Proofs
open Go.Vc
set_option maxRecDepth 10000

set_option maxHeartbeats 3200000 in
theorem lclone_ok (w : World) (lo hi b : Nat) (ov : Value) (r1 r2 r3 : Nat) (ids : List (List Int)) (recs locks labels : List KV) (h : LedAt w lo hi b ov r1 r2 r3 ids recs locks labels) (hn : ids.length ≤ 1000) :
    Calls Try.prog 7 #[.pointer (some ⟨b, 0, none⟩)] w (Ret fun u w' => ∃ b' ov' r1' r2' r3', u = .pointer (some ⟨b', 0, none⟩) ∧ LedAt w' w.heap.size w'.heap.size b' ov' r1' r2' r3' ids recs locks labels ∧ Ext w w') := by
  refine calls_of_cfg c7_ok (Nat.le_of_ble_eq_true rfl) ?_
  simp only [argE_nil, argE_cons, Nat.reduceAdd, Nat.zero_add]
  have hc := h.c
  have hEd : Ext w w.drew := (Keep.refl _ w).drew
  have hd := h.ext hEd
  have hcd := hd.c
  (refine W_at c7_ok ?_; refine ⟨_, rfl, ?_⟩; simp (disch := first | omega | assumption | rfl | (simp only [vcS] <;> omega) | fail) only [↓ptV_l, ↓vcA, vcB, ↓vcD, vcE, ↓reduceIte, Nat.reduceEqDiff, Nat.reduceAdd, Nat.reduceMul, Nat.reduceLeDiff, Int.reduceLE, Int.reduceLT, Int.reduceEq, Int.reduceToNat, Int.reduceAdd, Int.reduceSub, Int.reduceMul, Int.reduceNeg, reduceCtorEq, Option.bind_some, Option.map_some, List.length_cons, List.length_nil, vcM, List.getElem?_toArray, List.getElem?_cons_zero, List.getElem?_cons_succ])
  (refine W_at c7_ok ?_; refine ⟨_, rfl, ?_⟩; simp (disch := first | omega | assumption | rfl | (simp only [vcS] <;> omega) | fail) only [↓vcL1, ptS2_eq, ↓vcA, vcB, ↓vcD, vcE, ↓reduceIte, Nat.reduceEqDiff, Nat.reduceAdd, Nat.reduceMul, Nat.reduceLeDiff, Int.reduceLE, Int.reduceLT, Int.reduceEq, Int.reduceToNat, Int.reduceAdd, Int.reduceSub, Int.reduceMul, Int.reduceNeg, reduceCtorEq, Option.bind_some, Option.map_some, List.length_cons, List.length_nil, vcM, List.getElem?_toArray, List.getElem?_cons_zero, List.getElem?_cons_succ, hc, hcd, ldC_0, ldC_1, ldC_2, ldC_3])
  refine callV_ret (hclone_ok w.drew lo ov _ hd.ord (fun c hc => by obtain ⟨b, hb, rfl⟩ := List.mem_map.1 hc; exact bv_flat b) (by rw [List.length_map]; omega)) ?_
  rintro ov' w1 ⟨hO1, hE1⟩
  have h1 := hd.ext hE1
  have hc1 := h1.c
  refine ⟨⟨by rw [hc1]; rfl, by rw [hc1]; rfl, by rw [hc1]; rfl⟩, ?_⟩
  simp (disch := first | omega | assumption | rfl | (simp only [vcS] <;> omega) | fail) only [↓vcL2, ptS1_eq, ↓vcA, vcB, ↓vcD, vcE, ↓reduceIte, Nat.reduceEqDiff, Nat.reduceAdd, Nat.reduceMul, Nat.reduceLeDiff, Int.reduceLE, Int.reduceLT, Int.reduceEq, Int.reduceToNat, Int.reduceAdd, Int.reduceSub, Int.reduceMul, Int.reduceNeg, reduceCtorEq, Option.bind_some, Option.map_some, List.length_cons, List.length_nil, vcM, List.getElem?_toArray, List.getElem?_cons_zero, List.getElem?_cons_succ]
  refine callV_ret (cloneH_ok w1 r1 recs h1.m1) ?_
  rintro _ w2 ⟨r1', rfl, hM1, hE2, l1'⟩
  have h2 := h1.ext hE2
  have hc2 := h2.c
  refine ⟨⟨by rw [hc2]; rfl, by rw [hc2]; rfl⟩, ?_⟩
  simp (disch := first | omega | assumption | rfl | (simp only [vcS] <;> omega) | fail) only [↓vcL1, ptS2_eq, ↓vcA, vcB, ↓vcD, vcE, ↓reduceIte, Nat.reduceEqDiff, Nat.reduceAdd, Nat.reduceMul, Nat.reduceLeDiff, Int.reduceLE, Int.reduceLT, Int.reduceEq, Int.reduceToNat, Int.reduceAdd, Int.reduceSub, Int.reduceMul, Int.reduceNeg, reduceCtorEq, Option.bind_some, Option.map_some, List.length_cons, List.length_nil, vcM, List.getElem?_toArray, List.getElem?_cons_zero, List.getElem?_cons_succ]
  refine callV_ret (cloneP_ok w2 r2 locks h2.m2) ?_
  rintro _ w3 ⟨r2', rfl, hM2, hE3, l2'⟩
  have h3 := h2.ext hE3
  have hc3 := h3.c
  refine ⟨by rw [hc3]; rfl, ?_⟩
  simp (disch := first | omega | assumption | rfl | (simp only [vcS] <;> omega) | fail) only [↓vcL2, ptS1_eq, ↓vcA, vcB, ↓vcD, vcE, ↓reduceIte, Nat.reduceEqDiff, Nat.reduceAdd, Nat.reduceMul, Nat.reduceLeDiff, Int.reduceLE, Int.reduceLT, Int.reduceEq, Int.reduceToNat, Int.reduceAdd, Int.reduceSub, Int.reduceMul, Int.reduceNeg, reduceCtorEq, Option.bind_some, Option.map_some, List.length_cons, List.length_nil, vcM, List.getElem?_toArray, List.getElem?_cons_zero, List.getElem?_cons_succ]
  refine callV_ret (cloneS_ok w3 r3 labels h3.m3) ?_
  rintro _ w4 ⟨r3', rfl, hM3, hE4, l3'⟩
  have hO4 := ((hO1.ext hE2).ext hE3).ext hE4
  have hM14 := (hM1.ext hE3).ext hE4
  have hM24 := hM2.ext hE4
  have ho1 := hO1.one
  have hb : #[ov'] ++ (#[Value.map (some r1')] ++ (#[Value.map (some r2')] ++ #[Value.map (some r3')])) = ldC ov' r1' r2' r3' := rfl
  have hb2 : #[ov', Value.map (some r1'), Value.map (some r2'), Value.map (some r3')] = ldC ov' r1' r2' r3' := rfl
  have hz : (ldC ov' r1' r2' r3').size = 4 := rfl
  have hca : (Value.agg (ldC ov' r1' r2' r3')).cells = ldC ov' r1' r2' r3' := rfl
  have hfl := ldC_flat (r1 := r1') (r2 := r2') (r3 := r3') ho1
  have hcv : ov'.cells = #[ov'] := by obtain ⟨q, c, e, _⟩ := hO1.is; rw [e]; rfl
  first | (simp (disch := first | omega | assumption | rfl | (simp only [vcS] <;> omega) | fail) only [↓vcL1, ptS2_eq, ↓vcA, vcB, ↓vcD, vcE, ↓reduceIte, Nat.reduceEqDiff, Nat.reduceAdd, Nat.reduceMul, Nat.reduceLeDiff, Int.reduceLE, Int.reduceLT, Int.reduceEq, Int.reduceToNat, Int.reduceAdd, Int.reduceSub, Int.reduceMul, Int.reduceNeg, reduceCtorEq, Option.bind_some, Option.map_some, List.length_cons, List.length_nil, vcM, List.getElem?_toArray, List.getElem?_cons_zero, List.getElem?_cons_succ, hb, hb2, hz, hca, hfl, hcv]) | skip
  have hb3 : #[ov'] ++ (#[Value.map (some r1')] ++ #[Value.map (some r2'), Value.map (some r3')]) = ldC ov' r1' r2' r3' := rfl
  rw [hb3]
  have hE5 : Ext w4 (w4.alloc (.cells (ldC ov' r1' r2' r3') 55)) := (Keep.refl _ w4).alloc _
  have c5 : (w4.alloc (.cells (ldC ov' r1' r2' r3') 55)).heap[w4.heap.size]? = some (.cells (ldC ov' r1' r2' r3') 55 (0, 0)) := heap_new _ _ _ rfl
  have s5 : (w4.alloc (.cells (ldC ov' r1' r2' r3') 55)).heap.size = w4.heap.size + 1 := size_alloc _ _
  generalize World.alloc w4 _ = w5 at hE5 c5 s5 ⊢
  (refine W_at c7_ok ?_; refine ⟨_, rfl, ?_⟩; simp (disch := first | omega | assumption | rfl | (simp only [vcS] <;> omega) | fail) only [↓ptV_l, ↓vcA, vcB, ↓vcD, vcE, ↓reduceIte, Nat.reduceEqDiff, Nat.reduceAdd, Nat.reduceMul, Nat.reduceLeDiff, Int.reduceLE, Int.reduceLT, Int.reduceEq, Int.reduceToNat, Int.reduceAdd, Int.reduceSub, Int.reduceMul, Int.reduceNeg, reduceCtorEq, Option.bind_some, Option.map_some, List.length_cons, List.length_nil, vcM, List.getElem?_toArray, List.getElem?_cons_zero, List.getElem?_cons_succ, Ret_returned])
  have z0 : w.drew.heap.size = w.heap.size := rfl
  have z1 := hE1.size
  have z2 := hE2.size
  have z3 := hE3.size
  have z4 := hE4.size
  have y1 := hM1.lt
  have y2 := hM2.lt
  have y3 := hM3.lt
  refine ⟨w4.heap.size, ov', r1', r2', r3', rfl, ⟨c5, hO4.ext hE5, fun g hg => ?_, hM14.ext hE5, hM24.ext hE5, hM3.ext hE5, h.idl, h.rv, by omega, by omega, by omega, by omega, by omega, by omega, by omega⟩, (((hEd.ext hE1).ext hE2).ext hE3).ext (hE4.ext hE5)⟩
  obtain ⟨_, c, hc⟩ := hO1.blk hg
  have := lt_of_heap hc
  omega
set_option maxHeartbeats 3200000 in
theorem lsame_ok (w : World) (lo hi b lo2 hi2 b2 : Nat) (ov ov2 : Value) (r1 r2 r3 q1 q2 q3 : Nat) (ids : List (List Int)) (recs locks labels locks2 labels2 : List KV) (h : LedAt w lo hi b ov r1 r2 r3 ids recs locks labels) (h2 : LedAt w lo2 hi2 b2 ov2 q1 q2 q3 ids recs locks2 labels2) (hn : ids.length ≤ 1000)
    (hk : locks = [] ∨ locks.length ≠ locks2.length) (hl : labels = [] ∨ labels.length ≠ labels2.length) :
    Calls Try.prog 9 #[.pointer (some ⟨b, 0, none⟩), .pointer (some ⟨b2, 0, none⟩)] w (Ret fun u w' => u = .bool (decide (locks.length = locks2.length) && decide (labels.length = labels2.length)) ∧ Ext w w') := by
  refine calls_of_cfg c9_ok (Nat.le_of_ble_eq_true rfl) ?_
  simp only [argE_nil, argE_cons, Nat.reduceAdd, Nat.zero_add]
  have hc := h.c
  have hc2 := h2.c
  have hEd : Ext w w.drew := (Keep.refl _ w).drew
  have hd := h.ext hEd
  have hd2 := h2.ext hEd
  have hcd := hd.c
  have hcd2 := hd2.c
  (refine W_at c9_ok ?_; refine ⟨_, rfl, ?_⟩; simp (disch := first | omega | assumption | rfl | (simp only [vcS] <;> omega) | fail) only [↓ptV_l, ↓vcA, vcB, ↓vcD, vcE, ↓reduceIte, Nat.reduceEqDiff, Nat.reduceAdd, Nat.reduceMul, Nat.reduceLeDiff, Int.reduceLE, Int.reduceLT, Int.reduceEq, Int.reduceToNat, Int.reduceAdd, Int.reduceSub, Int.reduceMul, Int.reduceNeg, reduceCtorEq, Option.bind_some, Option.map_some, List.length_cons, List.length_nil, vcM, List.getElem?_toArray, List.getElem?_cons_zero, List.getElem?_cons_succ])
  (refine W_at c9_ok ?_; refine ⟨_, rfl, ?_⟩; simp (disch := first | omega | assumption | rfl | (simp only [vcS] <;> omega) | fail) only [↓vcL1, ptS2_eq, ↓vcA, vcB, ↓vcD, vcE, ↓reduceIte, Nat.reduceEqDiff, Nat.reduceAdd, Nat.reduceMul, Nat.reduceLeDiff, Int.reduceLE, Int.reduceLT, Int.reduceEq, Int.reduceToNat, Int.reduceAdd, Int.reduceSub, Int.reduceMul, Int.reduceNeg, reduceCtorEq, Option.bind_some, Option.map_some, List.length_cons, List.length_nil, vcM, List.getElem?_toArray, List.getElem?_cons_zero, List.getElem?_cons_succ, hc, hc2, hcd, hcd2, ldC_0])
  refine callV_ret (hequal_ok w.drew _ _ ov ov2 ids hd.ord hd2.ord h.idl (by omega)) ?_
  rintro _ w1 ⟨rfl, hE1⟩
  have k1 := hd.ext hE1
  have k2 := hd2.ext hE1
  have c1 := k1.c
  have c2 := k2.c
  simp (disch := first | omega | assumption | rfl | (simp only [vcS] <;> omega) | fail) only [↓vcL2, ptS1_eq, ↓vcA, vcB, ↓vcD, vcE, ↓reduceIte, Nat.reduceEqDiff, Nat.reduceAdd, Nat.reduceMul, Nat.reduceLeDiff, Int.reduceLE, Int.reduceLT, Int.reduceEq, Int.reduceToNat, Int.reduceAdd, Int.reduceSub, Int.reduceMul, Int.reduceNeg, reduceCtorEq, Option.bind_some, Option.map_some, List.length_cons, List.length_nil, vcM, List.getElem?_toArray, List.getElem?_cons_zero, List.getElem?_cons_succ, c1, c2, ldC_1]
  refine callV_ret (equalF_ok w1 r1 q1 recs k1.m1 k2.m1 h.rv) ?_
  rintro _ w2 ⟨rfl, hE2⟩
  have k3 := k1.ext hE2
  have k4 := k2.ext hE2
  have c3 := k3.c
  have c4 := k4.c
  simp (disch := first | omega | assumption | rfl | (simp only [vcS] <;> omega) | fail) only [↓vcL1, ptS2_eq, ↓vcA, vcB, ↓vcD, vcE, ↓reduceIte, Nat.reduceEqDiff, Nat.reduceAdd, Nat.reduceMul, Nat.reduceLeDiff, Int.reduceLE, Int.reduceLT, Int.reduceEq, Int.reduceToNat, Int.reduceAdd, Int.reduceSub, Int.reduceMul, Int.reduceNeg, reduceCtorEq, Option.bind_some, Option.map_some, List.length_cons, List.length_nil, vcM, List.getElem?_toArray, List.getElem?_cons_zero, List.getElem?_cons_succ, c3, c4, ldC_2]
  refine callV_ret (equalP_ok w2 r2 q2 locks locks2 k3.m2 k4.m2 hk) ?_
  rintro _ w3 ⟨rfl, hE3⟩
  have k5 := k3.ext hE3
  have k6 := k4.ext hE3
  have c5 := k5.c
  have c6 := k6.c
  by_cases hq : locks.length = locks2.length
  · have hq' : decide (locks.length = locks2.length) = true := decide_eq_true hq
    rw [hq']
    simp (disch := first | omega | assumption | rfl | (simp only [vcS] <;> omega) | fail) only [↓vcL2, ptS1_eq, ↓vcA, vcB, ↓vcD, vcE, ↓reduceIte, Nat.reduceEqDiff, Nat.reduceAdd, Nat.reduceMul, Nat.reduceLeDiff, Int.reduceLE, Int.reduceLT, Int.reduceEq, Int.reduceToNat, Int.reduceAdd, Int.reduceSub, Int.reduceMul, Int.reduceNeg, reduceCtorEq, Option.bind_some, Option.map_some, List.length_cons, List.length_nil, vcM, List.getElem?_toArray, List.getElem?_cons_zero, List.getElem?_cons_succ, c5, c6, ldC_3]
    refine callV_ret (equalS_ok w3 r3 q3 labels labels2 k5.m3 k6.m3 hl) ?_
    rintro _ w4 ⟨rfl, hE4⟩
    first | (simp (disch := first | omega | assumption | rfl | (simp only [vcS] <;> omega) | fail) only [↓vcL1, ptS2_eq, ↓vcA, vcB, ↓vcD, vcE, ↓reduceIte, Nat.reduceEqDiff, Nat.reduceAdd, Nat.reduceMul, Nat.reduceLeDiff, Int.reduceLE, Int.reduceLT, Int.reduceEq, Int.reduceToNat, Int.reduceAdd, Int.reduceSub, Int.reduceMul, Int.reduceNeg, reduceCtorEq, Option.bind_some, Option.map_some, List.length_cons, List.length_nil, vcM, List.getElem?_toArray, List.getElem?_cons_zero, List.getElem?_cons_succ]) | skip
    (refine W_at c9_ok ?_; refine ⟨_, rfl, ?_⟩; simp (disch := first | omega | assumption | rfl | (simp only [vcS] <;> omega) | fail) only [↓ptV_l, ↓vcA, vcB, ↓vcD, vcE, ↓reduceIte, Nat.reduceEqDiff, Nat.reduceAdd, Nat.reduceMul, Nat.reduceLeDiff, Int.reduceLE, Int.reduceLT, Int.reduceEq, Int.reduceToNat, Int.reduceAdd, Int.reduceSub, Int.reduceMul, Int.reduceNeg, reduceCtorEq, Option.bind_some, Option.map_some, List.length_cons, List.length_nil, vcM, List.getElem?_toArray, List.getElem?_cons_zero, List.getElem?_cons_succ, Ret_returned])
    rw [Bool.true_and]
    exact ⟨rfl, ((hEd.ext hE1).ext hE2).ext (hE3.ext hE4)⟩
  · have hq' : decide (locks.length = locks2.length) = false := decide_eq_false hq
    rw [hq']
    simp (disch := first | omega | assumption | rfl | (simp only [vcS] <;> omega) | fail) only [↓vcL2, ptS1_eq, ↓vcA, vcB, ↓vcD, vcE, ↓reduceIte, Nat.reduceEqDiff, Nat.reduceAdd, Nat.reduceMul, Nat.reduceLeDiff, Int.reduceLE, Int.reduceLT, Int.reduceEq, Int.reduceToNat, Int.reduceAdd, Int.reduceSub, Int.reduceMul, Int.reduceNeg, reduceCtorEq, Option.bind_some, Option.map_some, List.length_cons, List.length_nil, vcM, List.getElem?_toArray, List.getElem?_cons_zero, List.getElem?_cons_succ]
    (refine W_at c9_ok ?_; refine ⟨_, rfl, ?_⟩; simp (disch := first | omega | assumption | rfl | (simp only [vcS] <;> omega) | fail) only [↓ptV_l, ↓vcA, vcB, ↓vcD, vcE, ↓reduceIte, Nat.reduceEqDiff, Nat.reduceAdd, Nat.reduceMul, Nat.reduceLeDiff, Int.reduceLE, Int.reduceLT, Int.reduceEq, Int.reduceToNat, Int.reduceAdd, Int.reduceSub, Int.reduceMul, Int.reduceNeg, reduceCtorEq, Option.bind_some, Option.map_some, List.length_cons, List.length_nil, vcM, List.getElem?_toArray, List.getElem?_cons_zero, List.getElem?_cons_succ, Ret_returned])
    rw [Bool.false_and]
    exact ⟨rfl, ((hEd.ext hE1).ext hE2).ext hE3⟩
end Go.Proofs
namespace Go.Proofs
open Go.Vc
set_option maxRecDepth 10000

theorem sizeF_byt2 {n : Int} (h : 0 ≤ n) : byt (sizeF n) := by
  unfold sizeF
  have c : ∀ (f : Int) (k : Nat), 0 ≤ f ∧ f ≤ 255 → byt (f :: lowF k n) := fun f k hf x hx => by
    rcases List.mem_cons.1 hx with rfl | hx
    · exact hf
    · exact lowF_byt k n x hx
  split
  · intro x hx; simp at hx; omega
  · split
    · exact c _ _ (by omega)
    · split
      · exact c _ _ (by omega)
      · exact c _ _ (by omega)
theorem flat_byt2 {α : Type} {f : α → List Int} {l : List α} (h : ∀ x ∈ l, byt (f x)) : byt (l.flatMap f) := fun b hb => by
  obtain ⟨x, hx, hb⟩ := List.mem_flatMap.1 hb
  exact h x hx b hb
theorem encF_byt2 {t : TxV} (h : t.Ok) : byt (encF t) := by
  unfold encF
  refine byt_app (byt_app (byt_app (byt_app (byt_app (lowF_byt _ _) (sizeF_byt2 (by omega))) (flat_byt2 fun x hx => ?_)) (sizeF_byt2 (by omega))) (flat_byt2 fun y hy => ?_)) (lowF_byt _ _)
  · have hx := h.ins x hx
    exact byt_app (byt_app (byt_app hx.prev (lowF_byt _ _)) (byt_app (sizeF_byt2 (by omega)) hx.script)) (lowF_byt _ _)
  · exact byt_app (lowF_byt _ _) (byt_app (sizeF_byt2 (by omega)) (h.outs y hy).script)
theorem encF_len2 {t : TxV} (hok : t.Ok) (h : t.Few 100 1000) : (encF t).length ≤ 300000 := by
  have a := flatI_len (l := t.ins) (m := 1000) (fun x hx => (hok.ins x hx).len) h.iscr
  have b := flatO_len (l := t.outs) (m := 1000) h.oscr
  have c := h.ins
  have d := h.outs
  have e := (sizeF_len (n := (t.ins.length : Int))).2
  have f := (sizeF_len (n := (t.outs.length : Int))).2
  simp only [encF, List.length_append, lowF_len]
  omega
theorem txC_flat2 {t : TxV} {iv ov : Value} {w : World} (hT : TxR w iv ov t) : flat (txC t iv ov) := by
  have hi1 := ListR.one hT.ins
  have ho1 := ListR.one hT.outs
  intro y hy; simp only [txC, List.mem_toArray, List.mem_cons, List.not_mem_nil, or_false] at hy; rcases hy with rfl | rfl | rfl | rfl <;> first | rfl | assumption
def idF (t : TxV) : List Int := dblF (encF t)
set_option maxHeartbeats 1600000 in
theorem id_ok (w : World) (iv ov : Value) (t : TxV) (hT : TxR w iv ov t) (hok : t.Ok) (hf : t.Few 100 1000) :
    Calls Try.prog 14 #[.agg (txC t iv ov)] w (Ret fun u w' => u = .agg (bv (idF t)).toArray ∧ Ext w w') := by
  refine calls_of_cfg c14_ok (Nat.le_of_ble_eq_true rfl) ?_
  simp only [argE_nil, argE_cons, Nat.reduceAdd, Nat.zero_add]
  have hfx := txC_flat2 hT
  have hcx : (Value.agg (txC t iv ov)).cells = txC t iv ov := rfl
  have hzx := txC_sz t iv ov
  (refine W_at c14_ok ?_; refine ⟨_, rfl, ?_⟩; simp (disch := first | omega | assumption | rfl | (simp only [vcS] <;> omega) | fail) only [↓ptV_l, ↓vcA, vcB, ↓vcD, vcE, ↓reduceIte, Nat.reduceEqDiff, Nat.reduceAdd, Nat.reduceMul, Nat.reduceLeDiff, Int.reduceLE, Int.reduceLT, Int.reduceEq, Int.reduceToNat, Int.reduceAdd, Int.reduceSub, Int.reduceMul, Int.reduceNeg, reduceCtorEq, Option.bind_some, Option.map_some, List.length_cons, List.length_nil, vcM, List.getElem?_toArray, List.getElem?_cons_zero, List.getElem?_cons_succ, hfx, hcx, hzx])
  have hE1 : Ext w (w.alloc (.cells (txC t iv ov) 40)) := (Keep.refl _ w).alloc _
  have c1 : (w.alloc (.cells (txC t iv ov) 40)).heap[w.heap.size]? = some (.cells (txC t iv ov) 40 (0, 0)) := heap_new _ _ _ rfl
  have s1 : (w.alloc (.cells (txC t iv ov) 40)).heap.size = w.heap.size + 1 := size_alloc _ _
  generalize World.alloc w _ = w1 at hE1 c1 s1 ⊢
  have hE2 : Ext w1 (w1.alloc (.cells (zc [(32, .int .u8 0)]) 24)) := (Keep.refl _ w1).alloc _
  have c2 : (w1.alloc (.cells (zc [(32, .int .u8 0)]) 24)).heap[w.heap.size + 1]? = some (.cells (zc [(32, .int .u8 0)]) 24 (0, 0)) := heap_new _ _ _ s1.symm
  generalize World.alloc w1 _ = w2 at hE2 c2 ⊢
  have c12 := hE2.at c1 (fun h => h)
  have hE := hE1.ext hE2
  have r4 : rdO (some (.cells (txC t iv ov) 40 (0, 0))) 0 4 = some (txC t iv ov) := rdO_all _ _ _ _ rfl
  have l2 : w.heap.size ≤ w.heap.size + 1 := by omega
  generalize w.heap.size + 1 = p2 at c2 l2 ⊢
  (refine W_at c14_ok ?_; refine ⟨_, rfl, ?_⟩; simp (disch := first | omega | assumption | rfl | (simp only [vcS] <;> omega) | fail) only [↓vcL1, ptS2_eq, ↓vcA, vcB, ↓vcD, vcE, ↓reduceIte, Nat.reduceEqDiff, Nat.reduceAdd, Nat.reduceMul, Nat.reduceLeDiff, Int.reduceLE, Int.reduceLT, Int.reduceEq, Int.reduceToNat, Int.reduceAdd, Int.reduceSub, Int.reduceMul, Int.reduceNeg, reduceCtorEq, Option.bind_some, Option.map_some, List.length_cons, List.length_nil, vcM, List.getElem?_toArray, List.getElem?_cons_zero, List.getElem?_cons_succ, c12, r4])
  refine callV_ret (encode_ok w2 iv ov t (hT.ext hE) hok hf) ?_
  intro u w3 hu
  simp (disch := first | omega | assumption | rfl | (simp only [vcS] <;> omega) | fail) only [↓vcL2, ptS1_eq, ↓vcA, vcB, ↓vcD, vcE, ↓reduceIte, Nat.reduceEqDiff, Nat.reduceAdd, Nat.reduceMul, Nat.reduceLeDiff, Int.reduceLE, Int.reduceLT, Int.reduceEq, Int.reduceToNat, Int.reduceAdd, Int.reduceSub, Int.reduceMul, Int.reduceNeg, reduceCtorEq, Option.bind_some, Option.map_some, List.length_cons, List.length_nil, vcM, List.getElem?_toArray, List.getElem?_cons_zero, List.getElem?_cons_succ]
  have hl := encF_len2 hok hf
  refine callV_ret (double_ok w3 u _ hu.own.rd (encF_byt2 hok) (by omega)) ?_
  rintro _ w4 ⟨rfl, hE4⟩
  have c24 := hE4.at (hu.ext.at c2 (fun h => h)) (fun h => h)
  have hzz : (zc [(32, Value.int .u8 0)]).size = 32 := rfl
  have s32 : (bv (dblF (encF t))).toArray.size = 32 := by rw [bva_size, dblF_len]
  have o32 : okO (some (.cells (zc [(32, .int .u8 0)]) 24 (0, 0))) 0 32 = True := by simp only [okO, hzz]; simp
  first | (simp (disch := first | omega | assumption | rfl | (simp only [vcS] <;> omega) | fail) only [↓vcL1, ptS2_eq, ↓vcA, vcB, ↓vcD, vcE, ↓reduceIte, Nat.reduceEqDiff, Nat.reduceAdd, Nat.reduceMul, Nat.reduceLeDiff, Int.reduceLE, Int.reduceLT, Int.reduceEq, Int.reduceToNat, Int.reduceAdd, Int.reduceSub, Int.reduceMul, Int.reduceNeg, reduceCtorEq, Option.bind_some, Option.map_some, List.length_cons, List.length_nil, vcM, List.getElem?_toArray, List.getElem?_cons_zero, List.getElem?_cons_succ, c24, s32, o32]) | skip
  refine ⟨bv_flat _, ?_⟩
  have d9 : (w4.putN p2 0 (bv (dblF (encF t))).toArray).heap[p2]? = some (.cells (bv (dblF (encF t))).toArray 24 (0, 0)) := by
    rw [heap_putN_eq c24, splice_all (by rw [s32]; rfl)]
  have hr32 : rdO (some (.cells (bv (dblF (encF t))).toArray 24 (0, 0))) 0 32 = some (bv (dblF (encF t))).toArray := rdO_all _ _ _ _ s32
  (refine W_at c14_ok ?_; refine ⟨_, rfl, ?_⟩; simp (disch := first | omega | assumption | rfl | (simp only [vcS] <;> omega) | fail) only [↓ptV_l, ↓vcA, vcB, ↓vcD, vcE, ↓reduceIte, Nat.reduceEqDiff, Nat.reduceAdd, Nat.reduceMul, Nat.reduceLeDiff, Int.reduceLE, Int.reduceLT, Int.reduceEq, Int.reduceToNat, Int.reduceAdd, Int.reduceSub, Int.reduceMul, Int.reduceNeg, reduceCtorEq, Option.bind_some, Option.map_some, List.length_cons, List.length_nil, vcM, List.getElem?_toArray, List.getElem?_cons_zero, List.getElem?_cons_succ, d9, hr32, Ret_returned])
  exact ⟨rfl, ((hE.ext hu.ext).ext hE4).trans ((Keep.refl (fun g => g = p2) w4).putN _ fun _ => rfl) fun g hg e => by omega⟩
/-- A record's cells. -/
def recC (t : TxV) (iv ov : Value) (K : List Int) : Array Value := txC t iv ov ++ ((bv K).toArray ++ #[.bool false])
theorem recC_size {t : TxV} {iv ov : Value} {K : List Int} (h : K.length = 32) : (recC t iv ov K).size = 37 := by simp [recC, txC, bv_len, h]
theorem recC_36 {t : TxV} {iv ov : Value} {K : List Int} (h : K.length = 32) : (recC t iv ov K)[36]? = some (.bool false) := by
  simp [recC, txC, Array.getElem?_append, bv_len, h]
theorem recC_flat {w : World} {t : TxV} {iv ov : Value} {K : List Int} (h : TxR w iv ov t) : flat (recC t iv ov K) := by
  have h1 := txC_flat2 h
  have h2 := bv_flat K
  intro y hy
  simp only [recC, Array.toList_append, List.mem_append] at hy
  rcases hy with hy | hy | hy
  · exact h1 y hy
  · exact h2 y hy
  · simp at hy; subst hy; rfl
theorem recV_of {w : World} {t : TxV} {iv ov : Value} {K : List Int} (h : TxR w iv ov t) (hl : K.length = 32) : RecV (.agg (bv K).toArray, .agg (recC t iv ov K)) :=
  ⟨⟨K, rfl, hl⟩, ⟨_, rfl, recC_size hl, recC_flat h, recC_36 hl⟩⟩
end Go.Proofs
namespace Go.Proofs
open Go.Vc
set_option maxRecDepth 10000

theorem ListN.toR {α : Type} {R : Nat → World → Array Value → α → Prop} {R' : World → Array Value → α → Prop} {T size m : Nat} {w : World} {v : Value} {l : List α} (h : ListN R T size m w v l) (hR : ∀ c x, R m w c x → R' w c x) : ListR R' size w v l := by
  obtain ⟨cs, a1, a2, a3⟩ := h
  obtain ⟨q, c, f1, f2⟩ := a2.is
  have a4 := a2.mx
  exact ⟨cs, a1, a2.sz, a2.rd, ⟨q, c, by rw [f1, a1], by omega⟩, by omega, fun i x y => hR _ _ (a3 i x y)⟩
theorem zRec_flat : flat (zc [(1, Value.int .i32 0), (2, .slice none 0 0), (1, .int .u32 0), (32, .int .u8 0), (1, .bool false)]) := by
  intro y hy
  have : y ∈ runs [(1, Value.int .i32 0), (2, .slice none 0 0), (1, .int .u32 0), (32, .int .u8 0), (1, .bool false)] := hy
  simp only [runs, List.mem_append, List.mem_replicate, List.not_mem_nil, or_false] at this
  rcases this with ⟨_, rfl⟩ | ⟨_, rfl⟩ | ⟨_, rfl⟩ | ⟨_, rfl⟩ | ⟨_, rfl⟩ <;> rfl
theorem putG_new {k v : Value} {l : List KV} (h : getG k l = none) : putG k v l = l ++ [(k, v)] := by
  unfold getG at h
  unfold putG
  cases hq : idxG k l with
  | none => rfl
  | some i =>
    obtain ⟨p, h1, _⟩ := idxG_lt hq
    rw [hq] at h
    simp [h1] at h
/-- What lies in blocks of other types stays. -/
def OffL (S : Nat → Prop) (w : World) : Prop := ∀ g, S g → ∀ c T, w.heap[g]? = some (.cells c T (0, 0)) → T = 24 ∨ T = 55
theorem OffL.ne {S : Nat → Prop} {w : World} (h : OffL S w) {T : TypeId} (h1 : T ≠ 24) (h2 : T ≠ 55) : ∀ g, S g → ∀ c, w.heap[g]? ≠ some (.cells c T (0, 0)) := fun g hg c e => by
  rcases h g hg c T e with h | h
  · exact h1 h
  · exact h2 h
theorem InsN.keepL {m : Nat} {S : Nat → Prop} {w w' : World} {v : Value} {l : List TxI} (h : InsN m w v l) (k : Keep S w w') (hS : OffL S w) : InsN m w' v l :=
  ListN.keepT h k (hS.ne (by decide) (by decide)) fun _ _ h => h.keepT k fun g hg c => ⟨hS.ne (by decide) (by decide) g hg c, hS.ne (by decide) (by decide) g hg c⟩
theorem OusN.keepL {m : Nat} {S : Nat → Prop} {w w' : World} {v : Value} {l : List TxO} (h : OusN m w v l) (k : Keep S w w') (hS : OffL S w) : OusN m w' v l :=
  ListN.keepT h k (hS.ne (by decide) (by decide)) fun _ _ h => h.keepT k (hS.ne (by decide) (by decide))
theorem LedAt.set1 {w w' : World} {lo hi b : Nat} {ov : Value} {r1 r2 r3 : Nat} {ids : List (List Int)} {recs locks labels : List KV} (h : LedAt w lo hi b ov r1 r2 r3 ids recs locks labels) {recs' : List KV} (hm : MG layH true w' r1 recs') (k : Keep (fun g => g = r1) w w') (hv : ∀ p ∈ recs', RecV p) : LedAt w' lo hi b ov r1 r2 r3 ids recs' locks labels := by
  have nb : b ≠ r1 := fun e => by obtain ⟨es, c, h1, _⟩ := h.m1; have := h.c; rw [e, h1] at this; cases this
  have no : ∀ g, blk ov g → g ≠ r1 := fun g hg e => by obtain ⟨_, c, hc⟩ := h.ord.blk hg; obtain ⟨es, c', h1, _⟩ := h.m1; rw [e, h1] at hc; cases hc
  exact ⟨k.at h.c nb, h.ord.keep k no, h.oh, hm, h.m2.keep k (Ne.symm h.n12), h.m3.keep k (Ne.symm h.n13), h.idl, hv, h.n12, h.n13, h.n23, h.lb, h.l1, h.l2, h.l3⟩
set_option maxHeartbeats 6400000 in
theorem add_ok2 (w : World) (lo hi b : Nat) (ov : Value) (r1 r2 r3 : Nat) (ids : List (List Int)) (recs locks labels : List KV) (h : LedAt w lo hi b ov r1 r2 r3 ids recs locks labels) (hhi : hi ≤ w.heap.size) (iv ov1 : Value) (t : TxV) (hT : TxR w iv ov1 t) (hok : t.Ok) (hf : t.Few 100 1000) (hs : t.Sm) (hn : ids.length ≤ 100) :
    Calls Try.prog 6 #[.pointer (some ⟨b, 0, none⟩), .agg (txC t iv ov1)] w (Ret fun u w' => ∃ ov' ids' recs', LedAt w' lo w'.heap.size b ov' r1 r2 r3 ids' recs' locks labels ∧ ids'.length ≤ ids.length + 1 ∧ Keep (fun g => lo ≤ g ∧ g < hi) w w' ∧
      ((getG (.agg (bv (idF t)).toArray) recs = none ∧ u = .bool true ∧ ids' = ids ++ [idF t] ∧ ∃ vi vo, recs' = recs ++ [(.agg (bv (idF t)).toArray, .agg (recC t vi vo (idF t)))] ∧ TxR w' vi vo t) ∨ (getG (.agg (bv (idF t)).toArray) recs ≠ none ∧ u = .bool false ∧ ids' = ids ∧ recs' = recs ∧ Ext w w'))) := by
  refine calls_of_cfg c6_ok (Nat.le_of_ble_eq_true rfl) ?_
  simp only [argE_nil, argE_cons, Nat.reduceAdd, Nat.zero_add]
  have hfx := txC_flat2 hT
  have hcx : (Value.agg (txC t iv ov1)).cells = txC t iv ov1 := rfl
  have hzx := txC_sz t iv ov1
  have hKl : (idF t).length = 32 := dblF_len _
  (refine W_at c6_ok ?_; refine ⟨_, rfl, ?_⟩; simp (disch := first | omega | assumption | rfl | (simp only [vcS] <;> omega) | fail) only [↓ptV_l, ↓vcA, vcB, ↓vcD, vcE, ↓reduceIte, Nat.reduceEqDiff, Nat.reduceAdd, Nat.reduceMul, Nat.reduceLeDiff, Int.reduceLE, Int.reduceLT, Int.reduceEq, Int.reduceToNat, Int.reduceAdd, Int.reduceSub, Int.reduceMul, Int.reduceNeg, reduceCtorEq, Option.bind_some, Option.map_some, List.length_cons, List.length_nil, vcM, List.getElem?_toArray, List.getElem?_cons_zero, List.getElem?_cons_succ, hfx, hcx, hzx])
  have hE1 : Ext w (w.alloc (.cells (txC t iv ov1) 40)) := (Keep.refl _ w).alloc _
  have c3 : (w.alloc (.cells (txC t iv ov1) 40)).heap[w.heap.size]? = some (.cells (txC t iv ov1) 40 (0, 0)) := heap_new _ _ _ rfl
  generalize World.alloc w _ = w1 at hE1 c3 ⊢
  generalize hp3 : w.heap.size = p3 at c3 ⊢
  have r4 : rdO (some (.cells (txC t iv ov1) 40 (0, 0))) 0 4 = some (txC t iv ov1) := rdO_all _ _ _ _ rfl
  -- its name
  (refine W_at c6_ok ?_; refine ⟨_, rfl, ?_⟩; simp (disch := first | omega | assumption | rfl | (simp only [vcS] <;> omega) | fail) only [↓ptV_l, ↓vcA, vcB, ↓vcD, vcE, ↓reduceIte, Nat.reduceEqDiff, Nat.reduceAdd, Nat.reduceMul, Nat.reduceLeDiff, Int.reduceLE, Int.reduceLT, Int.reduceEq, Int.reduceToNat, Int.reduceAdd, Int.reduceSub, Int.reduceMul, Int.reduceNeg, reduceCtorEq, Option.bind_some, Option.map_some, List.length_cons, List.length_nil, vcM, List.getElem?_toArray, List.getElem?_cons_zero, List.getElem?_cons_succ, c3, r4])
  refine callV_ret (id_ok w1 iv ov1 t (hT.ext hE1) hok hf) ?_
  rintro _ w2 ⟨rfl, hE2⟩
  have c32 := hE2.at c3 (fun h => h)
  have hE02 := hE1.ext hE2
  generalize idF t = K at hKl
  have s32 : (bv K).toArray.size = 32 := by rw [bva_size, hKl]
  have hzz : (zc [(32, Value.int .u8 0)]).size = 32 := rfl
  first | (simp (disch := first | omega | assumption | rfl | (simp only [vcS] <;> omega) | fail) only [↓ptV_l, ↓vcA, vcB, ↓vcD, vcE, ↓reduceIte, Nat.reduceEqDiff, Nat.reduceAdd, Nat.reduceMul, Nat.reduceLeDiff, Int.reduceLE, Int.reduceLT, Int.reduceEq, Int.reduceToNat, Int.reduceAdd, Int.reduceSub, Int.reduceMul, Int.reduceNeg, reduceCtorEq, Option.bind_some, Option.map_some, List.length_cons, List.length_nil, vcM, List.getElem?_toArray, List.getElem?_cons_zero, List.getElem?_cons_succ, s32]) | skip
  refine ⟨bv_flat _, ?_⟩
  have hE3 : Ext w2 ((w2.alloc (.cells (zc [(32, .int .u8 0)]) 24)).putN w2.heap.size 0 (bv K).toArray) := ((Keep.refl _ w2).alloc _).putN _ (by intro hh; exfalso; omega)
  have c5 : ((w2.alloc (.cells (zc [(32, .int .u8 0)]) 24)).putN w2.heap.size 0 (bv K).toArray).heap[w2.heap.size]? = some (.cells (bv K).toArray 24 (0, 0)) := by
    rw [heap_putN_eq (heap_new _ _ _ rfl), splice_all (by rw [s32]; rfl)]
  generalize World.putN _ _ _ _ = w3 at hE3 c5 ⊢
  generalize w2.heap.size = p5 at c5 ⊢
  have hE03 := hE02.ext hE3
  have c33 := hE3.at c32 (fun h => h)
  have h3 := h.ext hE03
  have hc3 := h3.c
  have r5 : rdO (some (.cells (bv K).toArray 24 (0, 0))) 0 32 = some (bv K).toArray := rdO_all _ _ _ _ s32
  have hzv : zvR true [(1, Value.int .i32 0), (2, .slice none 0 0), (1, .int .u32 0), (32, .int .u8 0), (1, .bool false)] = .agg (zc [(1, Value.int .i32 0), (2, .slice none 0 0), (1, .int .u32 0), (32, .int .u8 0), (1, .bool false)]) := rfl
  have hz37 : (zc [(1, Value.int .i32 0), (2, .slice none 0 0), (1, .int .u32 0), (32, .int .u8 0), (1, .bool false)]).size = 37 := rfl
  have hEd : Ext w3 w3.drew := (Keep.refl _ w3).drew
  have hEa : Ext w3.drew (w3.drew.alloc (.cells (zc [(1, .int .i32 0), (2, .slice none 0 0), (1, .int .u32 0), (32, .int .u8 0), (1, .bool false)]) 58)) := (Keep.refl _ w3.drew).alloc _
  have h3a := h3.ext (hEd.ext hEa)
  have hc3a := h3a.c
  have c5a := (hEd.ext hEa).at c5 (fun h => h)
  -- is it there?
  cases hg : getG (.agg (bv K).toArray) recs with
  | some v =>
    obtain ⟨R, hR, hRs, hRf, _⟩ := (h.rv _ (getG_mem hg)).val
    simp only at hR
    subst hR
    have hlk : ∀ z wz, MG layH true wz r1 recs → lkpR layH true z true wz (.map (some r1)) (.agg (bv K).toArray) = some (.tuple #[.agg R, .bool true]) := fun z wz hm => by
      rw [hm.lkp z (kokH hKl) true, hg]; rfl
    have hlk3 := fun z => hlk z _ h3.m1
    have hlk3d := fun z => hlk z _ (h3.ext hEd).m1
    have hlk3a := fun z => hlk z _ h3a.m1
    (refine W_at c6_ok ?_; refine ⟨_, rfl, ?_⟩; simp (disch := first | omega | assumption | rfl | (simp only [vcS] <;> omega) | fail) only [↓vcL1, ptS2_eq, ↓vcA, vcB, ↓vcD, vcE, ↓reduceIte, Nat.reduceEqDiff, Nat.reduceAdd, Nat.reduceMul, Nat.reduceLeDiff, Int.reduceLE, Int.reduceLT, Int.reduceEq, Int.reduceToNat, Int.reduceAdd, Int.reduceSub, Int.reduceMul, Int.reduceNeg, reduceCtorEq, Option.bind_some, Option.map_some, List.length_cons, List.length_nil, vcM, List.getElem?_toArray, List.getElem?_cons_zero, List.getElem?_cons_succ, hc3, hc3a, ldC_1, c5, c5a, r5, hlk3, hlk3d, hlk3a, hRs])
    refine ⟨hRf, by rw [hz37]; exact Nat.le_refl _, ?_⟩
    have z0 : w3.drew.heap.size = w3.heap.size := rfl
    have hE4 : Ext w3.drew ((w3.drew.alloc (.cells (zc [(1, .int .i32 0), (2, .slice none 0 0), (1, .int .u32 0), (32, .int .u8 0), (1, .bool false)]) 58)).putN w3.heap.size 0 R) := ((Keep.refl _ w3.drew).alloc _).putN _ (by intro hh; exfalso; omega)
    replace hE4 := hEd.ext hE4
    generalize World.putN _ _ _ _ = w4 at hE4 ⊢
    (refine W_at c6_ok ?_; refine ⟨_, rfl, ?_⟩; simp (disch := first | omega | assumption | rfl | (simp only [vcS] <;> omega) | fail) only [↓ptV_l, ↓vcA, vcB, ↓vcD, vcE, ↓reduceIte, Nat.reduceEqDiff, Nat.reduceAdd, Nat.reduceMul, Nat.reduceLeDiff, Int.reduceLE, Int.reduceLT, Int.reduceEq, Int.reduceToNat, Int.reduceAdd, Int.reduceSub, Int.reduceMul, Int.reduceNeg, reduceCtorEq, Option.bind_some, Option.map_some, List.length_cons, List.length_nil, vcM, List.getElem?_toArray, List.getElem?_cons_zero, List.getElem?_cons_succ])
    (refine W_at c6_ok ?_; refine ⟨_, rfl, ?_⟩; simp (disch := first | omega | assumption | rfl | (simp only [vcS] <;> omega) | fail) only [↓ptV_l, ↓vcA, vcB, ↓vcD, vcE, ↓reduceIte, Nat.reduceEqDiff, Nat.reduceAdd, Nat.reduceMul, Nat.reduceLeDiff, Int.reduceLE, Int.reduceLT, Int.reduceEq, Int.reduceToNat, Int.reduceAdd, Int.reduceSub, Int.reduceMul, Int.reduceNeg, reduceCtorEq, Option.bind_some, Option.map_some, List.length_cons, List.length_nil, vcM, List.getElem?_toArray, List.getElem?_cons_zero, List.getElem?_cons_succ])
    (refine W_at c6_ok ?_; refine ⟨_, rfl, ?_⟩; simp (disch := first | omega | assumption | rfl | (simp only [vcS] <;> omega) | fail) only [↓ptV_l, ↓vcA, vcB, ↓vcD, vcE, ↓reduceIte, Nat.reduceEqDiff, Nat.reduceAdd, Nat.reduceMul, Nat.reduceLeDiff, Int.reduceLE, Int.reduceLT, Int.reduceEq, Int.reduceToNat, Int.reduceAdd, Int.reduceSub, Int.reduceMul, Int.reduceNeg, reduceCtorEq, Option.bind_some, Option.map_some, List.length_cons, List.length_nil, vcM, List.getElem?_toArray, List.getElem?_cons_zero, List.getElem?_cons_succ])
    (refine W_at c6_ok ?_; refine ⟨_, rfl, ?_⟩; simp (disch := first | omega | assumption | rfl | (simp only [vcS] <;> omega) | fail) only [↓ptV_l, ↓vcA, vcB, ↓vcD, vcE, ↓reduceIte, Nat.reduceEqDiff, Nat.reduceAdd, Nat.reduceMul, Nat.reduceLeDiff, Int.reduceLE, Int.reduceLT, Int.reduceEq, Int.reduceToNat, Int.reduceAdd, Int.reduceSub, Int.reduceMul, Int.reduceNeg, reduceCtorEq, Option.bind_some, Option.map_some, List.length_cons, List.length_nil, vcM, List.getElem?_toArray, List.getElem?_cons_zero, List.getElem?_cons_succ, Ret_returned])
    have hE := hE03.ext hE4
    exact ⟨ov, ids, recs, (h.ext hE).wide (by have := hE.size; omega), by omega, hE.mono fun _ h => h.elim, .inr ⟨(by intro h; cases h), rfl, rfl, hE⟩⟩
  | none =>
    have hlk : ∀ z wz, MG layH true wz r1 recs → lkpR layH true z true wz (.map (some r1)) (.agg (bv K).toArray) = some (.tuple #[z, .bool false]) := fun z wz hm => by
      rw [hm.lkp z (kokH hKl) true, hg]; rfl
    have hlk3 := fun z => hlk z _ h3.m1
    have hlk3d := fun z => hlk z _ (h3.ext hEd).m1
    have hlk3a := fun z => hlk z _ h3a.m1
    (refine W_at c6_ok ?_; refine ⟨_, rfl, ?_⟩; simp (disch := first | omega | assumption | rfl | (simp only [vcS] <;> omega) | fail) only [↓vcL1, ptS2_eq, ↓vcA, vcB, ↓vcD, vcE, ↓reduceIte, Nat.reduceEqDiff, Nat.reduceAdd, Nat.reduceMul, Nat.reduceLeDiff, Int.reduceLE, Int.reduceLT, Int.reduceEq, Int.reduceToNat, Int.reduceAdd, Int.reduceSub, Int.reduceMul, Int.reduceNeg, reduceCtorEq, Option.bind_some, Option.map_some, List.length_cons, List.length_nil, vcM, List.getElem?_toArray, List.getElem?_cons_zero, List.getElem?_cons_succ, hc3, hc3a, ldC_1, c5, c5a, r5, hlk3, hlk3d, hlk3a, hzv, hz37])
    have z0 : w3.drew.heap.size = w3.heap.size := rfl
    have hE4 : Ext w3.drew ((w3.drew.alloc (.cells (zc [(1, .int .i32 0), (2, .slice none 0 0), (1, .int .u32 0), (32, .int .u8 0), (1, .bool false)]) 58)).putN w3.heap.size 0 (zc [(1, .int .i32 0), (2, .slice none 0 0), (1, .int .u32 0), (32, .int .u8 0), (1, .bool false)])) := ((Keep.refl _ w3.drew).alloc _).putN _ (by intro hh; exfalso; omega)
    replace hE4 := hEd.ext hE4
    refine ⟨zRec_flat, ?_⟩
    generalize World.putN _ _ _ _ = w4 at hE4 ⊢
    have hE04 := hE03.ext hE4
    have h4 := h.ext hE04
    have hc4 := h4.c
    have c34 := hE4.at c33 (fun h => h)
    have c54 := hE4.at c5 (fun h => h)
    (refine W_at c6_ok ?_; refine ⟨_, rfl, ?_⟩; simp (disch := first | omega | assumption | rfl | (simp only [vcS] <;> omega) | fail) only [↓ptV_l, ↓vcA, vcB, ↓vcD, vcE, ↓reduceIte, Nat.reduceEqDiff, Nat.reduceAdd, Nat.reduceMul, Nat.reduceLeDiff, Int.reduceLE, Int.reduceLT, Int.reduceEq, Int.reduceToNat, Int.reduceAdd, Int.reduceSub, Int.reduceMul, Int.reduceNeg, reduceCtorEq, Option.bind_some, Option.map_some, List.length_cons, List.length_nil, vcM, List.getElem?_toArray, List.getElem?_cons_zero, List.getElem?_cons_succ])
    (refine W_at c6_ok ?_; refine ⟨_, rfl, ?_⟩; simp (disch := first | omega | assumption | rfl | (simp only [vcS] <;> omega) | fail) only [↓ptV_l, ↓vcA, vcB, ↓vcD, vcE, ↓reduceIte, Nat.reduceEqDiff, Nat.reduceAdd, Nat.reduceMul, Nat.reduceLeDiff, Int.reduceLE, Int.reduceLT, Int.reduceEq, Int.reduceToNat, Int.reduceAdd, Int.reduceSub, Int.reduceMul, Int.reduceNeg, reduceCtorEq, Option.bind_some, Option.map_some, List.length_cons, List.length_nil, vcM, List.getElem?_toArray, List.getElem?_cons_zero, List.getElem?_cons_succ])
    -- the record
    (refine W_at c6_ok ?_; refine ⟨_, rfl, ?_⟩; simp (disch := first | omega | assumption | rfl | (simp only [vcS] <;> omega) | fail) only [↓vcL1, ptS2_eq, ↓vcA, vcB, ↓vcD, vcE, ↓reduceIte, Nat.reduceEqDiff, Nat.reduceAdd, Nat.reduceMul, Nat.reduceLeDiff, Int.reduceLE, Int.reduceLT, Int.reduceEq, Int.reduceToNat, Int.reduceAdd, Int.reduceSub, Int.reduceMul, Int.reduceNeg, reduceCtorEq, Option.bind_some, Option.map_some, List.length_cons, List.length_nil, vcM, List.getElem?_toArray, List.getElem?_cons_zero, List.getElem?_cons_succ, hc4, ldC_1, c34, c54, r5, r4])
    have hEd4 : Ext w4 w4.drew := (Keep.refl _ w4).drew
    have hE04d := hE04.ext hEd4
    have c54d := hEd4.at c54 (fun h => h)
    refine callV_ret (tclone_ok w4.drew iv ov1 t (hT.ext hE04d) hok hs) ?_
    rintro _ w5 ⟨vi, vo, rfl, hI, hO, hE5⟩
    have hE05 := hE04d.ext hE5
    have h5 := h.ext hE05
    have hc5 := h5.c
    have c55 := hE5.at c54d (fun h => h)
    have hR5 : TxR w5 vi vo t := ⟨ListN.toR hI fun _ _ h => h.at, ListN.toR hO fun _ _ h => h.at⟩
    have hrd5 : Option.map Value.agg (rdO w5.heap[p5]? 0 32) = some (Value.agg (bv K).toArray) := by rw [c55, r5]; rfl
    refine ⟨⟨hrd5, hrd5, by rw [hc5]; rfl⟩, ?_⟩
    have hv26 := txC_sz t vi vo
    have hfv := txC_flat2 hR5
    have hcv : (Value.agg (txC t vi vo)).cells = txC t vi vo := rfl
    have hzq : zc [(1, Value.bool false)] = #[.bool false] := rfl
    simp (disch := first | omega | assumption | rfl | (simp only [vcS] <;> omega) | fail) only [↓vcL2, ptS1_eq, ↓vcA, vcB, ↓vcD, vcE, ↓reduceIte, Nat.reduceEqDiff, Nat.reduceAdd, Nat.reduceMul, Nat.reduceLeDiff, Int.reduceLE, Int.reduceLT, Int.reduceEq, Int.reduceToNat, Int.reduceAdd, Int.reduceSub, Int.reduceMul, Int.reduceNeg, reduceCtorEq, Option.bind_some, Option.map_some, List.length_cons, List.length_nil, vcM, List.getElem?_toArray, List.getElem?_cons_zero, List.getElem?_cons_succ, hv26, hfv, hcv, s32, hzq]
    have hrc : txC t vi vo ++ ((bv K).toArray ++ #[Value.bool false]) = recC t vi vo K := rfl
    rw [hrc]
    refine MG.put h5.m1 (kokH hKl) fun w6 hm hk6 => ?_
    rw [putG_new hg] at hm
    have hne : ∀ {g : Nat} {c : Array Value} {T : TypeId}, w5.heap[g]? = some (.cells c T (0, 0)) → g ≠ r1 := fun hc e => by obtain ⟨es, c', h1, _⟩ := h5.m1; rw [e, h1] at hc; cases hc
    have h6 := h5.set1 hm hk6 (fun p hp => by
      rcases List.mem_append.1 hp with hp | hp
      · exact h5.rv p hp
      · rw [List.mem_singleton.1 hp]; exact recV_of hR5 hKl)
    have hc6 := h6.c
    have c56 := hk6.at c55 (hne c55)
    have hk06 := (hE05.mono fun _ h => h.elim).trans hk6 fun _ _ h => h
    obtain ⟨q, oc, rfl, _⟩ := h6.ord.is
    (refine W_at c6_ok ?_; refine ⟨_, rfl, ?_⟩; simp (disch := first | omega | assumption | rfl | (simp only [vcS] <;> omega) | fail) only [↓vcL1, ptS2_eq, ↓vcA, vcB, ↓vcD, vcE, ↓reduceIte, Nat.reduceEqDiff, Nat.reduceAdd, Nat.reduceMul, Nat.reduceLeDiff, Int.reduceLE, Int.reduceLT, Int.reduceEq, Int.reduceToNat, Int.reduceAdd, Int.reduceSub, Int.reduceMul, Int.reduceNeg, reduceCtorEq, Option.bind_some, Option.map_some, List.length_cons, List.length_nil, vcM, List.getElem?_toArray, List.getElem?_cons_zero, List.getElem?_cons_succ, hc6, ldC_0, c56, r5])
    rw [if_pos s32, getV_some, List.append_nil]
    have hE7 : Ext w6 (w6.drew.alloc (.cells (bv K).toArray 24)) := (Keep.refl _ w6).drew.alloc _
    have h7 := h6.ext hE7
    have hc7 := h7.c
    have hrA : rdS (w6.drew.alloc (.cells (bv K).toArray 24)) 32 (.slice (some ⟨w6.heap.size, 0, none⟩) 1 1) = some (([(bv K).toArray] : List (Array Value)).flatMap Array.toList).toArray := by
      simp only [rdS, rdN_heap]
      have hn6 : (w6.drew.alloc (.cells (bv K).toArray 24)).heap[w6.heap.size]? = some (.cells (bv K).toArray 24 (0, 0)) := heap_new _ _ _ rfl
      rw [if_neg (by omega), hn6, Nat.one_mul, rdO_all _ _ _ _ s32]
      simp
    refine ⟨by rw [hc7]; rfl, ?_⟩
    generalize World.alloc w6.drew _ = w7 at hE7 h7 hc7 hrA ⊢
    have hlo : lo ≤ w7.heap.size := by
      have a1 := h.lb
      have a2 := hE05.size
      have a3 := hk6.size
      have a4 := hE7.size
      omega
    refine appO4 (ids2 := [(bv K).toArray]) h7.ord hrA rfl (by intro k hk; rw [List.mem_singleton.1 hk]; exact s32) (by intro k hk; rw [List.mem_singleton.1 hk]; exact bv_flat K) (by rw [List.length_map]; omega) (by rw [List.length_map]; omega) rfl hlo (by decide) fun v' w8 k1 k2 k3 => ?_
    have hnb : ¬ Go.Proofs.blk (.slice q (ids.map fun b => (bv b).toArray).length oc) b := fun hg => by
      obtain ⟨_, c, hcc⟩ := h7.ord.blk hg
      rw [hc7] at hcc; cases hcc
    have hc8 := k2.at hc7 hnb
    simp (disch := first | omega | assumption | rfl | (simp only [vcS] <;> omega) | fail) only [↓vcL2, ptS1_eq, ↓vcA, vcB, ↓vcD, vcE, ↓reduceIte, Nat.reduceEqDiff, Nat.reduceAdd, Nat.reduceMul, Nat.reduceLeDiff, Int.reduceLE, Int.reduceLT, Int.reduceEq, Int.reduceToNat, Int.reduceAdd, Int.reduceSub, Int.reduceMul, Int.reduceNeg, reduceCtorEq, Option.bind_some, Option.map_some, List.length_cons, List.length_nil, vcM, List.getElem?_toArray, List.getElem?_cons_zero, List.getElem?_cons_succ]
    have hz8 : v'.oneCell' = true := by obtain ⟨_, _, e, _⟩ := k1.is; rw [e]; rfl
    refine ⟨hz8, wr1_of hc8 (by show 0 < 4; decide), ?_⟩
    have hc9 : (w8.setCell ⟨b, 0, none⟩ v').heap[b]? = some (.cells (ldC v' r1 r2 r3) 55 (0, 0)) := by rw [heap_setCell_eq hc8]; rfl
    have k9 : Keep (fun g => g = b) w8 (w8.setCell ⟨b, 0, none⟩ v') := (Keep.refl _ w8).setCell _ fun _ => rfl
    generalize World.setCell _ _ _ = w9 at hc9 k9 ⊢
    (refine W_at c6_ok ?_; refine ⟨_, rfl, ?_⟩; simp (disch := first | omega | assumption | rfl | (simp only [vcS] <;> omega) | fail) only [↓ptV_l, ↓vcA, vcB, ↓vcD, vcE, ↓reduceIte, Nat.reduceEqDiff, Nat.reduceAdd, Nat.reduceMul, Nat.reduceLeDiff, Int.reduceLE, Int.reduceLT, Int.reduceEq, Int.reduceToNat, Int.reduceAdd, Int.reduceSub, Int.reduceMul, Int.reduceNeg, reduceCtorEq, Option.bind_some, Option.map_some, List.length_cons, List.length_nil, vcM, List.getElem?_toArray, List.getElem?_cons_zero, List.getElem?_cons_succ])
    (refine W_at c6_ok ?_; refine ⟨_, rfl, ?_⟩; simp (disch := first | omega | assumption | rfl | (simp only [vcS] <;> omega) | fail) only [↓ptV_l, ↓vcA, vcB, ↓vcD, vcE, ↓reduceIte, Nat.reduceEqDiff, Nat.reduceAdd, Nat.reduceMul, Nat.reduceLeDiff, Int.reduceLE, Int.reduceLT, Int.reduceEq, Int.reduceToNat, Int.reduceAdd, Int.reduceSub, Int.reduceMul, Int.reduceNeg, reduceCtorEq, Option.bind_some, Option.map_some, List.length_cons, List.length_nil, vcM, List.getElem?_toArray, List.getElem?_cons_zero, List.getElem?_cons_succ, Ret_returned])
    have k79 : Keep (fun g => Go.Proofs.blk (.slice q (ids.map fun b => (bv b).toArray).length oc) g ∨ g = b) w7 w9 := (k2.mono fun _ h => .inl h).trans k9 fun _ _ h => .inr h
    have k59 : Keep (fun g => g = r1 ∨ Go.Proofs.blk (.slice q (ids.map fun b => (bv b).toArray).length oc) g ∨ g = b) w5 w9 := Keep.trans (Keep.mono (Keep.trans hk6 hE7 fun _ _ h => h.elim) fun _ h => .inl h) k79 fun _ _ h => .inr h
    have hoff : OffL (fun g => g = r1 ∨ Go.Proofs.blk (.slice q (ids.map fun b => (bv b).toArray).length oc) g ∨ g = b) w5 := fun g hg c T hc => by
      rcases hg with rfl | hg | rfl
      · exact absurd rfl (hne hc)
      · obtain ⟨_, c', hc'⟩ := h5.ord.blk hg
        rw [hc] at hc'; cases hc'; exact .inl rfl
      · rw [hc5] at hc; cases hc; exact .inr rfl
    have hlo9 : w7.heap.size ≤ w8.heap.size := k2.size
    have hlo89 := k9.size
    have hbw : b < w7.heap.size := lt_of_heap hc7
    have hkk : Keep (fun g => lo ≤ g ∧ g < hi) w w9 := (hE05.mono fun _ h => h.elim).trans k59 fun g hg hs => by
      rcases hs with rfl | hs | rfl
      · exact h.l1
      · exact ⟨(h.ord.blk hs).1, h.oh g hs⟩
      · exact h.lb
    have hsz := hkk.size
    have nm : ∀ {r : Nat} {es c}, w7.heap[r]? = some (.map es c) → ¬ (Go.Proofs.blk (.slice q (ids.map fun b => (bv b).toArray).length oc) r ∨ r = b) := fun hm hs => by
      rcases hs with hs | rfl
      · obtain ⟨_, c', hc'⟩ := h7.ord.blk hs
        rw [hm] at hc'; cases hc'
      · rw [hc7] at hm; cases hm
    have n1 : ¬ (Go.Proofs.blk (.slice q (ids.map fun b => (bv b).toArray).length oc) r1 ∨ r1 = b) := by obtain ⟨es, c, hm, _⟩ := h7.m1; exact nm hm
    have n2 : ¬ (Go.Proofs.blk (.slice q (ids.map fun b => (bv b).toArray).length oc) r2 ∨ r2 = b) := by obtain ⟨es, c, hm, _⟩ := h7.m2; exact nm hm
    have n3 : ¬ (Go.Proofs.blk (.slice q (ids.map fun b => (bv b).toArray).length oc) r3 ∨ r3 = b) := by obtain ⟨es, c, hm, _⟩ := h7.m3; exact nm hm
    have hmp : (ids.map fun b => (bv b).toArray) ++ [(bv K).toArray] = (ids ++ [K]).map fun b => (bv b).toArray := by simp
    rw [hmp] at k1
    have hb := h.lb
    have hl1 := h.l1
    have hl2 := h.l2
    have hl3 := h.l3
    refine ⟨v', ids ++ [K], _, ⟨hc9, k1.keep k9 fun g hg e => ?_, fun g hg => ?_, h7.m1.keep k79 n1, h7.m2.keep k79 n2, h7.m3.keep k79 n3, fun b hb => ?_, h7.rv, h7.n12, h7.n13, h7.n23, by omega, by omega, by omega, by omega⟩, by simp, hkk, .inl ⟨rfl, vi, vo, rfl, ListN.toR (InsN.keepL hI k59 hoff) fun _ _ h => h.at, ListN.toR (OusN.keepL hO k59 hoff) fun _ _ h => h.at⟩⟩
    · subst e
      rcases k3 _ hg with hg | hg
      · exact hnb hg
      · omega
    · obtain ⟨_, c, hc⟩ := k1.blk hg
      have := lt_of_heap hc
      omega
    · rcases List.mem_append.1 hb with hb | hb
      · exact h7.idl b hb
      · rw [List.mem_singleton.1 hb]; exact hKl
end Go.Proofs
