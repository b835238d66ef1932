/- 'strongboxlaw22.LedgerNotes' returns true for every input, and the input reads as it did. No condition. -/
import Derived.Test.YtabagepjaccjnaaQA3
import Derived.Test.YtabagepjaccjnaaRows
set_option linter.unusedSimpArgs false
set_option linter.unusedVariables false
set_option linter.constructorNameAsVariable false
namespace Go.Proofs
open Go.Vc
set_option maxRecDepth 10000

set_option maxHeartbeats 3200000 in
theorem list1_ok (w : World) (lo hi b : Nat) (ov : Value) (r1 r2 r3 : Nat) (K : List Int) (hK : K.length = 32) (t : TxV) (vi vo : Value) (locks labels : List KV) (h : LedAt w lo hi b ov r1 r2 r3 [K] [(.agg (bv K).toArray, .agg (recC t vi vo K))] locks labels) (hT : TxR w vi vo t) (hok : t.Ok) (hs : t.Sm) :
    Calls Try.prog 13 #[.pointer (some ⟨b, 0, none⟩)] w (Ret fun u w' => (∃ q c, u = .slice q 1 c) ∧ Ext w w') := by
  refine calls_of_cfg c13_ok (Nat.le_of_ble_eq_true rfl) ?_
  simp only [argE_nil, argE_cons, Nat.reduceAdd, Nat.zero_add]
  obtain ⟨g, o, c, cur, e, hg, hr⟩ := h.ord.at (j := 0) (by simp)
  have hr : rdO w.heap[g]? (o + 0 * 32) 32 = some (bv K).toArray := hr
  have s32 : (bv K).toArray.size = 32 := by rw [bva_size, hK]
  subst e
  have hc : w.heap[b]? = some (.cells (ldC (.slice (some ⟨g, o, none⟩) 1 c) r1 r2 r3) 55 (0, 0)) := h.c
  (refine W_at c13_ok ?_; refine ⟨_, rfl, ?_⟩; simp (disch := first | omega | assumption | rfl | (simp only [vcS] <;> omega) | fail) only [↓ptV_l, ↓vcA, vcB, ↓vcD, vcE, ↓reduceIte, Nat.reduceEqDiff, Nat.reduceAdd, Nat.reduceMul, Nat.reduceLeDiff, Int.reduceLE, Int.reduceLT, Int.reduceEq, Int.reduceToNat, Int.reduceAdd, Int.reduceSub, Int.reduceMul, Int.reduceNeg, reduceCtorEq, Option.bind_some, Option.map_some, List.length_cons, List.length_nil, vcM, List.getElem?_toArray, List.getElem?_cons_zero, List.getElem?_cons_succ])
  (refine W_at c13_ok ?_; refine ⟨_, rfl, ?_⟩; simp (disch := first | omega | assumption | rfl | (simp only [vcS] <;> omega) | fail) only [↓ptV_l, ↓vcA, vcB, ↓vcD, vcE, ↓reduceIte, Nat.reduceEqDiff, Nat.reduceAdd, Nat.reduceMul, Nat.reduceLeDiff, Int.reduceLE, Int.reduceLT, Int.reduceEq, Int.reduceToNat, Int.reduceAdd, Int.reduceSub, Int.reduceMul, Int.reduceNeg, reduceCtorEq, Option.bind_some, Option.map_some, List.length_cons, List.length_nil, vcM, List.getElem?_toArray, List.getElem?_cons_zero, List.getElem?_cons_succ])
  have hEd : Ext w w.drew := (Keep.refl _ w).drew
  have hcd := hEd.at hc (fun h => h)
  (refine W_at c13_ok ?_; refine ⟨_, rfl, ?_⟩; simp (disch := first | omega | assumption | rfl | (simp only [vcS] <;> omega) | fail) only [↓ptV_l, ↓vcA, vcB, ↓vcD, vcE, ↓reduceIte, Nat.reduceEqDiff, Nat.reduceAdd, Nat.reduceMul, Nat.reduceLeDiff, Int.reduceLE, Int.reduceLT, Int.reduceEq, Int.reduceToNat, Int.reduceAdd, Int.reduceSub, Int.reduceMul, Int.reduceNeg, reduceCtorEq, Option.bind_some, Option.map_some, List.length_cons, List.length_nil, vcM, List.getElem?_toArray, List.getElem?_cons_zero, List.getElem?_cons_succ, hc, ldC_0])
  (refine W_at c13_ok ?_; refine ⟨_, rfl, ?_⟩; simp (disch := first | omega | assumption | rfl | (simp only [vcS] <;> omega) | fail) only [↓ptV_l, ↓vcA, vcB, ↓vcD, vcE, ↓reduceIte, Nat.reduceEqDiff, Nat.reduceAdd, Nat.reduceMul, Nat.reduceLeDiff, Int.reduceLE, Int.reduceLT, Int.reduceEq, Int.reduceToNat, Int.reduceAdd, Int.reduceSub, Int.reduceMul, Int.reduceNeg, reduceCtorEq, Option.bind_some, Option.map_some, List.length_cons, List.length_nil, vcM, List.getElem?_toArray, List.getElem?_cons_zero, List.getElem?_cons_succ])
  (refine W_at c13_ok ?_; refine ⟨_, rfl, ?_⟩; simp (disch := first | omega | assumption | rfl | (simp only [vcS] <;> omega) | fail) only [↓ptV_l, ↓vcA, vcB, ↓vcD, vcE, ↓reduceIte, Nat.reduceEqDiff, Nat.reduceAdd, Nat.reduceMul, Nat.reduceLeDiff, Int.reduceLE, Int.reduceLT, Int.reduceEq, Int.reduceToNat, Int.reduceAdd, Int.reduceSub, Int.reduceMul, Int.reduceNeg, reduceCtorEq, Option.bind_some, Option.map_some, List.length_cons, List.length_nil, vcM, List.getElem?_toArray, List.getElem?_cons_zero, List.getElem?_cons_succ])
  have hn0 : Int.toNat 0 = 0 := rfl
  rw [Nat.zero_mul, Nat.add_zero] at hr
  (refine W_at c13_ok ?_; refine ⟨_, rfl, ?_⟩; simp (disch := first | omega | assumption | rfl | (simp only [vcS] <;> omega) | fail) only [↓ptV_l, ↓vcA, vcB, ↓vcD, vcE, ↓reduceIte, Nat.reduceEqDiff, Nat.reduceAdd, Nat.reduceMul, Nat.reduceLeDiff, Int.reduceLE, Int.reduceLT, Int.reduceEq, Int.reduceToNat, Int.reduceAdd, Int.reduceSub, Int.reduceMul, Int.reduceNeg, reduceCtorEq, Option.bind_some, Option.map_some, List.length_cons, List.length_nil, vcM, List.getElem?_toArray, List.getElem?_cons_zero, List.getElem?_cons_succ, hr, s32, hn0])
  refine ⟨bv_flat _, ?_⟩
  have hE3 : Ext w ((w.alloc (.cells (zc [(32, .int .u8 0)]) 24)).putN w.heap.size 0 (bv K).toArray) := ((Keep.refl _ w).alloc _).putN _ (by intro hh; exfalso; omega)
  have c5 : ((w.alloc (.cells (zc [(32, .int .u8 0)]) 24)).putN w.heap.size 0 (bv K).toArray).heap[w.heap.size]? = some (.cells (bv K).toArray 24 (0, 0)) := by
    rw [heap_putN_eq (heap_new _ _ _ rfl), splice_all (by rw [s32]; rfl)]
  generalize World.putN _ _ _ _ = w3 at hE3 c5 ⊢
  generalize w.heap.size = p5 at c5 ⊢
  have h3 := h.ext hE3
  have hc3 := h3.c
  have r5 : rdO (some (.cells (bv K).toArray 24 (0, 0))) 0 32 = some (bv K).toArray := rdO_all _ _ _ _ s32
  have hEd3 : Ext w3 w3.drew := (Keep.refl _ w3).drew
  have hgk : getG (.agg (bv K).toArray) [((.agg (bv K).toArray, .agg (recC t vi vo K)) : KV)] = some (.agg (recC t vi vo K)) := by
    simp [getG, idxG]
  have hlk : ∀ z wz, MG layH true wz r1 [(.agg (bv K).toArray, .agg (recC t vi vo K))] → lkpR layH true z false wz (.map (some r1)) (.agg (bv K).toArray) = some (.agg (recC t vi vo K)) := fun z wz hm => by
    rw [hm.lkp z (kokH hK) false, hgk]; rfl
  have hlk3 := fun z => hlk z _ h3.m1
  have hlk3d := fun z => hlk z _ (h3.ext hEd3).m1
  have hx4 : (recC t vi vo K).extract 0 4 = txC t vi vo := by
    apply Array.ext'
    simp [recC, txC]
  (refine W_at c13_ok ?_; refine ⟨_, rfl, ?_⟩; simp (disch := first | omega | assumption | rfl | (simp only [vcS] <;> omega) | fail) only [↓vcL1, ptS2_eq, ↓vcA, vcB, ↓vcD, vcE, ↓reduceIte, Nat.reduceEqDiff, Nat.reduceAdd, Nat.reduceMul, Nat.reduceLeDiff, Int.reduceLE, Int.reduceLT, Int.reduceEq, Int.reduceToNat, Int.reduceAdd, Int.reduceSub, Int.reduceMul, Int.reduceNeg, reduceCtorEq, Option.bind_some, Option.map_some, List.length_cons, List.length_nil, vcM, List.getElem?_toArray, List.getElem?_cons_zero, List.getElem?_cons_succ, hc3, ldC_1, c5, r5, hlk3, hlk3d, hx4])
  refine callV_ret (tclone_ok w3.drew vi vo t (hT.ext (hE3.ext hEd3)) hok hs) ?_
  rintro _ w4 ⟨vi', vo', rfl, hI, hO, hE4⟩
  have hR4 : TxR w4 vi' vo' t := ⟨ListN.toR hI fun _ _ h => h.at, ListN.toR hO fun _ _ h => h.at⟩
  have hz4 := txC_sz t vi' vo'
  have hf4 := txC_flat2 hR4
  have hcv : (Value.agg (txC t vi' vo')).cells = txC t vi' vo' := rfl
  have hE04 := (hE3.ext hEd3).ext hE4
  have hlo : p5 ≤ w4.heap.size := Nat.le_trans (Nat.le_of_lt (lt_of_heap c5)) (hEd3.ext hE4).size
  simp (disch := first | omega | assumption | rfl | (simp only [vcS] <;> omega) | fail) only [↓vcL2, ptS1_eq, ↓vcA, vcB, ↓vcD, vcE, ↓reduceIte, Nat.reduceEqDiff, Nat.reduceAdd, Nat.reduceMul, Nat.reduceLeDiff, Int.reduceLE, Int.reduceLT, Int.reduceEq, Int.reduceToNat, Int.reduceAdd, Int.reduceSub, Int.reduceMul, Int.reduceNeg, reduceCtorEq, Option.bind_some, Option.map_some, List.length_cons, List.length_nil, vcM, List.getElem?_toArray, List.getElem?_cons_zero, List.getElem?_cons_succ, hz4, hf4, hcv]
  rw [List.append_nil]
  have hE5 : Ext w4 (w4.alloc (.cells (txC t vi' vo').toList.toArray 40)) := (Keep.refl _ w4).alloc _
  have hrA : rdS (w4.alloc (.cells (txC t vi' vo').toList.toArray 40)) 4 (.slice (some ⟨w4.heap.size, 0, none⟩) 1 1) = some (([txC t vi' vo'] : List (Array Value)).flatMap Array.toList).toArray := by
    have hn6 : (w4.alloc (.cells (txC t vi' vo').toList.toArray 40)).heap[w4.heap.size]? = some (.cells (txC t vi' vo').toList.toArray 40 (0, 0)) := heap_new _ _ _ rfl
    simp only [rdS, rdN_heap]
    rw [if_neg (by omega), hn6, Nat.one_mul, Array.toArray_toList, rdO_all _ _ _ _ hz4]
    simp
  refine appO4 (ids2 := [txC t vi' vo']) (OwnO.nil _ _ _ _) hrA rfl (by intro k hk; rw [List.mem_singleton.1 hk]; exact hz4) (by intro k hk; rw [List.mem_singleton.1 hk]; exact hf4) (by decide) (by decide) rfl hE5.size (by decide) fun v' w6 k1 k2 k3 => ?_
  have hE6 : Ext w4 w6 := hE5.trans k2 fun g hg e => by cases e
  rw [List.nil_append] at k1
  obtain ⟨q6, c6, rfl, _⟩ := k1.is
  have hE06 := hE04.ext hE6
  first | (simp (disch := first | omega | assumption | rfl | (simp only [vcS] <;> omega) | fail) only [↓vcL1, ptS2_eq, ↓vcA, vcB, ↓vcD, vcE, ↓reduceIte, Nat.reduceEqDiff, Nat.reduceAdd, Nat.reduceMul, Nat.reduceLeDiff, Int.reduceLE, Int.reduceLT, Int.reduceEq, Int.reduceToNat, Int.reduceAdd, Int.reduceSub, Int.reduceMul, Int.reduceNeg, reduceCtorEq, Option.bind_some, Option.map_some, List.length_cons, List.length_nil, vcM, List.getElem?_toArray, List.getElem?_cons_zero, List.getElem?_cons_succ]) | skip
  have hno : ¬ (1 : Int) < 1 := by omega
  have hw1 : IntKind.i64.wrap 1 = 1 := by decide
  (refine W_at c13_ok ?_; refine ⟨_, rfl, ?_⟩; simp (disch := first | omega | assumption | rfl | (simp only [vcS] <;> omega) | fail) only [↓ptV_l, ↓vcA, vcB, ↓vcD, vcE, ↓reduceIte, Nat.reduceEqDiff, Nat.reduceAdd, Nat.reduceMul, Nat.reduceLeDiff, Int.reduceLE, Int.reduceLT, Int.reduceEq, Int.reduceToNat, Int.reduceAdd, Int.reduceSub, Int.reduceMul, Int.reduceNeg, reduceCtorEq, Option.bind_some, Option.map_some, List.length_cons, List.length_nil, vcM, List.getElem?_toArray, List.getElem?_cons_zero, List.getElem?_cons_succ, hw1])
  (refine W_at c13_ok ?_; refine ⟨_, rfl, ?_⟩; simp (disch := first | omega | assumption | rfl | (simp only [vcS] <;> omega) | fail) only [↓ptV_l, ↓vcA, vcB, ↓vcD, vcE, ↓reduceIte, Nat.reduceEqDiff, Nat.reduceAdd, Nat.reduceMul, Nat.reduceLeDiff, Int.reduceLE, Int.reduceLT, Int.reduceEq, Int.reduceToNat, Int.reduceAdd, Int.reduceSub, Int.reduceMul, Int.reduceNeg, reduceCtorEq, Option.bind_some, Option.map_some, List.length_cons, List.length_nil, vcM, List.getElem?_toArray, List.getElem?_cons_zero, List.getElem?_cons_succ])
  (refine W_at c13_ok ?_; refine ⟨_, rfl, ?_⟩; simp (disch := first | omega | assumption | rfl | (simp only [vcS] <;> omega) | fail) only [↓ptV_l, ↓vcA, vcB, ↓vcD, vcE, ↓reduceIte, Nat.reduceEqDiff, Nat.reduceAdd, Nat.reduceMul, Nat.reduceLeDiff, Int.reduceLE, Int.reduceLT, Int.reduceEq, Int.reduceToNat, Int.reduceAdd, Int.reduceSub, Int.reduceMul, Int.reduceNeg, reduceCtorEq, Option.bind_some, Option.map_some, List.length_cons, List.length_nil, vcM, List.getElem?_toArray, List.getElem?_cons_zero, List.getElem?_cons_succ])
  (refine W_at c13_ok ?_; refine ⟨_, rfl, ?_⟩; simp (disch := first | omega | assumption | rfl | (simp only [vcS] <;> omega) | fail) only [↓ptV_l, ↓vcA, vcB, ↓vcD, vcE, ↓reduceIte, Nat.reduceEqDiff, Nat.reduceAdd, Nat.reduceMul, Nat.reduceLeDiff, Int.reduceLE, Int.reduceLT, Int.reduceEq, Int.reduceToNat, Int.reduceAdd, Int.reduceSub, Int.reduceMul, Int.reduceNeg, reduceCtorEq, Option.bind_some, Option.map_some, List.length_cons, List.length_nil, vcM, List.getElem?_toArray, List.getElem?_cons_zero, List.getElem?_cons_succ])
  (refine W_at c13_ok ?_; refine ⟨_, rfl, ?_⟩; simp (disch := first | omega | assumption | rfl | (simp only [vcS] <;> omega) | fail) only [↓ptV_l, ↓vcA, vcB, ↓vcD, vcE, ↓reduceIte, Nat.reduceEqDiff, Nat.reduceAdd, Nat.reduceMul, Nat.reduceLeDiff, Int.reduceLE, Int.reduceLT, Int.reduceEq, Int.reduceToNat, Int.reduceAdd, Int.reduceSub, Int.reduceMul, Int.reduceNeg, reduceCtorEq, Option.bind_some, Option.map_some, List.length_cons, List.length_nil, vcM, List.getElem?_toArray, List.getElem?_cons_zero, List.getElem?_cons_succ])
  (refine W_at c13_ok ?_; refine ⟨_, rfl, ?_⟩; simp (disch := first | omega | assumption | rfl | (simp only [vcS] <;> omega) | fail) only [↓ptV_l, ↓vcA, vcB, ↓vcD, vcE, ↓reduceIte, Nat.reduceEqDiff, Nat.reduceAdd, Nat.reduceMul, Nat.reduceLeDiff, Int.reduceLE, Int.reduceLT, Int.reduceEq, Int.reduceToNat, Int.reduceAdd, Int.reduceSub, Int.reduceMul, Int.reduceNeg, reduceCtorEq, Option.bind_some, Option.map_some, List.length_cons, List.length_nil, vcM, List.getElem?_toArray, List.getElem?_cons_zero, List.getElem?_cons_succ, Ret_returned])
  exact ⟨⟨_, _, rfl⟩, hE06⟩
end Go.Proofs
namespace Go.Proofs
open Go.Vc
set_option maxRecDepth 10000

def tB : TxV := ⟨0, [], [], 3⟩
theorem tB_ok : tB.Ok := ⟨by decide, fun x h => (by cases h), fun x h => (by cases h), by decide⟩
theorem tB_few : tB.Few 100 1000 := ⟨by decide, by decide, fun x h => (by cases h), fun x h => (by cases h)⟩
theorem tB_sm : tB.Sm := ⟨by decide, by decide, fun x h => (by cases h), fun x h => (by cases h)⟩
theorem tB_R (w : World) : TxR w (.slice none 0 0) (.slice none 0 0) tB := ⟨ListR.nil _ _ w, ListR.nil _ _ w⟩
theorem getG1 (k v : Value) : getG k [((k, v) : KV)] = some v := by simp [getG, idxG]
set_option maxHeartbeats 3200000 in
theorem awake_ok (w : World) : Calls Try.prog 4 #[] w (Ret fun u w' => u = .bool true ∧ Ext w w') := by
  refine calls_of_cfg c4_ok (Nat.le_of_ble_eq_true rfl) ?_
  simp only [argE_nil, argE_cons, Nat.reduceAdd, Nat.zero_add]
  (refine W_at c4_ok ?_; refine ⟨_, rfl, ?_⟩; simp (disch := first | omega | assumption | rfl | (simp only [vcS] <;> omega) | fail) only [↓ptV_l, ↓vcA, vcB, ↓vcD, vcE, ↓reduceIte, Nat.reduceEqDiff, Nat.reduceAdd, Nat.reduceMul, Nat.reduceLeDiff, Int.reduceLE, Int.reduceLT, Int.reduceEq, Int.reduceToNat, Int.reduceAdd, Int.reduceSub, Int.reduceMul, Int.reduceNeg, reduceCtorEq, Option.bind_some, Option.map_some, List.length_cons, List.length_nil, vcM, List.getElem?_toArray, List.getElem?_cons_zero, List.getElem?_cons_succ])
  (refine W_at c4_ok ?_; refine ⟨_, rfl, ?_⟩; simp (disch := first | omega | assumption | rfl | (simp only [vcS] <;> omega) | fail) only [↓vcL1, ptS2_eq, ↓vcA, vcB, ↓vcD, vcE, ↓reduceIte, Nat.reduceEqDiff, Nat.reduceAdd, Nat.reduceMul, Nat.reduceLeDiff, Int.reduceLE, Int.reduceLT, Int.reduceEq, Int.reduceToNat, Int.reduceAdd, Int.reduceSub, Int.reduceMul, Int.reduceNeg, reduceCtorEq, Option.bind_some, Option.map_some, List.length_cons, List.length_nil, vcM, List.getElem?_toArray, List.getElem?_cons_zero, List.getElem?_cons_succ])
  refine callV_ret (lnew_ok w) ?_
  rintro _ w1 ⟨b, r1, r2, r3, rfl, h1, hE1⟩
  simp (disch := first | omega | assumption | rfl | (simp only [vcS] <;> omega) | fail) only [↓vcL2, ptS1_eq, ↓vcA, vcB, ↓vcD, vcE, ↓reduceIte, Nat.reduceEqDiff, Nat.reduceAdd, Nat.reduceMul, Nat.reduceLeDiff, Int.reduceLE, Int.reduceLT, Int.reduceEq, Int.reduceToNat, Int.reduceAdd, Int.reduceSub, Int.reduceMul, Int.reduceNeg, reduceCtorEq, Option.bind_some, Option.map_some, List.length_cons, List.length_nil, vcM, List.getElem?_toArray, List.getElem?_cons_zero, List.getElem?_cons_succ]
  have hb : zc [(1, Value.int .i32 0), (2, .slice none 0 0)] ++ #[.int .u32 3] = txC tB (.slice none 0 0) (.slice none 0 0) := rfl
  (refine W_at c4_ok ?_; refine ⟨_, rfl, ?_⟩; simp (disch := first | omega | assumption | rfl | (simp only [vcS] <;> omega) | fail) only [↓vcL1, ptS2_eq, ↓vcA, vcB, ↓vcD, vcE, ↓reduceIte, Nat.reduceEqDiff, Nat.reduceAdd, Nat.reduceMul, Nat.reduceLeDiff, Int.reduceLE, Int.reduceLT, Int.reduceEq, Int.reduceToNat, Int.reduceAdd, Int.reduceSub, Int.reduceMul, Int.reduceNeg, reduceCtorEq, Option.bind_some, Option.map_some, List.length_cons, List.length_nil, vcM, List.getElem?_toArray, List.getElem?_cons_zero, List.getElem?_cons_succ])
  refine callV_ret (add_ok2 w1 w.heap.size w1.heap.size b (.slice none 0 0) r1 r2 r3 [] [] [] [] h1 (Nat.le_refl _) (.slice none 0 0) (.slice none 0 0) tB (tB_R w1) tB_ok tB_few tB_sm (by decide)) ?_
  rintro _ w2 ⟨ov2, ids2, recs2, h2, _, hk2, hcase⟩
  rcases hcase with ⟨_, rfl, rfl, vi, vo, rfl, hR2⟩ | ⟨hq, _⟩
  case inr => exact absurd rfl hq
  simp (disch := first | omega | assumption | rfl | (simp only [vcS] <;> omega) | fail) only [↓vcL2, ptS1_eq, ↓vcA, vcB, ↓vcD, vcE, ↓reduceIte, Nat.reduceEqDiff, Nat.reduceAdd, Nat.reduceMul, Nat.reduceLeDiff, Int.reduceLE, Int.reduceLT, Int.reduceEq, Int.reduceToNat, Int.reduceAdd, Int.reduceSub, Int.reduceMul, Int.reduceNeg, reduceCtorEq, Option.bind_some, Option.map_some, List.length_cons, List.length_nil, vcM, List.getElem?_toArray, List.getElem?_cons_zero, List.getElem?_cons_succ]
  have hhi2 := Nat.le_refl w2.heap.size
  refine callV_ret (add_ok2 w2 w.heap.size w2.heap.size b ov2 r1 r2 r3 _ _ [] [] h2 (Nat.le_refl _) (.slice none 0 0) (.slice none 0 0) tB (tB_R w2) tB_ok tB_few tB_sm (by decide)) ?_
  rintro _ w3 ⟨ov3, ids3, recs3, h3, _, hk3, hcase⟩
  rcases hcase with ⟨hq, _⟩ | ⟨_, rfl, rfl, rfl, hE3⟩
  case inl => rw [List.nil_append, getG1] at hq; cases hq
  simp (disch := first | omega | assumption | rfl | (simp only [vcS] <;> omega) | fail) only [↓vcL1, ptS2_eq, ↓vcA, vcB, ↓vcD, vcE, ↓reduceIte, Nat.reduceEqDiff, Nat.reduceAdd, Nat.reduceMul, Nat.reduceLeDiff, Int.reduceLE, Int.reduceLT, Int.reduceEq, Int.reduceToNat, Int.reduceAdd, Int.reduceSub, Int.reduceMul, Int.reduceNeg, reduceCtorEq, Option.bind_some, Option.map_some, List.length_cons, List.length_nil, vcM, List.getElem?_toArray, List.getElem?_cons_zero, List.getElem?_cons_succ]
  have hb3 : (LedAt w3 w.heap.size w3.heap.size b ov3 r1 r2 r3 [idF tB] [(.agg (bv (idF tB)).toArray, .agg (recC tB vi vo (idF tB)))] [] []) := h3
  refine callV_ret (list1_ok w3 _ _ b ov3 r1 r2 r3 (idF tB) (dblF_len _) tB vi vo [] [] hb3 (hR2.ext hE3) tB_ok tB_sm) ?_
  rintro _ w4 ⟨⟨q, c, rfl⟩, hE4⟩
  have h4 := h3.ext hE4
  have hlen : lenR (.slice q 1 c) = some (.int .i64 1) := rfl
  simp (disch := first | omega | assumption | rfl | (simp only [vcS] <;> omega) | fail) only [↓vcL2, ptS1_eq, ↓vcA, vcB, ↓vcD, vcE, ↓reduceIte, Nat.reduceEqDiff, Nat.reduceAdd, Nat.reduceMul, Nat.reduceLeDiff, Int.reduceLE, Int.reduceLT, Int.reduceEq, Int.reduceToNat, Int.reduceAdd, Int.reduceSub, Int.reduceMul, Int.reduceNeg, reduceCtorEq, Option.bind_some, Option.map_some, List.length_cons, List.length_nil, vcM, List.getElem?_toArray, List.getElem?_cons_zero, List.getElem?_cons_succ, hlen]
  (refine W_at c4_ok ?_; refine ⟨_, rfl, ?_⟩; simp (disch := first | omega | assumption | rfl | (simp only [vcS] <;> omega) | fail) only [↓ptV_l, ↓vcA, vcB, ↓vcD, vcE, ↓reduceIte, Nat.reduceEqDiff, Nat.reduceAdd, Nat.reduceMul, Nat.reduceLeDiff, Int.reduceLE, Int.reduceLT, Int.reduceEq, Int.reduceToNat, Int.reduceAdd, Int.reduceSub, Int.reduceMul, Int.reduceNeg, reduceCtorEq, Option.bind_some, Option.map_some, List.length_cons, List.length_nil, vcM, List.getElem?_toArray, List.getElem?_cons_zero, List.getElem?_cons_succ])
  (refine W_at c4_ok ?_; refine ⟨_, rfl, ?_⟩; simp (disch := first | omega | assumption | rfl | (simp only [vcS] <;> omega) | fail) only [↓vcL1, ptS2_eq, ↓vcA, vcB, ↓vcD, vcE, ↓reduceIte, Nat.reduceEqDiff, Nat.reduceAdd, Nat.reduceMul, Nat.reduceLeDiff, Int.reduceLE, Int.reduceLT, Int.reduceEq, Int.reduceToNat, Int.reduceAdd, Int.reduceSub, Int.reduceMul, Int.reduceNeg, reduceCtorEq, Option.bind_some, Option.map_some, List.length_cons, List.length_nil, vcM, List.getElem?_toArray, List.getElem?_cons_zero, List.getElem?_cons_succ])
  have hL4 : Rd (w4.alloc (.cells (bv [1]).toArray 5)) (.slice (some ⟨w4.heap.size, 0, none⟩) 1 1) [1] := (own_lit1 (bs := [1]) (by decide)).rd
  have hE5 : Ext w4 (w4.alloc (.cells (bv [1]).toArray 5)) := (Keep.refl _ w4).alloc _
  have h5 := h4.ext hE5
  have hs5 : w3.heap.size ≤ (w4.alloc (.cells (bv [1]).toArray 5)).heap.size := (hE4.ext hE5).size
  refine callV_ret (label_ok _ _ _ b ov3 r1 r2 r3 _ _ [] [] h5 _ [1] hL4 ⟨#[120]⟩) ?_
  rintro _ w6 ⟨rfl, h6, hk6⟩
  rw [if_neg (by decide), if_neg (by decide)] at h6
  have hput : putG (keyS [1]) (.string ⟨#[120]⟩) ([] : List KV) = [(keyS [1], .string ⟨#[120]⟩)] := by simp [putG, idxG]
  rw [hput] at h6
  simp (disch := first | omega | assumption | rfl | (simp only [vcS] <;> omega) | fail) only [↓vcL2, ptS1_eq, ↓vcA, vcB, ↓vcD, vcE, ↓reduceIte, Nat.reduceEqDiff, Nat.reduceAdd, Nat.reduceMul, Nat.reduceLeDiff, Int.reduceLE, Int.reduceLT, Int.reduceEq, Int.reduceToNat, Int.reduceAdd, Int.reduceSub, Int.reduceMul, Int.reduceNeg, reduceCtorEq, Option.bind_some, Option.map_some, List.length_cons, List.length_nil, vcM, List.getElem?_toArray, List.getElem?_cons_zero, List.getElem?_cons_succ]
  (refine W_at c4_ok ?_; refine ⟨_, rfl, ?_⟩; simp (disch := first | omega | assumption | rfl | (simp only [vcS] <;> omega) | fail) only [↓vcL1, ptS2_eq, ↓vcA, vcB, ↓vcD, vcE, ↓reduceIte, Nat.reduceEqDiff, Nat.reduceAdd, Nat.reduceMul, Nat.reduceLeDiff, Int.reduceLE, Int.reduceLT, Int.reduceEq, Int.reduceToNat, Int.reduceAdd, Int.reduceSub, Int.reduceMul, Int.reduceNeg, reduceCtorEq, Option.bind_some, Option.map_some, List.length_cons, List.length_nil, vcM, List.getElem?_toArray, List.getElem?_cons_zero, List.getElem?_cons_succ])
  have hL6 : Rd (w6.alloc (.cells (bv [1]).toArray 5)) (.slice (some ⟨w6.heap.size, 0, none⟩) 1 1) [1] := (own_lit1 (bs := [1]) (by decide)).rd
  have hE7 : Ext w6 (w6.alloc (.cells (bv [1]).toArray 5)) := (Keep.refl _ w6).alloc _
  have h7 := h6.ext hE7
  refine callV_ret (labeled_ok _ _ _ b ov3 r1 r2 r3 _ _ [] _ h7 _ [1] hL6) ?_
  rintro _ w8 ⟨rfl, hE8⟩
  rw [getG1]
  have hq : decide ((⟨#[120]⟩ : ByteArray) = ⟨#[120]⟩) = true := decide_eq_true rfl
  first | (simp (disch := first | omega | assumption | rfl | (simp only [vcS] <;> omega) | fail) only [↓vcL2, ptS1_eq, ↓vcA, vcB, ↓vcD, vcE, ↓reduceIte, Nat.reduceEqDiff, Nat.reduceAdd, Nat.reduceMul, Nat.reduceLeDiff, Int.reduceLE, Int.reduceLT, Int.reduceEq, Int.reduceToNat, Int.reduceAdd, Int.reduceSub, Int.reduceMul, Int.reduceNeg, reduceCtorEq, Option.bind_some, Option.map_some, List.length_cons, List.length_nil, vcM, List.getElem?_toArray, List.getElem?_cons_zero, List.getElem?_cons_succ, Option.getD_some, hq]) | skip
  (refine W_at c4_ok ?_; refine ⟨_, rfl, ?_⟩; simp (disch := first | omega | assumption | rfl | (simp only [vcS] <;> omega) | fail) only [↓ptV_l, ↓vcA, vcB, ↓vcD, vcE, ↓reduceIte, Nat.reduceEqDiff, Nat.reduceAdd, Nat.reduceMul, Nat.reduceLeDiff, Int.reduceLE, Int.reduceLT, Int.reduceEq, Int.reduceToNat, Int.reduceAdd, Int.reduceSub, Int.reduceMul, Int.reduceNeg, reduceCtorEq, Option.bind_some, Option.map_some, List.length_cons, List.length_nil, vcM, List.getElem?_toArray, List.getElem?_cons_zero, List.getElem?_cons_succ, Ret_returned])
  have kA : Ext w w2 := Keep.trans hE1 hk2 fun g hg e => by omega
  have kB := ((kA.ext hE3).ext hE4).ext hE5
  have hl3 := h3.l3
  have kC : Ext w w6 := Keep.trans kB hk6 fun g hg e => by omega
  exact (kC.ext hE7).ext hE8
end Go.Proofs
namespace Go.Proofs
open Go.Vc
set_option maxRecDepth 10000

set_option maxRecDepth 100000 in
theorem bldx_tx (w : World) (k : Int) (q : Option Addr) (n c : Nat) (K : Value → World → Prop) (h : K (.agg #[.int .i32 0, .slice none 0 0, .slice q n c, .int .u32 k]) w) :
    bldxV Try.prog 40 [3, 2] [.int .u32 k, .slice q n c] w K := by
  refine ⟨_, _, ?_, h⟩
  kernel_rfl
def tN (k : Int) : TxV := ⟨0, [], [⟨1, []⟩], k⟩
theorem tN_ok {k : Int} (h : 0 ≤ k ∧ k ≤ 4294967295) : (tN k).Ok := ⟨(by decide : -2147483648 ≤ (0 : Int) ∧ (0 : Int) ≤ 2147483647), fun x h => (by cases h), fun y hy => by
  obtain rfl := List.mem_singleton.1 hy
  exact ⟨by decide, fun x h => (by cases h)⟩, h⟩
theorem tN_few (k : Int) : (tN k).Few 100 1000 := ⟨Nat.zero_le _, Nat.succ_le_succ (Nat.zero_le _), fun x h => (by cases h), fun y hy => by obtain rfl := List.mem_singleton.1 hy; decide⟩
theorem tN_sm (k : Int) : (tN k).Sm := ⟨Nat.zero_le _, Nat.succ_le_succ (Nat.zero_le _), fun x h => (by cases h), fun y hy => by obtain rfl := List.mem_singleton.1 hy; decide⟩
theorem tN_R (w : World) (k : Int) : TxR (w.alloc (.cells #[.int .i64 1, .slice none 0 0] 36)) (.slice none 0 0) (.slice (some ⟨w.heap.size, 0, none⟩) 1 1) (tN k) := by
  refine ⟨ListR.nil _ _ _, [oC ⟨1, []⟩ (.slice none 0 0)], rfl, fun c hc => by rw [List.mem_singleton.1 hc]; rfl, ?_, ⟨_, _, rfl, Nat.le_refl _⟩, by show 1 ≤ 9223372036854775807; decide, fun i a b => ?_⟩
  · have hn6 : (w.alloc (.cells #[.int .i64 1, .slice none 0 0] 36)).heap[w.heap.size]? = some (.cells #[.int .i64 1, .slice none 0 0] 36 (0, 0)) := heap_new _ _ _ rfl
    simp only [rdS, rdN_heap]
    rw [if_neg (by omega), hn6, Nat.one_mul, rdO_all _ _ _ 2 rfl]
    rfl
  · have : i = 0 := by simp at a; omega
    subst this
    exact ⟨.slice none 0 0, rfl, Rd.nil _⟩
set_option maxHeartbeats 6400000 in
theorem notes_loop (w : World) (b r1 r2 r3 pn nA lo : Nat) (hlo : w.heap.size ≤ lo) (va : Value) (hva : lenR va = some (.int .i64 (nA : Nat))) (R : Ending → World → Prop)
    (go : ∀ wz ov ids recs (i : Int), LedAt wz lo wz.heap.size b ov r1 r2 r3 ids recs [] [] → ids.length ≤ 5 → Ext w wz → W Try.prog R 3 18 [(1, va), (2, .pointer (some ⟨pn, 0, none⟩)), (5, .pointer (some ⟨b, 0, none⟩)), (6, .int .i64 i), (19, .bool false)] wz) :
    ∀ (k i : Nat) (wj : World) (ov : Value) (ids : List (List Int)) (recs : List KV) (tl : Env), i + k = 5 → ids.length ≤ i → LedAt wj lo wj.heap.size b ov r1 r2 r3 ids recs [] [] → Ext w wj →
      W Try.prog R 3 23 ((1, va) :: (2, .pointer (some ⟨pn, 0, none⟩)) :: (5, .pointer (some ⟨b, 0, none⟩)) :: (6, .int .i64 (i : Nat)) :: tl) wj := by
  intro k
  induction k with
  | zero =>
    intro i wj ov ids recs tl hi hid h hE
    by_cases hn : ((i : Nat) : Int) < (nA : Nat)
    · have hnf : ¬ ((i : Nat) : Int) < 5 := by omega
      have d1 : decide (((i : Nat) : Int) < (nA : Nat)) = true := decide_eq_true hn
      have d2 : decide (((i : Nat) : Int) < 5) = false := decide_eq_false hnf
      (refine W_at c3_ok ?_; refine ⟨_, rfl, ?_⟩; simp (disch := first | omega | assumption | rfl | (simp only [vcS] <;> omega) | fail) only [↓ptV_l, ↓vcA, vcB, ↓vcD, vcE, ↓reduceIte, Nat.reduceEqDiff, Nat.reduceAdd, Nat.reduceMul, Nat.reduceLeDiff, Int.reduceLE, Int.reduceLT, Int.reduceEq, Int.reduceToNat, Int.reduceAdd, Int.reduceSub, Int.reduceMul, Int.reduceNeg, reduceCtorEq, Option.bind_some, Option.map_some, List.length_cons, List.length_nil, vcM, List.getElem?_toArray, List.getElem?_cons_zero, List.getElem?_cons_succ, hva, hn, hnf, d1, d2])
      (refine W_at c3_ok ?_; refine ⟨_, rfl, ?_⟩; simp (disch := first | omega | assumption | rfl | (simp only [vcS] <;> omega) | fail) only [↓ptV_l, ↓vcA, vcB, ↓vcD, vcE, ↓reduceIte, Nat.reduceEqDiff, Nat.reduceAdd, Nat.reduceMul, Nat.reduceLeDiff, Int.reduceLE, Int.reduceLT, Int.reduceEq, Int.reduceToNat, Int.reduceAdd, Int.reduceSub, Int.reduceMul, Int.reduceNeg, reduceCtorEq, Option.bind_some, Option.map_some, List.length_cons, List.length_nil, vcM, List.getElem?_toArray, List.getElem?_cons_zero, List.getElem?_cons_succ])
      exact go _ _ _ _ _ h (by omega) hE
    · have d1 : decide (((i : Nat) : Int) < (nA : Nat)) = false := decide_eq_false hn
      (refine W_at c3_ok ?_; refine ⟨_, rfl, ?_⟩; simp (disch := first | omega | assumption | rfl | (simp only [vcS] <;> omega) | fail) only [↓ptV_l, ↓vcA, vcB, ↓vcD, vcE, ↓reduceIte, Nat.reduceEqDiff, Nat.reduceAdd, Nat.reduceMul, Nat.reduceLeDiff, Int.reduceLE, Int.reduceLT, Int.reduceEq, Int.reduceToNat, Int.reduceAdd, Int.reduceSub, Int.reduceMul, Int.reduceNeg, reduceCtorEq, Option.bind_some, Option.map_some, List.length_cons, List.length_nil, vcM, List.getElem?_toArray, List.getElem?_cons_zero, List.getElem?_cons_succ, hva, hn, d1])
      (refine W_at c3_ok ?_; refine ⟨_, rfl, ?_⟩; simp (disch := first | omega | assumption | rfl | (simp only [vcS] <;> omega) | fail) only [↓ptV_l, ↓vcA, vcB, ↓vcD, vcE, ↓reduceIte, Nat.reduceEqDiff, Nat.reduceAdd, Nat.reduceMul, Nat.reduceLeDiff, Int.reduceLE, Int.reduceLT, Int.reduceEq, Int.reduceToNat, Int.reduceAdd, Int.reduceSub, Int.reduceMul, Int.reduceNeg, reduceCtorEq, Option.bind_some, Option.map_some, List.length_cons, List.length_nil, vcM, List.getElem?_toArray, List.getElem?_cons_zero, List.getElem?_cons_succ])
      exact go _ _ _ _ _ h (by omega) hE
  | succ k ih =>
    intro i wj ov ids recs tl hi hid h hE
    by_cases hn : ((i : Nat) : Int) < (nA : Nat)
    · have hnf : ((i : Nat) : Int) < 5 := by omega
      have d1 : decide (((i : Nat) : Int) < (nA : Nat)) = true := decide_eq_true hn
      have d2 : decide (((i : Nat) : Int) < 5) = true := decide_eq_true hnf
      (refine W_at c3_ok ?_; refine ⟨_, rfl, ?_⟩; simp (disch := first | omega | assumption | rfl | (simp only [vcS] <;> omega) | fail) only [↓ptV_l, ↓vcA, vcB, ↓vcD, vcE, ↓reduceIte, Nat.reduceEqDiff, Nat.reduceAdd, Nat.reduceMul, Nat.reduceLeDiff, Int.reduceLE, Int.reduceLT, Int.reduceEq, Int.reduceToNat, Int.reduceAdd, Int.reduceSub, Int.reduceMul, Int.reduceNeg, reduceCtorEq, Option.bind_some, Option.map_some, List.length_cons, List.length_nil, vcM, List.getElem?_toArray, List.getElem?_cons_zero, List.getElem?_cons_succ, hva, hn, hnf, d1, d2])
      (refine W_at c3_ok ?_; refine ⟨_, rfl, ?_⟩; simp (disch := first | omega | assumption | rfl | (simp only [vcS] <;> omega) | fail) only [↓ptV_l, ↓vcA, vcB, ↓vcD, vcE, ↓reduceIte, Nat.reduceEqDiff, Nat.reduceAdd, Nat.reduceMul, Nat.reduceLeDiff, Int.reduceLE, Int.reduceLT, Int.reduceEq, Int.reduceToNat, Int.reduceAdd, Int.reduceSub, Int.reduceMul, Int.reduceNeg, reduceCtorEq, Option.bind_some, Option.map_some, List.length_cons, List.length_nil, vcM, List.getElem?_toArray, List.getElem?_cons_zero, List.getElem?_cons_succ])
      have hk0 : 0 ≤ ((i : Nat) : Int).tmod 3 ∧ ((i : Nat) : Int).tmod 3 ≤ 4294967295 := by
        rw [Int.tmod_eq_emod_of_nonneg (by omega)]; omega
      have hw32 : IntKind.u32.wrap (((i : Nat) : Int).tmod 3) = ((i : Nat) : Int).tmod 3 := by rw [wrap_u32]; omega
      (refine W_at c3_ok ?_; refine ⟨_, rfl, ?_⟩; simp (disch := first | omega | assumption | rfl | (simp only [vcS] <;> omega) | fail) only [↓vcL1, ptS2_eq, ↓vcA, vcB, ↓vcD, vcE, ↓reduceIte, Nat.reduceEqDiff, Nat.reduceAdd, Nat.reduceMul, Nat.reduceLeDiff, Int.reduceLE, Int.reduceLT, Int.reduceEq, Int.reduceToNat, Int.reduceAdd, Int.reduceSub, Int.reduceMul, Int.reduceNeg, reduceCtorEq, Option.bind_some, Option.map_some, List.length_cons, List.length_nil, vcM, List.getElem?_toArray, List.getElem?_cons_zero, List.getElem?_cons_succ, liV_bldx, hw32])
      generalize ((i : Nat) : Int).tmod 3 = kk at hk0
      have hcc : ((#[Value.int IntKind.i64 1] ++ zc [(1, Value.slice none 0 0)]).toList ++ []).toArray = #[.int .i64 1, .slice none 0 0] := rfl
      have hc2 : (#[Value.int IntKind.i64 1] ++ zc [(1, Value.slice none 0 0)]).size = 2 := rfl
      rw [if_pos hc2, getV_some, hcc]
      have hR1 := tN_R wj kk
      have hE1 : Ext wj (wj.alloc (.cells #[.int .i64 1, .slice none 0 0] 36)) := (Keep.refl _ wj).alloc _
      have hsz1 : (wj.alloc (.cells #[.int .i64 1, .slice none 0 0] 36)).heap.size = wj.heap.size + 1 := size_alloc _ _
      generalize World.alloc wj _ = w1 at hR1 hE1 hsz1 ⊢
      simp (disch := first | omega | assumption | rfl | (simp only [vcS] <;> omega) | fail) only [↓ptV_l, ↓vcA, vcB, ↓vcD, vcE, ↓reduceIte, Nat.reduceEqDiff, Nat.reduceAdd, Nat.reduceMul, Nat.reduceLeDiff, Int.reduceLE, Int.reduceLT, Int.reduceEq, Int.reduceToNat, Int.reduceAdd, Int.reduceSub, Int.reduceMul, Int.reduceNeg, reduceCtorEq, Option.bind_some, Option.map_some, List.length_cons, List.length_nil, vcM, List.getElem?_toArray, List.getElem?_cons_zero, List.getElem?_cons_succ, liV_bldx]
      refine bldx_tx _ _ _ _ _ _ ?_
      first | (simp (disch := first | omega | assumption | rfl | (simp only [vcS] <;> omega) | fail) only [↓vcL1, ptS2_eq, ↓vcA, vcB, ↓vcD, vcE, ↓reduceIte, Nat.reduceEqDiff, Nat.reduceAdd, Nat.reduceMul, Nat.reduceLeDiff, Int.reduceLE, Int.reduceLT, Int.reduceEq, Int.reduceToNat, Int.reduceAdd, Int.reduceSub, Int.reduceMul, Int.reduceNeg, reduceCtorEq, Option.bind_some, Option.map_some, List.length_cons, List.length_nil, vcM, List.getElem?_toArray, List.getElem?_cons_zero, List.getElem?_cons_succ, liV_bldx]) | (simp (disch := first | omega | assumption | rfl | (simp only [vcS] <;> omega) | fail) only [↓vcL2, ptS1_eq, ↓vcA, vcB, ↓vcD, vcE, ↓reduceIte, Nat.reduceEqDiff, Nat.reduceAdd, Nat.reduceMul, Nat.reduceLeDiff, Int.reduceLE, Int.reduceLT, Int.reduceEq, Int.reduceToNat, Int.reduceAdd, Int.reduceSub, Int.reduceMul, Int.reduceNeg, reduceCtorEq, Option.bind_some, Option.map_some, List.length_cons, List.length_nil, vcM, List.getElem?_toArray, List.getElem?_cons_zero, List.getElem?_cons_succ, liV_bldx]) | skip
      have hb : (#[.int .i32 0, .slice none 0 0, .slice (some ⟨wj.heap.size, 0, none⟩) 1 1, .int .u32 kk] : Array Value) = txC (tN kk) (.slice none 0 0) (.slice (some ⟨wj.heap.size, 0, none⟩) 1 1) := rfl
      rw [hb]
      refine callV_ret (add_ok2 w1 lo wj.heap.size b ov r1 r2 r3 ids recs [] [] (h.ext hE1) hE1.size _ _ (tN kk) hR1 (tN_ok hk0) (tN_few kk) (tN_sm kk) (by omega)) ?_
      rintro u w2 ⟨ov2, ids2, recs2, h2, hl2, hk2, _⟩
      have hE2 : Ext w w2 := Keep.trans (hE.ext hE1) hk2 fun g hg e => by omega
      have hwi : IntKind.i64.wrap (((i : Nat) : Int) + 1) = ((i + 1 : Nat) : Int) := wrap_i64 (by omega) (by omega)
      first | (simp (disch := first | omega | assumption | rfl | (simp only [vcS] <;> omega) | fail) only [↓vcL1, ptS2_eq, ↓vcA, vcB, ↓vcD, vcE, ↓reduceIte, Nat.reduceEqDiff, Nat.reduceAdd, Nat.reduceMul, Nat.reduceLeDiff, Int.reduceLE, Int.reduceLT, Int.reduceEq, Int.reduceToNat, Int.reduceAdd, Int.reduceSub, Int.reduceMul, Int.reduceNeg, reduceCtorEq, Option.bind_some, Option.map_some, List.length_cons, List.length_nil, vcM, List.getElem?_toArray, List.getElem?_cons_zero, List.getElem?_cons_succ]) | (simp (disch := first | omega | assumption | rfl | (simp only [vcS] <;> omega) | fail) only [↓vcL2, ptS1_eq, ↓vcA, vcB, ↓vcD, vcE, ↓reduceIte, Nat.reduceEqDiff, Nat.reduceAdd, Nat.reduceMul, Nat.reduceLeDiff, Int.reduceLE, Int.reduceLT, Int.reduceEq, Int.reduceToNat, Int.reduceAdd, Int.reduceSub, Int.reduceMul, Int.reduceNeg, reduceCtorEq, Option.bind_some, Option.map_some, List.length_cons, List.length_nil, vcM, List.getElem?_toArray, List.getElem?_cons_zero, List.getElem?_cons_succ]) | skip
      (refine W_at c3_ok ?_; refine ⟨_, rfl, ?_⟩; simp (disch := first | omega | assumption | rfl | (simp only [vcS] <;> omega) | fail) only [↓ptV_l, ↓vcA, vcB, ↓vcD, vcE, ↓reduceIte, Nat.reduceEqDiff, Nat.reduceAdd, Nat.reduceMul, Nat.reduceLeDiff, Int.reduceLE, Int.reduceLT, Int.reduceEq, Int.reduceToNat, Int.reduceAdd, Int.reduceSub, Int.reduceMul, Int.reduceNeg, reduceCtorEq, Option.bind_some, Option.map_some, List.length_cons, List.length_nil, vcM, List.getElem?_toArray, List.getElem?_cons_zero, List.getElem?_cons_succ, hwi])
      (refine W_at c3_ok ?_; refine ⟨_, rfl, ?_⟩; simp (disch := first | omega | assumption | rfl | (simp only [vcS] <;> omega) | fail) only [↓ptV_l, ↓vcA, vcB, ↓vcD, vcE, ↓reduceIte, Nat.reduceEqDiff, Nat.reduceAdd, Nat.reduceMul, Nat.reduceLeDiff, Int.reduceLE, Int.reduceLT, Int.reduceEq, Int.reduceToNat, Int.reduceAdd, Int.reduceSub, Int.reduceMul, Int.reduceNeg, reduceCtorEq, Option.bind_some, Option.map_some, List.length_cons, List.length_nil, vcM, List.getElem?_toArray, List.getElem?_cons_zero, List.getElem?_cons_succ])
      exact ih (i + 1) w2 ov2 ids2 recs2 _ (by omega) (by omega) h2 hE2
    · have d1 : decide (((i : Nat) : Int) < (nA : Nat)) = false := decide_eq_false hn
      (refine W_at c3_ok ?_; refine ⟨_, rfl, ?_⟩; simp (disch := first | omega | assumption | rfl | (simp only [vcS] <;> omega) | fail) only [↓ptV_l, ↓vcA, vcB, ↓vcD, vcE, ↓reduceIte, Nat.reduceEqDiff, Nat.reduceAdd, Nat.reduceMul, Nat.reduceLeDiff, Int.reduceLE, Int.reduceLT, Int.reduceEq, Int.reduceToNat, Int.reduceAdd, Int.reduceSub, Int.reduceMul, Int.reduceNeg, reduceCtorEq, Option.bind_some, Option.map_some, List.length_cons, List.length_nil, vcM, List.getElem?_toArray, List.getElem?_cons_zero, List.getElem?_cons_succ, hva, hn, d1])
      (refine W_at c3_ok ?_; refine ⟨_, rfl, ?_⟩; simp (disch := first | omega | assumption | rfl | (simp only [vcS] <;> omega) | fail) only [↓ptV_l, ↓vcA, vcB, ↓vcD, vcE, ↓reduceIte, Nat.reduceEqDiff, Nat.reduceAdd, Nat.reduceMul, Nat.reduceLeDiff, Int.reduceLE, Int.reduceLT, Int.reduceEq, Int.reduceToNat, Int.reduceAdd, Int.reduceSub, Int.reduceMul, Int.reduceNeg, reduceCtorEq, Option.bind_some, Option.map_some, List.length_cons, List.length_nil, vcM, List.getElem?_toArray, List.getElem?_cons_zero, List.getElem?_cons_succ])
      exact go _ _ _ _ _ h (by omega) hE
end Go.Proofs
namespace Go.Proofs
open Go.Vc
set_option maxRecDepth 10000

def nC (sv : Value) (s : ByteArray) (prev : List Int) (idx : Int) : Array Value := (sv :: .string s :: (bv prev ++ [.int .u32 idx])).toArray
theorem nC_0 (sv : Value) (s : ByteArray) (prev : List Int) (idx : Int) : (nC sv s prev idx)[0]? = some sv := rfl
theorem nC_1 (sv : Value) (s : ByteArray) (prev : List Int) (idx : Int) : (nC sv s prev idx)[1]? = some (.string s) := rfl
theorem nC_size {sv : Value} {s : ByteArray} {prev : List Int} {idx : Int} (h : prev.length = 32) : (nC sv s prev idx).size = 35 := by simp [nC, bv_len, h]
theorem nC_pl {sv : Value} {s : ByteArray} {prev : List Int} {idx : Int} (h : prev.length = 32) : rdO (some (.cells (nC sv s prev idx) 29 (0, 0))) 2 33 = some (bv prev ++ [Value.int .u32 idx]).toArray := by
  have hs := nC_size (sv := sv) (s := s) (idx := idx) h
  simp only [rdO]
  rw [if_pos (by omega)]
  congr 1
  apply Array.ext'
  have h2 : (bv prev ++ [Value.int .u32 idx]).length = 33 := by simp [bv_len, h]
  rw [Array.toList_extract]
  simp only [nC, List.extract, List.drop_succ_cons, List.drop_zero]
  rw [List.take_of_length_le (by omega)]
theorem nC_flat {sv : Value} (s : ByteArray) (prev : List Int) (idx : Int) (h : sv.oneCell' = true) : flat (nC sv s prev idx) := by
  intro y hy
  simp only [nC, List.mem_cons, List.mem_append, List.not_mem_nil, or_false] at hy
  rcases hy with rfl | rfl | hy | rfl
  · exact h
  · rfl
  · exact bv_flat prev y (by simpa using hy)
  · rfl
structure NS (w wj : World) (lo hi b : Nat) (ov : Value) (r1 r2 r3 lo2 hi2 b2 : Nat) (ov2 : Value) (q1 q2 q3 : Nat) (ids : List (List Int)) (recs locks labels : List KV) (pn : Nat) (cs : Array Value) : Prop where
  l : LedAt wj lo hi b ov r1 r2 r3 ids recs locks labels
  was : LedAt wj lo2 hi2 b2 ov2 q1 q2 q3 ids recs [] []
  n : wj.heap[pn]? = some (.cells cs 29 (0, 0))
  ext : Ext w wj
  b1 : w.heap.size ≤ lo
  b2 : pn < lo
  b3 : hi ≤ lo2
  few : ids.length ≤ 1000
section
variable {w wj wk : World} {lo hi b : Nat} {ov : Value} {r1 r2 r3 lo2 hi2 b2 : Nat} {ov2 : Value} {q1 q2 q3 : Nat} {ids : List (List Int)} {recs locks labels : List KV} {pn : Nat} {cs : Array Value}
theorem NS.k (h : NS w wj lo hi b ov r1 r2 r3 lo2 hi2 b2 ov2 q1 q2 q3 ids recs locks labels pn cs) {S : Nat → Prop} (k : Keep S wj wk) (hS : ∀ g, S g → lo ≤ g ∧ g < hi) {locks' labels' : List KV} (l' : LedAt wk lo hi b ov r1 r2 r3 ids recs locks' labels') : NS w wk lo hi b ov r1 r2 r3 lo2 hi2 b2 ov2 q1 q2 q3 ids recs locks' labels' pn cs := by
  have h1 := h.b1
  have h2 := h.b2
  have h3 := h.b3
  exact ⟨l', h.was.keep k fun g hg => by have := hS g hg; omega, k.at h.n fun hs => by have := hS _ hs; omega, h.ext.trans k fun g hg hs => by have := hS g hs; omega, h1, h2, h3, h.few⟩
theorem NS.e (h : NS w wj lo hi b ov r1 r2 r3 lo2 hi2 b2 ov2 q1 q2 q3 ids recs locks labels pn cs) (k : Ext wj wk) : NS w wk lo hi b ov r1 r2 r3 lo2 hi2 b2 ov2 q1 q2 q3 ids recs locks labels pn cs := h.k k (fun _ h => h.elim) (h.l.ext k)
end
/-- Whether two ledgers are alike, where one of them has no marks. -/
theorem NS.same {w wj : World} {lo hi b : Nat} {ov : Value} {r1 r2 r3 lo2 hi2 b2 : Nat} {ov2 : Value} {q1 q2 q3 : Nat} {ids : List (List Int)} {recs locks labels : List KV} {pn : Nat} {cs : Array Value} (h : NS w wj lo hi b ov r1 r2 r3 lo2 hi2 b2 ov2 q1 q2 q3 ids recs locks labels pn cs) :
    Calls Try.prog 9 #[.pointer (some ⟨b, 0, none⟩), .pointer (some ⟨b2, 0, none⟩)] wj (Ret fun u w' => u = .bool (decide (locks.length = 0) && decide (labels.length = 0)) ∧ Ext wj w') := by
  have e : ∀ l : List KV, l = [] ∨ l.length ≠ ([] : List KV).length := fun l => by
    cases l with
    | nil => exact .inl rfl
    | cons _ _ => exact .inr (by simp)
  exact lsame_ok wj lo hi b lo2 hi2 b2 ov ov2 r1 r2 r3 q1 q2 q3 ids recs locks labels [] [] h.l h.was h.few (e _) (e _)
set_option maxHeartbeats 6400000 in
theorem notes_big {w wj : World} {lo hi b : Nat} {ov : Value} {r1 r2 r3 lo2 hi2 b2 : Nat} {ov2 : Value} {q1 q2 q3 : Nat} {ids : List (List Int)} {recs : List KV} {pn : Nat} {sv : Value} {s : ByteArray} {prev : List Int} {idx : Int} {bs : List Int} (hx : Rd w sv bs)
    (h : NS w wj lo hi b ov r1 r2 r3 lo2 hi2 b2 ov2 q1 q2 q3 ids recs [] [] pn (nC sv s prev idx)) :
    W Try.prog (Ret fun u w' => u = .bool true ∧ Ext w w') 3 14 [(2, .pointer (some ⟨pn, 0, none⟩)), (5, .pointer (some ⟨b, 0, none⟩)), (7, .pointer (some ⟨b2, 0, none⟩)), (8, .int .i64 2), (41, .bool true)] wj := by
  (refine W_at c3_ok ?_; refine ⟨_, rfl, ?_⟩; simp (disch := first | omega | assumption | rfl | (simp only [vcS] <;> omega) | fail) only [↓vcL1, ptS2_eq, ↓vcA, vcB, ↓vcD, vcE, ↓reduceIte, Nat.reduceEqDiff, Nat.reduceAdd, Nat.reduceMul, Nat.reduceLeDiff, Int.reduceLE, Int.reduceLT, Int.reduceEq, Int.reduceToNat, Int.reduceAdd, Int.reduceSub, Int.reduceMul, Int.reduceNeg, reduceCtorEq, Option.bind_some, Option.map_some, List.length_cons, List.length_nil, vcM, List.getElem?_toArray, List.getElem?_cons_zero, List.getElem?_cons_succ])
  refine callV_ret h.same ?_
  rintro _ w1 ⟨rfl, hE1⟩
  have h1 := h.e hE1
  have hn1 := h1.n
  have d0 : (decide (([] : List KV).length = 0) && decide (([] : List KV).length = 0)) = true := rfl
  rw [d0]
  simp (disch := first | omega | assumption | rfl | (simp only [vcS] <;> omega) | fail) only [↓vcL2, ptS1_eq, ↓vcA, vcB, ↓vcD, vcE, ↓reduceIte, Nat.reduceEqDiff, Nat.reduceAdd, Nat.reduceMul, Nat.reduceLeDiff, Int.reduceLE, Int.reduceLT, Int.reduceEq, Int.reduceToNat, Int.reduceAdd, Int.reduceSub, Int.reduceMul, Int.reduceNeg, reduceCtorEq, Option.bind_some, Option.map_some, List.length_cons, List.length_nil, vcM, List.getElem?_toArray, List.getElem?_cons_zero, List.getElem?_cons_succ, hn1, nC_0]
  refine callV_ret (labeled_ok w1 lo hi b ov r1 r2 r3 ids recs [] [] h1.l sv bs (hx.ext h1.ext)) ?_
  rintro _ w2 ⟨rfl, hE2⟩
  have hg : (getG (keyS bs) []).getD (.string ByteArray.empty) = .string ByteArray.empty := rfl
  have hq : decide (ByteArray.empty = (⟨#[]⟩ : ByteArray)) = true := decide_eq_true rfl
  rw [hg]
  simp (disch := first | omega | assumption | rfl | (simp only [vcS] <;> omega) | fail) only [↓vcL1, ptS2_eq, ↓vcA, vcB, ↓vcD, vcE, ↓reduceIte, Nat.reduceEqDiff, Nat.reduceAdd, Nat.reduceMul, Nat.reduceLeDiff, Int.reduceLE, Int.reduceLT, Int.reduceEq, Int.reduceToNat, Int.reduceAdd, Int.reduceSub, Int.reduceMul, Int.reduceNeg, reduceCtorEq, Option.bind_some, Option.map_some, List.length_cons, List.length_nil, vcM, List.getElem?_toArray, List.getElem?_cons_zero, List.getElem?_cons_succ, hq]
  (refine W_at c3_ok ?_; refine ⟨_, rfl, ?_⟩; simp (disch := first | omega | assumption | rfl | (simp only [vcS] <;> omega) | fail) only [↓ptV_l, ↓vcA, vcB, ↓vcD, vcE, ↓reduceIte, Nat.reduceEqDiff, Nat.reduceAdd, Nat.reduceMul, Nat.reduceLeDiff, Int.reduceLE, Int.reduceLT, Int.reduceEq, Int.reduceToNat, Int.reduceAdd, Int.reduceSub, Int.reduceMul, Int.reduceNeg, reduceCtorEq, Option.bind_some, Option.map_some, List.length_cons, List.length_nil, vcM, List.getElem?_toArray, List.getElem?_cons_zero, List.getElem?_cons_succ, Ret_returned])
  exact h1.ext.ext hE2
end Go.Proofs
namespace Go.Proofs
open Go.Vc
set_option maxRecDepth 10000

set_option maxHeartbeats 6400000 in
theorem notes_fin {w wj : World} {lo hi b : Nat} {ov : Value} {r1 r2 r3 lo2 hi2 b2 : Nat} {ov2 : Value} {q1 q2 q3 : Nat} {ids : List (List Int)} {recs L : List KV} {pn : Nat} {sv : Value} {s : ByteArray} {prev : List Int} {idx : Int} {bs : List Int} (hx : Rd w sv bs) (hp : prev.length = 32)
    (hg : (getG (keyS bs) L).getD (.string ByteArray.empty) = .string s) (hl : decide (L.length = 0) = decide (s = (⟨#[]⟩ : ByteArray))) (hd : delG (keyS bs) L = [])
    (h : NS w wj lo hi b ov r1 r2 r3 lo2 hi2 b2 ov2 q1 q2 q3 ids recs [] L pn (nC sv s prev idx)) :
    W Try.prog (Ret fun u w' => u = .bool true ∧ Ext w w') 3 12 [(2, .pointer (some ⟨pn, 0, none⟩)), (5, .pointer (some ⟨b, 0, none⟩)), (7, .pointer (some ⟨b2, 0, none⟩)), (8, .int .i64 0), (41, .bool false)] wj := by
  have hn := h.n
  have hpl := nC_pl (sv := sv) (s := s) (idx := idx) hp
  (refine W_at c3_ok ?_; refine ⟨_, rfl, ?_⟩; simp (disch := first | omega | assumption | rfl | (simp only [vcS] <;> omega) | fail) only [↓vcL1, ptS2_eq, ↓vcA, vcB, ↓vcD, vcE, ↓reduceIte, Nat.reduceEqDiff, Nat.reduceAdd, Nat.reduceMul, Nat.reduceLeDiff, Int.reduceLE, Int.reduceLT, Int.reduceEq, Int.reduceToNat, Int.reduceAdd, Int.reduceSub, Int.reduceMul, Int.reduceNeg, reduceCtorEq, Option.bind_some, Option.map_some, List.length_cons, List.length_nil, vcM, List.getElem?_toArray, List.getElem?_cons_zero, List.getElem?_cons_succ, hn, nC_0, nC_1])
  have hEd : Ext wj wj.drew := (Keep.refl _ wj).drew
  replace h := h.e hEd
  refine callV_ret (labeled_ok wj.drew lo hi b ov r1 r2 r3 ids recs [] L h.l sv bs (hx.ext h.ext)) ?_
  rintro _ w1 ⟨rfl, hE1⟩
  have h1 := h.e hE1
  have hn1 := h1.n
  rw [hg]
  refine ⟨by rw [hn1]; rfl, ?_⟩
  have hss : decide (s = s) = true := decide_eq_true rfl
  simp (disch := first | omega | assumption | rfl | (simp only [vcS] <;> omega) | fail) only [↓vcL2, ptS1_eq, ↓vcA, vcB, ↓vcD, vcE, ↓reduceIte, Nat.reduceEqDiff, Nat.reduceAdd, Nat.reduceMul, Nat.reduceLeDiff, Int.reduceLE, Int.reduceLT, Int.reduceEq, Int.reduceToNat, Int.reduceAdd, Int.reduceSub, Int.reduceMul, Int.reduceNeg, reduceCtorEq, Option.bind_some, Option.map_some, List.length_cons, List.length_nil, vcM, List.getElem?_toArray, List.getElem?_cons_zero, List.getElem?_cons_succ, hn1, nC_1, hss]
  refine callV_ret h1.same ?_
  rintro _ w2 ⟨rfl, hE2⟩
  have h2 := h1.e hE2
  have hn2 := h2.n
  refine ⟨by rw [hn2]; rfl, ?_⟩
  have hl2 : (decide (([] : List KV).length = 0) && decide (L.length = 0)) = decide (s = (⟨#[]⟩ : ByteArray)) := by rw [hl]; rfl
  rw [hl2]
  generalize decide (s = (⟨#[]⟩ : ByteArray)) = z at hl ⊢
  have hzz : (!(z == z)) = false := by cases z <;> rfl
  simp (disch := first | omega | assumption | rfl | (simp only [vcS] <;> omega) | fail) only [↓vcL1, ptS2_eq, ↓vcA, vcB, ↓vcD, vcE, ↓reduceIte, Nat.reduceEqDiff, Nat.reduceAdd, Nat.reduceMul, Nat.reduceLeDiff, Int.reduceLE, Int.reduceLT, Int.reduceEq, Int.reduceToNat, Int.reduceAdd, Int.reduceSub, Int.reduceMul, Int.reduceNeg, reduceCtorEq, Option.bind_some, Option.map_some, List.length_cons, List.length_nil, vcM, List.getElem?_toArray, List.getElem?_cons_zero, List.getElem?_cons_succ, hzz]
  (refine W_at c3_ok ?_; refine ⟨_, rfl, ?_⟩; simp (disch := first | omega | assumption | rfl | (simp only [vcS] <;> omega) | fail) only [↓ptV_l, ↓vcA, vcB, ↓vcD, vcE, ↓reduceIte, Nat.reduceEqDiff, Nat.reduceAdd, Nat.reduceMul, Nat.reduceLeDiff, Int.reduceLE, Int.reduceLT, Int.reduceEq, Int.reduceToNat, Int.reduceAdd, Int.reduceSub, Int.reduceMul, Int.reduceNeg, reduceCtorEq, Option.bind_some, Option.map_some, List.length_cons, List.length_nil, vcM, List.getElem?_toArray, List.getElem?_cons_zero, List.getElem?_cons_succ])
  -- locked
  (refine W_at c3_ok ?_; refine ⟨_, rfl, ?_⟩; simp (disch := first | omega | assumption | rfl | (simp only [vcS] <;> omega) | fail) only [↓vcL1, ptS2_eq, ↓vcA, vcB, ↓vcD, vcE, ↓reduceIte, Nat.reduceEqDiff, Nat.reduceAdd, Nat.reduceMul, Nat.reduceLeDiff, Int.reduceLE, Int.reduceLT, Int.reduceEq, Int.reduceToNat, Int.reduceAdd, Int.reduceSub, Int.reduceMul, Int.reduceNeg, reduceCtorEq, Option.bind_some, Option.map_some, List.length_cons, List.length_nil, vcM, List.getElem?_toArray, List.getElem?_cons_zero, List.getElem?_cons_succ, hn2, hpl])
  refine callV_ret (lock_ok w2 lo hi b ov r1 r2 r3 ids recs [] L h2.l prev idx hp true) ?_
  rintro _ w3 ⟨hl3, hk3⟩
  have h3 := h2.k hk3 (fun g hg => hg ▸ h2.l.l2) hl3
  have hput : (if true = true then putG (pK prev idx) (.bool true) [] else delG (pK prev idx) []) = [((pK prev idx, .bool true) : KV)] := by simp [putG, idxG]
  rw [hput] at h3
  clear hl3
  have hn3 := h3.n
  simp (disch := first | omega | assumption | rfl | (simp only [vcS] <;> omega) | fail) only [↓vcL2, ptS1_eq, ↓vcA, vcB, ↓vcD, vcE, ↓reduceIte, Nat.reduceEqDiff, Nat.reduceAdd, Nat.reduceMul, Nat.reduceLeDiff, Int.reduceLE, Int.reduceLT, Int.reduceEq, Int.reduceToNat, Int.reduceAdd, Int.reduceSub, Int.reduceMul, Int.reduceNeg, reduceCtorEq, Option.bind_some, Option.map_some, List.length_cons, List.length_nil, vcM, List.getElem?_toArray, List.getElem?_cons_zero, List.getElem?_cons_succ]
  (refine W_at c3_ok ?_; refine ⟨_, rfl, ?_⟩; simp (disch := first | omega | assumption | rfl | (simp only [vcS] <;> omega) | fail) only [↓vcL1, ptS2_eq, ↓vcA, vcB, ↓vcD, vcE, ↓reduceIte, Nat.reduceEqDiff, Nat.reduceAdd, Nat.reduceMul, Nat.reduceLeDiff, Int.reduceLE, Int.reduceLT, Int.reduceEq, Int.reduceToNat, Int.reduceAdd, Int.reduceSub, Int.reduceMul, Int.reduceNeg, reduceCtorEq, Option.bind_some, Option.map_some, List.length_cons, List.length_nil, vcM, List.getElem?_toArray, List.getElem?_cons_zero, List.getElem?_cons_succ, hn3, hpl])
  refine callV_ret (locked_ok w3 lo hi b ov r1 r2 r3 ids recs _ L h3.l prev idx hp) ?_
  rintro _ w4 ⟨rfl, hE4⟩
  have h4 := h3.e hE4
  have hn4 := h4.n
  rw [getG1]
  simp (disch := first | omega | assumption | rfl | (simp only [vcS] <;> omega) | fail) only [↓vcL2, ptS1_eq, ↓vcA, vcB, ↓vcD, vcE, ↓reduceIte, Nat.reduceEqDiff, Nat.reduceAdd, Nat.reduceMul, Nat.reduceLeDiff, Int.reduceLE, Int.reduceLT, Int.reduceEq, Int.reduceToNat, Int.reduceAdd, Int.reduceSub, Int.reduceMul, Int.reduceNeg, reduceCtorEq, Option.bind_some, Option.map_some, List.length_cons, List.length_nil, vcM, List.getElem?_toArray, List.getElem?_cons_zero, List.getElem?_cons_succ, hn4, hpl, Option.getD_some]
  refine callV_ret (locked_ok w4 lo2 hi2 b2 ov2 q1 q2 q3 ids recs _ _ h4.was prev idx hp) ?_
  rintro _ w5 ⟨rfl, hE5⟩
  have h5 := h4.e hE5
  have hn5 := h5.n
  have hgn : (getG (pK prev idx) []).getD (.bool false) = .bool false := rfl
  rw [hgn]
  simp (disch := first | omega | assumption | rfl | (simp only [vcS] <;> omega) | fail) only [↓vcL1, ptS2_eq, ↓vcA, vcB, ↓vcD, vcE, ↓reduceIte, Nat.reduceEqDiff, Nat.reduceAdd, Nat.reduceMul, Nat.reduceLeDiff, Int.reduceLE, Int.reduceLT, Int.reduceEq, Int.reduceToNat, Int.reduceAdd, Int.reduceSub, Int.reduceMul, Int.reduceNeg, reduceCtorEq, Option.bind_some, Option.map_some, List.length_cons, List.length_nil, vcM, List.getElem?_toArray, List.getElem?_cons_zero, List.getElem?_cons_succ]
  refine callV_ret h5.same ?_
  rintro _ w6 ⟨rfl, hE6⟩
  have h6 := h5.e hE6
  have hn6 := h6.n
  have hz6 : (decide ([((pK prev idx, .bool true) : KV)].length = 0) && decide (L.length = 0)) = false := rfl
  rw [hz6]
  simp (disch := first | omega | assumption | rfl | (simp only [vcS] <;> omega) | fail) only [↓vcL2, ptS1_eq, ↓vcA, vcB, ↓vcD, vcE, ↓reduceIte, Nat.reduceEqDiff, Nat.reduceAdd, Nat.reduceMul, Nat.reduceLeDiff, Int.reduceLE, Int.reduceLT, Int.reduceEq, Int.reduceToNat, Int.reduceAdd, Int.reduceSub, Int.reduceMul, Int.reduceNeg, reduceCtorEq, Option.bind_some, Option.map_some, List.length_cons, List.length_nil, vcM, List.getElem?_toArray, List.getElem?_cons_zero, List.getElem?_cons_succ]
  (refine W_at c3_ok ?_; refine ⟨_, rfl, ?_⟩; simp (disch := first | omega | assumption | rfl | (simp only [vcS] <;> omega) | fail) only [↓ptV_l, ↓vcA, vcB, ↓vcD, vcE, ↓reduceIte, Nat.reduceEqDiff, Nat.reduceAdd, Nat.reduceMul, Nat.reduceLeDiff, Int.reduceLE, Int.reduceLT, Int.reduceEq, Int.reduceToNat, Int.reduceAdd, Int.reduceSub, Int.reduceMul, Int.reduceNeg, reduceCtorEq, Option.bind_some, Option.map_some, List.length_cons, List.length_nil, vcM, List.getElem?_toArray, List.getElem?_cons_zero, List.getElem?_cons_succ])
  -- and let go
  (refine W_at c3_ok ?_; refine ⟨_, rfl, ?_⟩; simp (disch := first | omega | assumption | rfl | (simp only [vcS] <;> omega) | fail) only [↓vcL1, ptS2_eq, ↓vcA, vcB, ↓vcD, vcE, ↓reduceIte, Nat.reduceEqDiff, Nat.reduceAdd, Nat.reduceMul, Nat.reduceLeDiff, Int.reduceLE, Int.reduceLT, Int.reduceEq, Int.reduceToNat, Int.reduceAdd, Int.reduceSub, Int.reduceMul, Int.reduceNeg, reduceCtorEq, Option.bind_some, Option.map_some, List.length_cons, List.length_nil, vcM, List.getElem?_toArray, List.getElem?_cons_zero, List.getElem?_cons_succ, hn6, hpl])
  refine callV_ret (lock_ok w6 lo hi b ov r1 r2 r3 ids recs _ L h6.l prev idx hp false) ?_
  rintro _ w7 ⟨hl7, hk7⟩
  have h7 := h6.k hk7 (fun g hg => hg ▸ h6.l.l2) hl7
  have hdel : (if false = true then putG (pK prev idx) (.bool true) [((pK prev idx, .bool true) : KV)] else delG (pK prev idx) [((pK prev idx, .bool true) : KV)]) = [] := by simp [delG, idxG]
  rw [hdel] at h7
  clear hl7
  have hn7 := h7.n
  simp (disch := first | omega | assumption | rfl | (simp only [vcS] <;> omega) | fail) only [↓vcL2, ptS1_eq, ↓vcA, vcB, ↓vcD, vcE, ↓reduceIte, Nat.reduceEqDiff, Nat.reduceAdd, Nat.reduceMul, Nat.reduceLeDiff, Int.reduceLE, Int.reduceLT, Int.reduceEq, Int.reduceToNat, Int.reduceAdd, Int.reduceSub, Int.reduceMul, Int.reduceNeg, reduceCtorEq, Option.bind_some, Option.map_some, List.length_cons, List.length_nil, vcM, List.getElem?_toArray, List.getElem?_cons_zero, List.getElem?_cons_succ]
  (refine W_at c3_ok ?_; refine ⟨_, rfl, ?_⟩; simp (disch := first | omega | assumption | rfl | (simp only [vcS] <;> omega) | fail) only [↓vcL1, ptS2_eq, ↓vcA, vcB, ↓vcD, vcE, ↓reduceIte, Nat.reduceEqDiff, Nat.reduceAdd, Nat.reduceMul, Nat.reduceLeDiff, Int.reduceLE, Int.reduceLT, Int.reduceEq, Int.reduceToNat, Int.reduceAdd, Int.reduceSub, Int.reduceMul, Int.reduceNeg, reduceCtorEq, Option.bind_some, Option.map_some, List.length_cons, List.length_nil, vcM, List.getElem?_toArray, List.getElem?_cons_zero, List.getElem?_cons_succ, hn7, nC_0])
  refine callV_ret (label_ok w7 lo hi b ov r1 r2 r3 ids recs [] L h7.l sv bs (hx.ext h7.ext) ⟨#[]⟩) ?_
  rintro _ w8 ⟨rfl, hl8, hk8⟩
  have h8 := h7.k hk8 (fun g hg => hg ▸ h7.l.l3) hl8
  have hlab : (if 100 < (⟨#[]⟩ : ByteArray).size then L else if (⟨#[]⟩ : ByteArray) = ByteArray.empty then delG (keyS bs) L else putG (keyS bs) (.string ⟨#[]⟩) L) = [] := by
    rw [if_neg (by decide), if_pos (show (⟨#[]⟩ : ByteArray) = ByteArray.empty from rfl), hd]
  rw [hlab] at h8
  clear hl8
  have hn8 := h8.n
  rw [if_neg (by decide)]
  simp (disch := first | omega | assumption | rfl | (simp only [vcS] <;> omega) | fail) only [↓vcL2, ptS1_eq, ↓vcA, vcB, ↓vcD, vcE, ↓reduceIte, Nat.reduceEqDiff, Nat.reduceAdd, Nat.reduceMul, Nat.reduceLeDiff, Int.reduceLE, Int.reduceLT, Int.reduceEq, Int.reduceToNat, Int.reduceAdd, Int.reduceSub, Int.reduceMul, Int.reduceNeg, reduceCtorEq, Option.bind_some, Option.map_some, List.length_cons, List.length_nil, vcM, List.getElem?_toArray, List.getElem?_cons_zero, List.getElem?_cons_succ, hn8, nC_0]
  refine callV_ret (labeled_ok w8 lo hi b ov r1 r2 r3 ids recs [] [] h8.l sv bs (hx.ext h8.ext)) ?_
  rintro _ w9 ⟨rfl, hE9⟩
  have h9 := h8.e hE9
  have hn9 := h9.n
  have hge : (getG (keyS bs) []).getD (.string ByteArray.empty) = .string ByteArray.empty := rfl
  have hqe : decide (ByteArray.empty = (⟨#[]⟩ : ByteArray)) = true := decide_eq_true rfl
  rw [hge]
  simp (disch := first | omega | assumption | rfl | (simp only [vcS] <;> omega) | fail) only [↓vcL1, ptS2_eq, ↓vcA, vcB, ↓vcD, vcE, ↓reduceIte, Nat.reduceEqDiff, Nat.reduceAdd, Nat.reduceMul, Nat.reduceLeDiff, Int.reduceLE, Int.reduceLT, Int.reduceEq, Int.reduceToNat, Int.reduceAdd, Int.reduceSub, Int.reduceMul, Int.reduceNeg, reduceCtorEq, Option.bind_some, Option.map_some, List.length_cons, List.length_nil, vcM, List.getElem?_toArray, List.getElem?_cons_zero, List.getElem?_cons_succ, hqe, hn9, hpl]
  refine callV_ret (locked_ok w9 lo hi b ov r1 r2 r3 ids recs _ _ h9.l prev idx hp) ?_
  rintro _ w10 ⟨rfl, hE10⟩
  have h10 := h9.e hE10
  rw [hgn]
  simp (disch := first | omega | assumption | rfl | (simp only [vcS] <;> omega) | fail) only [↓vcL2, ptS1_eq, ↓vcA, vcB, ↓vcD, vcE, ↓reduceIte, Nat.reduceEqDiff, Nat.reduceAdd, Nat.reduceMul, Nat.reduceLeDiff, Int.reduceLE, Int.reduceLT, Int.reduceEq, Int.reduceToNat, Int.reduceAdd, Int.reduceSub, Int.reduceMul, Int.reduceNeg, reduceCtorEq, Option.bind_some, Option.map_some, List.length_cons, List.length_nil, vcM, List.getElem?_toArray, List.getElem?_cons_zero, List.getElem?_cons_succ]
  refine callV_ret h10.same ?_
  rintro _ w11 ⟨rfl, hE11⟩
  have hz11 : (decide (([] : List KV).length = 0) && decide (([] : List KV).length = 0)) = true := rfl
  rw [hz11]
  simp (disch := first | omega | assumption | rfl | (simp only [vcS] <;> omega) | fail) only [↓vcL1, ptS2_eq, ↓vcA, vcB, ↓vcD, vcE, ↓reduceIte, Nat.reduceEqDiff, Nat.reduceAdd, Nat.reduceMul, Nat.reduceLeDiff, Int.reduceLE, Int.reduceLT, Int.reduceEq, Int.reduceToNat, Int.reduceAdd, Int.reduceSub, Int.reduceMul, Int.reduceNeg, reduceCtorEq, Option.bind_some, Option.map_some, List.length_cons, List.length_nil, vcM, List.getElem?_toArray, List.getElem?_cons_zero, List.getElem?_cons_succ]
  (refine W_at c3_ok ?_; refine ⟨_, rfl, ?_⟩; simp (disch := first | omega | assumption | rfl | (simp only [vcS] <;> omega) | fail) only [↓ptV_l, ↓vcA, vcB, ↓vcD, vcE, ↓reduceIte, Nat.reduceEqDiff, Nat.reduceAdd, Nat.reduceMul, Nat.reduceLeDiff, Int.reduceLE, Int.reduceLT, Int.reduceEq, Int.reduceToNat, Int.reduceAdd, Int.reduceSub, Int.reduceMul, Int.reduceNeg, reduceCtorEq, Option.bind_some, Option.map_some, List.length_cons, List.length_nil, vcM, List.getElem?_toArray, List.getElem?_cons_zero, List.getElem?_cons_succ, Ret_returned])
  exact h10.ext.ext hE11
end Go.Proofs
namespace Go.Proofs
open Go.Vc
set_option maxRecDepth 10000

set_option maxHeartbeats 6400000 in
theorem notes_ok (w : World) (sv : Value) (s : ByteArray) (prev : List Int) (idx : Int) (bs : List Int) (hx : Rd w sv bs) (hp : prev.length = 32) (va : Value) (nA : Nat) (hva : lenR va = some (.int .i64 (nA : Nat))) :
    Calls Try.prog 3 #[.agg (nC sv s prev idx), va] w (Ret fun u w' => u = .bool true ∧ Ext w w') := by
  refine calls_of_cfg c3_ok (Nat.le_of_ble_eq_true rfl) ?_
  simp only [argE_nil, argE_cons, Nat.reduceAdd, Nat.zero_add]
  have hsz := nC_size (sv := sv) (s := s) (idx := idx) hp
  have hone : sv.oneCell' = true := by obtain ⟨q, c, e, _⟩ := hx.is; rw [e]; rfl
  have hfl := nC_flat s prev idx hone
  have hcn : (Value.agg (nC sv s prev idx)).cells = nC sv s prev idx := rfl
  (refine W_at c3_ok ?_; refine ⟨_, rfl, ?_⟩; simp (disch := first | omega | assumption | rfl | (simp only [vcS] <;> omega) | fail) only [↓ptV_l, ↓vcA, vcB, ↓vcD, vcE, ↓reduceIte, Nat.reduceEqDiff, Nat.reduceAdd, Nat.reduceMul, Nat.reduceLeDiff, Int.reduceLE, Int.reduceLT, Int.reduceEq, Int.reduceToNat, Int.reduceAdd, Int.reduceSub, Int.reduceMul, Int.reduceNeg, reduceCtorEq, Option.bind_some, Option.map_some, List.length_cons, List.length_nil, vcM, List.getElem?_toArray, List.getElem?_cons_zero, List.getElem?_cons_succ, hsz, hfl, hcn])
  have hE1 : Ext w (w.alloc (.cells (nC sv s prev idx) 29)) := (Keep.refl _ w).alloc _
  have n1 : (w.alloc (.cells (nC sv s prev idx) 29)).heap[w.heap.size]? = some (.cells (nC sv s prev idx) 29 (0, 0)) := heap_new _ _ _ rfl
  have s1 : (w.alloc (.cells (nC sv s prev idx) 29)).heap.size = w.heap.size + 1 := size_alloc _ _
  generalize World.alloc w _ = w1 at hE1 n1 s1 ⊢
  (refine W_at c3_ok ?_; refine ⟨_, rfl, ?_⟩; simp (disch := first | omega | assumption | rfl | (simp only [vcS] <;> omega) | fail) only [↓vcL1, ptS2_eq, ↓vcA, vcB, ↓vcD, vcE, ↓reduceIte, Nat.reduceEqDiff, Nat.reduceAdd, Nat.reduceMul, Nat.reduceLeDiff, Int.reduceLE, Int.reduceLT, Int.reduceEq, Int.reduceToNat, Int.reduceAdd, Int.reduceSub, Int.reduceMul, Int.reduceNeg, reduceCtorEq, Option.bind_some, Option.map_some, List.length_cons, List.length_nil, vcM, List.getElem?_toArray, List.getElem?_cons_zero, List.getElem?_cons_succ])
  refine callV_ret (awake_ok w1) ?_
  rintro _ w2 ⟨rfl, hE2⟩
  simp (disch := first | omega | assumption | rfl | (simp only [vcS] <;> omega) | fail) only [↓vcL2, ptS1_eq, ↓vcA, vcB, ↓vcD, vcE, ↓reduceIte, Nat.reduceEqDiff, Nat.reduceAdd, Nat.reduceMul, Nat.reduceLeDiff, Int.reduceLE, Int.reduceLT, Int.reduceEq, Int.reduceToNat, Int.reduceAdd, Int.reduceSub, Int.reduceMul, Int.reduceNeg, reduceCtorEq, Option.bind_some, Option.map_some, List.length_cons, List.length_nil, vcM, List.getElem?_toArray, List.getElem?_cons_zero, List.getElem?_cons_succ]
  (refine W_at c3_ok ?_; refine ⟨_, rfl, ?_⟩; simp (disch := first | omega | assumption | rfl | (simp only [vcS] <;> omega) | fail) only [↓ptV_l, ↓vcA, vcB, ↓vcD, vcE, ↓reduceIte, Nat.reduceEqDiff, Nat.reduceAdd, Nat.reduceMul, Nat.reduceLeDiff, Int.reduceLE, Int.reduceLT, Int.reduceEq, Int.reduceToNat, Int.reduceAdd, Int.reduceSub, Int.reduceMul, Int.reduceNeg, reduceCtorEq, Option.bind_some, Option.map_some, List.length_cons, List.length_nil, vcM, List.getElem?_toArray, List.getElem?_cons_zero, List.getElem?_cons_succ])
  (refine W_at c3_ok ?_; refine ⟨_, rfl, ?_⟩; simp (disch := first | omega | assumption | rfl | (simp only [vcS] <;> omega) | fail) only [↓vcL1, ptS2_eq, ↓vcA, vcB, ↓vcD, vcE, ↓reduceIte, Nat.reduceEqDiff, Nat.reduceAdd, Nat.reduceMul, Nat.reduceLeDiff, Int.reduceLE, Int.reduceLT, Int.reduceEq, Int.reduceToNat, Int.reduceAdd, Int.reduceSub, Int.reduceMul, Int.reduceNeg, reduceCtorEq, Option.bind_some, Option.map_some, List.length_cons, List.length_nil, vcM, List.getElem?_toArray, List.getElem?_cons_zero, List.getElem?_cons_succ])
  refine callV_ret (lnew_ok w2) ?_
  rintro _ w3 ⟨b, r1, r2, r3, rfl, hl3, hE3⟩
  have s2 := hE2.size
  have n2 := hE2.at n1 (fun h => h)
  generalize hpn : w.heap.size = pn at n1 n2 s1 ⊢
  simp (disch := first | omega | assumption | rfl | (simp only [vcS] <;> omega) | fail) only [↓vcL2, ptS1_eq, ↓vcA, vcB, ↓vcD, vcE, ↓reduceIte, Nat.reduceEqDiff, Nat.reduceAdd, Nat.reduceMul, Nat.reduceLeDiff, Int.reduceLE, Int.reduceLT, Int.reduceEq, Int.reduceToNat, Int.reduceAdd, Int.reduceSub, Int.reduceMul, Int.reduceNeg, reduceCtorEq, Option.bind_some, Option.map_some, List.length_cons, List.length_nil, vcM, List.getElem?_toArray, List.getElem?_cons_zero, List.getElem?_cons_succ]
  (refine W_at c3_ok ?_; refine ⟨_, rfl, ?_⟩; simp (disch := first | omega | assumption | rfl | (simp only [vcS] <;> omega) | fail) only [↓ptV_l, ↓vcA, vcB, ↓vcD, vcE, ↓reduceIte, Nat.reduceEqDiff, Nat.reduceAdd, Nat.reduceMul, Nat.reduceLeDiff, Int.reduceLE, Int.reduceLT, Int.reduceEq, Int.reduceToNat, Int.reduceAdd, Int.reduceSub, Int.reduceMul, Int.reduceNeg, reduceCtorEq, Option.bind_some, Option.map_some, List.length_cons, List.length_nil, vcM, List.getElem?_toArray, List.getElem?_cons_zero, List.getElem?_cons_succ])
  refine notes_loop w2 b r1 r2 r3 pn nA w2.heap.size (Nat.le_refl _) va hva _ (fun wz ov ids recs i hz hid hEz => ?_) 5 0 w3 _ _ _ _ rfl (Nat.le_refl _) hl3 hE3
  have nz := hEz.at n2 (fun h => h)
  (refine W_at c3_ok ?_; refine ⟨_, rfl, ?_⟩; simp (disch := first | omega | assumption | rfl | (simp only [vcS] <;> omega) | fail) only [↓vcL1, ptS2_eq, ↓vcA, vcB, ↓vcD, vcE, ↓reduceIte, Nat.reduceEqDiff, Nat.reduceAdd, Nat.reduceMul, Nat.reduceLeDiff, Int.reduceLE, Int.reduceLT, Int.reduceEq, Int.reduceToNat, Int.reduceAdd, Int.reduceSub, Int.reduceMul, Int.reduceNeg, reduceCtorEq, Option.bind_some, Option.map_some, List.length_cons, List.length_nil, vcM, List.getElem?_toArray, List.getElem?_cons_zero, List.getElem?_cons_succ])
  refine callV_ret (lclone_ok wz _ _ b ov r1 r2 r3 ids recs [] [] hz (by omega)) ?_
  rintro _ w4 ⟨b2, ov2, q1, q2, q3, rfl, hwas, hE4⟩
  have h4 : NS w w4 w2.heap.size wz.heap.size b ov r1 r2 r3 wz.heap.size w4.heap.size b2 ov2 q1 q2 q3 ids recs [] [] pn (nC sv s prev idx) :=
    ⟨hz.ext hE4, hwas, hE4.at nz (fun h => h), ((hE1.ext hE2).ext hEz).ext hE4, by omega, by omega, Nat.le_refl _, by omega⟩
  have n4 := h4.n
  simp (disch := first | omega | assumption | rfl | (simp only [vcS] <;> omega) | fail) only [↓vcL2, ptS1_eq, ↓vcA, vcB, ↓vcD, vcE, ↓reduceIte, Nat.reduceEqDiff, Nat.reduceAdd, Nat.reduceMul, Nat.reduceLeDiff, Int.reduceLE, Int.reduceLT, Int.reduceEq, Int.reduceToNat, Int.reduceAdd, Int.reduceSub, Int.reduceMul, Int.reduceNeg, reduceCtorEq, Option.bind_some, Option.map_some, List.length_cons, List.length_nil, vcM, List.getElem?_toArray, List.getElem?_cons_zero, List.getElem?_cons_succ]
  (refine W_at c3_ok ?_; refine ⟨_, rfl, ?_⟩; simp (disch := first | omega | assumption | rfl | (simp only [vcS] <;> omega) | fail) only [↓vcL1, ptS2_eq, ↓vcA, vcB, ↓vcD, vcE, ↓reduceIte, Nat.reduceEqDiff, Nat.reduceAdd, Nat.reduceMul, Nat.reduceLeDiff, Int.reduceLE, Int.reduceLT, Int.reduceEq, Int.reduceToNat, Int.reduceAdd, Int.reduceSub, Int.reduceMul, Int.reduceNeg, reduceCtorEq, Option.bind_some, Option.map_some, List.length_cons, List.length_nil, vcM, List.getElem?_toArray, List.getElem?_cons_zero, List.getElem?_cons_succ, n4, nC_0, nC_1])
  refine callV_ret (label_ok w4 _ _ b ov r1 r2 r3 ids recs [] [] h4.l sv bs (hx.ext h4.ext) s) ?_
  rintro _ w5 ⟨rfl, hl5, hk5⟩
  have h5 := h4.k hk5 (fun g hg => hg ▸ h4.l.l3) hl5
  clear hl5
  have n5 := h5.n
  simp (disch := first | omega | assumption | rfl | (simp only [vcS] <;> omega) | fail) only [↓vcL2, ptS1_eq, ↓vcA, vcB, ↓vcD, vcE, ↓reduceIte, Nat.reduceEqDiff, Nat.reduceAdd, Nat.reduceMul, Nat.reduceLeDiff, Int.reduceLE, Int.reduceLT, Int.reduceEq, Int.reduceToNat, Int.reduceAdd, Int.reduceSub, Int.reduceMul, Int.reduceNeg, reduceCtorEq, Option.bind_some, Option.map_some, List.length_cons, List.length_nil, vcM, List.getElem?_toArray, List.getElem?_cons_zero, List.getElem?_cons_succ]
  by_cases hs : 100 < s.size
  · have hs' : (100 : Int) < (s.size : Nat) := by omega
    have d1 : decide ((100 : Int) < (s.size : Nat)) = true := decide_eq_true hs'
    rw [if_pos hs] at h5 ⊢
    (refine W_at c3_ok ?_; refine ⟨_, rfl, ?_⟩; simp (disch := first | omega | assumption | rfl | (simp only [vcS] <;> omega) | fail) only [↓ptV_l, ↓vcA, vcB, ↓vcD, vcE, ↓reduceIte, Nat.reduceEqDiff, Nat.reduceAdd, Nat.reduceMul, Nat.reduceLeDiff, Int.reduceLE, Int.reduceLT, Int.reduceEq, Int.reduceToNat, Int.reduceAdd, Int.reduceSub, Int.reduceMul, Int.reduceNeg, reduceCtorEq, Option.bind_some, Option.map_some, List.length_cons, List.length_nil, vcM, List.getElem?_toArray, List.getElem?_cons_zero, List.getElem?_cons_succ, n5, nC_1, hs', d1])
    (refine W_at c3_ok ?_; refine ⟨_, rfl, ?_⟩; simp (disch := first | omega | assumption | rfl | (simp only [vcS] <;> omega) | fail) only [↓ptV_l, ↓vcA, vcB, ↓vcD, vcE, ↓reduceIte, Nat.reduceEqDiff, Nat.reduceAdd, Nat.reduceMul, Nat.reduceLeDiff, Int.reduceLE, Int.reduceLT, Int.reduceEq, Int.reduceToNat, Int.reduceAdd, Int.reduceSub, Int.reduceMul, Int.reduceNeg, reduceCtorEq, Option.bind_some, Option.map_some, List.length_cons, List.length_nil, vcM, List.getElem?_toArray, List.getElem?_cons_zero, List.getElem?_cons_succ])
    exact notes_big hx h5
  · have hs' : ¬ (100 : Int) < (s.size : Nat) := by omega
    have d1 : decide ((100 : Int) < (s.size : Nat)) = false := decide_eq_false hs'
    rw [if_neg hs] at h5 ⊢
    (refine W_at c3_ok ?_; refine ⟨_, rfl, ?_⟩; simp (disch := first | omega | assumption | rfl | (simp only [vcS] <;> omega) | fail) only [↓ptV_l, ↓vcA, vcB, ↓vcD, vcE, ↓reduceIte, Nat.reduceEqDiff, Nat.reduceAdd, Nat.reduceMul, Nat.reduceLeDiff, Int.reduceLE, Int.reduceLT, Int.reduceEq, Int.reduceToNat, Int.reduceAdd, Int.reduceSub, Int.reduceMul, Int.reduceNeg, reduceCtorEq, Option.bind_some, Option.map_some, List.length_cons, List.length_nil, vcM, List.getElem?_toArray, List.getElem?_cons_zero, List.getElem?_cons_succ, n5, nC_1, hs', d1])
    (refine W_at c3_ok ?_; refine ⟨_, rfl, ?_⟩; simp (disch := first | omega | assumption | rfl | (simp only [vcS] <;> omega) | fail) only [↓ptV_l, ↓vcA, vcB, ↓vcD, vcE, ↓reduceIte, Nat.reduceEqDiff, Nat.reduceAdd, Nat.reduceMul, Nat.reduceLeDiff, Int.reduceLE, Int.reduceLT, Int.reduceEq, Int.reduceToNat, Int.reduceAdd, Int.reduceSub, Int.reduceMul, Int.reduceNeg, reduceCtorEq, Option.bind_some, Option.map_some, List.length_cons, List.length_nil, vcM, List.getElem?_toArray, List.getElem?_cons_zero, List.getElem?_cons_succ])
    by_cases he : s = ByteArray.empty
    · rw [if_pos he] at h5
      refine notes_fin hx hp ?_ ?_ ?_ h5
      · rw [he]; rfl
      · exact (decide_eq_true (show (delG (keyS bs) ([] : List KV)).length = 0 from rfl)).trans (decide_eq_true (show s = (⟨#[]⟩ : ByteArray) from he)).symm
      · rfl
    · rw [if_neg he] at h5
      have hput : putG (keyS bs) (.string s) ([] : List KV) = [(keyS bs, .string s)] := by simp [putG, idxG]
      rw [hput] at h5
      refine notes_fin hx hp ?_ ?_ ?_ h5
      · rw [getG1]; rfl
      · exact (decide_eq_false (show ¬ [((keyS bs, .string s) : KV)].length = 0 by simp)).trans (decide_eq_false (show ¬ s = (⟨#[]⟩ : ByteArray) from he)).symm
      · simp [delG, idxG]
end Go.Proofs
namespace Go.Proofs.Ytabagepjaccjnaa
open Go.Vc Go.ChangeShapes Go.WideShapes Go.ChangeAt Go.RowKit Go.Proofs

theorem liesAll_split {w : World} : ∀ {s t : Tys} {l : List Value}, LiesAll w (s.app t) l → ∃ a b, l = a ++ b ∧ LiesAll w s a ∧ LiesAll w t b
  | .nil, t, l, h => ⟨[], l, rfl, by simp only [LiesAll], h⟩
  | .cons u s, t, [], h => by simp only [Tys.app, LiesAll] at h
  | .cons u s, t, v :: l, h => by
    simp only [Tys.app, LiesAll] at h
    obtain ⟨a, b, e, h1, h2⟩ := liesAll_split h.2
    exact ⟨v :: a, b, by rw [e]; rfl, by simp only [LiesAll]; exact ⟨h.1, h1⟩, h2⟩
theorem bytes_rep2 {w : World} : ∀ (k : Nat) (l : List Value), LiesAll w (Tys.rep k u8T) l → ∃ bs, l = bv bs ∧ bs.length = k
  | 0, l, h => by
    simp only [Tys.rep, LiesAll] at h
    exact ⟨[], h, rfl⟩
  | k + 1, l, h => by
    simp only [Tys.rep, u8T, Tys.app] at h
    cases l with
    | nil => simp only [LiesAll] at h
    | cons v l =>
      simp only [LiesAll, Lies] at h
      obtain ⟨⟨n, rfl, hn⟩, h2⟩ := h
      obtain ⟨bs, rfl, hl⟩ := bytes_rep2 k l h2
      exact ⟨n :: bs, rfl, by rw [List.length_cons, hl]⟩
def noteT : Tys := .cons (.sl u8T) (.cons .str ((Tys.rep 32 u8T).app (.cons (.int .u32) .nil)))
theorem note_arg {W : World} {v : Value} (h : ArgLies Try.prog W 29 v) : ∃ sv s prev idx bs, v = .agg (nC sv s prev idx) ∧ Rd W sv bs ∧ prev.length = 32 := by
  obtain ⟨cs, rfl, hl⟩ := argAgg (m := 6) (a := noteT) (by kernel_rfl) (.inl ⟨_, Try.underlying29⟩) h
  unfold noteT at hl
  cases e : cs.toList with
  | nil => rw [e] at hl; simp only [LiesAll] at hl
  | cons v1 b =>
  rw [e] at hl
  simp only [LiesAll] at hl
  obtain ⟨k1, h2⟩ := hl
  cases b with
  | nil => simp only [LiesAll] at h2
  | cons v2 b =>
  simp only [LiesAll] at h2
  obtain ⟨k2, h2⟩ := h2
  obtain ⟨a, c, rfl, h3, h4⟩ := liesAll_split h2
  obtain ⟨prev, rfl, hp⟩ := bytes_rep2 32 a h3
  cases c with
  | nil => simp only [LiesAll] at h4
  | cons v4 c =>
  simp only [LiesAll] at h4
  obtain ⟨k4, rfl⟩ := h4
  simp only [Lies] at k2 k4
  obtain ⟨s, rfl, _⟩ := k2
  obtain ⟨idx, rfl, _⟩ := k4
  obtain ⟨bs, hr, _⟩ := bytes_of k1
  refine ⟨v1, s, prev, idx, bs, ?_, hr, hp⟩
  congr 1
  apply Array.ext'
  rw [e]; rfl
def isSl : Option Tys → Bool
  | some (.cons (.sl _) .nil) => true
  | _ => false
theorem isSl_of {o : Option Tys} (h : isSl o = true) : ∃ e, o = some (.cons (.sl e) .nil) := by
  unfold isSl at h
  split at h
  · exact ⟨_, rfl⟩
  · cases h
theorem acts_arg {W : World} {v : Value} (h : ArgLies Try.prog W 30 v) : ∃ n : Nat, lenR v = some (.int .i64 (n : Nat)) := by
  obtain ⟨e, he⟩ := isSl_of (o := tyOf Try.prog 12 30) (by kernel_rfl)
  have := argSl he Try.underlying30 h
  simp only [Lies] at this
  obtain ⟨q, n, c, xs, rfl, _⟩ := this
  exact ⟨n, rfl⟩
set_option maxRecDepth 100000 in
theorem notes_lifted (os : Os) (started : os.Started) (H : Type) (enc : TypeId × Value → H) :
    ReturnsInHanded {} Try.checked os 3 .any (Rows.ledgerNotesSpec.pre6 enc Try.prog Try.f3 Rows.ledgerNotesRow.domain false) (Rows.ledgerNotesSpec.post enc Try.prog Try.f3 false true false false) := by
  refine returnsInHanded_of_change (C := Try.checked) Try.own started (by kernel_rfl) Try.func3
    (ChangeSpec.witness6 (enc := enc) (C := Try.checked) false ⟨#[], #[.agg #[.slice none 0 0, .string ⟨#[]⟩, .int .u8 0, .int .u8 0, .int .u8 0, .int .u8 0, .int .u8 0, .int .u8 0, .int .u8 0, .int .u8 0, .int .u8 0, .int .u8 0, .int .u8 0, .int .u8 0, .int .u8 0, .int .u8 0, .int .u8 0, .int .u8 0, .int .u8 0, .int .u8 0, .int .u8 0, .int .u8 0, .int .u8 0, .int .u8 0, .int .u8 0, .int .u8 0, .int .u8 0, .int .u8 0, .int .u8 0, .int .u8 0, .int .u8 0, .int .u8 0, .int .u8 0, .int .u8 0, .int .u32 0], .slice none 0 0], []⟩ 8 (by kernel_rfl) (by kernel_rfl) (by kernel_rfl) (by kernel_rfl)) ?_
  intro W base args ds gs before hval0 hW hcnd _
  refine post_true Try.laidOut rfl rfl (tb := 4) (by kernel_rfl) ?_ ?_ hval0 hW ?_
  · rw [Try.params3]; intro t ht; simp at ht; rcases ht with rfl | rfl <;> exact ⟨by kernel_rfl, of_decide_eq_true (by kernel_rfl)⟩
  · intro ds hd; rw [Try.params3] at hd; match ds, hd with | [_, _], _ => rfl
  · intro hs ha
    rw [Try.params3] at hs ha
    obtain ⟨v, v2, rfl⟩ := args_2 hs
    obtain ⟨sv, s, prev, idx, bs, rfl, hx, hp⟩ := note_arg (ha 0 29 v rfl rfl)
    obtain ⟨n, hn⟩ := acts_arg (ha 1 30 v2 rfl rfl)
    exact notes_ok W sv s prev idx bs hx hp v2 n hn
theorem notes_holds : Rows.LedgerNotesSaid :=
  OpenClaim.holds_of_wide 3 Try.f3 rfl rfl rfl rfl rfl rfl rfl ⟨rfl, rfl, rfl, rfl, rfl⟩ rfl rfl rfl rfl rfl (by kernel_rfl) Try.func3 (by kernel_rfl)
    (of_decide_eq_true (by kernel_rfl)) (by unfold Func.isWrapper; first | (rw [if_pos (by decide +kernel)]; kernel_rfl) | (rw [if_neg (by decide +kernel)]; exact ⟨rfl, rfl⟩))
    (fun os started H enc _ => notes_lifted os started H enc)
end Go.Proofs.Ytabagepjaccjnaa
