/- Base58's fixed fact: two noughts and a one. -/
import Derived.Test.YtajkhimlpnebdaaTD
set_option linter.unusedSimpArgs false
set_option linter.unusedVariables false
set_option linter.constructorNameAsVariable false
namespace Go.Proofs
open Go.Vc Go.RowKit
set_option maxRecDepth 10000

def l58S : List Int := [49, 50, 51, 52, 53, 54, 55, 56, 57, 65, 66, 67, 68, 69, 70, 71, 72, 74, 75, 76, 77, 78, 80, 81, 82, 83, 84, 85, 86, 87, 88, 89, 90, 97, 98, 99, 100, 101, 102, 103, 104, 105, 106, 107, 109, 110, 111, 112, 113, 114, 115, 116, 117, 118, 119, 120, 121, 122]
theorem l58S_is : (⟨#[49, 50, 51, 52, 53, 54, 55, 56, 57, 65, 66, 67, 68, 69, 70, 71, 72, 74, 75, 76, 77, 78, 80, 81, 82, 83, 84, 85, 86, 87, 88, 89, 90, 97, 98, 99, 100, 101, 102, 103, 104, 105, 106, 107, 109, 110, 111, 112, 113, 114, 115, 116, 117, 118, 119, 120, 121, 122]⟩ : ByteArray) = strOf l58S := by decide +kernel
/-- 'append' onto bytes that fill what they lie in. -/
theorem appFull {w0 w : World} {v : Value} {bs : List Int} {c : Int} {K : Value → World → Prop} (h : Full w0 w v bs) (hl : bs.length ≤ 100000)
    (hk : ∀ v' w', New w0 w' v' (bs ++ [c]) → Ext w w' → (∀ g, blk v' g → w.heap.size ≤ g) → K v' w') :
    appV 5 1 1 [.int .u8 0] v (.slice (some ⟨w.heap.size, 0, none⟩) 1 1) (w.alloc (.cells (bv [c]).toArray 5)) K := by
  obtain ⟨⟨g, cur, rfl, hg, hlo⟩, hrd, hext⟩ := h
  have hE : Ext w (w.alloc (.cells (bv [c]).toArray 5)) := (Keep.refl _ w).alloc _
  have h1 := (hrd.ext hE)
  obtain ⟨⟨q, cc, e, hcc⟩, hm, hr⟩ := h1
  have h2 := (own_lit1 (w := w) (bs := [c]) (by simp [maxLen])).rd
  obtain ⟨_, _, hr2⟩ := h2
  have hml : maxLen = 9223372036854775807 := rfl
  unfold appV
  simp only [List.length_cons, List.length_nil, Nat.zero_add] at hr2
  simp only [hr, hr2, getV_some]
  refine ⟨bv_flat _, by omega, by omega, rfl, fun hc => by omega, fun hc => by omega, fun _ c' hc1 hc2 => ?_⟩
  have hsz : (w.alloc (.cells (bv [c]).toArray 5)).heap.size = w.heap.size + 1 := size_alloc _ _
  have hE2 : Ext w ((w.alloc (.cells (bv [c]).toArray 5)).drew.alloc (.cells ((bv bs).toArray.toList ++ (bv [c]).toArray.toList ++ zrep (c' - (bs.length + 1)) [Value.int .u8 0]).toArray 5)) := (hE.drew).alloc _
  refine hk _ _ ⟨?_, hext.ext hE2, fun g' hg' => ?_⟩ hE2 fun g' hg' => ?_
  · refine ⟨by rw [bv_len, Nat.mul_one], .inr ⟨_, c', _, by simp, Nat.zero_le _, heap_alloc_new (w.alloc (.cells (bv [c]).toArray 5)).drew _, by simpa using hc1, hc2, ?_, ?_⟩⟩
    · simp [bv, zrep]; omega
    · simp [bv_app]
      rw [← List.append_assoc, List.take_append_of_le_length (by simp [bv])]
      exact List.take_of_length_le (by simp [bv])
  · have e := Option.some.inj hg'
    have := hext.size
    have : (w.alloc (.cells (bv [c]).toArray 5)).heap.size = g' := e
    omega
  · have e := Option.some.inj hg'
    have : (w.alloc (.cells (bv [c]).toArray 5)).heap.size = g' := e
    omega
set_option maxHeartbeats 1600000 in
theorem base58_aw (w : World) (v : Value) (h : Rd w v [0, 0, 1]) :
    Calls Try.prog 19 #[v] w (Ret fun u w' => u = .string (strOf [49, 49, 50]) ∧ Ext w w') := by
  refine calls_of_ct 3 t19_ok (Nat.le_of_ble_eq_true rfl) ?_
  simp only [argE_nil, argE_cons, Nat.reduceAdd, Nat.zero_add]
  have hlen : lenR v = some (.int .i64 3) := h.len
  simp (disch := first | omega | assumption | rfl | (simp only [vcS] <;> omega) | fail) only [t19, ↓vcC, slc3_s, ↓ptV_l, ↓vcA, vcB, ↓vcD, vcE, ↓reduceIte, Nat.reduceEqDiff, Nat.reduceAdd, Nat.reduceMul, Nat.reduceLeDiff, Int.reduceLE, Int.reduceLT, Int.reduceEq, Int.reduceToNat, Int.reduceAdd, Int.reduceSub, Int.reduceMul, Int.reduceNeg, reduceCtorEq, Option.bind_some, Option.map_some, List.length_cons, List.length_nil, vcM, List.getElem?_toArray, List.getElem?_cons_zero, List.getElem?_cons_succ]
  (refine nx_at ?_; simp (disch := first | omega | assumption | rfl | (simp only [vcS] <;> omega) | fail) only [↓vcC, slc3_s, ↓ptV_l, ↓vcA, vcB, ↓vcD, vcE, ↓reduceIte, Nat.reduceEqDiff, Nat.reduceAdd, Nat.reduceMul, Nat.reduceLeDiff, Int.reduceLE, Int.reduceLT, Int.reduceEq, Int.reduceToNat, Int.reduceAdd, Int.reduceSub, Int.reduceMul, Int.reduceNeg, reduceCtorEq, Option.bind_some, Option.map_some, List.length_cons, List.length_nil, vcM, List.getElem?_toArray, List.getElem?_cons_zero, List.getElem?_cons_succ, hlen])
  (refine nx_at ?_; simp (disch := first | omega | assumption | rfl | (simp only [vcS] <;> omega) | fail) only [↓vcC, slc3_s, ↓ptV_l, ↓vcA, vcB, ↓vcD, vcE, ↓reduceIte, Nat.reduceEqDiff, Nat.reduceAdd, Nat.reduceMul, Nat.reduceLeDiff, Int.reduceLE, Int.reduceLT, Int.reduceEq, Int.reduceToNat, Int.reduceAdd, Int.reduceSub, Int.reduceMul, Int.reduceNeg, reduceCtorEq, Option.bind_some, Option.map_some, List.length_cons, List.length_nil, vcM, List.getElem?_toArray, List.getElem?_cons_zero, List.getElem?_cons_succ, hlen])
  (refine nx_at ?_; simp (disch := first | omega | assumption | rfl | (simp only [vcS] <;> omega) | fail) only [↓vcC, slc3_s, ↓ptV_l, ↓vcA, vcB, ↓vcD, vcE, ↓reduceIte, Nat.reduceEqDiff, Nat.reduceAdd, Nat.reduceMul, Nat.reduceLeDiff, Int.reduceLE, Int.reduceLT, Int.reduceEq, Int.reduceToNat, Int.reduceAdd, Int.reduceSub, Int.reduceMul, Int.reduceNeg, reduceCtorEq, Option.bind_some, Option.map_some, List.length_cons, List.length_nil, vcM, List.getElem?_toArray, List.getElem?_cons_zero, List.getElem?_cons_succ])
  have w2' : IntKind.i64.wrap 2 = 2 := by decide
  obtain ⟨b, o, c, hv, hc0⟩ := h.at (i := 0) (by simp)
  obtain ⟨_, _, _, e, hc1⟩ := h.at (i := 1) (by simp)
  rw [hv] at e; cases e
  obtain ⟨_, _, _, e, hc2⟩ := h.at (i := 2) (by simp)
  rw [hv] at e; cases e
  simp only [List.getElem_cons_zero, List.getElem_cons_succ, Nat.add_zero] at hc0 hc1 hc2
  have hv' : v = .slice (some ⟨b, o, none⟩) 3 c := hv
  clear hv
  subst hv'
  refine lp_of (fun j ds e W => ds = [] ∧ W = w ∧ (1 ≤ j ∧ j ≤ 3) ∧ Vc.look e 13 = some (.int .i64 ((3 - j : Nat) : Int)) ∧ Vc.look e 12 = some (.int .i64 3) ∧ Vc.look e 11 = some (.slice (some ⟨b, o, none⟩) 3 c) ∧ Vc.look e 0 = some (.slice (some ⟨b, o, none⟩) 3 c)) 3 ?_ ?_
  · exact ⟨rfl, rfl, ⟨by decide, Nat.le_refl _⟩, rfl, rfl, rfl, rfl⟩
  rintro j ds e W ⟨rfl, rfl, hj, l13, l12, l11, l0⟩
  have w1' : IntKind.i64.wrap 1 = 1 := by decide
  match j, hj with
  | 0, hj => omega
  | 2, _ =>
    have l13' : Vc.look e 13 = some (.int .i64 1) := l13
    simp (disch := first | omega | assumption | rfl | (simp only [vcS] <;> omega) | fail) only [↓vcC, slc3_s, ↓ptV_l, ↓vcA, vcB, ↓vcD, vcE, ↓reduceIte, Nat.reduceEqDiff, Nat.reduceAdd, Nat.reduceMul, Nat.reduceLeDiff, Int.reduceLE, Int.reduceLT, Int.reduceEq, Int.reduceToNat, Int.reduceAdd, Int.reduceSub, Int.reduceMul, Int.reduceNeg, reduceCtorEq, Option.bind_some, Option.map_some, List.length_cons, List.length_nil, vcM, List.getElem?_toArray, List.getElem?_cons_zero, List.getElem?_cons_succ, l13', l12]
    (refine nx_at ?_; simp (disch := first | omega | assumption | rfl | (simp only [vcS] <;> omega) | fail) only [↓vcC, slc3_s, ↓ptV_l, ↓vcA, vcB, ↓vcD, vcE, ↓reduceIte, Nat.reduceEqDiff, Nat.reduceAdd, Nat.reduceMul, Nat.reduceLeDiff, Int.reduceLE, Int.reduceLT, Int.reduceEq, Int.reduceToNat, Int.reduceAdd, Int.reduceSub, Int.reduceMul, Int.reduceNeg, reduceCtorEq, Option.bind_some, Option.map_some, List.length_cons, List.length_nil, vcM, List.getElem?_toArray, List.getElem?_cons_zero, List.getElem?_cons_succ])
    (refine nx_at ?_; simp (disch := first | omega | assumption | rfl | (simp only [vcS] <;> omega) | fail) only [↓vcC, slc3_s, ↓ptV_l, ↓vcA, vcB, ↓vcD, vcE, ↓reduceIte, Nat.reduceEqDiff, Nat.reduceAdd, Nat.reduceMul, Nat.reduceLeDiff, Int.reduceLE, Int.reduceLT, Int.reduceEq, Int.reduceToNat, Int.reduceAdd, Int.reduceSub, Int.reduceMul, Int.reduceNeg, reduceCtorEq, Option.bind_some, Option.map_some, List.length_cons, List.length_nil, vcM, List.getElem?_toArray, List.getElem?_cons_zero, List.getElem?_cons_succ, l13', l11, hc1])
    (refine nx_at ?_; simp (disch := first | omega | assumption | rfl | (simp only [vcS] <;> omega) | fail) only [↓vcC, slc3_s, ↓ptV_l, ↓vcA, vcB, ↓vcD, vcE, ↓reduceIte, Nat.reduceEqDiff, Nat.reduceAdd, Nat.reduceMul, Nat.reduceLeDiff, Int.reduceLE, Int.reduceLT, Int.reduceEq, Int.reduceToNat, Int.reduceAdd, Int.reduceSub, Int.reduceMul, Int.reduceNeg, reduceCtorEq, Option.bind_some, Option.map_some, List.length_cons, List.length_nil, vcM, List.getElem?_toArray, List.getElem?_cons_zero, List.getElem?_cons_succ])
    (refine nx_at ?_; simp (disch := first | omega | assumption | rfl | (simp only [vcS] <;> omega) | fail) only [↓vcC, slc3_s, ↓ptV_l, ↓vcA, vcB, ↓vcD, vcE, ↓reduceIte, Nat.reduceEqDiff, Nat.reduceAdd, Nat.reduceMul, Nat.reduceLeDiff, Int.reduceLE, Int.reduceLT, Int.reduceEq, Int.reduceToNat, Int.reduceAdd, Int.reduceSub, Int.reduceMul, Int.reduceNeg, reduceCtorEq, Option.bind_some, Option.map_some, List.length_cons, List.length_nil, vcM, List.getElem?_toArray, List.getElem?_cons_zero, List.getElem?_cons_succ])
    (refine nx_at ?_; simp (disch := first | omega | assumption | rfl | (simp only [vcS] <;> omega) | fail) only [↓vcC, slc3_s, ↓ptV_l, ↓vcA, vcB, ↓vcD, vcE, ↓reduceIte, Nat.reduceEqDiff, Nat.reduceAdd, Nat.reduceMul, Nat.reduceLeDiff, Int.reduceLE, Int.reduceLT, Int.reduceEq, Int.reduceToNat, Int.reduceAdd, Int.reduceSub, Int.reduceMul, Int.reduceNeg, reduceCtorEq, Option.bind_some, Option.map_some, List.length_cons, List.length_nil, vcM, List.getElem?_toArray, List.getElem?_cons_zero, List.getElem?_cons_succ, l13', w2'])
    exact ⟨1, rfl, ⟨by decide, by decide⟩, rfl, l12, l11, l0⟩
  | 3, _ =>
    have l13' : Vc.look e 13 = some (.int .i64 0) := l13
    simp (disch := first | omega | assumption | rfl | (simp only [vcS] <;> omega) | fail) only [↓vcC, slc3_s, ↓ptV_l, ↓vcA, vcB, ↓vcD, vcE, ↓reduceIte, Nat.reduceEqDiff, Nat.reduceAdd, Nat.reduceMul, Nat.reduceLeDiff, Int.reduceLE, Int.reduceLT, Int.reduceEq, Int.reduceToNat, Int.reduceAdd, Int.reduceSub, Int.reduceMul, Int.reduceNeg, reduceCtorEq, Option.bind_some, Option.map_some, List.length_cons, List.length_nil, vcM, List.getElem?_toArray, List.getElem?_cons_zero, List.getElem?_cons_succ, l13', l12]
    (refine nx_at ?_; simp (disch := first | omega | assumption | rfl | (simp only [vcS] <;> omega) | fail) only [↓vcC, slc3_s, ↓ptV_l, ↓vcA, vcB, ↓vcD, vcE, ↓reduceIte, Nat.reduceEqDiff, Nat.reduceAdd, Nat.reduceMul, Nat.reduceLeDiff, Int.reduceLE, Int.reduceLT, Int.reduceEq, Int.reduceToNat, Int.reduceAdd, Int.reduceSub, Int.reduceMul, Int.reduceNeg, reduceCtorEq, Option.bind_some, Option.map_some, List.length_cons, List.length_nil, vcM, List.getElem?_toArray, List.getElem?_cons_zero, List.getElem?_cons_succ])
    (refine nx_at ?_; simp (disch := first | omega | assumption | rfl | (simp only [vcS] <;> omega) | fail) only [↓vcC, slc3_s, ↓ptV_l, ↓vcA, vcB, ↓vcD, vcE, ↓reduceIte, Nat.reduceEqDiff, Nat.reduceAdd, Nat.reduceMul, Nat.reduceLeDiff, Int.reduceLE, Int.reduceLT, Int.reduceEq, Int.reduceToNat, Int.reduceAdd, Int.reduceSub, Int.reduceMul, Int.reduceNeg, reduceCtorEq, Option.bind_some, Option.map_some, List.length_cons, List.length_nil, vcM, List.getElem?_toArray, List.getElem?_cons_zero, List.getElem?_cons_succ, l13', l11, hc0])
    (refine nx_at ?_; simp (disch := first | omega | assumption | rfl | (simp only [vcS] <;> omega) | fail) only [↓vcC, slc3_s, ↓ptV_l, ↓vcA, vcB, ↓vcD, vcE, ↓reduceIte, Nat.reduceEqDiff, Nat.reduceAdd, Nat.reduceMul, Nat.reduceLeDiff, Int.reduceLE, Int.reduceLT, Int.reduceEq, Int.reduceToNat, Int.reduceAdd, Int.reduceSub, Int.reduceMul, Int.reduceNeg, reduceCtorEq, Option.bind_some, Option.map_some, List.length_cons, List.length_nil, vcM, List.getElem?_toArray, List.getElem?_cons_zero, List.getElem?_cons_succ])
    (refine nx_at ?_; simp (disch := first | omega | assumption | rfl | (simp only [vcS] <;> omega) | fail) only [↓vcC, slc3_s, ↓ptV_l, ↓vcA, vcB, ↓vcD, vcE, ↓reduceIte, Nat.reduceEqDiff, Nat.reduceAdd, Nat.reduceMul, Nat.reduceLeDiff, Int.reduceLE, Int.reduceLT, Int.reduceEq, Int.reduceToNat, Int.reduceAdd, Int.reduceSub, Int.reduceMul, Int.reduceNeg, reduceCtorEq, Option.bind_some, Option.map_some, List.length_cons, List.length_nil, vcM, List.getElem?_toArray, List.getElem?_cons_zero, List.getElem?_cons_succ])
    (refine nx_at ?_; simp (disch := first | omega | assumption | rfl | (simp only [vcS] <;> omega) | fail) only [↓vcC, slc3_s, ↓ptV_l, ↓vcA, vcB, ↓vcD, vcE, ↓reduceIte, Nat.reduceEqDiff, Nat.reduceAdd, Nat.reduceMul, Nat.reduceLeDiff, Int.reduceLE, Int.reduceLT, Int.reduceEq, Int.reduceToNat, Int.reduceAdd, Int.reduceSub, Int.reduceMul, Int.reduceNeg, reduceCtorEq, Option.bind_some, Option.map_some, List.length_cons, List.length_nil, vcM, List.getElem?_toArray, List.getElem?_cons_zero, List.getElem?_cons_succ, l13', w1'])
    exact ⟨2, rfl, ⟨by decide, by decide⟩, rfl, l12, l11, l0⟩
  | 1, _ =>
    have l13' : Vc.look e 13 = some (.int .i64 2) := l13
    simp (disch := first | omega | assumption | rfl | (simp only [vcS] <;> omega) | fail) only [↓vcC, slc3_s, ↓ptV_l, ↓vcA, vcB, ↓vcD, vcE, ↓reduceIte, Nat.reduceEqDiff, Nat.reduceAdd, Nat.reduceMul, Nat.reduceLeDiff, Int.reduceLE, Int.reduceLT, Int.reduceEq, Int.reduceToNat, Int.reduceAdd, Int.reduceSub, Int.reduceMul, Int.reduceNeg, reduceCtorEq, Option.bind_some, Option.map_some, List.length_cons, List.length_nil, vcM, List.getElem?_toArray, List.getElem?_cons_zero, List.getElem?_cons_succ, l13', l12]
    (refine nx_at ?_; simp (disch := first | omega | assumption | rfl | (simp only [vcS] <;> omega) | fail) only [↓vcC, slc3_s, ↓ptV_l, ↓vcA, vcB, ↓vcD, vcE, ↓reduceIte, Nat.reduceEqDiff, Nat.reduceAdd, Nat.reduceMul, Nat.reduceLeDiff, Int.reduceLE, Int.reduceLT, Int.reduceEq, Int.reduceToNat, Int.reduceAdd, Int.reduceSub, Int.reduceMul, Int.reduceNeg, reduceCtorEq, Option.bind_some, Option.map_some, List.length_cons, List.length_nil, vcM, List.getElem?_toArray, List.getElem?_cons_zero, List.getElem?_cons_succ])
    (refine nx_at ?_; simp (disch := first | omega | assumption | rfl | (simp only [vcS] <;> omega) | fail) only [↓vcC, slc3_s, ↓ptV_l, ↓vcA, vcB, ↓vcD, vcE, ↓reduceIte, Nat.reduceEqDiff, Nat.reduceAdd, Nat.reduceMul, Nat.reduceLeDiff, Int.reduceLE, Int.reduceLT, Int.reduceEq, Int.reduceToNat, Int.reduceAdd, Int.reduceSub, Int.reduceMul, Int.reduceNeg, reduceCtorEq, Option.bind_some, Option.map_some, List.length_cons, List.length_nil, vcM, List.getElem?_toArray, List.getElem?_cons_zero, List.getElem?_cons_succ, l13', l11, hc2])
    (refine nx_at ?_; simp (disch := first | omega | assumption | rfl | (simp only [vcS] <;> omega) | fail) only [↓vcC, slc3_s, ↓ptV_l, ↓vcA, vcB, ↓vcD, vcE, ↓reduceIte, Nat.reduceEqDiff, Nat.reduceAdd, Nat.reduceMul, Nat.reduceLeDiff, Int.reduceLE, Int.reduceLT, Int.reduceEq, Int.reduceToNat, Int.reduceAdd, Int.reduceSub, Int.reduceMul, Int.reduceNeg, reduceCtorEq, Option.bind_some, Option.map_some, List.length_cons, List.length_nil, vcM, List.getElem?_toArray, List.getElem?_cons_zero, List.getElem?_cons_succ])
    (refine nx_at ?_; simp (disch := first | omega | assumption | rfl | (simp only [vcS] <;> omega) | fail) only [↓vcC, slc3_s, ↓ptV_l, ↓vcA, vcB, ↓vcD, vcE, ↓reduceIte, Nat.reduceEqDiff, Nat.reduceAdd, Nat.reduceMul, Nat.reduceLeDiff, Int.reduceLE, Int.reduceLT, Int.reduceEq, Int.reduceToNat, Int.reduceAdd, Int.reduceSub, Int.reduceMul, Int.reduceNeg, reduceCtorEq, Option.bind_some, Option.map_some, List.length_cons, List.length_nil, vcM, List.getElem?_toArray, List.getElem?_cons_zero, List.getElem?_cons_succ])
    (refine nx_at ?_; simp (disch := first | omega | assumption | rfl | (simp only [vcS] <;> omega) | fail) only [↓vcC, slc3_s, ↓ptV_l, ↓vcA, vcB, ↓vcD, vcE, ↓reduceIte, Nat.reduceEqDiff, Nat.reduceAdd, Nat.reduceMul, Nat.reduceLeDiff, Int.reduceLE, Int.reduceLT, Int.reduceEq, Int.reduceToNat, Int.reduceAdd, Int.reduceSub, Int.reduceMul, Int.reduceNeg, reduceCtorEq, Option.bind_some, Option.map_some, List.length_cons, List.length_nil, vcM, List.getElem?_toArray, List.getElem?_cons_zero, List.getElem?_cons_succ])
    have g0 : (strOf l58S)[0]? = some (UInt8.ofNat 49) := by decide +kernel
    have u0 : (((UInt8.ofNat 49).toNat : Nat) : Int) = 49 := by decide
    (refine nx_at ?_; simp (disch := first | omega | assumption | rfl | (simp only [vcS] <;> omega) | fail) only [↓vcC, slc3_s, ↓ptV_l, ↓vcA, vcB, ↓vcD, vcE, ↓reduceIte, Nat.reduceEqDiff, Nat.reduceAdd, Nat.reduceMul, Nat.reduceLeDiff, Int.reduceLE, Int.reduceLT, Int.reduceEq, Int.reduceToNat, Int.reduceAdd, Int.reduceSub, Int.reduceMul, Int.reduceNeg, reduceCtorEq, Option.bind_some, Option.map_some, List.length_cons, List.length_nil, vcM, List.getElem?_toArray, List.getElem?_cons_zero, List.getElem?_cons_succ, l58S_is, g0, u0])
    have hN1 : New W (W.alloc (.cells (bv [49]).toArray 5)) (.slice (some ⟨W.heap.size, 0, none⟩) 1 1) [49] := New.lit (bs := [49]) (by decide)
    refine callV_ret (repeat2_ok _ _ 49 hN1.own.rd) ?_
    rintro u w1 hF
    have hE1 := hN1.ext.ext hF.ext
    obtain ⟨g, cur, hu, hg, hlo⟩ := hF.is
    refine ⟨by rw [hu]; rfl, wr1_of (heap_new _ _ _ rfl) (by simp [size_zc]), ?_⟩
    have hz : zc [(1, Value.slice none 0 0)] = #[.slice none 0 0] := rfl
    rw [hz]
    have h6 : ((w1.alloc (.cells #[.slice none 0 0] 28)).setCell ⟨w1.heap.size, 0, none⟩ u).heap[w1.heap.size]? = some (.cells #[u] 28 (0, 0)) := by
      rw [heap_setCell_eq (heap_new _ _ _ rfl)]; rfl
    have hE2 : Ext w1 ((w1.alloc (.cells #[.slice none 0 0] 28)).setCell ⟨w1.heap.size, 0, none⟩ u) := ((Keep.refl _ w1).alloc _).setCell _ fun hh => by omega
    generalize World.setCell _ _ _ = w2 at h6 hE2 ⊢
    have hp6 := hE1.size
    generalize w1.heap.size = p6 at h6 hp6 ⊢
    have hr2 := (h.ext hE1).ext hE2
    (refine nx_at ?_; simp (disch := first | omega | assumption | rfl | (simp only [vcS] <;> omega) | fail) only [↓vcC, slc3_s, ↓ptV_l, ↓vcA, vcB, ↓vcD, vcE, ↓reduceIte, Nat.reduceEqDiff, Nat.reduceAdd, Nat.reduceMul, Nat.reduceLeDiff, Int.reduceLE, Int.reduceLT, Int.reduceEq, Int.reduceToNat, Int.reduceAdd, Int.reduceSub, Int.reduceMul, Int.reduceNeg, reduceCtorEq, Option.bind_some, Option.map_some, List.length_cons, List.length_nil, vcM, List.getElem?_toArray, List.getElem?_cons_zero, List.getElem?_cons_succ, l0])
    refine callV_ret (turned3_ok w2 _ 0 0 1 hr2) ?_
    rintro t27 w3 hT
    first | (simp (disch := first | omega | assumption | rfl | (simp only [vcS] <;> omega) | fail) only [↓vcC, slc3_s, ↓ptV_l, ↓vcA, vcB, ↓vcD, vcE, ↓reduceIte, Nat.reduceEqDiff, Nat.reduceAdd, Nat.reduceMul, Nat.reduceLeDiff, Int.reduceLE, Int.reduceLT, Int.reduceEq, Int.reduceToNat, Int.reduceAdd, Int.reduceSub, Int.reduceMul, Int.reduceNeg, reduceCtorEq, Option.bind_some, Option.map_some, List.length_cons, List.length_nil, vcM, List.getElem?_toArray, List.getElem?_cons_zero, List.getElem?_cons_succ]) | skip
    refine callV_ret (base_ok w3 t27 [1, 0, 0] hT.own (by intro x hx; simp at hx; omega) (by simp)) ?_
    rintro t28 w4 hB
    have hbF : baseF [1, 0, 0].reverse = [1] := by decide +kernel
    rw [hbF] at hB
    have hcell28 : t28.cells = #[t28] := by
      rcases hB.own.2 with ⟨rfl, _⟩ | ⟨_, _, _, rfl, _⟩ <;> rfl
    first | (simp (disch := first | omega | assumption | rfl | (simp only [vcS] <;> omega) | fail) only [↓vcC, slc3_s, ↓ptV_l, ↓vcA, vcB, ↓vcD, vcE, ↓reduceIte, Nat.reduceEqDiff, Nat.reduceAdd, Nat.reduceMul, Nat.reduceLeDiff, Int.reduceLE, Int.reduceLT, Int.reduceEq, Int.reduceToNat, Int.reduceAdd, Int.reduceSub, Int.reduceMul, Int.reduceNeg, reduceCtorEq, Option.bind_some, Option.map_some, List.length_cons, List.length_nil, vcM, List.getElem?_toArray, List.getElem?_cons_zero, List.getElem?_cons_succ]) | skip
    refine callV_ret (back_ok w4 t28 hcell28) ?_
    rintro _ w5 ⟨b1, T1, rfl, hm1, hE5, hl1, hl3, hT1⟩
    first | (simp (disch := first | omega | assumption | rfl | (simp only [vcS] <;> omega) | fail) only [↓vcC, slc3_s, ↓ptV_l, ↓vcA, vcB, ↓vcD, vcE, ↓reduceIte, Nat.reduceEqDiff, Nat.reduceAdd, Nat.reduceMul, Nat.reduceLeDiff, Int.reduceLE, Int.reduceLT, Int.reduceEq, Int.reduceToNat, Int.reduceAdd, Int.reduceSub, Int.reduceMul, Int.reduceNeg, reduceCtorEq, Option.bind_some, Option.map_some, List.length_cons, List.length_nil, vcM, List.getElem?_toArray, List.getElem?_cons_zero, List.getElem?_cons_succ]) | skip
    (refine nx_at ?_; simp (disch := first | omega | assumption | rfl | (simp only [vcS] <;> omega) | fail) only [↓vcC, slc3_s, ↓ptV_l, ↓vcA, vcB, ↓vcD, vcE, ↓reduceIte, Nat.reduceEqDiff, Nat.reduceAdd, Nat.reduceMul, Nat.reduceLeDiff, Int.reduceLE, Int.reduceLT, Int.reduceEq, Int.reduceToNat, Int.reduceAdd, Int.reduceSub, Int.reduceMul, Int.reduceNeg, reduceCtorEq, Option.bind_some, Option.map_some, List.length_cons, List.length_nil, vcM, List.getElem?_toArray, List.getElem?_cons_zero, List.getElem?_cons_succ])
    have hW5 : Ext w2 w5 := (hT.ext.ext hB.ext).ext hE5
    have h65 := hW5.at h6 (fun h => h)
    have hF5 := hF.rd.ext (hE2.ext hW5)
    have hg5 := (hE2.ext hW5).at hg (fun h => h)
    have hEw5 : Ext W w5 := (hE1.ext hE2).ext hW5
    have hst := back_stops w5 b1 t28 [1] T1 hm1 (hB.own.ext hE5) (by simp)
    have hbs : ∀ b ∈ b1 :: t28.ownBlock.toList, b < w5.heap.size := by
      intro b hb
      rcases List.mem_cons.1 hb with rfl | hb
      · exact hl1
      · have hbq : blk t28 b := by
          unfold Go.Proofs.blk
          cases ho : t28.ownBlock with
          | none => rw [ho] at hb; cases hb
          | some g => rw [ho] at hb; simp at hb; rw [hb]
        exact Nat.lt_of_lt_of_le (hB.own.lt hbq) hE5.size
    have h6b : ∀ b ∈ b1 :: t28.ownBlock.toList, b ≠ p6 := by
      intro b hb
      have h6l := lt_of_heap h6
      rcases List.mem_cons.1 hb with rfl | hb
      · have := hT.ext.size; have := hB.ext.size; omega
      · have hbq : blk t28 b := by
          unfold Go.Proofs.blk
          cases ho : t28.ownBlock with
          | none => rw [ho] at hb; cases hb
          | some g => rw [ho] at hb; simp at hb; rw [hb]
        have := hB.new b hbq
        have := hT.ext.size
        omega
    subst hu
    refine rg_of (b1 :: t28.ownBlock.toList) (by decide) _ _ _ _ _ _
      (fun (pre : List (Fin [(1 : Int)].length)) W' => Ext W W' ∧ w5.heap.size ≤ W'.heap.size ∧
        ((pre = [] ∧ W'.heap[p6]? = some (.cells #[.slice (some ⟨g, 0, none⟩) [(49 : Int), 49].length [(49 : Int), 49].length] 28 (0, 0)) ∧ W'.heap[g]? = some (.cells cur 5 (0, 0)) ∧ Rd W' (.slice (some ⟨g, 0, none⟩) [(49 : Int), 49].length [(49 : Int), 49].length) [49, 49]) ∨
         (pre.length = 1 ∧ ∃ v', W'.heap[p6]? = some (.cells #[v'] 28 (0, 0)) ∧ Own1 W' v' [49, 49, 50])))
      (fun _ _ _ => False)
      (fun t e1 W' => Vc.look e1 6 = some (.pointer (some ⟨p6, 0, none⟩)) ∧ Vc.look e1 8 = some (.int .u8 [(1 : Int)][t.val]))
      rfl rfl hbs hst (fun _ => rfl) ?_ ?_ ⟨hEw5, Nat.le_refl _, .inl ⟨rfl, h65, hg5, hF5⟩⟩ ?_ ?_ ?_ ?_ ?_
    · rintro pre W1 W2 row ⟨g1, g2, g3⟩ hgr hr
      refine ⟨g1.trans (keep_grow hgr hr) fun i hi hk => by have := hk.1; have := hEw5.size; omega, Nat.le_trans g2 hgr.size, ?_⟩
      rcases g3 with ⟨rfl, a1, a2, a3⟩ | ⟨a0, v', a1, a2⟩
      · refine .inl ⟨rfl, at_own hgr hr a1, at_own hgr hr a2, a3.keep (keep_grow hgr hr) fun q n c he hk => ?_⟩
        cases he
        obtain ⟨_, o', ho, hcc⟩ := hk
        rw [a2] at ho; cases ho; cases hcc
      · refine .inr ⟨a0, v', at_own hgr hr a1, a2.keep (keep_grow hgr hr) fun g' hgb hk => ?_⟩
        obtain ⟨_, o', ho, hcc⟩ := hk
        obtain ⟨cur', hcur⟩ := row_type a2 hgb
        rw [hcur] at ho; cases ho; cases hcc
    · rintro key pre W1 W2 row hFF hgr hr; exact hFF
    · rintro t e1 _ W1 W2 row hA hgr hr; exact hA
    · rintro l pre t W1 hI
      show ctV _ _ _ _ _ _ _ _ ((31, .int .u8 _) :: (30, .int .i64 _) :: _) _
      simp (disch := first | omega | assumption | rfl | (simp only [vcS] <;> omega) | fail) only [↓vcC, slc3_s, ↓ptV_l, ↓vcA, vcB, ↓vcD, vcE, ↓reduceIte, Nat.reduceEqDiff, Nat.reduceAdd, Nat.reduceMul, Nat.reduceLeDiff, Int.reduceLE, Int.reduceLT, Int.reduceEq, Int.reduceToNat, Int.reduceAdd, Int.reduceSub, Int.reduceMul, Int.reduceNeg, reduceCtorEq, Option.bind_some, Option.map_some, List.length_cons, List.length_nil, vcM, List.getElem?_toArray, List.getElem?_cons_zero, List.getElem?_cons_succ]
      exact ⟨KeepsFrom.refl _ _, fun _ _ => rfl, hI⟩
    · rintro l pre t e1 W1 hl hr ⟨g1, g2, g3⟩ ⟨l6, l8⟩ hlt
      have ht1 : [(1 : Int)][t.val] = 1 := by
        have := t.isLt
        match t with
        | ⟨0, _⟩ => rfl
      rw [ht1] at l8
      rcases g3 with ⟨rfl, a1, a2, a3⟩ | ⟨a0, _⟩
      · have g1' : (strOf l58S)[1]? = some (UInt8.ofNat 50) := by decide +kernel
        have u1' : (((UInt8.ofNat 50).toNat : Nat) : Int) = 50 := by decide
        simp (disch := first | omega | assumption | rfl | (simp only [vcS] <;> omega) | fail) only [↓vcC, slc3_s, ↓ptV_l, ↓vcA, vcB, ↓vcD, vcE, ↓reduceIte, Nat.reduceEqDiff, Nat.reduceAdd, Nat.reduceMul, Nat.reduceLeDiff, Int.reduceLE, Int.reduceLT, Int.reduceEq, Int.reduceToNat, Int.reduceAdd, Int.reduceSub, Int.reduceMul, Int.reduceNeg, reduceCtorEq, Option.bind_some, Option.map_some, List.length_cons, List.length_nil, vcM, List.getElem?_toArray, List.getElem?_cons_zero, List.getElem?_cons_succ, l6, l8, a1, l58S_is, g1', u1']
        have a1d : W1.drew.heap[p6]? = some (.cells #[.slice (some ⟨g, 0, none⟩) 2 2] 28 (0, 0)) := a1
        refine ⟨by rw [heap_old _ _ _ (Nat.ne_of_lt (lt_of_heap a1d)), a1d]; rfl, ?_⟩
        have hlg : W.heap.size ≤ g := by rw [size_alloc] at hlo; omega
        have hFd : Full W W1.drew (.slice (some ⟨g, 0, none⟩) 2 2) [49, 49] := ⟨⟨g, cur, rfl, a2, hlg⟩, a3.ext ((Keep.refl _ W1).drew), g1.ext ((Keep.refl _ W1).drew)⟩
        refine appFull hFd (by simp) fun v2 W2 n2 e2 f2 => ?_
        have a6 := e2.at a1d (fun h => h)
        have kk : Keep (fun i => i = p6) W2 (W2.setCell ⟨p6, 0, none⟩ v2) := (Keep.refl _ W2).setCell _ fun _ => rfl
        have kd : Keep (fun i => i = p6) W1 W1.drew := (Keep.refl _ W1).drew
        have kw : Keep (fun i => i = p6) W1 (W2.setCell ⟨p6, 0, none⟩ v2) := (kd.ext e2).trans kk fun _ _ h => h
        have hp6' : W.heap.size ≤ p6 := hp6
        refine ⟨one_row n2.own, wr1_of a6 (by simp), keepsFrom_of kw (fun k hk o ho => by subst hk; rw [a1] at ho; cases ho; rfl), fun b' hb' => kw.block b' (Nat.lt_of_lt_of_le (hbs b' hb') g2) (h6b b' hb'), n2.ext.trans kk (fun i hi e => by have e' : i = p6 := e; omega), Nat.le_trans g2 e2.size, .inr ⟨rfl, v2, by rw [heap_setCell_eq a6]; rfl, n2.own.keep kk fun g' hg' e => ?_⟩⟩
        have e' : g' = p6 := e
        have := f2 g' hg'
        have : p6 < W1.drew.heap.size := lt_of_heap a1d
        omega
      · have h1 : [(1 : Int)].length = 1 := rfl
        omega
    · rintro D xs W1 hDD rfl ⟨g1, g2, g3⟩ hDK
      rcases g3 with ⟨h0, _⟩ | ⟨_, v', a1, a2⟩
      · exact absurd h0 (by decide)
      have hs := a2.rd.b2s
      (refine nx_at ?_; simp (disch := first | omega | assumption | rfl | (simp only [vcS] <;> omega) | fail) only [↓vcC, slc3_s, ↓ptV_l, ↓vcA, vcB, ↓vcD, vcE, ↓reduceIte, Nat.reduceEqDiff, Nat.reduceAdd, Nat.reduceMul, Nat.reduceLeDiff, Int.reduceLE, Int.reduceLT, Int.reduceEq, Int.reduceToNat, Int.reduceAdd, Int.reduceSub, Int.reduceMul, Int.reduceNeg, reduceCtorEq, Option.bind_some, Option.map_some, List.length_cons, List.length_nil, vcM, List.getElem?_toArray, List.getElem?_cons_zero, List.getElem?_cons_succ, a1, hs])
      (refine nx_at ?_; simp (disch := first | omega | assumption | rfl | (simp only [vcS] <;> omega) | fail) only [↓vcC, slc3_s, ↓ptV_l, ↓vcA, vcB, ↓vcD, vcE, ↓reduceIte, Nat.reduceEqDiff, Nat.reduceAdd, Nat.reduceMul, Nat.reduceLeDiff, Int.reduceLE, Int.reduceLT, Int.reduceEq, Int.reduceToNat, Int.reduceAdd, Int.reduceSub, Int.reduceMul, Int.reduceNeg, reduceCtorEq, Option.bind_some, Option.map_some, List.length_cons, List.length_nil, vcM, List.getElem?_toArray, List.getElem?_cons_zero, List.getElem?_cons_succ])
      refine lvV_cons hDK ?_
      simp (disch := first | omega | assumption | rfl | (simp only [vcS] <;> omega) | fail) only [↓vcC, slc3_s, ↓ptV_l, ↓vcA, vcB, ↓vcD, vcE, ↓reduceIte, Nat.reduceEqDiff, Nat.reduceAdd, Nat.reduceMul, Nat.reduceLeDiff, Int.reduceLE, Int.reduceLT, Int.reduceEq, Int.reduceToNat, Int.reduceAdd, Int.reduceSub, Int.reduceMul, Int.reduceNeg, reduceCtorEq, Option.bind_some, Option.map_some, List.length_cons, List.length_nil, vcM, List.getElem?_toArray, List.getElem?_cons_zero, List.getElem?_cons_succ, Ret_returned]
      have hkD : Keep (fun k => k = D) W1 (W1.putObj D (.deferred none)) := (Keep.refl _ W1).grown (grownBy_putObj' W1 D _) (fun k _ h => by cases h; rfl)
      exact g1.trans hkD fun k hk e => by
        have e' : k = D := e
        have := hEw5.size
        have := hDD
        omega
    · rintro D key pre W1 hDD hS hFF hDK
      exact hFF.elim
end Go.Proofs
