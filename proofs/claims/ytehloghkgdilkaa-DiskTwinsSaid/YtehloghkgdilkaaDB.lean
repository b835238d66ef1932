/- The document's disk: 'Put'. -/
import Derived.Test.YtehloghkgdilkaaDA
set_option linter.unusedSimpArgs false
set_option linter.unusedVariables false
set_option linter.constructorNameAsVariable false
namespace Go.Proofs
open Go.Vc
set_option maxRecDepth 10000

theorem pad_step (i : Int) {bs : List Int} {k : Nat} (hk : k < bs.length) (hl : bs.length ≤ 64) : (wcell (i, padS (bs.take k))).setIfInBounds (1 + k) (.int .u8 bs[k]) = wcell (i, padS (bs.take (k + 1))) := by
  apply Array.ext'
  have e1 : (bs.take k).length = k := by rw [List.length_take]; omega
  have e2 : (bs.take (k + 1)).length = k + 1 := by rw [List.length_take]; omega
  have e3 : 64 - k = 64 - (k + 1) + 1 := by omega
  have e4 : bs.take (k + 1) = bs.take k ++ [bs[k]] := by rw [List.take_add_one, List.getElem?_eq_getElem hk]; rfl
  have e5 : (padS (bs.take k)).set k bs[k] = padS (bs.take (k + 1)) := by
    unfold padS
    rw [e1, e2, e3, List.replicate_succ, List.set_append_right _ _ (by omega), e1, Nat.sub_self, List.set_cons_zero, e4, List.append_assoc]; rfl
  rw [Array.toList_setIfInBounds]
  show (Value.int .i64 i :: bv (padS (bs.take k))).set (1 + k) _ = Value.int .i64 i :: bv (padS (bs.take (k + 1)))
  rw [Nat.add_comm 1 k, List.set_cons_succ, ← bv_set, e5]
theorem writeD_no {d : DS} {i : Int} {bs : List Int} (h : thereB d.n i = false) : writeD d i bs = (d, 1) := by rw [writeD, h]; rfl
theorem writeD_long {d : DS} {i : Int} {bs : List Int} (h : thereB d.n i = true) (hl : 64 < bs.length) : writeD d i bs = (d, 2) := by rw [writeD, h, if_pos rfl, if_pos hl]
theorem writeD_dead {d : DS} {i : Int} {bs : List Int} (h : thereB d.n i = true) (hl : ¬ 64 < bs.length) (hc : (callD d).2 = false) : writeD d i bs = ((callD d).1, 10) := by rw [writeD, h, if_pos rfl, if_neg hl, hc]; rfl
theorem writeD_it {d : DS} {i : Int} {bs : List Int} (h : thereB d.n i = true) (hl : ¬ 64 < bs.length) (hc : (callD d).2 = true) : writeD d i bs = ({ (callD d).1 with queue := d.queue ++ [(i, padS bs)] }, 0) := by rw [writeD, h, if_pos rfl, if_neg hl, hc]; rfl
theorem rdS_lit {w w' : World} {cs : Array Value} {t : TypeId} {n size : Nat} (hE : Ext (w.alloc (.cells cs t)) w') (h : cs.size = n * size) : rdS w' size (.slice (some ⟨w.heap.size, 0, none⟩) n n) = some cs := by
  simp only [rdS]
  split
  · rename_i h0
    have : cs = #[] := Array.eq_empty_of_size_eq_zero (by rw [h, h0, Nat.zero_mul])
    rw [this]
  · rw [rdN_heap, hE.at (heap_new w _ _ rfl) (fun h => h), rdO_some _ _ _ _ _ (by omega), Nat.zero_add, ext_all _ _ h]
theorem own_nil {w w' : World} {t : TypeId} {size : Nat} (hE : Ext (w.alloc (.cells [].toArray t)) w') : OwnO w' w.heap.size t size (.slice (some ⟨w.heap.size, 0, none⟩) 0 0) [] :=
  ⟨fun _ h => (by cases h), .inr ⟨_, 0, 0, _, rfl, Nat.le_refl _, hE.at (heap_new _ _ _ rfl) (fun h => h), Nat.le_refl _, Nat.zero_le _, by simp, by simp⟩⟩
set_option maxHeartbeats 3200000 in
theorem rput_ok (w : World) (sv qv : Value) (d : DS) (i : Int) (x : Value) (bs : List Int) (h : RD w sv qv d) (hd : d.Ok) (hq : d.queue.length < 1000000) (hx : Rd w x bs) (hlb : bs.length ≤ 1000000000) :
    Calls Try.prog 22 #[rv sv qv d, .int .i64 i, x] w (Ret fun u w' => ∃ u', u = .tuple #[u', .int .i64 (writeD d i bs).2] ∧ RTo w w' (writeD d i bs).1 u') := by
  refine calls_of_cfg c22_ok (Nat.le_of_ble_eq_true rfl) ?_
  simp only [argE_nil, argE_cons, Nat.reduceAdd, Nat.zero_add]
  have hz4 : zc [(2, Value.slice none 0 0), (1, .int .i64 0), (1, .bool false)] = #[.slice none 0 0, .slice none 0 0, .int .i64 0, .bool false] := rfl
  have hof : okO (some (.cells #[.slice none 0 0, .slice none 0 0, .int .i64 0, .bool false] 30 (0, 0))) 0 4 = True := by simp [okO]
  obtain ⟨e1, e2, e3⟩ := callD_q d
  have hlx := hx.len
  (refine W_at c22_ok ?_; refine ⟨_, rfl, ?_⟩; simp (disch := first | omega | assumption | rfl | (simp only [vcS] <;> omega) | fail) only [↓ptV_l, ↓vcA, vcB, ↓vcD, vcE, ↓reduceIte, Nat.reduceEqDiff, Nat.reduceAdd, Nat.reduceMul, Nat.reduceLeDiff, Int.reduceLE, Int.reduceLT, Int.reduceEq, Int.reduceToNat, Int.reduceAdd, Int.reduceSub, Int.reduceMul, Int.reduceNeg, reduceCtorEq, Option.bind_some, Option.map_some, List.length_cons, List.length_nil, vcM, List.getElem?_toArray, List.getElem?_cons_zero, List.getElem?_cons_succ, hz4])
  have B := Boxes.new w sv qv d
  generalize World.alloc _ _ = w1 at B ⊢
  generalize w.heap.size + 1 = p2 at B ⊢
  generalize w.heap.size = p1 at B ⊢
  have B1 := B.b1
  have x4 : (rcell sv qv d).extract 0 (0 + 4) = rcell sv qv d := rfl
  have s4 : (rcell sv qv d).size = 4 := rfl
  have hrv : Value.agg (rcell sv qv d) = rv sv qv d := rfl
  have hfl : ∀ d' : DS, flat (rcell sv qv d') := fun d' => rc_flat (w := w) h.safe.one h.queue.one
  (refine W_at c22_ok ?_; refine ⟨_, rfl, ?_⟩; simp (disch := first | omega | assumption | rfl | (simp only [vcS] <;> omega) | fail) only [↓ptV_l, ↓vcA, vcB, ↓vcD, vcE, ↓reduceIte, Nat.reduceEqDiff, Nat.reduceAdd, Nat.reduceMul, Nat.reduceLeDiff, Int.reduceLE, Int.reduceLT, Int.reduceEq, Int.reduceToNat, Int.reduceAdd, Int.reduceSub, Int.reduceMul, Int.reduceNeg, reduceCtorEq, Option.bind_some, Option.map_some, List.length_cons, List.length_nil, vcM, List.getElem?_toArray, List.getElem?_cons_zero, List.getElem?_cons_succ, B1, x4, s4, hrv])
  refine callV_ret (rthere_ok w1 sv qv d i (h.ext B.e)) ?_
  rintro _ w2 ⟨rfl, hE2⟩
  have B2 := B.ext hE2
  have B21 := B2.b1
  have B22 := B2.b2
  first | (simp (disch := first | omega | assumption | rfl | (simp only [vcS] <;> omega) | fail) only [↓ptV_l, ↓vcA, vcB, ↓vcD, vcE, ↓reduceIte, Nat.reduceEqDiff, Nat.reduceAdd, Nat.reduceMul, Nat.reduceLeDiff, Int.reduceLE, Int.reduceLT, Int.reduceEq, Int.reduceToNat, Int.reduceAdd, Int.reduceSub, Int.reduceMul, Int.reduceNeg, reduceCtorEq, Option.bind_some, Option.map_some, List.length_cons, List.length_nil, vcM, List.getElem?_toArray, List.getElem?_cons_zero, List.getElem?_cons_succ]) | skip
  cases ht : thereB d.n i with
  | false =>
    have he := writeD_no (bs := bs) ht
    obtain ⟨o1, o2, o3⟩ := B2.out sv qv d
    (refine W_at c22_ok ?_; refine ⟨_, rfl, ?_⟩; simp (disch := first | omega | assumption | rfl | (simp only [vcS] <;> omega) | fail) only [↓ptV_l, ↓vcA, vcB, ↓vcD, vcE, ↓reduceIte, Nat.reduceEqDiff, Nat.reduceAdd, Nat.reduceMul, Nat.reduceLeDiff, Int.reduceLE, Int.reduceLT, Int.reduceEq, Int.reduceToNat, Int.reduceAdd, Int.reduceSub, Int.reduceMul, Int.reduceNeg, reduceCtorEq, Option.bind_some, Option.map_some, List.length_cons, List.length_nil, vcM, List.getElem?_toArray, List.getElem?_cons_zero, List.getElem?_cons_succ])
    (refine W_at c22_ok ?_; refine ⟨_, rfl, ?_⟩; simp (disch := first | omega | assumption | rfl | (simp only [vcS] <;> omega) | fail) only [↓ptV_l, ↓vcA, vcB, ↓vcD, vcE, ↓reduceIte, Nat.reduceEqDiff, Nat.reduceAdd, Nat.reduceMul, Nat.reduceLeDiff, Int.reduceLE, Int.reduceLT, Int.reduceEq, Int.reduceToNat, Int.reduceAdd, Int.reduceSub, Int.reduceMul, Int.reduceNeg, reduceCtorEq, Option.bind_some, Option.map_some, List.length_cons, List.length_nil, vcM, List.getElem?_toArray, List.getElem?_cons_zero, List.getElem?_cons_succ, B21, B22, x4, s4, hof])
    refine ⟨hfl _, ?_⟩
    (refine W_at c22_ok ?_; refine ⟨_, rfl, ?_⟩; simp (disch := first | omega | assumption | rfl | (simp only [vcS] <;> omega) | fail) only [↓ptV_l, ↓vcA, vcB, ↓vcD, vcE, ↓reduceIte, Nat.reduceEqDiff, Nat.reduceAdd, Nat.reduceMul, Nat.reduceLeDiff, Int.reduceLE, Int.reduceLT, Int.reduceEq, Int.reduceToNat, Int.reduceAdd, Int.reduceSub, Int.reduceMul, Int.reduceNeg, reduceCtorEq, Option.bind_some, Option.map_some, List.length_cons, List.length_nil, vcM, List.getElem?_toArray, List.getElem?_cons_zero, List.getElem?_cons_succ, o1, Ret_returned])
    rw [he]
    exact ⟨_, rfl, sv, qv, rfl, (h.ext B2.e).box o3 B22, o2⟩
  | true =>
  (refine W_at c22_ok ?_; refine ⟨_, rfl, ?_⟩; simp (disch := first | omega | assumption | rfl | (simp only [vcS] <;> omega) | fail) only [↓ptV_l, ↓vcA, vcB, ↓vcD, vcE, ↓reduceIte, Nat.reduceEqDiff, Nat.reduceAdd, Nat.reduceMul, Nat.reduceLeDiff, Int.reduceLE, Int.reduceLT, Int.reduceEq, Int.reduceToNat, Int.reduceAdd, Int.reduceSub, Int.reduceMul, Int.reduceNeg, reduceCtorEq, Option.bind_some, Option.map_some, List.length_cons, List.length_nil, vcM, List.getElem?_toArray, List.getElem?_cons_zero, List.getElem?_cons_succ])
  by_cases hgt : 64 < bs.length
  · have he := writeD_long ht hgt
    have hgt' : ((bs.length : Nat) : Int) > 64 := by omega
    obtain ⟨o1, o2, o3⟩ := B2.out sv qv d
    (refine W_at c22_ok ?_; refine ⟨_, rfl, ?_⟩; simp (disch := first | omega | assumption | rfl | (simp only [vcS] <;> omega) | fail) only [↓ptV_l, ↓vcA, vcB, ↓vcD, vcE, ↓reduceIte, Nat.reduceEqDiff, Nat.reduceAdd, Nat.reduceMul, Nat.reduceLeDiff, Int.reduceLE, Int.reduceLT, Int.reduceEq, Int.reduceToNat, Int.reduceAdd, Int.reduceSub, Int.reduceMul, Int.reduceNeg, reduceCtorEq, Option.bind_some, Option.map_some, List.length_cons, List.length_nil, vcM, List.getElem?_toArray, List.getElem?_cons_zero, List.getElem?_cons_succ, hlx, hgt'])
    (refine W_at c22_ok ?_; refine ⟨_, rfl, ?_⟩; simp (disch := first | omega | assumption | rfl | (simp only [vcS] <;> omega) | fail) only [↓ptV_l, ↓vcA, vcB, ↓vcD, vcE, ↓reduceIte, Nat.reduceEqDiff, Nat.reduceAdd, Nat.reduceMul, Nat.reduceLeDiff, Int.reduceLE, Int.reduceLT, Int.reduceEq, Int.reduceToNat, Int.reduceAdd, Int.reduceSub, Int.reduceMul, Int.reduceNeg, reduceCtorEq, Option.bind_some, Option.map_some, List.length_cons, List.length_nil, vcM, List.getElem?_toArray, List.getElem?_cons_zero, List.getElem?_cons_succ])
    (refine W_at c22_ok ?_; refine ⟨_, rfl, ?_⟩; simp (disch := first | omega | assumption | rfl | (simp only [vcS] <;> omega) | fail) only [↓ptV_l, ↓vcA, vcB, ↓vcD, vcE, ↓reduceIte, Nat.reduceEqDiff, Nat.reduceAdd, Nat.reduceMul, Nat.reduceLeDiff, Int.reduceLE, Int.reduceLT, Int.reduceEq, Int.reduceToNat, Int.reduceAdd, Int.reduceSub, Int.reduceMul, Int.reduceNeg, reduceCtorEq, Option.bind_some, Option.map_some, List.length_cons, List.length_nil, vcM, List.getElem?_toArray, List.getElem?_cons_zero, List.getElem?_cons_succ, B21, B22, x4, s4, hof])
    refine ⟨hfl _, ?_⟩
    (refine W_at c22_ok ?_; refine ⟨_, rfl, ?_⟩; simp (disch := first | omega | assumption | rfl | (simp only [vcS] <;> omega) | fail) only [↓ptV_l, ↓vcA, vcB, ↓vcD, vcE, ↓reduceIte, Nat.reduceEqDiff, Nat.reduceAdd, Nat.reduceMul, Nat.reduceLeDiff, Int.reduceLE, Int.reduceLT, Int.reduceEq, Int.reduceToNat, Int.reduceAdd, Int.reduceSub, Int.reduceMul, Int.reduceNeg, reduceCtorEq, Option.bind_some, Option.map_some, List.length_cons, List.length_nil, vcM, List.getElem?_toArray, List.getElem?_cons_zero, List.getElem?_cons_succ, o1, Ret_returned])
    rw [he]
    exact ⟨_, rfl, sv, qv, rfl, (h.ext B2.e).box o3 B22, o2⟩
  have hgt' : ¬ ((bs.length : Nat) : Int) > 64 := by omega
  (refine W_at c22_ok ?_; refine ⟨_, rfl, ?_⟩; simp (disch := first | omega | assumption | rfl | (simp only [vcS] <;> omega) | fail) only [↓ptV_l, ↓vcA, vcB, ↓vcD, vcE, ↓reduceIte, Nat.reduceEqDiff, Nat.reduceAdd, Nat.reduceMul, Nat.reduceLeDiff, Int.reduceLE, Int.reduceLT, Int.reduceEq, Int.reduceToNat, Int.reduceAdd, Int.reduceSub, Int.reduceMul, Int.reduceNeg, reduceCtorEq, Option.bind_some, Option.map_some, List.length_cons, List.length_nil, vcM, List.getElem?_toArray, List.getElem?_cons_zero, List.getElem?_cons_succ, hlx, hgt'])
  (refine W_at c22_ok ?_; refine ⟨_, rfl, ?_⟩; simp (disch := first | omega | assumption | rfl | (simp only [vcS] <;> omega) | fail) only [↓ptV_l, ↓vcA, vcB, ↓vcD, vcE, ↓reduceIte, Nat.reduceEqDiff, Nat.reduceAdd, Nat.reduceMul, Nat.reduceLeDiff, Int.reduceLE, Int.reduceLT, Int.reduceEq, Int.reduceToNat, Int.reduceAdd, Int.reduceSub, Int.reduceMul, Int.reduceNeg, reduceCtorEq, Option.bind_some, Option.map_some, List.length_cons, List.length_nil, vcM, List.getElem?_toArray, List.getElem?_cons_zero, List.getElem?_cons_succ])
  (refine W_at c22_ok ?_; refine ⟨_, rfl, ?_⟩; simp (disch := first | omega | assumption | rfl | (simp only [vcS] <;> omega) | fail) only [↓ptV_l, ↓vcA, vcB, ↓vcD, vcE, ↓reduceIte, Nat.reduceEqDiff, Nat.reduceAdd, Nat.reduceMul, Nat.reduceLeDiff, Int.reduceLE, Int.reduceLT, Int.reduceEq, Int.reduceToNat, Int.reduceAdd, Int.reduceSub, Int.reduceMul, Int.reduceNeg, reduceCtorEq, Option.bind_some, Option.map_some, List.length_cons, List.length_nil, vcM, List.getElem?_toArray, List.getElem?_cons_zero, List.getElem?_cons_succ, B21, x4, s4, hrv])
  refine callV_ret (rcall_ok w2 sv qv d (h.ext B2.e) hd.left) ?_
  rintro _ w3 ⟨rfl, hE3⟩
  have B3 := B2.ext hE3
  have B31 := B3.b1
  have hrv' : rv sv qv (callD d).1 = Value.agg (rcell sv qv (callD d).1) := rfl
  have s4' : (rcell sv qv (callD d).1).size = 4 := rfl
  have x4' : (rcell sv qv (callD d).1).extract 0 (0 + 4) = rcell sv qv (callD d).1 := rfl
  rw [hrv']
  first | (simp (disch := first | omega | assumption | rfl | (simp only [vcS] <;> omega) | fail) only [↓ptV_l, ↓vcA, vcB, ↓vcD, vcE, ↓reduceIte, Nat.reduceEqDiff, Nat.reduceAdd, Nat.reduceMul, Nat.reduceLeDiff, Int.reduceLE, Int.reduceLT, Int.reduceEq, Int.reduceToNat, Int.reduceAdd, Int.reduceSub, Int.reduceMul, Int.reduceNeg, reduceCtorEq, Option.bind_some, Option.map_some, List.length_cons, List.length_nil, vcM, List.getElem?_toArray, List.getElem?_cons_zero, List.getElem?_cons_succ, s4', B31]) | skip
  have h3 := h.ext B3.e
  refine ⟨hfl _, by rw [s4]; exact Nat.le_refl _, ?_⟩
  have B4 := B3.set (sv' := sv) (qv' := qv) (d' := (callD d).1)
  have h4 : RD (w3.putN p1 0 (rcell sv qv (callD d).1)) sv qv (callD d).1 := callD_rd (h3.box ((Keep.refl _ w3).putN _ fun _ => rfl) B31)
  generalize World.putN _ _ _ _ = w4 at B4 h4 ⊢
  have B41 := B4.b1
  have B42 := B4.b2
  cases hc : (callD d).2 with
  | false =>
    have he := writeD_dead ht hgt hc
    obtain ⟨o1, o2, o3⟩ := B4.out sv qv (callD d).1
    (refine W_at c22_ok ?_; refine ⟨_, rfl, ?_⟩; simp (disch := first | omega | assumption | rfl | (simp only [vcS] <;> omega) | fail) only [↓ptV_l, ↓vcA, vcB, ↓vcD, vcE, ↓reduceIte, Nat.reduceEqDiff, Nat.reduceAdd, Nat.reduceMul, Nat.reduceLeDiff, Int.reduceLE, Int.reduceLT, Int.reduceEq, Int.reduceToNat, Int.reduceAdd, Int.reduceSub, Int.reduceMul, Int.reduceNeg, reduceCtorEq, Option.bind_some, Option.map_some, List.length_cons, List.length_nil, vcM, List.getElem?_toArray, List.getElem?_cons_zero, List.getElem?_cons_succ])
    (refine W_at c22_ok ?_; refine ⟨_, rfl, ?_⟩; simp (disch := first | omega | assumption | rfl | (simp only [vcS] <;> omega) | fail) only [↓ptV_l, ↓vcA, vcB, ↓vcD, vcE, ↓reduceIte, Nat.reduceEqDiff, Nat.reduceAdd, Nat.reduceMul, Nat.reduceLeDiff, Int.reduceLE, Int.reduceLT, Int.reduceEq, Int.reduceToNat, Int.reduceAdd, Int.reduceSub, Int.reduceMul, Int.reduceNeg, reduceCtorEq, Option.bind_some, Option.map_some, List.length_cons, List.length_nil, vcM, List.getElem?_toArray, List.getElem?_cons_zero, List.getElem?_cons_succ])
    (refine W_at c22_ok ?_; refine ⟨_, rfl, ?_⟩; simp (disch := first | omega | assumption | rfl | (simp only [vcS] <;> omega) | fail) only [↓ptV_l, ↓vcA, vcB, ↓vcD, vcE, ↓reduceIte, Nat.reduceEqDiff, Nat.reduceAdd, Nat.reduceMul, Nat.reduceLeDiff, Int.reduceLE, Int.reduceLT, Int.reduceEq, Int.reduceToNat, Int.reduceAdd, Int.reduceSub, Int.reduceMul, Int.reduceNeg, reduceCtorEq, Option.bind_some, Option.map_some, List.length_cons, List.length_nil, vcM, List.getElem?_toArray, List.getElem?_cons_zero, List.getElem?_cons_succ, B41, B42, x4', s4', hof])
    refine ⟨hfl _, ?_⟩
    (refine W_at c22_ok ?_; refine ⟨_, rfl, ?_⟩; simp (disch := first | omega | assumption | rfl | (simp only [vcS] <;> omega) | fail) only [↓ptV_l, ↓vcA, vcB, ↓vcD, vcE, ↓reduceIte, Nat.reduceEqDiff, Nat.reduceAdd, Nat.reduceMul, Nat.reduceLeDiff, Int.reduceLE, Int.reduceLT, Int.reduceEq, Int.reduceToNat, Int.reduceAdd, Int.reduceSub, Int.reduceMul, Int.reduceNeg, reduceCtorEq, Option.bind_some, Option.map_some, List.length_cons, List.length_nil, vcM, List.getElem?_toArray, List.getElem?_cons_zero, List.getElem?_cons_succ, o1, Ret_returned])
    rw [he]
    exact ⟨_, rfl, sv, qv, rfl, h4.box o3 B42, o2⟩
  | true =>
  have he := writeD_it ht hgt hc
  (refine W_at c22_ok ?_; refine ⟨_, rfl, ?_⟩; simp (disch := first | omega | assumption | rfl | (simp only [vcS] <;> omega) | fail) only [↓ptV_l, ↓vcA, vcB, ↓vcD, vcE, ↓reduceIte, Nat.reduceEqDiff, Nat.reduceAdd, Nat.reduceMul, Nat.reduceLeDiff, Int.reduceLE, Int.reduceLT, Int.reduceEq, Int.reduceToNat, Int.reduceAdd, Int.reduceSub, Int.reduceMul, Int.reduceNeg, reduceCtorEq, Option.bind_some, Option.map_some, List.length_cons, List.length_nil, vcM, List.getElem?_toArray, List.getElem?_cons_zero, List.getElem?_cons_succ])
  (refine W_at c22_ok ?_; refine ⟨_, rfl, ?_⟩; simp (disch := first | omega | assumption | rfl | (simp only [vcS] <;> omega) | fail) only [↓ptV_l, ↓vcA, vcB, ↓vcD, vcE, ↓reduceIte, Nat.reduceEqDiff, Nat.reduceAdd, Nat.reduceMul, Nat.reduceLeDiff, Int.reduceLE, Int.reduceLT, Int.reduceEq, Int.reduceToNat, Int.reduceAdd, Int.reduceSub, Int.reduceMul, Int.reduceNeg, reduceCtorEq, Option.bind_some, Option.map_some, List.length_cons, List.length_nil, vcM, List.getElem?_toArray, List.getElem?_cons_zero, List.getElem?_cons_succ])
  have hz65 : (zc [(1, Value.int .i64 0), (64, Value.int .u8 0)]).size = 65 := rfl
  have hwz : (#[Value.int .i64 i] ++ zc [(64, Value.int .u8 0)] : Array Value) = wcell (i, zsec) := by
    have hz : zc [(64, Value.int .u8 0)] = (bv zsec).toArray := rfl
    rw [hz, wcell]
    simp only [List.append_toArray, List.cons_append, List.nil_append]
  have hwz2 := wcell_size (x := (i, zsec)) zsec_ok.1
  (refine W_at c22_ok ?_; refine ⟨_, rfl, ?_⟩; simp (disch := first | omega | assumption | rfl | (simp only [vcS] <;> omega) | fail) only [↓ptV_l, ↓vcA, vcB, ↓vcD, vcE, ↓reduceIte, Nat.reduceEqDiff, Nat.reduceAdd, Nat.reduceMul, Nat.reduceLeDiff, Int.reduceLE, Int.reduceLT, Int.reduceEq, Int.reduceToNat, Int.reduceAdd, Int.reduceSub, Int.reduceMul, Int.reduceNeg, reduceCtorEq, Option.bind_some, Option.map_some, List.length_cons, List.length_nil, vcM, List.getElem?_toArray, List.getElem?_cons_zero, List.getElem?_cons_succ, hwz, hwz2])
  refine ⟨wcell_flat _, ?_⟩
  have hb9 : ((w4.alloc (.cells (zc [(1, .int .i64 0), (64, .int .u8 0)]) 49)).putN w4.heap.size 0 (wcell (i, zsec))).heap[w4.heap.size]? = some (.cells (wcell (i, zsec)) 49 (0, 0)) := by
    rw [heap_putN_eq (heap_new _ _ _ rfl), splice_all (by rw [hz65, hwz2])]
  have hE5 : Ext w4 ((w4.alloc (.cells (zc [(1, .int .i64 0), (64, .int .u8 0)]) 49)).putN w4.heap.size 0 (wcell (i, zsec))) := ((Keep.refl _ w4).alloc _).putN _ (by intro hh; exfalso; omega)
  generalize World.putN _ _ _ _ = w5 at hb9 hE5 ⊢
  generalize hp9 : w4.heap.size = p9 at hb9 ⊢
  have hp1l : p1 < p9 := by have := (Array.getElem?_eq_some_iff.1 B41).1; omega
  have hp2l : p2 < p9 := by have := (Array.getElem?_eq_some_iff.1 B42).1; omega
  (refine W_at c22_ok ?_; refine ⟨_, rfl, ?_⟩; simp (disch := first | omega | assumption | rfl | (simp only [vcS] <;> omega) | fail) only [↓ptV_l, ↓vcA, vcB, ↓vcD, vcE, ↓reduceIte, Nat.reduceEqDiff, Nat.reduceAdd, Nat.reduceMul, Nat.reduceLeDiff, Int.reduceLE, Int.reduceLT, Int.reduceEq, Int.reduceToNat, Int.reduceAdd, Int.reduceSub, Int.reduceMul, Int.reduceNeg, reduceCtorEq, Option.bind_some, Option.map_some, List.length_cons, List.length_nil, vcM, List.getElem?_toArray, List.getElem?_cons_zero, List.getElem?_cons_succ])
  have L : ∀ (k j : Nat) (wj : World), k + j = bs.length → Keep (fun g => g = p9) w5 wj → wj.heap[p9]? = some (.cells (wcell (i, padS (bs.take j))) 49 (0, 0)) →
      W Try.prog (Ret fun u w' => ∃ u', u = .tuple #[u', .int .i64 (writeD d i bs).2] ∧ RTo w w' (writeD d i bs).1 u') 22 8 [(2, x), (3, .pointer (some ⟨p1, 0, none⟩)), (6, .pointer (some ⟨p2, 0, none⟩)), (9, .pointer (some ⟨p9, 0, none⟩)), (10, .int .i64 (j : Nat))] wj := by
    intro k
    induction k with
    | zero =>
      intro j wj hj hK h9
      obtain rfl : j = bs.length := by omega
      rw [List.take_of_length_le (Nat.le_refl _)] at h9
      have hlt : ¬ ((bs.length : Nat) : Int) < (bs.length : Nat) := by omega
      have hEj : Ext w4 wj := hE5.trans hK fun k hk e => by omega
      have B6 := B4.ext hEj
      have B61 := B6.b1
      have h6 := h4.ext hEj
      have hqj : OwnO wj 0 49 65 qv (d.queue.map wcell) := by have := h6.queue; rw [e1] at this; exact this
      have g1 : (rcell sv qv (callD d).1)[1]? = some qv := rfl
      have h65 : (wcell (i, padS bs)).size = 65 := wcell_size (by simp [padS]; omega)
      have x65 : (wcell (i, padS bs)).extract 0 (0 + 65) = wcell (i, padS bs) := by rw [Nat.zero_add]; exact ext_all _ _ h65
      have hcl : (Value.agg (wcell (i, padS bs))).cells = wcell (i, padS bs) := rfl
      obtain ⟨qq, qc, hqe, hqc⟩ := hqj.is
      rw [qlen] at hqe hqc
      have hql := hd.len
      have hto : (wcell (i, padS bs)).toList.toArray = wcell (i, padS bs) := by simp
      -- the end: the list is stored
      have fin : ∀ (v : Value) (wk : World), OwnO wk w4.heap.size 49 65 v ((d.queue ++ [(i, padS bs)]).map wcell) → Ext w4 wk →
          v.oneCell' = true ∧ wr1 wk p1 1 ∧ W Try.prog (Ret fun u w' => ∃ u', u = .tuple #[u', .int .i64 (writeD d i bs).2] ∧ RTo w w' (writeD d i bs).1 u') 22 2 [(3, .pointer (some ⟨p1, 0, none⟩)), (6, .pointer (some ⟨p2, 0, none⟩))] (wk.setCell ⟨p1, 1, none⟩ v) := by
        intro v wk hO hEk
        have B7 := B4.ext hEk
        have B71 := B7.b1
        have h7 := h4.ext hEk
        refine ⟨hO.one, wr1_of B71 (by simp [rcell]), ?_⟩
        have hk8 : Keep (fun g => g = p1) wk (wk.setCell ⟨p1, 1, none⟩ v) := (Keep.refl _ wk).setCell _ fun _ => rfl
        have q8 : (wk.setCell ⟨p1, 1, none⟩ v).heap[p1]? = some (.cells (rcell sv v (writeD d i bs).1) 30 (0, 0)) := by rw [heap_setCell_eq B71, rc_set1, he]; rfl
        have B8 : Boxes w (wk.setCell ⟨p1, 1, none⟩ v) p1 p2 sv v (writeD d i bs).1 := ⟨q8, hk8.at B7.b2 (fun e => B7.ne e.symm), B7.ne, B7.e.trans hk8 fun j hj e => by have := B7.l1; omega, B7.l1, B7.l2⟩
        have h8 : RD (wk.setCell ⟨p1, 1, none⟩ v) sv v (writeD d i bs).1 := by
          have h9 := h7.box hk8 B71
          rw [he]
          refine ⟨h9.safe, (hO.base (Nat.zero_le _)).keep hk8 fun g hg e => ?_⟩
          subst e
          obtain ⟨hb, _⟩ := hO.blk hg
          omega
        generalize World.setCell _ _ _ = w8 at q8 B8 h8 ⊢
        have B82 := B8.b2
        obtain ⟨o1, o2, o3⟩ := B8.out sv v (writeD d i bs).1
        have x8 : (rcell sv v (writeD d i bs).1).extract 0 (0 + 4) = rcell sv v (writeD d i bs).1 := rfl
        have s8 : (rcell sv v (writeD d i bs).1).size = 4 := rfl
        (refine W_at c22_ok ?_; refine ⟨_, rfl, ?_⟩; simp (disch := first | omega | assumption | rfl | (simp only [vcS] <;> omega) | fail) only [↓ptV_l, ↓vcA, vcB, ↓vcD, vcE, ↓reduceIte, Nat.reduceEqDiff, Nat.reduceAdd, Nat.reduceMul, Nat.reduceLeDiff, Int.reduceLE, Int.reduceLT, Int.reduceEq, Int.reduceToNat, Int.reduceAdd, Int.reduceSub, Int.reduceMul, Int.reduceNeg, reduceCtorEq, Option.bind_some, Option.map_some, List.length_cons, List.length_nil, vcM, List.getElem?_toArray, List.getElem?_cons_zero, List.getElem?_cons_succ, q8, B82, x8, s8, hof])
        refine ⟨rc_flat (w := w) h.safe.one hO.one, ?_⟩
        (refine W_at c22_ok ?_; refine ⟨_, rfl, ?_⟩; simp (disch := first | omega | assumption | rfl | (simp only [vcS] <;> omega) | fail) only [↓ptV_l, ↓vcA, vcB, ↓vcD, vcE, ↓reduceIte, Nat.reduceEqDiff, Nat.reduceAdd, Nat.reduceMul, Nat.reduceLeDiff, Int.reduceLE, Int.reduceLT, Int.reduceEq, Int.reduceToNat, Int.reduceAdd, Int.reduceSub, Int.reduceMul, Int.reduceNeg, reduceCtorEq, Option.bind_some, Option.map_some, List.length_cons, List.length_nil, vcM, List.getElem?_toArray, List.getElem?_cons_zero, List.getElem?_cons_succ, o1, Ret_returned])
        have hz : (writeD d i bs).2 = 0 := by rw [he]
        rw [hz]
        exact ⟨_, rfl, sv, v, rfl, h8.box o3 B82, o2⟩
      have s1 : ∀ o, (wj.alloc o).heap.size = wj.heap.size + 1 := fun o => size_alloc _ _
      have hEd : Ext wj wj.drew := (Keep.refl _ wj).drew
      have hA : ∀ wz, Ext wj wz → wz.heap[p1]? = some (.cells (rcell sv qv (callD d).1) 30 (0, 0)) ∧ wz.heap[p9]? = some (.cells (wcell (i, padS bs)) 49 (0, 0)) := fun wz hz => ⟨hz.at B61 (fun h => h), hz.at h9 (fun h => h)⟩
      have a1 : ∀ o, (wj.drew.alloc o).heap[p1]? = some (.cells (rcell sv qv (callD d).1) 30 (0, 0)) := fun o => (hA _ (hEd.alloc o)).1
      have a9 : ∀ o, (wj.drew.alloc o).heap[p9]? = some (.cells (wcell (i, padS bs)) 49 (0, 0)) := fun o => (hA _ (hEd.alloc o)).2
      have aa1 : ∀ o o', ((wj.drew.alloc o).alloc o').heap[p1]? = some (.cells (rcell sv qv (callD d).1) 30 (0, 0)) := fun o o' => (hA _ ((hEd.alloc o).alloc o')).1
      have aa9 : ∀ o o', ((wj.drew.alloc o).alloc o').heap[p9]? = some (.cells (wcell (i, padS bs)) 49 (0, 0)) := fun o o' => (hA _ ((hEd.alloc o).alloc o')).2
      have rq : ∀ wz, Ext wj wz → rdS wz 65 qv = some ((d.queue.map wcell).flatMap Array.toList).toArray := fun wz hz => (hqj.ext hz).rd
      have hwf : ∀ k ∈ d.queue.map wcell, flat k := fun k hk => by obtain ⟨y, _, rfl⟩ := List.mem_map.1 hk; exact wcell_flat y
      have hqs := hqj.sz
      have hz65' : (runs [(1, Value.int .i64 0), (64, .int .u8 0)]).length = 65 := rfl
      have hsz4 : w4.heap.size ≤ wj.heap.size := hEj.size
      -- first the list, then the write
      have app2 : ∀ (g1 : Nat) (v : Value) (wa : World), OwnO wa w4.heap.size 49 65 v (d.queue.map wcell) → Ext w4 wa → w4.heap.size ≤ wa.heap.size → rdS wa 65 (.slice (some ⟨g1, 0, none⟩) 1 1) = some (wcell (i, padS bs)) →
          appV 49 65 72 (runs [(1, .int .i64 0), (64, .int .u8 0)]) v (.slice (some ⟨g1, 0, none⟩) 1 1) wa fun v wk => v.oneCell' = true ∧ wr1 wk p1 1 ∧ W Try.prog (Ret fun u w' => ∃ u', u = .tuple #[u', .int .i64 (writeD d i bs).2] ∧ RTo w w' (writeD d i bs).1 u') 22 2 [(3, .pointer (some ⟨p1, 0, none⟩)), (6, .pointer (some ⟨p2, 0, none⟩))] (wk.setCell ⟨p1, 1, none⟩ v) := by
        intro g1 v wa hO hEa hsa hr
        have e6 : [wcell (i, padS bs)].flatMap Array.toList = (wcell (i, padS bs)).toList := by simp
        refine appO2 (ids2 := [wcell (i, padS bs)]) hO (by rw [hr, e6, hto]) rfl (fun k hk => by simp at hk; rw [hk]; exact h65) (fun k hk => by simp at hk; rw [hk]; exact wcell_flat _) (by rw [qlen]; omega) (by rw [qlen]; omega) rfl hsa (by omega) fun v' wk k1 k2 k3 => ?_
        refine fin v' wk (by rw [List.map_append]; exact k1) (hEa.trans k2 fun k hk e => by have := (hO.blk e).1; omega)
      have app1 : ∀ (g1 : Nat) (wa : World), OwnO wa wj.heap.size 49 65 (.slice (some ⟨g1, 0, none⟩) 0 0) [] → Ext wj wa → w4.heap.size ≤ g1 → ∀ K : Value → World → Prop, (∀ v wk, OwnO wk w4.heap.size 49 65 v (d.queue.map wcell) → Keep (fun g => g = g1) wa wk → (∀ g, Go.Proofs.blk v g → g = g1 ∨ wa.heap.size ≤ g) → K v wk) →
          appV 49 65 72 (runs [(1, .int .i64 0), (64, .int .u8 0)]) (.slice (some ⟨g1, 0, none⟩) 0 0) qv wa K := by
        intro g1 wa hO hEa hg1 K hK
        have hr := rq wa hEa
        rw [hqe] at hr ⊢
        refine appO2 (ids2 := d.queue.map wcell) hO hr (by rw [qlen]) hqs hwf (by simp; omega) (by simp; omega) rfl (by exact Nat.le_trans (Nat.le_refl _) (hEa.size)) (by omega) fun v' wk k1 k2 k3 => ?_
        rw [List.nil_append] at k1
        refine hK v' wk (k1.base hsz4) (k2.mono fun g hg => (Option.some.inj hg).symm) fun g hg => ?_
        rcases k3 g hg with h | h
        · exact .inl (Option.some.inj h).symm
        · exact .inr h
      (refine W_at c22_ok ?_; refine ⟨_, rfl, ?_⟩; simp (disch := first | omega | assumption | rfl | (simp only [vcS] <;> omega) | fail) only [↓ptV_l, ↓vcA, vcB, ↓vcD, vcE, ↓reduceIte, Nat.reduceEqDiff, Nat.reduceAdd, Nat.reduceMul, Nat.reduceLeDiff, Int.reduceLE, Int.reduceLT, Int.reduceEq, Int.reduceToNat, Int.reduceAdd, Int.reduceSub, Int.reduceMul, Int.reduceNeg, reduceCtorEq, Option.bind_some, Option.map_some, List.length_cons, List.length_nil, vcM, List.getElem?_toArray, List.getElem?_cons_zero, List.getElem?_cons_succ, hlx, hlt])
      (refine W_at c22_ok ?_; refine ⟨_, rfl, ?_⟩; simp (disch := first | omega | assumption | rfl | (simp only [vcS] <;> omega) | fail) only [↓ptV_l, ↓vcA, vcB, ↓vcD, vcE, ↓reduceIte, Nat.reduceEqDiff, Nat.reduceAdd, Nat.reduceMul, Nat.reduceLeDiff, Int.reduceLE, Int.reduceLT, Int.reduceEq, Int.reduceToNat, Int.reduceAdd, Int.reduceSub, Int.reduceMul, Int.reduceNeg, reduceCtorEq, Option.bind_some, Option.map_some, List.length_cons, List.length_nil, vcM, List.getElem?_toArray, List.getElem?_cons_zero, List.getElem?_cons_succ])
      (refine W_at c22_ok ?_; refine ⟨_, rfl, ?_⟩; simp (disch := first | omega | assumption | rfl | (simp only [vcS] <;> omega) | fail) only [↓ptV_l, ↓vcA, vcB, ↓vcD, vcE, ↓reduceIte, Nat.reduceEqDiff, Nat.reduceAdd, Nat.reduceMul, Nat.reduceLeDiff, Int.reduceLE, Int.reduceLT, Int.reduceEq, Int.reduceToNat, Int.reduceAdd, Int.reduceSub, Int.reduceMul, Int.reduceNeg, reduceCtorEq, Option.bind_some, Option.map_some, List.length_cons, List.length_nil, vcM, List.getElem?_toArray, List.getElem?_cons_zero, List.getElem?_cons_succ, B61, h9, g1, h65, x65, hcl, a1, a9, aa1, aa9, List.append_nil])
      rw [hto]
      have h9l := (Array.getElem?_eq_some_iff.1 h9).1
      have hsd : wj.drew.heap.size = wj.heap.size := rfl
      -- what lies behind the first 'append'
      have after : ∀ (g1 : Nat) (v : Value) (wa wk : World), Ext wj wa → w4.heap.size ≤ g1 → Keep (fun g => g = g1) wa wk → (∀ g, Go.Proofs.blk v g → g = g1 ∨ wa.heap.size ≤ g) → Ext w4 wk ∧ (∀ g, Go.Proofs.blk v g → w4.heap.size ≤ g) ∧ w4.heap.size ≤ wk.heap.size := by
        intro g1 v wa wk hEa hg1 k2 k3
        have z := hEa.size
        refine ⟨(hEj.ext hEa).trans k2 fun g hg e => by omega, fun g hg => ?_, by have := k2.size; omega⟩
        rcases k3 g hg with h | h <;> omega
      refine ⟨⟨?_, ?_⟩, ?_⟩
      · refine app1 wj.heap.size _ (own_nil (w := wj.drew) (Keep.refl _ _)) (hEd.alloc _) hsz4 _ fun v wk k1 k2 k3 => ⟨?_, ?_⟩
        · rw [k2.at (a9 _) (by omega), rdO_all _ _ _ _ h65]; rfl
        · obtain ⟨z1, z2, z3⟩ := after _ v _ wk (hEd.alloc _) hsz4 k2 k3
          have m0 := appO (bytes := 72) (z := runs [(1, .int .i64 0), (64, .int .u8 0)]) (cs := (wcell (i, padS bs)).toList) (K := fun v wk => v.oneCell' = true ∧ wr1 wk p1 1 ∧ W Try.prog (Ret fun u w' => ∃ u', u = .tuple #[u', .int .i64 (writeD d i bs).2] ∧ RTo w w' (writeD d i bs).1 u') 22 2 [(3, .pointer (some ⟨p1, 0, none⟩)), (6, .pointer (some ⟨p2, 0, none⟩))] (wk.setCell ⟨p1, 1, none⟩ v))
            k1 (by rw [Array.length_toList]; exact h65) (by rw [hto]; exact wcell_flat _) (by rw [qlen]; omega) (by rw [qlen]; omega) rfl z3 (by omega) fun v' wm m1 m2 m3 => by
              rw [hto] at m1
              exact fin v' wm (by rw [List.map_append]; exact m1) (z1.trans m2 fun g hg e => by have := z2 g e; omega)
          rw [hto] at m0
          exact m0
      · have hEa : Ext wj ((wj.drew.alloc (.cells #[] 49)).alloc (.cells (wcell (i, padS bs)) 49)) := (hEd.alloc _).alloc _
        refine app1 wj.heap.size _ (own_nil (w := wj.drew) ((Keep.refl _ _).alloc _)) hEa hsz4 _ fun v wk k1 k2 k3 => ?_
        obtain ⟨z1, z2, z3⟩ := after _ v _ wk hEa hsz4 k2 k3
        have hr := rdS_lit (w := wj.drew.alloc (.cells #[] 49)) (cs := wcell (i, padS bs)) (t := 49) (n := 1) (size := 65) (Keep.refl _ _) (by rw [h65])
        rw [size_alloc, hsd] at hr
        exact app2 _ v wk k1 z1 z3 (rdS_keep hr k2 fun g hg e => by have e' : wj.heap.size + 1 = g := Option.some.inj hg; omega)
      · have hEa : Ext wj ((wj.drew.alloc (.cells (wcell (i, padS bs)) 49)).alloc (.cells #[] 49)) := (hEd.alloc _).alloc _
        have hO := own_nil (w := wj.drew.alloc (.cells (wcell (i, padS bs)) 49)) (t := 49) (size := 65) (Keep.refl _ _)
        rw [size_alloc, hsd] at hO
        refine app1 (wj.heap.size + 1) _ (hO.base (by omega)) hEa (by omega) _ fun v wk k1 k2 k3 => ?_
        obtain ⟨z1, z2, z3⟩ := after _ v _ wk hEa (by omega) k2 k3
        have hr := rdS_lit (w := wj.drew) (cs := wcell (i, padS bs)) (t := 49) (n := 1) (size := 65) ((Keep.refl _ _).alloc (.cells #[] 49)) (by rw [h65])
        exact app2 _ v wk k1 z1 z3 (rdS_keep hr k2 fun g hg e => by have e' : wj.heap.size = g := Option.some.inj hg; omega)
    | succ k ih =>
      intro j wj hj hK h9
      have hjl : j < bs.length := by omega
      have hlt : ((j : Nat) : Int) < (bs.length : Nat) := by omega
      have c2 : 0 ≤ ((j : Nat) : Int) ∧ ((j : Nat) : Int) < (bs.length : Nat) := by omega
      have c3 : 0 ≤ ((j : Nat) : Int) ∧ ((j : Nat) : Int) < 64 := by omega
      have c3' : 0 ≤ ((j : Nat) : Int) ∧ ((j : Nat) : Int) < ((64 : Nat) : Int) := by omega
      have hwj : IntKind.i64.wrap (((j : Nat) : Int) + 1) = ((j + 1 : Nat) : Int) := wrap_i64 (by omega) (by omega)
      have hEj : Ext w4 wj := hE5.trans hK fun k hk e => by omega
      have hxj := hx.ext (B4.e.ext hEj)
      obtain ⟨b, o, c, hxe, hcell⟩ := hxj.at hjl
      have hst := pad_step i hjl (by omega)
      have h65 : (wcell (i, padS (bs.take j))).size = 65 := wcell_size (by simp [padS]; omega)
      subst hxe
      (refine W_at c22_ok ?_; refine ⟨_, rfl, ?_⟩; simp (disch := first | omega | assumption | rfl | (simp only [vcS] <;> omega) | fail) only [↓ptV_l, ↓vcA, vcB, ↓vcD, vcE, ↓reduceIte, Nat.reduceEqDiff, Nat.reduceAdd, Nat.reduceMul, Nat.reduceLeDiff, Int.reduceLE, Int.reduceLT, Int.reduceEq, Int.reduceToNat, Int.reduceAdd, Int.reduceSub, Int.reduceMul, Int.reduceNeg, reduceCtorEq, Option.bind_some, Option.map_some, List.length_cons, List.length_nil, vcM, List.getElem?_toArray, List.getElem?_cons_zero, List.getElem?_cons_succ, hlt])
      (refine W_at c22_ok ?_; refine ⟨_, rfl, ?_⟩; simp (disch := first | omega | assumption | rfl | (simp only [vcS] <;> omega) | fail) only [↓ptV_l, ↓vcA, vcB, ↓vcD, vcE, ↓reduceIte, Nat.reduceEqDiff, Nat.reduceAdd, Nat.reduceMul, Nat.reduceLeDiff, Int.reduceLE, Int.reduceLT, Int.reduceEq, Int.reduceToNat, Int.reduceAdd, Int.reduceSub, Int.reduceMul, Int.reduceNeg, reduceCtorEq, Option.bind_some, Option.map_some, List.length_cons, List.length_nil, vcM, List.getElem?_toArray, List.getElem?_cons_zero, List.getElem?_cons_succ])
      (refine W_at c22_ok ?_; refine ⟨_, rfl, ?_⟩; simp (disch := first | omega | assumption | rfl | (simp only [vcS] <;> omega) | fail) only [↓ptV_l, ↓vcA, vcB, ↓vcD, vcE, ↓reduceIte, Nat.reduceEqDiff, Nat.reduceAdd, Nat.reduceMul, Nat.reduceLeDiff, Int.reduceLE, Int.reduceLT, Int.reduceEq, Int.reduceToNat, Int.reduceAdd, Int.reduceSub, Int.reduceMul, Int.reduceNeg, reduceCtorEq, Option.bind_some, Option.map_some, List.length_cons, List.length_nil, vcM, List.getElem?_toArray, List.getElem?_cons_zero, List.getElem?_cons_succ, c2, c3, c3', Int.toNat_natCast, hcell, Nat.mul_one])
      refine ⟨wr1_of h9 (by omega), ?_⟩
      have q9 : (wj.setCell ⟨p9, 1 + j, none⟩ (.int .u8 bs[j])).heap[p9]? = some (.cells (wcell (i, padS (bs.take (j + 1)))) 49 (0, 0)) := by rw [heap_setCell_eq h9, hst]
      have k9 : Keep (fun g => g = p9) wj (wj.setCell ⟨p9, 1 + j, none⟩ (.int .u8 bs[j])) := (Keep.refl _ wj).setCell _ fun _ => rfl
      (refine W_at c22_ok ?_; refine ⟨_, rfl, ?_⟩; simp (disch := first | omega | assumption | rfl | (simp only [vcS] <;> omega) | fail) only [↓ptV_l, ↓vcA, vcB, ↓vcD, vcE, ↓reduceIte, Nat.reduceEqDiff, Nat.reduceAdd, Nat.reduceMul, Nat.reduceLeDiff, Int.reduceLE, Int.reduceLT, Int.reduceEq, Int.reduceToNat, Int.reduceAdd, Int.reduceSub, Int.reduceMul, Int.reduceNeg, reduceCtorEq, Option.bind_some, Option.map_some, List.length_cons, List.length_nil, vcM, List.getElem?_toArray, List.getElem?_cons_zero, List.getElem?_cons_succ, hwj])
      (refine W_at c22_ok ?_; refine ⟨_, rfl, ?_⟩; simp (disch := first | omega | assumption | rfl | (simp only [vcS] <;> omega) | fail) only [↓ptV_l, ↓vcA, vcB, ↓vcD, vcE, ↓reduceIte, Nat.reduceEqDiff, Nat.reduceAdd, Nat.reduceMul, Nat.reduceLeDiff, Int.reduceLE, Int.reduceLT, Int.reduceEq, Int.reduceToNat, Int.reduceAdd, Int.reduceSub, Int.reduceMul, Int.reduceNeg, reduceCtorEq, Option.bind_some, Option.map_some, List.length_cons, List.length_nil, vcM, List.getElem?_toArray, List.getElem?_cons_zero, List.getElem?_cons_succ])
      exact ih (j + 1) _ (by omega) (hK.trans k9 fun _ _ h => h) q9
  exact L bs.length 0 w5 (by omega) (Keep.refl _ w5) hb9
end Go.Proofs
