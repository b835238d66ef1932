/- The document's reader: lists. -/
import Derived.Test.YtojgkbhpnebacaaWG
set_option linter.unusedSimpArgs false
set_option linter.unusedVariables false
set_option linter.constructorNameAsVariable false
namespace Go.Proofs
open Go.Vc
set_option maxRecDepth 10000

theorem szR_ek {l : List Int} {k : Int} (h : szR l = .error k) : k ≠ 0 := by
  cases l with
  | nil => cases h; decide
  | cons f t =>
    rw [szR] at h
    by_cases c1 : f < 253
    · rw [if_pos c1] at h; cases h
    rw [if_neg c1] at h
    by_cases c2 : t.length < szK f
    · rw [if_pos c2] at h; cases h; decide
    rw [if_neg c2] at h
    by_cases c3 : wideF (valF (t.take (szK f))) ≠ szK f
    · rw [if_pos c3] at h; cases h; decide
    rw [if_neg c3] at h
    by_cases c4 : 33554432 < valF (t.take (szK f))
    · rw [if_pos c4] at h; cases h; decide
    · rw [if_neg c4] at h; cases h

set_option maxHeartbeats 1600000 in
theorem iList_ok (w : World) (x : Value) (bs : List Int) (a : Nat) (e m : Int) (hx : Rd w x bs) (hb : byt bs) (ha : a ≤ bs.length) (hl : bs.length ≤ 1000000000) :
    Calls Try.prog 48 #[.agg #[x, .int .i64 a, .int .i64 e], .int .i64 m] w (Ret fun u w' => ITo w w' x bs a e (bytR m (bs.drop a)) (OwnN w.heap.size) (.slice none 0 0) u) := by
  refine calls_of_cfg c48_ok (Nat.le_of_ble_eq_true rfl) ?_
  simp only [argE_nil, argE_cons, Nat.reduceAdd, Nat.zero_add]
  have hx1 := hx.one
  have hz1 : zc [(1, Value.slice none 0 0), (2, .int .i64 0)] = #[.slice none 0 0, .int .i64 0, .int .i64 0] := rfl
  (refine W_at c48_ok ?_; refine ⟨_, rfl, ?_⟩; simp (disch := first | omega | assumption | rfl | (simp only [vcS] <;> omega) | fail) only [↓ptV_l, ↓vcA, vcB, ↓vcD, vcE, ↓reduceIte, Nat.reduceEqDiff, Nat.reduceAdd, Nat.reduceMul, Nat.reduceLeDiff, Int.reduceLE, Int.reduceLT, Int.reduceEq, Int.reduceToNat, Int.reduceAdd, Int.reduceSub, Int.reduceMul, Int.reduceNeg, reduceCtorEq, Option.bind_some, Option.map_some, List.length_cons, List.length_nil, vcM, List.getElem?_toArray, List.getElem?_cons_zero, List.getElem?_cons_succ, hz1])
  have h1 : ((w.alloc (Obj.cells #[x, Value.int IntKind.i64 ↑a, Value.int IntKind.i64 e] 49)).alloc (Obj.cells #[Value.slice none 0 0, Value.int IntKind.i64 0, Value.int IntKind.i64 0] 49)).heap[w.heap.size]? = some (.cells #[x, .int .i64 a, .int .i64 e] 49 (0, 0)) := by simp (disch := first | omega | assumption | rfl | (simp only [vcS] <;> omega) | fail) only [↓ptV_l, ↓vcA, vcB, ↓vcD, vcE, ↓reduceIte, Nat.reduceEqDiff, Nat.reduceAdd, Nat.reduceMul, Nat.reduceLeDiff, Int.reduceLE, Int.reduceLT, Int.reduceEq, Int.reduceToNat, Int.reduceAdd, Int.reduceSub, Int.reduceMul, Int.reduceNeg, reduceCtorEq, Option.bind_some, Option.map_some, List.length_cons, List.length_nil, vcM, List.getElem?_toArray, List.getElem?_cons_zero, List.getElem?_cons_succ]
  have h3 : ((w.alloc (Obj.cells #[x, Value.int IntKind.i64 ↑a, Value.int IntKind.i64 e] 49)).alloc (Obj.cells #[Value.slice none 0 0, Value.int IntKind.i64 0, Value.int IntKind.i64 0] 49)).heap[w.heap.size + 1]? = some (.cells #[.slice none 0 0, .int .i64 0, .int .i64 0] 49 (0, 0)) := by simp (disch := first | omega | assumption | rfl | (simp only [vcS] <;> omega) | fail) only [↓ptV_l, ↓vcA, vcB, ↓vcD, vcE, ↓reduceIte, Nat.reduceEqDiff, Nat.reduceAdd, Nat.reduceMul, Nat.reduceLeDiff, Int.reduceLE, Int.reduceLT, Int.reduceEq, Int.reduceToNat, Int.reduceAdd, Int.reduceSub, Int.reduceMul, Int.reduceNeg, reduceCtorEq, Option.bind_some, Option.map_some, List.length_cons, List.length_nil, vcM, List.getElem?_toArray, List.getElem?_cons_zero, List.getElem?_cons_succ]
  have hE : Ext w ((w.alloc (Obj.cells #[x, Value.int IntKind.i64 ↑a, Value.int IntKind.i64 e] 49)).alloc (Obj.cells #[Value.slice none 0 0, Value.int IntKind.i64 0, Value.int IntKind.i64 0] 49)) := by (repeat' first | exact Keep.refl _ _ | assumption | refine Keep.drew ?_ | refine Keep.alloc ?_ _ | refine Keep.putN ?_ _ ?_ | refine Keep.setCell ?_ _ ?_ | refine Keep.setO ?_ _ ?_ | exact fun _ => Or.inl rfl | exact fun _ => Or.inr rfl | exact fun _ => rfl | (intro hh; exfalso; ((try simp only [vcS] at hh) <;> omega)))
  have hps : w.heap.size ≠ w.heap.size + 1 := by omega
  have hpo : w.heap.size ≤ w.heap.size := by omega
  have hpo3 : w.heap.size ≤ w.heap.size + 1 := by omega
  have hwl : w.heap.size + 2 ≤ ((w.alloc (Obj.cells #[x, Value.int IntKind.i64 ↑a, Value.int IntKind.i64 e] 49)).alloc (Obj.cells #[Value.slice none 0 0, Value.int IntKind.i64 0, Value.int IntKind.i64 0] 49)).heap.size := by rw [size_alloc, size_alloc]; omega
  generalize hp1 : w.heap.size = p1 at h1 h3 hps hpo hpo3 hwl ⊢
  generalize hp3 : p1 + 1 = p3 at h3 hps hpo3 ⊢
  generalize World.alloc _ _ = w1 at h1 h3 hE hwl ⊢
  have hput : ∀ (wz : World) (c0 c1 c2 : Value), wz.heap[p3]? = some (.cells #[.slice none 0 0, .int .i64 0, .int .i64 0] 49 (0, 0)) → rdO (wz.drew.putN p3 0 #[c0, c1, c2]).heap[p3]? 0 3 = some #[c0, c1, c2] := fun wz c0 c1 c2 h => rdO_put (w := wz.drew) h rfl rfl
  (refine W_at c48_ok ?_; refine ⟨_, rfl, ?_⟩; simp (disch := first | omega | assumption | rfl | (simp only [vcS] <;> omega) | fail) only [↓ptV_l, ↓vcA, vcB, ↓vcD, vcE, ↓reduceIte, Nat.reduceEqDiff, Nat.reduceAdd, Nat.reduceMul, Nat.reduceLeDiff, Int.reduceLE, Int.reduceLT, Int.reduceEq, Int.reduceToNat, Int.reduceAdd, Int.reduceSub, Int.reduceMul, Int.reduceNeg, reduceCtorEq, Option.bind_some, Option.map_some, List.length_cons, List.length_nil, vcM, List.getElem?_toArray, List.getElem?_cons_zero, List.getElem?_cons_succ, h1, rdO3])
  refine callV_ret (iCompact_ok w1 x bs a e (hx.ext hE) hb ha hl) ?_
  rintro u w2 ⟨hE2, val, a', e', rfl, hab, g1, g2, g3⟩
  simp (disch := first | omega | assumption | rfl | (simp only [vcS] <;> omega) | fail) only [↓ptV_l, ↓vcA, vcB, ↓vcD, vcE, ↓reduceIte, Nat.reduceEqDiff, Nat.reduceAdd, Nat.reduceMul, Nat.reduceLeDiff, Int.reduceLE, Int.reduceLT, Int.reduceEq, Int.reduceToNat, Int.reduceAdd, Int.reduceSub, Int.reduceMul, Int.reduceNeg, reduceCtorEq, Option.bind_some, Option.map_some, List.length_cons, List.length_nil, vcM, List.getElem?_toArray, List.getElem?_cons_zero, List.getElem?_cons_succ, hz1, hx1]
  have h7 : ((w2.alloc (Obj.cells #[.slice none 0 0, .int .i64 0, .int .i64 0] 49)).putN w2.heap.size 0 #[x, .int .i64 a', .int .i64 e']).heap[w2.heap.size]? = some (.cells #[x, .int .i64 a', .int .i64 e'] 49 (0, 0)) := heap_local w2 rfl
  have hE3 : Ext w2 ((w2.alloc (Obj.cells #[.slice none 0 0, .int .i64 0, .int .i64 0] 49)).putN w2.heap.size 0 #[x, .int .i64 a', .int .i64 e']) := by (repeat' first | exact Keep.refl _ _ | assumption | refine Keep.drew ?_ | refine Keep.alloc ?_ _ | refine Keep.putN ?_ _ ?_ | refine Keep.setCell ?_ _ ?_ | refine Keep.setO ?_ _ ?_ | exact fun _ => Or.inl rfl | exact fun _ => Or.inr rfl | exact fun _ => rfl | (intro hh; exfalso; ((try simp only [vcS] at hh) <;> omega)))
  have h1b := hE3.at (hE2.at h1 fun h => h) fun h => h
  have h3b := hE3.at (hE2.at h3 fun h => h) fun h => h
  generalize World.putN _ _ _ _ = w3 at h7 hE3 h1b h3b ⊢
  generalize w2.heap.size = p7 at h7 ⊢
  have hW3 : Ext w w3 := hE.ext (hE2.ext hE3)
  have bad : ∀ (k : Int) (wz : World), k ≠ 0 → e = 0 → bytR m (bs.drop a) = .error k → Ext w wz → wz.heap[p1]? = some (.cells #[x, .int .i64 a, .int .i64 k] 49 (0, 0)) → wz.heap[p3]? = some (.cells #[.slice none 0 0, .int .i64 0, .int .i64 0] 49 (0, 0)) →
      Ext w (wz.drew.putN p3 0 #[x, .int .i64 a, .int .i64 k]) ∧ ITo w (wz.drew.putN p3 0 #[x, .int .i64 a, .int .i64 k]) x bs a e (bytR m (bs.drop a)) (OwnN p1) (.slice none 0 0) (.tuple #[.slice none 0 0, .agg #[x, .int .i64 a, .int .i64 k]]) := by
    intro k wz hk he hr hEz q1 q3
    subst he
    rw [hr]
    exact ⟨(hEz.drew).putN _ (by omega), (hEz.drew).putN _ (by omega), _, a, k, rfl, by omega, fun h => absurd rfl h, fun _ y rest h => (by cases h), fun _ k' h => (by cases h; exact ⟨rfl, rfl, rfl⟩)⟩
  have early : e' ≠ 0 → a' = a → ((e ≠ 0 → e' = e) ∧ (e = 0 → bytR m (bs.drop a) = .error e')) → W Try.prog (Ret fun u w' => ITo w w' x bs a e (bytR m (bs.drop a)) (OwnN p1) (.slice none 0 0) u) 48 17 [(1, .int .i64 m), (2, .pointer (some ⟨p1, 0, none⟩)), (5, .pointer (some ⟨p3, 0, none⟩)), (6, val), (7, .pointer (some ⟨p7, 0, none⟩))] w3 := by
    intro q1 q2 q3
    subst q2
    (refine W_at c48_ok ?_; refine ⟨_, rfl, ?_⟩; simp (disch := first | omega | assumption | rfl | (simp only [vcS] <;> omega) | fail) only [↓ptV_l, ↓vcA, vcB, ↓vcD, vcE, ↓reduceIte, Nat.reduceEqDiff, Nat.reduceAdd, Nat.reduceMul, Nat.reduceLeDiff, Int.reduceLE, Int.reduceLT, Int.reduceEq, Int.reduceToNat, Int.reduceAdd, Int.reduceSub, Int.reduceMul, Int.reduceNeg, reduceCtorEq, Option.bind_some, Option.map_some, List.length_cons, List.length_nil, vcM, List.getElem?_toArray, List.getElem?_cons_zero, List.getElem?_cons_succ, h7, q1])
    (refine W_at c48_ok ?_; refine ⟨_, rfl, ?_⟩; simp (disch := first | omega | assumption | rfl | (simp only [vcS] <;> omega) | fail) only [↓ptV_l, ↓vcA, vcB, ↓vcD, vcE, ↓reduceIte, Nat.reduceEqDiff, Nat.reduceAdd, Nat.reduceMul, Nat.reduceLeDiff, Int.reduceLE, Int.reduceLT, Int.reduceEq, Int.reduceToNat, Int.reduceAdd, Int.reduceSub, Int.reduceMul, Int.reduceNeg, reduceCtorEq, Option.bind_some, Option.map_some, List.length_cons, List.length_nil, vcM, List.getElem?_toArray, List.getElem?_cons_zero, List.getElem?_cons_succ])
    (refine W_at c48_ok ?_; refine ⟨_, rfl, ?_⟩; simp (disch := first | omega | assumption | rfl | (simp only [vcS] <;> omega) | fail) only [↓ptV_l, ↓vcA, vcB, ↓vcD, vcE, ↓reduceIte, Nat.reduceEqDiff, Nat.reduceAdd, Nat.reduceMul, Nat.reduceLeDiff, Int.reduceLE, Int.reduceLT, Int.reduceEq, Int.reduceToNat, Int.reduceAdd, Int.reduceSub, Int.reduceMul, Int.reduceNeg, reduceCtorEq, Option.bind_some, Option.map_some, List.length_cons, List.length_nil, vcM, List.getElem?_toArray, List.getElem?_cons_zero, List.getElem?_cons_succ, h7, h3b, rdO3, hx1])
    (refine W_at c48_ok ?_; refine ⟨_, rfl, ?_⟩; simp (disch := first | omega | assumption | rfl | (simp only [vcS] <;> omega) | fail) only [↓ptV_l, ↓vcA, vcB, ↓vcD, vcE, ↓reduceIte, Nat.reduceEqDiff, Nat.reduceAdd, Nat.reduceMul, Nat.reduceLeDiff, Int.reduceLE, Int.reduceLT, Int.reduceEq, Int.reduceToNat, Int.reduceAdd, Int.reduceSub, Int.reduceMul, Int.reduceNeg, reduceCtorEq, Option.bind_some, Option.map_some, List.length_cons, List.length_nil, vcM, List.getElem?_toArray, List.getElem?_cons_zero, List.getElem?_cons_succ, h3b, hput, Ret_returned])
    exact ⟨(hW3.drew).putN _ (by omega), _, a', e', rfl, by omega, fun h => ⟨rfl, rfl, q3.1 h⟩, fun h _ _ h' => (by rw [q3.2 h] at h'; cases h'), fun h k h' => (by rw [q3.2 h] at h'; cases h'; exact ⟨rfl, rfl, rfl⟩)⟩
  by_cases he : e = 0
  · subst he
    cases hr : szR (bs.drop a) with
    | error k =>
      obtain ⟨i1, i2, i3⟩ := g3 rfl k hr
      exact early (by rw [i3]; exact szR_ek hr) i2 ⟨fun h => absurd rfl h, fun _ => by rw [bytR, hr, i3]⟩
    | ok p =>
      obtain ⟨n, rest⟩ := p
      obtain ⟨i1, i2, i3⟩ := g2 rfl n rest hr
      subst i1 i3
      obtain ⟨j1, j2, j3⟩ := szR_num (byt_drop hb a) hr
      have hrest : rest = bs.drop a' := i2.symm
      subst hrest
      have hcv : IntKind.i64.wrap n = n := wrap_i64 (by omega) (by omega)
      have hby : bytR m (bs.drop a) = if m < n then .error 2 else rawR n (bs.drop a') := by rw [bytR, hr]
      clear g1 g2 g3
      (refine W_at c48_ok ?_; refine ⟨_, rfl, ?_⟩; simp (disch := first | omega | assumption | rfl | (simp only [vcS] <;> omega) | fail) only [↓ptV_l, ↓vcA, vcB, ↓vcD, vcE, ↓reduceIte, Nat.reduceEqDiff, Nat.reduceAdd, Nat.reduceMul, Nat.reduceLeDiff, Int.reduceLE, Int.reduceLT, Int.reduceEq, Int.reduceToNat, Int.reduceAdd, Int.reduceSub, Int.reduceMul, Int.reduceNeg, reduceCtorEq, Option.bind_some, Option.map_some, List.length_cons, List.length_nil, vcM, List.getElem?_toArray, List.getElem?_cons_zero, List.getElem?_cons_succ, h7])
      (refine W_at c48_ok ?_; refine ⟨_, rfl, ?_⟩; simp (disch := first | omega | assumption | rfl | (simp only [vcS] <;> omega) | fail) only [↓ptV_l, ↓vcA, vcB, ↓vcD, vcE, ↓reduceIte, Nat.reduceEqDiff, Nat.reduceAdd, Nat.reduceMul, Nat.reduceLeDiff, Int.reduceLE, Int.reduceLT, Int.reduceEq, Int.reduceToNat, Int.reduceAdd, Int.reduceSub, Int.reduceMul, Int.reduceNeg, reduceCtorEq, Option.bind_some, Option.map_some, List.length_cons, List.length_nil, vcM, List.getElem?_toArray, List.getElem?_cons_zero, List.getElem?_cons_succ])
      by_cases c1 : m < n
      · rw [if_pos c1] at hby
        (refine W_at c48_ok ?_; refine ⟨_, rfl, ?_⟩; simp (disch := first | omega | assumption | rfl | (simp only [vcS] <;> omega) | fail) only [↓ptV_l, ↓vcA, vcB, ↓vcD, vcE, ↓reduceIte, Nat.reduceEqDiff, Nat.reduceAdd, Nat.reduceMul, Nat.reduceLeDiff, Int.reduceLE, Int.reduceLT, Int.reduceEq, Int.reduceToNat, Int.reduceAdd, Int.reduceSub, Int.reduceMul, Int.reduceNeg, reduceCtorEq, Option.bind_some, Option.map_some, List.length_cons, List.length_nil, vcM, List.getElem?_toArray, List.getElem?_cons_zero, List.getElem?_cons_succ, hcv, c1])
        (refine W_at c48_ok ?_; refine ⟨_, rfl, ?_⟩; simp (disch := first | omega | assumption | rfl | (simp only [vcS] <;> omega) | fail) only [↓ptV_l, ↓vcA, vcB, ↓vcD, vcE, ↓reduceIte, Nat.reduceEqDiff, Nat.reduceAdd, Nat.reduceMul, Nat.reduceLeDiff, Int.reduceLE, Int.reduceLT, Int.reduceEq, Int.reduceToNat, Int.reduceAdd, Int.reduceSub, Int.reduceMul, Int.reduceNeg, reduceCtorEq, Option.bind_some, Option.map_some, List.length_cons, List.length_nil, vcM, List.getElem?_toArray, List.getElem?_cons_zero, List.getElem?_cons_succ])
        (refine W_at c48_ok ?_; refine ⟨_, rfl, ?_⟩; simp (disch := first | omega | assumption | rfl | (simp only [vcS] <;> omega) | fail) only [↓ptV_l, ↓vcA, vcB, ↓vcD, vcE, ↓reduceIte, Nat.reduceEqDiff, Nat.reduceAdd, Nat.reduceMul, Nat.reduceLeDiff, Int.reduceLE, Int.reduceLT, Int.reduceEq, Int.reduceToNat, Int.reduceAdd, Int.reduceSub, Int.reduceMul, Int.reduceNeg, reduceCtorEq, Option.bind_some, Option.map_some, List.length_cons, List.length_nil, vcM, List.getElem?_toArray, List.getElem?_cons_zero, List.getElem?_cons_succ, h1b])
        refine ⟨wr1_of h1b (by simp), ?_⟩
        have q1 : (w3.setCell ⟨p1, 2, none⟩ (.int .i64 2)).heap[p1]? = some (.cells #[x, .int .i64 a, .int .i64 2] 49 (0, 0)) := by rw [heap_setCell_eq h1b]; rfl
        have q3 : (w3.setCell ⟨p1, 2, none⟩ (.int .i64 2)).heap[p3]? = some (.cells #[.slice none 0 0, .int .i64 0, .int .i64 0] 49 (0, 0)) := by rw [heap_setCell_ne _ _ _ _ _ _ (Ne.symm hps)]; exact h3b
        have qE : Ext w (w3.setCell ⟨p1, 2, none⟩ (.int .i64 2)) := hW3.setCell _ (by omega)
        generalize World.setCell _ _ _ = wy at q1 q3 qE ⊢
        (refine W_at c48_ok ?_; refine ⟨_, rfl, ?_⟩; simp (disch := first | omega | assumption | rfl | (simp only [vcS] <;> omega) | fail) only [↓ptV_l, ↓vcA, vcB, ↓vcD, vcE, ↓reduceIte, Nat.reduceEqDiff, Nat.reduceAdd, Nat.reduceMul, Nat.reduceLeDiff, Int.reduceLE, Int.reduceLT, Int.reduceEq, Int.reduceToNat, Int.reduceAdd, Int.reduceSub, Int.reduceMul, Int.reduceNeg, reduceCtorEq, Option.bind_some, Option.map_some, List.length_cons, List.length_nil, vcM, List.getElem?_toArray, List.getElem?_cons_zero, List.getElem?_cons_succ, q1, q3, rdO3, hx1])
        (refine W_at c48_ok ?_; refine ⟨_, rfl, ?_⟩; simp (disch := first | omega | assumption | rfl | (simp only [vcS] <;> omega) | fail) only [↓ptV_l, ↓vcA, vcB, ↓vcD, vcE, ↓reduceIte, Nat.reduceEqDiff, Nat.reduceAdd, Nat.reduceMul, Nat.reduceLeDiff, Int.reduceLE, Int.reduceLT, Int.reduceEq, Int.reduceToNat, Int.reduceAdd, Int.reduceSub, Int.reduceMul, Int.reduceNeg, reduceCtorEq, Option.bind_some, Option.map_some, List.length_cons, List.length_nil, vcM, List.getElem?_toArray, List.getElem?_cons_zero, List.getElem?_cons_succ, q3, hput, Ret_returned])
        exact (bad 2 wy (by omega) rfl hby qE q1 q3).2
      · rw [if_neg c1] at hby
        (refine W_at c48_ok ?_; refine ⟨_, rfl, ?_⟩; simp (disch := first | omega | assumption | rfl | (simp only [vcS] <;> omega) | fail) only [↓ptV_l, ↓vcA, vcB, ↓vcD, vcE, ↓reduceIte, Nat.reduceEqDiff, Nat.reduceAdd, Nat.reduceMul, Nat.reduceLeDiff, Int.reduceLE, Int.reduceLT, Int.reduceEq, Int.reduceToNat, Int.reduceAdd, Int.reduceSub, Int.reduceMul, Int.reduceNeg, reduceCtorEq, Option.bind_some, Option.map_some, List.length_cons, List.length_nil, vcM, List.getElem?_toArray, List.getElem?_cons_zero, List.getElem?_cons_succ, hcv, c1])
        (refine W_at c48_ok ?_; refine ⟨_, rfl, ?_⟩; simp (disch := first | omega | assumption | rfl | (simp only [vcS] <;> omega) | fail) only [↓ptV_l, ↓vcA, vcB, ↓vcD, vcE, ↓reduceIte, Nat.reduceEqDiff, Nat.reduceAdd, Nat.reduceMul, Nat.reduceLeDiff, Int.reduceLE, Int.reduceLT, Int.reduceEq, Int.reduceToNat, Int.reduceAdd, Int.reduceSub, Int.reduceMul, Int.reduceNeg, reduceCtorEq, Option.bind_some, Option.map_some, List.length_cons, List.length_nil, vcM, List.getElem?_toArray, List.getElem?_cons_zero, List.getElem?_cons_succ])
        (refine W_at c48_ok ?_; refine ⟨_, rfl, ?_⟩; simp (disch := first | omega | assumption | rfl | (simp only [vcS] <;> omega) | fail) only [↓ptV_l, ↓vcA, vcB, ↓vcD, vcE, ↓reduceIte, Nat.reduceEqDiff, Nat.reduceAdd, Nat.reduceMul, Nat.reduceLeDiff, Int.reduceLE, Int.reduceLT, Int.reduceEq, Int.reduceToNat, Int.reduceAdd, Int.reduceSub, Int.reduceMul, Int.reduceNeg, reduceCtorEq, Option.bind_some, Option.map_some, List.length_cons, List.length_nil, vcM, List.getElem?_toArray, List.getElem?_cons_zero, List.getElem?_cons_succ, h7, rdO3, hcv])
        refine callV_ret (iRaw_ok w3 x bs a' 0 n (hx.ext hW3) hab.2 hl (by omega)) ?_
        rintro u w4 ⟨hE4, val2, a2, e2, rfl, hab2, g1, g2, g3⟩
        clear g1
        simp (disch := first | omega | assumption | rfl | (simp only [vcS] <;> omega) | fail) only [↓ptV_l, ↓vcA, vcB, ↓vcD, vcE, ↓reduceIte, Nat.reduceEqDiff, Nat.reduceAdd, Nat.reduceMul, Nat.reduceLeDiff, Int.reduceLE, Int.reduceLT, Int.reduceEq, Int.reduceToNat, Int.reduceAdd, Int.reduceSub, Int.reduceMul, Int.reduceNeg, reduceCtorEq, Option.bind_some, Option.map_some, List.length_cons, List.length_nil, vcM, List.getElem?_toArray, List.getElem?_cons_zero, List.getElem?_cons_succ, hz1, hx1]
        have h9 : ((w4.alloc (Obj.cells #[.slice none 0 0, .int .i64 0, .int .i64 0] 49)).putN w4.heap.size 0 #[x, .int .i64 a2, .int .i64 e2]).heap[w4.heap.size]? = some (.cells #[x, .int .i64 a2, .int .i64 e2] 49 (0, 0)) := heap_local w4 rfl
        have hE5 : Ext w4 ((w4.alloc (Obj.cells #[.slice none 0 0, .int .i64 0, .int .i64 0] 49)).putN w4.heap.size 0 #[x, .int .i64 a2, .int .i64 e2]) := by (repeat' first | exact Keep.refl _ _ | assumption | refine Keep.drew ?_ | refine Keep.alloc ?_ _ | refine Keep.putN ?_ _ ?_ | refine Keep.setCell ?_ _ ?_ | refine Keep.setO ?_ _ ?_ | exact fun _ => Or.inl rfl | exact fun _ => Or.inr rfl | exact fun _ => rfl | (intro hh; exfalso; ((try simp only [vcS] at hh) <;> omega)))
        have h1c := hE5.at (hE4.at h1b fun h => h) fun h => h
        have h3c := hE5.at (hE4.at h3b fun h => h) fun h => h
        generalize World.putN _ _ _ _ = w5 at h9 hE5 h1c h3c ⊢
        generalize w4.heap.size = p9 at h9 ⊢
        have hW5 : Ext w w5 := hW3.ext (hE4.ext hE5)
        by_cases c2 : n.toNat ≤ (bs.drop a').length
        · have hraw : rawR n (bs.drop a') = .ok ((bs.drop a').take n.toNat, (bs.drop a').drop n.toNat) := by rw [rawR, if_pos c2]
          obtain ⟨k1, k2, k3⟩ := g2 rfl _ _ hraw
          subst k3
          clear g2 g3
          (refine W_at c48_ok ?_; refine ⟨_, rfl, ?_⟩; simp (disch := first | omega | assumption | rfl | (simp only [vcS] <;> omega) | fail) only [↓ptV_l, ↓vcA, vcB, ↓vcD, vcE, ↓reduceIte, Nat.reduceEqDiff, Nat.reduceAdd, Nat.reduceMul, Nat.reduceLeDiff, Int.reduceLE, Int.reduceLT, Int.reduceEq, Int.reduceToNat, Int.reduceAdd, Int.reduceSub, Int.reduceMul, Int.reduceNeg, reduceCtorEq, Option.bind_some, Option.map_some, List.length_cons, List.length_nil, vcM, List.getElem?_toArray, List.getElem?_cons_zero, List.getElem?_cons_succ, h9])
          (refine W_at c48_ok ?_; refine ⟨_, rfl, ?_⟩; simp (disch := first | omega | assumption | rfl | (simp only [vcS] <;> omega) | fail) only [↓ptV_l, ↓vcA, vcB, ↓vcD, vcE, ↓reduceIte, Nat.reduceEqDiff, Nat.reduceAdd, Nat.reduceMul, Nat.reduceLeDiff, Int.reduceLE, Int.reduceLT, Int.reduceEq, Int.reduceToNat, Int.reduceAdd, Int.reduceSub, Int.reduceMul, Int.reduceNeg, reduceCtorEq, Option.bind_some, Option.map_some, List.length_cons, List.length_nil, vcM, List.getElem?_toArray, List.getElem?_cons_zero, List.getElem?_cons_succ])
          have v1 : val2.oneCell' = true := k1.1.rd.one
          (refine W_at c48_ok ?_; refine ⟨_, rfl, ?_⟩; simp (disch := first | omega | assumption | rfl | (simp only [vcS] <;> omega) | fail) only [↓ptV_l, ↓vcA, vcB, ↓vcD, vcE, ↓reduceIte, Nat.reduceEqDiff, Nat.reduceAdd, Nat.reduceMul, Nat.reduceLeDiff, Int.reduceLE, Int.reduceLT, Int.reduceEq, Int.reduceToNat, Int.reduceAdd, Int.reduceSub, Int.reduceMul, Int.reduceNeg, reduceCtorEq, Option.bind_some, Option.map_some, List.length_cons, List.length_nil, vcM, List.getElem?_toArray, List.getElem?_cons_zero, List.getElem?_cons_succ, h9, h3c, rdO3, hx1])
          (refine W_at c48_ok ?_; refine ⟨_, rfl, ?_⟩; simp (disch := first | omega | assumption | rfl | (simp only [vcS] <;> omega) | fail) only [↓ptV_l, ↓vcA, vcB, ↓vcD, vcE, ↓reduceIte, Nat.reduceEqDiff, Nat.reduceAdd, Nat.reduceMul, Nat.reduceLeDiff, Int.reduceLE, Int.reduceLT, Int.reduceEq, Int.reduceToNat, Int.reduceAdd, Int.reduceSub, Int.reduceMul, Int.reduceNeg, reduceCtorEq, Option.bind_some, Option.map_some, List.length_cons, List.length_nil, vcM, List.getElem?_toArray, List.getElem?_cons_zero, List.getElem?_cons_succ, h3c, hput, Ret_returned])
          have hk3 : Keep (fun i => i = p3) w4 (w5.drew.putN p3 0 #[x, .int .i64 a2, .int .i64 0]) := ((hE5.mono fun _ h => h.elim).drew).putN _ fun _ => rfl
          have hsz := hE2.size
          have hsz3 := hE3.size
          refine ⟨(hW5.drew).putN _ (by omega), _, a2, 0, rfl, by omega, fun h => absurd rfl h, fun _ y rest h => ?_, fun _ k' h => ?_⟩
          · rw [hby, hraw] at h; cases h
            exact ⟨⟨k1.1.keep hk3 fun g hg => by have := k1.2 g hg; omega, fun g hg => by have := k1.2 g hg; omega⟩, k2, rfl⟩
          · rw [hby, hraw] at h; cases h
        · have hraw : rawR n (bs.drop a') = .error 4 := by rw [rawR, if_neg c2]
          obtain ⟨k1, k2, k3⟩ := g3 rfl _ hraw
          subst k3
          clear g2 g3
          (refine W_at c48_ok ?_; refine ⟨_, rfl, ?_⟩; simp (disch := first | omega | assumption | rfl | (simp only [vcS] <;> omega) | fail) only [↓ptV_l, ↓vcA, vcB, ↓vcD, vcE, ↓reduceIte, Nat.reduceEqDiff, Nat.reduceAdd, Nat.reduceMul, Nat.reduceLeDiff, Int.reduceLE, Int.reduceLT, Int.reduceEq, Int.reduceToNat, Int.reduceAdd, Int.reduceSub, Int.reduceMul, Int.reduceNeg, reduceCtorEq, Option.bind_some, Option.map_some, List.length_cons, List.length_nil, vcM, List.getElem?_toArray, List.getElem?_cons_zero, List.getElem?_cons_succ, h9])
          (refine W_at c48_ok ?_; refine ⟨_, rfl, ?_⟩; simp (disch := first | omega | assumption | rfl | (simp only [vcS] <;> omega) | fail) only [↓ptV_l, ↓vcA, vcB, ↓vcD, vcE, ↓reduceIte, Nat.reduceEqDiff, Nat.reduceAdd, Nat.reduceMul, Nat.reduceLeDiff, Int.reduceLE, Int.reduceLT, Int.reduceEq, Int.reduceToNat, Int.reduceAdd, Int.reduceSub, Int.reduceMul, Int.reduceNeg, reduceCtorEq, Option.bind_some, Option.map_some, List.length_cons, List.length_nil, vcM, List.getElem?_toArray, List.getElem?_cons_zero, List.getElem?_cons_succ])
          (refine W_at c48_ok ?_; refine ⟨_, rfl, ?_⟩; simp (disch := first | omega | assumption | rfl | (simp only [vcS] <;> omega) | fail) only [↓ptV_l, ↓vcA, vcB, ↓vcD, vcE, ↓reduceIte, Nat.reduceEqDiff, Nat.reduceAdd, Nat.reduceMul, Nat.reduceLeDiff, Int.reduceLE, Int.reduceLT, Int.reduceEq, Int.reduceToNat, Int.reduceAdd, Int.reduceSub, Int.reduceMul, Int.reduceNeg, reduceCtorEq, Option.bind_some, Option.map_some, List.length_cons, List.length_nil, vcM, List.getElem?_toArray, List.getElem?_cons_zero, List.getElem?_cons_succ, h9, h1c])
          refine ⟨wr1_of h1c (by simp), ?_⟩
          have q1 : (w5.setCell ⟨p1, 2, none⟩ (.int .i64 4)).heap[p1]? = some (.cells #[x, .int .i64 a, .int .i64 4] 49 (0, 0)) := by rw [heap_setCell_eq h1c]; rfl
          have q3 : (w5.setCell ⟨p1, 2, none⟩ (.int .i64 4)).heap[p3]? = some (.cells #[.slice none 0 0, .int .i64 0, .int .i64 0] 49 (0, 0)) := by rw [heap_setCell_ne _ _ _ _ _ _ (Ne.symm hps)]; exact h3c
          have qE : Ext w (w5.setCell ⟨p1, 2, none⟩ (.int .i64 4)) := hW5.setCell _ (by omega)
          generalize World.setCell _ _ _ = wy at q1 q3 qE ⊢
          (refine W_at c48_ok ?_; refine ⟨_, rfl, ?_⟩; simp (disch := first | omega | assumption | rfl | (simp only [vcS] <;> omega) | fail) only [↓ptV_l, ↓vcA, vcB, ↓vcD, vcE, ↓reduceIte, Nat.reduceEqDiff, Nat.reduceAdd, Nat.reduceMul, Nat.reduceLeDiff, Int.reduceLE, Int.reduceLT, Int.reduceEq, Int.reduceToNat, Int.reduceAdd, Int.reduceSub, Int.reduceMul, Int.reduceNeg, reduceCtorEq, Option.bind_some, Option.map_some, List.length_cons, List.length_nil, vcM, List.getElem?_toArray, List.getElem?_cons_zero, List.getElem?_cons_succ, q1, q3, rdO3, hx1])
          (refine W_at c48_ok ?_; refine ⟨_, rfl, ?_⟩; simp (disch := first | omega | assumption | rfl | (simp only [vcS] <;> omega) | fail) only [↓ptV_l, ↓vcA, vcB, ↓vcD, vcE, ↓reduceIte, Nat.reduceEqDiff, Nat.reduceAdd, Nat.reduceMul, Nat.reduceLeDiff, Int.reduceLE, Int.reduceLT, Int.reduceEq, Int.reduceToNat, Int.reduceAdd, Int.reduceSub, Int.reduceMul, Int.reduceNeg, reduceCtorEq, Option.bind_some, Option.map_some, List.length_cons, List.length_nil, vcM, List.getElem?_toArray, List.getElem?_cons_zero, List.getElem?_cons_succ, q3, hput, Ret_returned])
          exact (bad 4 wy (by omega) rfl (by rw [hby, hraw]) qE q1 q3).2
  · obtain ⟨i1, i2, i3⟩ := g1 he
    exact early (by rw [i3]; exact he) i2 ⟨fun _ => i3, fun h => absurd h he⟩
end Go.Proofs
