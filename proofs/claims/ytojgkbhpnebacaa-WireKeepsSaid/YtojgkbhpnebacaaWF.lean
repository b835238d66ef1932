/- The document's reader: numbers, sizes, lists. -/
import Derived.Test.YtojgkbhpnebacaaWE
set_option linter.unusedSimpArgs false
set_option linter.unusedVariables false
set_option linter.constructorNameAsVariable false
namespace Go.Proofs
open Go.Vc
set_option maxRecDepth 10000

set_option maxHeartbeats 800000 in
theorem iNum_ok (w : World) (x : Value) (bs : List Int) (a : Nat) (e : Int) (n : Nat) (hx : Rd w x bs) (hb : byt bs) (ha : a ≤ bs.length) (hl : bs.length ≤ 1000000000) (hn : n ≤ 8) :
    Calls Try.prog 45 #[.agg #[x, .int .i64 a, .int .i64 e], .int .i64 n] w (Ret fun u w' => ITo w w' x bs a e (numR n (bs.drop a)) (fun y v _ => v = .int .u64 y) (.int .u64 0) u) := by
  refine calls_of_cfg c45_ok (Nat.le_of_ble_eq_true rfl) ?_
  simp only [argE_nil, argE_cons, Nat.reduceAdd, Nat.zero_add]
  have hx1 := hx.one
  have hz1 : zc [(1, Value.slice none 0 0), (2, .int .i64 0)] = #[.slice none 0 0, .int .i64 0, .int .i64 0] := rfl
  (refine W_at c45_ok ?_; refine ⟨_, rfl, ?_⟩; simp (disch := first | omega | assumption | rfl | (simp only [vcS] <;> omega) | fail) only [↓ptV_l, ↓vcA, vcB, ↓vcD, vcE, ↓reduceIte, Nat.reduceEqDiff, Nat.reduceAdd, Nat.reduceMul, Nat.reduceLeDiff, Int.reduceLE, Int.reduceLT, Int.reduceEq, Int.reduceToNat, Int.reduceAdd, Int.reduceSub, Int.reduceMul, Int.reduceNeg, reduceCtorEq, Option.bind_some, Option.map_some, List.length_cons, List.length_nil, vcM, List.getElem?_toArray, List.getElem?_cons_zero, List.getElem?_cons_succ, hz1])
  have h2 : ((w.alloc (Obj.cells #[x, Value.int IntKind.i64 ↑a, Value.int IntKind.i64 e] 49)).alloc (Obj.cells #[Value.slice none 0 0, Value.int IntKind.i64 0, Value.int IntKind.i64 0] 49)).heap[w.heap.size]? = some (.cells #[x, .int .i64 a, .int .i64 e] 49 (0, 0)) := by simp (disch := first | omega | assumption | rfl | (simp only [vcS] <;> omega) | fail) only [↓ptV_l, ↓vcA, vcB, ↓vcD, vcE, ↓reduceIte, Nat.reduceEqDiff, Nat.reduceAdd, Nat.reduceMul, Nat.reduceLeDiff, Int.reduceLE, Int.reduceLT, Int.reduceEq, Int.reduceToNat, Int.reduceAdd, Int.reduceSub, Int.reduceMul, Int.reduceNeg, reduceCtorEq, Option.bind_some, Option.map_some, List.length_cons, List.length_nil, vcM, List.getElem?_toArray, List.getElem?_cons_zero, List.getElem?_cons_succ]
  have h5 : ((w.alloc (Obj.cells #[x, Value.int IntKind.i64 ↑a, Value.int IntKind.i64 e] 49)).alloc (Obj.cells #[Value.slice none 0 0, Value.int IntKind.i64 0, Value.int IntKind.i64 0] 49)).heap[w.heap.size + 1]? = some (.cells #[.slice none 0 0, .int .i64 0, .int .i64 0] 49 (0, 0)) := by simp (disch := first | omega | assumption | rfl | (simp only [vcS] <;> omega) | fail) only [↓ptV_l, ↓vcA, vcB, ↓vcD, vcE, ↓reduceIte, Nat.reduceEqDiff, Nat.reduceAdd, Nat.reduceMul, Nat.reduceLeDiff, Int.reduceLE, Int.reduceLT, Int.reduceEq, Int.reduceToNat, Int.reduceAdd, Int.reduceSub, Int.reduceMul, Int.reduceNeg, reduceCtorEq, Option.bind_some, Option.map_some, List.length_cons, List.length_nil, vcM, List.getElem?_toArray, List.getElem?_cons_zero, List.getElem?_cons_succ]
  have hE : Ext w ((w.alloc (Obj.cells #[x, Value.int IntKind.i64 ↑a, Value.int IntKind.i64 e] 49)).alloc (Obj.cells #[Value.slice none 0 0, Value.int IntKind.i64 0, Value.int IntKind.i64 0] 49)) := by (repeat' first | exact Keep.refl _ _ | assumption | refine Keep.drew ?_ | refine Keep.alloc ?_ _ | refine Keep.putN ?_ _ ?_ | refine Keep.setCell ?_ _ ?_ | refine Keep.setO ?_ _ ?_ | exact fun _ => Or.inl rfl | exact fun _ => Or.inr rfl | exact fun _ => rfl | (intro hh; exfalso; ((try simp only [vcS] at hh) <;> omega)))
  have hps : w.heap.size ≠ w.heap.size + 1 := by omega
  generalize hp2 : w.heap.size = p2 at h2 h5 hps ⊢
  generalize hp5 : p2 + 1 = p5 at h5 hps ⊢
  generalize World.alloc _ _ = w1 at h2 h5 hE ⊢
  have hput : ∀ (wz : World) (c0 c1 c2 : Value), wz.heap[p5]? = some (.cells #[.slice none 0 0, .int .i64 0, .int .i64 0] 49 (0, 0)) → rdO (wz.putN p5 0 #[c0, c1, c2]).heap[p5]? 0 3 = some #[c0, c1, c2] := fun wz c0 c1 c2 h => rdO_put (w := wz) h rfl rfl
  have hlt5 : w.heap.size ≤ p5 := by omega
  (refine W_at c45_ok ?_; refine ⟨_, rfl, ?_⟩; simp (disch := first | omega | assumption | rfl | (simp only [vcS] <;> omega) | fail) only [↓ptV_l, ↓vcA, vcB, ↓vcD, vcE, ↓reduceIte, Nat.reduceEqDiff, Nat.reduceAdd, Nat.reduceMul, Nat.reduceLeDiff, Int.reduceLE, Int.reduceLT, Int.reduceEq, Int.reduceToNat, Int.reduceAdd, Int.reduceSub, Int.reduceMul, Int.reduceNeg, reduceCtorEq, Option.bind_some, Option.map_some, List.length_cons, List.length_nil, vcM, List.getElem?_toArray, List.getElem?_cons_zero, List.getElem?_cons_succ, h2, rdO3])
  refine callV_ret (iRaw_ok w1 x bs a e n (hx.ext hE) ha hl (by omega)) ?_
  rintro u w2 ⟨hE2, val, a', e', rfl, hab, g1, g2, g3⟩
  simp (disch := first | omega | assumption | rfl | (simp only [vcS] <;> omega) | fail) only [↓ptV_l, ↓vcA, vcB, ↓vcD, vcE, ↓reduceIte, Nat.reduceEqDiff, Nat.reduceAdd, Nat.reduceMul, Nat.reduceLeDiff, Int.reduceLE, Int.reduceLT, Int.reduceEq, Int.reduceToNat, Int.reduceAdd, Int.reduceSub, Int.reduceMul, Int.reduceNeg, reduceCtorEq, Option.bind_some, Option.map_some, List.length_cons, List.length_nil, vcM, List.getElem?_toArray, List.getElem?_cons_zero, List.getElem?_cons_succ, hz1, hx1]
  have h7 : ((w2.alloc (Obj.cells #[.slice none 0 0, .int .i64 0, .int .i64 0] 49)).putN w2.heap.size 0 #[x, .int .i64 a', .int .i64 e']).heap[w2.heap.size]? = some (.cells #[x, .int .i64 a', .int .i64 e'] 49 (0, 0)) := heap_local w2 rfl
  have hE3 : Ext w2 ((w2.alloc (Obj.cells #[.slice none 0 0, .int .i64 0, .int .i64 0] 49)).putN w2.heap.size 0 #[x, .int .i64 a', .int .i64 e']) := by (repeat' first | exact Keep.refl _ _ | assumption | refine Keep.drew ?_ | refine Keep.alloc ?_ _ | refine Keep.putN ?_ _ ?_ | refine Keep.setCell ?_ _ ?_ | refine Keep.setO ?_ _ ?_ | exact fun _ => Or.inl rfl | exact fun _ => Or.inr rfl | exact fun _ => rfl | (intro hh; exfalso; ((try simp only [vcS] at hh) <;> omega)))
  have h5b := hE2.at h5 fun h => h
  have h5c := hE3.at h5b fun h => h
  generalize World.putN _ _ _ _ = w3 at h7 hE3 h5c ⊢
  generalize w2.heap.size = p7 at h7 ⊢
  have hval : ∃ l : List Int, Rd w2 val l ∧ byt l ∧ l.length ≤ 8 ∧ (e ≠ 0 → l = []) ∧ (e = 0 → (n ≤ (bs.drop a).length ∧ l = (bs.drop a).take n ∧ bs.drop a' = (bs.drop a).drop n ∧ e' = 0) ∨ (¬ n ≤ (bs.drop a).length ∧ l = [] ∧ a' = a ∧ e' = 4)) := by
    by_cases he : e = 0
    · by_cases hle : n ≤ (bs.drop a).length
      · obtain ⟨g4, g5, g6⟩ := g2 he ((bs.drop a).take n) ((bs.drop a).drop n) (by rw [rawR, Int.toNat_natCast, if_pos hle])
        exact ⟨_, g4.1.rd, byt_take (fun z hz => hb z (List.mem_of_mem_drop hz)) n, by rw [List.length_take]; omega, fun h => absurd he h, fun _ => .inl ⟨hle, rfl, g5, g6⟩⟩
      · obtain ⟨rfl, g5, g6⟩ := g3 he 4 (by rw [rawR, Int.toNat_natCast, if_neg hle])
        exact ⟨[], Rd.nil _, (fun z hz => by cases hz), by simp, fun _ => rfl, fun _ => .inr ⟨hle, rfl, g5, g6⟩⟩
    · obtain ⟨rfl, g5, g6⟩ := g1 he
      exact ⟨[], Rd.nil _, (fun z hz => by cases hz), by simp, fun _ => rfl, fun h => absurd h he⟩
  obtain ⟨l, hv, hbl, hl8, hl0, hl1⟩ := hval
  (refine W_at c45_ok ?_; refine ⟨_, rfl, ?_⟩; simp (disch := first | omega | assumption | rfl | (simp only [vcS] <;> omega) | fail) only [↓ptV_l, ↓vcA, vcB, ↓vcD, vcE, ↓reduceIte, Nat.reduceEqDiff, Nat.reduceAdd, Nat.reduceMul, Nat.reduceLeDiff, Int.reduceLE, Int.reduceLT, Int.reduceEq, Int.reduceToNat, Int.reduceAdd, Int.reduceSub, Int.reduceMul, Int.reduceNeg, reduceCtorEq, Option.bind_some, Option.map_some, List.length_cons, List.length_nil, vcM, List.getElem?_toArray, List.getElem?_cons_zero, List.getElem?_cons_succ, h7, h5c, rdO3, hx1])
  refine callV_ret (value_ok w3.drew val l (hv.ext hE3.drew) hbl hl8) ?_
  rintro _ _ ⟨rfl, rfl⟩
  refine ⟨by rw [show w3.drew.heap[p7]? = _ from h7, rdO3]; rfl, by rw [show w3.drew.heap[p5]? = _ from h5c, okO_some]; exact Nat.le_refl 3, ?_⟩
  have hput' := hput w3.drew x (.int .i64 a') (.int .i64 e') h5c
  (refine W_at c45_ok ?_; refine ⟨_, rfl, ?_⟩; simp (disch := first | omega | assumption | rfl | (simp only [vcS] <;> omega) | fail) only [↓ptV_l, ↓vcA, vcB, ↓vcD, vcE, ↓reduceIte, Nat.reduceEqDiff, Nat.reduceAdd, Nat.reduceMul, Nat.reduceLeDiff, Int.reduceLE, Int.reduceLT, Int.reduceEq, Int.reduceToNat, Int.reduceAdd, Int.reduceSub, Int.reduceMul, Int.reduceNeg, reduceCtorEq, Option.bind_some, Option.map_some, List.length_cons, List.length_nil, vcM, List.getElem?_toArray, List.getElem?_cons_zero, List.getElem?_cons_succ, hput', Ret_returned])
  have hEn : Ext w (w3.drew.putN p5 0 #[x, .int .i64 a', .int .i64 e']) := ((hE.ext (hE2.ext hE3)).drew).putN _ (by omega)
  refine ⟨hEn, _, a', e', rfl, hab, fun he => ?_, fun he y rest hr => ?_, fun he k hr => ?_⟩
  · rw [hl0 he]; exact ⟨rfl, (g1 he).2⟩
  · rcases hl1 he with ⟨i1, i2, i3, i4⟩ | ⟨i1, i2, i3, i4⟩
    · rw [numR, if_pos i1] at hr
      cases hr
      exact ⟨by rw [i2], i3, i4⟩
    · rw [numR, if_neg i1] at hr; cases hr
  · rcases hl1 he with ⟨i1, i2, i3, i4⟩ | ⟨i1, i2, i3, i4⟩
    · rw [numR, if_pos i1] at hr; cases hr
    · rw [numR, if_neg i1] at hr; cases hr
      exact ⟨by rw [i2]; rfl, i3, i4⟩
end Go.Proofs
