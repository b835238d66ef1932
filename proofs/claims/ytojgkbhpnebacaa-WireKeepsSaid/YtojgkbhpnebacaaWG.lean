/- The document's reader: sizes. -/
import Derived.Test.YtojgkbhpnebacaaWF
set_option linter.unusedSimpArgs false
set_option linter.unusedVariables false
set_option linter.constructorNameAsVariable false
namespace Go.Proofs
open Go.Vc
set_option maxRecDepth 10000

theorem num1 {bs : List Int} {a : Nat} {y : Int} {rest : List Int} (hb : byt bs) (h : numR 1 (bs.drop a) = .ok (y, rest)) : bs.drop a = y :: rest ∧ 0 ≤ y ∧ y ≤ 255 := by
  unfold numR at h
  cases hd : bs.drop a with
  | nil => rw [hd] at h; simp at h
  | cons z t =>
    have hz := hb z (List.mem_of_mem_drop (by rw [hd]; simp))
    rw [hd] at h
    simp [valF] at h
    rw [← h.1, ← h.2]; exact ⟨rfl, hz⟩
theorem num1e {bs : List Int} {a : Nat} {k : Int} (h : numR 1 (bs.drop a) = .error k) : bs.drop a = [] ∧ k = 4 := by
  unfold numR at h
  cases hd : bs.drop a with
  | nil => rw [hd] at h; simp at h; exact ⟨rfl, h.symm⟩
  | cons z t => rw [hd] at h; simp at h

theorem szK_r (f : Int) : 2 ≤ szK f ∧ szK f ≤ 8 := by
  unfold szK
  by_cases h : f = 253
  · rw [if_pos h]; omega
  · rw [if_neg h]
    by_cases h' : f = 254
    · rw [if_pos h']; omega
    · rw [if_neg h']; omega

theorem szR_of {f : Int} {t : List Int} (hf : ¬ f < 253) : szR (f :: t) = if t.length < szK f then .error 4 else if wideF (valF (t.take (szK f))) ≠ szK f then .error 3 else if 33554432 < valF (t.take (szK f)) then .error 2 else .ok (valF (t.take (szK f)), t.drop (szK f)) := by
  rw [szR, if_neg hf]

set_option maxHeartbeats 1600000 in
theorem iCompact_ok (w : World) (x : Value) (bs : List Int) (a : Nat) (e : Int) (hx : Rd w x bs) (hb : byt bs) (ha : a ≤ bs.length) (hl : bs.length ≤ 1000000000) :
    Calls Try.prog 46 #[.agg #[x, .int .i64 a, .int .i64 e]] w (Ret fun u w' => ITo w w' x bs a e (szR (bs.drop a)) (fun y v _ => v = .int .u64 y) (.int .u64 0) u) := by
  refine calls_of_cfg c46_ok (Nat.le_of_ble_eq_true rfl) ?_
  simp only [argE_nil, argE_cons, Nat.reduceAdd, Nat.zero_add]
  have hx1 := hx.one
  have hz1 : zc [(1, Value.slice none 0 0), (2, .int .i64 0)] = #[.slice none 0 0, .int .i64 0, .int .i64 0] := rfl
  (refine W_at c46_ok ?_; refine ⟨_, rfl, ?_⟩; simp (disch := first | omega | assumption | rfl | (simp only [vcS] <;> omega) | fail) only [↓ptV_l, ↓vcA, vcB, ↓vcD, vcE, ↓reduceIte, Nat.reduceEqDiff, Nat.reduceAdd, Nat.reduceMul, Nat.reduceLeDiff, Int.reduceLE, Int.reduceLT, Int.reduceEq, Int.reduceToNat, Int.reduceAdd, Int.reduceSub, Int.reduceMul, Int.reduceNeg, reduceCtorEq, Option.bind_some, Option.map_some, List.length_cons, List.length_nil, vcM, List.getElem?_toArray, List.getElem?_cons_zero, List.getElem?_cons_succ, hz1])
  have h1 : ((w.alloc (Obj.cells #[x, Value.int IntKind.i64 ↑a, Value.int IntKind.i64 e] 49)).alloc (Obj.cells #[Value.slice none 0 0, Value.int IntKind.i64 0, Value.int IntKind.i64 0] 49)).heap[w.heap.size]? = some (.cells #[x, .int .i64 a, .int .i64 e] 49 (0, 0)) := by simp (disch := first | omega | assumption | rfl | (simp only [vcS] <;> omega) | fail) only [↓ptV_l, ↓vcA, vcB, ↓vcD, vcE, ↓reduceIte, Nat.reduceEqDiff, Nat.reduceAdd, Nat.reduceMul, Nat.reduceLeDiff, Int.reduceLE, Int.reduceLT, Int.reduceEq, Int.reduceToNat, Int.reduceAdd, Int.reduceSub, Int.reduceMul, Int.reduceNeg, reduceCtorEq, Option.bind_some, Option.map_some, List.length_cons, List.length_nil, vcM, List.getElem?_toArray, List.getElem?_cons_zero, List.getElem?_cons_succ]
  have h3 : ((w.alloc (Obj.cells #[x, Value.int IntKind.i64 ↑a, Value.int IntKind.i64 e] 49)).alloc (Obj.cells #[Value.slice none 0 0, Value.int IntKind.i64 0, Value.int IntKind.i64 0] 49)).heap[w.heap.size + 1]? = some (.cells #[.slice none 0 0, .int .i64 0, .int .i64 0] 49 (0, 0)) := by simp (disch := first | omega | assumption | rfl | (simp only [vcS] <;> omega) | fail) only [↓ptV_l, ↓vcA, vcB, ↓vcD, vcE, ↓reduceIte, Nat.reduceEqDiff, Nat.reduceAdd, Nat.reduceMul, Nat.reduceLeDiff, Int.reduceLE, Int.reduceLT, Int.reduceEq, Int.reduceToNat, Int.reduceAdd, Int.reduceSub, Int.reduceMul, Int.reduceNeg, reduceCtorEq, Option.bind_some, Option.map_some, List.length_cons, List.length_nil, vcM, List.getElem?_toArray, List.getElem?_cons_zero, List.getElem?_cons_succ]
  have hE : Ext w ((w.alloc (Obj.cells #[x, Value.int IntKind.i64 ↑a, Value.int IntKind.i64 e] 49)).alloc (Obj.cells #[Value.slice none 0 0, Value.int IntKind.i64 0, Value.int IntKind.i64 0] 49)) := by (repeat' first | exact Keep.refl _ _ | assumption | refine Keep.drew ?_ | refine Keep.alloc ?_ _ | refine Keep.putN ?_ _ ?_ | refine Keep.setCell ?_ _ ?_ | refine Keep.setO ?_ _ ?_ | exact fun _ => Or.inl rfl | exact fun _ => Or.inr rfl | exact fun _ => rfl | (intro hh; exfalso; ((try simp only [vcS] at hh) <;> omega)))
  have hps : w.heap.size ≠ w.heap.size + 1 := by omega
  have hpo : w.heap.size ≤ w.heap.size := by omega
  have hpo3 : w.heap.size ≤ w.heap.size + 1 := by omega
  generalize hp1 : w.heap.size = p1 at h1 h3 hps hpo hpo3 ⊢
  generalize hp3 : p1 + 1 = p3 at h3 hps hpo3 ⊢
  generalize World.alloc _ _ = w1 at h1 h3 hE ⊢
  have hput : ∀ (wz : World) (c0 c1 c2 : Value), wz.heap[p3]? = some (.cells #[.slice none 0 0, .int .i64 0, .int .i64 0] 49 (0, 0)) → rdO (wz.drew.putN p3 0 #[c0, c1, c2]).heap[p3]? 0 3 = some #[c0, c1, c2] := fun wz c0 c1 c2 h => rdO_put (w := wz.drew) h rfl rfl
  (refine W_at c46_ok ?_; refine ⟨_, rfl, ?_⟩; simp (disch := first | omega | assumption | rfl | (simp only [vcS] <;> omega) | fail) only [↓ptV_l, ↓vcA, vcB, ↓vcD, vcE, ↓reduceIte, Nat.reduceEqDiff, Nat.reduceAdd, Nat.reduceMul, Nat.reduceLeDiff, Int.reduceLE, Int.reduceLT, Int.reduceEq, Int.reduceToNat, Int.reduceAdd, Int.reduceSub, Int.reduceMul, Int.reduceNeg, reduceCtorEq, Option.bind_some, Option.map_some, List.length_cons, List.length_nil, vcM, List.getElem?_toArray, List.getElem?_cons_zero, List.getElem?_cons_succ, h1, rdO3])
  refine callV_ret (iNum_ok w1 x bs a e 1 (hx.ext hE) hb ha hl (by omega)) ?_
  rintro u w2 ⟨hE2, val, a', e', rfl, hab, g1, g2, g3⟩
  simp (disch := first | omega | assumption | rfl | (simp only [vcS] <;> omega) | fail) only [↓ptV_l, ↓vcA, vcB, ↓vcD, vcE, ↓reduceIte, Nat.reduceEqDiff, Nat.reduceAdd, Nat.reduceMul, Nat.reduceLeDiff, Int.reduceLE, Int.reduceLT, Int.reduceEq, Int.reduceToNat, Int.reduceAdd, Int.reduceSub, Int.reduceMul, Int.reduceNeg, reduceCtorEq, Option.bind_some, Option.map_some, List.length_cons, List.length_nil, vcM, List.getElem?_toArray, List.getElem?_cons_zero, List.getElem?_cons_succ, hz1, hx1]
  have h5 : ((w2.alloc (Obj.cells #[.slice none 0 0, .int .i64 0, .int .i64 0] 49)).putN w2.heap.size 0 #[x, .int .i64 a', .int .i64 e']).heap[w2.heap.size]? = some (.cells #[x, .int .i64 a', .int .i64 e'] 49 (0, 0)) := heap_local w2 rfl
  have hE3 : Ext w2 ((w2.alloc (Obj.cells #[.slice none 0 0, .int .i64 0, .int .i64 0] 49)).putN w2.heap.size 0 #[x, .int .i64 a', .int .i64 e']) := by (repeat' first | exact Keep.refl _ _ | assumption | refine Keep.drew ?_ | refine Keep.alloc ?_ _ | refine Keep.putN ?_ _ ?_ | refine Keep.setCell ?_ _ ?_ | refine Keep.setO ?_ _ ?_ | exact fun _ => Or.inl rfl | exact fun _ => Or.inr rfl | exact fun _ => rfl | (intro hh; exfalso; ((try simp only [vcS] at hh) <;> omega)))
  have h1b := hE3.at (hE2.at h1 fun h => h) fun h => h
  have h3b := hE3.at (hE2.at h3 fun h => h) fun h => h
  generalize World.putN _ _ _ _ = w3 at h5 hE3 h1b h3b ⊢
  generalize w2.heap.size = p5 at h5 ⊢
  have hW3 : Ext w w3 := hE.ext (hE2.ext hE3)
  have hval : ∃ f : Int, val = .int .u64 f ∧ (e ≠ 0 → f = 0 ∧ a' = a ∧ e' = e) ∧ (e = 0 → (bs.drop a = [] ∧ f = 0 ∧ a' = a ∧ e' = 4) ∨ ∃ t, bs.drop a = f :: t ∧ bs.drop a' = t ∧ e' = 0 ∧ 0 ≤ f ∧ f ≤ 255) := by
    by_cases he : e = 0
    · cases hr : numR 1 (bs.drop a) with
      | error k =>
        obtain ⟨i1, i2, i3⟩ := g3 he k hr
        obtain ⟨j1, j2⟩ := num1e hr
        exact ⟨0, i1, fun h => absurd he h, fun _ => .inl ⟨j1, rfl, i2, i3.trans j2⟩⟩
      | ok p =>
        obtain ⟨i1, i2, i3⟩ := g2 he p.1 p.2 hr
        obtain ⟨j1, j2⟩ := num1 hb hr
        exact ⟨p.1, i1, fun h => absurd he h, fun _ => .inr ⟨p.2, j1, i2, i3, j2⟩⟩
    · obtain ⟨i1, i2, i3⟩ := g1 he
      exact ⟨0, i1, fun _ => ⟨rfl, i2, i3⟩, fun h => absurd h he⟩
  obtain ⟨f, rfl, k1, k2⟩ := hval
  clear g1 g2 g3
  have early : (e' ≠ 0 ∨ f < 253) → W Try.prog (Ret fun u w' => ITo w w' x bs a e (szR (bs.drop a)) (fun y v _ => v = .int .u64 y) (.int .u64 0) u) 46 25 [(1, .pointer (some ⟨p1, 0, none⟩)), (3, .pointer (some ⟨p3, 0, none⟩)), (4, .int .u64 f), (5, .pointer (some ⟨p5, 0, none⟩)), (21, .bool true)] w3 := by
    intro hq
    (refine W_at c46_ok ?_; refine ⟨_, rfl, ?_⟩; simp (disch := first | omega | assumption | rfl | (simp only [vcS] <;> omega) | fail) only [↓ptV_l, ↓vcA, vcB, ↓vcD, vcE, ↓reduceIte, Nat.reduceEqDiff, Nat.reduceAdd, Nat.reduceMul, Nat.reduceLeDiff, Int.reduceLE, Int.reduceLT, Int.reduceEq, Int.reduceToNat, Int.reduceAdd, Int.reduceSub, Int.reduceMul, Int.reduceNeg, reduceCtorEq, Option.bind_some, Option.map_some, List.length_cons, List.length_nil, vcM, List.getElem?_toArray, List.getElem?_cons_zero, List.getElem?_cons_succ])
    (refine W_at c46_ok ?_; refine ⟨_, rfl, ?_⟩; simp (disch := first | omega | assumption | rfl | (simp only [vcS] <;> omega) | fail) only [↓ptV_l, ↓vcA, vcB, ↓vcD, vcE, ↓reduceIte, Nat.reduceEqDiff, Nat.reduceAdd, Nat.reduceMul, Nat.reduceLeDiff, Int.reduceLE, Int.reduceLT, Int.reduceEq, Int.reduceToNat, Int.reduceAdd, Int.reduceSub, Int.reduceMul, Int.reduceNeg, reduceCtorEq, Option.bind_some, Option.map_some, List.length_cons, List.length_nil, vcM, List.getElem?_toArray, List.getElem?_cons_zero, List.getElem?_cons_succ, h5, h3b, rdO3, hx1])
    (refine W_at c46_ok ?_; refine ⟨_, rfl, ?_⟩; simp (disch := first | omega | assumption | rfl | (simp only [vcS] <;> omega) | fail) only [↓ptV_l, ↓vcA, vcB, ↓vcD, vcE, ↓reduceIte, Nat.reduceEqDiff, Nat.reduceAdd, Nat.reduceMul, Nat.reduceLeDiff, Int.reduceLE, Int.reduceLT, Int.reduceEq, Int.reduceToNat, Int.reduceAdd, Int.reduceSub, Int.reduceMul, Int.reduceNeg, reduceCtorEq, Option.bind_some, Option.map_some, List.length_cons, List.length_nil, vcM, List.getElem?_toArray, List.getElem?_cons_zero, List.getElem?_cons_succ, h3b, hput, Ret_returned])
    have hEn : Ext w (w3.drew.putN p3 0 #[x, .int .i64 a', .int .i64 e']) := (hW3.drew).putN _ (by omega)
    refine ⟨hEn, _, a', e', rfl, hab, fun he => ?_, fun he y rest hr => ?_, fun he k hr => ?_⟩
    · obtain ⟨i1, i2, i3⟩ := k1 he; rw [i1]; exact ⟨rfl, i2, i3⟩
    · rcases k2 he with ⟨i1, i2, i3, i4⟩ | ⟨t, i1, i2, i3, i4⟩
      · rw [i1] at hr; cases hr
      · have hf : f < 253 := by omega
        rw [i1, szR, if_pos hf] at hr
        cases hr
        exact ⟨rfl, i2, i3⟩
    · rcases k2 he with ⟨i1, i2, i3, i4⟩ | ⟨t, i1, i2, i3, i4⟩
      · rw [i1] at hr; cases hr; rw [i2]; exact ⟨rfl, i3, i4⟩
      · have hf : f < 253 := by omega
        rw [i1, szR, if_pos hf] at hr
        cases hr
  by_cases he' : e' = 0
  · by_cases hf : f < 253
    · (refine W_at c46_ok ?_; refine ⟨_, rfl, ?_⟩; simp (disch := first | omega | assumption | rfl | (simp only [vcS] <;> omega) | fail) only [↓ptV_l, ↓vcA, vcB, ↓vcD, vcE, ↓reduceIte, Nat.reduceEqDiff, Nat.reduceAdd, Nat.reduceMul, Nat.reduceLeDiff, Int.reduceLE, Int.reduceLT, Int.reduceEq, Int.reduceToNat, Int.reduceAdd, Int.reduceSub, Int.reduceMul, Int.reduceNeg, reduceCtorEq, Option.bind_some, Option.map_some, List.length_cons, List.length_nil, vcM, List.getElem?_toArray, List.getElem?_cons_zero, List.getElem?_cons_succ, h5, he', hf])
      exact early (.inr hf)
    · (refine W_at c46_ok ?_; refine ⟨_, rfl, ?_⟩; simp (disch := first | omega | assumption | rfl | (simp only [vcS] <;> omega) | fail) only [↓ptV_l, ↓vcA, vcB, ↓vcD, vcE, ↓reduceIte, Nat.reduceEqDiff, Nat.reduceAdd, Nat.reduceMul, Nat.reduceLeDiff, Int.reduceLE, Int.reduceLT, Int.reduceEq, Int.reduceToNat, Int.reduceAdd, Int.reduceSub, Int.reduceMul, Int.reduceNeg, reduceCtorEq, Option.bind_some, Option.map_some, List.length_cons, List.length_nil, vcM, List.getElem?_toArray, List.getElem?_cons_zero, List.getElem?_cons_succ, h5, he', hf])
      clear early
      have he : e = 0 := by
        by_cases h : e = 0
        · exact h
        · have := k1 h; omega
      have hk2 := k2 he
      rcases hk2 with ⟨i1, i2, i3, i4⟩ | ⟨t, i1, i2, i3, i4⟩
      · omega
      subst he he'
      clear k1 k2
      (refine W_at c46_ok ?_; refine ⟨_, rfl, ?_⟩; simp (disch := first | omega | assumption | rfl | (simp only [vcS] <;> omega) | fail) only [↓ptV_l, ↓vcA, vcB, ↓vcD, vcE, ↓reduceIte, Nat.reduceEqDiff, Nat.reduceAdd, Nat.reduceMul, Nat.reduceLeDiff, Int.reduceLE, Int.reduceLT, Int.reduceEq, Int.reduceToNat, Int.reduceAdd, Int.reduceSub, Int.reduceMul, Int.reduceNeg, reduceCtorEq, Option.bind_some, Option.map_some, List.length_cons, List.length_nil, vcM, List.getElem?_toArray, List.getElem?_cons_zero, List.getElem?_cons_succ])
      have key : ∀ s, W Try.prog (Ret fun u w' => ITo w w' x bs a 0 (szR (bs.drop a)) (fun y v _ => v = .int .u64 y) (.int .u64 0) u) 46 15 ((1, .pointer (some ⟨p1, 0, none⟩)) :: (3, .pointer (some ⟨p3, 0, none⟩)) :: (5, .pointer (some ⟨p5, 0, none⟩)) :: (6, .int .i64 (szK f : Nat)) :: s) w3 := by
        intro s
        have hk8 := (szK_r f).2
        have hk2 := (szK_r f).1
        generalize hkk : szK f = kk at hk8 hk2 ⊢
        (refine W_at c46_ok ?_; refine ⟨_, rfl, ?_⟩; simp (disch := first | omega | assumption | rfl | (simp only [vcS] <;> omega) | fail) only [↓ptV_l, ↓vcA, vcB, ↓vcD, vcE, ↓reduceIte, Nat.reduceEqDiff, Nat.reduceAdd, Nat.reduceMul, Nat.reduceLeDiff, Int.reduceLE, Int.reduceLT, Int.reduceEq, Int.reduceToNat, Int.reduceAdd, Int.reduceSub, Int.reduceMul, Int.reduceNeg, reduceCtorEq, Option.bind_some, Option.map_some, List.length_cons, List.length_nil, vcM, List.getElem?_toArray, List.getElem?_cons_zero, List.getElem?_cons_succ, h5, rdO3])
        refine callV_ret (iNum_ok w3 x bs a' 0 kk (hx.ext hW3) hb hab.2 hl hk8) ?_
        rintro u w4 ⟨hE4, val, a2, e2, rfl, hab2, g1, g2, g3⟩
        clear g1
        simp (disch := first | omega | assumption | rfl | (simp only [vcS] <;> omega) | fail) only [↓ptV_l, ↓vcA, vcB, ↓vcD, vcE, ↓reduceIte, Nat.reduceEqDiff, Nat.reduceAdd, Nat.reduceMul, Nat.reduceLeDiff, Int.reduceLE, Int.reduceLT, Int.reduceEq, Int.reduceToNat, Int.reduceAdd, Int.reduceSub, Int.reduceMul, Int.reduceNeg, reduceCtorEq, Option.bind_some, Option.map_some, List.length_cons, List.length_nil, vcM, List.getElem?_toArray, List.getElem?_cons_zero, List.getElem?_cons_succ, hz1, hx1]
        have h8 : ((w4.alloc (Obj.cells #[.slice none 0 0, .int .i64 0, .int .i64 0] 49)).putN w4.heap.size 0 #[x, .int .i64 a2, .int .i64 e2]).heap[w4.heap.size]? = some (.cells #[x, .int .i64 a2, .int .i64 e2] 49 (0, 0)) := heap_local w4 rfl
        have hE5 : Ext w4 ((w4.alloc (Obj.cells #[.slice none 0 0, .int .i64 0, .int .i64 0] 49)).putN w4.heap.size 0 #[x, .int .i64 a2, .int .i64 e2]) := by (repeat' first | exact Keep.refl _ _ | assumption | refine Keep.drew ?_ | refine Keep.alloc ?_ _ | refine Keep.putN ?_ _ ?_ | refine Keep.setCell ?_ _ ?_ | refine Keep.setO ?_ _ ?_ | exact fun _ => Or.inl rfl | exact fun _ => Or.inr rfl | exact fun _ => rfl | (intro hh; exfalso; ((try simp only [vcS] at hh) <;> omega)))
        have h1c := hE5.at (hE4.at h1b fun h => h) fun h => h
        have h3c := hE5.at (hE4.at h3b fun h => h) fun h => h
        have h8n : w4.heap.size ≠ p1 ∧ w4.heap.size ≠ p3 := by
          have := lt_of_heap (hE4.at h1b fun h => h); have := lt_of_heap (hE4.at h3b fun h => h); omega
        generalize World.putN _ _ _ _ = w5 at h8 hE5 h1c h3c ⊢
        generalize w4.heap.size = p8 at h8 h8n ⊢
        have hW5 : Ext w w5 := hW3.ext (hE4.ext hE5)
        have hval : ∃ y : Int, val = .int .u64 y ∧ ((¬ kk ≤ t.length ∧ y = 0 ∧ e2 = 4) ∨ (kk ≤ t.length ∧ y = valF (t.take kk) ∧ bs.drop a2 = t.drop kk ∧ e2 = 0)) := by
          by_cases hle : kk ≤ t.length
          · obtain ⟨j1, j2, j3⟩ := g2 rfl (valF (t.take kk)) (t.drop kk) (by rw [i2, numR, if_pos hle])
            exact ⟨_, j1, .inr ⟨hle, rfl, j2, j3⟩⟩
          · obtain ⟨j1, j2, j3⟩ := g3 rfl 4 (by rw [i2, numR, if_neg hle])
            exact ⟨_, j1, .inl ⟨hle, rfl, j3⟩⟩
        obtain ⟨y, rfl, hy⟩ := hval
        clear g2 g3
        (refine W_at c46_ok ?_; refine ⟨_, rfl, ?_⟩; simp (disch := first | omega | assumption | rfl | (simp only [vcS] <;> omega) | fail) only [↓ptV_l, ↓vcA, vcB, ↓vcD, vcE, ↓reduceIte, Nat.reduceEqDiff, Nat.reduceAdd, Nat.reduceMul, Nat.reduceLeDiff, Int.reduceLE, Int.reduceLT, Int.reduceEq, Int.reduceToNat, Int.reduceAdd, Int.reduceSub, Int.reduceMul, Int.reduceNeg, reduceCtorEq, Option.bind_some, Option.map_some, List.length_cons, List.length_nil, vcM, List.getElem?_toArray, List.getElem?_cons_zero, List.getElem?_cons_succ, h8])
        have bad : ∀ (k : Int) (wz : World) (s : List (Nat × Value)), k ≠ 0 → szR (bs.drop a) = .error k → Ext w wz → wz.heap[p1]? = some (.cells #[x, .int .i64 a, .int .i64 0] 49 (0, 0)) → wz.heap[p3]? = some (.cells #[.slice none 0 0, .int .i64 0, .int .i64 0] 49 (0, 0)) →
            W Try.prog (Ret fun u w' => ITo w w' x bs a 0 (szR (bs.drop a)) (fun y v _ => v = .int .u64 y) (.int .u64 0) u) 46 7 ((1, .pointer (some ⟨p1, 0, none⟩)) :: (3, .pointer (some ⟨p3, 0, none⟩)) :: (7, .int .u64 y) :: (8, .pointer (some ⟨p8, 0, none⟩)) :: (9, .int .i64 k) :: s) wz := by
          intro k wz s hk hr hEz hz1' hz3'
          rw [hr]
          (refine W_at c46_ok ?_; refine ⟨_, rfl, ?_⟩; simp (disch := first | omega | assumption | rfl | (simp only [vcS] <;> omega) | fail) only [↓ptV_l, ↓vcA, vcB, ↓vcD, vcE, ↓reduceIte, Nat.reduceEqDiff, Nat.reduceAdd, Nat.reduceMul, Nat.reduceLeDiff, Int.reduceLE, Int.reduceLT, Int.reduceEq, Int.reduceToNat, Int.reduceAdd, Int.reduceSub, Int.reduceMul, Int.reduceNeg, reduceCtorEq, Option.bind_some, Option.map_some, List.length_cons, List.length_nil, vcM, List.getElem?_toArray, List.getElem?_cons_zero, List.getElem?_cons_succ, hk])
          (refine W_at c46_ok ?_; refine ⟨_, rfl, ?_⟩; simp (disch := first | omega | assumption | rfl | (simp only [vcS] <;> omega) | fail) only [↓ptV_l, ↓vcA, vcB, ↓vcD, vcE, ↓reduceIte, Nat.reduceEqDiff, Nat.reduceAdd, Nat.reduceMul, Nat.reduceLeDiff, Int.reduceLE, Int.reduceLT, Int.reduceEq, Int.reduceToNat, Int.reduceAdd, Int.reduceSub, Int.reduceMul, Int.reduceNeg, reduceCtorEq, Option.bind_some, Option.map_some, List.length_cons, List.length_nil, vcM, List.getElem?_toArray, List.getElem?_cons_zero, List.getElem?_cons_succ])
          (refine W_at c46_ok ?_; refine ⟨_, rfl, ?_⟩; simp (disch := first | omega | assumption | rfl | (simp only [vcS] <;> omega) | fail) only [↓ptV_l, ↓vcA, vcB, ↓vcD, vcE, ↓reduceIte, Nat.reduceEqDiff, Nat.reduceAdd, Nat.reduceMul, Nat.reduceLeDiff, Int.reduceLE, Int.reduceLT, Int.reduceEq, Int.reduceToNat, Int.reduceAdd, Int.reduceSub, Int.reduceMul, Int.reduceNeg, reduceCtorEq, Option.bind_some, Option.map_some, List.length_cons, List.length_nil, vcM, List.getElem?_toArray, List.getElem?_cons_zero, List.getElem?_cons_succ, hz1'])
          refine ⟨wr1_of hz1' (by simp), ?_⟩
          have q1 : (wz.setCell ⟨p1, 2, none⟩ (.int .i64 k)).heap[p1]? = some (.cells #[x, .int .i64 a, .int .i64 k] 49 (0, 0)) := by rw [heap_setCell_eq hz1']; rfl
          have q3 : (wz.setCell ⟨p1, 2, none⟩ (.int .i64 k)).heap[p3]? = some (.cells #[.slice none 0 0, .int .i64 0, .int .i64 0] 49 (0, 0)) := by rw [heap_setCell_ne _ _ _ _ _ _ (Ne.symm hps)]; exact hz3'
          have qE : Ext w (wz.setCell ⟨p1, 2, none⟩ (.int .i64 k)) := hEz.setCell _ (by omega)
          generalize World.setCell _ _ _ = wy at q1 q3 qE ⊢
          (refine W_at c46_ok ?_; refine ⟨_, rfl, ?_⟩; simp (disch := first | omega | assumption | rfl | (simp only [vcS] <;> omega) | fail) only [↓ptV_l, ↓vcA, vcB, ↓vcD, vcE, ↓reduceIte, Nat.reduceEqDiff, Nat.reduceAdd, Nat.reduceMul, Nat.reduceLeDiff, Int.reduceLE, Int.reduceLT, Int.reduceEq, Int.reduceToNat, Int.reduceAdd, Int.reduceSub, Int.reduceMul, Int.reduceNeg, reduceCtorEq, Option.bind_some, Option.map_some, List.length_cons, List.length_nil, vcM, List.getElem?_toArray, List.getElem?_cons_zero, List.getElem?_cons_succ, q1, q3, rdO3, hx1])
          (refine W_at c46_ok ?_; refine ⟨_, rfl, ?_⟩; simp (disch := first | omega | assumption | rfl | (simp only [vcS] <;> omega) | fail) only [↓ptV_l, ↓vcA, vcB, ↓vcD, vcE, ↓reduceIte, Nat.reduceEqDiff, Nat.reduceAdd, Nat.reduceMul, Nat.reduceLeDiff, Int.reduceLE, Int.reduceLT, Int.reduceEq, Int.reduceToNat, Int.reduceAdd, Int.reduceSub, Int.reduceMul, Int.reduceNeg, reduceCtorEq, Option.bind_some, Option.map_some, List.length_cons, List.length_nil, vcM, List.getElem?_toArray, List.getElem?_cons_zero, List.getElem?_cons_succ, q3, hput, Ret_returned])
          exact ⟨(qE.drew).putN _ (by omega), _, a, k, rfl, by omega, fun h => absurd rfl h, fun _ y rest h => (by cases h), fun _ k' h => (by cases h; exact ⟨rfl, rfl, rfl⟩)⟩
        rcases hy with ⟨j1, j2, j3⟩ | ⟨j1, j2, j3, j4⟩
        · subst j2 j3
          (refine W_at c46_ok ?_; refine ⟨_, rfl, ?_⟩; simp (disch := first | omega | assumption | rfl | (simp only [vcS] <;> omega) | fail) only [↓ptV_l, ↓vcA, vcB, ↓vcD, vcE, ↓reduceIte, Nat.reduceEqDiff, Nat.reduceAdd, Nat.reduceMul, Nat.reduceLeDiff, Int.reduceLE, Int.reduceLT, Int.reduceEq, Int.reduceToNat, Int.reduceAdd, Int.reduceSub, Int.reduceMul, Int.reduceNeg, reduceCtorEq, Option.bind_some, Option.map_some, List.length_cons, List.length_nil, vcM, List.getElem?_toArray, List.getElem?_cons_zero, List.getElem?_cons_succ])
          (refine W_at c46_ok ?_; refine ⟨_, rfl, ?_⟩; simp (disch := first | omega | assumption | rfl | (simp only [vcS] <;> omega) | fail) only [↓ptV_l, ↓vcA, vcB, ↓vcD, vcE, ↓reduceIte, Nat.reduceEqDiff, Nat.reduceAdd, Nat.reduceMul, Nat.reduceLeDiff, Int.reduceLE, Int.reduceLT, Int.reduceEq, Int.reduceToNat, Int.reduceAdd, Int.reduceSub, Int.reduceMul, Int.reduceNeg, reduceCtorEq, Option.bind_some, Option.map_some, List.length_cons, List.length_nil, vcM, List.getElem?_toArray, List.getElem?_cons_zero, List.getElem?_cons_succ])
          (refine W_at c46_ok ?_; refine ⟨_, rfl, ?_⟩; simp (disch := first | omega | assumption | rfl | (simp only [vcS] <;> omega) | fail) only [↓ptV_l, ↓vcA, vcB, ↓vcD, vcE, ↓reduceIte, Nat.reduceEqDiff, Nat.reduceAdd, Nat.reduceMul, Nat.reduceLeDiff, Int.reduceLE, Int.reduceLT, Int.reduceEq, Int.reduceToNat, Int.reduceAdd, Int.reduceSub, Int.reduceMul, Int.reduceNeg, reduceCtorEq, Option.bind_some, Option.map_some, List.length_cons, List.length_nil, vcM, List.getElem?_toArray, List.getElem?_cons_zero, List.getElem?_cons_succ])
          (refine W_at c46_ok ?_; refine ⟨_, rfl, ?_⟩; simp (disch := first | omega | assumption | rfl | (simp only [vcS] <;> omega) | fail) only [↓ptV_l, ↓vcA, vcB, ↓vcD, vcE, ↓reduceIte, Nat.reduceEqDiff, Nat.reduceAdd, Nat.reduceMul, Nat.reduceLeDiff, Int.reduceLE, Int.reduceLT, Int.reduceEq, Int.reduceToNat, Int.reduceAdd, Int.reduceSub, Int.reduceMul, Int.reduceNeg, reduceCtorEq, Option.bind_some, Option.map_some, List.length_cons, List.length_nil, vcM, List.getElem?_toArray, List.getElem?_cons_zero, List.getElem?_cons_succ])
          exact bad 4 w5 _ (by omega) (by rw [i1, szR, if_neg hf, hkk, if_pos (by omega)]) hW5 h1c h3c
        · subst j4
          have hbt : byt (t.take kk) := fun z hz => hb z (List.mem_of_mem_drop (by rw [i1]; exact List.mem_cons_of_mem _ (List.mem_of_mem_take hz)))
          have hv := valF_lt hbt
          have hp : (256 : Int) ^ (t.take kk).length ≤ 256 ^ 8 := pow256_le (by rw [List.length_take]; omega)
          have h256 : (256 : Int) ^ 8 = 18446744073709551616 := rfl
          rw [← j2] at hv
          have hsz := szR_of (t := t) hf
          rw [hkk, ← j2, if_neg (by omega), ← i1] at hsz
          (refine W_at c46_ok ?_; refine ⟨_, rfl, ?_⟩; simp (disch := first | omega | assumption | rfl | (simp only [vcS] <;> omega) | fail) only [↓ptV_l, ↓vcA, vcB, ↓vcD, vcE, ↓reduceIte, Nat.reduceEqDiff, Nat.reduceAdd, Nat.reduceMul, Nat.reduceLeDiff, Int.reduceLE, Int.reduceLT, Int.reduceEq, Int.reduceToNat, Int.reduceAdd, Int.reduceSub, Int.reduceMul, Int.reduceNeg, reduceCtorEq, Option.bind_some, Option.map_some, List.length_cons, List.length_nil, vcM, List.getElem?_toArray, List.getElem?_cons_zero, List.getElem?_cons_succ])
          refine callV_ret (rsize_ok w5 y (by omega)) ?_
          rintro u w6 hN
          have hlen := hN.own.rd.len
          have hE6 := hN.ext
          have h1d := hE6.at h1c fun h => h
          have h3d := hE6.at h3c fun h => h
          have h8d := hE6.at h8 fun h => h
          have hW6 := hW5.ext hE6
          have hwk : IntKind.i64.wrap ((kk : Int) + 1) = (kk : Int) + 1 := wrap_i64 (by omega) (by omega)
          have hsl := sizeF_wide (n := y) (by omega)
          rw [hsl] at hlen
          clear hN hE6
          simp (disch := first | omega | assumption | rfl | (simp only [vcS] <;> omega) | fail) only [↓ptV_l, ↓vcA, vcB, ↓vcD, vcE, ↓reduceIte, Nat.reduceEqDiff, Nat.reduceAdd, Nat.reduceMul, Nat.reduceLeDiff, Int.reduceLE, Int.reduceLT, Int.reduceEq, Int.reduceToNat, Int.reduceAdd, Int.reduceSub, Int.reduceMul, Int.reduceNeg, reduceCtorEq, Option.bind_some, Option.map_some, List.length_cons, List.length_nil, vcM, List.getElem?_toArray, List.getElem?_cons_zero, List.getElem?_cons_succ, hlen, hwk]
          by_cases c1 : wideF y = kk
          · rw [c1] at hsz ⊢
            rw [if_neg (fun h => h rfl)] at hsz
            have hd1 : (!decide (((kk + 1 : Nat) : Int) = (kk : Int) + 1)) = false := by simp
            rw [hd1]
            by_cases c2 : 33554432 < y
            · rw [if_pos c2] at hsz
              (refine W_at c46_ok ?_; refine ⟨_, rfl, ?_⟩; simp (disch := first | omega | assumption | rfl | (simp only [vcS] <;> omega) | fail) only [↓ptV_l, ↓vcA, vcB, ↓vcD, vcE, ↓reduceIte, Nat.reduceEqDiff, Nat.reduceAdd, Nat.reduceMul, Nat.reduceLeDiff, Int.reduceLE, Int.reduceLT, Int.reduceEq, Int.reduceToNat, Int.reduceAdd, Int.reduceSub, Int.reduceMul, Int.reduceNeg, reduceCtorEq, Option.bind_some, Option.map_some, List.length_cons, List.length_nil, vcM, List.getElem?_toArray, List.getElem?_cons_zero, List.getElem?_cons_succ])
              (refine W_at c46_ok ?_; refine ⟨_, rfl, ?_⟩; simp (disch := first | omega | assumption | rfl | (simp only [vcS] <;> omega) | fail) only [↓ptV_l, ↓vcA, vcB, ↓vcD, vcE, ↓reduceIte, Nat.reduceEqDiff, Nat.reduceAdd, Nat.reduceMul, Nat.reduceLeDiff, Int.reduceLE, Int.reduceLT, Int.reduceEq, Int.reduceToNat, Int.reduceAdd, Int.reduceSub, Int.reduceMul, Int.reduceNeg, reduceCtorEq, Option.bind_some, Option.map_some, List.length_cons, List.length_nil, vcM, List.getElem?_toArray, List.getElem?_cons_zero, List.getElem?_cons_succ, c2])
              (refine W_at c46_ok ?_; refine ⟨_, rfl, ?_⟩; simp (disch := first | omega | assumption | rfl | (simp only [vcS] <;> omega) | fail) only [↓ptV_l, ↓vcA, vcB, ↓vcD, vcE, ↓reduceIte, Nat.reduceEqDiff, Nat.reduceAdd, Nat.reduceMul, Nat.reduceLeDiff, Int.reduceLE, Int.reduceLT, Int.reduceEq, Int.reduceToNat, Int.reduceAdd, Int.reduceSub, Int.reduceMul, Int.reduceNeg, reduceCtorEq, Option.bind_some, Option.map_some, List.length_cons, List.length_nil, vcM, List.getElem?_toArray, List.getElem?_cons_zero, List.getElem?_cons_succ])
              (refine W_at c46_ok ?_; refine ⟨_, rfl, ?_⟩; simp (disch := first | omega | assumption | rfl | (simp only [vcS] <;> omega) | fail) only [↓ptV_l, ↓vcA, vcB, ↓vcD, vcE, ↓reduceIte, Nat.reduceEqDiff, Nat.reduceAdd, Nat.reduceMul, Nat.reduceLeDiff, Int.reduceLE, Int.reduceLT, Int.reduceEq, Int.reduceToNat, Int.reduceAdd, Int.reduceSub, Int.reduceMul, Int.reduceNeg, reduceCtorEq, Option.bind_some, Option.map_some, List.length_cons, List.length_nil, vcM, List.getElem?_toArray, List.getElem?_cons_zero, List.getElem?_cons_succ])
              exact bad 2 w6 _ (by omega) hsz hW6 h1d h3d
            · rw [if_neg c2] at hsz
              (refine W_at c46_ok ?_; refine ⟨_, rfl, ?_⟩; simp (disch := first | omega | assumption | rfl | (simp only [vcS] <;> omega) | fail) only [↓ptV_l, ↓vcA, vcB, ↓vcD, vcE, ↓reduceIte, Nat.reduceEqDiff, Nat.reduceAdd, Nat.reduceMul, Nat.reduceLeDiff, Int.reduceLE, Int.reduceLT, Int.reduceEq, Int.reduceToNat, Int.reduceAdd, Int.reduceSub, Int.reduceMul, Int.reduceNeg, reduceCtorEq, Option.bind_some, Option.map_some, List.length_cons, List.length_nil, vcM, List.getElem?_toArray, List.getElem?_cons_zero, List.getElem?_cons_succ])
              (refine W_at c46_ok ?_; refine ⟨_, rfl, ?_⟩; simp (disch := first | omega | assumption | rfl | (simp only [vcS] <;> omega) | fail) only [↓ptV_l, ↓vcA, vcB, ↓vcD, vcE, ↓reduceIte, Nat.reduceEqDiff, Nat.reduceAdd, Nat.reduceMul, Nat.reduceLeDiff, Int.reduceLE, Int.reduceLT, Int.reduceEq, Int.reduceToNat, Int.reduceAdd, Int.reduceSub, Int.reduceMul, Int.reduceNeg, reduceCtorEq, Option.bind_some, Option.map_some, List.length_cons, List.length_nil, vcM, List.getElem?_toArray, List.getElem?_cons_zero, List.getElem?_cons_succ, c2])
              (refine W_at c46_ok ?_; refine ⟨_, rfl, ?_⟩; simp (disch := first | omega | assumption | rfl | (simp only [vcS] <;> omega) | fail) only [↓ptV_l, ↓vcA, vcB, ↓vcD, vcE, ↓reduceIte, Nat.reduceEqDiff, Nat.reduceAdd, Nat.reduceMul, Nat.reduceLeDiff, Int.reduceLE, Int.reduceLT, Int.reduceEq, Int.reduceToNat, Int.reduceAdd, Int.reduceSub, Int.reduceMul, Int.reduceNeg, reduceCtorEq, Option.bind_some, Option.map_some, List.length_cons, List.length_nil, vcM, List.getElem?_toArray, List.getElem?_cons_zero, List.getElem?_cons_succ])
              (refine W_at c46_ok ?_; refine ⟨_, rfl, ?_⟩; simp (disch := first | omega | assumption | rfl | (simp only [vcS] <;> omega) | fail) only [↓ptV_l, ↓vcA, vcB, ↓vcD, vcE, ↓reduceIte, Nat.reduceEqDiff, Nat.reduceAdd, Nat.reduceMul, Nat.reduceLeDiff, Int.reduceLE, Int.reduceLT, Int.reduceEq, Int.reduceToNat, Int.reduceAdd, Int.reduceSub, Int.reduceMul, Int.reduceNeg, reduceCtorEq, Option.bind_some, Option.map_some, List.length_cons, List.length_nil, vcM, List.getElem?_toArray, List.getElem?_cons_zero, List.getElem?_cons_succ])
              (refine W_at c46_ok ?_; refine ⟨_, rfl, ?_⟩; simp (disch := first | omega | assumption | rfl | (simp only [vcS] <;> omega) | fail) only [↓ptV_l, ↓vcA, vcB, ↓vcD, vcE, ↓reduceIte, Nat.reduceEqDiff, Nat.reduceAdd, Nat.reduceMul, Nat.reduceLeDiff, Int.reduceLE, Int.reduceLT, Int.reduceEq, Int.reduceToNat, Int.reduceAdd, Int.reduceSub, Int.reduceMul, Int.reduceNeg, reduceCtorEq, Option.bind_some, Option.map_some, List.length_cons, List.length_nil, vcM, List.getElem?_toArray, List.getElem?_cons_zero, List.getElem?_cons_succ])
              (refine W_at c46_ok ?_; refine ⟨_, rfl, ?_⟩; simp (disch := first | omega | assumption | rfl | (simp only [vcS] <;> omega) | fail) only [↓ptV_l, ↓vcA, vcB, ↓vcD, vcE, ↓reduceIte, Nat.reduceEqDiff, Nat.reduceAdd, Nat.reduceMul, Nat.reduceLeDiff, Int.reduceLE, Int.reduceLT, Int.reduceEq, Int.reduceToNat, Int.reduceAdd, Int.reduceSub, Int.reduceMul, Int.reduceNeg, reduceCtorEq, Option.bind_some, Option.map_some, List.length_cons, List.length_nil, vcM, List.getElem?_toArray, List.getElem?_cons_zero, List.getElem?_cons_succ, h8d, h3d, rdO3, hx1])
              (refine W_at c46_ok ?_; refine ⟨_, rfl, ?_⟩; simp (disch := first | omega | assumption | rfl | (simp only [vcS] <;> omega) | fail) only [↓ptV_l, ↓vcA, vcB, ↓vcD, vcE, ↓reduceIte, Nat.reduceEqDiff, Nat.reduceAdd, Nat.reduceMul, Nat.reduceLeDiff, Int.reduceLE, Int.reduceLT, Int.reduceEq, Int.reduceToNat, Int.reduceAdd, Int.reduceSub, Int.reduceMul, Int.reduceNeg, reduceCtorEq, Option.bind_some, Option.map_some, List.length_cons, List.length_nil, vcM, List.getElem?_toArray, List.getElem?_cons_zero, List.getElem?_cons_succ, h3d, hput, Ret_returned])
              rw [hsz]
              exact ⟨(hW6.drew).putN _ (by omega), _, a2, 0, rfl, by omega, fun h => absurd rfl h, fun _ y rest h => (by cases h; exact ⟨rfl, j3, rfl⟩), fun _ k' h => (by cases h)⟩
          · rw [if_pos c1] at hsz
            have hd1 : (!decide (((wideF y + 1 : Nat) : Int) = (kk : Int) + 1)) = true := by simp; omega
            rw [hd1]
            (refine W_at c46_ok ?_; refine ⟨_, rfl, ?_⟩; simp (disch := first | omega | assumption | rfl | (simp only [vcS] <;> omega) | fail) only [↓ptV_l, ↓vcA, vcB, ↓vcD, vcE, ↓reduceIte, Nat.reduceEqDiff, Nat.reduceAdd, Nat.reduceMul, Nat.reduceLeDiff, Int.reduceLE, Int.reduceLT, Int.reduceEq, Int.reduceToNat, Int.reduceAdd, Int.reduceSub, Int.reduceMul, Int.reduceNeg, reduceCtorEq, Option.bind_some, Option.map_some, List.length_cons, List.length_nil, vcM, List.getElem?_toArray, List.getElem?_cons_zero, List.getElem?_cons_succ])
            (refine W_at c46_ok ?_; refine ⟨_, rfl, ?_⟩; simp (disch := first | omega | assumption | rfl | (simp only [vcS] <;> omega) | fail) only [↓ptV_l, ↓vcA, vcB, ↓vcD, vcE, ↓reduceIte, Nat.reduceEqDiff, Nat.reduceAdd, Nat.reduceMul, Nat.reduceLeDiff, Int.reduceLE, Int.reduceLT, Int.reduceEq, Int.reduceToNat, Int.reduceAdd, Int.reduceSub, Int.reduceMul, Int.reduceNeg, reduceCtorEq, Option.bind_some, Option.map_some, List.length_cons, List.length_nil, vcM, List.getElem?_toArray, List.getElem?_cons_zero, List.getElem?_cons_succ])
            (refine W_at c46_ok ?_; refine ⟨_, rfl, ?_⟩; simp (disch := first | omega | assumption | rfl | (simp only [vcS] <;> omega) | fail) only [↓ptV_l, ↓vcA, vcB, ↓vcD, vcE, ↓reduceIte, Nat.reduceEqDiff, Nat.reduceAdd, Nat.reduceMul, Nat.reduceLeDiff, Int.reduceLE, Int.reduceLT, Int.reduceEq, Int.reduceToNat, Int.reduceAdd, Int.reduceSub, Int.reduceMul, Int.reduceNeg, reduceCtorEq, Option.bind_some, Option.map_some, List.length_cons, List.length_nil, vcM, List.getElem?_toArray, List.getElem?_cons_zero, List.getElem?_cons_succ])
            (refine W_at c46_ok ?_; refine ⟨_, rfl, ?_⟩; simp (disch := first | omega | assumption | rfl | (simp only [vcS] <;> omega) | fail) only [↓ptV_l, ↓vcA, vcB, ↓vcD, vcE, ↓reduceIte, Nat.reduceEqDiff, Nat.reduceAdd, Nat.reduceMul, Nat.reduceLeDiff, Int.reduceLE, Int.reduceLT, Int.reduceEq, Int.reduceToNat, Int.reduceAdd, Int.reduceSub, Int.reduceMul, Int.reduceNeg, reduceCtorEq, Option.bind_some, Option.map_some, List.length_cons, List.length_nil, vcM, List.getElem?_toArray, List.getElem?_cons_zero, List.getElem?_cons_succ])
            exact bad 3 w6 _ (by omega) hsz hW6 h1d h3d
      (refine W_at c46_ok ?_; refine ⟨_, rfl, ?_⟩; simp (disch := first | omega | assumption | rfl | (simp only [vcS] <;> omega) | fail) only [↓ptV_l, ↓vcA, vcB, ↓vcD, vcE, ↓reduceIte, Nat.reduceEqDiff, Nat.reduceAdd, Nat.reduceMul, Nat.reduceLeDiff, Int.reduceLE, Int.reduceLT, Int.reduceEq, Int.reduceToNat, Int.reduceAdd, Int.reduceSub, Int.reduceMul, Int.reduceNeg, reduceCtorEq, Option.bind_some, Option.map_some, List.length_cons, List.length_nil, vcM, List.getElem?_toArray, List.getElem?_cons_zero, List.getElem?_cons_succ])
      by_cases c1 : f = 253
      · subst c1
        (refine W_at c46_ok ?_; refine ⟨_, rfl, ?_⟩; simp (disch := first | omega | assumption | rfl | (simp only [vcS] <;> omega) | fail) only [↓ptV_l, ↓vcA, vcB, ↓vcD, vcE, ↓reduceIte, Nat.reduceEqDiff, Nat.reduceAdd, Nat.reduceMul, Nat.reduceLeDiff, Int.reduceLE, Int.reduceLT, Int.reduceEq, Int.reduceToNat, Int.reduceAdd, Int.reduceSub, Int.reduceMul, Int.reduceNeg, reduceCtorEq, Option.bind_some, Option.map_some, List.length_cons, List.length_nil, vcM, List.getElem?_toArray, List.getElem?_cons_zero, List.getElem?_cons_succ])
        (refine W_at c46_ok ?_; refine ⟨_, rfl, ?_⟩; simp (disch := first | omega | assumption | rfl | (simp only [vcS] <;> omega) | fail) only [↓ptV_l, ↓vcA, vcB, ↓vcD, vcE, ↓reduceIte, Nat.reduceEqDiff, Nat.reduceAdd, Nat.reduceMul, Nat.reduceLeDiff, Int.reduceLE, Int.reduceLT, Int.reduceEq, Int.reduceToNat, Int.reduceAdd, Int.reduceSub, Int.reduceMul, Int.reduceNeg, reduceCtorEq, Option.bind_some, Option.map_some, List.length_cons, List.length_nil, vcM, List.getElem?_toArray, List.getElem?_cons_zero, List.getElem?_cons_succ])
        (refine W_at c46_ok ?_; refine ⟨_, rfl, ?_⟩; simp (disch := first | omega | assumption | rfl | (simp only [vcS] <;> omega) | fail) only [↓ptV_l, ↓vcA, vcB, ↓vcD, vcE, ↓reduceIte, Nat.reduceEqDiff, Nat.reduceAdd, Nat.reduceMul, Nat.reduceLeDiff, Int.reduceLE, Int.reduceLT, Int.reduceEq, Int.reduceToNat, Int.reduceAdd, Int.reduceSub, Int.reduceMul, Int.reduceNeg, reduceCtorEq, Option.bind_some, Option.map_some, List.length_cons, List.length_nil, vcM, List.getElem?_toArray, List.getElem?_cons_zero, List.getElem?_cons_succ])
        (refine W_at c46_ok ?_; refine ⟨_, rfl, ?_⟩; simp (disch := first | omega | assumption | rfl | (simp only [vcS] <;> omega) | fail) only [↓ptV_l, ↓vcA, vcB, ↓vcD, vcE, ↓reduceIte, Nat.reduceEqDiff, Nat.reduceAdd, Nat.reduceMul, Nat.reduceLeDiff, Int.reduceLE, Int.reduceLT, Int.reduceEq, Int.reduceToNat, Int.reduceAdd, Int.reduceSub, Int.reduceMul, Int.reduceNeg, reduceCtorEq, Option.bind_some, Option.map_some, List.length_cons, List.length_nil, vcM, List.getElem?_toArray, List.getElem?_cons_zero, List.getElem?_cons_succ])
        exact key _
      · by_cases c2 : f = 254
        · subst c2
          (refine W_at c46_ok ?_; refine ⟨_, rfl, ?_⟩; simp (disch := first | omega | assumption | rfl | (simp only [vcS] <;> omega) | fail) only [↓ptV_l, ↓vcA, vcB, ↓vcD, vcE, ↓reduceIte, Nat.reduceEqDiff, Nat.reduceAdd, Nat.reduceMul, Nat.reduceLeDiff, Int.reduceLE, Int.reduceLT, Int.reduceEq, Int.reduceToNat, Int.reduceAdd, Int.reduceSub, Int.reduceMul, Int.reduceNeg, reduceCtorEq, Option.bind_some, Option.map_some, List.length_cons, List.length_nil, vcM, List.getElem?_toArray, List.getElem?_cons_zero, List.getElem?_cons_succ])
          (refine W_at c46_ok ?_; refine ⟨_, rfl, ?_⟩; simp (disch := first | omega | assumption | rfl | (simp only [vcS] <;> omega) | fail) only [↓ptV_l, ↓vcA, vcB, ↓vcD, vcE, ↓reduceIte, Nat.reduceEqDiff, Nat.reduceAdd, Nat.reduceMul, Nat.reduceLeDiff, Int.reduceLE, Int.reduceLT, Int.reduceEq, Int.reduceToNat, Int.reduceAdd, Int.reduceSub, Int.reduceMul, Int.reduceNeg, reduceCtorEq, Option.bind_some, Option.map_some, List.length_cons, List.length_nil, vcM, List.getElem?_toArray, List.getElem?_cons_zero, List.getElem?_cons_succ])
          (refine W_at c46_ok ?_; refine ⟨_, rfl, ?_⟩; simp (disch := first | omega | assumption | rfl | (simp only [vcS] <;> omega) | fail) only [↓ptV_l, ↓vcA, vcB, ↓vcD, vcE, ↓reduceIte, Nat.reduceEqDiff, Nat.reduceAdd, Nat.reduceMul, Nat.reduceLeDiff, Int.reduceLE, Int.reduceLT, Int.reduceEq, Int.reduceToNat, Int.reduceAdd, Int.reduceSub, Int.reduceMul, Int.reduceNeg, reduceCtorEq, Option.bind_some, Option.map_some, List.length_cons, List.length_nil, vcM, List.getElem?_toArray, List.getElem?_cons_zero, List.getElem?_cons_succ])
          (refine W_at c46_ok ?_; refine ⟨_, rfl, ?_⟩; simp (disch := first | omega | assumption | rfl | (simp only [vcS] <;> omega) | fail) only [↓ptV_l, ↓vcA, vcB, ↓vcD, vcE, ↓reduceIte, Nat.reduceEqDiff, Nat.reduceAdd, Nat.reduceMul, Nat.reduceLeDiff, Int.reduceLE, Int.reduceLT, Int.reduceEq, Int.reduceToNat, Int.reduceAdd, Int.reduceSub, Int.reduceMul, Int.reduceNeg, reduceCtorEq, Option.bind_some, Option.map_some, List.length_cons, List.length_nil, vcM, List.getElem?_toArray, List.getElem?_cons_zero, List.getElem?_cons_succ])
          (refine W_at c46_ok ?_; refine ⟨_, rfl, ?_⟩; simp (disch := first | omega | assumption | rfl | (simp only [vcS] <;> omega) | fail) only [↓ptV_l, ↓vcA, vcB, ↓vcD, vcE, ↓reduceIte, Nat.reduceEqDiff, Nat.reduceAdd, Nat.reduceMul, Nat.reduceLeDiff, Int.reduceLE, Int.reduceLT, Int.reduceEq, Int.reduceToNat, Int.reduceAdd, Int.reduceSub, Int.reduceMul, Int.reduceNeg, reduceCtorEq, Option.bind_some, Option.map_some, List.length_cons, List.length_nil, vcM, List.getElem?_toArray, List.getElem?_cons_zero, List.getElem?_cons_succ])
          exact key _
        · have c3 : f = 255 := by omega
          subst c3
          (refine W_at c46_ok ?_; refine ⟨_, rfl, ?_⟩; simp (disch := first | omega | assumption | rfl | (simp only [vcS] <;> omega) | fail) only [↓ptV_l, ↓vcA, vcB, ↓vcD, vcE, ↓reduceIte, Nat.reduceEqDiff, Nat.reduceAdd, Nat.reduceMul, Nat.reduceLeDiff, Int.reduceLE, Int.reduceLT, Int.reduceEq, Int.reduceToNat, Int.reduceAdd, Int.reduceSub, Int.reduceMul, Int.reduceNeg, reduceCtorEq, Option.bind_some, Option.map_some, List.length_cons, List.length_nil, vcM, List.getElem?_toArray, List.getElem?_cons_zero, List.getElem?_cons_succ])
          (refine W_at c46_ok ?_; refine ⟨_, rfl, ?_⟩; simp (disch := first | omega | assumption | rfl | (simp only [vcS] <;> omega) | fail) only [↓ptV_l, ↓vcA, vcB, ↓vcD, vcE, ↓reduceIte, Nat.reduceEqDiff, Nat.reduceAdd, Nat.reduceMul, Nat.reduceLeDiff, Int.reduceLE, Int.reduceLT, Int.reduceEq, Int.reduceToNat, Int.reduceAdd, Int.reduceSub, Int.reduceMul, Int.reduceNeg, reduceCtorEq, Option.bind_some, Option.map_some, List.length_cons, List.length_nil, vcM, List.getElem?_toArray, List.getElem?_cons_zero, List.getElem?_cons_succ])
          (refine W_at c46_ok ?_; refine ⟨_, rfl, ?_⟩; simp (disch := first | omega | assumption | rfl | (simp only [vcS] <;> omega) | fail) only [↓ptV_l, ↓vcA, vcB, ↓vcD, vcE, ↓reduceIte, Nat.reduceEqDiff, Nat.reduceAdd, Nat.reduceMul, Nat.reduceLeDiff, Int.reduceLE, Int.reduceLT, Int.reduceEq, Int.reduceToNat, Int.reduceAdd, Int.reduceSub, Int.reduceMul, Int.reduceNeg, reduceCtorEq, Option.bind_some, Option.map_some, List.length_cons, List.length_nil, vcM, List.getElem?_toArray, List.getElem?_cons_zero, List.getElem?_cons_succ])
          (refine W_at c46_ok ?_; refine ⟨_, rfl, ?_⟩; simp (disch := first | omega | assumption | rfl | (simp only [vcS] <;> omega) | fail) only [↓ptV_l, ↓vcA, vcB, ↓vcD, vcE, ↓reduceIte, Nat.reduceEqDiff, Nat.reduceAdd, Nat.reduceMul, Nat.reduceLeDiff, Int.reduceLE, Int.reduceLT, Int.reduceEq, Int.reduceToNat, Int.reduceAdd, Int.reduceSub, Int.reduceMul, Int.reduceNeg, reduceCtorEq, Option.bind_some, Option.map_some, List.length_cons, List.length_nil, vcM, List.getElem?_toArray, List.getElem?_cons_zero, List.getElem?_cons_succ])
          (refine W_at c46_ok ?_; refine ⟨_, rfl, ?_⟩; simp (disch := first | omega | assumption | rfl | (simp only [vcS] <;> omega) | fail) only [↓ptV_l, ↓vcA, vcB, ↓vcD, vcE, ↓reduceIte, Nat.reduceEqDiff, Nat.reduceAdd, Nat.reduceMul, Nat.reduceLeDiff, Int.reduceLE, Int.reduceLT, Int.reduceEq, Int.reduceToNat, Int.reduceAdd, Int.reduceSub, Int.reduceMul, Int.reduceNeg, reduceCtorEq, Option.bind_some, Option.map_some, List.length_cons, List.length_nil, vcM, List.getElem?_toArray, List.getElem?_cons_zero, List.getElem?_cons_succ])
          exact key _
  · (refine W_at c46_ok ?_; refine ⟨_, rfl, ?_⟩; simp (disch := first | omega | assumption | rfl | (simp only [vcS] <;> omega) | fail) only [↓ptV_l, ↓vcA, vcB, ↓vcD, vcE, ↓reduceIte, Nat.reduceEqDiff, Nat.reduceAdd, Nat.reduceMul, Nat.reduceLeDiff, Int.reduceLE, Int.reduceLT, Int.reduceEq, Int.reduceToNat, Int.reduceAdd, Int.reduceSub, Int.reduceMul, Int.reduceNeg, reduceCtorEq, Option.bind_some, Option.map_some, List.length_cons, List.length_nil, vcM, List.getElem?_toArray, List.getElem?_cons_zero, List.getElem?_cons_succ, h5, he'])
    exact early (.inl he')
end Go.Proofs
