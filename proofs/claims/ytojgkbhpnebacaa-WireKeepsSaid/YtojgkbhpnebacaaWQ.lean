/- The law WireKeeps: its walk. -/
import Derived.Test.YtojgkbhpnebacaaWP
import Derived.Test.YtojgkbhpnebacaaWJ
set_option linter.unusedSimpArgs false
set_option linter.unusedVariables false
set_option linter.constructorNameAsVariable false
namespace Go.Proofs
open Go.Vc
set_option maxRecDepth 10000

theorem Dist.of {vs : List Value} (lo hi : Nat → Nat) (h : ∀ j (hj : j < vs.length) g, blk vs[j] g → lo j ≤ g ∧ g < hi j) (hm : ∀ i j, i < j → j < vs.length → hi i ≤ lo j) : Dist vs := by
  intro i j h1 h2 g h3 h4
  have a := h i h1 g h3
  have b := h j h2 g h4
  rcases Nat.lt_trichotomy i j with h5 | h5 | h5
  · have := hm i j h5 h2; omega
  · exact h5
  · have := hm j i h5 h1; omega
set_option maxHeartbeats 1600000 in
theorem keeps_ok (w : World) (x : Value) (bs : List Int) (hx : Rd w x bs) (hbb : byt bs) :
    Calls Try.prog 4 #[x] w (Ret fun u w' => u = .bool true ∧ Ext w w') := by
  refine calls_of_cfg c4_ok (Nat.le_of_ble_eq_true rfl) ?_
  simp only [argE_nil, argE_cons, Nat.reduceAdd, Nat.zero_add]
  (refine W_at c4_ok ?_; refine ⟨_, rfl, ?_⟩; simp (disch := first | omega | assumption | rfl | (simp only [vcS] <;> omega) | fail) only [↓ptV_l, ↓vcA, vcB, ↓vcD, vcE, ↓reduceIte, Nat.reduceEqDiff, Nat.reduceAdd, Nat.reduceMul, Nat.reduceLeDiff, Int.reduceLE, Int.reduceLT, Int.reduceEq, Int.reduceToNat, Int.reduceAdd, Int.reduceSub, Int.reduceMul, Int.reduceNeg, reduceCtorEq, Option.bind_some, Option.map_some, List.length_cons, List.length_nil, vcM, List.getElem?_toArray, List.getElem?_cons_zero, List.getElem?_cons_succ])
  (refine W_at c4_ok ?_; refine ⟨_, rfl, ?_⟩; simp (disch := first | omega | assumption | rfl | (simp only [vcS] <;> omega) | fail) only [↓ptV_l, ↓vcA, vcB, ↓vcD, vcE, ↓reduceIte, Nat.reduceEqDiff, Nat.reduceAdd, Nat.reduceMul, Nat.reduceLeDiff, Int.reduceLE, Int.reduceLT, Int.reduceEq, Int.reduceToNat, Int.reduceAdd, Int.reduceSub, Int.reduceMul, Int.reduceNeg, reduceCtorEq, Option.bind_some, Option.map_some, List.length_cons, List.length_nil, vcM, List.getElem?_toArray, List.getElem?_cons_zero, List.getElem?_cons_succ])
  refine callV_ret (awake_ok w) ?_
  rintro _ w0 ⟨rfl, hE0⟩
  simp (disch := first | omega | assumption | rfl | (simp only [vcS] <;> omega) | fail) only [↓ptV_l, ↓vcA, vcB, ↓vcD, vcE, ↓reduceIte, Nat.reduceEqDiff, Nat.reduceAdd, Nat.reduceMul, Nat.reduceLeDiff, Int.reduceLE, Int.reduceLT, Int.reduceEq, Int.reduceToNat, Int.reduceAdd, Int.reduceSub, Int.reduceMul, Int.reduceNeg, reduceCtorEq, Option.bind_some, Option.map_some, List.length_cons, List.length_nil, vcM, List.getElem?_toArray, List.getElem?_cons_zero, List.getElem?_cons_succ]
  (refine W_at c4_ok ?_; refine ⟨_, rfl, ?_⟩; simp (disch := first | omega | assumption | rfl | (simp only [vcS] <;> omega) | fail) only [↓ptV_l, ↓vcA, vcB, ↓vcD, vcE, ↓reduceIte, Nat.reduceEqDiff, Nat.reduceAdd, Nat.reduceMul, Nat.reduceLeDiff, Int.reduceLE, Int.reduceLT, Int.reduceEq, Int.reduceToNat, Int.reduceAdd, Int.reduceSub, Int.reduceMul, Int.reduceNeg, reduceCtorEq, Option.bind_some, Option.map_some, List.length_cons, List.length_nil, vcM, List.getElem?_toArray, List.getElem?_cons_zero, List.getElem?_cons_succ])
  (refine W_at c4_ok ?_; refine ⟨_, rfl, ?_⟩; simp (disch := first | omega | assumption | rfl | (simp only [vcS] <;> omega) | fail) only [↓ptV_l, ↓vcA, vcB, ↓vcD, vcE, ↓reduceIte, Nat.reduceEqDiff, Nat.reduceAdd, Nat.reduceMul, Nat.reduceLeDiff, Int.reduceLE, Int.reduceLT, Int.reduceEq, Int.reduceToNat, Int.reduceAdd, Int.reduceSub, Int.reduceMul, Int.reduceNeg, reduceCtorEq, Option.bind_some, Option.map_some, List.length_cons, List.length_nil, vcM, List.getElem?_toArray, List.getElem?_cons_zero, List.getElem?_cons_succ])
  refine callV_ret (short_ok w0 x bs (hx.ext hE0)) ?_
  rintro y wq ⟨hy0, hw⟩
  obtain rfl : w0 = wq := hw.symm
  have hy : ∀ wz, Ext w wz → Rd wz y (bs.take 300) := fun wz hz => hy0 wz (hx.ext hz)
  have hn3 : (bs.take 300).length ≤ 300 := by rw [List.length_take]; omega
  have hbl : byt (bs.take 300) := byt_take hbb 300
  generalize bs.take 300 = l at hy hn3 hbl
  clear hy0
  have hylen := (hy w (Keep.refl _ w)).len
  first | (simp (disch := first | omega | assumption | rfl | (simp only [vcS] <;> omega) | fail) only [↓ptV_l, ↓vcA, vcB, ↓vcD, vcE, ↓reduceIte, Nat.reduceEqDiff, Nat.reduceAdd, Nat.reduceMul, Nat.reduceLeDiff, Int.reduceLE, Int.reduceLT, Int.reduceEq, Int.reduceToNat, Int.reduceAdd, Int.reduceSub, Int.reduceMul, Int.reduceNeg, reduceCtorEq, Option.bind_some, Option.map_some, List.length_cons, List.length_nil, vcM, List.getElem?_toArray, List.getElem?_cons_zero, List.getElem?_cons_succ]) | skip
  (refine W_at c4_ok ?_; refine ⟨_, rfl, ?_⟩; simp (disch := first | omega | assumption | rfl | (simp only [vcS] <;> omega) | fail) only [↓ptV_l, ↓vcA, vcB, ↓vcD, vcE, ↓reduceIte, Nat.reduceEqDiff, Nat.reduceAdd, Nat.reduceMul, Nat.reduceLeDiff, Int.reduceLE, Int.reduceLT, Int.reduceEq, Int.reduceToNat, Int.reduceAdd, Int.reduceSub, Int.reduceMul, Int.reduceNeg, reduceCtorEq, Option.bind_some, Option.map_some, List.length_cons, List.length_nil, vcM, List.getElem?_toArray, List.getElem?_cons_zero, List.getElem?_cons_succ])
  refine callV_ret (spare_ok w0 y l (hy w0 hE0) hbl (by omega)) ?_
  rintro _ w1 ⟨g0, rfl, hA1, hE1, hg0⟩
  have hg0' : g0 < w1.heap.size := hA1.lt rfl
  have hs0 := hE0.size
  simp (disch := first | omega | assumption | rfl | (simp only [vcS] <;> omega) | fail) only [↓ptV_l, ↓vcA, vcB, ↓vcD, vcE, ↓reduceIte, Nat.reduceEqDiff, Nat.reduceAdd, Nat.reduceMul, Nat.reduceLeDiff, Int.reduceLE, Int.reduceLT, Int.reduceEq, Int.reduceToNat, Int.reduceAdd, Int.reduceSub, Int.reduceMul, Int.reduceNeg, reduceCtorEq, Option.bind_some, Option.map_some, List.length_cons, List.length_nil, vcM, List.getElem?_toArray, List.getElem?_cons_zero, List.getElem?_cons_succ]
  have hz1 : zc [(1, Value.slice none 0 0)] = #[.slice none 0 0] := rfl
  (refine W_at c4_ok ?_; refine ⟨_, rfl, ?_⟩; simp (disch := first | omega | assumption | rfl | (simp only [vcS] <;> omega) | fail) only [↓ptV_l, ↓vcA, vcB, ↓vcD, vcE, ↓reduceIte, Nat.reduceEqDiff, Nat.reduceAdd, Nat.reduceMul, Nat.reduceLeDiff, Int.reduceLE, Int.reduceLT, Int.reduceEq, Int.reduceToNat, Int.reduceAdd, Int.reduceSub, Int.reduceMul, Int.reduceNeg, reduceCtorEq, Option.bind_some, Option.map_some, List.length_cons, List.length_nil, vcM, List.getElem?_toArray, List.getElem?_cons_zero, List.getElem?_cons_succ, hz1])
  have hp : (w1.alloc (Obj.cells #[Value.slice none 0 0] 26)).heap[w1.heap.size]? = some (.cells #[.slice none 0 0] 26 (0, 0)) := heap_new _ _ _ rfl
  have hE2 : Ext w1 (w1.alloc (Obj.cells #[Value.slice none 0 0] 26)) := by (repeat' first | exact Keep.refl _ _ | assumption | refine Keep.drew ?_ | refine Keep.alloc ?_ _ | refine Keep.putN ?_ _ ?_ | refine Keep.setCell ?_ _ ?_ | refine Keep.setO ?_ _ ?_ | exact fun _ => Or.inl rfl | exact fun _ => Or.inr rfl | exact fun _ => rfl | (intro hh; exfalso; ((try simp only [vcS] at hh) <;> omega)))
  have hps : w1.heap.size < (w1.alloc (Obj.cells #[Value.slice none 0 0] 26)).heap.size := by rw [size_alloc]; omega
  generalize hpp : w1.heap.size = p at hp hps hg0' ⊢
  generalize World.alloc _ _ = w2 at hp hE2 hps ⊢
  have hA2 := hA1.ext hE2
  have hW2 : WAt w2 p (.slice none 0 0) [] := ⟨hp, Own1.nil w2⟩
  -- what is handed in
  have hin : ∀ wz, Own1 wz (.slice (some ⟨g0, 0, none⟩) (l.length + 9) (l.length + 9)) (spareF l) → Rd wz (.slice (some ⟨g0, 0, none⟩) l.length (l.length + 9)) l := by
    intro wz h
    have h1 := h.rd.cut (l := 0) (j := l.length) (by omega) (by omega)
    rw [List.drop_zero, advA_0] at h1
    have h2 : (spareF l).take l.length = l := by rw [spareF, List.take_left' rfl]
    rw [h2] at h1
    exact h1
  have hkA : ∀ (v : Value) wz, (∀ g, blk v g → p ≤ g) → Keep (WS p v) w2 wz → Own1 wz (.slice (some ⟨g0, 0, none⟩) (l.length + 9) (l.length + 9)) (spareF l) := fun v wz hv hk => hA2.keep hk fun g hg hs => by
    have : g0 = g := Option.some.inj hg
    rcases hs with h | h
    · omega
    · have := hv g h; omega
  have hv0 : ∀ g, blk (Value.slice none 0 0) g → p ≤ g := fun g h => by cases h
  (refine W_at c4_ok ?_; refine ⟨_, rfl, ?_⟩; simp (disch := first | omega | assumption | rfl | (simp only [vcS] <;> omega) | fail) only [↓ptV_l, ↓vcA, vcB, ↓vcD, vcE, ↓reduceIte, Nat.reduceEqDiff, Nat.reduceAdd, Nat.reduceMul, Nat.reduceLeDiff, Int.reduceLE, Int.reduceLT, Int.reduceEq, Int.reduceToNat, Int.reduceAdd, Int.reduceSub, Int.reduceMul, Int.reduceNeg, reduceCtorEq, Option.bind_some, Option.map_some, List.length_cons, List.length_nil, vcM, List.getElem?_toArray, List.getElem?_cons_zero, List.getElem?_cons_succ])
  refine callV_ret (bytes_ok w2 p _ [] _ l hW2 (hin w2 hA2) (fun wz hk => hin wz (hkA _ wz hv0 hk)) (by simp; omega)) ?_
  rintro _ w3 ⟨⟨v3, hW3, hv3⟩, hK3⟩
  have hv3' : ∀ g, blk v3 g → p ≤ g := fun g hg => by
    rcases hv3 g hg with h | h
    · cases h
    · omega
  rw [List.nil_append] at hW3
  have hA3 := hkA _ w3 hv0 hK3
  first | (simp (disch := first | omega | assumption | rfl | (simp only [vcS] <;> omega) | fail) only [↓ptV_l, ↓vcA, vcB, ↓vcD, vcE, ↓reduceIte, Nat.reduceEqDiff, Nat.reduceAdd, Nat.reduceMul, Nat.reduceLeDiff, Int.reduceLE, Int.reduceLT, Int.reduceEq, Int.reduceToNat, Int.reduceAdd, Int.reduceSub, Int.reduceMul, Int.reduceNeg, reduceCtorEq, Option.bind_some, Option.map_some, List.length_cons, List.length_nil, vcM, List.getElem?_toArray, List.getElem?_cons_zero, List.getElem?_cons_succ]) | skip
  (refine W_at c4_ok ?_; refine ⟨_, rfl, ?_⟩; simp (disch := first | omega | assumption | rfl | (simp only [vcS] <;> omega) | fail) only [↓ptV_l, ↓vcA, vcB, ↓vcD, vcE, ↓reduceIte, Nat.reduceEqDiff, Nat.reduceAdd, Nat.reduceMul, Nat.reduceLeDiff, Int.reduceLE, Int.reduceLT, Int.reduceEq, Int.reduceToNat, Int.reduceAdd, Int.reduceSub, Int.reduceMul, Int.reduceNeg, reduceCtorEq, Option.bind_some, Option.map_some, List.length_cons, List.length_nil, vcM, List.getElem?_toArray, List.getElem?_cons_zero, List.getElem?_cons_succ])
  have hsz := @sizeF_len (l.length : Int)
  refine callV_ret (raw_ok w3 p v3 _ _ l hW3 (hin w3 hA3) (by rw [List.length_append]; omega)) ?_
  rintro _ w4 ⟨⟨v4, hW4, hv4⟩, hK4⟩
  have hv4' : ∀ g, blk v4 g → p ≤ g := fun g hg => by
    rcases hv4 g hg with h | h
    · exact hv3' g h
    · have := hK3.size; omega
  have hA4 : Own1 w4 (.slice (some ⟨g0, 0, none⟩) (l.length + 9) (l.length + 9)) (spareF l) := hA3.keep hK4 fun g hg hs => by
    have : g0 = g := Option.some.inj hg
    rcases hs with h | h
    · omega
    · have := hv3' g h; omega
  have hX4 : Ext w w4 := by
    have h1 : Ext w w2 := (hE0.ext hE1).ext hE2
    have h2 : Ext w w3 := h1.trans hK3 fun i hi hs => by
      rcases hs with h | h
      · have := hE0.size; have := hE1.size; omega
      · cases h
    refine h2.trans hK4 fun i hi hs => ?_
    have := hE0.size; have := hE1.size
    rcases hs with h | h
    · omega
    · have := hv3' i h; omega
  have hp4 := hW4.lt
  have hwant : ∃ wt, sizeF (l.length : Nat) ++ l ++ l = wt := ⟨_, rfl⟩
  obtain ⟨wt, hwt⟩ := hwant
  rw [hwt] at hW4
  have hwtl : wt.length ≤ 700 := by rw [← hwt, List.length_append, List.length_append]; omega
  have hwtb : byt wt := by rw [← hwt]; exact byt_app (byt_app (sizeF_byt (by omega)) hbl) hbl
  first | (simp (disch := first | omega | assumption | rfl | (simp only [vcS] <;> omega) | fail) only [↓ptV_l, ↓vcA, vcB, ↓vcD, vcE, ↓reduceIte, Nat.reduceEqDiff, Nat.reduceAdd, Nat.reduceMul, Nat.reduceLeDiff, Int.reduceLE, Int.reduceLT, Int.reduceEq, Int.reduceToNat, Int.reduceAdd, Int.reduceSub, Int.reduceMul, Int.reduceNeg, reduceCtorEq, Option.bind_some, Option.map_some, List.length_cons, List.length_nil, vcM, List.getElem?_toArray, List.getElem?_cons_zero, List.getElem?_cons_succ]) | skip
  (refine W_at c4_ok ?_; refine ⟨_, rfl, ?_⟩; simp (disch := first | omega | assumption | rfl | (simp only [vcS] <;> omega) | fail) only [↓ptV_l, ↓vcA, vcB, ↓vcD, vcE, ↓reduceIte, Nat.reduceEqDiff, Nat.reduceAdd, Nat.reduceMul, Nat.reduceLeDiff, Int.reduceLE, Int.reduceLT, Int.reduceEq, Int.reduceToNat, Int.reduceAdd, Int.reduceSub, Int.reduceMul, Int.reduceNeg, reduceCtorEq, Option.bind_some, Option.map_some, List.length_cons, List.length_nil, vcM, List.getElem?_toArray, List.getElem?_cons_zero, List.getElem?_cons_succ])
  refine callV_ret (out_ok w4 p v4 wt hW4 (by omega)) ?_
  rintro one w5 ⟨hO5, hX5, hn5⟩
  refine callV_ret (out_ok w5 p v4 wt (hW4.keep hX5 (fun h => h) fun _ _ h => h) (by omega)) ?_
  rintro two w6 ⟨hT6, hX6, hn6⟩
  have hA6 := (hA4.ext hX5).ext hX6
  have hs6 : 0 ≤ (l.length : Int) ∧ (l.length : Int) ≤ ((l.length + 9 : Nat) : Int) := by omega
  first | (simp (disch := first | omega | assumption | rfl | (simp only [vcS] <;> omega) | fail) only [↓ptV_l, ↓vcA, vcB, ↓vcD, vcE, ↓reduceIte, Nat.reduceEqDiff, Nat.reduceAdd, Nat.reduceMul, Nat.reduceLeDiff, Int.reduceLE, Int.reduceLT, Int.reduceEq, Int.reduceToNat, Int.reduceAdd, Int.reduceSub, Int.reduceMul, Int.reduceNeg, reduceCtorEq, Option.bind_some, Option.map_some, List.length_cons, List.length_nil, vcM, List.getElem?_toArray, List.getElem?_cons_zero, List.getElem?_cons_succ]) | skip
  (refine W_at c4_ok ?_; refine ⟨_, rfl, ?_⟩; simp (disch := first | omega | assumption | rfl | (simp only [vcS] <;> omega) | fail) only [↓ptV_l, ↓vcA, vcB, ↓vcD, vcE, ↓reduceIte, Nat.reduceEqDiff, Nat.reduceAdd, Nat.reduceMul, Nat.reduceLeDiff, Int.reduceLE, Int.reduceLT, Int.reduceEq, Int.reduceToNat, Int.reduceAdd, Int.reduceSub, Int.reduceMul, Int.reduceNeg, reduceCtorEq, Option.bind_some, Option.map_some, List.length_cons, List.length_nil, vcM, List.getElem?_toArray, List.getElem?_cons_zero, List.getElem?_cons_succ, hylen, hs6, Int.toNat_natCast])
  refine callV_ret (open_ok w6 _ l (hin w6 hA6) (by omega)) ?_
  rintro _ w7 ⟨r, B, v7, rfl, hR7, hX7, hr7, hB7, hB7'⟩
  first | (simp (disch := first | omega | assumption | rfl | (simp only [vcS] <;> omega) | fail) only [↓ptV_l, ↓vcA, vcB, ↓vcD, vcE, ↓reduceIte, Nat.reduceEqDiff, Nat.reduceAdd, Nat.reduceMul, Nat.reduceLeDiff, Int.reduceLE, Int.reduceLT, Int.reduceEq, Int.reduceToNat, Int.reduceAdd, Int.reduceSub, Int.reduceMul, Int.reduceNeg, reduceCtorEq, Option.bind_some, Option.map_some, List.length_cons, List.length_nil, vcM, List.getElem?_toArray, List.getElem?_cons_zero, List.getElem?_cons_succ]) | skip
  (refine W_at c4_ok ?_; refine ⟨_, rfl, ?_⟩; simp (disch := first | omega | assumption | rfl | (simp only [vcS] <;> omega) | fail) only [↓ptV_l, ↓vcA, vcB, ↓vcD, vcE, ↓reduceIte, Nat.reduceEqDiff, Nat.reduceAdd, Nat.reduceMul, Nat.reduceLeDiff, Int.reduceLE, Int.reduceLT, Int.reduceEq, Int.reduceToNat, Int.reduceAdd, Int.reduceSub, Int.reduceMul, Int.reduceNeg, reduceCtorEq, Option.bind_some, Option.map_some, List.length_cons, List.length_nil, vcM, List.getElem?_toArray, List.getElem?_cons_zero, List.getElem?_cons_succ, hylen])
  refine callV_ret (rRaw_ok w7 r B v7 l 0 l.length hR7 hB7' (by omega)) ?_
  intro three w8 hT8
  obtain ⟨⟨h38, hn8⟩, _, _⟩ := hT8.ok rfl l [] (by rw [rawR, Int.toNat_natCast, if_pos (Nat.le_refl _), List.take_length, List.drop_length])
  have hk8 := hT8.keep
  have hX68 : Ext w6 w8 := hX7.trans hk8 fun j hj (h : j = r) => by omega
  have hO8 := (hO5.ext hX6).ext hX68
  first | (simp (disch := first | omega | assumption | rfl | (simp only [vcS] <;> omega) | fail) only [↓ptV_l, ↓vcA, vcB, ↓vcD, vcE, ↓reduceIte, Nat.reduceEqDiff, Nat.reduceAdd, Nat.reduceMul, Nat.reduceLeDiff, Int.reduceLE, Int.reduceLT, Int.reduceEq, Int.reduceToNat, Int.reduceAdd, Int.reduceSub, Int.reduceMul, Int.reduceNeg, reduceCtorEq, Option.bind_some, Option.map_some, List.length_cons, List.length_nil, vcM, List.getElem?_toArray, List.getElem?_cons_zero, List.getElem?_cons_succ]) | skip
  refine callV_ret (open_ok w8 _ wt hO8.rd (by omega)) ?_
  rintro _ w9 ⟨r2, B2, v9, rfl, hR9, hX9, hr9, hB9, hB9'⟩
  first | (simp (disch := first | omega | assumption | rfl | (simp only [vcS] <;> omega) | fail) only [↓ptV_l, ↓vcA, vcB, ↓vcD, vcE, ↓reduceIte, Nat.reduceEqDiff, Nat.reduceAdd, Nat.reduceMul, Nat.reduceLeDiff, Int.reduceLE, Int.reduceLT, Int.reduceEq, Int.reduceToNat, Int.reduceAdd, Int.reduceSub, Int.reduceMul, Int.reduceNeg, reduceCtorEq, Option.bind_some, Option.map_some, List.length_cons, List.length_nil, vcM, List.getElem?_toArray, List.getElem?_cons_zero, List.getElem?_cons_succ]) | skip
  (refine W_at c4_ok ?_; refine ⟨_, rfl, ?_⟩; simp (disch := first | omega | assumption | rfl | (simp only [vcS] <;> omega) | fail) only [↓ptV_l, ↓vcA, vcB, ↓vcD, vcE, ↓reduceIte, Nat.reduceEqDiff, Nat.reduceAdd, Nat.reduceMul, Nat.reduceLeDiff, Int.reduceLE, Int.reduceLT, Int.reduceEq, Int.reduceToNat, Int.reduceAdd, Int.reduceSub, Int.reduceMul, Int.reduceNeg, reduceCtorEq, Option.bind_some, Option.map_some, List.length_cons, List.length_nil, vcM, List.getElem?_toArray, List.getElem?_cons_zero, List.getElem?_cons_succ])
  refine callV_ret (rBytes_ok w9 r2 B2 v9 wt 0 300 hR9 hB9' hwtb (by omega)) ?_
  intro four w10 hT10
  obtain ⟨⟨h410, hn10⟩, _, _⟩ := hT10.ok rfl l l (by rw [← hwt]; exact byt_encm 300 l l (by omega) (by omega))
  have hk10 := hT10.keep
  have hX8A : Ext w8 w10 := hX9.trans hk10 fun j hj (h : j = r2) => by omega
  have hX6A : Ext w6 w10 := hX68.ext hX8A
  have hX4A : Ext w4 w10 := (hX5.ext hX6).ext hX6A
  first | (simp (disch := first | omega | assumption | rfl | (simp only [vcS] <;> omega) | fail) only [↓ptV_l, ↓vcA, vcB, ↓vcD, vcE, ↓reduceIte, Nat.reduceEqDiff, Nat.reduceAdd, Nat.reduceMul, Nat.reduceLeDiff, Int.reduceLE, Int.reduceLT, Int.reduceEq, Int.reduceToNat, Int.reduceAdd, Int.reduceSub, Int.reduceMul, Int.reduceNeg, reduceCtorEq, Option.bind_some, Option.map_some, List.length_cons, List.length_nil, vcM, List.getElem?_toArray, List.getElem?_cons_zero, List.getElem?_cons_succ]) | skip
  (refine W_at c4_ok ?_; refine ⟨_, rfl, ?_⟩; simp (disch := first | omega | assumption | rfl | (simp only [vcS] <;> omega) | fail) only [↓ptV_l, ↓vcA, vcB, ↓vcD, vcE, ↓reduceIte, Nat.reduceEqDiff, Nat.reduceAdd, Nat.reduceMul, Nat.reduceLeDiff, Int.reduceLE, Int.reduceLT, Int.reduceEq, Int.reduceToNat, Int.reduceAdd, Int.reduceSub, Int.reduceMul, Int.reduceNeg, reduceCtorEq, Option.bind_some, Option.map_some, List.length_cons, List.length_nil, vcM, List.getElem?_toArray, List.getElem?_cons_zero, List.getElem?_cons_succ])
  refine callV_ret (text_ok w10 y l (hy w10 (hX4.ext hX4A)) (by omega)) ?_
  intro tx w11 hN11
  first | (simp (disch := first | omega | assumption | rfl | (simp only [vcS] <;> omega) | fail) only [↓ptV_l, ↓vcA, vcB, ↓vcD, vcE, ↓reduceIte, Nat.reduceEqDiff, Nat.reduceAdd, Nat.reduceMul, Nat.reduceLeDiff, Int.reduceLE, Int.reduceLT, Int.reduceEq, Int.reduceToNat, Int.reduceAdd, Int.reduceSub, Int.reduceMul, Int.reduceNeg, reduceCtorEq, Option.bind_some, Option.map_some, List.length_cons, List.length_nil, vcM, List.getElem?_toArray, List.getElem?_cons_zero, List.getElem?_cons_succ]) | skip
  refine appN hN11 (hy w11 ((hX4.ext hX4A).ext hN11.ext)) (by rw [List.length_append]; omega) fun want w12 h1 h2 h3 => ?_
  rw [hwt] at h1
  have hX12 := h1.ext
  have hX4C : Ext w4 w12 := hX4A.ext hX12
  have hXC : Ext w w12 := hX4.ext hX4C
  have hAC := hA4.ext hX4C
  have hWC : WAt w12 p v4 wt := hW4.keep hX4C (fun h => h) fun _ _ h => h
  have hOC : Own1 w12 one wt := hO5.ext ((hX6.ext hX6A).ext hX12)
  have hTC : Own1 w12 two wt := hT6.ext (hX6A.ext hX12)
  have h3C : Own1 w12 three l := h38.ext (hX8A.ext hX12)
  have h4C : Own1 w12 four l := h410.ext hX12
  have hwC := h1.own
  have hnw := h1.new
  have i1 : ∀ g, blk one g → w4.heap.size ≤ g ∧ g < w5.heap.size := fun g hg => ⟨hn5 g hg, hO5.lt hg⟩
  have i2 : ∀ g, blk two g → w5.heap.size ≤ g ∧ g < w6.heap.size := fun g hg => ⟨hn6 g hg, hT6.lt hg⟩
  have i3 : ∀ g, blk three g → w7.heap.size ≤ g ∧ g < w8.heap.size := fun g hg => ⟨hn8 g hg, h38.lt hg⟩
  have i4 : ∀ g, blk four g → w9.heap.size ≤ g ∧ g < w10.heap.size := fun g hg => ⟨hn10 g hg, h410.lt hg⟩
  have i5 : ∀ g, blk want g → w10.heap.size ≤ g ∧ g < w12.heap.size := fun g hg => ⟨hnw g hg, hwC.lt hg⟩
  have z45 := hX5.size
  have z56 := hX6.size
  have z67 := hX7.size
  have z78 := hk8.size
  have z89 := hX9.size
  have z9A := hk10.size
  have zAC := hX12.size
  clear h1 hN11 h2 h3 hT10 hT8 hR9 hR7 hk10 hk8
  (refine W_at c4_ok ?_; refine ⟨_, rfl, ?_⟩; simp (disch := first | omega | assumption | rfl | (simp only [vcS] <;> omega) | fail) only [↓vcL1, ptS2_eq, ↓vcA, vcB, ↓vcD, vcE, ↓reduceIte, Nat.reduceEqDiff, Nat.reduceAdd, Nat.reduceMul, Nat.reduceLeDiff, Int.reduceLE, Int.reduceLT, Int.reduceEq, Int.reduceToNat, Int.reduceAdd, Int.reduceSub, Int.reduceMul, Int.reduceNeg, reduceCtorEq, Option.bind_some, Option.map_some, List.length_cons, List.length_nil, vcM, List.getElem?_toArray, List.getElem?_cons_zero, List.getElem?_cons_succ])
  refine callV_ret (kept_ok w12 _ y l hAC.rd (hy w12 hXC) (by omega)) ?_
  rintro _ wD ⟨rfl, hXD⟩
  simp (disch := first | omega | assumption | rfl | (simp only [vcS] <;> omega) | fail) only [↓vcL2, ptS1_eq, ↓vcA, vcB, ↓vcD, vcE, ↓reduceIte, Nat.reduceEqDiff, Nat.reduceAdd, Nat.reduceMul, Nat.reduceLeDiff, Int.reduceLE, Int.reduceLT, Int.reduceEq, Int.reduceToNat, Int.reduceAdd, Int.reduceSub, Int.reduceMul, Int.reduceNeg, reduceCtorEq, Option.bind_some, Option.map_some, List.length_cons, List.length_nil, vcM, List.getElem?_toArray, List.getElem?_cons_zero, List.getElem?_cons_succ]
  refine callV_ret (equal_ok wD one want wt wt (hOC.ext hXD).rd (hwC.ext hXD).rd hwtb hwtb) ?_
  rintro _ wq ⟨rfl, hw⟩
  obtain rfl : wD = wq := hw.symm
  rw [show decide (wt = wt) = true from decide_eq_true rfl]
  simp (disch := first | omega | assumption | rfl | (simp only [vcS] <;> omega) | fail) only [↓vcL1, ptS2_eq, ↓vcA, vcB, ↓vcD, vcE, ↓reduceIte, Nat.reduceEqDiff, Nat.reduceAdd, Nat.reduceMul, Nat.reduceLeDiff, Int.reduceLE, Int.reduceLT, Int.reduceEq, Int.reduceToNat, Int.reduceAdd, Int.reduceSub, Int.reduceMul, Int.reduceNeg, reduceCtorEq, Option.bind_some, Option.map_some, List.length_cons, List.length_nil, vcM, List.getElem?_toArray, List.getElem?_cons_zero, List.getElem?_cons_succ]
  refine callV_ret (equal_ok wD four y l l (h4C.ext hXD).rd (hy wD (hXC.ext hXD)) hbl hbl) ?_
  rintro _ wq ⟨rfl, hw⟩
  obtain rfl : wD = wq := hw.symm
  rw [show decide (l = l) = true from decide_eq_true rfl]
  simp (disch := first | omega | assumption | rfl | (simp only [vcS] <;> omega) | fail) only [↓vcL2, ptS1_eq, ↓vcA, vcB, ↓vcD, vcE, ↓reduceIte, Nat.reduceEqDiff, Nat.reduceAdd, Nat.reduceMul, Nat.reduceLeDiff, Int.reduceLE, Int.reduceLT, Int.reduceEq, Int.reduceToNat, Int.reduceAdd, Int.reduceSub, Int.reduceMul, Int.reduceNeg, reduceCtorEq, Option.bind_some, Option.map_some, List.length_cons, List.length_nil, vcM, List.getElem?_toArray, List.getElem?_cons_zero, List.getElem?_cons_succ]
  have hk := hXD.size
  have hAD := hAC.ext hXD
  have hfin : ∀ (s : Env) (wL : World) (lv : List Int), Own1 wL (.slice (some ⟨g0, 0, none⟩) (l.length + 9) (l.length + 9)) lv → lv.length = l.length + 9 → Keep (fun j => j = g0) wD wL →
      W Try.prog (Ret fun u w' => u = .bool true ∧ Ext w w') 4 2 ((0, y) :: (3, .slice (some ⟨g0, 0, none⟩) l.length (l.length + 9)) :: (4, .slice (some ⟨g0, 0, none⟩) (l.length + 9) (l.length + 9)) :: (5, .pointer (some ⟨p, 0, none⟩)) :: (6, one) :: (7, two) :: (9, three) :: (11, four) :: (12, want) :: s) wL := by
    intro s wL lv hAL hlv hkL
    have q1 : ∀ g, blk one g → ¬ g = g0 := fun g hg => by have := i1 g hg; omega
    have q2 : ∀ g, blk two g → ¬ g = g0 := fun g hg => by have := i2 g hg; omega
    have q3 : ∀ g, blk three g → ¬ g = g0 := fun g hg => by have := i3 g hg; omega
    have q4 : ∀ g, blk four g → ¬ g = g0 := fun g hg => by have := i4 g hg; omega
    have q5 : ∀ g, blk want g → ¬ g = g0 := fun g hg => by have := i5 g hg; omega
    have qv : ∀ g, blk v4 g → ¬ g = g0 := fun g hg => by have := hv4' g hg; omega
    have hOL := (hOC.ext hXD).keep hkL q1
    have hTL := (hTC.ext hXD).keep hkL q2
    have h3L := (h3C.ext hXD).keep hkL q3
    have h4L := (h4C.ext hXD).keep hkL q4
    have hwL := (hwC.ext hXD).keep hkL q5
    have hWL := (hWC.keep hXD (fun h => h) fun _ _ h => h).keep hkL (by omega) qv
    have zL := hkL.size
    have hXL : Ext w wL := (hXC.ext hXD).trans hkL fun j hj (h : j = g0) => by omega
    clear hOC hTC h3C h4C hwC hWC hAD
    (refine W_at c4_ok ?_; refine ⟨_, rfl, ?_⟩; simp (disch := first | omega | assumption | rfl | (simp only [vcS] <;> omega) | fail) only [↓vcL1, ptS2_eq, ↓vcA, vcB, ↓vcD, vcE, ↓reduceIte, Nat.reduceEqDiff, Nat.reduceAdd, Nat.reduceMul, Nat.reduceLeDiff, Int.reduceLE, Int.reduceLT, Int.reduceEq, Int.reduceToNat, Int.reduceAdd, Int.reduceSub, Int.reduceMul, Int.reduceNeg, reduceCtorEq, Option.bind_some, Option.map_some, List.length_cons, List.length_nil, vcM, List.getElem?_toArray, List.getElem?_cons_zero, List.getElem?_cons_succ])
    refine callV_ret (out_ok wL p v4 wt hWL (by omega)) ?_
    rintro o2 wM ⟨hoM, hXM, hnM⟩
    simp (disch := first | omega | assumption | rfl | (simp only [vcS] <;> omega) | fail) only [↓vcL2, ptS1_eq, ↓vcA, vcB, ↓vcD, vcE, ↓reduceIte, Nat.reduceEqDiff, Nat.reduceAdd, Nat.reduceMul, Nat.reduceLeDiff, Int.reduceLE, Int.reduceLT, Int.reduceEq, Int.reduceToNat, Int.reduceAdd, Int.reduceSub, Int.reduceMul, Int.reduceNeg, reduceCtorEq, Option.bind_some, Option.map_some, List.length_cons, List.length_nil, vcM, List.getElem?_toArray, List.getElem?_cons_zero, List.getElem?_cons_succ]
    refine callV_ret (equal_ok wM o2 want wt wt hoM.rd (hwL.ext hXM).rd hwtb hwtb) ?_
    rintro _ wq ⟨rfl, hw⟩
    obtain rfl : wM = wq := hw.symm
    rw [show decide (wt = wt) = true from decide_eq_true rfl]
    simp (disch := first | omega | assumption | rfl | (simp only [vcS] <;> omega) | fail) only [↓vcL1, ptS2_eq, ↓vcA, vcB, ↓vcD, vcE, ↓reduceIte, Nat.reduceEqDiff, Nat.reduceAdd, Nat.reduceMul, Nat.reduceLeDiff, Int.reduceLE, Int.reduceLT, Int.reduceEq, Int.reduceToNat, Int.reduceAdd, Int.reduceSub, Int.reduceMul, Int.reduceNeg, reduceCtorEq, Option.bind_some, Option.map_some, List.length_cons, List.length_nil, vcM, List.getElem?_toArray, List.getElem?_cons_zero, List.getElem?_cons_succ]
    refine callV_ret (equal_ok wM three y l l (h3L.ext hXM).rd (hy wM (hXL.ext hXM)) hbl hbl) ?_
    rintro _ wq ⟨rfl, hw⟩
    obtain rfl : wM = wq := hw.symm
    rw [show decide (l = l) = true from decide_eq_true rfl]
    simp (disch := first | omega | assumption | rfl | (simp only [vcS] <;> omega) | fail) only [↓vcL2, ptS1_eq, ↓vcA, vcB, ↓vcD, vcE, ↓reduceIte, Nat.reduceEqDiff, Nat.reduceAdd, Nat.reduceMul, Nat.reduceLeDiff, Int.reduceLE, Int.reduceLT, Int.reduceEq, Int.reduceToNat, Int.reduceAdd, Int.reduceSub, Int.reduceMul, Int.reduceNeg, reduceCtorEq, Option.bind_some, Option.map_some, List.length_cons, List.length_nil, vcM, List.getElem?_toArray, List.getElem?_cons_zero, List.getElem?_cons_succ]
    refine callV_ret (out_ok wM p v4 wt (hWL.keep hXM (fun h => h) fun _ _ h => h) (by omega)) ?_
    rintro o3 wN ⟨hoN, hXN, hnN⟩
    have e1 : Value.cells one = #[one] := by
      obtain ⟨_, ⟨rfl, h0⟩ | ⟨g, cap, cur, rfl, _⟩⟩ := hOL <;> rfl
    have e2 : Value.cells two = #[two] := by
      obtain ⟨_, ⟨rfl, h0⟩ | ⟨g, cap, cur, rfl, _⟩⟩ := hTL <;> rfl
    have e3 : Value.cells three = #[three] := by
      obtain ⟨_, ⟨rfl, h0⟩ | ⟨g, cap, cur, rfl, _⟩⟩ := h3L <;> rfl
    have e4 : Value.cells four = #[four] := by
      obtain ⟨_, ⟨rfl, h0⟩ | ⟨g, cap, cur, rfl, _⟩⟩ := h4L <;> rfl
    have e6 : Value.cells o3 = #[o3] := by
      obtain ⟨_, ⟨rfl, h0⟩ | ⟨g, cap, cur, rfl, _⟩⟩ := hoN <;> rfl
    simp (disch := first | omega | assumption | rfl | (simp only [vcS] <;> omega) | fail) only [↓vcL1, ptS2_eq, ↓vcA, vcB, ↓vcD, vcE, ↓reduceIte, Nat.reduceEqDiff, Nat.reduceAdd, Nat.reduceMul, Nat.reduceLeDiff, Int.reduceLE, Int.reduceLT, Int.reduceEq, Int.reduceToNat, Int.reduceAdd, Int.reduceSub, Int.reduceMul, Int.reduceNeg, reduceCtorEq, Option.bind_some, Option.map_some, List.length_cons, List.length_nil, vcM, List.getElem?_toArray, List.getElem?_cons_zero, List.getElem?_cons_succ, e1, e2, e3, e4, e6]
    have hEa : Ext wN (wN.alloc (Obj.cells [Value.slice (some ⟨g0, 0, none⟩) (l.length + 9) (l.length + 9), one, two, three, four, o3].toArray 24)) := (Keep.refl _ wN).alloc _
    have hra := rdS_own (own_lit (w := wN) (el := 24) (size := 1) (n := 6) (cs := [Value.slice (some ⟨g0, 0, none⟩) (l.length + 9) (l.length + 9), one, two, three, four, o3]) rfl (by decide))
    have zM := hXM.size
    have zN := hXN.size
    have hXa : Ext wL wN := hXM.ext hXN
    have r0 : ∀ g, blk (Value.slice (some ⟨g0, 0, none⟩) (l.length + 9) (l.length + 9)) g → w0.heap.size ≤ g ∧ g < p := fun g hg => by
      have : g0 = g := Option.some.inj hg
      omega
    have r5 : ∀ g, blk o3 g → wM.heap.size ≤ g ∧ g < wN.heap.size := fun g hg => ⟨hnN g hg, hoN.lt hg⟩
    have hbd : ∀ (j : Nat) (hj : j < [Value.slice (some ⟨g0, 0, none⟩) (l.length + 9) (l.length + 9), one, two, three, four, o3].length) (g : Nat), blk [Value.slice (some ⟨g0, 0, none⟩) (l.length + 9) (l.length + 9), one, two, three, four, o3][j] g →
        [w0.heap.size, w4.heap.size, w5.heap.size, w7.heap.size, w9.heap.size, wM.heap.size].getD j 0 ≤ g ∧ g < [p, w5.heap.size, w6.heap.size, w8.heap.size, w10.heap.size, wN.heap.size].getD j 0 := by
      intro j hj g hg
      rcases j with _ | _ | _ | _ | _ | _ | j
      · exact r0 g hg
      · exact i1 g hg
      · exact i2 g hg
      · exact i3 g hg
      · exact i4 g hg
      · exact r5 g hg
      · simp at hj; omega
    have hdist : Dist [Value.slice (some ⟨g0, 0, none⟩) (l.length + 9) (l.length + 9), one, two, three, four, o3] := by
      refine Dist.of _ _ hbd ?_
      intro i j hij hj
      rcases j with _ | _ | _ | _ | _ | _ | j
      · omega
      all_goals (try (simp at hj; omega))
      all_goals (rcases i with _ | _ | _ | _ | _ | i <;> simp only [List.getD_cons_zero, List.getD_cons_succ] <;> omega)
    have hown : OwnL (wN.alloc (Obj.cells [Value.slice (some ⟨g0, 0, none⟩) (l.length + 9) (l.length + 9), one, two, three, four, o3].toArray 24)) [Value.slice (some ⟨g0, 0, none⟩) (l.length + 9) (l.length + 9), one, two, three, four, o3] (fun j => [lv, wt, wt, l, l, wt].getD j []) := by
      refine ⟨fun j hj => ?_, fun j => ?_⟩
      · rcases j with _ | _ | _ | _ | _ | _ | j
        · exact (hAL.ext hXa).ext hEa
        · exact (hOL.ext hXa).ext hEa
        · exact (hTL.ext hXa).ext hEa
        · exact (h3L.ext hXa).ext hEa
        · exact (h4L.ext hXa).ext hEa
        · exact hoN.ext hEa
        · simp at hj; omega
      · rcases j with _ | _ | _ | _ | _ | _ | j <;> simp only [List.getD_cons_zero, List.getD_cons_succ] <;> first | omega | (simp; done)
    refine callV_ret (apart_ok _ _ 6 6 _ _ hra rfl (by decide) ?_ hown hdist) ?_
    · intro a ha hin
      cases ha
      obtain ⟨j, hj, hb⟩ := hin
      have h5 := hbd j hj _ hb
      rcases j with _ | _ | _ | _ | _ | _ | j
      all_goals (try (simp at hj; omega))
      all_goals (simp only [List.getD_cons_zero, List.getD_cons_succ] at h5; omega)
    · rintro _ wO ⟨rfl, hKO⟩
      first | (simp (disch := first | omega | assumption | rfl | (simp only [vcS] <;> omega) | fail) only [↓vcL2, ptS1_eq, ↓vcA, vcB, ↓vcD, vcE, ↓reduceIte, Nat.reduceEqDiff, Nat.reduceAdd, Nat.reduceMul, Nat.reduceLeDiff, Int.reduceLE, Int.reduceLT, Int.reduceEq, Int.reduceToNat, Int.reduceAdd, Int.reduceSub, Int.reduceMul, Int.reduceNeg, reduceCtorEq, Option.bind_some, Option.map_some, List.length_cons, List.length_nil, vcM, List.getElem?_toArray, List.getElem?_cons_zero, List.getElem?_cons_succ]) | skip
      have hXO : Ext w wO := ((hXL.ext hXa).ext hEa).trans hKO fun j hj hin => by
        obtain ⟨t, ht, hb⟩ := hin
        have h5 := hbd t ht _ hb
        rcases t with _ | _ | _ | _ | _ | _ | t
        all_goals (try (simp at ht; omega))
        all_goals (simp only [List.getD_cons_zero, List.getD_cons_succ] at h5; omega)
      (refine W_at c4_ok ?_; refine ⟨_, rfl, ?_⟩; simp (disch := first | omega | assumption | rfl | (simp only [vcS] <;> omega) | fail) only [↓ptV_l, ↓vcA, vcB, ↓vcD, vcE, ↓reduceIte, Nat.reduceEqDiff, Nat.reduceAdd, Nat.reduceMul, Nat.reduceLeDiff, Int.reduceLE, Int.reduceLT, Int.reduceEq, Int.reduceToNat, Int.reduceAdd, Int.reduceSub, Int.reduceMul, Int.reduceNeg, reduceCtorEq, Option.bind_some, Option.map_some, List.length_cons, List.length_nil, vcM, List.getElem?_toArray, List.getElem?_cons_zero, List.getElem?_cons_succ, Ret_returned])
      exact hXO
  have L : ∀ (k i : Nat) (wj : World) (lv : List Int), k + i = l.length → Own1 wj (.slice (some ⟨g0, 0, none⟩) (l.length + 9) (l.length + 9)) lv → lv.length = l.length + 9 → Keep (fun j => j = g0) wD wj →
      W Try.prog (Ret fun u w' => u = .bool true ∧ Ext w w') 4 8 [(0, y), (3, .slice (some ⟨g0, 0, none⟩) l.length (l.length + 9)), (4, .slice (some ⟨g0, 0, none⟩) (l.length + 9) (l.length + 9)), (5, .pointer (some ⟨p, 0, none⟩)), (6, one), (7, two), (9, three), (11, four), (12, want), (63, .int .i64 (l.length : Nat)), (64, .int .i64 (i : Nat))] wj := by
    intro k
    induction k with
    | zero =>
      intro i wj lv hi hO hlv hk
      have hlt : ¬ ((i : Int) < (l.length : Nat)) := by omega
      (refine W_at c4_ok ?_; refine ⟨_, rfl, ?_⟩; simp (disch := first | omega | assumption | rfl | (simp only [vcS] <;> omega) | fail) only [↓ptV_l, ↓vcA, vcB, ↓vcD, vcE, ↓reduceIte, Nat.reduceEqDiff, Nat.reduceAdd, Nat.reduceMul, Nat.reduceLeDiff, Int.reduceLE, Int.reduceLT, Int.reduceEq, Int.reduceToNat, Int.reduceAdd, Int.reduceSub, Int.reduceMul, Int.reduceNeg, reduceCtorEq, Option.bind_some, Option.map_some, List.length_cons, List.length_nil, vcM, List.getElem?_toArray, List.getElem?_cons_zero, List.getElem?_cons_succ, hlt])
      (refine W_at c4_ok ?_; refine ⟨_, rfl, ?_⟩; simp (disch := first | omega | assumption | rfl | (simp only [vcS] <;> omega) | fail) only [↓ptV_l, ↓vcA, vcB, ↓vcD, vcE, ↓reduceIte, Nat.reduceEqDiff, Nat.reduceAdd, Nat.reduceMul, Nat.reduceLeDiff, Int.reduceLE, Int.reduceLT, Int.reduceEq, Int.reduceToNat, Int.reduceAdd, Int.reduceSub, Int.reduceMul, Int.reduceNeg, reduceCtorEq, Option.bind_some, Option.map_some, List.length_cons, List.length_nil, vcM, List.getElem?_toArray, List.getElem?_cons_zero, List.getElem?_cons_succ])
      exact hfin _ wj lv hO hlv hk
    | succ k ih =>
      intro i wj lv hi hO hlv hk
      have hlt : (i : Int) < (l.length : Nat) := by omega
      have hi2 : 0 ≤ (i : Int) ∧ (i : Int) < (l.length : Nat) := by omega
      have hwi : IntKind.i64.wrap ((i : Int) + 1) = ((i + 1 : Nat) : Int) := wrap_i64 (by omega) (by omega)
      have hil : i < lv.length := by omega
      obtain ⟨b, o, c, e, hcell⟩ := hO.rd.at hil
      injection e with e1 e2 e3
      cases e1
      rw [Nat.zero_add] at hcell
      (refine W_at c4_ok ?_; refine ⟨_, rfl, ?_⟩; simp (disch := first | omega | assumption | rfl | (simp only [vcS] <;> omega) | fail) only [↓ptV_l, ↓vcA, vcB, ↓vcD, vcE, ↓reduceIte, Nat.reduceEqDiff, Nat.reduceAdd, Nat.reduceMul, Nat.reduceLeDiff, Int.reduceLE, Int.reduceLT, Int.reduceEq, Int.reduceToNat, Int.reduceAdd, Int.reduceSub, Int.reduceMul, Int.reduceNeg, reduceCtorEq, Option.bind_some, Option.map_some, List.length_cons, List.length_nil, vcM, List.getElem?_toArray, List.getElem?_cons_zero, List.getElem?_cons_succ, hlt])
      (refine W_at c4_ok ?_; refine ⟨_, rfl, ?_⟩; simp (disch := first | omega | assumption | rfl | (simp only [vcS] <;> omega) | fail) only [↓ptV_l, ↓vcA, vcB, ↓vcD, vcE, ↓reduceIte, Nat.reduceEqDiff, Nat.reduceAdd, Nat.reduceMul, Nat.reduceLeDiff, Int.reduceLE, Int.reduceLT, Int.reduceEq, Int.reduceToNat, Int.reduceAdd, Int.reduceSub, Int.reduceMul, Int.reduceNeg, reduceCtorEq, Option.bind_some, Option.map_some, List.length_cons, List.length_nil, vcM, List.getElem?_toArray, List.getElem?_cons_zero, List.getElem?_cons_succ])
      (refine W_at c4_ok ?_; refine ⟨_, rfl, ?_⟩; simp (disch := first | omega | assumption | rfl | (simp only [vcS] <;> omega) | fail) only [↓ptV_l, ↓vcA, vcB, ↓vcD, vcE, ↓reduceIte, Nat.reduceEqDiff, Nat.reduceAdd, Nat.reduceMul, Nat.reduceLeDiff, Int.reduceLE, Int.reduceLT, Int.reduceEq, Int.reduceToNat, Int.reduceAdd, Int.reduceSub, Int.reduceMul, Int.reduceNeg, reduceCtorEq, Option.bind_some, Option.map_some, List.length_cons, List.length_nil, vcM, List.getElem?_toArray, List.getElem?_cons_zero, List.getElem?_cons_succ])
      (refine W_at c4_ok ?_; refine ⟨_, rfl, ?_⟩; simp (disch := first | omega | assumption | rfl | (simp only [vcS] <;> omega) | fail) only [↓ptV_l, ↓vcA, vcB, ↓vcD, vcE, ↓reduceIte, Nat.reduceEqDiff, Nat.reduceAdd, Nat.reduceMul, Nat.reduceLeDiff, Int.reduceLE, Int.reduceLT, Int.reduceEq, Int.reduceToNat, Int.reduceAdd, Int.reduceSub, Int.reduceMul, Int.reduceNeg, reduceCtorEq, Option.bind_some, Option.map_some, List.length_cons, List.length_nil, vcM, List.getElem?_toArray, List.getElem?_cons_zero, List.getElem?_cons_succ, hi2, Int.toNat_natCast, Nat.mul_one, Nat.zero_add, hcell])
      refine ⟨(hO.set1 hil 0).1, ?_⟩
      have hO2 := fun z => (hO.set1 hil z).2
      (refine W_at c4_ok ?_; refine ⟨_, rfl, ?_⟩; simp (disch := first | omega | assumption | rfl | (simp only [vcS] <;> omega) | fail) only [↓ptV_l, ↓vcA, vcB, ↓vcD, vcE, ↓reduceIte, Nat.reduceEqDiff, Nat.reduceAdd, Nat.reduceMul, Nat.reduceLeDiff, Int.reduceLE, Int.reduceLT, Int.reduceEq, Int.reduceToNat, Int.reduceAdd, Int.reduceSub, Int.reduceMul, Int.reduceNeg, reduceCtorEq, Option.bind_some, Option.map_some, List.length_cons, List.length_nil, vcM, List.getElem?_toArray, List.getElem?_cons_zero, List.getElem?_cons_succ, hwi])
      (refine W_at c4_ok ?_; refine ⟨_, rfl, ?_⟩; simp (disch := first | omega | assumption | rfl | (simp only [vcS] <;> omega) | fail) only [↓ptV_l, ↓vcA, vcB, ↓vcD, vcE, ↓reduceIte, Nat.reduceEqDiff, Nat.reduceAdd, Nat.reduceMul, Nat.reduceLeDiff, Int.reduceLE, Int.reduceLT, Int.reduceEq, Int.reduceToNat, Int.reduceAdd, Int.reduceSub, Int.reduceMul, Int.reduceNeg, reduceCtorEq, Option.bind_some, Option.map_some, List.length_cons, List.length_nil, vcM, List.getElem?_toArray, List.getElem?_cons_zero, List.getElem?_cons_succ])
      exact ih (i + 1) _ _ (by omega) (hO2 _) (by rw [List.length_set]; exact hlv) (hk.setCell _ fun _ => rfl)
  have hlen3 := (hin wD hAD).len
  (refine W_at c4_ok ?_; refine ⟨_, rfl, ?_⟩; simp (disch := first | omega | assumption | rfl | (simp only [vcS] <;> omega) | fail) only [↓ptV_l, ↓vcA, vcB, ↓vcD, vcE, ↓reduceIte, Nat.reduceEqDiff, Nat.reduceAdd, Nat.reduceMul, Nat.reduceLeDiff, Int.reduceLE, Int.reduceLT, Int.reduceEq, Int.reduceToNat, Int.reduceAdd, Int.reduceSub, Int.reduceMul, Int.reduceNeg, reduceCtorEq, Option.bind_some, Option.map_some, List.length_cons, List.length_nil, vcM, List.getElem?_toArray, List.getElem?_cons_zero, List.getElem?_cons_succ])
  (refine W_at c4_ok ?_; refine ⟨_, rfl, ?_⟩; simp (disch := first | omega | assumption | rfl | (simp only [vcS] <;> omega) | fail) only [↓ptV_l, ↓vcA, vcB, ↓vcD, vcE, ↓reduceIte, Nat.reduceEqDiff, Nat.reduceAdd, Nat.reduceMul, Nat.reduceLeDiff, Int.reduceLE, Int.reduceLT, Int.reduceEq, Int.reduceToNat, Int.reduceAdd, Int.reduceSub, Int.reduceMul, Int.reduceNeg, reduceCtorEq, Option.bind_some, Option.map_some, List.length_cons, List.length_nil, vcM, List.getElem?_toArray, List.getElem?_cons_zero, List.getElem?_cons_succ, hlen3])
  exact L l.length 0 wD (spareF l) (by omega) hAD (spareF_len l) (Keep.refl _ wD)
end Go.Proofs
