/- 'strongboxtop.StrongboxPieces': the walk. -/
import Derived.Test.YthjgmajfkfhdaaaP5
set_option linter.unusedSimpArgs false
set_option linter.unusedVariables false
set_option linter.constructorNameAsVariable false
namespace Go.Proofs
open Go.Vc
set_option maxRecDepth 10000

set_option maxHeartbeats 6400000 in
theorem pieces_ok (w : World) (parts numbers : Value) (ps : List (List Int)) (ns : List Int) (hps : PrtAt w parts ps) (hns : NumAt w numbers ns) :
    Calls Try.prog 3 #[parts, numbers] w (Ret fun u w' => u = .bool true ∧ Ext w w') := by
  refine calls_of_cfg c3_ok (Nat.le_of_ble_eq_true rfl) ?_
  simp only [argE_nil, argE_cons, Nat.reduceAdd, Nat.zero_add]
  (refine W_at c3_ok ?_; refine ⟨_, rfl, ?_⟩; simp (disch := first | omega | assumption | rfl | (simp only [vcS] <;> omega) | fail) only [↓ptV_l, ↓vcA, vcB, ↓vcD, vcE, ↓reduceIte, Nat.reduceEqDiff, Nat.reduceAdd, Nat.reduceMul, Nat.reduceLeDiff, Int.reduceLE, Int.reduceLT, Int.reduceEq, Int.reduceToNat, Int.reduceAdd, Int.reduceSub, Int.reduceMul, Int.reduceNeg, reduceCtorEq, Option.bind_some, Option.map_some, List.length_cons, List.length_nil, vcM, List.getElem?_toArray, List.getElem?_cons_zero, List.getElem?_cons_succ])
  have hz1 : zc [(1, Value.slice none 0 0)] = #[.slice none 0 0] := rfl
  (refine W_at c3_ok ?_; refine ⟨_, rfl, ?_⟩; simp (disch := first | omega | assumption | rfl | (simp only [vcS] <;> omega) | fail) only [↓ptV_l, ↓vcA, vcB, ↓vcD, vcE, ↓reduceIte, Nat.reduceEqDiff, Nat.reduceAdd, Nat.reduceMul, Nat.reduceLeDiff, Int.reduceLE, Int.reduceLT, Int.reduceEq, Int.reduceToNat, Int.reduceAdd, Int.reduceSub, Int.reduceMul, Int.reduceNeg, reduceCtorEq, Option.bind_some, Option.map_some, List.length_cons, List.length_nil, vcM, List.getElem?_toArray, List.getElem?_cons_zero, List.getElem?_cons_succ, hz1])
  have hE1 : Ext w (w.alloc (.cells #[.slice none 0 0] 26)) := (Keep.refl _ w).alloc _
  have hW1 : WAt (w.alloc (.cells #[.slice none 0 0] 26)) w.heap.size (.slice none 0 0) [] := ⟨heap_new _ _ _ rfl, Own1.nil _⟩
  generalize hw1 : World.alloc _ _ = w1 at hE1 hW1 ⊢
  have l5 := hW1.lt
  generalize hp5e : w.heap.size = p5 at hW1 l5 ⊢
  (refine W_at c3_ok ?_; refine ⟨_, rfl, ?_⟩; simp (disch := first | omega | assumption | rfl | (simp only [vcS] <;> omega) | fail) only [↓ptV_l, ↓vcA, vcB, ↓vcD, vcE, ↓reduceIte, Nat.reduceEqDiff, Nat.reduceAdd, Nat.reduceMul, Nat.reduceLeDiff, Int.reduceLE, Int.reduceLT, Int.reduceEq, Int.reduceToNat, Int.reduceAdd, Int.reduceSub, Int.reduceMul, Int.reduceNeg, reduceCtorEq, Option.bind_some, Option.map_some, List.length_cons, List.length_nil, vcM, List.getElem?_toArray, List.getElem?_cons_zero, List.getElem?_cons_succ])
  have hE2 : Ext w1 (w1.alloc (.cells (zc [(8, .int .u32 0), (1, .slice none 0 0), (1, .int .u64 0), (1, .bool false)]) 32)) := (Keep.refl _ w1).alloc _
  have hS2 := new_sum w1
  have hsz2 : (w1.alloc (.cells (zc [(8, .int .u32 0), (1, .slice none 0 0), (1, .int .u64 0), (1, .bool false)]) 32)).heap.size = w1.heap.size + 1 := size_alloc _ _
  generalize World.alloc w1 _ = w2 at hE2 hS2 hsz2 ⊢
  have l6 := lt_of_heap hS2.obj
  generalize hs6e : w1.heap.size = s6 at hS2 l5 l6 hsz2 ⊢
  have hE3 : Ext w2 (w2.alloc (.cells (zc [(8, .int .u32 0), (1, .slice none 0 0), (1, .int .u64 0), (1, .bool false)]) 32)) := (Keep.refl _ w2).alloc _
  have hS3 := new_sum w2
  generalize World.alloc w2 _ = w3 at hE3 hS3 ⊢
  have l7 := lt_of_heap hS3.obj
  rw [hsz2] at hS3 l7
  have hs7e : s6 + 1 = s6 + 1 := rfl
  generalize s6 + 1 = s7 at hS3 l7 hsz2 ⊢
  have hP0 : PS w w3 (fun g => if g < p5 then 0 else if g = p5 then 1 else if g = s6 then 2 else 3) p5 s6 s7 (.slice none 0 0) (.slice none 0 0) (.slice none 0 0) (.slice none 0 0) (.slice none 0 0) [] [] [] [] [] := by
    have hE03 : Ext w w3 := (hE1.ext hE2).ext hE3
    refine ⟨hE03, ⟨hE3.at (hE2.at hW1.at' (fun h => h)) (fun h => h), Own1.nil _⟩, ⟨_, hS2.ext hE3⟩, ⟨_, hS3⟩, Own1.nil _, Own1.nil _, ⟨fun g hg => ?_, fun g hg => Nat.lt_of_lt_of_le hg hE03.size⟩, ⟨?_, ?_⟩, ⟨?_, ?_⟩, ⟨?_, ?_⟩, ⟨fun g hg => (by cases hg), fun g hg => (by cases hg)⟩, ⟨fun g hg => (by cases hg), fun g hg => (by cases hg)⟩⟩
    · rw [if_pos (by omega)]
    · rintro g (rfl | hg)
      · simp
      · cases hg
    · rintro g (rfl | hg)
      · omega
      · cases hg
    · rintro g (rfl | hg)
      · rw [if_neg (by omega), if_neg (by omega)]; simp
      · cases hg
    · rintro g (rfl | hg)
      · omega
      · cases hg
    · rintro g (rfl | hg)
      · rw [if_neg (by omega), if_neg (by omega), if_neg (by omega)]
      · cases hg
    · rintro g (rfl | hg)
      · omega
      · cases hg
  (refine W_at c3_ok ?_; refine ⟨_, rfl, ?_⟩; simp (disch := first | omega | assumption | rfl | (simp only [vcS] <;> omega) | fail) only [↓ptV_l, ↓vcA, vcB, ↓vcD, vcE, ↓reduceIte, Nat.reduceEqDiff, Nat.reduceAdd, Nat.reduceMul, Nat.reduceLeDiff, Int.reduceLE, Int.reduceLT, Int.reduceEq, Int.reduceToNat, Int.reduceAdd, Int.reduceSub, Int.reduceMul, Int.reduceNeg, reduceCtorEq, Option.bind_some, Option.map_some, List.length_cons, List.length_nil, vcM, List.getElem?_toArray, List.getElem?_cons_zero, List.getElem?_cons_succ])
  (refine W_at c3_ok ?_; refine ⟨_, rfl, ?_⟩; simp (disch := first | omega | assumption | rfl | (simp only [vcS] <;> omega) | fail) only [↓ptV_l, ↓vcA, vcB, ↓vcD, vcE, ↓reduceIte, Nat.reduceEqDiff, Nat.reduceAdd, Nat.reduceMul, Nat.reduceLeDiff, Int.reduceLE, Int.reduceLT, Int.reduceEq, Int.reduceToNat, Int.reduceAdd, Int.reduceSub, Int.reduceMul, Int.reduceNeg, reduceCtorEq, Option.bind_some, Option.map_some, List.length_cons, List.length_nil, vcM, List.getElem?_toArray, List.getElem?_cons_zero, List.getElem?_cons_succ])
  refine pieces _ parts numbers ps ns hps hns (min ps.length 12) rfl ?_ (min ps.length 12) 0 w3 _ _ _ _ _ _ _ _ (by omega) hP0
  clear hP0 hS2 hS3 hE2 hE3 hE1 hW1
  intro wj own v5 wv6 wv7 v8 vp mp tl i hP
  generalize hKe : min ps.length 12 = K at hP
  have hE := encP_b (ns := ns) hps.byt 0 K
  generalize hM : encP ps ns 0 K = M at hP hE
  have hMl : M.length ≤ 5000 := by have := hE.2; omega
  have hMb := hE.1
  (refine W_at c3_ok ?_; refine ⟨_, rfl, ?_⟩; simp (disch := first | omega | assumption | rfl | (simp only [vcS] <;> omega) | fail) only [↓ptV_l, ↓vcA, vcB, ↓vcD, vcE, ↓reduceIte, Nat.reduceEqDiff, Nat.reduceAdd, Nat.reduceMul, Nat.reduceLeDiff, Int.reduceLE, Int.reduceLT, Int.reduceEq, Int.reduceToNat, Int.reduceAdd, Int.reduceSub, Int.reduceMul, Int.reduceNeg, reduceCtorEq, Option.bind_some, Option.map_some, List.length_cons, List.length_nil, vcM, List.getElem?_toArray, List.getElem?_cons_zero, List.getElem?_cons_succ])
  refine callV_ret (out_ok wj p5 v5 M hP.wr (by omega)) ?_
  rintro u4 w4 ⟨o4, e4, n4⟩
  first | (simp (disch := first | omega | assumption | rfl | (simp only [vcS] <;> omega) | fail) only [↓ptV_l, ↓vcA, vcB, ↓vcD, vcE, ↓reduceIte, Nat.reduceEqDiff, Nat.reduceAdd, Nat.reduceMul, Nat.reduceLeDiff, Int.reduceLE, Int.reduceLT, Int.reduceEq, Int.reduceToNat, Int.reduceAdd, Int.reduceSub, Int.reduceMul, Int.reduceNeg, reduceCtorEq, Option.bind_some, Option.map_some, List.length_cons, List.length_nil, vcM, List.getElem?_toArray, List.getElem?_cons_zero, List.getElem?_cons_succ]) | skip
  refine callV_ret (sum256_ok w4 u4 M o4.rd hMb (by omega)) ?_
  rintro _ w5 ⟨rfl, e5⟩
  first | (simp (disch := first | omega | assumption | rfl | (simp only [vcS] <;> omega) | fail) only [↓ptV_l, ↓vcA, vcB, ↓vcD, vcE, ↓reduceIte, Nat.reduceEqDiff, Nat.reduceAdd, Nat.reduceMul, Nat.reduceLeDiff, Int.reduceLE, Int.reduceLT, Int.reduceEq, Int.reduceToNat, Int.reduceAdd, Int.reduceSub, Int.reduceMul, Int.reduceNeg, reduceCtorEq, Option.bind_some, Option.map_some, List.length_cons, List.length_nil, vcM, List.getElem?_toArray, List.getElem?_cons_zero, List.getElem?_cons_succ]) | skip
  have hHl : (shaF M).length = 32 := shaF_len M
  have hHb : byt (shaF M) := shaF_byt M
  have s32 : (bv (shaF M)).toArray.size = 32 := by rw [bva_size, hHl]
  refine ⟨s32, bv_flat _, ?_⟩
  have hE6 : Ext w5 ((w5.alloc (.cells (zc [(32, .int .u8 0)]) 39)).putN w5.heap.size 0 (bv (shaF M)).toArray) := ((Keep.refl _ w5).alloc _).putN _ (by intro hh; exfalso; omega)
  have c15 : ((w5.alloc (.cells (zc [(32, .int .u8 0)]) 39)).putN w5.heap.size 0 (bv (shaF M)).toArray).heap[w5.heap.size]? = some (.cells (bv (shaF M)).toArray 39 (0, 0)) := by
    rw [heap_putN_eq (heap_new _ _ _ rfl), splice_all (by rw [s32]; rfl)]
  have hle : w.heap.size ≤ w5.heap.size := ((hP.ext.ext e4).ext e5).size
  generalize World.putN _ _ _ _ = w6 at hE6 c15 ⊢
  generalize hp15e : w5.heap.size = p15 at c15 hle ⊢
  have hP6 := hP.keep ((e4.ext e5).ext hE6)
  have hHH := shaF M
  have hr32 : rdO (some (.cells (bv (shaF M)).toArray 39 (0, 0))) 0 32 = some (bv (shaF M)).toArray := rdO_all _ _ _ _ s32
  have q1 := conf32 hHl
  have q2 := eqc32 (shaF M)
  have hDl : (dblF M).length = 32 := shaF_len _
  have q3 := conf32 hDl
  have q4 := eqc32 (dblF M)
  (refine W_at c3_ok ?_; refine ⟨_, rfl, ?_⟩; simp (disch := first | omega | assumption | rfl | (simp only [vcS] <;> omega) | fail) only [↓vcL1, ptS2_eq, ↓vcA, vcB, ↓vcD, vcE, ↓reduceIte, Nat.reduceEqDiff, Nat.reduceAdd, Nat.reduceMul, Nat.reduceLeDiff, Int.reduceLE, Int.reduceLT, Int.reduceEq, Int.reduceToNat, Int.reduceAdd, Int.reduceSub, Int.reduceMul, Int.reduceNeg, reduceCtorEq, Option.bind_some, Option.map_some, List.length_cons, List.length_nil, vcM, List.getElem?_toArray, List.getElem?_cons_zero, List.getElem?_cons_succ, c15, hr32])
  have hEd : Ext w6 w6.drew := (Keep.refl _ w6).drew
  have hPd := hP6.keep hEd
  have c15d := hEd.at c15 (fun h => h)
  refine callV_ret (rsum_ok w6.drew v8 M hPd.all.rd hMb (by omega)) ?_
  rintro _ w7 ⟨rfl, e7⟩
  have hP7 := hPd.keep e7
  have c157 := e7.at c15d (fun h => h)
  have xt : (true ^^ true) = false := rfl
  simp (disch := first | omega | assumption | rfl | (simp only [vcS] <;> omega) | fail) only [↓vcL2, ptS1_eq, ↓vcA, vcB, ↓vcD, vcE, ↓reduceIte, Nat.reduceEqDiff, Nat.reduceAdd, Nat.reduceMul, Nat.reduceLeDiff, Int.reduceLE, Int.reduceLT, Int.reduceEq, Int.reduceToNat, Int.reduceAdd, Int.reduceSub, Int.reduceMul, Int.reduceNeg, reduceCtorEq, Option.bind_some, Option.map_some, List.length_cons, List.length_nil, vcM, List.getElem?_toArray, List.getElem?_cons_zero, List.getElem?_cons_succ, c157, hr32, q1, q2, xt]
  obtain ⟨b6, hs6⟩ := hP7.s
  refine callV_ret (hash_ok w7 s6 wv6 M b6 hs6 hMb (by omega)) ?_
  rintro _ w8 ⟨rfl, e8⟩
  have hP8 := hP7.keep e8
  have c158 := e8.at c157 (fun h => h)
  simp (disch := first | omega | assumption | rfl | (simp only [vcS] <;> omega) | fail) only [↓vcL1, ptS2_eq, ↓vcA, vcB, ↓vcD, vcE, ↓reduceIte, Nat.reduceEqDiff, Nat.reduceAdd, Nat.reduceMul, Nat.reduceLeDiff, Int.reduceLE, Int.reduceLT, Int.reduceEq, Int.reduceToNat, Int.reduceAdd, Int.reduceSub, Int.reduceMul, Int.reduceNeg, reduceCtorEq, Option.bind_some, Option.map_some, List.length_cons, List.length_nil, vcM, List.getElem?_toArray, List.getElem?_cons_zero, List.getElem?_cons_succ, c158, hr32, q1, q2, xt]
  obtain ⟨b7, hs7⟩ := hP8.t
  refine callV_ret (hash_ok w8 s7 wv7 M b7 hs7 hMb (by omega)) ?_
  rintro _ w9 ⟨rfl, e9⟩
  have hP9 := hP8.keep e9
  have c159 := e9.at c158 (fun h => h)
  simp (disch := first | omega | assumption | rfl | (simp only [vcS] <;> omega) | fail) only [↓vcL2, ptS1_eq, ↓vcA, vcB, ↓vcD, vcE, ↓reduceIte, Nat.reduceEqDiff, Nat.reduceAdd, Nat.reduceMul, Nat.reduceLeDiff, Int.reduceLE, Int.reduceLT, Int.reduceEq, Int.reduceToNat, Int.reduceAdd, Int.reduceSub, Int.reduceMul, Int.reduceNeg, reduceCtorEq, Option.bind_some, Option.map_some, List.length_cons, List.length_nil, vcM, List.getElem?_toArray, List.getElem?_cons_zero, List.getElem?_cons_succ, c159, hr32, q1, q2, xt]
  obtain ⟨b8, hs8⟩ := hP9.s
  refine callV_ret (twice_ok w9 s6 wv6 M b8 hs8 hMb (by omega)) ?_
  rintro _ wA ⟨rfl, eA⟩
  have hPA := hP9.keep eA
  have c15A := eA.at c159 (fun h => h)
  simp (disch := first | omega | assumption | rfl | (simp only [vcS] <;> omega) | fail) only [↓vcL1, ptS2_eq, ↓vcA, vcB, ↓vcD, vcE, ↓reduceIte, Nat.reduceEqDiff, Nat.reduceAdd, Nat.reduceMul, Nat.reduceLeDiff, Int.reduceLE, Int.reduceLT, Int.reduceEq, Int.reduceToNat, Int.reduceAdd, Int.reduceSub, Int.reduceMul, Int.reduceNeg, reduceCtorEq, Option.bind_some, Option.map_some, List.length_cons, List.length_nil, vcM, List.getElem?_toArray, List.getElem?_cons_zero, List.getElem?_cons_succ, c15A, hr32, q1, q2, xt]
  refine callV_ret (double_ok wA v8 M hPA.all.rd hMb (by omega)) ?_
  rintro _ wB ⟨rfl, eB⟩
  have hPB := hPA.keep eB
  have c15B := eB.at c15A (fun h => h)
  simp (disch := first | omega | assumption | rfl | (simp only [vcS] <;> omega) | fail) only [↓vcL2, ptS1_eq, ↓vcA, vcB, ↓vcD, vcE, ↓reduceIte, Nat.reduceEqDiff, Nat.reduceAdd, Nat.reduceMul, Nat.reduceLeDiff, Int.reduceLE, Int.reduceLT, Int.reduceEq, Int.reduceToNat, Int.reduceAdd, Int.reduceSub, Int.reduceMul, Int.reduceNeg, reduceCtorEq, Option.bind_some, Option.map_some, List.length_cons, List.length_nil, vcM, List.getElem?_toArray, List.getElem?_cons_zero, List.getElem?_cons_succ, c15B, hr32, q3, q4, xt]
  (refine W_at c3_ok ?_; refine ⟨_, rfl, ?_⟩; simp (disch := first | omega | assumption | rfl | (simp only [vcS] <;> omega) | fail) only [↓ptV_l, ↓vcA, vcB, ↓vcD, vcE, ↓reduceIte, Nat.reduceEqDiff, Nat.reduceAdd, Nat.reduceMul, Nat.reduceLeDiff, Int.reduceLE, Int.reduceLT, Int.reduceEq, Int.reduceToNat, Int.reduceAdd, Int.reduceSub, Int.reduceMul, Int.reduceNeg, reduceCtorEq, Option.bind_some, Option.map_some, List.length_cons, List.length_nil, vcM, List.getElem?_toArray, List.getElem?_cons_zero, List.getElem?_cons_succ])
  (refine W_at c3_ok ?_; refine ⟨_, rfl, ?_⟩; simp (disch := first | omega | assumption | rfl | (simp only [vcS] <;> omega) | fail) only [↓ptV_l, ↓vcA, vcB, ↓vcD, vcE, ↓reduceIte, Nat.reduceEqDiff, Nat.reduceAdd, Nat.reduceMul, Nat.reduceLeDiff, Int.reduceLE, Int.reduceLT, Int.reduceEq, Int.reduceToNat, Int.reduceAdd, Int.reduceSub, Int.reduceMul, Int.reduceNeg, reduceCtorEq, Option.bind_some, Option.map_some, List.length_cons, List.length_nil, vcM, List.getElem?_toArray, List.getElem?_cons_zero, List.getElem?_cons_succ, c15B, hr32])
  refine callV_ret (htext_ok wB (shaF M) hHb hHl) ?_
  rintro _ wC ⟨rfl, eC⟩
  first | (simp (disch := first | omega | assumption | rfl | (simp only [vcS] <;> omega) | fail) only [↓ptV_l, ↓vcA, vcB, ↓vcD, vcE, ↓reduceIte, Nat.reduceEqDiff, Nat.reduceAdd, Nat.reduceMul, Nat.reduceLeDiff, Int.reduceLE, Int.reduceLT, Int.reduceEq, Int.reduceToNat, Int.reduceAdd, Int.reduceSub, Int.reduceMul, Int.reduceNeg, reduceCtorEq, Option.bind_some, Option.map_some, List.length_cons, List.length_nil, vcM, List.getElem?_toArray, List.getElem?_cons_zero, List.getElem?_cons_succ]) | skip
  refine callV_ret (fromText_ok wC (shaF M) hHb hHl) ?_
  rintro _ wD ⟨rfl, eD⟩
  first | (simp (disch := first | omega | assumption | rfl | (simp only [vcS] <;> omega) | fail) only [↓ptV_l, ↓vcA, vcB, ↓vcD, vcE, ↓reduceIte, Nat.reduceEqDiff, Nat.reduceAdd, Nat.reduceMul, Nat.reduceLeDiff, Int.reduceLE, Int.reduceLT, Int.reduceEq, Int.reduceToNat, Int.reduceAdd, Int.reduceSub, Int.reduceMul, Int.reduceNeg, reduceCtorEq, Option.bind_some, Option.map_some, List.length_cons, List.length_nil, vcM, List.getElem?_toArray, List.getElem?_cons_zero, List.getElem?_cons_succ]) | skip
  refine ⟨s32, bv_flat _, ?_⟩
  have hPD := (hPB.keep eC).keep eD
  have c15D := eD.at (eC.at c15B (fun h => h)) (fun h => h)
  have hEE : Ext wD ((wD.alloc (.cells (zc [(32, .int .u8 0)]) 39)).putN wD.heap.size 0 (bv (shaF M)).toArray) := ((Keep.refl _ wD).alloc _).putN _ (by intro hh; exfalso; omega)
  have c16 : ((wD.alloc (.cells (zc [(32, .int .u8 0)]) 39)).putN wD.heap.size 0 (bv (shaF M)).toArray).heap[wD.heap.size]? = some (.cells (bv (shaF M)).toArray 39 (0, 0)) := by
    rw [heap_putN_eq (heap_new _ _ _ rfl), splice_all (by rw [s32]; rfl)]
  generalize World.putN _ _ _ _ = wE at hEE c16 ⊢
  generalize hp16e : wD.heap.size = p16 at c16 ⊢
  have hPE := hPD.keep hEE
  have c15E := hEE.at c15D (fun h => h)
  (refine W_at c3_ok ?_; refine ⟨_, rfl, ?_⟩; simp (disch := first | omega | assumption | rfl | (simp only [vcS] <;> omega) | fail) only [↓ptV_l, ↓vcA, vcB, ↓vcD, vcE, ↓reduceIte, Nat.reduceEqDiff, Nat.reduceAdd, Nat.reduceMul, Nat.reduceLeDiff, Int.reduceLE, Int.reduceLT, Int.reduceEq, Int.reduceToNat, Int.reduceAdd, Int.reduceSub, Int.reduceMul, Int.reduceNeg, reduceCtorEq, Option.bind_some, Option.map_some, List.length_cons, List.length_nil, vcM, List.getElem?_toArray, List.getElem?_cons_zero, List.getElem?_cons_succ])
  refine callV_ret (out_ok wE p5 v5 M hPE.wr (by omega)) ?_
  rintro uF wF ⟨oF, eF, nF⟩
  first | (simp (disch := first | omega | assumption | rfl | (simp only [vcS] <;> omega) | fail) only [↓ptV_l, ↓vcA, vcB, ↓vcD, vcE, ↓reduceIte, Nat.reduceEqDiff, Nat.reduceAdd, Nat.reduceMul, Nat.reduceLeDiff, Int.reduceLE, Int.reduceLT, Int.reduceEq, Int.reduceToNat, Int.reduceAdd, Int.reduceSub, Int.reduceMul, Int.reduceNeg, reduceCtorEq, Option.bind_some, Option.map_some, List.length_cons, List.length_nil, vcM, List.getElem?_toArray, List.getElem?_cons_zero, List.getElem?_cons_succ]) | skip
  refine callV_ret (open_ok wF uF M oF.rd (by omega)) ?_
  rintro _ wG ⟨r, B, v, rfl, hR, eG, hr, hB, hBl⟩
  first | (simp (disch := first | omega | assumption | rfl | (simp only [vcS] <;> omega) | fail) only [↓ptV_l, ↓vcA, vcB, ↓vcD, vcE, ↓reduceIte, Nat.reduceEqDiff, Nat.reduceAdd, Nat.reduceMul, Nat.reduceLeDiff, Int.reduceLE, Int.reduceLT, Int.reduceEq, Int.reduceToNat, Int.reduceAdd, Int.reduceSub, Int.reduceMul, Int.reduceNeg, reduceCtorEq, Option.bind_some, Option.map_some, List.length_cons, List.length_nil, vcM, List.getElem?_toArray, List.getElem?_cons_zero, List.getElem?_cons_succ]) | skip
  have hPG := (hPE.keep eF).keep eG
  have c15G := eG.at (eF.at c15E (fun h => h)) (fun h => h)
  have c16G := eG.at (eF.at c16 (fun h => h)) (fun h => h)
  have l15 := lt_of_heap (eF.at c15E (fun h => h))
  have l16 := lt_of_heap (eF.at c16 (fun h => h))
  have lF := ((hPE.keep eF).ext).size
  (refine W_at c3_ok ?_; refine ⟨_, rfl, ?_⟩; simp (disch := first | omega | assumption | rfl | (simp only [vcS] <;> omega) | fail) only [↓ptV_l, ↓vcA, vcB, ↓vcD, vcE, ↓reduceIte, Nat.reduceEqDiff, Nat.reduceAdd, Nat.reduceMul, Nat.reduceLeDiff, Int.reduceLE, Int.reduceLT, Int.reduceEq, Int.reduceToNat, Int.reduceAdd, Int.reduceSub, Int.reduceMul, Int.reduceNeg, reduceCtorEq, Option.bind_some, Option.map_some, List.length_cons, List.length_nil, vcM, List.getElem?_toArray, List.getElem?_cons_zero, List.getElem?_cons_succ])
  rw [← hM] at hR
  exact readback w parts ps ns hps hns.rng K hKe.symm r B p15 p16 (shaF M) hHl (by omega) (by omega) (by omega) K 0 wG v _ (by omega) hPG.ext hR hBl c15G c16G
end Go.Proofs
