/- SHA-256: the small functions. -/
import Derived.Test.YthjgmajfkfhdaaaH1
import Derived.KernelRfl
set_option linter.unusedSimpArgs false
set_option linter.unusedVariables false
set_option linter.constructorNameAsVariable false
namespace Go.Proofs
open Go.Vc
set_option maxRecDepth 10000

theorem and31 (n : Nat) (h1 : 1 ≤ n) (h2 : n ≤ 31) : binR .and (.int .u64 (IntKind.u64.wrap (-(n : Int)))) (.int .u64 31) = some (.int .u64 ((32 - n : Nat) : Int)) := by
  rw [bin_and]
  have h : ∀ k : Fin 32, 1 ≤ k.val → IntKind.u64.wrap ((BitVec.ofInt IntKind.u64.bits (IntKind.u64.wrap (-((k.val : Nat) : Int))) &&& BitVec.ofInt IntKind.u64.bits 31).toNat : Int) = ((32 - k.val : Nat) : Int) := by decide +kernel
  have := h ⟨n, by omega⟩ h1
  simp only at this
  rw [this]
theorem rotl_ok (w : World) (x : BitVec 32) (n : Nat) (h1 : 1 ≤ n) (h2 : n ≤ 31) :
    Calls Try.prog 54 #[U32 x, .int .i64 (-(n : Int))] w (Ret fun u w' => u = U32 (rotF n x) ∧ w' = w) := by
  refine calls_of_cfg c54_ok (Nat.le_of_ble_eq_true rfl) ?_
  simp only [argE_nil, argE_cons, Nat.reduceAdd, Nat.zero_add]
  have hs := and31 n h1 h2
  have e1 : binR .shl (U32 x) (.int .u64 ((32 - n : Nat) : Int)) = some (U32 (x <<< (32 - n))) := U32_shl x .u64 (32 - n) (by omega)
  have hw : IntKind.u64.wrap (32 - ((32 - n : Nat) : Int)) = ((n : Nat) : Int) := by rw [wrap_u64]; omega
  have e2 : binR .shr (U32 x) (.int .u64 ((n : Nat) : Int)) = some (U32 (x >>> n)) := U32_shr x .u64 n (by omega)
  have e3 := U32_or (x <<< (32 - n)) (x >>> n)
  (refine W_at c54_ok ?_; refine ⟨_, rfl, ?_⟩; simp (disch := first | omega | assumption | rfl | (simp only [vcS] <;> omega) | fail) only [↓ptV_l, ↓vcA, vcB, ↓vcD, vcE, ↓reduceIte, Nat.reduceEqDiff, Nat.reduceAdd, Nat.reduceMul, Nat.reduceLeDiff, Int.reduceLE, Int.reduceLT, Int.reduceEq, Int.reduceToNat, Int.reduceAdd, Int.reduceSub, Int.reduceMul, Int.reduceNeg, reduceCtorEq, Option.bind_some, Option.map_some, List.length_cons, List.length_nil, vcM, List.getElem?_toArray, List.getElem?_cons_zero, List.getElem?_cons_succ])
  (refine W_at c54_ok ?_; refine ⟨_, rfl, ?_⟩; simp (disch := first | omega | assumption | rfl | (simp only [vcS] <;> omega) | fail) only [↓ptV_l, ↓vcA, vcB, ↓vcD, vcE, ↓reduceIte, Nat.reduceEqDiff, Nat.reduceAdd, Nat.reduceMul, Nat.reduceLeDiff, Int.reduceLE, Int.reduceLT, Int.reduceEq, Int.reduceToNat, Int.reduceAdd, Int.reduceSub, Int.reduceMul, Int.reduceNeg, reduceCtorEq, Option.bind_some, Option.map_some, List.length_cons, List.length_nil, vcM, List.getElem?_toArray, List.getElem?_cons_zero, List.getElem?_cons_succ, hs])
  (refine W_at c54_ok ?_; refine ⟨_, rfl, ?_⟩; simp (disch := first | omega | assumption | rfl | (simp only [vcS] <;> omega) | fail) only [↓ptV_l, ↓vcA, vcB, ↓vcD, vcE, ↓reduceIte, Nat.reduceEqDiff, Nat.reduceAdd, Nat.reduceMul, Nat.reduceLeDiff, Int.reduceLE, Int.reduceLT, Int.reduceEq, Int.reduceToNat, Int.reduceAdd, Int.reduceSub, Int.reduceMul, Int.reduceNeg, reduceCtorEq, Option.bind_some, Option.map_some, List.length_cons, List.length_nil, vcM, List.getElem?_toArray, List.getElem?_cons_zero, List.getElem?_cons_succ, e1, hw, e2, e3])
  (refine W_at c54_ok ?_; refine ⟨_, rfl, ?_⟩; simp (disch := first | omega | assumption | rfl | (simp only [vcS] <;> omega) | fail) only [↓ptV_l, ↓vcA, vcB, ↓vcD, vcE, ↓reduceIte, Nat.reduceEqDiff, Nat.reduceAdd, Nat.reduceMul, Nat.reduceLeDiff, Int.reduceLE, Int.reduceLT, Int.reduceEq, Int.reduceToNat, Int.reduceAdd, Int.reduceSub, Int.reduceMul, Int.reduceNeg, reduceCtorEq, Option.bind_some, Option.map_some, List.length_cons, List.length_nil, vcM, List.getElem?_toArray, List.getElem?_cons_zero, List.getElem?_cons_succ, Ret_returned])
  rfl
theorem right_ok (w : World) (x : BitVec 32) (n : Nat) (h1 : 1 ≤ n) (h2 : n ≤ 31) :
    Calls Try.prog 47 #[U32 x, .int .i64 n] w (Ret fun u w' => u = U32 (rotF n x) ∧ w' = w) := by
  refine calls_of_cfg c47_ok (Nat.le_of_ble_eq_true rfl) ?_
  simp only [argE_nil, argE_cons, Nat.reduceAdd, Nat.zero_add]
  have hw : IntKind.i64.wrap (0 - (n : Int)) = -(n : Int) := by rw [wrap_i64 (by omega) (by omega)]; omega
  (refine W_at c47_ok ?_; refine ⟨_, rfl, ?_⟩; simp (disch := first | omega | assumption | rfl | (simp only [vcS] <;> omega) | fail) only [↓ptV_l, ↓vcA, vcB, ↓vcD, vcE, ↓reduceIte, Nat.reduceEqDiff, Nat.reduceAdd, Nat.reduceMul, Nat.reduceLeDiff, Int.reduceLE, Int.reduceLT, Int.reduceEq, Int.reduceToNat, Int.reduceAdd, Int.reduceSub, Int.reduceMul, Int.reduceNeg, reduceCtorEq, Option.bind_some, Option.map_some, List.length_cons, List.length_nil, vcM, List.getElem?_toArray, List.getElem?_cons_zero, List.getElem?_cons_succ])
  (refine W_at c47_ok ?_; refine ⟨_, rfl, ?_⟩; simp (disch := first | omega | assumption | rfl | (simp only [vcS] <;> omega) | fail) only [↓ptV_l, ↓vcA, vcB, ↓vcD, vcE, ↓reduceIte, Nat.reduceEqDiff, Nat.reduceAdd, Nat.reduceMul, Nat.reduceLeDiff, Int.reduceLE, Int.reduceLT, Int.reduceEq, Int.reduceToNat, Int.reduceAdd, Int.reduceSub, Int.reduceMul, Int.reduceNeg, reduceCtorEq, Option.bind_some, Option.map_some, List.length_cons, List.length_nil, vcM, List.getElem?_toArray, List.getElem?_cons_zero, List.getElem?_cons_succ, hw])
  refine callV_ret (rotl_ok w x n h1 h2) ?_
  rintro _ w1 ⟨rfl, hw⟩
  obtain rfl : w = w1 := hw.symm
  first | (simp (disch := first | omega | assumption | rfl | (simp only [vcS] <;> omega) | fail) only [↓ptV_l, ↓vcA, vcB, ↓vcD, vcE, ↓reduceIte, Nat.reduceEqDiff, Nat.reduceAdd, Nat.reduceMul, Nat.reduceLeDiff, Int.reduceLE, Int.reduceLT, Int.reduceEq, Int.reduceToNat, Int.reduceAdd, Int.reduceSub, Int.reduceMul, Int.reduceNeg, reduceCtorEq, Option.bind_some, Option.map_some, List.length_cons, List.length_nil, vcM, List.getElem?_toArray, List.getElem?_cons_zero, List.getElem?_cons_succ]) | skip
  (refine W_at c47_ok ?_; refine ⟨_, rfl, ?_⟩; simp (disch := first | omega | assumption | rfl | (simp only [vcS] <;> omega) | fail) only [↓ptV_l, ↓vcA, vcB, ↓vcD, vcE, ↓reduceIte, Nat.reduceEqDiff, Nat.reduceAdd, Nat.reduceMul, Nat.reduceLeDiff, Int.reduceLE, Int.reduceLT, Int.reduceEq, Int.reduceToNat, Int.reduceAdd, Int.reduceSub, Int.reduceMul, Int.reduceNeg, reduceCtorEq, Option.bind_some, Option.map_some, List.length_cons, List.length_nil, vcM, List.getElem?_toArray, List.getElem?_cons_zero, List.getElem?_cons_succ, Ret_returned])
theorem rrot_ok (w : World) (x : BitVec 32) (m n : Nat) (h1 : 1 ≤ n) (hn : m + n = 32) (hm : 1 ≤ m) :
    Calls Try.prog 31 #[U32 x, .int .i64 m] w (Ret fun u w' => u = U32 (rotF n x) ∧ w' = w) := by
  refine calls_of_cfg c31_ok (Nat.le_of_ble_eq_true rfl) ?_
  simp only [argE_nil, argE_cons, Nat.reduceAdd, Nat.zero_add]
  have hm2 : m = 32 - n := by omega
  subst hm2
  have e1 : binR .shl (U32 x) (.int .u64 ((32 - n : Nat) : Int)) = some (U32 (x <<< (32 - n))) := U32_shl x .u64 (32 - n) (by omega)
  have hw : IntKind.i64.wrap (32 - ((32 - n : Nat) : Int)) = ((n : Nat) : Int) := by rw [wrap_i64 (by omega) (by omega)]; omega
  have hw1 : IntKind.u64.wrap ((32 - n : Nat) : Int) = ((32 - n : Nat) : Int) := by rw [wrap_u64]; omega
  have hw2 : IntKind.u64.wrap ((n : Nat) : Int) = ((n : Nat) : Int) := by rw [wrap_u64]; omega
  have e2 : binR .shr (U32 x) (.int .u64 ((n : Nat) : Int)) = some (U32 (x >>> n)) := U32_shr x .u64 n (by omega)
  have e3 := U32_or (x <<< (32 - n)) (x >>> n)
  (refine W_at c31_ok ?_; refine ⟨_, rfl, ?_⟩; simp (disch := first | omega | assumption | rfl | (simp only [vcS] <;> omega) | fail) only [↓ptV_l, ↓vcA, vcB, ↓vcD, vcE, ↓reduceIte, Nat.reduceEqDiff, Nat.reduceAdd, Nat.reduceMul, Nat.reduceLeDiff, Int.reduceLE, Int.reduceLT, Int.reduceEq, Int.reduceToNat, Int.reduceAdd, Int.reduceSub, Int.reduceMul, Int.reduceNeg, reduceCtorEq, Option.bind_some, Option.map_some, List.length_cons, List.length_nil, vcM, List.getElem?_toArray, List.getElem?_cons_zero, List.getElem?_cons_succ])
  (refine W_at c31_ok ?_; refine ⟨_, rfl, ?_⟩; simp (disch := first | omega | assumption | rfl | (simp only [vcS] <;> omega) | fail) only [↓ptV_l, ↓vcA, vcB, ↓vcD, vcE, ↓reduceIte, Nat.reduceEqDiff, Nat.reduceAdd, Nat.reduceMul, Nat.reduceLeDiff, Int.reduceLE, Int.reduceLT, Int.reduceEq, Int.reduceToNat, Int.reduceAdd, Int.reduceSub, Int.reduceMul, Int.reduceNeg, reduceCtorEq, Option.bind_some, Option.map_some, List.length_cons, List.length_nil, vcM, List.getElem?_toArray, List.getElem?_cons_zero, List.getElem?_cons_succ, e1, hw, hw1, hw2, e2, e3])
  (refine W_at c31_ok ?_; refine ⟨_, rfl, ?_⟩; simp (disch := first | omega | assumption | rfl | (simp only [vcS] <;> omega) | fail) only [↓ptV_l, ↓vcA, vcB, ↓vcD, vcE, ↓reduceIte, Nat.reduceEqDiff, Nat.reduceAdd, Nat.reduceMul, Nat.reduceLeDiff, Int.reduceLE, Int.reduceLT, Int.reduceEq, Int.reduceToNat, Int.reduceAdd, Int.reduceSub, Int.reduceMul, Int.reduceNeg, reduceCtorEq, Option.bind_some, Option.map_some, List.length_cons, List.length_nil, vcM, List.getElem?_toArray, List.getElem?_cons_zero, List.getElem?_cons_succ, Ret_returned])
  rfl
def wcs (l : List (BitVec 32)) : Array Value := (l.map U32).toArray
theorem wcs_size (l : List (BitVec 32)) : (wcs l).size = l.length := by simp [wcs]
theorem wcs_flat (l : List (BitVec 32)) : flat (wcs l) := by
  intro v hv
  simp only [wcs, List.mem_toArray, List.mem_map] at hv
  obtain ⟨x, _, rfl⟩ := hv
  rfl
theorem begin_ok (w : World) : Calls Try.prog 26 #[] w (Ret fun u w' => u = .agg (wcs iv.list) ∧ Ext w w') := by
  refine calls_of_cfg c26_ok (Nat.le_of_ble_eq_true rfl) ?_
  simp only [argE_nil, argE_cons, Nat.reduceAdd, Nat.zero_add]
  (refine W_at c26_ok ?_; refine ⟨_, rfl, ?_⟩; simp (disch := first | omega | assumption | rfl | (simp only [vcS] <;> omega) | fail) only [↓ptV_l, ↓vcA, vcB, ↓vcD, vcE, ↓reduceIte, Nat.reduceEqDiff, Nat.reduceAdd, Nat.reduceMul, Nat.reduceLeDiff, Int.reduceLE, Int.reduceLT, Int.reduceEq, Int.reduceToNat, Int.reduceAdd, Int.reduceSub, Int.reduceMul, Int.reduceNeg, reduceCtorEq, Option.bind_some, Option.map_some, List.length_cons, List.length_nil, vcM, List.getElem?_toArray, List.getElem?_cons_zero, List.getElem?_cons_succ])
  have hE0 : Ext w (w.alloc (.cells (zc [(8, .int .u32 0)]) 29)) := (Keep.refl _ w).alloc _
  have hc0 : (w.alloc (.cells (zc [(8, .int .u32 0)]) 29)).heap[w.heap.size]? = some (.cells (zc [(8, .int .u32 0)]) 29 (0, 0)) := heap_new _ _ _ rfl
  generalize World.alloc _ _ = w1 at hE0 hc0 ⊢
  generalize hg : w.heap.size = g at hc0 ⊢
  (refine W_at c26_ok ?_; refine ⟨_, rfl, ?_⟩; simp (disch := first | omega | assumption | rfl | (simp only [vcS] <;> omega) | fail) only [↓ptV_l, ↓vcA, vcB, ↓vcD, vcE, ↓reduceIte, Nat.reduceEqDiff, Nat.reduceAdd, Nat.reduceMul, Nat.reduceLeDiff, Int.reduceLE, Int.reduceLT, Int.reduceEq, Int.reduceToNat, Int.reduceAdd, Int.reduceSub, Int.reduceMul, Int.reduceNeg, reduceCtorEq, Option.bind_some, Option.map_some, List.length_cons, List.length_nil, vcM, List.getElem?_toArray, List.getElem?_cons_zero, List.getElem?_cons_succ])
  have e8 : (#[Value.int .u32 1779033703] ++ (#[Value.int .u32 3144134277] ++ (#[Value.int .u32 1013904242] ++ (#[Value.int .u32 2773480762] ++ (#[Value.int .u32 1359893119] ++ (#[Value.int .u32 2600822924] ++ (#[Value.int .u32 528734635, Value.int .u32 1541459225])))))) : Array Value) = wcs iv.list := by kernel_rfl
  rw [e8]
  have k1 : Keep (fun x => x = g) w1 (w1.putN g 0 (wcs iv.list)) := (Keep.refl _ w1).putN _ fun _ => rfl
  have hc1 : (w1.putN g 0 (wcs iv.list)).heap[g]? = some (.cells (wcs iv.list) 29 (0, 0)) := by
    rw [heap_putN_eq hc0, splice_all (by rfl)]
  refine ⟨rfl, wcs_flat _, by rw [hc0]; simp [okO, zc, runs], ?_⟩
  have hE1 : Ext w (w1.putN g 0 (wcs iv.list)) := hE0.trans k1 fun i hi e => by omega
  generalize World.putN _ _ _ _ = w2 at hc1 hE1 ⊢
  have hx : (wcs iv.list).extract 0 (0 + 8) = wcs iv.list := by rfl
  have s8 : (wcs iv.list).size = 8 := rfl
  (refine W_at c26_ok ?_; refine ⟨_, rfl, ?_⟩; simp (disch := first | omega | assumption | rfl | (simp only [vcS] <;> omega) | fail) only [↓ptV_l, ↓vcA, vcB, ↓vcD, vcE, ↓reduceIte, Nat.reduceEqDiff, Nat.reduceAdd, Nat.reduceMul, Nat.reduceLeDiff, Int.reduceLE, Int.reduceLT, Int.reduceEq, Int.reduceToNat, Int.reduceAdd, Int.reduceSub, Int.reduceMul, Int.reduceNeg, reduceCtorEq, Option.bind_some, Option.map_some, List.length_cons, List.length_nil, vcM, List.getElem?_toArray, List.getElem?_cons_zero, List.getElem?_cons_succ, Ret_returned, hc1, hx, s8])
  exact hE1
theorem k256_ok (w : World) : Calls Try.prog 27 #[] w (Ret fun u w' => u = .agg (wcs kL) ∧ Ext w w') := by
  refine calls_of_cfg c27_ok (Nat.le_of_ble_eq_true rfl) ?_
  simp only [argE_nil, argE_cons, Nat.reduceAdd, Nat.zero_add]
  (refine W_at c27_ok ?_; refine ⟨_, rfl, ?_⟩; simp (disch := first | omega | assumption | rfl | (simp only [vcS] <;> omega) | fail) only [↓ptV_l, ↓vcA, vcB, ↓vcD, vcE, ↓reduceIte, Nat.reduceEqDiff, Nat.reduceAdd, Nat.reduceMul, Nat.reduceLeDiff, Int.reduceLE, Int.reduceLT, Int.reduceEq, Int.reduceToNat, Int.reduceAdd, Int.reduceSub, Int.reduceMul, Int.reduceNeg, reduceCtorEq, Option.bind_some, Option.map_some, List.length_cons, List.length_nil, vcM, List.getElem?_toArray, List.getElem?_cons_zero, List.getElem?_cons_succ])
  have hE0 : Ext w (w.alloc (.cells (zc [(64, .int .u32 0)]) 60)) := (Keep.refl _ w).alloc _
  have hc0 : (w.alloc (.cells (zc [(64, .int .u32 0)]) 60)).heap[w.heap.size]? = some (.cells (zc [(64, .int .u32 0)]) 60 (0, 0)) := heap_new _ _ _ rfl
  have hgl : w.heap.size ≤ w.heap.size := Nat.le_refl _
  generalize World.alloc _ _ = w1 at hE0 hc0 ⊢
  generalize hg : w.heap.size = g at hc0 hgl ⊢
  (refine W_at c27_ok ?_; refine ⟨_, rfl, ?_⟩; simp (disch := first | omega | assumption | rfl | (simp only [vcS] <;> omega) | fail) only [↓ptV_l, ↓vcA, vcB, ↓vcD, vcE, ↓reduceIte, Nat.reduceEqDiff, Nat.reduceAdd, Nat.reduceMul, Nat.reduceLeDiff, Int.reduceLE, Int.reduceLT, Int.reduceEq, Int.reduceToNat, Int.reduceAdd, Int.reduceSub, Int.reduceMul, Int.reduceNeg, reduceCtorEq, Option.bind_some, Option.map_some, List.length_cons, List.length_nil, vcM, List.getElem?_toArray, List.getElem?_cons_zero, List.getElem?_cons_succ])
  have e64 : (#[Value.int .u32 1116352408] ++ (#[Value.int .u32 1899447441] ++ (#[Value.int .u32 3049323471] ++ (#[Value.int .u32 3921009573] ++ (#[Value.int .u32 961987163] ++ (#[Value.int .u32 1508970993] ++ (#[Value.int .u32 2453635748] ++ (#[Value.int .u32 2870763221] ++ (#[Value.int .u32 3624381080] ++ (#[Value.int .u32 310598401] ++ (#[Value.int .u32 607225278] ++ (#[Value.int .u32 1426881987] ++ (#[Value.int .u32 1925078388] ++ (#[Value.int .u32 2162078206] ++ (#[Value.int .u32 2614888103] ++ (#[Value.int .u32 3248222580] ++ (#[Value.int .u32 3835390401] ++ (#[Value.int .u32 4022224774] ++ (#[Value.int .u32 264347078] ++ (#[Value.int .u32 604807628] ++ (#[Value.int .u32 770255983] ++ (#[Value.int .u32 1249150122] ++ (#[Value.int .u32 1555081692] ++ (#[Value.int .u32 1996064986] ++ (#[Value.int .u32 2554220882] ++ (#[Value.int .u32 2821834349] ++ (#[Value.int .u32 2952996808] ++ (#[Value.int .u32 3210313671] ++ (#[Value.int .u32 3336571891] ++ (#[Value.int .u32 3584528711] ++ (#[Value.int .u32 113926993] ++ (#[Value.int .u32 338241895] ++ (#[Value.int .u32 666307205] ++ (#[Value.int .u32 773529912] ++ (#[Value.int .u32 1294757372] ++ (#[Value.int .u32 1396182291] ++ (#[Value.int .u32 1695183700] ++ (#[Value.int .u32 1986661051] ++ (#[Value.int .u32 2177026350] ++ (#[Value.int .u32 2456956037] ++ (#[Value.int .u32 2730485921] ++ (#[Value.int .u32 2820302411] ++ (#[Value.int .u32 3259730800] ++ (#[Value.int .u32 3345764771] ++ (#[Value.int .u32 3516065817] ++ (#[Value.int .u32 3600352804] ++ (#[Value.int .u32 4094571909] ++ (#[Value.int .u32 275423344] ++ (#[Value.int .u32 430227734] ++ (#[Value.int .u32 506948616] ++ (#[Value.int .u32 659060556] ++ (#[Value.int .u32 883997877] ++ (#[Value.int .u32 958139571] ++ (#[Value.int .u32 1322822218] ++ (#[Value.int .u32 1537002063] ++ (#[Value.int .u32 1747873779] ++ (#[Value.int .u32 1955562222] ++ (#[Value.int .u32 2024104815] ++ (#[Value.int .u32 2227730452] ++ (#[Value.int .u32 2361852424] ++ (#[Value.int .u32 2428436474] ++ (#[Value.int .u32 2756734187] ++ (#[Value.int .u32 3204031479, Value.int .u32 3329325298])))))))))))))))))))))))))))))))))))))))))))))))))))))))))))))) : Array Value) = wcs kL := by kernel_rfl
  rw [e64]
  have k1 : Keep (fun x => x = g) w1 (w1.putN g 0 (wcs kL)) := (Keep.refl _ w1).putN _ fun _ => rfl
  have s64 : (wcs kL).size = 64 := by rw [wcs_size, kL_len]
  have z64 : (zc [(64, Value.int .u32 0)]).size = 64 := by simp [zc, runs]
  have hc1 : (w1.putN g 0 (wcs kL)).heap[g]? = some (.cells (wcs kL) 60 (0, 0)) := by
    rw [heap_putN_eq hc0, splice_all (by rw [s64, z64])]
  refine ⟨s64, wcs_flat _, by rw [hc0]; simp [okO, z64], ?_⟩
  have hE1 : Ext w (w1.putN g 0 (wcs kL)) := hE0.trans k1 fun i hi e => by omega
  generalize World.putN _ _ _ _ = w2 at hc1 hE1 ⊢
  have hx : (wcs kL).extract 0 (0 + 64) = wcs kL := by rw [Nat.zero_add]; exact ext_all _ _ s64
  (refine W_at c27_ok ?_; refine ⟨_, rfl, ?_⟩; simp (disch := first | omega | assumption | rfl | (simp only [vcS] <;> omega) | fail) only [↓ptV_l, ↓vcA, vcB, ↓vcD, vcE, ↓reduceIte, Nat.reduceEqDiff, Nat.reduceAdd, Nat.reduceMul, Nat.reduceLeDiff, Int.reduceLE, Int.reduceLT, Int.reduceEq, Int.reduceToNat, Int.reduceAdd, Int.reduceSub, Int.reduceMul, Int.reduceNeg, reduceCtorEq, Option.bind_some, Option.map_some, List.length_cons, List.length_nil, vcM, List.getElem?_toArray, List.getElem?_cons_zero, List.getElem?_cons_succ, Ret_returned, hc1, hx, s64])
  exact hE1
end Go.Proofs
