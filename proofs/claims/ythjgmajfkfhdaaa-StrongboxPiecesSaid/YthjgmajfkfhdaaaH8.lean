/- SHA-256: 'Hash', 'Sum256', 'Twice', 'Double'. -/
import Derived.Test.YthjgmajfkfhdaaaH7
set_option linter.unusedSimpArgs false
set_option linter.unusedVariables false
set_option linter.constructorNameAsVariable false
namespace Go.Proofs
open Go.Vc
set_option maxRecDepth 10000

def outT (s : S8) (i : Nat) : List Int := (outF s).take (4 * i) ++ List.replicate (32 - 4 * i) 0
theorem outT_len (s : S8) (i : Nat) (h : i ≤ 8) : (outT s i).length = 32 := by
  unfold outT; rw [List.length_append, List.length_take, outF_len, List.length_replicate]; omega
theorem outT_8 (s : S8) : outT s 8 = outF s := by
  unfold outT; rw [List.take_of_length_le (by rw [outF_len]; omega)]; simp
theorem outT_set (s : S8) (i : Nat) (h : i < 8) : ((((outT s i).set (4 * i) (((((s.list.getD i 0) >>> 24).toNat % 256 : Nat)) : Int)).set (4 * i + 1) (((((s.list.getD i 0) >>> 16).toNat % 256 : Nat)) : Int)).set (4 * i + 2) (((((s.list.getD i 0) >>> 8).toNat % 256 : Nat)) : Int)).set (4 * i + 3) ((((s.list.getD i 0).toNat % 256 : Nat)) : Int) = outT s (i + 1) := by
  match i, h with
  | 0, _ => rfl
  | 1, _ => rfl
  | 2, _ => rfl
  | 3, _ => rfl
  | 4, _ => rfl
  | 5, _ => rfl
  | 6, _ => rfl
  | 7, _ => rfl
theorem bva_set (bs : List Int) (i : Nat) (x : Int) : (bv bs).toArray.setIfInBounds i (.int .u8 x) = (bv (bs.set i x)).toArray := by
  rw [List.setIfInBounds_toArray]
  simp [bv, List.map_set]
theorem bva_size (bs : List Int) : (bv bs).toArray.size = bs.length := by simp [bv]
theorem cvi8 (y : BitVec 32) : cviR .u8 (U32 y) = some (.int .u8 ((y.toNat % 256 : Nat) : Int)) := by
  unfold U32
  rw [cvi_i, wrap_u8]
  congr 2
theorem U32_shr24 (x : BitVec 32) : binR .shr (U32 x) (.int .u64 24) = some (U32 (x >>> 24)) := U32_shr x .u64 24 (by decide)
theorem U32_shr16 (x : BitVec 32) : binR .shr (U32 x) (.int .u64 16) = some (U32 (x >>> 16)) := U32_shr x .u64 16 (by decide)
theorem U32_shr8 (x : BitVec 32) : binR .shr (U32 x) (.int .u64 8) = some (U32 (x >>> 8)) := U32_shr x .u64 8 (by decide)
theorem z32 : zc [(32, Value.int .u8 0)] = (bv (List.replicate 32 0)).toArray := rfl
theorem poke {w : World} {g i : Nat} {bs : List Int} {T : TypeId} (x : Int) (h : w.heap[g]? = some (.cells (bv bs).toArray T (0, 0))) (hi : i < bs.length) :
    wr1 w g i ∧ (w.setCell ⟨g, i, none⟩ (.int .u8 x)).heap[g]? = some (.cells (bv (bs.set i x)).toArray T (0, 0)) ∧ Keep (fun y => y = g) w (w.setCell ⟨g, i, none⟩ (.int .u8 x)) :=
  ⟨wr1_of h (by rw [bva_size]; exact hi), by rw [heap_setCell_eq h, bva_set], (Keep.refl _ w).setCell _ fun _ => rfl⟩
theorem sumG_bld (st : S8) (v : Value) (n : Nat) (b : Bool) : (wcs st.list ++ (#[v] ++ #[Value.int .u64 (n : Nat), Value.bool b])) = sumG st v n b := by
  apply Array.ext'
  simp [wcs, sumG]
theorem sumG_flat (st : S8) (v : Value) (n : Nat) (b : Bool) (h : v.oneCell' = true) : flat (sumG st v n b) := by
  intro y hy
  simp only [sumG, List.mem_toArray, List.mem_append, List.mem_map, List.mem_cons, List.not_mem_nil, or_false] at hy
  rcases hy with ⟨x, _, rfl⟩ | rfl | rfl | rfl
  · rfl
  · exact h
  · rfl
  · rfl
set_option maxHeartbeats 3200000 in
theorem hash_ok (w : World) (g : Nat) (wv : Value) (m : List Int) (b : Bool) (h : SumAt w g wv m b) (hm : byt m) (hl : m.length ≤ 400000000) :
    Calls Try.prog 12 #[.pointer (some ⟨g, 0, none⟩)] w (Ret fun u w' => u = .agg (bv (shaF m)).toArray ∧ Ext w w') := by
  refine calls_of_cfg c12_ok (Nat.le_of_ble_eq_true rfl) ?_
  simp only [argE_nil, argE_cons, Nat.reduceAdd, Nat.zero_add]
  (refine W_at c12_ok ?_; refine ⟨_, rfl, ?_⟩; simp (disch := first | omega | assumption | rfl | (simp only [vcS] <;> omega) | fail) only [↓ptV_l, ↓vcA, vcB, ↓vcD, vcE, ↓reduceIte, Nat.reduceEqDiff, Nat.reduceAdd, Nat.reduceMul, Nat.reduceLeDiff, Int.reduceLE, Int.reduceLT, Int.reduceEq, Int.reduceToNat, Int.reduceAdd, Int.reduceSub, Int.reduceMul, Int.reduceNeg, reduceCtorEq, Option.bind_some, Option.map_some, List.length_cons, List.length_nil, vcM, List.getElem?_toArray, List.getElem?_cons_zero, List.getElem?_cons_succ])
  have hE0 : Ext w (w.alloc (.cells (zc [(32, .int .u8 0)]) 39)) := (Keep.refl _ w).alloc _
  have hp2 : (w.alloc (.cells (zc [(32, .int .u8 0)]) 39)).heap[w.heap.size]? = some (.cells (bv (List.replicate 32 0)).toArray 39 (0, 0)) := heap_new _ _ _ rfl
  have hp2l : w.heap.size ≤ w.heap.size := Nat.le_refl _
  generalize World.alloc _ _ = w1 at hE0 hp2 ⊢
  generalize hp2e : w.heap.size = p2 at hp2 hp2l ⊢
  have ho1 := hE0.at h.obj (fun h => h)
  rw [sumC_G] at ho1
  have hr8 : rdO (some (.cells (sumG (stF m b) wv m.length b) 32 (0, 0))) 0 8 = some (wcs (stF m b).list) := rd8 _ _ _
  have hwv1 : wv.cells = #[wv] := by obtain ⟨q, c, e, _⟩ := h.wait.rd.is; rw [e]; rfl
  have s8 : (wcs (stF m b).list).size = 8 := wcs_size _
  (refine W_at c12_ok ?_; refine ⟨_, rfl, ?_⟩; simp (disch := first | omega | assumption | rfl | (simp only [vcS] <;> omega) | fail) only [↓ptV_l, ↓vcA, vcB, ↓vcD, vcE, ↓reduceIte, Nat.reduceEqDiff, Nat.reduceAdd, Nat.reduceMul, Nat.reduceLeDiff, Int.reduceLE, Int.reduceLT, Int.reduceEq, Int.reduceToNat, Int.reduceAdd, Int.reduceSub, Int.reduceMul, Int.reduceNeg, reduceCtorEq, Option.bind_some, Option.map_some, List.length_cons, List.length_nil, vcM, List.getElem?_toArray, List.getElem?_cons_zero, List.getElem?_cons_succ, ho1, hr8, sumG_8, sumG_9, sumG_10])
  have hn : wv = .slice none 0 0 ∨ ∃ a n c, wv = .slice (some a) n c := by
    obtain ⟨_, ⟨e, _⟩ | ⟨g', o, cap, cur, e, _⟩⟩ := h.wait
    · exact .inl e
    · exact .inr ⟨_, _, _, e⟩
  have hzs : ((zc [(8, .int .u32 0), (1, .slice none 0 0), (1, .int .u64 0), (1, .bool false)]) : Array Value).size = 11 := rfl
  -- behind the copy
  have cont : ∀ (w2 : World) (p3 : Nat) (wv2 : Value), SumAt w2 p3 wv2 m b → Ext w w2 → w2.heap[p2]? = some (.cells (bv (List.replicate 32 0)).toArray 39 (0, 0)) → p2 < p3 → (∀ y, blk wv2 y → p2 < y) →
      W Try.prog (Ret fun u w' => u = .agg (bv (shaF m)).toArray ∧ Ext w w') 12 11 [(0, .pointer (some ⟨g, 0, none⟩)), (2, .pointer (some ⟨p2, 0, none⟩)), (3, .pointer (some ⟨p3, 0, none⟩))] w2 := by
    intro w2 p3 wv2 hS2 hE2 hp22 h23 hb2
    have ho2 := hE2.at h.obj (fun h => h)
    rw [sumC_G] at ho2
    (refine W_at c12_ok ?_; refine ⟨_, rfl, ?_⟩; simp (disch := first | omega | assumption | rfl | (simp only [vcS] <;> omega) | fail) only [↓ptV_l, ↓vcA, vcB, ↓vcD, vcE, ↓reduceIte, Nat.reduceEqDiff, Nat.reduceAdd, Nat.reduceMul, Nat.reduceLeDiff, Int.reduceLE, Int.reduceLT, Int.reduceEq, Int.reduceToNat, Int.reduceAdd, Int.reduceSub, Int.reduceMul, Int.reduceNeg, reduceCtorEq, Option.bind_some, Option.map_some, List.length_cons, List.length_nil, vcM, List.getElem?_toArray, List.getElem?_cons_zero, List.getElem?_cons_succ, ho2, sumG_9])
    refine callV_ret (tail_ok w2 m.length (by omega)) ?_
    intro tv w3 hN
    have hpl := padF_len m.length
    have hS3 := hS2.ext hN.ext
    have hp23 := hN.ext.at hp22 (fun h => h)
    first | (simp (disch := first | omega | assumption | rfl | (simp only [vcS] <;> omega) | fail) only [↓ptV_l, ↓vcA, vcB, ↓vcD, vcE, ↓reduceIte, Nat.reduceEqDiff, Nat.reduceAdd, Nat.reduceMul, Nat.reduceLeDiff, Int.reduceLE, Int.reduceLT, Int.reduceEq, Int.reduceToNat, Int.reduceAdd, Int.reduceSub, Int.reduceMul, Int.reduceNeg, reduceCtorEq, Option.bind_some, Option.map_some, List.length_cons, List.length_nil, vcM, List.getElem?_toArray, List.getElem?_cons_zero, List.getElem?_cons_succ]) | skip
    refine callV_ret (add_ok w3 p3 wv2 tv m (padF m.length) b hS3 hN.own.rd (fun _ q n c e hq => ?_) (padF_byt _) hm (by omega)) ?_
    · have h1 := hN.new q.block (by rw [e]; rfl)
      have h2 := lt_of_heap hS2.obj
      omega
    rintro _ w4 ⟨wv4, hS4, hK4, hB4⟩
    have hE4 : Ext w w4 := (hE2.ext hN.ext).trans hK4 fun i hi hy => by
      rcases hy with rfl | hy
      · omega
      · have := hb2 i hy; omega
    have hp24 := hK4.at hp23 (fun hy => by
      rcases hy with e | hy
      · omega
      · have := hb2 p2 hy; omega)
    have ho4 := hS4.obj
    rw [sumC_G] at ho4
    have hst : stF (m ++ padF m.length) true = runN ((allF m).length / 64) iv (allF m) := rfl
    rw [hst] at ho4
    have hsha : shaF m = outF (runN ((allF m).length / 64) iv (allF m)) := rfl
    rw [hsha]
    generalize runN ((allF m).length / 64) iv (allF m) = st at ho4 ⊢
    first | (simp (disch := first | omega | assumption | rfl | (simp only [vcS] <;> omega) | fail) only [↓ptV_l, ↓vcA, vcB, ↓vcD, vcE, ↓reduceIte, Nat.reduceEqDiff, Nat.reduceAdd, Nat.reduceMul, Nat.reduceLeDiff, Int.reduceLE, Int.reduceLT, Int.reduceEq, Int.reduceToNat, Int.reduceAdd, Int.reduceSub, Int.reduceMul, Int.reduceNeg, reduceCtorEq, Option.bind_some, Option.map_some, List.length_cons, List.length_nil, vcM, List.getElem?_toArray, List.getElem?_cons_zero, List.getElem?_cons_succ]) | skip
    (refine W_at c12_ok ?_; refine ⟨_, rfl, ?_⟩; simp (disch := first | omega | assumption | rfl | (simp only [vcS] <;> omega) | fail) only [↓ptV_l, ↓vcA, vcB, ↓vcD, vcE, ↓reduceIte, Nat.reduceEqDiff, Nat.reduceAdd, Nat.reduceMul, Nat.reduceLeDiff, Int.reduceLE, Int.reduceLT, Int.reduceEq, Int.reduceToNat, Int.reduceAdd, Int.reduceSub, Int.reduceMul, Int.reduceNeg, reduceCtorEq, Option.bind_some, Option.map_some, List.length_cons, List.length_nil, vcM, List.getElem?_toArray, List.getElem?_cons_zero, List.getElem?_cons_succ])
    have hE5 : Ext w4 (w4.alloc (.cells (zc [(32, .int .u8 0)]) 39)) := (Keep.refl _ w4).alloc _
    have hp5 : (w4.alloc (.cells (zc [(32, .int .u8 0)]) 39)).heap[w4.heap.size]? = some (.cells (bv (outT st 0)).toArray 39 (0, 0)) := heap_new _ _ _ rfl
    have hp24l := lt_of_heap hp24
    have hw4l := hE4.size
    generalize World.alloc _ _ = w5 at hE5 hp5 ⊢
    generalize w4.heap.size = p4 at hp5 hp24l hw4l ⊢
    have ho5 := hE5.at ho4 (fun h => h)
    have hp25 := hE5.at hp24 (fun h => h)
    have hr85 : rdO (some (.cells (sumG st wv4 (m ++ padF m.length).length true) 32 (0, 0))) 0 8 = some (wcs st.list) := rd8 _ _ _
    (refine W_at c12_ok ?_; refine ⟨_, rfl, ?_⟩; simp (disch := first | omega | assumption | rfl | (simp only [vcS] <;> omega) | fail) only [↓ptV_l, ↓vcA, vcB, ↓vcD, vcE, ↓reduceIte, Nat.reduceEqDiff, Nat.reduceAdd, Nat.reduceMul, Nat.reduceLeDiff, Int.reduceLE, Int.reduceLT, Int.reduceEq, Int.reduceToNat, Int.reduceAdd, Int.reduceSub, Int.reduceMul, Int.reduceNeg, reduceCtorEq, Option.bind_some, Option.map_some, List.length_cons, List.length_nil, vcM, List.getElem?_toArray, List.getElem?_cons_zero, List.getElem?_cons_succ, ho5, hr85])
    have L : ∀ (k i : Nat) (wj : World), i + k = 8 → wj.heap[p4]? = some (.cells (bv (outT st i)).toArray 39 (0, 0)) → wj.heap[p2]? = some (.cells (bv (List.replicate 32 0)).toArray 39 (0, 0)) → Ext w wj →
        W Try.prog (Ret fun u w' => u = .agg (bv (outF st)).toArray ∧ Ext w w') 12 8 [(2, .pointer (some ⟨p2, 0, none⟩)), (4, .pointer (some ⟨p4, 0, none⟩)), (32, .agg (wcs st.list)), (33, .int .i64 (i : Nat))] wj := by
      intro k
      induction k with
      | zero =>
        intro i wj hi h4 h2 hE
        obtain rfl : i = 8 := by omega
        rw [outT_8] at h4
        have hr32 : rdO (some (.cells (bv (outF st)).toArray 39 (0, 0))) 0 32 = some (bv (outF st)).toArray := rdO_all _ _ _ _ (by rw [bva_size, outF_len])
        have s32 : (bv (outF st)).toArray.size = 32 := by rw [bva_size, outF_len]
        have hok : okO (some (.cells (bv (List.replicate 32 0)).toArray 39 (0, 0))) 0 32 = True := by simp only [okO, bva_size, List.length_replicate]; simp
        (refine W_at c12_ok ?_; refine ⟨_, rfl, ?_⟩; simp (disch := first | omega | assumption | rfl | (simp only [vcS] <;> omega) | fail) only [↓ptV_l, ↓vcA, vcB, ↓vcD, vcE, ↓reduceIte, Nat.reduceEqDiff, Nat.reduceAdd, Nat.reduceMul, Nat.reduceLeDiff, Int.reduceLE, Int.reduceLT, Int.reduceEq, Int.reduceToNat, Int.reduceAdd, Int.reduceSub, Int.reduceMul, Int.reduceNeg, reduceCtorEq, Option.bind_some, Option.map_some, List.length_cons, List.length_nil, vcM, List.getElem?_toArray, List.getElem?_cons_zero, List.getElem?_cons_succ])
        (refine W_at c12_ok ?_; refine ⟨_, rfl, ?_⟩; simp (disch := first | omega | assumption | rfl | (simp only [vcS] <;> omega) | fail) only [↓ptV_l, ↓vcA, vcB, ↓vcD, vcE, ↓reduceIte, Nat.reduceEqDiff, Nat.reduceAdd, Nat.reduceMul, Nat.reduceLeDiff, Int.reduceLE, Int.reduceLT, Int.reduceEq, Int.reduceToNat, Int.reduceAdd, Int.reduceSub, Int.reduceMul, Int.reduceNeg, reduceCtorEq, Option.bind_some, Option.map_some, List.length_cons, List.length_nil, vcM, List.getElem?_toArray, List.getElem?_cons_zero, List.getElem?_cons_succ])
        (refine W_at c12_ok ?_; refine ⟨_, rfl, ?_⟩; simp (disch := first | omega | assumption | rfl | (simp only [vcS] <;> omega) | fail) only [↓ptV_l, ↓vcA, vcB, ↓vcD, vcE, ↓reduceIte, Nat.reduceEqDiff, Nat.reduceAdd, Nat.reduceMul, Nat.reduceLeDiff, Int.reduceLE, Int.reduceLT, Int.reduceEq, Int.reduceToNat, Int.reduceAdd, Int.reduceSub, Int.reduceMul, Int.reduceNeg, reduceCtorEq, Option.bind_some, Option.map_some, List.length_cons, List.length_nil, vcM, List.getElem?_toArray, List.getElem?_cons_zero, List.getElem?_cons_succ, h4, h2, hr32, s32, hok])
        have k2 : Keep (fun y => y = p2) wj (wj.putN p2 0 (bv (outF st)).toArray) := (Keep.refl _ wj).putN _ fun _ => rfl
        have h2' : (wj.putN p2 0 (bv (outF st)).toArray).heap[p2]? = some (.cells (bv (outF st)).toArray 39 (0, 0)) := by
          rw [heap_putN_eq h2, splice_all (by rw [bva_size, bva_size, outF_len]; rfl)]
        refine ⟨bv_flat _, ?_⟩
        have hEk : Ext w (wj.putN p2 0 (bv (outF st)).toArray) := hE.trans k2 fun x hx e => by omega
        generalize World.putN _ _ _ _ = wk at k2 h2' hEk ⊢
        (refine W_at c12_ok ?_; refine ⟨_, rfl, ?_⟩; simp (disch := first | omega | assumption | rfl | (simp only [vcS] <;> omega) | fail) only [↓ptV_l, ↓vcA, vcB, ↓vcD, vcE, ↓reduceIte, Nat.reduceEqDiff, Nat.reduceAdd, Nat.reduceMul, Nat.reduceLeDiff, Int.reduceLE, Int.reduceLT, Int.reduceEq, Int.reduceToNat, Int.reduceAdd, Int.reduceSub, Int.reduceMul, Int.reduceNeg, reduceCtorEq, Option.bind_some, Option.map_some, List.length_cons, List.length_nil, vcM, List.getElem?_toArray, List.getElem?_cons_zero, List.getElem?_cons_succ, Ret_returned, h2', hr32])
        exact hEk
      | succ k ih =>
        intro i wj hi h4 h2 hE
        have hlt : ((i : Nat) : Int) < 8 := by omega
        have b1 : 0 ≤ ((i : Nat) : Int) ∧ ((i : Nat) : Int) < 8 := by omega
        have hwi : IntKind.i64.wrap (((i : Nat) : Int) + 1) = ((i + 1 : Nat) : Int) := wrap_i64 (by omega) (by omega)
        have hel := wcs8_at st i (by omega)
        have hset := outT_set st i (by omega)
        have hlen := outT_len st i (by omega)
        have m0 : IntKind.i64.wrap (4 * ((i : Nat) : Int)) = ((4 * i : Nat) : Int) := by rw [wrap_i64 (by omega) (by omega)]; omega
        have m1 : IntKind.i64.wrap (((4 * i : Nat) : Int) + 1) = ((4 * i + 1 : Nat) : Int) := by rw [wrap_i64 (by omega) (by omega)]; omega
        have m2 : IntKind.i64.wrap (((4 * i : Nat) : Int) + 2) = ((4 * i + 2 : Nat) : Int) := by rw [wrap_i64 (by omega) (by omega)]; omega
        have m3 : IntKind.i64.wrap (((4 * i : Nat) : Int) + 3) = ((4 * i + 3 : Nat) : Int) := by rw [wrap_i64 (by omega) (by omega)]; omega
        have i0 : 0 ≤ ((4 * i : Nat) : Int) ∧ ((4 * i : Nat) : Int) < 32 := by omega
        have i1 : 0 ≤ ((4 * i + 1 : Nat) : Int) ∧ ((4 * i + 1 : Nat) : Int) < 32 := by omega
        have i2 : 0 ≤ ((4 * i + 2 : Nat) : Int) ∧ ((4 * i + 2 : Nat) : Int) < 32 := by omega
        have i3 : 0 ≤ ((4 * i + 3 : Nat) : Int) ∧ ((4 * i + 3 : Nat) : Int) < 32 := by omega
        generalize st.list.getD i 0 = xi at hel hset
        (refine W_at c12_ok ?_; refine ⟨_, rfl, ?_⟩; simp (disch := first | omega | assumption | rfl | (simp only [vcS] <;> omega) | fail) only [↓ptV_l, ↓vcA, vcB, ↓vcD, vcE, ↓reduceIte, Nat.reduceEqDiff, Nat.reduceAdd, Nat.reduceMul, Nat.reduceLeDiff, Int.reduceLE, Int.reduceLT, Int.reduceEq, Int.reduceToNat, Int.reduceAdd, Int.reduceSub, Int.reduceMul, Int.reduceNeg, reduceCtorEq, Option.bind_some, Option.map_some, List.length_cons, List.length_nil, vcM, List.getElem?_toArray, List.getElem?_cons_zero, List.getElem?_cons_succ, hlt])
        (refine W_at c12_ok ?_; refine ⟨_, rfl, ?_⟩; simp (disch := first | omega | assumption | rfl | (simp only [vcS] <;> omega) | fail) only [↓ptV_l, ↓vcA, vcB, ↓vcD, vcE, ↓reduceIte, Nat.reduceEqDiff, Nat.reduceAdd, Nat.reduceMul, Nat.reduceLeDiff, Int.reduceLE, Int.reduceLT, Int.reduceEq, Int.reduceToNat, Int.reduceAdd, Int.reduceSub, Int.reduceMul, Int.reduceNeg, reduceCtorEq, Option.bind_some, Option.map_some, List.length_cons, List.length_nil, vcM, List.getElem?_toArray, List.getElem?_cons_zero, List.getElem?_cons_succ])
        (refine W_at c12_ok ?_; refine ⟨_, rfl, ?_⟩; simp (disch := first | omega | assumption | rfl | (simp only [vcS] <;> omega) | fail) only [↓ptV_l, ↓vcA, vcB, ↓vcD, vcE, ↓reduceIte, Nat.reduceEqDiff, Nat.reduceAdd, Nat.reduceMul, Nat.reduceLeDiff, Int.reduceLE, Int.reduceLT, Int.reduceEq, Int.reduceToNat, Int.reduceAdd, Int.reduceSub, Int.reduceMul, Int.reduceNeg, reduceCtorEq, Option.bind_some, Option.map_some, List.length_cons, List.length_nil, vcM, List.getElem?_toArray, List.getElem?_cons_zero, List.getElem?_cons_succ, b1, Int.toNat_natCast, Nat.mul_one, hel])
        (refine W_at c12_ok ?_; refine ⟨_, rfl, ?_⟩; simp (disch := first | omega | assumption | rfl | (simp only [vcS] <;> omega) | fail) only [↓ptV_l, ↓vcA, vcB, ↓vcD, vcE, ↓reduceIte, Nat.reduceEqDiff, Nat.reduceAdd, Nat.reduceMul, Nat.reduceLeDiff, Int.reduceLE, Int.reduceLT, Int.reduceEq, Int.reduceToNat, Int.reduceAdd, Int.reduceSub, Int.reduceMul, Int.reduceNeg, reduceCtorEq, Option.bind_some, Option.map_some, List.length_cons, List.length_nil, vcM, List.getElem?_toArray, List.getElem?_cons_zero, List.getElem?_cons_succ, m0, m1, m2, m3, i0, i1, i2, i3, Int.toNat_natCast, Nat.mul_one, Nat.zero_add, U32_shr24, U32_shr16, U32_shr8, cvi8])
        obtain ⟨a1, c1, e1⟩ := poke ((((xi >>> 24).toNat % 256 : Nat)) : Int) h4 (i := 4 * i) (by omega)
        obtain ⟨a2, c2, e2⟩ := poke ((((xi >>> 16).toNat % 256 : Nat)) : Int) c1 (i := 4 * i + 1) (by rw [List.length_set]; omega)
        obtain ⟨a3, c3, e3⟩ := poke ((((xi >>> 8).toNat % 256 : Nat)) : Int) c2 (i := 4 * i + 2) (by rw [List.length_set, List.length_set]; omega)
        obtain ⟨a4, c4, e4⟩ := poke (((xi.toNat % 256 : Nat)) : Int) c3 (i := 4 * i + 3) (by rw [List.length_set, List.length_set, List.length_set]; omega)
        rw [hset] at c4
        refine ⟨a1, a2, a3, a4, ?_⟩
        have ke := ((e1.trans e2 fun _ _ h => h).trans e3 fun _ _ h => h).trans e4 fun _ _ h => h
        have hEk := hE.trans ke fun x hx e => by omega
        have h2k := ke.at h2 (by omega)
        generalize World.setCell (World.setCell (World.setCell (World.setCell _ _ _) _ _) _ _) _ _ = wk at c4 hEk h2k ⊢
        (refine W_at c12_ok ?_; refine ⟨_, rfl, ?_⟩; simp (disch := first | omega | assumption | rfl | (simp only [vcS] <;> omega) | fail) only [↓ptV_l, ↓vcA, vcB, ↓vcD, vcE, ↓reduceIte, Nat.reduceEqDiff, Nat.reduceAdd, Nat.reduceMul, Nat.reduceLeDiff, Int.reduceLE, Int.reduceLT, Int.reduceEq, Int.reduceToNat, Int.reduceAdd, Int.reduceSub, Int.reduceMul, Int.reduceNeg, reduceCtorEq, Option.bind_some, Option.map_some, List.length_cons, List.length_nil, vcM, List.getElem?_toArray, List.getElem?_cons_zero, List.getElem?_cons_succ, hwi])
        (refine W_at c12_ok ?_; refine ⟨_, rfl, ?_⟩; simp (disch := first | omega | assumption | rfl | (simp only [vcS] <;> omega) | fail) only [↓ptV_l, ↓vcA, vcB, ↓vcD, vcE, ↓reduceIte, Nat.reduceEqDiff, Nat.reduceAdd, Nat.reduceMul, Nat.reduceLeDiff, Int.reduceLE, Int.reduceLT, Int.reduceEq, Int.reduceToNat, Int.reduceAdd, Int.reduceSub, Int.reduceMul, Int.reduceNeg, reduceCtorEq, Option.bind_some, Option.map_some, List.length_cons, List.length_nil, vcM, List.getElem?_toArray, List.getElem?_cons_zero, List.getElem?_cons_succ])
        exact ih (i + 1) wk (by omega) c4 h2k hEk
    exact L 8 0 w5 (by omega) hp5 hp25 (hE4.ext hE5)
  have hEd : Ext w1 w1.drew := (Keep.refl _ w1).drew
  have hbl : (waitL m).length ≤ 500000000 := by rw [waitL_len]; omega
  have hsc : ∀ v : Value, v.oneCell' = true → v.cells = #[v] → True := fun _ _ _ => trivial
  have hs11 : ∀ v : Value, (sumG (stF m b) v m.length b).size = 11 := fun _ => rfl
  have h1s : ∀ v : Value, (#[v] : Array Value).size = 1 := fun _ => rfl
  refine ⟨?_, ?_⟩
  · refine callV_ret (bclone_ok w1.drew wv (waitL m) (h.wait.rd.ext (hE0.ext hEd)) hn hbl) ?_
    rintro v w2 ⟨hO2, hE2, hb2⟩
    have hvc : v.cells = #[v] := by obtain ⟨q, c, e, _⟩ := hO2.rd.is; rw [e]; rfl
    have ho2 := (hEd.ext hE2).at ho1 (fun h => h)
    have hE3 : Ext w2 (w2.alloc (.cells (zc [(8, .int .u32 0), (1, .slice none 0 0), (1, .int .u64 0), (1, .bool false)]) 32)) := (Keep.refl _ w2).alloc _
    have ho3 := hE3.at ho2 (fun h => h)
    have hbld := sumG_bld (stF m b) v m.length b
    simp (disch := first | omega | assumption | rfl | (simp only [vcS] <;> omega) | fail) only [↓ptV_l, ↓vcA, vcB, ↓vcD, vcE, ↓reduceIte, Nat.reduceEqDiff, Nat.reduceAdd, Nat.reduceMul, Nat.reduceLeDiff, Int.reduceLE, Int.reduceLT, Int.reduceEq, Int.reduceToNat, Int.reduceAdd, Int.reduceSub, Int.reduceMul, Int.reduceNeg, reduceCtorEq, Option.bind_some, Option.map_some, List.length_cons, List.length_nil, vcM, List.getElem?_toArray, List.getElem?_cons_zero, List.getElem?_cons_succ, ho2, ho3, hr8, sumG_9, sumG_10, hvc, h1s, s8, hbld, hs11]
    refine ⟨sumG_flat _ _ _ _ hO2.rd.one, Nat.le_refl _, ?_⟩
    have hob : ((w2.alloc (.cells (zc [(8, .int .u32 0), (1, .slice none 0 0), (1, .int .u64 0), (1, .bool false)]) 32)).putN w2.heap.size 0 (sumG (stF m b) v m.length b)).heap[w2.heap.size]? = some (.cells (sumC m b v) 32 (0, 0)) := by
      rw [heap_putN_eq (heap_new _ _ _ rfl), splice_all (by rw [sumG_size]; rfl), sumC_G]
    have hEb : Ext w2 ((w2.alloc (.cells (zc [(8, .int .u32 0), (1, .slice none 0 0), (1, .int .u64 0), (1, .bool false)]) 32)).putN w2.heap.size 0 (sumG (stF m b) v m.length b)) := ((Keep.refl _ w2).alloc _).putN _ (by intro hh; exfalso; omega)
    generalize World.putN _ _ _ _ = w4 at hob hEb ⊢
    have hEw : Ext w1 w4 := (hEd.ext hE2).ext hEb
    have hp2l1 := lt_of_heap hp2
    have hz2 := (hEd.ext hE2).size
    exact cont w4 _ v ⟨hob, hO2.ext hEb, h.zero⟩ (hE0.ext hEw) (hEw.at hp2 fun h => h) (by omega) fun y hy => by have h1 : w1.heap.size ≤ y := hb2 y hy; omega
  · have hE3 : Ext w1 (w1.drew.alloc (.cells (zc [(8, .int .u32 0), (1, .slice none 0 0), (1, .int .u64 0), (1, .bool false)]) 32)) := hEd.alloc _
    have hp3 : (w1.drew.alloc (.cells (zc [(8, .int .u32 0), (1, .slice none 0 0), (1, .int .u64 0), (1, .bool false)]) 32)).heap[w1.heap.size]? = some (.cells (zc [(8, .int .u32 0), (1, .slice none 0 0), (1, .int .u64 0), (1, .bool false)]) 32 (0, 0)) := heap_new _ _ _ rfl
    have ho3 := hE3.at ho1 (fun h => h)
    have hp2l1 := lt_of_heap hp2
    generalize World.alloc _ _ = w3 at hE3 hp3 ho3 ⊢
    generalize hp3e : w1.heap.size = p3 at hp3 hp2l1 ⊢
    simp (disch := first | omega | assumption | rfl | (simp only [vcS] <;> omega) | fail) only [↓ptV_l, ↓vcA, vcB, ↓vcD, vcE, ↓reduceIte, Nat.reduceEqDiff, Nat.reduceAdd, Nat.reduceMul, Nat.reduceLeDiff, Int.reduceLE, Int.reduceLT, Int.reduceEq, Int.reduceToNat, Int.reduceAdd, Int.reduceSub, Int.reduceMul, Int.reduceNeg, reduceCtorEq, Option.bind_some, Option.map_some, List.length_cons, List.length_nil, vcM, List.getElem?_toArray, List.getElem?_cons_zero, List.getElem?_cons_succ, ho3, hr8, sumG_8, sumG_9, sumG_10]
    refine callV_ret (bclone_ok w3 wv (waitL m) (h.wait.rd.ext (hE0.ext hE3)) hn hbl) ?_
    rintro v w2 ⟨hO2, hE2, hb2⟩
    have hvc : v.cells = #[v] := by obtain ⟨q, c, e, _⟩ := hO2.rd.is; rw [e]; rfl
    have ho2 := hE2.at ho3 (fun h => h)
    have hp32 := hE2.at hp3 (fun h => h)
    have hbld := sumG_bld (stF m b) v m.length b
    simp (disch := first | omega | assumption | rfl | (simp only [vcS] <;> omega) | fail) only [↓ptV_l, ↓vcA, vcB, ↓vcD, vcE, ↓reduceIte, Nat.reduceEqDiff, Nat.reduceAdd, Nat.reduceMul, Nat.reduceLeDiff, Int.reduceLE, Int.reduceLT, Int.reduceEq, Int.reduceToNat, Int.reduceAdd, Int.reduceSub, Int.reduceMul, Int.reduceNeg, reduceCtorEq, Option.bind_some, Option.map_some, List.length_cons, List.length_nil, vcM, List.getElem?_toArray, List.getElem?_cons_zero, List.getElem?_cons_succ, ho2, hr8, sumG_9, sumG_10, hvc, h1s, s8, hbld, hs11, hp32]
    refine ⟨sumG_flat _ _ _ _ hO2.rd.one, Nat.le_refl _, ?_⟩
    have hob : (w2.putN p3 0 (sumG (stF m b) v m.length b)).heap[p3]? = some (.cells (sumC m b v) 32 (0, 0)) := by
      rw [heap_putN_eq hp32, splice_all (by rw [sumG_size]; rfl), sumC_G]
    have kb : Keep (fun y => y = p3) w2 (w2.putN p3 0 (sumG (stF m b) v m.length b)) := (Keep.refl _ w2).putN _ fun _ => rfl
    generalize World.putN _ _ _ _ = w4 at hob kb ⊢
    have hEw : Ext w1 w4 := (hE3.ext hE2).trans kb fun i hi e => by omega
    have hp3l := lt_of_heap hp3
    exact cont w4 p3 v ⟨hob, hO2.keep kb fun y hy e => by have := hb2 y hy; omega, h.zero⟩ (hE0.ext hEw) (hEw.at hp2 fun h => h) (by omega) fun y hy => by have := hb2 y hy; omega
/-- A digest's bytes in an array of their own, as a slice. -/
theorem arr_rd {w : World} {g : Nat} {bs : List Int} {T : TypeId} (h : w.heap[g]? = some (.cells (bv bs).toArray T (0, 0))) (hl : bs.length ≤ maxLen) : Rd w (.slice (some ⟨g, 0, none⟩) bs.length bs.length) bs := by
  refine ⟨⟨_, _, rfl, Nat.le_refl _⟩, hl, ?_⟩
  simp only [rdS]
  split
  · rename_i h0
    have : bs = [] := List.eq_nil_of_length_eq_zero h0
    subst this; rfl
  · rw [rdN_heap, h, rdO_some _ _ _ _ _ (by simp [bv_len]), Nat.zero_add, ext_all _ _ (by simp [bv_len])]
theorem new_sum (w : World) : SumAt (w.alloc (.cells (zc [(8, .int .u32 0), (1, .slice none 0 0), (1, .int .u64 0), (1, .bool false)]) 32)) w.heap.size (.slice none 0 0) [] false :=
  ⟨heap_new _ _ _ rfl, by unfold waitL; exact ByO.nil _, fun _ => rfl⟩
set_option maxHeartbeats 800000 in
theorem sum256_ok (w : World) (x : Value) (bs : List Int) (hx : Rd w x bs) (hb : byt bs) (hl : bs.length ≤ 100000000) :
    Calls Try.prog 9 #[x] w (Ret fun u w' => u = .agg (bv (shaF bs)).toArray ∧ Ext w w') := by
  refine calls_of_cfg c9_ok (Nat.le_of_ble_eq_true rfl) ?_
  simp only [argE_nil, argE_cons, Nat.reduceAdd, Nat.zero_add]
  (refine W_at c9_ok ?_; refine ⟨_, rfl, ?_⟩; simp (disch := first | omega | assumption | rfl | (simp only [vcS] <;> omega) | fail) only [↓ptV_l, ↓vcA, vcB, ↓vcD, vcE, ↓reduceIte, Nat.reduceEqDiff, Nat.reduceAdd, Nat.reduceMul, Nat.reduceLeDiff, Int.reduceLE, Int.reduceLT, Int.reduceEq, Int.reduceToNat, Int.reduceAdd, Int.reduceSub, Int.reduceMul, Int.reduceNeg, reduceCtorEq, Option.bind_some, Option.map_some, List.length_cons, List.length_nil, vcM, List.getElem?_toArray, List.getElem?_cons_zero, List.getElem?_cons_succ])
  have hE0 : Ext w (w.alloc (.cells (zc [(32, .int .u8 0)]) 39)) := (Keep.refl _ w).alloc _
  have hp2 : (w.alloc (.cells (zc [(32, .int .u8 0)]) 39)).heap[w.heap.size]? = some (.cells (bv (List.replicate 32 0)).toArray 39 (0, 0)) := heap_new _ _ _ rfl
  generalize World.alloc _ _ = w1 at hE0 hp2 ⊢
  generalize hp2e : w.heap.size = p2 at hp2 ⊢
  (refine W_at c9_ok ?_; refine ⟨_, rfl, ?_⟩; simp (disch := first | omega | assumption | rfl | (simp only [vcS] <;> omega) | fail) only [↓ptV_l, ↓vcA, vcB, ↓vcD, vcE, ↓reduceIte, Nat.reduceEqDiff, Nat.reduceAdd, Nat.reduceMul, Nat.reduceLeDiff, Int.reduceLE, Int.reduceLT, Int.reduceEq, Int.reduceToNat, Int.reduceAdd, Int.reduceSub, Int.reduceMul, Int.reduceNeg, reduceCtorEq, Option.bind_some, Option.map_some, List.length_cons, List.length_nil, vcM, List.getElem?_toArray, List.getElem?_cons_zero, List.getElem?_cons_succ])
  have hE1 : Ext w1 (w1.alloc (.cells (zc [(8, .int .u32 0), (1, .slice none 0 0), (1, .int .u64 0), (1, .bool false)]) 32)) := (Keep.refl _ w1).alloc _
  have hS1 := new_sum w1
  have hp2l := lt_of_heap hp2
  generalize World.alloc _ _ = w2 at hE1 hS1 ⊢
  have hw1l := hE0.size
  generalize w1.heap.size = p3 at hS1 hp2l hw1l ⊢
  have hxlt : bs ≠ [] → ∀ q n c, x = .slice (some q) n c → q.block ≠ p3 := fun h0 q n c e hq => by have := hx.lt h0 q n c e; omega
  (refine W_at c9_ok ?_; refine ⟨_, rfl, ?_⟩; simp (disch := first | omega | assumption | rfl | (simp only [vcS] <;> omega) | fail) only [↓ptV_l, ↓vcA, vcB, ↓vcD, vcE, ↓reduceIte, Nat.reduceEqDiff, Nat.reduceAdd, Nat.reduceMul, Nat.reduceLeDiff, Int.reduceLE, Int.reduceLT, Int.reduceEq, Int.reduceToNat, Int.reduceAdd, Int.reduceSub, Int.reduceMul, Int.reduceNeg, reduceCtorEq, Option.bind_some, Option.map_some, List.length_cons, List.length_nil, vcM, List.getElem?_toArray, List.getElem?_cons_zero, List.getElem?_cons_succ])
  refine callV_ret (add_ok w2 p3 _ x [] bs false hS1 ((hx.ext hE0).ext hE1) hxlt hb byt_nil (by simp; omega)) ?_
  rintro _ w3 ⟨wv, hS3, hK3, hB3⟩
  rw [List.nil_append] at hS3
  have hE3 : Ext w w3 := (hE0.ext hE1).trans hK3 fun i hi hy => by
    rcases hy with e | hy
    · omega
    · cases hy
  have hp23 := hK3.at (hE1.at hp2 fun h => h) (fun hy => by rcases hy with e | hy; omega; cases hy)
  first | (simp (disch := first | omega | assumption | rfl | (simp only [vcS] <;> omega) | fail) only [↓ptV_l, ↓vcA, vcB, ↓vcD, vcE, ↓reduceIte, Nat.reduceEqDiff, Nat.reduceAdd, Nat.reduceMul, Nat.reduceLeDiff, Int.reduceLE, Int.reduceLT, Int.reduceEq, Int.reduceToNat, Int.reduceAdd, Int.reduceSub, Int.reduceMul, Int.reduceNeg, reduceCtorEq, Option.bind_some, Option.map_some, List.length_cons, List.length_nil, vcM, List.getElem?_toArray, List.getElem?_cons_zero, List.getElem?_cons_succ]) | skip
  (refine W_at c9_ok ?_; refine ⟨_, rfl, ?_⟩; simp (disch := first | omega | assumption | rfl | (simp only [vcS] <;> omega) | fail) only [↓ptV_l, ↓vcA, vcB, ↓vcD, vcE, ↓reduceIte, Nat.reduceEqDiff, Nat.reduceAdd, Nat.reduceMul, Nat.reduceLeDiff, Int.reduceLE, Int.reduceLT, Int.reduceEq, Int.reduceToNat, Int.reduceAdd, Int.reduceSub, Int.reduceMul, Int.reduceNeg, reduceCtorEq, Option.bind_some, Option.map_some, List.length_cons, List.length_nil, vcM, List.getElem?_toArray, List.getElem?_cons_zero, List.getElem?_cons_succ])
  refine callV_ret (hash_ok w3 p3 wv bs true hS3 hb (by omega)) ?_
  rintro _ w4 ⟨rfl, hE4⟩
  have s32 : (bv (shaF bs)).toArray.size = 32 := by rw [bva_size, shaF_len]
  have hp24 := hE4.at hp23 (fun h => h)
  have hok : okO (some (.cells (bv (List.replicate 32 0)).toArray 39 (0, 0))) 0 32 = True := by simp only [okO, bva_size, List.length_replicate]; simp
  simp (disch := first | omega | assumption | rfl | (simp only [vcS] <;> omega) | fail) only [↓ptV_l, ↓vcA, vcB, ↓vcD, vcE, ↓reduceIte, Nat.reduceEqDiff, Nat.reduceAdd, Nat.reduceMul, Nat.reduceLeDiff, Int.reduceLE, Int.reduceLT, Int.reduceEq, Int.reduceToNat, Int.reduceAdd, Int.reduceSub, Int.reduceMul, Int.reduceNeg, reduceCtorEq, Option.bind_some, Option.map_some, List.length_cons, List.length_nil, vcM, List.getElem?_toArray, List.getElem?_cons_zero, List.getElem?_cons_succ, s32, hp24, hok]
  have k5 : Keep (fun y => y = p2) w4 (w4.putN p2 0 (bv (shaF bs)).toArray) := (Keep.refl _ w4).putN _ fun _ => rfl
  have hp25 : (w4.putN p2 0 (bv (shaF bs)).toArray).heap[p2]? = some (.cells (bv (shaF bs)).toArray 39 (0, 0)) := by
    rw [heap_putN_eq hp24, splice_all (by rw [bva_size, bva_size, shaF_len]; rfl)]
  refine ⟨bv_flat _, ?_⟩
  generalize World.putN _ _ _ _ = w5 at k5 hp25 ⊢
  have hr32 : rdO (some (.cells (bv (shaF bs)).toArray 39 (0, 0))) 0 32 = some (bv (shaF bs)).toArray := rdO_all _ _ _ _ s32
  (refine W_at c9_ok ?_; refine ⟨_, rfl, ?_⟩; simp (disch := first | omega | assumption | rfl | (simp only [vcS] <;> omega) | fail) only [↓ptV_l, ↓vcA, vcB, ↓vcD, vcE, ↓reduceIte, Nat.reduceEqDiff, Nat.reduceAdd, Nat.reduceMul, Nat.reduceLeDiff, Int.reduceLE, Int.reduceLT, Int.reduceEq, Int.reduceToNat, Int.reduceAdd, Int.reduceSub, Int.reduceMul, Int.reduceNeg, reduceCtorEq, Option.bind_some, Option.map_some, List.length_cons, List.length_nil, vcM, List.getElem?_toArray, List.getElem?_cons_zero, List.getElem?_cons_succ, Ret_returned, hp25, hr32])
  exact (hE3.ext hE4).trans k5 fun i hi e => by omega
set_option maxHeartbeats 800000 in
theorem twice_ok (w : World) (g : Nat) (wv : Value) (m : List Int) (b : Bool) (h : SumAt w g wv m b) (hm : byt m) (hl : m.length ≤ 400000000) :
    Calls Try.prog 13 #[.pointer (some ⟨g, 0, none⟩)] w (Ret fun u w' => u = .agg (bv (dblF m)).toArray ∧ Ext w w') := by
  refine calls_of_cfg c13_ok (Nat.le_of_ble_eq_true rfl) ?_
  simp only [argE_nil, argE_cons, Nat.reduceAdd, Nat.zero_add]
  (refine W_at c13_ok ?_; refine ⟨_, rfl, ?_⟩; simp (disch := first | omega | assumption | rfl | (simp only [vcS] <;> omega) | fail) only [↓ptV_l, ↓vcA, vcB, ↓vcD, vcE, ↓reduceIte, Nat.reduceEqDiff, Nat.reduceAdd, Nat.reduceMul, Nat.reduceLeDiff, Int.reduceLE, Int.reduceLT, Int.reduceEq, Int.reduceToNat, Int.reduceAdd, Int.reduceSub, Int.reduceMul, Int.reduceNeg, reduceCtorEq, Option.bind_some, Option.map_some, List.length_cons, List.length_nil, vcM, List.getElem?_toArray, List.getElem?_cons_zero, List.getElem?_cons_succ])
  have hE0 : Ext w (w.alloc (.cells (zc [(32, .int .u8 0)]) 39)) := (Keep.refl _ w).alloc _
  have hp2 : (w.alloc (.cells (zc [(32, .int .u8 0)]) 39)).heap[w.heap.size]? = some (.cells (bv (List.replicate 32 0)).toArray 39 (0, 0)) := heap_new _ _ _ rfl
  generalize World.alloc _ _ = w1 at hE0 hp2 ⊢
  generalize hp2e : w.heap.size = p2 at hp2 ⊢
  (refine W_at c13_ok ?_; refine ⟨_, rfl, ?_⟩; simp (disch := first | omega | assumption | rfl | (simp only [vcS] <;> omega) | fail) only [↓ptV_l, ↓vcA, vcB, ↓vcD, vcE, ↓reduceIte, Nat.reduceEqDiff, Nat.reduceAdd, Nat.reduceMul, Nat.reduceLeDiff, Int.reduceLE, Int.reduceLT, Int.reduceEq, Int.reduceToNat, Int.reduceAdd, Int.reduceSub, Int.reduceMul, Int.reduceNeg, reduceCtorEq, Option.bind_some, Option.map_some, List.length_cons, List.length_nil, vcM, List.getElem?_toArray, List.getElem?_cons_zero, List.getElem?_cons_succ])
  refine callV_ret (hash_ok w1 g wv m b (h.ext hE0) hm hl) ?_
  rintro _ w2 ⟨rfl, hE2⟩
  have s32 : (bv (shaF m)).toArray.size = 32 := by rw [bva_size, shaF_len]
  have hp22 := hE2.at hp2 (fun h => h)
  simp (disch := first | omega | assumption | rfl | (simp only [vcS] <;> omega) | fail) only [↓ptV_l, ↓vcA, vcB, ↓vcD, vcE, ↓reduceIte, Nat.reduceEqDiff, Nat.reduceAdd, Nat.reduceMul, Nat.reduceLeDiff, Int.reduceLE, Int.reduceLT, Int.reduceEq, Int.reduceToNat, Int.reduceAdd, Int.reduceSub, Int.reduceMul, Int.reduceNeg, reduceCtorEq, Option.bind_some, Option.map_some, List.length_cons, List.length_nil, vcM, List.getElem?_toArray, List.getElem?_cons_zero, List.getElem?_cons_succ, s32]
  have hE3 : Ext w2 ((w2.alloc (.cells (zc [(32, .int .u8 0)]) 39)).putN w2.heap.size 0 (bv (shaF m)).toArray) := ((Keep.refl _ w2).alloc _).putN _ (by intro hh; exfalso; omega)
  have hp3 : ((w2.alloc (.cells (zc [(32, .int .u8 0)]) 39)).putN w2.heap.size 0 (bv (shaF m)).toArray).heap[w2.heap.size]? = some (.cells (bv (shaF m)).toArray 39 (0, 0)) := by
    rw [heap_putN_eq (heap_new _ _ _ rfl), z32, splice_all (by rw [bva_size, bva_size, shaF_len]; rfl)]
  refine ⟨bv_flat _, ?_⟩
  have hp2l := lt_of_heap hp22
  generalize World.putN _ _ _ _ = w3 at hE3 hp3 ⊢
  generalize w2.heap.size = p3 at hp3 hp2l ⊢
  have hrd := arr_rd hp3 (by rw [shaF_len]; decide)
  rw [shaF_len] at hrd
  have hp23 := hE3.at hp22 (fun h => h)
  (refine W_at c13_ok ?_; refine ⟨_, rfl, ?_⟩; simp (disch := first | omega | assumption | rfl | (simp only [vcS] <;> omega) | fail) only [↓ptV_l, ↓vcA, vcB, ↓vcD, vcE, ↓reduceIte, Nat.reduceEqDiff, Nat.reduceAdd, Nat.reduceMul, Nat.reduceLeDiff, Int.reduceLE, Int.reduceLT, Int.reduceEq, Int.reduceToNat, Int.reduceAdd, Int.reduceSub, Int.reduceMul, Int.reduceNeg, reduceCtorEq, Option.bind_some, Option.map_some, List.length_cons, List.length_nil, vcM, List.getElem?_toArray, List.getElem?_cons_zero, List.getElem?_cons_succ, advA_0, Nat.sub_zero])
  refine callV_ret (sum256_ok w3 _ (shaF m) hrd (shaF_byt m) (by rw [shaF_len]; omega)) ?_
  rintro _ w4 ⟨rfl, hE4⟩
  have s322 : (bv (shaF (shaF m))).toArray.size = 32 := by rw [bva_size, shaF_len]
  have hp24 := hE4.at hp23 (fun h => h)
  have hok : okO (some (.cells (bv (List.replicate 32 0)).toArray 39 (0, 0))) 0 32 = True := by simp only [okO, bva_size, List.length_replicate]; simp
  simp (disch := first | omega | assumption | rfl | (simp only [vcS] <;> omega) | fail) only [↓ptV_l, ↓vcA, vcB, ↓vcD, vcE, ↓reduceIte, Nat.reduceEqDiff, Nat.reduceAdd, Nat.reduceMul, Nat.reduceLeDiff, Int.reduceLE, Int.reduceLT, Int.reduceEq, Int.reduceToNat, Int.reduceAdd, Int.reduceSub, Int.reduceMul, Int.reduceNeg, reduceCtorEq, Option.bind_some, Option.map_some, List.length_cons, List.length_nil, vcM, List.getElem?_toArray, List.getElem?_cons_zero, List.getElem?_cons_succ, s322, hp24, hok]
  have k5 : Keep (fun y => y = p2) w4 (w4.putN p2 0 (bv (shaF (shaF m))).toArray) := (Keep.refl _ w4).putN _ fun _ => rfl
  have hp25 : (w4.putN p2 0 (bv (shaF (shaF m))).toArray).heap[p2]? = some (.cells (bv (shaF (shaF m))).toArray 39 (0, 0)) := by
    rw [heap_putN_eq hp24, splice_all (by rw [bva_size, bva_size, shaF_len]; rfl)]
  refine ⟨bv_flat _, ?_⟩
  generalize World.putN _ _ _ _ = w5 at k5 hp25 ⊢
  have hr32 : rdO (some (.cells (bv (shaF (shaF m))).toArray 39 (0, 0))) 0 32 = some (bv (shaF (shaF m))).toArray := rdO_all _ _ _ _ s322
  (refine W_at c13_ok ?_; refine ⟨_, rfl, ?_⟩; simp (disch := first | omega | assumption | rfl | (simp only [vcS] <;> omega) | fail) only [↓ptV_l, ↓vcA, vcB, ↓vcD, vcE, ↓reduceIte, Nat.reduceEqDiff, Nat.reduceAdd, Nat.reduceMul, Nat.reduceLeDiff, Int.reduceLE, Int.reduceLT, Int.reduceEq, Int.reduceToNat, Int.reduceAdd, Int.reduceSub, Int.reduceMul, Int.reduceNeg, reduceCtorEq, Option.bind_some, Option.map_some, List.length_cons, List.length_nil, vcM, List.getElem?_toArray, List.getElem?_cons_zero, List.getElem?_cons_succ, Ret_returned, hp25, hr32])
  exact ⟨rfl, (((hE0.ext hE2).ext hE3).ext hE4).trans k5 fun i hi e => by omega⟩
set_option maxHeartbeats 800000 in
theorem double_ok (w : World) (x : Value) (bs : List Int) (hx : Rd w x bs) (hb : byt bs) (hl : bs.length ≤ 100000000) :
    Calls Try.prog 14 #[x] w (Ret fun u w' => u = .agg (bv (dblF bs)).toArray ∧ Ext w w') := by
  refine calls_of_cfg c14_ok (Nat.le_of_ble_eq_true rfl) ?_
  simp only [argE_nil, argE_cons, Nat.reduceAdd, Nat.zero_add]
  (refine W_at c14_ok ?_; refine ⟨_, rfl, ?_⟩; simp (disch := first | omega | assumption | rfl | (simp only [vcS] <;> omega) | fail) only [↓ptV_l, ↓vcA, vcB, ↓vcD, vcE, ↓reduceIte, Nat.reduceEqDiff, Nat.reduceAdd, Nat.reduceMul, Nat.reduceLeDiff, Int.reduceLE, Int.reduceLT, Int.reduceEq, Int.reduceToNat, Int.reduceAdd, Int.reduceSub, Int.reduceMul, Int.reduceNeg, reduceCtorEq, Option.bind_some, Option.map_some, List.length_cons, List.length_nil, vcM, List.getElem?_toArray, List.getElem?_cons_zero, List.getElem?_cons_succ])
  have hE0 : Ext w (w.alloc (.cells (zc [(32, .int .u8 0)]) 39)) := (Keep.refl _ w).alloc _
  have hp2 : (w.alloc (.cells (zc [(32, .int .u8 0)]) 39)).heap[w.heap.size]? = some (.cells (bv (List.replicate 32 0)).toArray 39 (0, 0)) := heap_new _ _ _ rfl
  generalize World.alloc _ _ = w1 at hE0 hp2 ⊢
  generalize hp2e : w.heap.size = p2 at hp2 ⊢
  (refine W_at c14_ok ?_; refine ⟨_, rfl, ?_⟩; simp (disch := first | omega | assumption | rfl | (simp only [vcS] <;> omega) | fail) only [↓ptV_l, ↓vcA, vcB, ↓vcD, vcE, ↓reduceIte, Nat.reduceEqDiff, Nat.reduceAdd, Nat.reduceMul, Nat.reduceLeDiff, Int.reduceLE, Int.reduceLT, Int.reduceEq, Int.reduceToNat, Int.reduceAdd, Int.reduceSub, Int.reduceMul, Int.reduceNeg, reduceCtorEq, Option.bind_some, Option.map_some, List.length_cons, List.length_nil, vcM, List.getElem?_toArray, List.getElem?_cons_zero, List.getElem?_cons_succ])
  have hE1 : Ext w1 (w1.alloc (.cells (zc [(8, .int .u32 0), (1, .slice none 0 0), (1, .int .u64 0), (1, .bool false)]) 32)) := (Keep.refl _ w1).alloc _
  have hS1 := new_sum w1
  have hp2l := lt_of_heap hp2
  generalize World.alloc _ _ = w2 at hE1 hS1 ⊢
  have hw1l := hE0.size
  generalize w1.heap.size = p3 at hS1 hp2l hw1l ⊢
  have hxlt : bs ≠ [] → ∀ q n c, x = .slice (some q) n c → q.block ≠ p3 := fun h0 q n c e hq => by have := hx.lt h0 q n c e; omega
  (refine W_at c14_ok ?_; refine ⟨_, rfl, ?_⟩; simp (disch := first | omega | assumption | rfl | (simp only [vcS] <;> omega) | fail) only [↓ptV_l, ↓vcA, vcB, ↓vcD, vcE, ↓reduceIte, Nat.reduceEqDiff, Nat.reduceAdd, Nat.reduceMul, Nat.reduceLeDiff, Int.reduceLE, Int.reduceLT, Int.reduceEq, Int.reduceToNat, Int.reduceAdd, Int.reduceSub, Int.reduceMul, Int.reduceNeg, reduceCtorEq, Option.bind_some, Option.map_some, List.length_cons, List.length_nil, vcM, List.getElem?_toArray, List.getElem?_cons_zero, List.getElem?_cons_succ])
  refine callV_ret (add_ok w2 p3 _ x [] bs false hS1 ((hx.ext hE0).ext hE1) hxlt hb byt_nil (by simp; omega)) ?_
  rintro _ w3 ⟨wv, hS3, hK3, hB3⟩
  rw [List.nil_append] at hS3
  have hE3 : Ext w w3 := (hE0.ext hE1).trans hK3 fun i hi hy => by
    rcases hy with e | hy
    · omega
    · cases hy
  have hp23 := hK3.at (hE1.at hp2 fun h => h) (fun hy => by rcases hy with e | hy; omega; cases hy)
  first | (simp (disch := first | omega | assumption | rfl | (simp only [vcS] <;> omega) | fail) only [↓ptV_l, ↓vcA, vcB, ↓vcD, vcE, ↓reduceIte, Nat.reduceEqDiff, Nat.reduceAdd, Nat.reduceMul, Nat.reduceLeDiff, Int.reduceLE, Int.reduceLT, Int.reduceEq, Int.reduceToNat, Int.reduceAdd, Int.reduceSub, Int.reduceMul, Int.reduceNeg, reduceCtorEq, Option.bind_some, Option.map_some, List.length_cons, List.length_nil, vcM, List.getElem?_toArray, List.getElem?_cons_zero, List.getElem?_cons_succ]) | skip
  (refine W_at c14_ok ?_; refine ⟨_, rfl, ?_⟩; simp (disch := first | omega | assumption | rfl | (simp only [vcS] <;> omega) | fail) only [↓ptV_l, ↓vcA, vcB, ↓vcD, vcE, ↓reduceIte, Nat.reduceEqDiff, Nat.reduceAdd, Nat.reduceMul, Nat.reduceLeDiff, Int.reduceLE, Int.reduceLT, Int.reduceEq, Int.reduceToNat, Int.reduceAdd, Int.reduceSub, Int.reduceMul, Int.reduceNeg, reduceCtorEq, Option.bind_some, Option.map_some, List.length_cons, List.length_nil, vcM, List.getElem?_toArray, List.getElem?_cons_zero, List.getElem?_cons_succ])
  refine callV_ret (twice_ok w3 p3 wv bs true hS3 hb (by omega)) ?_
  rintro _ w4 ⟨rfl, hE4⟩
  have s32 : (bv (dblF bs)).toArray.size = 32 := by rw [bva_size, dblF_len]
  have hp24 := hE4.at hp23 (fun h => h)
  have hok : okO (some (.cells (bv (List.replicate 32 0)).toArray 39 (0, 0))) 0 32 = True := by simp only [okO, bva_size, List.length_replicate]; simp
  simp (disch := first | omega | assumption | rfl | (simp only [vcS] <;> omega) | fail) only [↓ptV_l, ↓vcA, vcB, ↓vcD, vcE, ↓reduceIte, Nat.reduceEqDiff, Nat.reduceAdd, Nat.reduceMul, Nat.reduceLeDiff, Int.reduceLE, Int.reduceLT, Int.reduceEq, Int.reduceToNat, Int.reduceAdd, Int.reduceSub, Int.reduceMul, Int.reduceNeg, reduceCtorEq, Option.bind_some, Option.map_some, List.length_cons, List.length_nil, vcM, List.getElem?_toArray, List.getElem?_cons_zero, List.getElem?_cons_succ, s32, hp24, hok]
  have k5 : Keep (fun y => y = p2) w4 (w4.putN p2 0 (bv (dblF bs)).toArray) := (Keep.refl _ w4).putN _ fun _ => rfl
  have hp25 : (w4.putN p2 0 (bv (dblF bs)).toArray).heap[p2]? = some (.cells (bv (dblF bs)).toArray 39 (0, 0)) := by
    rw [heap_putN_eq hp24, splice_all (by rw [bva_size, bva_size, dblF_len]; rfl)]
  refine ⟨bv_flat _, ?_⟩
  generalize World.putN _ _ _ _ = w5 at k5 hp25 ⊢
  have hr32 : rdO (some (.cells (bv (dblF bs)).toArray 39 (0, 0))) 0 32 = some (bv (dblF bs)).toArray := rdO_all _ _ _ _ s32
  (refine W_at c14_ok ?_; refine ⟨_, rfl, ?_⟩; simp (disch := first | omega | assumption | rfl | (simp only [vcS] <;> omega) | fail) only [↓ptV_l, ↓vcA, vcB, ↓vcD, vcE, ↓reduceIte, Nat.reduceEqDiff, Nat.reduceAdd, Nat.reduceMul, Nat.reduceLeDiff, Int.reduceLE, Int.reduceLT, Int.reduceEq, Int.reduceToNat, Int.reduceAdd, Int.reduceSub, Int.reduceMul, Int.reduceNeg, reduceCtorEq, Option.bind_some, Option.map_some, List.length_cons, List.length_nil, vcM, List.getElem?_toArray, List.getElem?_cons_zero, List.getElem?_cons_succ, Ret_returned, hp25, hr32])
  exact (hE3.ext hE4).trans k5 fun i hi e => by omega
end Go.Proofs
