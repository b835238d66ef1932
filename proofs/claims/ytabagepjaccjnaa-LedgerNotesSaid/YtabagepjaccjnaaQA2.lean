/- Laws that the last text of this claim uses, part 2: written for it, merged by program. -/
import Derived.Test.YtabagepjaccjnaaQA1
set_option linter.unusedSimpArgs false
set_option linter.unusedVariables false
set_option linter.constructorNameAsVariable false
namespace Go.Proofs
open Go.Vc
set_option maxRecDepth 10000

theorem b32_of {v : Int} (h : 0 ≤ v ∧ v ≤ 255) : Value.int .u32 (IntKind.u32.wrap v) = U32 (b32 v) := by
  unfold U32 b32
  rw [BitVec.toNat_ofNat, wrap_u32, Nat.mod_eq_of_lt (by omega)]
  congr 1
  omega
theorem U32_shl24 (x : BitVec 32) : binR .shl (U32 x) (.int .u64 24) = some (U32 (x <<< 24)) := U32_shl x .u64 24 (by decide)
theorem U32_shl16 (x : BitVec 32) : binR .shl (U32 x) (.int .u64 16) = some (U32 (x <<< 16)) := U32_shl x .u64 16 (by decide)
theorem U32_shl8 (x : BitVec 32) : binR .shl (U32 x) (.int .u64 8) = some (U32 (x <<< 8)) := U32_shl x .u64 8 (by decide)
theorem U32_shr3 (x : BitVec 32) : binR .shr (U32 x) (.int .u64 3) = some (U32 (x >>> 3)) := U32_shr x .u64 3 (by decide)
theorem U32_shr10 (x : BitVec 32) : binR .shr (U32 x) (.int .u64 10) = some (U32 (x >>> 10)) := U32_shr x .u64 10 (by decide)
theorem rd_byte {w : World} {x : Value} {bs : List Int} (h : Rd w x bs) (hb : byt bs) {i : Nat} (hi : i < bs.length) : ∃ b o c, x = .slice (some ⟨b, o, none⟩) bs.length c ∧ cellO w.heap[b]? (o + i) = some (.int .u8 (bs.getD i 0)) ∧ 0 ≤ bs.getD i 0 ∧ bs.getD i 0 ≤ 255 := by
  obtain ⟨b, o, c, e, hc⟩ := h.at hi
  have e2 : bs.getD i 0 = bs[i] := by simp [List.getD, List.getElem?_eq_getElem hi]
  have := hb _ (List.getElem_mem hi)
  exact ⟨b, o, c, e, by rw [e2]; exact hc, by rw [e2]; omega, by rw [e2]; omega⟩
set_option maxHeartbeats 3200000 in
theorem step_ok (w : World) (g pk : Nat) (x : Value) (blk : List Int) (s : S8) (rest : List Value) (T T2 : TypeId) (hg : w.heap[g]? = some (.cells ((s.list.map U32 ++ rest).toArray) T (0, 0))) (hk : w.heap[pk]? = some (.cells (wcs kL) T2 (0, 0))) (hne : pk ≠ g)
    (hx : Rd w x blk) (hl : blk.length = 64) (hb : byt blk) :
    Calls Try.prog 43 #[.pointer (some ⟨g, 0, none⟩), .pointer (some ⟨pk, 0, none⟩), x] w (Ret fun _ w' => w'.heap[g]? = some (.cells (((compF s blk).list.map U32 ++ rest).toArray) T (0, 0)) ∧ Keep (fun y => y = g) w w') := by
  refine calls_of_cfg c43_ok (Nat.le_of_ble_eq_true rfl) ?_
  simp only [argE_nil, argE_cons, Nat.reduceAdd, Nat.zero_add]
  have hws := wsF_len blk
  generalize hwsd : wsF blk = ws at hws
  (refine W_at c43_ok ?_; refine ⟨_, rfl, ?_⟩; simp (disch := first | omega | assumption | rfl | (simp only [vcS] <;> omega) | fail) only [↓ptV_l, ↓vcA, vcB, ↓vcD, vcE, ↓reduceIte, Nat.reduceEqDiff, Nat.reduceAdd, Nat.reduceMul, Nat.reduceLeDiff, Int.reduceLE, Int.reduceLT, Int.reduceEq, Int.reduceToNat, Int.reduceAdd, Int.reduceSub, Int.reduceMul, Int.reduceNeg, reduceCtorEq, Option.bind_some, Option.map_some, List.length_cons, List.length_nil, vcM, List.getElem?_toArray, List.getElem?_cons_zero, List.getElem?_cons_succ])
  have hE0 : Ext w (w.alloc (.cells (zc [(64, .int .u32 0)]) 98)) := (Keep.refl _ w).alloc _
  have hp6 : (w.alloc (.cells (zc [(64, .int .u32 0)]) 98)).heap[w.heap.size]? = some (.cells (arrW ws 0) 98 (0, 0)) := by rw [arrW_0]; exact heap_new _ _ _ rfl
  have hgl := lt_of_heap hg
  have hkl := lt_of_heap hk
  have hp6g : w.heap.size ≤ w.heap.size := Nat.le_refl _
  generalize World.alloc _ _ = w1 at hE0 hp6 ⊢
  generalize hp6e : w.heap.size = p6 at hp6 hgl hkl hp6g ⊢
  (refine W_at c43_ok ?_; refine ⟨_, rfl, ?_⟩; simp (disch := first | omega | assumption | rfl | (simp only [vcS] <;> omega) | fail) only [↓ptV_l, ↓vcA, vcB, ↓vcD, vcE, ↓reduceIte, Nat.reduceEqDiff, Nat.reduceAdd, Nat.reduceMul, Nat.reduceLeDiff, Int.reduceLE, Int.reduceLT, Int.reduceEq, Int.reduceToNat, Int.reduceAdd, Int.reduceSub, Int.reduceMul, Int.reduceNeg, reduceCtorEq, Option.bind_some, Option.map_some, List.length_cons, List.length_nil, vcM, List.getElem?_toArray, List.getElem?_cons_zero, List.getElem?_cons_succ])
  have L1 : ∀ (k i : Nat) (wj : World), i + k = 64 → wj.heap[p6]? = some (.cells (arrW ws i) 98 (0, 0)) → Ext w wj →
      W Try.prog (Ret fun _ w' => w'.heap[g]? = some (.cells (((compF s blk).list.map U32 ++ rest).toArray) T (0, 0)) ∧ Keep (fun y => y = g) w w') 43 30 [(0, .pointer (some ⟨g, 0, none⟩)), (1, .pointer (some ⟨pk, 0, none⟩)), (2, x), (6, .pointer (some ⟨p6, 0, none⟩)), (18, .int .i64 (i : Nat))] wj := by
    intro k
    induction k with
    | zero =>
      intro i wj hi h6 hE
      obtain rfl : i = 64 := by omega
      have hno : ¬ (((64 : Nat) : Int)) < 64 := by omega
      rw [arrW_all ws hws] at h6
      have hgj := hE.at hg (fun h => h)
      have hkj := hE.at hk (fun h => h)
      have hr8 : rdO (some (.cells ((s.list.map U32 ++ rest).toArray) T (0, 0))) 0 8 = some (wcs s.list) := rd8 s rest T
      have s8 : (wcs s.list).size = 8 := wcs_size _
      have hs64 : (wcs ws).size = 64 := by rw [wcs_size]; exact hws
      have hr64 : rdO (some (.cells (wcs ws) 98 (0, 0))) 0 64 = some (wcs ws) := rdO_all _ _ _ _ hs64
      (refine W_at c43_ok ?_; refine ⟨_, rfl, ?_⟩; simp (disch := first | omega | assumption | rfl | (simp only [vcS] <;> omega) | fail) only [↓ptV_l, ↓vcA, vcB, ↓vcD, vcE, ↓reduceIte, Nat.reduceEqDiff, Nat.reduceAdd, Nat.reduceMul, Nat.reduceLeDiff, Int.reduceLE, Int.reduceLT, Int.reduceEq, Int.reduceToNat, Int.reduceAdd, Int.reduceSub, Int.reduceMul, Int.reduceNeg, reduceCtorEq, Option.bind_some, Option.map_some, List.length_cons, List.length_nil, vcM, List.getElem?_toArray, List.getElem?_cons_zero, List.getElem?_cons_succ])
      (refine W_at c43_ok ?_; refine ⟨_, rfl, ?_⟩; simp (disch := first | omega | assumption | rfl | (simp only [vcS] <;> omega) | fail) only [↓ptV_l, ↓vcA, vcB, ↓vcD, vcE, ↓reduceIte, Nat.reduceEqDiff, Nat.reduceAdd, Nat.reduceMul, Nat.reduceLeDiff, Int.reduceLE, Int.reduceLT, Int.reduceEq, Int.reduceToNat, Int.reduceAdd, Int.reduceSub, Int.reduceMul, Int.reduceNeg, reduceCtorEq, Option.bind_some, Option.map_some, List.length_cons, List.length_nil, vcM, List.getElem?_toArray, List.getElem?_cons_zero, List.getElem?_cons_succ])
      (refine W_at c43_ok ?_; refine ⟨_, rfl, ?_⟩; simp (disch := first | omega | assumption | rfl | (simp only [vcS] <;> omega) | fail) only [↓ptV_l, ↓vcA, vcB, ↓vcD, vcE, ↓reduceIte, Nat.reduceEqDiff, Nat.reduceAdd, Nat.reduceMul, Nat.reduceLeDiff, Int.reduceLE, Int.reduceLT, Int.reduceEq, Int.reduceToNat, Int.reduceAdd, Int.reduceSub, Int.reduceMul, Int.reduceNeg, reduceCtorEq, Option.bind_some, Option.map_some, List.length_cons, List.length_nil, vcM, List.getElem?_toArray, List.getElem?_cons_zero, List.getElem?_cons_succ, hgj, hr8, s8])
      try refine ⟨wcs_flat _, ?_⟩
      have hp10 : ((wj.alloc (.cells (zc [(8, .int .u32 0)]) 84)).putN wj.heap.size 0 (wcs s.list)).heap[wj.heap.size]? = some (.cells (wcs s.list) 84 (0, 0)) := by
        rw [heap_putN_eq (heap_new _ _ _ rfl), splice_all (by rfl)]
      have hE10 : Ext wj ((wj.alloc (.cells (zc [(8, .int .u32 0)]) 84)).putN wj.heap.size 0 (wcs s.list)) := ((Keep.refl _ wj).alloc _).putN _ (by intro hh; exfalso; omega)
      have h6lt := lt_of_heap h6
      generalize World.putN _ _ _ _ = wa at hp10 hE10 ⊢
      generalize wj.heap.size = p10 at hp10 h6lt ⊢
      have h6a := hE10.at h6 (fun h => h)
      have hka := hE10.at hkj (fun h => h)
      have hga := hE10.at hgj (fun h => h)
      have hEa := hE.ext hE10
      (refine W_at c43_ok ?_; refine ⟨_, rfl, ?_⟩; simp (disch := first | omega | assumption | rfl | (simp only [vcS] <;> omega) | fail) only [↓ptV_l, ↓vcA, vcB, ↓vcD, vcE, ↓reduceIte, Nat.reduceEqDiff, Nat.reduceAdd, Nat.reduceMul, Nat.reduceLeDiff, Int.reduceLE, Int.reduceLT, Int.reduceEq, Int.reduceToNat, Int.reduceAdd, Int.reduceSub, Int.reduceMul, Int.reduceNeg, reduceCtorEq, Option.bind_some, Option.map_some, List.length_cons, List.length_nil, vcM, List.getElem?_toArray, List.getElem?_cons_zero, List.getElem?_cons_succ, h6a, hr64])
      have L2 : ∀ (k i : Nat) (wj : World), i + k = 64 → wj.heap[p10]? = some (.cells (wcs (rndN i s kL ws).list) 84 (0, 0)) → Ext w wj →
          W Try.prog (Ret fun _ w' => w'.heap[g]? = some (.cells (((compF s blk).list.map U32 ++ rest).toArray) T (0, 0)) ∧ Keep (fun y => y = g) w w') 43 18 [(0, .pointer (some ⟨g, 0, none⟩)), (1, .pointer (some ⟨pk, 0, none⟩)), (10, .pointer (some ⟨p10, 0, none⟩)), (99, .agg (wcs ws)), (100, .int .i64 (i : Nat))] wj := by
        intro k
        induction k with
        | zero =>
          intro i wj hi h10 hE
          obtain rfl : i = 64 := by omega
          have hgk := hE.at hg (fun h => h)
          have hcF : compF s blk = s.add (rndN 64 s kL ws) := by unfold compF; rw [hwsd]
          rw [hcF]
          generalize rndN 64 s kL ws = v at h10 ⊢
          (refine W_at c43_ok ?_; refine ⟨_, rfl, ?_⟩; simp (disch := first | omega | assumption | rfl | (simp only [vcS] <;> omega) | fail) only [↓ptV_l, ↓vcA, vcB, ↓vcD, vcE, ↓reduceIte, Nat.reduceEqDiff, Nat.reduceAdd, Nat.reduceMul, Nat.reduceLeDiff, Int.reduceLE, Int.reduceLT, Int.reduceEq, Int.reduceToNat, Int.reduceAdd, Int.reduceSub, Int.reduceMul, Int.reduceNeg, reduceCtorEq, Option.bind_some, Option.map_some, List.length_cons, List.length_nil, vcM, List.getElem?_toArray, List.getElem?_cons_zero, List.getElem?_cons_succ])
          (refine W_at c43_ok ?_; refine ⟨_, rfl, ?_⟩; simp (disch := first | omega | assumption | rfl | (simp only [vcS] <;> omega) | fail) only [↓ptV_l, ↓vcA, vcB, ↓vcD, vcE, ↓reduceIte, Nat.reduceEqDiff, Nat.reduceAdd, Nat.reduceMul, Nat.reduceLeDiff, Int.reduceLE, Int.reduceLT, Int.reduceEq, Int.reduceToNat, Int.reduceAdd, Int.reduceSub, Int.reduceMul, Int.reduceNeg, reduceCtorEq, Option.bind_some, Option.map_some, List.length_cons, List.length_nil, vcM, List.getElem?_toArray, List.getElem?_cons_zero, List.getElem?_cons_succ])
          (refine W_at c43_ok ?_; refine ⟨_, rfl, ?_⟩; simp (disch := first | omega | assumption | rfl | (simp only [vcS] <;> omega) | fail) only [↓ptV_l, ↓vcA, vcB, ↓vcD, vcE, ↓reduceIte, Nat.reduceEqDiff, Nat.reduceAdd, Nat.reduceMul, Nat.reduceLeDiff, Int.reduceLE, Int.reduceLT, Int.reduceEq, Int.reduceToNat, Int.reduceAdd, Int.reduceSub, Int.reduceMul, Int.reduceNeg, reduceCtorEq, Option.bind_some, Option.map_some, List.length_cons, List.length_nil, vcM, List.getElem?_toArray, List.getElem?_cons_zero, List.getElem?_cons_succ])
          rw [← addA_0 s v rest] at hgk
          have L3 : ∀ (k i : Nat) (wz : World), i + k = 8 → wz.heap[g]? = some (.cells (addA s v rest i) T (0, 0)) → wz.heap[p10]? = some (.cells (wcs v.list) 84 (0, 0)) → Keep (fun y => y = g) w wz →
              W Try.prog (Ret fun _ w' => w'.heap[g]? = some (.cells (((s.add v).list.map U32 ++ rest).toArray) T (0, 0)) ∧ Keep (fun y => y = g) w w') 43 6 [(0, .pointer (some ⟨g, 0, none⟩)), (10, .pointer (some ⟨p10, 0, none⟩)), (175, .int .i64 (i : Nat))] wz := by
            intro k
            induction k with
            | zero =>
              intro i wz hi hgz hpz hKz
              obtain rfl : i = 8 := by omega
              rw [addA_8] at hgz
              (refine W_at c43_ok ?_; refine ⟨_, rfl, ?_⟩; simp (disch := first | omega | assumption | rfl | (simp only [vcS] <;> omega) | fail) only [↓ptV_l, ↓vcA, vcB, ↓vcD, vcE, ↓reduceIte, Nat.reduceEqDiff, Nat.reduceAdd, Nat.reduceMul, Nat.reduceLeDiff, Int.reduceLE, Int.reduceLT, Int.reduceEq, Int.reduceToNat, Int.reduceAdd, Int.reduceSub, Int.reduceMul, Int.reduceNeg, reduceCtorEq, Option.bind_some, Option.map_some, List.length_cons, List.length_nil, vcM, List.getElem?_toArray, List.getElem?_cons_zero, List.getElem?_cons_succ])
              (refine W_at c43_ok ?_; refine ⟨_, rfl, ?_⟩; simp (disch := first | omega | assumption | rfl | (simp only [vcS] <;> omega) | fail) only [↓ptV_l, ↓vcA, vcB, ↓vcD, vcE, ↓reduceIte, Nat.reduceEqDiff, Nat.reduceAdd, Nat.reduceMul, Nat.reduceLeDiff, Int.reduceLE, Int.reduceLT, Int.reduceEq, Int.reduceToNat, Int.reduceAdd, Int.reduceSub, Int.reduceMul, Int.reduceNeg, reduceCtorEq, Option.bind_some, Option.map_some, List.length_cons, List.length_nil, vcM, List.getElem?_toArray, List.getElem?_cons_zero, List.getElem?_cons_succ])
              (refine W_at c43_ok ?_; refine ⟨_, rfl, ?_⟩; simp (disch := first | omega | assumption | rfl | (simp only [vcS] <;> omega) | fail) only [↓ptV_l, ↓vcA, vcB, ↓vcD, vcE, ↓reduceIte, Nat.reduceEqDiff, Nat.reduceAdd, Nat.reduceMul, Nat.reduceLeDiff, Int.reduceLE, Int.reduceLT, Int.reduceEq, Int.reduceToNat, Int.reduceAdd, Int.reduceSub, Int.reduceMul, Int.reduceNeg, reduceCtorEq, Option.bind_some, Option.map_some, List.length_cons, List.length_nil, vcM, List.getElem?_toArray, List.getElem?_cons_zero, List.getElem?_cons_succ, Ret_returned])
              exact ⟨hgz, hKz⟩
            | succ k ih =>
              intro i wz hi hgz hpz hKz
              have hlt : ((i : Nat) : Int) < 8 := by omega
              have b1 : 0 ≤ ((i : Nat) : Int) ∧ ((i : Nat) : Int) < 8 := by omega
              have hwi : IntKind.i64.wrap (((i : Nat) : Int) + 1) = ((i + 1 : Nat) : Int) := wrap_i64 (by omega) (by omega)
              have e1 := addA_at s v rest i (by omega)
              have e2 := wcs8_at v i (by omega)
              have e3 := addA_set s v rest i (by omega)
              have hsz := addA_size s v rest i (by omega)
              (refine W_at c43_ok ?_; refine ⟨_, rfl, ?_⟩; simp (disch := first | omega | assumption | rfl | (simp only [vcS] <;> omega) | fail) only [↓ptV_l, ↓vcA, vcB, ↓vcD, vcE, ↓reduceIte, Nat.reduceEqDiff, Nat.reduceAdd, Nat.reduceMul, Nat.reduceLeDiff, Int.reduceLE, Int.reduceLT, Int.reduceEq, Int.reduceToNat, Int.reduceAdd, Int.reduceSub, Int.reduceMul, Int.reduceNeg, reduceCtorEq, Option.bind_some, Option.map_some, List.length_cons, List.length_nil, vcM, List.getElem?_toArray, List.getElem?_cons_zero, List.getElem?_cons_succ, hlt])
              (refine W_at c43_ok ?_; refine ⟨_, rfl, ?_⟩; simp (disch := first | omega | assumption | rfl | (simp only [vcS] <;> omega) | fail) only [↓ptV_l, ↓vcA, vcB, ↓vcD, vcE, ↓reduceIte, Nat.reduceEqDiff, Nat.reduceAdd, Nat.reduceMul, Nat.reduceLeDiff, Int.reduceLE, Int.reduceLT, Int.reduceEq, Int.reduceToNat, Int.reduceAdd, Int.reduceSub, Int.reduceMul, Int.reduceNeg, reduceCtorEq, Option.bind_some, Option.map_some, List.length_cons, List.length_nil, vcM, List.getElem?_toArray, List.getElem?_cons_zero, List.getElem?_cons_succ])
              (refine W_at c43_ok ?_; refine ⟨_, rfl, ?_⟩; simp (disch := first | omega | assumption | rfl | (simp only [vcS] <;> omega) | fail) only [↓ptV_l, ↓vcA, vcB, ↓vcD, vcE, ↓reduceIte, Nat.reduceEqDiff, Nat.reduceAdd, Nat.reduceMul, Nat.reduceLeDiff, Int.reduceLE, Int.reduceLT, Int.reduceEq, Int.reduceToNat, Int.reduceAdd, Int.reduceSub, Int.reduceMul, Int.reduceNeg, reduceCtorEq, Option.bind_some, Option.map_some, List.length_cons, List.length_nil, vcM, List.getElem?_toArray, List.getElem?_cons_zero, List.getElem?_cons_succ])
              (refine W_at c43_ok ?_; refine ⟨_, rfl, ?_⟩; simp (disch := first | omega | assumption | rfl | (simp only [vcS] <;> omega) | fail) only [↓ptV_l, ↓vcA, vcB, ↓vcD, vcE, ↓reduceIte, Nat.reduceEqDiff, Nat.reduceAdd, Nat.reduceMul, Nat.reduceLeDiff, Int.reduceLE, Int.reduceLT, Int.reduceEq, Int.reduceToNat, Int.reduceAdd, Int.reduceSub, Int.reduceMul, Int.reduceNeg, reduceCtorEq, Option.bind_some, Option.map_some, List.length_cons, List.length_nil, vcM, List.getElem?_toArray, List.getElem?_cons_zero, List.getElem?_cons_succ, hgz, hpz, b1, Int.toNat_natCast, Nat.mul_one, Nat.zero_add, e1, e2, U32_add])
              have hgz : wz.drew.heap[g]? = some (.cells (addA s v rest i) T (0, 0)) := hgz
              have hpz : wz.drew.heap[p10]? = some (.cells (wcs v.list) 84 (0, 0)) := hpz
              have hKz := hKz.drew
              generalize wz.drew = wz at hgz hpz hKz ⊢
              refine ⟨rfl, wr1_of hgz (by rw [hsz]; omega), ?_⟩
              have hgy : (wz.setCell ⟨g, i, none⟩ (U32 (s.list.getD i 0 + v.list.getD i 0))).heap[g]? = some (.cells (addA s v rest (i + 1)) T (0, 0)) := by rw [heap_setCell_eq hgz, e3]
              have ky : Keep (fun x => x = g) wz (wz.setCell ⟨g, i, none⟩ (U32 (s.list.getD i 0 + v.list.getD i 0))) := (Keep.refl _ wz).setCell _ fun _ => rfl
              have hpy := ky.at hpz (by omega)
              generalize World.setCell _ _ _ = wy at hgy ky hpy ⊢
              (refine W_at c43_ok ?_; refine ⟨_, rfl, ?_⟩; simp (disch := first | omega | assumption | rfl | (simp only [vcS] <;> omega) | fail) only [↓ptV_l, ↓vcA, vcB, ↓vcD, vcE, ↓reduceIte, Nat.reduceEqDiff, Nat.reduceAdd, Nat.reduceMul, Nat.reduceLeDiff, Int.reduceLE, Int.reduceLT, Int.reduceEq, Int.reduceToNat, Int.reduceAdd, Int.reduceSub, Int.reduceMul, Int.reduceNeg, reduceCtorEq, Option.bind_some, Option.map_some, List.length_cons, List.length_nil, vcM, List.getElem?_toArray, List.getElem?_cons_zero, List.getElem?_cons_succ, hwi])
              (refine W_at c43_ok ?_; refine ⟨_, rfl, ?_⟩; simp (disch := first | omega | assumption | rfl | (simp only [vcS] <;> omega) | fail) only [↓ptV_l, ↓vcA, vcB, ↓vcD, vcE, ↓reduceIte, Nat.reduceEqDiff, Nat.reduceAdd, Nat.reduceMul, Nat.reduceLeDiff, Int.reduceLE, Int.reduceLT, Int.reduceEq, Int.reduceToNat, Int.reduceAdd, Int.reduceSub, Int.reduceMul, Int.reduceNeg, reduceCtorEq, Option.bind_some, Option.map_some, List.length_cons, List.length_nil, vcM, List.getElem?_toArray, List.getElem?_cons_zero, List.getElem?_cons_succ])
              exact ih (i + 1) wy (by omega) hgy hpy (hKz.trans ky fun _ _ h => h)
          exact L3 8 0 wj (by omega) hgk h10 (hE.mono fun _ h => h.elim)
        | succ k ih =>
          intro i wj hi h10 hE
          have hlt : ((i : Nat) : Int) < 64 := by omega
          have b1 : 0 ≤ ((i : Nat) : Int) ∧ ((i : Nat) : Int) < 64 := by omega
          have hwi : IntKind.i64.wrap (((i : Nat) : Int) + 1) = ((i + 1 : Nat) : Int) := wrap_i64 (by omega) (by omega)
          have hkl64 := kL_len
          have hrs := rndN_snoc i s kL ws (by omega) (by omega)
          have hwsi : (wcs ws)[i]? = some (U32 (ws[i]'(by omega))) := by simp [wcs, List.getElem?_eq_getElem (show i < ws.length by omega)]
          have hki : (wcs kL)[i]? = some (U32 (kL[i]'(by omega))) := by simp [wcs, List.getElem?_eq_getElem (show i < kL.length by omega)]
          have hkj := hE.at hk (fun h => h)
          generalize ws[i]'(by omega) = xi at hrs hwsi
          generalize kL[i]'(by omega) = ki at hrs hki
          generalize rndN i s kL ws = st at hrs h10
          have v0 : (wcs st.list)[0]? = some (U32 st.a) := rfl
          have v1 : (wcs st.list)[1]? = some (U32 st.b) := rfl
          have v2 : (wcs st.list)[2]? = some (U32 st.c) := rfl
          have v4 : (wcs st.list)[4]? = some (U32 st.e) := rfl
          have v5 : (wcs st.list)[5]? = some (U32 st.f) := rfl
          have v6 : (wcs st.list)[6]? = some (U32 st.g) := rfl
          have v7 : (wcs st.list)[7]? = some (U32 st.h) := rfl
          (refine W_at c43_ok ?_; refine ⟨_, rfl, ?_⟩; simp (disch := first | omega | assumption | rfl | (simp only [vcS] <;> omega) | fail) only [↓ptV_l, ↓vcA, vcB, ↓vcD, vcE, ↓reduceIte, Nat.reduceEqDiff, Nat.reduceAdd, Nat.reduceMul, Nat.reduceLeDiff, Int.reduceLE, Int.reduceLT, Int.reduceEq, Int.reduceToNat, Int.reduceAdd, Int.reduceSub, Int.reduceMul, Int.reduceNeg, reduceCtorEq, Option.bind_some, Option.map_some, List.length_cons, List.length_nil, vcM, List.getElem?_toArray, List.getElem?_cons_zero, List.getElem?_cons_succ, hlt])
          (refine W_at c43_ok ?_; refine ⟨_, rfl, ?_⟩; simp (disch := first | omega | assumption | rfl | (simp only [vcS] <;> omega) | fail) only [↓ptV_l, ↓vcA, vcB, ↓vcD, vcE, ↓reduceIte, Nat.reduceEqDiff, Nat.reduceAdd, Nat.reduceMul, Nat.reduceLeDiff, Int.reduceLE, Int.reduceLT, Int.reduceEq, Int.reduceToNat, Int.reduceAdd, Int.reduceSub, Int.reduceMul, Int.reduceNeg, reduceCtorEq, Option.bind_some, Option.map_some, List.length_cons, List.length_nil, vcM, List.getElem?_toArray, List.getElem?_cons_zero, List.getElem?_cons_succ])
          (refine W_at c43_ok ?_; refine ⟨_, rfl, ?_⟩; simp (disch := first | omega | assumption | rfl | (simp only [vcS] <;> omega) | fail) only [↓ptV_l, ↓vcA, vcB, ↓vcD, vcE, ↓reduceIte, Nat.reduceEqDiff, Nat.reduceAdd, Nat.reduceMul, Nat.reduceLeDiff, Int.reduceLE, Int.reduceLT, Int.reduceEq, Int.reduceToNat, Int.reduceAdd, Int.reduceSub, Int.reduceMul, Int.reduceNeg, reduceCtorEq, Option.bind_some, Option.map_some, List.length_cons, List.length_nil, vcM, List.getElem?_toArray, List.getElem?_cons_zero, List.getElem?_cons_succ, b1, Int.toNat_natCast, Nat.mul_one, Nat.zero_add, hwsi])
          (refine W_at c43_ok ?_; refine ⟨_, rfl, ?_⟩; simp (disch := first | omega | assumption | rfl | (simp only [vcS] <;> omega) | fail) only [↓ptV_l, ↓vcA, vcB, ↓vcD, vcE, ↓reduceIte, Nat.reduceEqDiff, Nat.reduceAdd, Nat.reduceMul, Nat.reduceLeDiff, Int.reduceLE, Int.reduceLT, Int.reduceEq, Int.reduceToNat, Int.reduceAdd, Int.reduceSub, Int.reduceMul, Int.reduceNeg, reduceCtorEq, Option.bind_some, Option.map_some, List.length_cons, List.length_nil, vcM, List.getElem?_toArray, List.getElem?_cons_zero, List.getElem?_cons_succ, h10, v4, v0])
          (refine W_at c43_ok ?_; refine ⟨_, rfl, ?_⟩; simp (disch := first | omega | assumption | rfl | (simp only [vcS] <;> omega) | fail) only [↓vcL1, ptS2_eq, ↓vcA, vcB, ↓vcD, vcE, ↓reduceIte, Nat.reduceEqDiff, Nat.reduceAdd, Nat.reduceMul, Nat.reduceLeDiff, Int.reduceLE, Int.reduceLT, Int.reduceEq, Int.reduceToNat, Int.reduceAdd, Int.reduceSub, Int.reduceMul, Int.reduceNeg, reduceCtorEq, Option.bind_some, Option.map_some, List.length_cons, List.length_nil, vcM, List.getElem?_toArray, List.getElem?_cons_zero, List.getElem?_cons_succ, h10, hkj, v4, v5, v6, v7, b1, Int.toNat_natCast, Nat.mul_one, Nat.zero_add, hki, U32_and, U32_xor, U32_not])
          have hEd : Ext wj wj.drew.drew := ((Keep.refl _ wj).drew).drew
          have h10d := hEd.at h10 (fun h => h)
          have hkd := hEd.at hkj (fun h => h)
          generalize wj.drew.drew = wd at hEd h10d hkd ⊢
          refine callV_ret (right_ok wd st.e 6 (by decide) (by decide)) ?_
          rintro _ wq ⟨rfl, hw⟩
          obtain rfl : wd = wq := hw.symm
          simp (disch := first | omega | assumption | rfl | (simp only [vcS] <;> omega) | fail) only [↓vcL2, ptS1_eq, ↓vcA, vcB, ↓vcD, vcE, ↓reduceIte, Nat.reduceEqDiff, Nat.reduceAdd, Nat.reduceMul, Nat.reduceLeDiff, Int.reduceLE, Int.reduceLT, Int.reduceEq, Int.reduceToNat, Int.reduceAdd, Int.reduceSub, Int.reduceMul, Int.reduceNeg, reduceCtorEq, Option.bind_some, Option.map_some, List.length_cons, List.length_nil, vcM, List.getElem?_toArray, List.getElem?_cons_zero, List.getElem?_cons_succ, h10d, hkd, v5, v6, v7, hki, U32_xor, U32_add]
          refine callV_ret (right_ok wd st.e 11 (by decide) (by decide)) ?_
          rintro _ wq ⟨rfl, hw⟩
          obtain rfl : wd = wq := hw.symm
          simp (disch := first | omega | assumption | rfl | (simp only [vcS] <;> omega) | fail) only [↓vcL1, ptS2_eq, ↓vcA, vcB, ↓vcD, vcE, ↓reduceIte, Nat.reduceEqDiff, Nat.reduceAdd, Nat.reduceMul, Nat.reduceLeDiff, Int.reduceLE, Int.reduceLT, Int.reduceEq, Int.reduceToNat, Int.reduceAdd, Int.reduceSub, Int.reduceMul, Int.reduceNeg, reduceCtorEq, Option.bind_some, Option.map_some, List.length_cons, List.length_nil, vcM, List.getElem?_toArray, List.getElem?_cons_zero, List.getElem?_cons_succ, h10d, hkd, v5, v6, v7, hki, U32_xor, U32_add]
          refine callV_ret (right_ok wd st.e 25 (by decide) (by decide)) ?_
          rintro _ wq ⟨rfl, hw⟩
          obtain rfl : wd = wq := hw.symm
          simp (disch := first | omega | assumption | rfl | (simp only [vcS] <;> omega) | fail) only [↓vcL2, ptS1_eq, ↓vcA, vcB, ↓vcD, vcE, ↓reduceIte, Nat.reduceEqDiff, Nat.reduceAdd, Nat.reduceMul, Nat.reduceLeDiff, Int.reduceLE, Int.reduceLT, Int.reduceEq, Int.reduceToNat, Int.reduceAdd, Int.reduceSub, Int.reduceMul, Int.reduceNeg, reduceCtorEq, Option.bind_some, Option.map_some, List.length_cons, List.length_nil, vcM, List.getElem?_toArray, List.getElem?_cons_zero, List.getElem?_cons_succ, h10d, hkd, v5, v6, v7, hki, U32_xor, U32_add]
          first | (simp (disch := first | omega | assumption | rfl | (simp only [vcS] <;> omega) | fail) only [↓vcL2, ptS1_eq, ↓vcA, vcB, ↓vcD, vcE, ↓reduceIte, Nat.reduceEqDiff, Nat.reduceAdd, Nat.reduceMul, Nat.reduceLeDiff, Int.reduceLE, Int.reduceLT, Int.reduceEq, Int.reduceToNat, Int.reduceAdd, Int.reduceSub, Int.reduceMul, Int.reduceNeg, reduceCtorEq, Option.bind_some, Option.map_some, List.length_cons, List.length_nil, vcM, List.getElem?_toArray, List.getElem?_cons_zero, List.getElem?_cons_succ, h10d, hkd, v5, v6, v7, hki, U32_xor, U32_add]) | skip
          have et : t1F st ki xi = st.h + (rotF 6 st.e ^^^ rotF 11 st.e ^^^ rotF 25 st.e) + (st.e &&& st.f ^^^ ~~~st.e &&& st.g) + ki + xi := rfl
          rw [← et]
          have eu : t2F st = (rotF 2 st.a ^^^ rotF 13 st.a ^^^ rotF 22 st.a) + (st.a &&& st.b ^^^ st.a &&& st.c ^^^ st.b &&& st.c) := rfl
          (refine W_at c43_ok ?_; refine ⟨_, rfl, ?_⟩; simp (disch := first | omega | assumption | rfl | (simp only [vcS] <;> omega) | fail) only [↓vcL1, ptS2_eq, ↓vcA, vcB, ↓vcD, vcE, ↓reduceIte, Nat.reduceEqDiff, Nat.reduceAdd, Nat.reduceMul, Nat.reduceLeDiff, Int.reduceLE, Int.reduceLT, Int.reduceEq, Int.reduceToNat, Int.reduceAdd, Int.reduceSub, Int.reduceMul, Int.reduceNeg, reduceCtorEq, Option.bind_some, Option.map_some, List.length_cons, List.length_nil, vcM, List.getElem?_toArray, List.getElem?_cons_zero, List.getElem?_cons_succ, h10d, v1, v2, U32_and, U32_xor])
          have hEd2 : Ext wd wd.drew := (Keep.refl _ wd).drew
          have h10e := hEd2.at h10d (fun h => h)
          generalize wd.drew = we at hEd2 h10e ⊢
          refine callV_ret (right_ok we st.a 2 (by decide) (by decide)) ?_
          rintro _ wq ⟨rfl, hw⟩
          obtain rfl : we = wq := hw.symm
          simp (disch := first | omega | assumption | rfl | (simp only [vcS] <;> omega) | fail) only [↓vcL2, ptS1_eq, ↓vcA, vcB, ↓vcD, vcE, ↓reduceIte, Nat.reduceEqDiff, Nat.reduceAdd, Nat.reduceMul, Nat.reduceLeDiff, Int.reduceLE, Int.reduceLT, Int.reduceEq, Int.reduceToNat, Int.reduceAdd, Int.reduceSub, Int.reduceMul, Int.reduceNeg, reduceCtorEq, Option.bind_some, Option.map_some, List.length_cons, List.length_nil, vcM, List.getElem?_toArray, List.getElem?_cons_zero, List.getElem?_cons_succ, h10e, v1, v2, U32_xor, U32_add]
          refine callV_ret (right_ok we st.a 13 (by decide) (by decide)) ?_
          rintro _ wq ⟨rfl, hw⟩
          obtain rfl : we = wq := hw.symm
          simp (disch := first | omega | assumption | rfl | (simp only [vcS] <;> omega) | fail) only [↓vcL1, ptS2_eq, ↓vcA, vcB, ↓vcD, vcE, ↓reduceIte, Nat.reduceEqDiff, Nat.reduceAdd, Nat.reduceMul, Nat.reduceLeDiff, Int.reduceLE, Int.reduceLT, Int.reduceEq, Int.reduceToNat, Int.reduceAdd, Int.reduceSub, Int.reduceMul, Int.reduceNeg, reduceCtorEq, Option.bind_some, Option.map_some, List.length_cons, List.length_nil, vcM, List.getElem?_toArray, List.getElem?_cons_zero, List.getElem?_cons_succ, h10e, v1, v2, U32_xor, U32_add]
          refine callV_ret (right_ok we st.a 22 (by decide) (by decide)) ?_
          rintro _ wq ⟨rfl, hw⟩
          obtain rfl : we = wq := hw.symm
          simp (disch := first | omega | assumption | rfl | (simp only [vcS] <;> omega) | fail) only [↓vcL2, ptS1_eq, ↓vcA, vcB, ↓vcD, vcE, ↓reduceIte, Nat.reduceEqDiff, Nat.reduceAdd, Nat.reduceMul, Nat.reduceLeDiff, Int.reduceLE, Int.reduceLT, Int.reduceEq, Int.reduceToNat, Int.reduceAdd, Int.reduceSub, Int.reduceMul, Int.reduceNeg, reduceCtorEq, Option.bind_some, Option.map_some, List.length_cons, List.length_nil, vcM, List.getElem?_toArray, List.getElem?_cons_zero, List.getElem?_cons_succ, h10e, v1, v2, U32_xor, U32_add]
          rw [← eu]
          unfold rnd at hrs
          generalize t1F st ki xi = tt at hrs ⊢
          generalize t2F st = uu at hrs ⊢
          (refine W_at c43_ok ?_; refine ⟨_, rfl, ?_⟩; simp (disch := first | omega | assumption | rfl | (simp only [vcS] <;> omega) | fail) only [↓ptV_l, ↓vcA, vcB, ↓vcD, vcE, ↓reduceIte, Nat.reduceEqDiff, Nat.reduceAdd, Nat.reduceMul, Nat.reduceLeDiff, Int.reduceLE, Int.reduceLT, Int.reduceEq, Int.reduceToNat, Int.reduceAdd, Int.reduceSub, Int.reduceMul, Int.reduceNeg, reduceCtorEq, Option.bind_some, Option.map_some, List.length_cons, List.length_nil, vcM, List.getElem?_toArray, List.getElem?_cons_zero, List.getElem?_cons_succ])
          have h10f : we.drew.heap[p10]? = some (.cells (wcs st.list) 84 (0, 0)) := h10e
          have hEf : Ext w we.drew := ((hE.ext hEd).ext hEd2).drew
          generalize we.drew = wf at h10f hEf ⊢
          have hrds : rdS wf 1 (.slice (some ⟨p10, 0, none⟩) 7 8) = some ((wcs st.list).extract 0 (0 + 7)) := by
            simp only [rdS]
            rw [if_neg (by omega), rdN_heap, h10f, rdO_some _ _ _ _ _ (by rw [wcs_size]; simp [S8.list])]
          show cpyV 1 (.slice (some ⟨p10, 1, none⟩) 7 7) (.slice (some ⟨p10, 0, none⟩) 7 8) wf _
          unfold cpyV
          show getV (rdS wf 1 (.slice (some ⟨p10, 0, none⟩) 7 8)) _
          rw [hrds, getV_some]
          have hnews : (wcs st.list).extract 0 (0 + 7) = #[U32 st.a, U32 st.b, U32 st.c, U32 st.d, U32 st.e, U32 st.f, U32 st.g] := rfl
          rw [hnews]
          refine ⟨?_, fun h => absurd h (by decide), fun _ => ⟨p10, 1, rfl, okN_of h10f (by rw [wcs_size]; simp [S8.list]), ?_⟩⟩
          · intro y hy
            simp at hy
            rcases hy with rfl | rfl | rfl | rfl | rfl | rfl | rfl <;> rfl
          have h10g : (wf.putN p10 1 #[U32 st.a, U32 st.b, U32 st.c, U32 st.d, U32 st.e, U32 st.f, U32 st.g]).heap[p10]? = some (.cells #[U32 st.a, U32 st.a, U32 st.b, U32 st.c, U32 st.d, U32 st.e, U32 st.f, U32 st.g] 84 (0, 0)) := by
            rw [heap_putN_eq h10f]; rfl
          have hp10l : w.heap.size ≤ p10 := by omega
          have hEg : Ext w (wf.putN p10 1 #[U32 st.a, U32 st.b, U32 st.c, U32 st.d, U32 st.e, U32 st.f, U32 st.g]) := hEf.trans ((Keep.refl _ wf).putN (S := fun x => x = p10) _ fun _ => rfl) fun x hx e => by omega
          generalize World.putN _ _ _ _ = wg at h10g hEg ⊢
          (refine W_at c43_ok ?_; refine ⟨_, rfl, ?_⟩; simp (disch := first | omega | assumption | rfl | (simp only [vcS] <;> omega) | fail) only [↓ptV_l, ↓vcA, vcB, ↓vcD, vcE, ↓reduceIte, Nat.reduceEqDiff, Nat.reduceAdd, Nat.reduceMul, Nat.reduceLeDiff, Int.reduceLE, Int.reduceLT, Int.reduceEq, Int.reduceToNat, Int.reduceAdd, Int.reduceSub, Int.reduceMul, Int.reduceNeg, reduceCtorEq, Option.bind_some, Option.map_some, List.length_cons, List.length_nil, vcM, List.getElem?_toArray, List.getElem?_cons_zero, List.getElem?_cons_succ, h10g, U32_add])
          refine ⟨rfl, wr1_of h10g (by simp), ?_⟩
          have h10h : (wg.setCell ⟨p10, 4, none⟩ (U32 (st.d + tt))).heap[p10]? = some (.cells #[U32 st.a, U32 st.a, U32 st.b, U32 st.c, U32 (st.d + tt), U32 st.e, U32 st.f, U32 st.g] 84 (0, 0)) := by
            rw [heap_setCell_eq h10g]; rfl
          have hEh : Ext w (wg.setCell ⟨p10, 4, none⟩ (U32 (st.d + tt))) := hEg.trans ((Keep.refl _ wg).setCell (S := fun x => x = p10) _ fun _ => rfl) fun x hx e => by omega
          generalize World.setCell _ _ _ = wh at h10h hEh ⊢
          (refine W_at c43_ok ?_; refine ⟨_, rfl, ?_⟩; simp (disch := first | omega | assumption | rfl | (simp only [vcS] <;> omega) | fail) only [↓ptV_l, ↓vcA, vcB, ↓vcD, vcE, ↓reduceIte, Nat.reduceEqDiff, Nat.reduceAdd, Nat.reduceMul, Nat.reduceLeDiff, Int.reduceLE, Int.reduceLT, Int.reduceEq, Int.reduceToNat, Int.reduceAdd, Int.reduceSub, Int.reduceMul, Int.reduceNeg, reduceCtorEq, Option.bind_some, Option.map_some, List.length_cons, List.length_nil, vcM, List.getElem?_toArray, List.getElem?_cons_zero, List.getElem?_cons_succ, U32_add])
          refine ⟨rfl, wr1_of h10h (by simp), ?_⟩
          have h10i : (wh.setCell ⟨p10, 0, none⟩ (U32 (tt + uu))).heap[p10]? = some (.cells (wcs (rndN (i + 1) s kL ws).list) 84 (0, 0)) := by
            rw [heap_setCell_eq h10h, hrs]; rfl
          have hEi : Ext w (wh.setCell ⟨p10, 0, none⟩ (U32 (tt + uu))) := hEh.trans ((Keep.refl _ wh).setCell (S := fun x => x = p10) _ fun _ => rfl) fun x hx e => by omega
          generalize World.setCell _ _ _ = wi at h10i hEi ⊢
          (refine W_at c43_ok ?_; refine ⟨_, rfl, ?_⟩; simp (disch := first | omega | assumption | rfl | (simp only [vcS] <;> omega) | fail) only [↓ptV_l, ↓vcA, vcB, ↓vcD, vcE, ↓reduceIte, Nat.reduceEqDiff, Nat.reduceAdd, Nat.reduceMul, Nat.reduceLeDiff, Int.reduceLE, Int.reduceLT, Int.reduceEq, Int.reduceToNat, Int.reduceAdd, Int.reduceSub, Int.reduceMul, Int.reduceNeg, reduceCtorEq, Option.bind_some, Option.map_some, List.length_cons, List.length_nil, vcM, List.getElem?_toArray, List.getElem?_cons_zero, List.getElem?_cons_succ, hwi])
          (refine W_at c43_ok ?_; refine ⟨_, rfl, ?_⟩; simp (disch := first | omega | assumption | rfl | (simp only [vcS] <;> omega) | fail) only [↓ptV_l, ↓vcA, vcB, ↓vcD, vcE, ↓reduceIte, Nat.reduceEqDiff, Nat.reduceAdd, Nat.reduceMul, Nat.reduceLeDiff, Int.reduceLE, Int.reduceLT, Int.reduceEq, Int.reduceToNat, Int.reduceAdd, Int.reduceSub, Int.reduceMul, Int.reduceNeg, reduceCtorEq, Option.bind_some, Option.map_some, List.length_cons, List.length_nil, vcM, List.getElem?_toArray, List.getElem?_cons_zero, List.getElem?_cons_succ])
          exact ih (i + 1) wi (by omega) h10i hEi
      exact L2 64 0 wa (by omega) hp10 hEa
    | succ k ih =>
      intro i wj hi h6 hE
      have hlt : ((i : Nat) : Int) < 64 := by omega
      have b1 : 0 ≤ ((i : Nat) : Int) ∧ ((i : Nat) : Int) < 64 := by omega
      have hwi : IntKind.i64.wrap (((i : Nat) : Int) + 1) = ((i + 1 : Nat) : Int) := wrap_i64 (by omega) (by omega)
      have fin : ∀ (wz : World) (y : BitVec 32), ws[i]? = some y → wz.heap[p6]? = some (.cells (arrW ws i) 98 (0, 0)) → Ext w wz →
          W Try.prog (Ret fun _ w' => w'.heap[g]? = some (.cells (((compF s blk).list.map U32 ++ rest).toArray) T (0, 0)) ∧ Keep (fun y => y = g) w w') 43 22 [(0, .pointer (some ⟨g, 0, none⟩)), (1, .pointer (some ⟨pk, 0, none⟩)), (2, x), (6, .pointer (some ⟨p6, 0, none⟩)), (18, .int .i64 (i : Nat))] (wz.setCell ⟨p6, i, none⟩ (U32 y)) := by
        intro wz y hy h6z hEz
        have h6y : (wz.setCell ⟨p6, i, none⟩ (U32 y)).heap[p6]? = some (.cells (arrW ws (i + 1)) 98 (0, 0)) := by rw [heap_setCell_eq h6z, arrW_set ws i y hws (by omega) hy]
        have hEy : Ext w (wz.setCell ⟨p6, i, none⟩ (U32 y)) := hEz.trans ((Keep.refl _ wz).setCell (S := fun x => x = p6) _ fun _ => rfl) fun x hx e => by omega
        generalize World.setCell _ _ _ = wy at h6y hEy ⊢
        (refine W_at c43_ok ?_; refine ⟨_, rfl, ?_⟩; simp (disch := first | omega | assumption | rfl | (simp only [vcS] <;> omega) | fail) only [↓ptV_l, ↓vcA, vcB, ↓vcD, vcE, ↓reduceIte, Nat.reduceEqDiff, Nat.reduceAdd, Nat.reduceMul, Nat.reduceLeDiff, Int.reduceLE, Int.reduceLT, Int.reduceEq, Int.reduceToNat, Int.reduceAdd, Int.reduceSub, Int.reduceMul, Int.reduceNeg, reduceCtorEq, Option.bind_some, Option.map_some, List.length_cons, List.length_nil, vcM, List.getElem?_toArray, List.getElem?_cons_zero, List.getElem?_cons_succ, hwi])
        (refine W_at c43_ok ?_; refine ⟨_, rfl, ?_⟩; simp (disch := first | omega | assumption | rfl | (simp only [vcS] <;> omega) | fail) only [↓ptV_l, ↓vcA, vcB, ↓vcD, vcE, ↓reduceIte, Nat.reduceEqDiff, Nat.reduceAdd, Nat.reduceMul, Nat.reduceLeDiff, Int.reduceLE, Int.reduceLT, Int.reduceEq, Int.reduceToNat, Int.reduceAdd, Int.reduceSub, Int.reduceMul, Int.reduceNeg, reduceCtorEq, Option.bind_some, Option.map_some, List.length_cons, List.length_nil, vcM, List.getElem?_toArray, List.getElem?_cons_zero, List.getElem?_cons_succ])
        exact ih (i + 1) wy (by omega) h6y hEy
      have hsz := arrW_size ws i hws (by omega)
      (refine W_at c43_ok ?_; refine ⟨_, rfl, ?_⟩; simp (disch := first | omega | assumption | rfl | (simp only [vcS] <;> omega) | fail) only [↓ptV_l, ↓vcA, vcB, ↓vcD, vcE, ↓reduceIte, Nat.reduceEqDiff, Nat.reduceAdd, Nat.reduceMul, Nat.reduceLeDiff, Int.reduceLE, Int.reduceLT, Int.reduceEq, Int.reduceToNat, Int.reduceAdd, Int.reduceSub, Int.reduceMul, Int.reduceNeg, reduceCtorEq, Option.bind_some, Option.map_some, List.length_cons, List.length_nil, vcM, List.getElem?_toArray, List.getElem?_cons_zero, List.getElem?_cons_succ, hlt])
      (refine W_at c43_ok ?_; refine ⟨_, rfl, ?_⟩; simp (disch := first | omega | assumption | rfl | (simp only [vcS] <;> omega) | fail) only [↓ptV_l, ↓vcA, vcB, ↓vcD, vcE, ↓reduceIte, Nat.reduceEqDiff, Nat.reduceAdd, Nat.reduceMul, Nat.reduceLeDiff, Int.reduceLE, Int.reduceLT, Int.reduceEq, Int.reduceToNat, Int.reduceAdd, Int.reduceSub, Int.reduceMul, Int.reduceNeg, reduceCtorEq, Option.bind_some, Option.map_some, List.length_cons, List.length_nil, vcM, List.getElem?_toArray, List.getElem?_cons_zero, List.getElem?_cons_succ])
      (refine W_at c43_ok ?_; refine ⟨_, rfl, ?_⟩; simp (disch := first | omega | assumption | rfl | (simp only [vcS] <;> omega) | fail) only [↓ptV_l, ↓vcA, vcB, ↓vcD, vcE, ↓reduceIte, Nat.reduceEqDiff, Nat.reduceAdd, Nat.reduceMul, Nat.reduceLeDiff, Int.reduceLE, Int.reduceLT, Int.reduceEq, Int.reduceToNat, Int.reduceAdd, Int.reduceSub, Int.reduceMul, Int.reduceNeg, reduceCtorEq, Option.bind_some, Option.map_some, List.length_cons, List.length_nil, vcM, List.getElem?_toArray, List.getElem?_cons_zero, List.getElem?_cons_succ])
      by_cases h16 : i < 16
      · have h16' : ((i : Nat) : Int) < 16 := by omega
        have w0 : IntKind.i64.wrap (4 * ((i : Nat) : Int)) = ((4 * i : Nat) : Int) := by rw [wrap_i64 (by omega) (by omega)]; omega
        have w1 : IntKind.i64.wrap (((4 * i : Nat) : Int) + 1) = ((4 * i + 1 : Nat) : Int) := by rw [wrap_i64 (by omega) (by omega)]; omega
        have w2 : IntKind.i64.wrap (((4 * i : Nat) : Int) + 2) = ((4 * i + 2 : Nat) : Int) := by rw [wrap_i64 (by omega) (by omega)]; omega
        have w3 : IntKind.i64.wrap (((4 * i : Nat) : Int) + 3) = ((4 * i + 3 : Nat) : Int) := by rw [wrap_i64 (by omega) (by omega)]; omega
        obtain ⟨bb, oo, cc, ex, c0, r0⟩ := rd_byte (hx.ext hE) hb (i := 4 * i) (by omega)
        obtain ⟨bb1, oo1, cc1, ex1, c1, r1⟩ := rd_byte (hx.ext hE) hb (i := 4 * i + 1) (by omega)
        obtain ⟨bb2, oo2, cc2, ex2, c2, r2⟩ := rd_byte (hx.ext hE) hb (i := 4 * i + 2) (by omega)
        obtain ⟨bb3, oo3, cc3, ex3, c3, r3⟩ := rd_byte (hx.ext hE) hb (i := 4 * i + 3) (by omega)
        rw [ex] at ex1 ex2 ex3
        cases ex1; cases ex2; cases ex3
        subst ex
        rw [hl] at *
        have i0 : 0 ≤ ((4 * i : Nat) : Int) ∧ ((4 * i : Nat) : Int) < 64 := by omega
        have i1 : 0 ≤ ((4 * i + 1 : Nat) : Int) ∧ ((4 * i + 1 : Nat) : Int) < 64 := by omega
        have i2 : 0 ≤ ((4 * i + 2 : Nat) : Int) ∧ ((4 * i + 2 : Nat) : Int) < 64 := by omega
        have i3 : 0 ≤ ((4 * i + 3 : Nat) : Int) ∧ ((4 * i + 3 : Nat) : Int) < 64 := by omega
        have hy := ws_16 blk i h16
        rw [hwsd] at hy
        have v0 := b32_of r0
        have v1 := b32_of r1
        have v2 := b32_of r2
        have v3 := b32_of r3
        (refine W_at c43_ok ?_; refine ⟨_, rfl, ?_⟩; simp (disch := first | omega | assumption | rfl | (simp only [vcS] <;> omega) | fail) only [↓ptV_l, ↓vcA, vcB, ↓vcD, vcE, ↓reduceIte, Nat.reduceEqDiff, Nat.reduceAdd, Nat.reduceMul, Nat.reduceLeDiff, Int.reduceLE, Int.reduceLT, Int.reduceEq, Int.reduceToNat, Int.reduceAdd, Int.reduceSub, Int.reduceMul, Int.reduceNeg, reduceCtorEq, Option.bind_some, Option.map_some, List.length_cons, List.length_nil, vcM, List.getElem?_toArray, List.getElem?_cons_zero, List.getElem?_cons_succ, h16'])
        (refine W_at c43_ok ?_; refine ⟨_, rfl, ?_⟩; simp (disch := first | omega | assumption | rfl | (simp only [vcS] <;> omega) | fail) only [↓ptV_l, ↓vcA, vcB, ↓vcD, vcE, ↓reduceIte, Nat.reduceEqDiff, Nat.reduceAdd, Nat.reduceMul, Nat.reduceLeDiff, Int.reduceLE, Int.reduceLT, Int.reduceEq, Int.reduceToNat, Int.reduceAdd, Int.reduceSub, Int.reduceMul, Int.reduceNeg, reduceCtorEq, Option.bind_some, Option.map_some, List.length_cons, List.length_nil, vcM, List.getElem?_toArray, List.getElem?_cons_zero, List.getElem?_cons_succ])
        (refine W_at c43_ok ?_; refine ⟨_, rfl, ?_⟩; simp (disch := first | omega | assumption | rfl | (simp only [vcS] <;> omega) | fail) only [↓ptV_l, ↓vcA, vcB, ↓vcD, vcE, ↓reduceIte, Nat.reduceEqDiff, Nat.reduceAdd, Nat.reduceMul, Nat.reduceLeDiff, Int.reduceLE, Int.reduceLT, Int.reduceEq, Int.reduceToNat, Int.reduceAdd, Int.reduceSub, Int.reduceMul, Int.reduceNeg, reduceCtorEq, Option.bind_some, Option.map_some, List.length_cons, List.length_nil, vcM, List.getElem?_toArray, List.getElem?_cons_zero, List.getElem?_cons_succ, w0, w1, w2, w3, i0, i1, i2, i3, b1, Int.toNat_natCast, Nat.mul_one, Nat.zero_add, c0, c1, c2, c3, v0, v1, v2, v3, U32_shl24, U32_shl16, U32_shl8, U32_or])
        exact ⟨rfl, wr1_of (show wj.drew.heap[p6]? = _ from h6) (by rw [hsz]; omega), fin wj.drew _ hy h6 hE.drew⟩
      · have h16' : ¬ ((i : Nat) : Int) < 16 := by omega
        have hy := ws_rec blk i (by omega) (by omega)
        rw [hwsd] at hy
        have hnx : nxtW (ws.take i) = ws.getD (i - 16) 0 + ws.getD (i - 7) 0 + sg0 (ws.getD (i - 15) 0) + sg1 (ws.getD (i - 2) 0) := by
          have hlt : (ws.take i).length = i := by rw [List.length_take]; omega
          have hg : ∀ k, k < i → (ws.take i).getD k 0 = ws.getD k 0 := fun k hk => by simp [List.getD, List.getElem?_take_of_lt hk]
          unfold nxtW
          rw [hlt, hg _ (by omega), hg _ (by omega), hg _ (by omega), hg _ (by omega)]
        rw [hnx] at hy
        have s15 : IntKind.i64.wrap (((i : Nat) : Int) - 15) = ((i - 15 : Nat) : Int) := by rw [wrap_i64 (by omega) (by omega)]; omega
        have s2 : IntKind.i64.wrap (((i : Nat) : Int) - 2) = ((i - 2 : Nat) : Int) := by rw [wrap_i64 (by omega) (by omega)]; omega
        have s16 : IntKind.i64.wrap (((i : Nat) : Int) - 16) = ((i - 16 : Nat) : Int) := by rw [wrap_i64 (by omega) (by omega)]; omega
        have s7 : IntKind.i64.wrap (((i : Nat) : Int) - 7) = ((i - 7 : Nat) : Int) := by rw [wrap_i64 (by omega) (by omega)]; omega
        have i15 : 0 ≤ ((i - 15 : Nat) : Int) ∧ ((i - 15 : Nat) : Int) < 64 := by omega
        have i2 : 0 ≤ ((i - 2 : Nat) : Int) ∧ ((i - 2 : Nat) : Int) < 64 := by omega
        have i16 : 0 ≤ ((i - 16 : Nat) : Int) ∧ ((i - 16 : Nat) : Int) < 64 := by omega
        have i7 : 0 ≤ ((i - 7 : Nat) : Int) ∧ ((i - 7 : Nat) : Int) < 64 := by omega
        have a15 := arrW_at ws i (i - 15) hws (by omega) (by omega)
        have a2 := arrW_at ws i (i - 2) hws (by omega) (by omega)
        have a16 := arrW_at ws i (i - 16) hws (by omega) (by omega)
        have a7 := arrW_at ws i (i - 7) hws (by omega) (by omega)
        generalize ws.getD (i - 15) 0 = x15 at hy a15
        generalize ws.getD (i - 2) 0 = x2 at hy a2
        generalize ws.getD (i - 16) 0 = x16 at hy a16
        generalize ws.getD (i - 7) 0 = x7 at hy a7
        have hEd : Ext wj wj.drew := (Keep.refl _ wj).drew
        have h6d : wj.drew.heap[p6]? = some (.cells (arrW ws i) 98 (0, 0)) := h6
        (refine W_at c43_ok ?_; refine ⟨_, rfl, ?_⟩; simp (disch := first | omega | assumption | rfl | (simp only [vcS] <;> omega) | fail) only [↓ptV_l, ↓vcA, vcB, ↓vcD, vcE, ↓reduceIte, Nat.reduceEqDiff, Nat.reduceAdd, Nat.reduceMul, Nat.reduceLeDiff, Int.reduceLE, Int.reduceLT, Int.reduceEq, Int.reduceToNat, Int.reduceAdd, Int.reduceSub, Int.reduceMul, Int.reduceNeg, reduceCtorEq, Option.bind_some, Option.map_some, List.length_cons, List.length_nil, vcM, List.getElem?_toArray, List.getElem?_cons_zero, List.getElem?_cons_succ, h16'])
        (refine W_at c43_ok ?_; refine ⟨_, rfl, ?_⟩; simp (disch := first | omega | assumption | rfl | (simp only [vcS] <;> omega) | fail) only [↓ptV_l, ↓vcA, vcB, ↓vcD, vcE, ↓reduceIte, Nat.reduceEqDiff, Nat.reduceAdd, Nat.reduceMul, Nat.reduceLeDiff, Int.reduceLE, Int.reduceLT, Int.reduceEq, Int.reduceToNat, Int.reduceAdd, Int.reduceSub, Int.reduceMul, Int.reduceNeg, reduceCtorEq, Option.bind_some, Option.map_some, List.length_cons, List.length_nil, vcM, List.getElem?_toArray, List.getElem?_cons_zero, List.getElem?_cons_succ])
        (refine W_at c43_ok ?_; refine ⟨_, rfl, ?_⟩; simp (disch := first | omega | assumption | rfl | (simp only [vcS] <;> omega) | fail) only [↓ptV_l, ↓vcA, vcB, ↓vcD, vcE, ↓reduceIte, Nat.reduceEqDiff, Nat.reduceAdd, Nat.reduceMul, Nat.reduceLeDiff, Int.reduceLE, Int.reduceLT, Int.reduceEq, Int.reduceToNat, Int.reduceAdd, Int.reduceSub, Int.reduceMul, Int.reduceNeg, reduceCtorEq, Option.bind_some, Option.map_some, List.length_cons, List.length_nil, vcM, List.getElem?_toArray, List.getElem?_cons_zero, List.getElem?_cons_succ, h6, s15, s2, i15, i2, Int.toNat_natCast, Nat.mul_one, Nat.zero_add, a15, a2])
        (refine W_at c43_ok ?_; refine ⟨_, rfl, ?_⟩; simp (disch := first | omega | assumption | rfl | (simp only [vcS] <;> omega) | fail) only [↓vcL1, ptS2_eq, ↓vcA, vcB, ↓vcD, vcE, ↓reduceIte, Nat.reduceEqDiff, Nat.reduceAdd, Nat.reduceMul, Nat.reduceLeDiff, Int.reduceLE, Int.reduceLT, Int.reduceEq, Int.reduceToNat, Int.reduceAdd, Int.reduceSub, Int.reduceMul, Int.reduceNeg, reduceCtorEq, Option.bind_some, Option.map_some, List.length_cons, List.length_nil, vcM, List.getElem?_toArray, List.getElem?_cons_zero, List.getElem?_cons_succ, h6, s16, s7, i16, i7, b1, Int.toNat_natCast, Nat.mul_one, Nat.zero_add, a16, a7, U32_shr3, U32_shr10, U32_add])
        have hEdd : Ext wj wj.drew.drew := hEd.drew
        have h6dd : wj.drew.drew.heap[p6]? = some (.cells (arrW ws i) 98 (0, 0)) := h6
        generalize wj.drew.drew = wd at hEdd h6dd ⊢
        refine callV_ret (right_ok wd x15 7 (by decide) (by decide)) ?_
        rintro _ wq ⟨rfl, hw⟩
        obtain rfl : wd = wq := hw.symm
        simp (disch := first | omega | assumption | rfl | (simp only [vcS] <;> omega) | fail) only [↓vcL2, ptS1_eq, ↓vcA, vcB, ↓vcD, vcE, ↓reduceIte, Nat.reduceEqDiff, Nat.reduceAdd, Nat.reduceMul, Nat.reduceLeDiff, Int.reduceLE, Int.reduceLT, Int.reduceEq, Int.reduceToNat, Int.reduceAdd, Int.reduceSub, Int.reduceMul, Int.reduceNeg, reduceCtorEq, Option.bind_some, Option.map_some, List.length_cons, List.length_nil, vcM, List.getElem?_toArray, List.getElem?_cons_zero, List.getElem?_cons_succ, h6dd, a16, a7]
        refine callV_ret (right_ok wd x15 18 (by decide) (by decide)) ?_
        rintro _ wq ⟨rfl, hw⟩
        obtain rfl : wd = wq := hw.symm
        simp (disch := first | omega | assumption | rfl | (simp only [vcS] <;> omega) | fail) only [↓vcL1, ptS2_eq, ↓vcA, vcB, ↓vcD, vcE, ↓reduceIte, Nat.reduceEqDiff, Nat.reduceAdd, Nat.reduceMul, Nat.reduceLeDiff, Int.reduceLE, Int.reduceLT, Int.reduceEq, Int.reduceToNat, Int.reduceAdd, Int.reduceSub, Int.reduceMul, Int.reduceNeg, reduceCtorEq, Option.bind_some, Option.map_some, List.length_cons, List.length_nil, vcM, List.getElem?_toArray, List.getElem?_cons_zero, List.getElem?_cons_succ, h6dd, a16, a7, U32_xor, U32_add]
        refine callV_ret (right_ok wd x2 17 (by decide) (by decide)) ?_
        rintro _ wq ⟨rfl, hw⟩
        obtain rfl : wd = wq := hw.symm
        simp (disch := first | omega | assumption | rfl | (simp only [vcS] <;> omega) | fail) only [↓vcL2, ptS1_eq, ↓vcA, vcB, ↓vcD, vcE, ↓reduceIte, Nat.reduceEqDiff, Nat.reduceAdd, Nat.reduceMul, Nat.reduceLeDiff, Int.reduceLE, Int.reduceLT, Int.reduceEq, Int.reduceToNat, Int.reduceAdd, Int.reduceSub, Int.reduceMul, Int.reduceNeg, reduceCtorEq, Option.bind_some, Option.map_some, List.length_cons, List.length_nil, vcM, List.getElem?_toArray, List.getElem?_cons_zero, List.getElem?_cons_succ, h6dd, a16, a7]
        refine callV_ret (right_ok wd x2 19 (by decide) (by decide)) ?_
        rintro _ wq ⟨rfl, hw⟩
        obtain rfl : wd = wq := hw.symm
        simp (disch := first | omega | assumption | rfl | (simp only [vcS] <;> omega) | fail) only [↓vcL1, ptS2_eq, ↓vcA, vcB, ↓vcD, vcE, ↓reduceIte, Nat.reduceEqDiff, Nat.reduceAdd, Nat.reduceMul, Nat.reduceLeDiff, Int.reduceLE, Int.reduceLT, Int.reduceEq, Int.reduceToNat, Int.reduceAdd, Int.reduceSub, Int.reduceMul, Int.reduceNeg, reduceCtorEq, Option.bind_some, Option.map_some, List.length_cons, List.length_nil, vcM, List.getElem?_toArray, List.getElem?_cons_zero, List.getElem?_cons_succ, h6dd, a16, a7, U32_xor, U32_add, b1, Int.toNat_natCast, Nat.mul_one, Nat.zero_add]
        exact ⟨rfl, wr1_of h6dd (by rw [hsz]; omega), fin wd _ hy h6dd (hE.ext hEdd)⟩
  exact L1 64 0 w1 (by omega) hp6 hE0
end Go.Proofs
namespace Go.Proofs
open Go.Vc
set_option maxRecDepth 10000

/-- 'append' of a row. -/
theorem appO2 {w : World} {base el size bytes : Nat} {z : List Value} {v : Value} {ids ids2 : List (Array Value)} {q : Option Addr} {m c2 : Nat} {K : Value → World → Prop} (h : OwnO w base el size v ids)
    (hr : rdS w size (.slice q m c2) = some (ids2.flatMap Array.toList).toArray) (hm : ids2.length = m) (hs2 : ∀ k ∈ ids2, k.size = size) (hf : ∀ k ∈ ids2, flat k)
    (hlen : ids.length + m ≤ 1000000000) (hb : (ids.length + m) * bytes ≤ 140737488355328) (hz : z.length = size) (hbase : base ≤ w.heap.size) (hs : 0 < size)
    (hk : ∀ v' w', OwnO w' base el size v' (ids ++ ids2) → Keep (Go.Proofs.blk v) w w' → (∀ g, Go.Proofs.blk v' g → Go.Proofs.blk v g ∨ w.heap.size ≤ g) → K v' w') :
    appV el size bytes z v (.slice q m c2) w K := by
  have hml : maxLen = 9223372036854775807 := rfl
  have hs3 : ∀ k ∈ ids ++ ids2, k.size = size := fun k hk => by
    rcases List.mem_append.1 hk with hk | hk
    · exact h.sz k hk
    · exact hs2 k hk
  have hfl : (ids ++ ids2).flatMap Array.toList = ids.flatMap Array.toList ++ ids2.flatMap Array.toList := by simp
  have hfll : (ids.flatMap Array.toList).length = ids.length * size := flat_len h.sz
  have hfl2 : (ids2.flatMap Array.toList).length = m * size := by rw [flat_len hs2, hm]
  have hro := h.rd
  have hl2 : (ids ++ ids2).length = ids.length + m := by rw [List.length_append, hm]
  have hmul : (ids.length + m) * size = ids.length * size + m * size := Nat.add_mul _ _ _
  have grow : ∀ c', ids.length + m ≤ c' → c' ≤ maxLen → K (.slice (some ⟨w.heap.size, 0, none⟩) (ids.length + m) c')
      (w.drew.alloc (.cells (ids.flatMap Array.toList ++ ids2.flatMap Array.toList ++ zrep (c' - (ids.length + m)) z).toArray el)) := by
    intro c' h1 h2
    refine hk _ _ ⟨hs3, .inr ⟨_, 0, c', _, by rw [hl2], hbase, heap_new w.drew _ _ rfl, by rw [hl2]; exact h1, h2, ?_, ?_⟩⟩ ?_ ?_
    · simp only [List.size_toArray, List.length_append, hfll, hfl2, length_zrep, hz]
      rw [Nat.zero_add, ← hmul, ← Nat.add_mul]
      exact Nat.mul_le_mul_right _ (by omega)
    · rw [hl2, List.drop_zero, hfl]
      rw [List.take_left']
      rw [List.length_append, hfll, hfl2, hmul]
    · exact ((Keep.refl _ w).drew).alloc _
    · intro g hg; cases hg; exact .inr (Nat.le_refl _)
  have keep0 : ∀ (q : Option Addr) (c : Nat), v = .slice q ids.length c → m * size = 0 → K (.slice q (ids.length + m) c) w := by
    intro q c hv h0
    have hm0 : m = 0 := by rcases Nat.mul_eq_zero.1 h0 with h | h; exact h; omega
    subst hm0
    have : ids2 = [] := List.eq_nil_of_length_eq_zero hm
    subst this
    rw [Nat.add_zero, ← hv]
    refine hk v w ?_ (Keep.refl _ w) fun g hg => .inl hg
    rw [List.append_nil]; exact h
  unfold appV
  obtain ⟨q', c, rfl, hcap⟩ := h.is
  simp only [hro, hr, getV_some]
  refine ⟨flat_flat hf, by omega, hb, hz, fun hc' => ⟨fun h0 => keep0 _ _ rfl h0, fun h0 b o' hp => ?_⟩, fun hc' h0 => ?_, fun _ => grow⟩
  · subst hp
    obtain ⟨_, ⟨e, _⟩ | ⟨g, o, cap, cur, e, hbg, hg, hn, hcm, hle, htake⟩⟩ := h
    · cases e
    · injection e with e1 e2 e3
      injection e1 with e1
      injection e1 with e4 e5
      subst e3 e4 e5
      have e6 : (ids.length + m) * size ≤ c * size := Nat.mul_le_mul_right _ hc'
      rw [hmul] at e6
      refine ⟨okN_of hg (by omega), hk _ _ ⟨hs3, .inr ⟨_, _, c, _, by rw [hl2], hbg, heap_putN_eq hg, by rw [hl2]; exact hc', hcm, ?_, ?_⟩⟩ ?_ fun g' hg' => .inl hg'⟩
      · simp only [spliceA, List.size_toArray, List.length_append, List.length_take, List.length_drop, Array.length_toList (xs := cur), hfl2]
        omega
      · rw [hl2, hfl, ← htake]
        simp only [spliceA]
        rw [hmul]
        have hlen1 : (cur.toList.take (o' + ids.length * size)).length = o' + ids.length * size := by rw [List.length_take, Array.length_toList (xs := cur)]; omega
        rw [List.append_assoc, List.drop_append_of_le_length (by rw [hlen1]; omega), List.drop_take, Nat.add_sub_cancel_left]
        have hlen2 : ((cur.toList.drop o').take (ids.length * size)).length = ids.length * size := by rw [htake, hfll]
        rw [List.take_append, hlen2, List.take_of_length_le (by rw [hlen2]; omega), Nat.add_sub_cancel_left, List.take_left' hfl2]
      · exact (Keep.refl _ w).putN _ fun _ => rfl
  · obtain ⟨_, ⟨e, _⟩ | ⟨g, o, cap, cur, e, _⟩⟩ := h
    · injection e with e1 e2 e3
      subst e3
      exfalso
      have hm0 : m = 0 := by omega
      rw [hm0, Nat.zero_mul] at h0
      exact h0 rfl
    · injection e with e1
      exact ⟨_, _, e1⟩


theorem Rd.any {w w' : World} {x : Value} (h : Rd w x []) : Rd w' x [] := by
  obtain ⟨⟨q, c, e, hc⟩, hm, _⟩ := h
  subst e
  exact ⟨⟨q, c, rfl, hc⟩, hm, by simp only [rdS, List.length_nil, if_true]; rfl⟩
theorem Rd.keep0 {S : Nat → Prop} {w w' : World} {x : Value} {bs : List Int} (h : Rd w x bs) (k : Keep S w w') (hS : bs ≠ [] → ∀ q n c, x = .slice (some q) n c → ¬ S q.block) : Rd w' x bs := by
  by_cases h0 : bs = []
  · subst h0; exact h.any
  · exact h.keep k (hS h0)
theorem Rd.lt {w : World} {x : Value} {bs : List Int} (h : Rd w x bs) (h0 : bs ≠ []) : ∀ q n c, x = .slice (some q) n c → q.block < w.heap.size := fun q n c e => by
  obtain ⟨b, o, c', e', hc⟩ := h.at (i := 0) (List.length_pos_iff.2 h0)
  rw [e] at e'
  cases e'
  show b < w.heap.size
  cases hh : w.heap[b]? with
  | none => rw [hh] at hc; cases hc
  | some y => exact lt_of_heap hh
/-- Bytes of one's own, from any place of their block on. -/
def u8s (bs : List Int) : List (Array Value) := bs.map fun x => #[Value.int .u8 x]
theorem u8s_len (bs : List Int) : (u8s bs).length = bs.length := List.length_map _
theorem u8s_flat (bs : List Int) : (u8s bs).flatMap Array.toList = bv bs := by
  unfold u8s bv
  induction bs with
  | nil => rfl
  | cons x bs ih => simp only [List.map_cons, List.flatMap_cons, ih]; rfl
def ByO (w : World) (v : Value) (bs : List Int) : Prop := OwnO w 0 5 1 v (u8s bs)
theorem ByO.rd {w : World} {v : Value} {bs : List Int} (h : ByO w v bs) : Rd w v bs := by
  have h1 := OwnO.rd h
  rw [u8s_flat] at h1
  obtain ⟨q, c, e, hc⟩ := OwnO.is h
  rw [u8s_len] at e hc
  refine ⟨⟨q, c, e, hc⟩, ?_, h1⟩
  obtain ⟨_, ⟨_, h2⟩ | ⟨g, o, cap, cur, e2, _, _, h3, h4, _⟩⟩ := h
  · have : bs.length = 0 := by rw [← u8s_len, h2]; rfl
    omega
  · rw [u8s_len] at h3; omega
theorem ByO.nil (w : World) : ByO w (.slice none 0 0) [] := OwnO.nil _ _ _ _
theorem ByO.keep {S : Nat → Prop} {w w' : World} {v : Value} {bs : List Int} (h : ByO w v bs) (k : Keep S w w') (hS : ∀ g, blk v g → ¬ S g) : ByO w' v bs := OwnO.keep h k hS
theorem ByO.ext {w w' : World} {v : Value} {bs : List Int} (h : ByO w v bs) (k : Ext w w') : ByO w' v bs := h.keep k fun _ _ h => h
theorem ByO.blk {w : World} {v : Value} {bs : List Int} (h : ByO w v bs) {g : Nat} (hg : Go.Proofs.blk v g) : ∃ c, w.heap[g]? = some (.cells c 5 (0, 0)) := (OwnO.blk h hg).2
theorem ByO.drop {w : World} {v : Value} {bs : List Int} (h : ByO w v bs) {l : Nat} (hl : l ≤ bs.length) : ∃ q c, v = .slice q bs.length c ∧ bs.length ≤ c ∧ ByO w (.slice (advA 1 q c l) (bs.length - l) (c - l)) (bs.drop l) := by
  obtain ⟨q, c, e, hc, h2⟩ := OwnO.drop h (l := l) (by rw [u8s_len]; exact hl)
  rw [u8s_len] at e hc h2
  refine ⟨q, c, e, hc, ?_⟩
  unfold ByO
  rw [show u8s (bs.drop l) = (u8s bs).drop l from List.map_drop]
  exact h2
theorem ByO.app {w : World} {v x : Value} {bs news : List Int} {K : Value → World → Prop} (h : ByO w v bs) (hx : Rd w x news) (hl : bs.length + news.length ≤ 1000000000)
    (hk : ∀ v' w', ByO w' v' (bs ++ news) → Keep (Go.Proofs.blk v) w w' → (∀ g, Go.Proofs.blk v' g → Go.Proofs.blk v g ∨ w.heap.size ≤ g) → K v' w') : appV 5 1 1 [.int .u8 0] v x w K := by
  obtain ⟨q, c, e, hc⟩ := hx.is
  have hr := hx.rd
  subst e
  have hfl : ∀ k ∈ u8s news, flat k := fun k hk => by
    obtain ⟨y, _, rfl⟩ := List.mem_map.1 hk
    rw [flat_1]; rfl
  refine appO2 (ids2 := u8s news) h (by rw [u8s_flat]; exact hr) (u8s_len _) (fun k hk => by obtain ⟨y, _, rfl⟩ := List.mem_map.1 hk; rfl) hfl (by rw [u8s_len]; exact hl) (by rw [u8s_len]; omega) rfl (Nat.zero_le _) (by decide) fun v' w' h1 h2 h3 => hk v' w' ?_ h2 h3
  unfold ByO
  rw [show u8s (bs ++ news) = u8s bs ++ u8s news from List.map_append]
  exact h1
/-- The zero state. -/
def zs : S8 := ⟨0, 0, 0, 0, 0, 0, 0, 0⟩
def stF (m : List Int) (b : Bool) : S8 := if b then curS m else zs
def sumC (m : List Int) (b : Bool) (wv : Value) : Array Value := ((stF m b).list.map U32 ++ [wv, .int .u64 (m.length : Nat), .bool b]).toArray
structure SumAt (w : World) (g : Nat) (wv : Value) (m : List Int) (b : Bool) : Prop where
  obj : w.heap[g]? = some (.cells (sumC m b wv) 87 (0, 0))
  wait : ByO w wv (waitL m)
  zero : b = false → m = []
theorem SumAt.keep {S : Nat → Prop} {w w' : World} {g : Nat} {wv : Value} {m : List Int} {b : Bool} (h : SumAt w g wv m b) (k : Keep S w w') (h1 : ¬ S g) (h2 : ∀ x, blk wv x → ¬ S x) : SumAt w' g wv m b := ⟨k.at h.obj h1, h.wait.keep k h2, h.zero⟩
theorem SumAt.ext {w w' : World} {g : Nat} {wv : Value} {m : List Int} {b : Bool} (h : SumAt w g wv m b) (k : Ext w w') : SumAt w' g wv m b := h.keep k (fun h => h) fun _ _ h => h
theorem SumAt.ne {w : World} {g : Nat} {wv : Value} {m : List Int} {b : Bool} (h : SumAt w g wv m b) {x : Nat} (hx : blk wv x) : x ≠ g := fun e => by
  obtain ⟨c, hc⟩ := h.wait.blk hx
  rw [e, h.obj] at hc; cases hc
end Go.Proofs
namespace Go.Proofs
open Go.Vc
set_option maxRecDepth 10000

def sumG (st : S8) (wv : Value) (n : Nat) (b : Bool) : Array Value := (st.list.map U32 ++ [wv, .int .u64 (n : Nat), .bool b]).toArray
theorem sumG_8 (st : S8) (wv : Value) (n : Nat) (b : Bool) : (sumG st wv n b)[8]? = some wv := rfl
theorem sumG_9 (st : S8) (wv : Value) (n : Nat) (b : Bool) : (sumG st wv n b)[9]? = some (.int .u64 (n : Nat)) := rfl
theorem sumG_10 (st : S8) (wv : Value) (n : Nat) (b : Bool) : (sumG st wv n b)[10]? = some (.bool b) := rfl
theorem sumG_size (st : S8) (wv : Value) (n : Nat) (b : Bool) : (sumG st wv n b).size = 11 := rfl
theorem sumG_set8 (st : S8) (wv v : Value) (n : Nat) (b : Bool) : (sumG st wv n b).setIfInBounds 8 v = sumG st v n b := rfl
theorem sumG_set9 (st : S8) (wv : Value) (n k : Nat) (b : Bool) : (sumG st wv n b).setIfInBounds 9 (.int .u64 (k : Nat)) = sumG st wv k b := rfl
theorem sumG_set10 (st : S8) (wv : Value) (n : Nat) (b c : Bool) : (sumG st wv n b).setIfInBounds 10 (.bool c) = sumG st wv n c := rfl
theorem sumG_put (st st' : S8) (wv : Value) (n : Nat) (b : Bool) : spliceA (sumG st wv n b) 0 (wcs st'.list) = sumG st' wv n b := rfl
theorem sumC_G (m : List Int) (b : Bool) (wv : Value) : sumC m b wv = sumG (stF m b) wv m.length b := rfl
/-- What writes to a sum may touch. -/
def SumB (g : Nat) (wv : Value) (x : Nat) : Prop := x = g ∨ blk wv x
set_option maxHeartbeats 1600000 in
theorem add_ok (w : World) (g : Nat) (wv x : Value) (m bs : List Int) (b : Bool) (h : SumAt w g wv m b) (hx : Rd w x bs) (hxb : bs ≠ [] → ∀ q n c, x = .slice (some q) n c → q.block ≠ g) (hbs : byt bs) (hm : byt m) (hl : m.length + bs.length ≤ 500000000) :
    Calls Try.prog 32 #[.pointer (some ⟨g, 0, none⟩), x] w (Ret fun _ w' => ∃ wv', SumAt w' g wv' (m ++ bs) true ∧ Keep (SumB g wv) w w' ∧ ∀ y, blk wv' y → blk wv y ∨ w.heap.size ≤ y) := by
  refine calls_of_cfg c32_ok (Nat.le_of_ble_eq_true rfl) ?_
  simp only [argE_nil, argE_cons, Nat.reduceAdd, Nat.zero_add]
  have ho := h.obj
  have hgl := lt_of_heap ho
  rw [sumC_G] at ho
  have hlen := hx.len
  have hwaitl : (waitL m).length ≤ 500000000 := by rw [waitL_len]; omega
  -- behind the first
  have cont : ∀ (w1 : World) (tl : Env), w1.heap[g]? = some (.cells (sumG (curS m) wv m.length true) 87 (0, 0)) → Keep (fun y => y = g) w w1 →
      W Try.prog (Ret fun _ w' => ∃ wv', SumAt w' g wv' (m ++ bs) true ∧ Keep (SumB g wv) w w' ∧ ∀ y, blk wv' y → blk wv y ∨ w.heap.size ≤ y) 32 8 ((0, .pointer (some ⟨g, 0, none⟩)) :: (1, x) :: tl) w1 := by
    intro w1 tl ho1 hk1
    have hw1 : IntKind.u64.wrap ((bs.length : Nat) : Int) = ((bs.length : Nat) : Int) := by rw [wrap_u64]; omega
    have hw2 : IntKind.u64.wrap (((m.length : Nat) : Int) + ((bs.length : Nat) : Int)) = (((m ++ bs).length : Nat) : Int) := by rw [wrap_u64, List.length_append]; omega
    have hwt1 := h.wait.keep hk1 fun y hy e => h.ne hy e
    have hx1 := hx.keep0 hk1 hxb
    (refine W_at c32_ok ?_; refine ⟨_, rfl, ?_⟩; simp (disch := first | omega | assumption | rfl | (simp only [vcS] <;> omega) | fail) only [↓ptV_l, ↓vcA, vcB, ↓vcD, vcE, ↓reduceIte, Nat.reduceEqDiff, Nat.reduceAdd, Nat.reduceMul, Nat.reduceLeDiff, Int.reduceLE, Int.reduceLT, Int.reduceEq, Int.reduceToNat, Int.reduceAdd, Int.reduceSub, Int.reduceMul, Int.reduceNeg, reduceCtorEq, Option.bind_some, Option.map_some, List.length_cons, List.length_nil, vcM, List.getElem?_toArray, List.getElem?_cons_zero, List.getElem?_cons_succ, ho1, sumG_9, hlen, hw1, hw2])
    refine ⟨wr1_of ho1 (by rw [sumG_size]; omega), ?_⟩
    have ho2 : (w1.setCell ⟨g, 9, none⟩ (.int .u64 ((m ++ bs).length : Nat))).heap[g]? = some (.cells (sumG (curS m) wv (m ++ bs).length true) 87 (0, 0)) := by rw [heap_setCell_eq ho1, sumG_set9]
    have k2 : Keep (fun y => y = g) w1 (w1.setCell ⟨g, 9, none⟩ (.int .u64 ((m ++ bs).length : Nat))) := (Keep.refl _ w1).setCell _ fun _ => rfl
    have hwt2 := hwt1.keep k2 fun y hy e => h.ne hy e
    have hx2 := hx1.keep0 k2 hxb
    have hk2 : Keep (fun y => y = g) w _ := hk1.trans k2 fun _ _ h => h
    generalize World.setCell _ _ _ = w2 at ho2 k2 hwt2 hx2 hk2 ⊢
    (refine W_at c32_ok ?_; refine ⟨_, rfl, ?_⟩; simp (disch := first | omega | assumption | rfl | (simp only [vcS] <;> omega) | fail) only [↓ptV_l, ↓vcA, vcB, ↓vcD, vcE, ↓reduceIte, Nat.reduceEqDiff, Nat.reduceAdd, Nat.reduceMul, Nat.reduceLeDiff, Int.reduceLE, Int.reduceLT, Int.reduceEq, Int.reduceToNat, Int.reduceAdd, Int.reduceSub, Int.reduceMul, Int.reduceNeg, reduceCtorEq, Option.bind_some, Option.map_some, List.length_cons, List.length_nil, vcM, List.getElem?_toArray, List.getElem?_cons_zero, List.getElem?_cons_succ, ho2, sumG_8])
    refine hwt2.app hx2 (by omega) fun wv3 w3 hwt3 hk3 hb3 => ?_
    have nwg : ¬ blk wv g := fun hb => h.ne hb rfl
    have ho3 := hk3.at ho2 nwg
    refine ⟨hwt3.rd.one, wr1_of ho3 (by rw [sumG_size]; omega), ?_⟩
    have ho4 : (w3.setCell ⟨g, 8, none⟩ wv3).heap[g]? = some (.cells (sumG (curS m) wv3 (m ++ bs).length true) 87 (0, 0)) := by rw [heap_setCell_eq ho3, sumG_set8]
    have k4 : Keep (fun y => y = g) w3 (w3.setCell ⟨g, 8, none⟩ wv3) := (Keep.refl _ w3).setCell _ fun _ => rfl
    have ng3 : ∀ y, blk wv3 y → ¬ y = g := fun y hy e => by
      obtain ⟨c, hc⟩ := hwt3.blk hy
      rw [e, ho3] at hc; cases hc
    have hwt4 := hwt3.keep k4 ng3
    have hK4 : Keep (SumB g wv) w _ := ((hk2.mono fun _ h => .inl h).trans hk3 fun _ _ h => .inr h).trans k4 fun _ _ h => .inl h
    have hb4 : ∀ y, blk wv3 y → blk wv y ∨ w.heap.size ≤ y := fun y hy => (hb3 y hy).elim .inl fun h => .inr (Nat.le_trans hk2.size h)
    generalize World.setCell _ _ _ = w4 at ho4 k4 hwt4 hK4 ⊢
    (refine W_at c32_ok ?_; refine ⟨_, rfl, ?_⟩; simp (disch := first | omega | assumption | rfl | (simp only [vcS] <;> omega) | fail) only [↓ptV_l, ↓vcA, vcB, ↓vcD, vcE, ↓reduceIte, Nat.reduceEqDiff, Nat.reduceAdd, Nat.reduceMul, Nat.reduceLeDiff, Int.reduceLE, Int.reduceLT, Int.reduceEq, Int.reduceToNat, Int.reduceAdd, Int.reduceSub, Int.reduceMul, Int.reduceNeg, reduceCtorEq, Option.bind_some, Option.map_some, List.length_cons, List.length_nil, vcM, List.getElem?_toArray, List.getElem?_cons_zero, List.getElem?_cons_succ])
    refine callV_ret (k256_ok w4) ?_
    rintro _ w5 ⟨rfl, hE5⟩
    have s64 : (wcs kL).size = 64 := by rw [wcs_size, kL_len]
    have z64 : (zc [(64, Value.int .u32 0)]).size = 64 := by simp [zc, runs]
    have hfl := wcs_flat kL
    simp (disch := first | omega | assumption | rfl | (simp only [vcS] <;> omega) | fail) only [↓ptV_l, ↓vcA, vcB, ↓vcD, vcE, ↓reduceIte, Nat.reduceEqDiff, Nat.reduceAdd, Nat.reduceMul, Nat.reduceLeDiff, Int.reduceLE, Int.reduceLT, Int.reduceEq, Int.reduceToNat, Int.reduceAdd, Int.reduceSub, Int.reduceMul, Int.reduceNeg, reduceCtorEq, Option.bind_some, Option.map_some, List.length_cons, List.length_nil, vcM, List.getElem?_toArray, List.getElem?_cons_zero, List.getElem?_cons_succ, s64]
    first | refine ⟨hfl, by rw [z64], ?_⟩ | refine ⟨hfl, ?_⟩ | skip
    have hp4 : ((w5.alloc (.cells (zc [(64, .int .u32 0)]) 98)).putN w5.heap.size 0 (wcs kL)).heap[w5.heap.size]? = some (.cells (wcs kL) 98 (0, 0)) := by
      rw [heap_putN_eq (heap_new _ _ _ rfl), splice_all (by rw [s64, z64])]
    have hE6 : Ext w5 ((w5.alloc (.cells (zc [(64, .int .u32 0)]) 98)).putN w5.heap.size 0 (wcs kL)) := ((Keep.refl _ w5).alloc _).putN _ (by intro hh; exfalso; omega)
    have ho5 := hE5.at ho4 (fun h => h)
    have hgl5 := lt_of_heap ho5
    generalize World.putN _ _ _ _ = w6 at hp4 hE6 ⊢
    generalize w5.heap.size = p4 at hp4 hgl5 ⊢
    have ho6 := hE6.at ho5 (fun h => h)
    have hwt6 := (hwt4.ext hE5).ext hE6
    have hK6 : Keep (SumB g wv) w w6 := (hK4.trans hE5 fun _ _ h => h.elim).trans hE6 fun _ _ h => h.elim
    generalize htot : m ++ bs = tot at ho6
    have htb : byt tot := by rw [← htot]; exact byt_app hm hbs
    have hcur : curS m = runN (fullN m) iv tot := by rw [← htot]; unfold curS; exact (runN_pre _ _ _ _ (by unfold fullN; omega)).symm
    have hwl : waitL m ++ bs = tot.drop (64 * fullN m) := by rw [← htot]; unfold waitL; rw [List.drop_append_of_le_length (by unfold fullN; omega)]
    have hle : fullN m ≤ fullN tot := by rw [← htot]; unfold fullN; rw [List.length_append]; omega
    rw [hcur] at ho6
    rw [hwl] at hwt6
    have hpg : p4 ≠ g := by omega
    have htl : tot.length ≤ 500000000 := by rw [← htot, List.length_append]; exact hl
    have L : ∀ (k j : Nat) (wj : World) (wvj : Value), j + k = fullN tot → wj.heap[g]? = some (.cells (sumG (runN j iv tot) wvj tot.length true) 87 (0, 0)) → ByO wj wvj (tot.drop (64 * j)) → wj.heap[p4]? = some (.cells (wcs kL) 98 (0, 0)) → Keep (SumB g wv) w wj → (∀ y, blk wvj y → blk wv y ∨ w.heap.size ≤ y) →
        W Try.prog (Ret fun _ w' => ∃ wv', SumAt w' g wv' tot true ∧ Keep (SumB g wv) w w' ∧ ∀ y, blk wv' y → blk wv y ∨ w.heap.size ≤ y) 32 5 [(0, .pointer (some ⟨g, 0, none⟩)), (4, .pointer (some ⟨p4, 0, none⟩))] wj := by
      intro k
      induction k with
      | zero =>
        intro j wj wvj hj hoj hwj h4 hK hB
        obtain rfl : j = fullN tot := by omega
        have hlw := hwj.rd.len
        have hno : ¬ (((tot.drop (64 * fullN tot)).length : Nat) : Int) ≥ 64 := by rw [List.length_drop]; unfold fullN; omega
        (refine W_at c32_ok ?_; refine ⟨_, rfl, ?_⟩; simp (disch := first | omega | assumption | rfl | (simp only [vcS] <;> omega) | fail) only [↓ptV_l, ↓vcA, vcB, ↓vcD, vcE, ↓reduceIte, Nat.reduceEqDiff, Nat.reduceAdd, Nat.reduceMul, Nat.reduceLeDiff, Int.reduceLE, Int.reduceLT, Int.reduceEq, Int.reduceToNat, Int.reduceAdd, Int.reduceSub, Int.reduceMul, Int.reduceNeg, reduceCtorEq, Option.bind_some, Option.map_some, List.length_cons, List.length_nil, vcM, List.getElem?_toArray, List.getElem?_cons_zero, List.getElem?_cons_succ, hoj, sumG_8, hlw, hno])
        (refine W_at c32_ok ?_; refine ⟨_, rfl, ?_⟩; simp (disch := first | omega | assumption | rfl | (simp only [vcS] <;> omega) | fail) only [↓ptV_l, ↓vcA, vcB, ↓vcD, vcE, ↓reduceIte, Nat.reduceEqDiff, Nat.reduceAdd, Nat.reduceMul, Nat.reduceLeDiff, Int.reduceLE, Int.reduceLT, Int.reduceEq, Int.reduceToNat, Int.reduceAdd, Int.reduceSub, Int.reduceMul, Int.reduceNeg, reduceCtorEq, Option.bind_some, Option.map_some, List.length_cons, List.length_nil, vcM, List.getElem?_toArray, List.getElem?_cons_zero, List.getElem?_cons_succ])
        (refine W_at c32_ok ?_; refine ⟨_, rfl, ?_⟩; simp (disch := first | omega | assumption | rfl | (simp only [vcS] <;> omega) | fail) only [↓ptV_l, ↓vcA, vcB, ↓vcD, vcE, ↓reduceIte, Nat.reduceEqDiff, Nat.reduceAdd, Nat.reduceMul, Nat.reduceLeDiff, Int.reduceLE, Int.reduceLT, Int.reduceEq, Int.reduceToNat, Int.reduceAdd, Int.reduceSub, Int.reduceMul, Int.reduceNeg, reduceCtorEq, Option.bind_some, Option.map_some, List.length_cons, List.length_nil, vcM, List.getElem?_toArray, List.getElem?_cons_zero, List.getElem?_cons_succ, Ret_returned])
        exact ⟨wvj, ⟨hoj, hwj, fun h => by cases h⟩, hK, hB⟩
      | succ k ih =>
        intro j wj wvj hj hoj hwj h4 hK hB
        have hlw := hwj.rd.len
        have hdl : 64 ≤ (tot.drop (64 * j)).length := by rw [List.length_drop]; unfold fullN at hj; omega
        have hyes : (((tot.drop (64 * j)).length : Nat) : Int) ≥ 64 := by omega
        obtain ⟨q, cc, e, hcc, hdrop⟩ := hwj.drop (l := 64) hdl
        have hcut := hwj.rd
        rw [e] at hcut
        have hcut := hcut.cut (l := 0) (j := 64) (by omega) hdl
        rw [advA_0, Nat.sub_zero, Nat.sub_zero, List.drop_zero] at hcut
        have ngj : ∀ y, blk wvj y → ¬ y = g := fun y hy e => by
          obtain ⟨c, hc⟩ := hwj.blk hy
          rw [e, hoj] at hc; cases hc
        have hqb : ∀ y, blk (.slice (advA 1 q cc 64) ((tot.drop (64 * j)).length - 64) (cc - 64)) y → blk wvj y := fun y hy => by
          rw [e]
          unfold advA at hy
          cases q with
          | none => split at hy <;> cases hy
          | some a =>
            split at hy
            · exact hy
            · skip
              have h8 : some (a.add (64 * 1)).block = some y := hy
              have h9 : (a.add (64 * 1)).block = a.block := by unfold Addr.add; split <;> rfl
              rw [h9] at h8
              exact h8
        have b64 : (64 : Int) ≤ ((cc : Nat) : Int) := by omega
        have b65 : (64 : Int) ≤ (((tot.drop (64 * j)).length : Nat) : Int) := by omega
        subst e
        (refine W_at c32_ok ?_; refine ⟨_, rfl, ?_⟩; simp (disch := first | omega | assumption | rfl | (simp only [vcS] <;> omega) | fail) only [↓ptV_l, ↓vcA, vcB, ↓vcD, vcE, ↓reduceIte, Nat.reduceEqDiff, Nat.reduceAdd, Nat.reduceMul, Nat.reduceLeDiff, Int.reduceLE, Int.reduceLT, Int.reduceEq, Int.reduceToNat, Int.reduceAdd, Int.reduceSub, Int.reduceMul, Int.reduceNeg, reduceCtorEq, Option.bind_some, Option.map_some, List.length_cons, List.length_nil, vcM, List.getElem?_toArray, List.getElem?_cons_zero, List.getElem?_cons_succ, hoj, sumG_8, hlw, hyes])
        (refine W_at c32_ok ?_; refine ⟨_, rfl, ?_⟩; simp (disch := first | omega | assumption | rfl | (simp only [vcS] <;> omega) | fail) only [↓ptV_l, ↓vcA, vcB, ↓vcD, vcE, ↓reduceIte, Nat.reduceEqDiff, Nat.reduceAdd, Nat.reduceMul, Nat.reduceLeDiff, Int.reduceLE, Int.reduceLT, Int.reduceEq, Int.reduceToNat, Int.reduceAdd, Int.reduceSub, Int.reduceMul, Int.reduceNeg, reduceCtorEq, Option.bind_some, Option.map_some, List.length_cons, List.length_nil, vcM, List.getElem?_toArray, List.getElem?_cons_zero, List.getElem?_cons_succ])
        (refine W_at c32_ok ?_; refine ⟨_, rfl, ?_⟩; simp (disch := first | omega | assumption | rfl | (simp only [vcS] <;> omega) | fail) only [↓ptV_l, ↓vcA, vcB, ↓vcD, vcE, ↓reduceIte, Nat.reduceEqDiff, Nat.reduceAdd, Nat.reduceMul, Nat.reduceLeDiff, Int.reduceLE, Int.reduceLT, Int.reduceEq, Int.reduceToNat, Int.reduceAdd, Int.reduceSub, Int.reduceMul, Int.reduceNeg, reduceCtorEq, Option.bind_some, Option.map_some, List.length_cons, List.length_nil, vcM, List.getElem?_toArray, List.getElem?_cons_zero, List.getElem?_cons_succ, hoj, sumG_8, b64, advA_0, Nat.sub_zero])
        have hEd : Ext wj wj.drew := (Keep.refl _ wj).drew
        have hod := hEd.at hoj (fun h => h)
        have h4d := hEd.at h4 (fun h => h)
        refine callV_ret (step_ok wj.drew g p4 _ _ (runN j iv tot) [.slice q (tot.drop (64 * j)).length cc, .int .u64 (tot.length : Nat), .bool true] 87 98 hod h4d hpg (hcut.ext hEd) (by rw [List.length_take]; omega) (byt_take (byt_drop htb _) _)) ?_
        rintro _ wa ⟨hoa, hka⟩
        rw [← runN_step] at hoa
        have hoa : wa.heap[g]? = some (.cells (sumG (runN (j + 1) iv tot) (.slice q (tot.drop (64 * j)).length cc) tot.length true) 87 (0, 0)) := hoa
        have hka' : Keep (fun y => y = g) wj wa := (hEd.mono fun _ h => h.elim).trans hka fun _ _ h => h
        have h4a := hka'.at h4 hpg
        have hdra := hdrop.keep hka' fun y hy => ngj y (hqb y hy)
        first | (simp (disch := first | omega | assumption | rfl | (simp only [vcS] <;> omega) | fail) only [↓ptV_l, ↓vcA, vcB, ↓vcD, vcE, ↓reduceIte, Nat.reduceEqDiff, Nat.reduceAdd, Nat.reduceMul, Nat.reduceLeDiff, Int.reduceLE, Int.reduceLT, Int.reduceEq, Int.reduceToNat, Int.reduceAdd, Int.reduceSub, Int.reduceMul, Int.reduceNeg, reduceCtorEq, Option.bind_some, Option.map_some, List.length_cons, List.length_nil, vcM, List.getElem?_toArray, List.getElem?_cons_zero, List.getElem?_cons_succ]) | skip
        (refine W_at c32_ok ?_; refine ⟨_, rfl, ?_⟩; simp (disch := first | omega | assumption | rfl | (simp only [vcS] <;> omega) | fail) only [↓ptV_l, ↓vcA, vcB, ↓vcD, vcE, ↓reduceIte, Nat.reduceEqDiff, Nat.reduceAdd, Nat.reduceMul, Nat.reduceLeDiff, Int.reduceLE, Int.reduceLT, Int.reduceEq, Int.reduceToNat, Int.reduceAdd, Int.reduceSub, Int.reduceMul, Int.reduceNeg, reduceCtorEq, Option.bind_some, Option.map_some, List.length_cons, List.length_nil, vcM, List.getElem?_toArray, List.getElem?_cons_zero, List.getElem?_cons_succ, hoa, sumG_8, b65])
        refine ⟨wr1_of hoa (by rw [sumG_size]; omega), ?_⟩
        have hob : (wa.setCell ⟨g, 8, none⟩ (.slice (advA 1 q cc 64) ((tot.drop (64 * j)).length - 64) (cc - 64))).heap[g]? = some (.cells (sumG (runN (j + 1) iv tot) (.slice (advA 1 q cc 64) ((tot.drop (64 * j)).length - 64) (cc - 64)) tot.length true) 87 (0, 0)) := by rw [heap_setCell_eq hoa, sumG_set8]
        have kb : Keep (fun y => y = g) wa (wa.setCell ⟨g, 8, none⟩ (.slice (advA 1 q cc 64) ((tot.drop (64 * j)).length - 64) (cc - 64))) := (Keep.refl _ wa).setCell _ fun _ => rfl
        generalize World.setCell _ _ _ = wb at hob kb ⊢
        have hkb : Keep (fun y => y = g) wj wb := hka'.trans kb fun _ _ h => h
        have hdrb := hdra.keep kb fun y hy => ngj y (hqb y hy)
        rw [List.drop_drop] at hdrb
        (refine W_at c32_ok ?_; refine ⟨_, rfl, ?_⟩; simp (disch := first | omega | assumption | rfl | (simp only [vcS] <;> omega) | fail) only [↓ptV_l, ↓vcA, vcB, ↓vcD, vcE, ↓reduceIte, Nat.reduceEqDiff, Nat.reduceAdd, Nat.reduceMul, Nat.reduceLeDiff, Int.reduceLE, Int.reduceLT, Int.reduceEq, Int.reduceToNat, Int.reduceAdd, Int.reduceSub, Int.reduceMul, Int.reduceNeg, reduceCtorEq, Option.bind_some, Option.map_some, List.length_cons, List.length_nil, vcM, List.getElem?_toArray, List.getElem?_cons_zero, List.getElem?_cons_succ])
        refine ih (j + 1) wb _ (by omega) hob (by rw [show 64 * (j + 1) = 64 * j + 64 by omega]; exact hdrb) (hkb.at h4 hpg) (hK.trans hkb fun _ _ h => .inl h) fun y hy => hB y (hqb y hy)
    exact L (fullN tot - fullN m) (fullN m) w6 wv3 (by omega) ho6 hwt6 hp4 hK6 hb4
  cases b with
  | true =>
    (refine W_at c32_ok ?_; refine ⟨_, rfl, ?_⟩; simp (disch := first | omega | assumption | rfl | (simp only [vcS] <;> omega) | fail) only [↓ptV_l, ↓vcA, vcB, ↓vcD, vcE, ↓reduceIte, Nat.reduceEqDiff, Nat.reduceAdd, Nat.reduceMul, Nat.reduceLeDiff, Int.reduceLE, Int.reduceLT, Int.reduceEq, Int.reduceToNat, Int.reduceAdd, Int.reduceSub, Int.reduceMul, Int.reduceNeg, reduceCtorEq, Option.bind_some, Option.map_some, List.length_cons, List.length_nil, vcM, List.getElem?_toArray, List.getElem?_cons_zero, List.getElem?_cons_succ, ho, sumG_10])
    (refine W_at c32_ok ?_; refine ⟨_, rfl, ?_⟩; simp (disch := first | omega | assumption | rfl | (simp only [vcS] <;> omega) | fail) only [↓ptV_l, ↓vcA, vcB, ↓vcD, vcE, ↓reduceIte, Nat.reduceEqDiff, Nat.reduceAdd, Nat.reduceMul, Nat.reduceLeDiff, Int.reduceLE, Int.reduceLT, Int.reduceEq, Int.reduceToNat, Int.reduceAdd, Int.reduceSub, Int.reduceMul, Int.reduceNeg, reduceCtorEq, Option.bind_some, Option.map_some, List.length_cons, List.length_nil, vcM, List.getElem?_toArray, List.getElem?_cons_zero, List.getElem?_cons_succ])
    exact cont w _ ho (Keep.refl _ w)
  | false =>
    obtain rfl := h.zero rfl
    (refine W_at c32_ok ?_; refine ⟨_, rfl, ?_⟩; simp (disch := first | omega | assumption | rfl | (simp only [vcS] <;> omega) | fail) only [↓ptV_l, ↓vcA, vcB, ↓vcD, vcE, ↓reduceIte, Nat.reduceEqDiff, Nat.reduceAdd, Nat.reduceMul, Nat.reduceLeDiff, Int.reduceLE, Int.reduceLT, Int.reduceEq, Int.reduceToNat, Int.reduceAdd, Int.reduceSub, Int.reduceMul, Int.reduceNeg, reduceCtorEq, Option.bind_some, Option.map_some, List.length_cons, List.length_nil, vcM, List.getElem?_toArray, List.getElem?_cons_zero, List.getElem?_cons_succ, ho, sumG_10])
    (refine W_at c32_ok ?_; refine ⟨_, rfl, ?_⟩; simp (disch := first | omega | assumption | rfl | (simp only [vcS] <;> omega) | fail) only [↓ptV_l, ↓vcA, vcB, ↓vcD, vcE, ↓reduceIte, Nat.reduceEqDiff, Nat.reduceAdd, Nat.reduceMul, Nat.reduceLeDiff, Int.reduceLE, Int.reduceLT, Int.reduceEq, Int.reduceToNat, Int.reduceAdd, Int.reduceSub, Int.reduceMul, Int.reduceNeg, reduceCtorEq, Option.bind_some, Option.map_some, List.length_cons, List.length_nil, vcM, List.getElem?_toArray, List.getElem?_cons_zero, List.getElem?_cons_succ])
    (refine W_at c32_ok ?_; refine ⟨_, rfl, ?_⟩; simp (disch := first | omega | assumption | rfl | (simp only [vcS] <;> omega) | fail) only [↓ptV_l, ↓vcA, vcB, ↓vcD, vcE, ↓reduceIte, Nat.reduceEqDiff, Nat.reduceAdd, Nat.reduceMul, Nat.reduceLeDiff, Int.reduceLE, Int.reduceLT, Int.reduceEq, Int.reduceToNat, Int.reduceAdd, Int.reduceSub, Int.reduceMul, Int.reduceNeg, reduceCtorEq, Option.bind_some, Option.map_some, List.length_cons, List.length_nil, vcM, List.getElem?_toArray, List.getElem?_cons_zero, List.getElem?_cons_succ])
    refine callV_ret (begin_ok w) ?_
    rintro _ w1 ⟨rfl, hE1⟩
    have ho1 := hE1.at ho (fun h => h)
    have s8 : (wcs iv.list).size = 8 := wcs_size _
    have hf8 := wcs_flat iv.list
    have hok : okO (some (.cells (sumG (stF [] false) wv ([] : List Int).length false) 87 (0, 0))) 0 8 = True := by simp [okO, sumG_size]
    simp (disch := first | omega | assumption | rfl | (simp only [vcS] <;> omega) | fail) only [↓ptV_l, ↓vcA, vcB, ↓vcD, vcE, ↓reduceIte, Nat.reduceEqDiff, Nat.reduceAdd, Nat.reduceMul, Nat.reduceLeDiff, Int.reduceLE, Int.reduceLT, Int.reduceEq, Int.reduceToNat, Int.reduceAdd, Int.reduceSub, Int.reduceMul, Int.reduceNeg, reduceCtorEq, Option.bind_some, Option.map_some, List.length_cons, List.length_nil, vcM, List.getElem?_toArray, List.getElem?_cons_zero, List.getElem?_cons_succ, s8, ho1, hok]
    have ho2 : (w1.putN g 0 (wcs iv.list)).heap[g]? = some (.cells (sumG iv wv 0 false) 87 (0, 0)) := by rw [heap_putN_eq ho1, sumG_put]; rfl
    have k2 : Keep (fun y => y = g) w1 (w1.putN g 0 (wcs iv.list)) := (Keep.refl _ w1).putN _ fun _ => rfl
    refine ⟨hf8, by rw [sumG_size]; omega, wr1_of ho2 (by rw [sumG_size]; omega), ?_⟩
    generalize World.putN _ _ _ _ = w2 at ho2 k2 ⊢
    have ho3 : (w2.setCell ⟨g, 10, none⟩ (.bool true)).heap[g]? = some (.cells (sumG iv wv 0 true) 87 (0, 0)) := by rw [heap_setCell_eq ho2, sumG_set10]
    have k3 : Keep (fun y => y = g) w1 (w2.setCell ⟨g, 10, none⟩ (.bool true)) := k2.setCell _ fun _ => rfl
    exact cont _ [] ho3 ((hE1.mono fun _ h => h.elim).trans k3 fun _ _ h => h)
end Go.Proofs
namespace Go.Proofs
open Go.Vc
set_option maxRecDepth 10000

theorem bclone_ok (w : World) (x : Value) (bs : List Int) (h : Rd w x bs) (hn : x = .slice none 0 0 ∨ ∃ a n c, x = .slice (some a) n c) (hl : bs.length ≤ 500000000) :
    Calls Try.prog 52 #[x] w (Ret fun u w' => ByO w' u bs ∧ Ext w w' ∧ ∀ y, blk u y → w.heap.size ≤ y) := by
  refine calls_of_cfg c52_ok (Nat.le_of_ble_eq_true rfl) ?_
  simp only [argE_nil, argE_cons, Nat.reduceAdd, Nat.zero_add]
  (refine W_at c52_ok ?_; refine ⟨_, rfl, ?_⟩; simp (disch := first | omega | assumption | rfl | (simp only [vcS] <;> omega) | fail) only [↓ptV_l, ↓vcA, vcB, ↓vcD, vcE, ↓reduceIte, Nat.reduceEqDiff, Nat.reduceAdd, Nat.reduceMul, Nat.reduceLeDiff, Int.reduceLE, Int.reduceLT, Int.reduceEq, Int.reduceToNat, Int.reduceAdd, Int.reduceSub, Int.reduceMul, Int.reduceNeg, reduceCtorEq, Option.bind_some, Option.map_some, List.length_cons, List.length_nil, vcM, List.getElem?_toArray, List.getElem?_cons_zero, List.getElem?_cons_succ])
  rcases hn with rfl | ⟨a, n, c, rfl⟩
  · have e : bs = [] := by
      obtain ⟨⟨q, c, e, _⟩, _, _⟩ := h
      injection e with _ e _
      exact List.eq_nil_of_length_eq_zero e.symm
    subst e
    (refine W_at c52_ok ?_; refine ⟨_, rfl, ?_⟩; simp (disch := first | omega | assumption | rfl | (simp only [vcS] <;> omega) | fail) only [↓ptV_l, ↓vcA, vcB, ↓vcD, vcE, ↓reduceIte, Nat.reduceEqDiff, Nat.reduceAdd, Nat.reduceMul, Nat.reduceLeDiff, Int.reduceLE, Int.reduceLT, Int.reduceEq, Int.reduceToNat, Int.reduceAdd, Int.reduceSub, Int.reduceMul, Int.reduceNeg, reduceCtorEq, Option.bind_some, Option.map_some, List.length_cons, List.length_nil, vcM, List.getElem?_toArray, List.getElem?_cons_zero, List.getElem?_cons_succ, eqS_none])
    (refine W_at c52_ok ?_; refine ⟨_, rfl, ?_⟩; simp (disch := first | omega | assumption | rfl | (simp only [vcS] <;> omega) | fail) only [↓ptV_l, ↓vcA, vcB, ↓vcD, vcE, ↓reduceIte, Nat.reduceEqDiff, Nat.reduceAdd, Nat.reduceMul, Nat.reduceLeDiff, Int.reduceLE, Int.reduceLT, Int.reduceEq, Int.reduceToNat, Int.reduceAdd, Int.reduceSub, Int.reduceMul, Int.reduceNeg, reduceCtorEq, Option.bind_some, Option.map_some, List.length_cons, List.length_nil, vcM, List.getElem?_toArray, List.getElem?_cons_zero, List.getElem?_cons_succ])
    (refine W_at c52_ok ?_; refine ⟨_, rfl, ?_⟩; simp (disch := first | omega | assumption | rfl | (simp only [vcS] <;> omega) | fail) only [↓ptV_l, ↓vcA, vcB, ↓vcD, vcE, ↓reduceIte, Nat.reduceEqDiff, Nat.reduceAdd, Nat.reduceMul, Nat.reduceLeDiff, Int.reduceLE, Int.reduceLT, Int.reduceEq, Int.reduceToNat, Int.reduceAdd, Int.reduceSub, Int.reduceMul, Int.reduceNeg, reduceCtorEq, Option.bind_some, Option.map_some, List.length_cons, List.length_nil, vcM, List.getElem?_toArray, List.getElem?_cons_zero, List.getElem?_cons_succ])
    (refine W_at c52_ok ?_; refine ⟨_, rfl, ?_⟩; simp (disch := first | omega | assumption | rfl | (simp only [vcS] <;> omega) | fail) only [↓ptV_l, ↓vcA, vcB, ↓vcD, vcE, ↓reduceIte, Nat.reduceEqDiff, Nat.reduceAdd, Nat.reduceMul, Nat.reduceLeDiff, Int.reduceLE, Int.reduceLT, Int.reduceEq, Int.reduceToNat, Int.reduceAdd, Int.reduceSub, Int.reduceMul, Int.reduceNeg, reduceCtorEq, Option.bind_some, Option.map_some, List.length_cons, List.length_nil, vcM, List.getElem?_toArray, List.getElem?_cons_zero, List.getElem?_cons_succ, Ret_returned])
    exact ⟨ByO.nil w, Keep.refl _ w, fun y hy => by cases hy⟩
  · (refine W_at c52_ok ?_; refine ⟨_, rfl, ?_⟩; simp (disch := first | omega | assumption | rfl | (simp only [vcS] <;> omega) | fail) only [↓ptV_l, ↓vcA, vcB, ↓vcD, vcE, ↓reduceIte, Nat.reduceEqDiff, Nat.reduceAdd, Nat.reduceMul, Nat.reduceLeDiff, Int.reduceLE, Int.reduceLT, Int.reduceEq, Int.reduceToNat, Int.reduceAdd, Int.reduceSub, Int.reduceMul, Int.reduceNeg, reduceCtorEq, Option.bind_some, Option.map_some, List.length_cons, List.length_nil, vcM, List.getElem?_toArray, List.getElem?_cons_zero, List.getElem?_cons_succ, eqS_some])
    (refine W_at c52_ok ?_; refine ⟨_, rfl, ?_⟩; simp (disch := first | omega | assumption | rfl | (simp only [vcS] <;> omega) | fail) only [↓ptV_l, ↓vcA, vcB, ↓vcD, vcE, ↓reduceIte, Nat.reduceEqDiff, Nat.reduceAdd, Nat.reduceMul, Nat.reduceLeDiff, Int.reduceLE, Int.reduceLT, Int.reduceEq, Int.reduceToNat, Int.reduceAdd, Int.reduceSub, Int.reduceMul, Int.reduceNeg, reduceCtorEq, Option.bind_some, Option.map_some, List.length_cons, List.length_nil, vcM, List.getElem?_toArray, List.getElem?_cons_zero, List.getElem?_cons_succ])
    (refine W_at c52_ok ?_; refine ⟨_, rfl, ?_⟩; simp (disch := first | omega | assumption | rfl | (simp only [vcS] <;> omega) | fail) only [↓ptV_l, ↓vcA, vcB, ↓vcD, vcE, ↓reduceIte, Nat.reduceEqDiff, Nat.reduceAdd, Nat.reduceMul, Nat.reduceLeDiff, Int.reduceLE, Int.reduceLT, Int.reduceEq, Int.reduceToNat, Int.reduceAdd, Int.reduceSub, Int.reduceMul, Int.reduceNeg, reduceCtorEq, Option.bind_some, Option.map_some, List.length_cons, List.length_nil, vcM, List.getElem?_toArray, List.getElem?_cons_zero, List.getElem?_cons_succ])
    have hE : Ext w (w.alloc (.cells [].toArray 5)) := (Keep.refl _ w).alloc _
    have hO : ByO (w.alloc (.cells [].toArray 5)) (.slice (some ⟨w.heap.size, 0, none⟩) 0 0) [] :=
      ⟨fun _ h => (by cases h), .inr ⟨_, 0, 0, _, rfl, Nat.zero_le _, heap_new _ _ _ rfl, Nat.le_refl _, Nat.zero_le _, by simp, by simp [u8s]⟩⟩
    refine hO.app (h.ext hE) (by simp; omega) fun v' w' k1 k2 k3 => ?_
    rw [List.nil_append] at k1
    first | (simp (disch := first | omega | assumption | rfl | (simp only [vcS] <;> omega) | fail) only [↓ptV_l, ↓vcA, vcB, ↓vcD, vcE, ↓reduceIte, Nat.reduceEqDiff, Nat.reduceAdd, Nat.reduceMul, Nat.reduceLeDiff, Int.reduceLE, Int.reduceLT, Int.reduceEq, Int.reduceToNat, Int.reduceAdd, Int.reduceSub, Int.reduceMul, Int.reduceNeg, reduceCtorEq, Option.bind_some, Option.map_some, List.length_cons, List.length_nil, vcM, List.getElem?_toArray, List.getElem?_cons_zero, List.getElem?_cons_succ]) | skip
    (refine W_at c52_ok ?_; refine ⟨_, rfl, ?_⟩; simp (disch := first | omega | assumption | rfl | (simp only [vcS] <;> omega) | fail) only [↓ptV_l, ↓vcA, vcB, ↓vcD, vcE, ↓reduceIte, Nat.reduceEqDiff, Nat.reduceAdd, Nat.reduceMul, Nat.reduceLeDiff, Int.reduceLE, Int.reduceLT, Int.reduceEq, Int.reduceToNat, Int.reduceAdd, Int.reduceSub, Int.reduceMul, Int.reduceNeg, reduceCtorEq, Option.bind_some, Option.map_some, List.length_cons, List.length_nil, vcM, List.getElem?_toArray, List.getElem?_cons_zero, List.getElem?_cons_succ, Ret_returned])
    refine ⟨k1, hE.trans k2 fun i hi e => ?_, fun y hy => ?_⟩
    · have e' : w.heap.size = i := Option.some.inj e
      omega
    · rcases k3 y hy with e | e
      · have e' : w.heap.size = y := Option.some.inj e
        omega
      · rw [size_alloc] at e; omega
theorem tail_shift (n i : Nat) (hn : n ≤ 1000000000) (hi : i < 8) : cviR .u8 (U64 ((BitVec.ofNat 64 n <<< 3) >>> (8 * i))) = some (.int .u8 ((8 * n / 256 ^ i % 256 : Nat) : Int)) := by
  have e : ((BitVec.ofNat 64 n <<< 3) >>> (8 * i)).toNat = 8 * n / 256 ^ i := by
    rw [BitVec.toNat_ushiftRight, BitVec.toNat_shiftLeft, BitVec.toNat_ofNat, Nat.mod_eq_of_lt (by omega), Nat.shiftLeft_eq, Nat.mod_eq_of_lt (by omega), Nat.shiftRight_eq_div_pow, Nat.pow_mul, Nat.mul_comm n]
  unfold U64
  rw [cvi_i, e, wrap_u8]
  congr 2
theorem be8_get (n i : Nat) (h : i < 8) : (be8 n)[i]? = some ((n / 256 ^ (7 - i) % 256 : Nat) : Int) := by
  unfold be8
  rw [List.getElem?_map, List.getElem?_range h]
  rfl
/-- The tail with its lowest bytes so far. -/
def tailT (n i : Nat) : List Int := 128 :: (List.replicate (63 - (n + 8) % 64 + (8 - i)) 0 ++ (be8 (8 * n)).drop (8 - i))
theorem tailT_8 (n : Nat) : tailT n 8 = padF n := rfl
theorem tailT_len (n i : Nat) (h : i ≤ 8) : (tailT n i).length = 72 - (n + 8) % 64 := by
  simp only [tailT, List.length_cons, List.length_append, List.length_replicate, List.length_drop, be8_len]; omega
theorem tailT_set (n i : Nat) (h : i < 8) : (tailT n i).set (71 - (n + 8) % 64 - i) ((8 * n / 256 ^ i % 256 : Nat) : Int) = tailT n (i + 1) := by
  unfold tailT
  have e1 : 71 - (n + 8) % 64 - i = (63 - (n + 8) % 64 + (7 - i)) + 1 := by omega
  have e2 : 63 - (n + 8) % 64 + (8 - i) = (63 - (n + 8) % 64 + (7 - i)) + 1 := by omega
  have e3 : 8 - (i + 1) = 7 - i := by omega
  have hd : (be8 (8 * n)).drop (7 - i) = ((8 * n / 256 ^ i % 256 : Nat) : Int) :: (be8 (8 * n)).drop (8 - i) := by
    have hg := be8_get (8 * n) (7 - i) (by omega)
    have hlt : 7 - i < (be8 (8 * n)).length := by rw [be8_len]; omega
    rw [List.drop_eq_getElem_cons hlt]
    rw [List.getElem?_eq_getElem hlt] at hg
    rw [Option.some.inj hg]
    have e4 : 7 - (7 - i) = i := by omega
    have e5 : 7 - i + 1 = 8 - i := by omega
    rw [e4, e5]
  rw [e1, e2, e3, hd, List.set_cons_succ, List.replicate_succ', List.append_assoc, List.set_append_right _ _ (by rw [List.length_replicate]; exact Nat.le_refl _), List.length_replicate, Nat.sub_self]
  rfl
set_option maxHeartbeats 1600000 in
theorem tail_ok (w : World) (n : Nat) (hn : n ≤ 1000000000) :
    Calls Try.prog 53 #[.int .u64 (n : Nat), .int .i64 64, .int .i64 8] w (Ret fun u w' => New w w' u (padF n)) := by
  refine calls_of_cfg c53_ok (Nat.le_of_ble_eq_true rfl) ?_
  simp only [argE_nil, argE_cons, Nat.reduceAdd, Nat.zero_add]
  have u1 : IntKind.u64.wrap 64 = 64 := by decide
  have hr : Int.tmod ((n : Nat) : Int) 64 = ((n % 64 : Nat) : Int) := by rw [Int.tmod_eq_emod_of_nonneg (by omega)]; omega
  have w1 : IntKind.i64.wrap ((n % 64 : Nat) : Int) = ((n % 64 : Nat) : Int) := wrap_i64 (by omega) (by omega)
  have w2 : IntKind.i64.wrap (((n % 64 : Nat) : Int) + 8) = ((n % 64 + 8 : Nat) : Int) := by rw [wrap_i64 (by omega) (by omega)]; omega
  have hr2 : Int.tmod ((n % 64 + 8 : Nat) : Int) 64 = (((n + 8) % 64 : Nat) : Int) := by rw [Int.tmod_eq_emod_of_nonneg (by omega)]; omega
  have w3 : IntKind.i64.wrap (63 - (((n + 8) % 64 : Nat) : Int)) = ((63 - (n + 8) % 64 : Nat) : Int) := by rw [wrap_i64 (by omega) (by omega)]; omega
  have w4 : IntKind.i64.wrap (1 + ((63 - (n + 8) % 64 : Nat) : Int)) = ((64 - (n + 8) % 64 : Nat) : Int) := by rw [wrap_i64 (by omega) (by omega)]; omega
  have w5 : IntKind.i64.wrap (((64 - (n + 8) % 64 : Nat) : Int) + 8) = ((72 - (n + 8) % 64 : Nat) : Int) := by rw [wrap_i64 (by omega) (by omega)]; omega
  (refine W_at c53_ok ?_; refine ⟨_, rfl, ?_⟩; simp (disch := first | omega | assumption | rfl | (simp only [vcS] <;> omega) | fail) only [↓ptV_l, ↓vcA, vcB, ↓vcD, vcE, ↓reduceIte, Nat.reduceEqDiff, Nat.reduceAdd, Nat.reduceMul, Nat.reduceLeDiff, Int.reduceLE, Int.reduceLT, Int.reduceEq, Int.reduceToNat, Int.reduceAdd, Int.reduceSub, Int.reduceMul, Int.reduceNeg, reduceCtorEq, Option.bind_some, Option.map_some, List.length_cons, List.length_nil, vcM, List.getElem?_toArray, List.getElem?_cons_zero, List.getElem?_cons_succ])
  have u2 : IntKind.i64.wrap 63 = 63 := by decide
  (refine W_at c53_ok ?_; refine ⟨_, rfl, ?_⟩; simp (disch := first | omega | assumption | rfl | (simp only [vcS] <;> omega) | fail) only [↓ptV_l, ↓vcA, vcB, ↓vcD, vcE, ↓reduceIte, Nat.reduceEqDiff, Nat.reduceAdd, Nat.reduceMul, Nat.reduceLeDiff, Int.reduceLE, Int.reduceLT, Int.reduceEq, Int.reduceToNat, Int.reduceAdd, Int.reduceSub, Int.reduceMul, Int.reduceNeg, reduceCtorEq, Option.bind_some, Option.map_some, List.length_cons, List.length_nil, vcM, List.getElem?_toArray, List.getElem?_cons_zero, List.getElem?_cons_succ, u1, u2, hr, w1, w2, hr2, w3])
  (refine W_at c53_ok ?_; refine ⟨_, rfl, ?_⟩; simp (disch := first | omega | assumption | rfl | (simp only [vcS] <;> omega) | fail) only [↓ptV_l, ↓vcA, vcB, ↓vcD, vcE, ↓reduceIte, Nat.reduceEqDiff, Nat.reduceAdd, Nat.reduceMul, Nat.reduceLeDiff, Int.reduceLE, Int.reduceLT, Int.reduceEq, Int.reduceToNat, Int.reduceAdd, Int.reduceSub, Int.reduceMul, Int.reduceNeg, reduceCtorEq, Option.bind_some, Option.map_some, List.length_cons, List.length_nil, vcM, List.getElem?_toArray, List.getElem?_cons_zero, List.getElem?_cons_succ, w4, w5])
  refine mkB (m := 72 - (n + 8) % 64) (by omega) fun wa hO hE => ?_
  generalize hgv : w.heap.size = gv at hO ⊢
  obtain ⟨L, hL⟩ : ∃ L, L = 72 - (n + 8) % 64 := ⟨_, rfl⟩
  rw [← hL] at hO ⊢
  have hrl : (List.replicate L (0 : Int)).length = L := List.length_replicate
  obtain ⟨hw0, hO0⟩ := hO.set1 (i := 0) (by omega) 128
  have h0L : (0 : Int) < (L : Nat) := by omega
  (refine W_at c53_ok ?_; refine ⟨_, rfl, ?_⟩; simp (disch := first | omega | assumption | rfl | (simp only [vcS] <;> omega) | fail) only [↓ptV_l, ↓vcA, vcB, ↓vcD, vcE, ↓reduceIte, Nat.reduceEqDiff, Nat.reduceAdd, Nat.reduceMul, Nat.reduceLeDiff, Int.reduceLE, Int.reduceLT, Int.reduceEq, Int.reduceToNat, Int.reduceAdd, Int.reduceSub, Int.reduceMul, Int.reduceNeg, reduceCtorEq, Option.bind_some, Option.map_some, List.length_cons, List.length_nil, vcM, List.getElem?_toArray, List.getElem?_cons_zero, List.getElem?_cons_succ, h0L, Nat.zero_add])
  refine ⟨hw0, ?_⟩
  have hset : (List.replicate L (0 : Int)).set 0 128 = tailT n 0 := by
    have e : L = (63 - (n + 8) % 64 + 8) + 1 := by omega
    rw [e, List.replicate_succ, List.set_cons_zero]
    unfold tailT
    rw [List.drop_of_length_le (by rw [be8_len]; exact Nat.le_refl _), List.append_nil]
  rw [hset] at hO0
  have hE0 : Ext w (wa.setCell ⟨gv, 0, none⟩ (.int .u8 128)) := hE.trans ((Keep.refl _ wa).setCell (S := fun x => x = gv) _ fun _ => rfl) fun x hx e => by omega
  generalize World.setCell _ _ _ = wb at hO0 hE0 ⊢
  have hLoop : ∀ (k i : Nat) (wj : World), i + k = 8 → Own1 wj (.slice (some ⟨gv, 0, none⟩) L L) (tailT n i) → Ext w wj →
      W Try.prog (Ret fun u w' => New w w' u (padF n)) 53 11 [(0, .int .u64 (n : Nat)), (2, .int .i64 8), (8, .slice (some ⟨gv, 0, none⟩) L L), (29, .int .i64 (i : Nat))] wj := by
    intro k
    induction k with
    | zero =>
      intro i wj hi hOj hEj
      obtain rfl : i = 8 := by omega
      rw [tailT_8] at hOj
      (refine W_at c53_ok ?_; refine ⟨_, rfl, ?_⟩; simp (disch := first | omega | assumption | rfl | (simp only [vcS] <;> omega) | fail) only [↓ptV_l, ↓vcA, vcB, ↓vcD, vcE, ↓reduceIte, Nat.reduceEqDiff, Nat.reduceAdd, Nat.reduceMul, Nat.reduceLeDiff, Int.reduceLE, Int.reduceLT, Int.reduceEq, Int.reduceToNat, Int.reduceAdd, Int.reduceSub, Int.reduceMul, Int.reduceNeg, reduceCtorEq, Option.bind_some, Option.map_some, List.length_cons, List.length_nil, vcM, List.getElem?_toArray, List.getElem?_cons_zero, List.getElem?_cons_succ])
      (refine W_at c53_ok ?_; refine ⟨_, rfl, ?_⟩; simp (disch := first | omega | assumption | rfl | (simp only [vcS] <;> omega) | fail) only [↓ptV_l, ↓vcA, vcB, ↓vcD, vcE, ↓reduceIte, Nat.reduceEqDiff, Nat.reduceAdd, Nat.reduceMul, Nat.reduceLeDiff, Int.reduceLE, Int.reduceLT, Int.reduceEq, Int.reduceToNat, Int.reduceAdd, Int.reduceSub, Int.reduceMul, Int.reduceNeg, reduceCtorEq, Option.bind_some, Option.map_some, List.length_cons, List.length_nil, vcM, List.getElem?_toArray, List.getElem?_cons_zero, List.getElem?_cons_succ])
      (refine W_at c53_ok ?_; refine ⟨_, rfl, ?_⟩; simp (disch := first | omega | assumption | rfl | (simp only [vcS] <;> omega) | fail) only [↓ptV_l, ↓vcA, vcB, ↓vcD, vcE, ↓reduceIte, Nat.reduceEqDiff, Nat.reduceAdd, Nat.reduceMul, Nat.reduceLeDiff, Int.reduceLE, Int.reduceLT, Int.reduceEq, Int.reduceToNat, Int.reduceAdd, Int.reduceSub, Int.reduceMul, Int.reduceNeg, reduceCtorEq, Option.bind_some, Option.map_some, List.length_cons, List.length_nil, vcM, List.getElem?_toArray, List.getElem?_cons_zero, List.getElem?_cons_succ])
      (refine W_at c53_ok ?_; refine ⟨_, rfl, ?_⟩; simp (disch := first | omega | assumption | rfl | (simp only [vcS] <;> omega) | fail) only [↓ptV_l, ↓vcA, vcB, ↓vcD, vcE, ↓reduceIte, Nat.reduceEqDiff, Nat.reduceAdd, Nat.reduceMul, Nat.reduceLeDiff, Int.reduceLE, Int.reduceLT, Int.reduceEq, Int.reduceToNat, Int.reduceAdd, Int.reduceSub, Int.reduceMul, Int.reduceNeg, reduceCtorEq, Option.bind_some, Option.map_some, List.length_cons, List.length_nil, vcM, List.getElem?_toArray, List.getElem?_cons_zero, List.getElem?_cons_succ])
      (refine W_at c53_ok ?_; refine ⟨_, rfl, ?_⟩; simp (disch := first | omega | assumption | rfl | (simp only [vcS] <;> omega) | fail) only [↓ptV_l, ↓vcA, vcB, ↓vcD, vcE, ↓reduceIte, Nat.reduceEqDiff, Nat.reduceAdd, Nat.reduceMul, Nat.reduceLeDiff, Int.reduceLE, Int.reduceLT, Int.reduceEq, Int.reduceToNat, Int.reduceAdd, Int.reduceSub, Int.reduceMul, Int.reduceNeg, reduceCtorEq, Option.bind_some, Option.map_some, List.length_cons, List.length_nil, vcM, List.getElem?_toArray, List.getElem?_cons_zero, List.getElem?_cons_succ])
      (refine W_at c53_ok ?_; refine ⟨_, rfl, ?_⟩; simp (disch := first | omega | assumption | rfl | (simp only [vcS] <;> omega) | fail) only [↓ptV_l, ↓vcA, vcB, ↓vcD, vcE, ↓reduceIte, Nat.reduceEqDiff, Nat.reduceAdd, Nat.reduceMul, Nat.reduceLeDiff, Int.reduceLE, Int.reduceLT, Int.reduceEq, Int.reduceToNat, Int.reduceAdd, Int.reduceSub, Int.reduceMul, Int.reduceNeg, reduceCtorEq, Option.bind_some, Option.map_some, List.length_cons, List.length_nil, vcM, List.getElem?_toArray, List.getElem?_cons_zero, List.getElem?_cons_succ, Ret_returned])
      exact ⟨hOj, hEj, fun y hy => by have e : gv = y := Option.some.inj hy; omega⟩
    | succ k ih =>
      intro i wj hi hOj hEj
      have hlt : ((i : Nat) : Int) < 8 := by omega
      have hwi : IntKind.i64.wrap (((i : Nat) : Int) + 1) = ((i + 1 : Nat) : Int) := wrap_i64 (by omega) (by omega)
      have htl := tailT_len n i (by omega)
      have hs : binR .shl (.int .u64 ((n : Nat) : Int)) (.int .u64 3) = some (U64 (BitVec.ofNat 64 n <<< 3)) := by rw [U64_of n (by omega)]; exact U64_shl _ .u64 3 (by decide)
      have hw8 : IntKind.i64.wrap (8 * ((i : Nat) : Int)) = ((8 * i : Nat) : Int) := by rw [wrap_i64 (by omega) (by omega)]; omega
      have hsr := U64_shr (BitVec.ofNat 64 n <<< 3) .i64 (8 * i) (by omega)
      have hcv := tail_shift n i hn (by omega)
      have hl1 : IntKind.i64.wrap (((L : Nat) : Int) - 1) = ((L - 1 : Nat) : Int) := by rw [wrap_i64 (by omega) (by omega)]; omega
      have hl2 : IntKind.i64.wrap (((L - 1 : Nat) : Int) - (i : Nat)) = ((71 - (n + 8) % 64 - i : Nat) : Int) := by rw [wrap_i64 (by omega) (by omega)]; omega
      have hidx : 0 ≤ ((71 - (n + 8) % 64 - i : Nat) : Int) ∧ ((71 - (n + 8) % 64 - i : Nat) : Int) < (L : Nat) := by omega
      obtain ⟨hw, hOk⟩ := hOj.set1 (i := 71 - (n + 8) % 64 - i) (by omega) ((8 * n / 256 ^ i % 256 : Nat) : Int)
      rw [tailT_set n i (by omega)] at hOk
      (refine W_at c53_ok ?_; refine ⟨_, rfl, ?_⟩; simp (disch := first | omega | assumption | rfl | (simp only [vcS] <;> omega) | fail) only [↓ptV_l, ↓vcA, vcB, ↓vcD, vcE, ↓reduceIte, Nat.reduceEqDiff, Nat.reduceAdd, Nat.reduceMul, Nat.reduceLeDiff, Int.reduceLE, Int.reduceLT, Int.reduceEq, Int.reduceToNat, Int.reduceAdd, Int.reduceSub, Int.reduceMul, Int.reduceNeg, reduceCtorEq, Option.bind_some, Option.map_some, List.length_cons, List.length_nil, vcM, List.getElem?_toArray, List.getElem?_cons_zero, List.getElem?_cons_succ, hlt])
      (refine W_at c53_ok ?_; refine ⟨_, rfl, ?_⟩; simp (disch := first | omega | assumption | rfl | (simp only [vcS] <;> omega) | fail) only [↓ptV_l, ↓vcA, vcB, ↓vcD, vcE, ↓reduceIte, Nat.reduceEqDiff, Nat.reduceAdd, Nat.reduceMul, Nat.reduceLeDiff, Int.reduceLE, Int.reduceLT, Int.reduceEq, Int.reduceToNat, Int.reduceAdd, Int.reduceSub, Int.reduceMul, Int.reduceNeg, reduceCtorEq, Option.bind_some, Option.map_some, List.length_cons, List.length_nil, vcM, List.getElem?_toArray, List.getElem?_cons_zero, List.getElem?_cons_succ])
      (refine W_at c53_ok ?_; refine ⟨_, rfl, ?_⟩; simp (disch := first | omega | assumption | rfl | (simp only [vcS] <;> omega) | fail) only [↓ptV_l, ↓vcA, vcB, ↓vcD, vcE, ↓reduceIte, Nat.reduceEqDiff, Nat.reduceAdd, Nat.reduceMul, Nat.reduceLeDiff, Int.reduceLE, Int.reduceLT, Int.reduceEq, Int.reduceToNat, Int.reduceAdd, Int.reduceSub, Int.reduceMul, Int.reduceNeg, reduceCtorEq, Option.bind_some, Option.map_some, List.length_cons, List.length_nil, vcM, List.getElem?_toArray, List.getElem?_cons_zero, List.getElem?_cons_succ])
      (refine W_at c53_ok ?_; refine ⟨_, rfl, ?_⟩; simp (disch := first | omega | assumption | rfl | (simp only [vcS] <;> omega) | fail) only [↓ptV_l, ↓vcA, vcB, ↓vcD, vcE, ↓reduceIte, Nat.reduceEqDiff, Nat.reduceAdd, Nat.reduceMul, Nat.reduceLeDiff, Int.reduceLE, Int.reduceLT, Int.reduceEq, Int.reduceToNat, Int.reduceAdd, Int.reduceSub, Int.reduceMul, Int.reduceNeg, reduceCtorEq, Option.bind_some, Option.map_some, List.length_cons, List.length_nil, vcM, List.getElem?_toArray, List.getElem?_cons_zero, List.getElem?_cons_succ, hs, hw8, hsr, hcv, hl1, hl2, hidx, Int.toNat_natCast, Nat.mul_one, Nat.zero_add])
      refine ⟨hw, ?_⟩
      have hEk : Ext w (wj.setCell ⟨gv, 71 - (n + 8) % 64 - i, none⟩ (.int .u8 ((8 * n / 256 ^ i % 256 : Nat) : Int))) := hEj.trans ((Keep.refl _ wj).setCell (S := fun x => x = gv) _ fun _ => rfl) fun x hx e => by omega
      generalize World.setCell _ _ _ = wk at hOk hEk ⊢
      (refine W_at c53_ok ?_; refine ⟨_, rfl, ?_⟩; simp (disch := first | omega | assumption | rfl | (simp only [vcS] <;> omega) | fail) only [↓ptV_l, ↓vcA, vcB, ↓vcD, vcE, ↓reduceIte, Nat.reduceEqDiff, Nat.reduceAdd, Nat.reduceMul, Nat.reduceLeDiff, Int.reduceLE, Int.reduceLT, Int.reduceEq, Int.reduceToNat, Int.reduceAdd, Int.reduceSub, Int.reduceMul, Int.reduceNeg, reduceCtorEq, Option.bind_some, Option.map_some, List.length_cons, List.length_nil, vcM, List.getElem?_toArray, List.getElem?_cons_zero, List.getElem?_cons_succ, hwi])
      (refine W_at c53_ok ?_; refine ⟨_, rfl, ?_⟩; simp (disch := first | omega | assumption | rfl | (simp only [vcS] <;> omega) | fail) only [↓ptV_l, ↓vcA, vcB, ↓vcD, vcE, ↓reduceIte, Nat.reduceEqDiff, Nat.reduceAdd, Nat.reduceMul, Nat.reduceLeDiff, Int.reduceLE, Int.reduceLT, Int.reduceEq, Int.reduceToNat, Int.reduceAdd, Int.reduceSub, Int.reduceMul, Int.reduceNeg, reduceCtorEq, Option.bind_some, Option.map_some, List.length_cons, List.length_nil, vcM, List.getElem?_toArray, List.getElem?_cons_zero, List.getElem?_cons_succ])
      exact ih (i + 1) wk (by omega) hOk hEk
  (refine W_at c53_ok ?_; refine ⟨_, rfl, ?_⟩; simp (disch := first | omega | assumption | rfl | (simp only [vcS] <;> omega) | fail) only [↓ptV_l, ↓vcA, vcB, ↓vcD, vcE, ↓reduceIte, Nat.reduceEqDiff, Nat.reduceAdd, Nat.reduceMul, Nat.reduceLeDiff, Int.reduceLE, Int.reduceLT, Int.reduceEq, Int.reduceToNat, Int.reduceAdd, Int.reduceSub, Int.reduceMul, Int.reduceNeg, reduceCtorEq, Option.bind_some, Option.map_some, List.length_cons, List.length_nil, vcM, List.getElem?_toArray, List.getElem?_cons_zero, List.getElem?_cons_succ])
  exact hLoop 8 0 wb (by omega) hO0 hE0
end Go.Proofs
namespace Go.Proofs
open Go.Vc
set_option maxRecDepth 10000

def outT (s : S8) (i : Nat) : List Int := (outF s).take (4 * i) ++ List.replicate (32 - 4 * i) 0
theorem outT_len (s : S8) (i : Nat) (h : i ≤ 8) : (outT s i).length = 32 := by
  unfold outT; rw [List.length_append, List.length_take, outF_len, List.length_replicate]; omega
theorem outT_8 (s : S8) : outT s 8 = outF s := by
  unfold outT; rw [List.take_of_length_le (by rw [outF_len]; omega)]; simp
theorem outT_set (s : S8) (i : Nat) (h : i < 8) : ((((outT s i).set (4 * i) (((((s.list.getD i 0) >>> 24).toNat % 256 : Nat)) : Int)).set (4 * i + 1) (((((s.list.getD i 0) >>> 16).toNat % 256 : Nat)) : Int)).set (4 * i + 2) (((((s.list.getD i 0) >>> 8).toNat % 256 : Nat)) : Int)).set (4 * i + 3) ((((s.list.getD i 0).toNat % 256 : Nat)) : Int) = outT s (i + 1) := by
  match i, h with
  | 0, _ => rfl
  | 1, _ => rfl
  | 2, _ => rfl
  | 3, _ => rfl
  | 4, _ => rfl
  | 5, _ => rfl
  | 6, _ => rfl
  | 7, _ => rfl
theorem bva_set (bs : List Int) (i : Nat) (x : Int) : (bv bs).toArray.setIfInBounds i (.int .u8 x) = (bv (bs.set i x)).toArray := by
  rw [List.setIfInBounds_toArray]
  simp [bv, List.map_set]
theorem bva_size (bs : List Int) : (bv bs).toArray.size = bs.length := by simp [bv]
theorem cvi8 (y : BitVec 32) : cviR .u8 (U32 y) = some (.int .u8 ((y.toNat % 256 : Nat) : Int)) := by
  unfold U32
  rw [cvi_i, wrap_u8]
  congr 2
theorem U32_shr24 (x : BitVec 32) : binR .shr (U32 x) (.int .u64 24) = some (U32 (x >>> 24)) := U32_shr x .u64 24 (by decide)
theorem U32_shr16 (x : BitVec 32) : binR .shr (U32 x) (.int .u64 16) = some (U32 (x >>> 16)) := U32_shr x .u64 16 (by decide)
theorem U32_shr8 (x : BitVec 32) : binR .shr (U32 x) (.int .u64 8) = some (U32 (x >>> 8)) := U32_shr x .u64 8 (by decide)
theorem z32 : zc [(32, Value.int .u8 0)] = (bv (List.replicate 32 0)).toArray := rfl
theorem poke {w : World} {g i : Nat} {bs : List Int} {T : TypeId} (x : Int) (h : w.heap[g]? = some (.cells (bv bs).toArray T (0, 0))) (hi : i < bs.length) :
    wr1 w g i ∧ (w.setCell ⟨g, i, none⟩ (.int .u8 x)).heap[g]? = some (.cells (bv (bs.set i x)).toArray T (0, 0)) ∧ Keep (fun y => y = g) w (w.setCell ⟨g, i, none⟩ (.int .u8 x)) :=
  ⟨wr1_of h (by rw [bva_size]; exact hi), by rw [heap_setCell_eq h, bva_set], (Keep.refl _ w).setCell _ fun _ => rfl⟩
theorem sumG_bld (st : S8) (v : Value) (n : Nat) (b : Bool) : (wcs st.list ++ (#[v] ++ #[Value.int .u64 (n : Nat), Value.bool b])) = sumG st v n b := by
  apply Array.ext'
  simp [wcs, sumG]
theorem sumG_flat (st : S8) (v : Value) (n : Nat) (b : Bool) (h : v.oneCell' = true) : flat (sumG st v n b) := by
  intro y hy
  simp only [sumG, List.mem_toArray, List.mem_append, List.mem_map, List.mem_cons, List.not_mem_nil, or_false] at hy
  rcases hy with ⟨x, _, rfl⟩ | rfl | rfl | rfl
  · rfl
  · exact h
  · rfl
  · rfl
set_option maxHeartbeats 3200000 in
theorem hash_ok (w : World) (g : Nat) (wv : Value) (m : List Int) (b : Bool) (h : SumAt w g wv m b) (hm : byt m) (hl : m.length ≤ 400000000) :
    Calls Try.prog 44 #[.pointer (some ⟨g, 0, none⟩)] w (Ret fun u w' => u = .agg (bv (shaF m)).toArray ∧ Ext w w') := by
  refine calls_of_cfg c44_ok (Nat.le_of_ble_eq_true rfl) ?_
  simp only [argE_nil, argE_cons, Nat.reduceAdd, Nat.zero_add]
  (refine W_at c44_ok ?_; refine ⟨_, rfl, ?_⟩; simp (disch := first | omega | assumption | rfl | (simp only [vcS] <;> omega) | fail) only [↓ptV_l, ↓vcA, vcB, ↓vcD, vcE, ↓reduceIte, Nat.reduceEqDiff, Nat.reduceAdd, Nat.reduceMul, Nat.reduceLeDiff, Int.reduceLE, Int.reduceLT, Int.reduceEq, Int.reduceToNat, Int.reduceAdd, Int.reduceSub, Int.reduceMul, Int.reduceNeg, reduceCtorEq, Option.bind_some, Option.map_some, List.length_cons, List.length_nil, vcM, List.getElem?_toArray, List.getElem?_cons_zero, List.getElem?_cons_succ])
  have hE0 : Ext w (w.alloc (.cells (zc [(32, .int .u8 0)]) 24)) := (Keep.refl _ w).alloc _
  have hp2 : (w.alloc (.cells (zc [(32, .int .u8 0)]) 24)).heap[w.heap.size]? = some (.cells (bv (List.replicate 32 0)).toArray 24 (0, 0)) := heap_new _ _ _ rfl
  have hp2l : w.heap.size ≤ w.heap.size := Nat.le_refl _
  generalize World.alloc _ _ = w1 at hE0 hp2 ⊢
  generalize hp2e : w.heap.size = p2 at hp2 hp2l ⊢
  have ho1 := hE0.at h.obj (fun h => h)
  rw [sumC_G] at ho1
  have hr8 : rdO (some (.cells (sumG (stF m b) wv m.length b) 87 (0, 0))) 0 8 = some (wcs (stF m b).list) := rd8 _ _ _
  have hwv1 : wv.cells = #[wv] := by obtain ⟨q, c, e, _⟩ := h.wait.rd.is; rw [e]; rfl
  have s8 : (wcs (stF m b).list).size = 8 := wcs_size _
  (refine W_at c44_ok ?_; refine ⟨_, rfl, ?_⟩; simp (disch := first | omega | assumption | rfl | (simp only [vcS] <;> omega) | fail) only [↓ptV_l, ↓vcA, vcB, ↓vcD, vcE, ↓reduceIte, Nat.reduceEqDiff, Nat.reduceAdd, Nat.reduceMul, Nat.reduceLeDiff, Int.reduceLE, Int.reduceLT, Int.reduceEq, Int.reduceToNat, Int.reduceAdd, Int.reduceSub, Int.reduceMul, Int.reduceNeg, reduceCtorEq, Option.bind_some, Option.map_some, List.length_cons, List.length_nil, vcM, List.getElem?_toArray, List.getElem?_cons_zero, List.getElem?_cons_succ, ho1, hr8, sumG_8, sumG_9, sumG_10])
  have hn : wv = .slice none 0 0 ∨ ∃ a n c, wv = .slice (some a) n c := by
    obtain ⟨_, ⟨e, _⟩ | ⟨g', o, cap, cur, e, _⟩⟩ := h.wait
    · exact .inl e
    · exact .inr ⟨_, _, _, e⟩
  have hzs : ((zc [(8, .int .u32 0), (1, .slice none 0 0), (1, .int .u64 0), (1, .bool false)]) : Array Value).size = 11 := rfl
  -- behind the copy
  have cont : ∀ (w2 : World) (p3 : Nat) (wv2 : Value), SumAt w2 p3 wv2 m b → Ext w w2 → w2.heap[p2]? = some (.cells (bv (List.replicate 32 0)).toArray 24 (0, 0)) → p2 < p3 → (∀ y, blk wv2 y → p2 < y) →
      W Try.prog (Ret fun u w' => u = .agg (bv (shaF m)).toArray ∧ Ext w w') 44 11 [(0, .pointer (some ⟨g, 0, none⟩)), (2, .pointer (some ⟨p2, 0, none⟩)), (3, .pointer (some ⟨p3, 0, none⟩))] w2 := by
    intro w2 p3 wv2 hS2 hE2 hp22 h23 hb2
    have ho2 := hE2.at h.obj (fun h => h)
    rw [sumC_G] at ho2
    (refine W_at c44_ok ?_; refine ⟨_, rfl, ?_⟩; simp (disch := first | omega | assumption | rfl | (simp only [vcS] <;> omega) | fail) only [↓ptV_l, ↓vcA, vcB, ↓vcD, vcE, ↓reduceIte, Nat.reduceEqDiff, Nat.reduceAdd, Nat.reduceMul, Nat.reduceLeDiff, Int.reduceLE, Int.reduceLT, Int.reduceEq, Int.reduceToNat, Int.reduceAdd, Int.reduceSub, Int.reduceMul, Int.reduceNeg, reduceCtorEq, Option.bind_some, Option.map_some, List.length_cons, List.length_nil, vcM, List.getElem?_toArray, List.getElem?_cons_zero, List.getElem?_cons_succ, ho2, sumG_9])
    refine callV_ret (tail_ok w2 m.length (by omega)) ?_
    intro tv w3 hN
    have hpl := padF_len m.length
    have hS3 := hS2.ext hN.ext
    have hp23 := hN.ext.at hp22 (fun h => h)
    first | (simp (disch := first | omega | assumption | rfl | (simp only [vcS] <;> omega) | fail) only [↓ptV_l, ↓vcA, vcB, ↓vcD, vcE, ↓reduceIte, Nat.reduceEqDiff, Nat.reduceAdd, Nat.reduceMul, Nat.reduceLeDiff, Int.reduceLE, Int.reduceLT, Int.reduceEq, Int.reduceToNat, Int.reduceAdd, Int.reduceSub, Int.reduceMul, Int.reduceNeg, reduceCtorEq, Option.bind_some, Option.map_some, List.length_cons, List.length_nil, vcM, List.getElem?_toArray, List.getElem?_cons_zero, List.getElem?_cons_succ]) | skip
    refine callV_ret (add_ok w3 p3 wv2 tv m (padF m.length) b hS3 hN.own.rd (fun _ q n c e hq => ?_) (padF_byt _) hm (by omega)) ?_
    · have h1 := hN.new q.block (by rw [e]; rfl)
      have h2 := lt_of_heap hS2.obj
      omega
    rintro _ w4 ⟨wv4, hS4, hK4, hB4⟩
    have hE4 : Ext w w4 := (hE2.ext hN.ext).trans hK4 fun i hi hy => by
      rcases hy with rfl | hy
      · omega
      · have := hb2 i hy; omega
    have hp24 := hK4.at hp23 (fun hy => by
      rcases hy with e | hy
      · omega
      · have := hb2 p2 hy; omega)
    have ho4 := hS4.obj
    rw [sumC_G] at ho4
    have hst : stF (m ++ padF m.length) true = runN ((allF m).length / 64) iv (allF m) := rfl
    rw [hst] at ho4
    have hsha : shaF m = outF (runN ((allF m).length / 64) iv (allF m)) := rfl
    rw [hsha]
    generalize runN ((allF m).length / 64) iv (allF m) = st at ho4 ⊢
    first | (simp (disch := first | omega | assumption | rfl | (simp only [vcS] <;> omega) | fail) only [↓ptV_l, ↓vcA, vcB, ↓vcD, vcE, ↓reduceIte, Nat.reduceEqDiff, Nat.reduceAdd, Nat.reduceMul, Nat.reduceLeDiff, Int.reduceLE, Int.reduceLT, Int.reduceEq, Int.reduceToNat, Int.reduceAdd, Int.reduceSub, Int.reduceMul, Int.reduceNeg, reduceCtorEq, Option.bind_some, Option.map_some, List.length_cons, List.length_nil, vcM, List.getElem?_toArray, List.getElem?_cons_zero, List.getElem?_cons_succ]) | skip
    (refine W_at c44_ok ?_; refine ⟨_, rfl, ?_⟩; simp (disch := first | omega | assumption | rfl | (simp only [vcS] <;> omega) | fail) only [↓ptV_l, ↓vcA, vcB, ↓vcD, vcE, ↓reduceIte, Nat.reduceEqDiff, Nat.reduceAdd, Nat.reduceMul, Nat.reduceLeDiff, Int.reduceLE, Int.reduceLT, Int.reduceEq, Int.reduceToNat, Int.reduceAdd, Int.reduceSub, Int.reduceMul, Int.reduceNeg, reduceCtorEq, Option.bind_some, Option.map_some, List.length_cons, List.length_nil, vcM, List.getElem?_toArray, List.getElem?_cons_zero, List.getElem?_cons_succ])
    have hE5 : Ext w4 (w4.alloc (.cells (zc [(32, .int .u8 0)]) 24)) := (Keep.refl _ w4).alloc _
    have hp5 : (w4.alloc (.cells (zc [(32, .int .u8 0)]) 24)).heap[w4.heap.size]? = some (.cells (bv (outT st 0)).toArray 24 (0, 0)) := heap_new _ _ _ rfl
    have hp24l := lt_of_heap hp24
    have hw4l := hE4.size
    generalize World.alloc _ _ = w5 at hE5 hp5 ⊢
    generalize w4.heap.size = p4 at hp5 hp24l hw4l ⊢
    have ho5 := hE5.at ho4 (fun h => h)
    have hp25 := hE5.at hp24 (fun h => h)
    have hr85 : rdO (some (.cells (sumG st wv4 (m ++ padF m.length).length true) 87 (0, 0))) 0 8 = some (wcs st.list) := rd8 _ _ _
    (refine W_at c44_ok ?_; refine ⟨_, rfl, ?_⟩; simp (disch := first | omega | assumption | rfl | (simp only [vcS] <;> omega) | fail) only [↓ptV_l, ↓vcA, vcB, ↓vcD, vcE, ↓reduceIte, Nat.reduceEqDiff, Nat.reduceAdd, Nat.reduceMul, Nat.reduceLeDiff, Int.reduceLE, Int.reduceLT, Int.reduceEq, Int.reduceToNat, Int.reduceAdd, Int.reduceSub, Int.reduceMul, Int.reduceNeg, reduceCtorEq, Option.bind_some, Option.map_some, List.length_cons, List.length_nil, vcM, List.getElem?_toArray, List.getElem?_cons_zero, List.getElem?_cons_succ, ho5, hr85])
    have L : ∀ (k i : Nat) (wj : World), i + k = 8 → wj.heap[p4]? = some (.cells (bv (outT st i)).toArray 24 (0, 0)) → wj.heap[p2]? = some (.cells (bv (List.replicate 32 0)).toArray 24 (0, 0)) → Ext w wj →
        W Try.prog (Ret fun u w' => u = .agg (bv (outF st)).toArray ∧ Ext w w') 44 8 [(2, .pointer (some ⟨p2, 0, none⟩)), (4, .pointer (some ⟨p4, 0, none⟩)), (32, .agg (wcs st.list)), (33, .int .i64 (i : Nat))] wj := by
      intro k
      induction k with
      | zero =>
        intro i wj hi h4 h2 hE
        obtain rfl : i = 8 := by omega
        rw [outT_8] at h4
        have hr32 : rdO (some (.cells (bv (outF st)).toArray 24 (0, 0))) 0 32 = some (bv (outF st)).toArray := rdO_all _ _ _ _ (by rw [bva_size, outF_len])
        have s32 : (bv (outF st)).toArray.size = 32 := by rw [bva_size, outF_len]
        have hok : okO (some (.cells (bv (List.replicate 32 0)).toArray 24 (0, 0))) 0 32 = True := by simp only [okO, bva_size, List.length_replicate]; simp
        (refine W_at c44_ok ?_; refine ⟨_, rfl, ?_⟩; simp (disch := first | omega | assumption | rfl | (simp only [vcS] <;> omega) | fail) only [↓ptV_l, ↓vcA, vcB, ↓vcD, vcE, ↓reduceIte, Nat.reduceEqDiff, Nat.reduceAdd, Nat.reduceMul, Nat.reduceLeDiff, Int.reduceLE, Int.reduceLT, Int.reduceEq, Int.reduceToNat, Int.reduceAdd, Int.reduceSub, Int.reduceMul, Int.reduceNeg, reduceCtorEq, Option.bind_some, Option.map_some, List.length_cons, List.length_nil, vcM, List.getElem?_toArray, List.getElem?_cons_zero, List.getElem?_cons_succ])
        (refine W_at c44_ok ?_; refine ⟨_, rfl, ?_⟩; simp (disch := first | omega | assumption | rfl | (simp only [vcS] <;> omega) | fail) only [↓ptV_l, ↓vcA, vcB, ↓vcD, vcE, ↓reduceIte, Nat.reduceEqDiff, Nat.reduceAdd, Nat.reduceMul, Nat.reduceLeDiff, Int.reduceLE, Int.reduceLT, Int.reduceEq, Int.reduceToNat, Int.reduceAdd, Int.reduceSub, Int.reduceMul, Int.reduceNeg, reduceCtorEq, Option.bind_some, Option.map_some, List.length_cons, List.length_nil, vcM, List.getElem?_toArray, List.getElem?_cons_zero, List.getElem?_cons_succ])
        (refine W_at c44_ok ?_; refine ⟨_, rfl, ?_⟩; simp (disch := first | omega | assumption | rfl | (simp only [vcS] <;> omega) | fail) only [↓ptV_l, ↓vcA, vcB, ↓vcD, vcE, ↓reduceIte, Nat.reduceEqDiff, Nat.reduceAdd, Nat.reduceMul, Nat.reduceLeDiff, Int.reduceLE, Int.reduceLT, Int.reduceEq, Int.reduceToNat, Int.reduceAdd, Int.reduceSub, Int.reduceMul, Int.reduceNeg, reduceCtorEq, Option.bind_some, Option.map_some, List.length_cons, List.length_nil, vcM, List.getElem?_toArray, List.getElem?_cons_zero, List.getElem?_cons_succ, h4, h2, hr32, s32, hok])
        have k2 : Keep (fun y => y = p2) wj (wj.putN p2 0 (bv (outF st)).toArray) := (Keep.refl _ wj).putN _ fun _ => rfl
        have h2' : (wj.putN p2 0 (bv (outF st)).toArray).heap[p2]? = some (.cells (bv (outF st)).toArray 24 (0, 0)) := by
          rw [heap_putN_eq h2, splice_all (by rw [bva_size, bva_size, outF_len]; rfl)]
        refine ⟨bv_flat _, ?_⟩
        have hEk : Ext w (wj.putN p2 0 (bv (outF st)).toArray) := hE.trans k2 fun x hx e => by omega
        generalize World.putN _ _ _ _ = wk at k2 h2' hEk ⊢
        (refine W_at c44_ok ?_; refine ⟨_, rfl, ?_⟩; simp (disch := first | omega | assumption | rfl | (simp only [vcS] <;> omega) | fail) only [↓ptV_l, ↓vcA, vcB, ↓vcD, vcE, ↓reduceIte, Nat.reduceEqDiff, Nat.reduceAdd, Nat.reduceMul, Nat.reduceLeDiff, Int.reduceLE, Int.reduceLT, Int.reduceEq, Int.reduceToNat, Int.reduceAdd, Int.reduceSub, Int.reduceMul, Int.reduceNeg, reduceCtorEq, Option.bind_some, Option.map_some, List.length_cons, List.length_nil, vcM, List.getElem?_toArray, List.getElem?_cons_zero, List.getElem?_cons_succ, Ret_returned, h2', hr32])
        exact hEk
      | succ k ih =>
        intro i wj hi h4 h2 hE
        have hlt : ((i : Nat) : Int) < 8 := by omega
        have b1 : 0 ≤ ((i : Nat) : Int) ∧ ((i : Nat) : Int) < 8 := by omega
        have hwi : IntKind.i64.wrap (((i : Nat) : Int) + 1) = ((i + 1 : Nat) : Int) := wrap_i64 (by omega) (by omega)
        have hel := wcs8_at st i (by omega)
        have hset := outT_set st i (by omega)
        have hlen := outT_len st i (by omega)
        have m0 : IntKind.i64.wrap (4 * ((i : Nat) : Int)) = ((4 * i : Nat) : Int) := by rw [wrap_i64 (by omega) (by omega)]; omega
        have m1 : IntKind.i64.wrap (((4 * i : Nat) : Int) + 1) = ((4 * i + 1 : Nat) : Int) := by rw [wrap_i64 (by omega) (by omega)]; omega
        have m2 : IntKind.i64.wrap (((4 * i : Nat) : Int) + 2) = ((4 * i + 2 : Nat) : Int) := by rw [wrap_i64 (by omega) (by omega)]; omega
        have m3 : IntKind.i64.wrap (((4 * i : Nat) : Int) + 3) = ((4 * i + 3 : Nat) : Int) := by rw [wrap_i64 (by omega) (by omega)]; omega
        have i0 : 0 ≤ ((4 * i : Nat) : Int) ∧ ((4 * i : Nat) : Int) < 32 := by omega
        have i1 : 0 ≤ ((4 * i + 1 : Nat) : Int) ∧ ((4 * i + 1 : Nat) : Int) < 32 := by omega
        have i2 : 0 ≤ ((4 * i + 2 : Nat) : Int) ∧ ((4 * i + 2 : Nat) : Int) < 32 := by omega
        have i3 : 0 ≤ ((4 * i + 3 : Nat) : Int) ∧ ((4 * i + 3 : Nat) : Int) < 32 := by omega
        generalize st.list.getD i 0 = xi at hel hset
        (refine W_at c44_ok ?_; refine ⟨_, rfl, ?_⟩; simp (disch := first | omega | assumption | rfl | (simp only [vcS] <;> omega) | fail) only [↓ptV_l, ↓vcA, vcB, ↓vcD, vcE, ↓reduceIte, Nat.reduceEqDiff, Nat.reduceAdd, Nat.reduceMul, Nat.reduceLeDiff, Int.reduceLE, Int.reduceLT, Int.reduceEq, Int.reduceToNat, Int.reduceAdd, Int.reduceSub, Int.reduceMul, Int.reduceNeg, reduceCtorEq, Option.bind_some, Option.map_some, List.length_cons, List.length_nil, vcM, List.getElem?_toArray, List.getElem?_cons_zero, List.getElem?_cons_succ, hlt])
        (refine W_at c44_ok ?_; refine ⟨_, rfl, ?_⟩; simp (disch := first | omega | assumption | rfl | (simp only [vcS] <;> omega) | fail) only [↓ptV_l, ↓vcA, vcB, ↓vcD, vcE, ↓reduceIte, Nat.reduceEqDiff, Nat.reduceAdd, Nat.reduceMul, Nat.reduceLeDiff, Int.reduceLE, Int.reduceLT, Int.reduceEq, Int.reduceToNat, Int.reduceAdd, Int.reduceSub, Int.reduceMul, Int.reduceNeg, reduceCtorEq, Option.bind_some, Option.map_some, List.length_cons, List.length_nil, vcM, List.getElem?_toArray, List.getElem?_cons_zero, List.getElem?_cons_succ])
        (refine W_at c44_ok ?_; refine ⟨_, rfl, ?_⟩; simp (disch := first | omega | assumption | rfl | (simp only [vcS] <;> omega) | fail) only [↓ptV_l, ↓vcA, vcB, ↓vcD, vcE, ↓reduceIte, Nat.reduceEqDiff, Nat.reduceAdd, Nat.reduceMul, Nat.reduceLeDiff, Int.reduceLE, Int.reduceLT, Int.reduceEq, Int.reduceToNat, Int.reduceAdd, Int.reduceSub, Int.reduceMul, Int.reduceNeg, reduceCtorEq, Option.bind_some, Option.map_some, List.length_cons, List.length_nil, vcM, List.getElem?_toArray, List.getElem?_cons_zero, List.getElem?_cons_succ, b1, Int.toNat_natCast, Nat.mul_one, hel])
        (refine W_at c44_ok ?_; refine ⟨_, rfl, ?_⟩; simp (disch := first | omega | assumption | rfl | (simp only [vcS] <;> omega) | fail) only [↓ptV_l, ↓vcA, vcB, ↓vcD, vcE, ↓reduceIte, Nat.reduceEqDiff, Nat.reduceAdd, Nat.reduceMul, Nat.reduceLeDiff, Int.reduceLE, Int.reduceLT, Int.reduceEq, Int.reduceToNat, Int.reduceAdd, Int.reduceSub, Int.reduceMul, Int.reduceNeg, reduceCtorEq, Option.bind_some, Option.map_some, List.length_cons, List.length_nil, vcM, List.getElem?_toArray, List.getElem?_cons_zero, List.getElem?_cons_succ, m0, m1, m2, m3, i0, i1, i2, i3, Int.toNat_natCast, Nat.mul_one, Nat.zero_add, U32_shr24, U32_shr16, U32_shr8, cvi8])
        obtain ⟨a1, c1, e1⟩ := poke ((((xi >>> 24).toNat % 256 : Nat)) : Int) h4 (i := 4 * i) (by omega)
        obtain ⟨a2, c2, e2⟩ := poke ((((xi >>> 16).toNat % 256 : Nat)) : Int) c1 (i := 4 * i + 1) (by rw [List.length_set]; omega)
        obtain ⟨a3, c3, e3⟩ := poke ((((xi >>> 8).toNat % 256 : Nat)) : Int) c2 (i := 4 * i + 2) (by rw [List.length_set, List.length_set]; omega)
        obtain ⟨a4, c4, e4⟩ := poke (((xi.toNat % 256 : Nat)) : Int) c3 (i := 4 * i + 3) (by rw [List.length_set, List.length_set, List.length_set]; omega)
        rw [hset] at c4
        refine ⟨a1, a2, a3, a4, ?_⟩
        have ke := ((e1.trans e2 fun _ _ h => h).trans e3 fun _ _ h => h).trans e4 fun _ _ h => h
        have hEk := hE.trans ke fun x hx e => by omega
        have h2k := ke.at h2 (by omega)
        generalize World.setCell (World.setCell (World.setCell (World.setCell _ _ _) _ _) _ _) _ _ = wk at c4 hEk h2k ⊢
        (refine W_at c44_ok ?_; refine ⟨_, rfl, ?_⟩; simp (disch := first | omega | assumption | rfl | (simp only [vcS] <;> omega) | fail) only [↓ptV_l, ↓vcA, vcB, ↓vcD, vcE, ↓reduceIte, Nat.reduceEqDiff, Nat.reduceAdd, Nat.reduceMul, Nat.reduceLeDiff, Int.reduceLE, Int.reduceLT, Int.reduceEq, Int.reduceToNat, Int.reduceAdd, Int.reduceSub, Int.reduceMul, Int.reduceNeg, reduceCtorEq, Option.bind_some, Option.map_some, List.length_cons, List.length_nil, vcM, List.getElem?_toArray, List.getElem?_cons_zero, List.getElem?_cons_succ, hwi])
        (refine W_at c44_ok ?_; refine ⟨_, rfl, ?_⟩; simp (disch := first | omega | assumption | rfl | (simp only [vcS] <;> omega) | fail) only [↓ptV_l, ↓vcA, vcB, ↓vcD, vcE, ↓reduceIte, Nat.reduceEqDiff, Nat.reduceAdd, Nat.reduceMul, Nat.reduceLeDiff, Int.reduceLE, Int.reduceLT, Int.reduceEq, Int.reduceToNat, Int.reduceAdd, Int.reduceSub, Int.reduceMul, Int.reduceNeg, reduceCtorEq, Option.bind_some, Option.map_some, List.length_cons, List.length_nil, vcM, List.getElem?_toArray, List.getElem?_cons_zero, List.getElem?_cons_succ])
        exact ih (i + 1) wk (by omega) c4 h2k hEk
    exact L 8 0 w5 (by omega) hp5 hp25 (hE4.ext hE5)
  have hEd : Ext w1 w1.drew := (Keep.refl _ w1).drew
  have hbl : (waitL m).length ≤ 500000000 := by rw [waitL_len]; omega
  have hsc : ∀ v : Value, v.oneCell' = true → v.cells = #[v] → True := fun _ _ _ => trivial
  have hs11 : ∀ v : Value, (sumG (stF m b) v m.length b).size = 11 := fun _ => rfl
  have h1s : ∀ v : Value, (#[v] : Array Value).size = 1 := fun _ => rfl
  refine ⟨?_, ?_⟩
  · refine callV_ret (bclone_ok w1.drew wv (waitL m) (h.wait.rd.ext (hE0.ext hEd)) hn hbl) ?_
    rintro v w2 ⟨hO2, hE2, hb2⟩
    have hvc : v.cells = #[v] := by obtain ⟨q, c, e, _⟩ := hO2.rd.is; rw [e]; rfl
    have ho2 := (hEd.ext hE2).at ho1 (fun h => h)
    have hE3 : Ext w2 (w2.alloc (.cells (zc [(8, .int .u32 0), (1, .slice none 0 0), (1, .int .u64 0), (1, .bool false)]) 87)) := (Keep.refl _ w2).alloc _
    have ho3 := hE3.at ho2 (fun h => h)
    have hbld := sumG_bld (stF m b) v m.length b
    simp (disch := first | omega | assumption | rfl | (simp only [vcS] <;> omega) | fail) only [↓ptV_l, ↓vcA, vcB, ↓vcD, vcE, ↓reduceIte, Nat.reduceEqDiff, Nat.reduceAdd, Nat.reduceMul, Nat.reduceLeDiff, Int.reduceLE, Int.reduceLT, Int.reduceEq, Int.reduceToNat, Int.reduceAdd, Int.reduceSub, Int.reduceMul, Int.reduceNeg, reduceCtorEq, Option.bind_some, Option.map_some, List.length_cons, List.length_nil, vcM, List.getElem?_toArray, List.getElem?_cons_zero, List.getElem?_cons_succ, ho2, ho3, hr8, sumG_9, sumG_10, hvc, h1s, s8, hbld, hs11]
    refine ⟨sumG_flat _ _ _ _ hO2.rd.one, Nat.le_refl _, ?_⟩
    have hob : ((w2.alloc (.cells (zc [(8, .int .u32 0), (1, .slice none 0 0), (1, .int .u64 0), (1, .bool false)]) 87)).putN w2.heap.size 0 (sumG (stF m b) v m.length b)).heap[w2.heap.size]? = some (.cells (sumC m b v) 87 (0, 0)) := by
      rw [heap_putN_eq (heap_new _ _ _ rfl), splice_all (by rw [sumG_size]; rfl), sumC_G]
    have hEb : Ext w2 ((w2.alloc (.cells (zc [(8, .int .u32 0), (1, .slice none 0 0), (1, .int .u64 0), (1, .bool false)]) 87)).putN w2.heap.size 0 (sumG (stF m b) v m.length b)) := ((Keep.refl _ w2).alloc _).putN _ (by intro hh; exfalso; omega)
    generalize World.putN _ _ _ _ = w4 at hob hEb ⊢
    have hEw : Ext w1 w4 := (hEd.ext hE2).ext hEb
    have hp2l1 := lt_of_heap hp2
    have hz2 := (hEd.ext hE2).size
    exact cont w4 _ v ⟨hob, hO2.ext hEb, h.zero⟩ (hE0.ext hEw) (hEw.at hp2 fun h => h) (by omega) fun y hy => by have h1 : w1.heap.size ≤ y := hb2 y hy; omega
  · have hE3 : Ext w1 (w1.drew.alloc (.cells (zc [(8, .int .u32 0), (1, .slice none 0 0), (1, .int .u64 0), (1, .bool false)]) 87)) := hEd.alloc _
    have hp3 : (w1.drew.alloc (.cells (zc [(8, .int .u32 0), (1, .slice none 0 0), (1, .int .u64 0), (1, .bool false)]) 87)).heap[w1.heap.size]? = some (.cells (zc [(8, .int .u32 0), (1, .slice none 0 0), (1, .int .u64 0), (1, .bool false)]) 87 (0, 0)) := heap_new _ _ _ rfl
    have ho3 := hE3.at ho1 (fun h => h)
    have hp2l1 := lt_of_heap hp2
    generalize World.alloc _ _ = w3 at hE3 hp3 ho3 ⊢
    generalize hp3e : w1.heap.size = p3 at hp3 hp2l1 ⊢
    simp (disch := first | omega | assumption | rfl | (simp only [vcS] <;> omega) | fail) only [↓ptV_l, ↓vcA, vcB, ↓vcD, vcE, ↓reduceIte, Nat.reduceEqDiff, Nat.reduceAdd, Nat.reduceMul, Nat.reduceLeDiff, Int.reduceLE, Int.reduceLT, Int.reduceEq, Int.reduceToNat, Int.reduceAdd, Int.reduceSub, Int.reduceMul, Int.reduceNeg, reduceCtorEq, Option.bind_some, Option.map_some, List.length_cons, List.length_nil, vcM, List.getElem?_toArray, List.getElem?_cons_zero, List.getElem?_cons_succ, ho3, hr8, sumG_8, sumG_9, sumG_10]
    refine callV_ret (bclone_ok w3 wv (waitL m) (h.wait.rd.ext (hE0.ext hE3)) hn hbl) ?_
    rintro v w2 ⟨hO2, hE2, hb2⟩
    have hvc : v.cells = #[v] := by obtain ⟨q, c, e, _⟩ := hO2.rd.is; rw [e]; rfl
    have ho2 := hE2.at ho3 (fun h => h)
    have hp32 := hE2.at hp3 (fun h => h)
    have hbld := sumG_bld (stF m b) v m.length b
    simp (disch := first | omega | assumption | rfl | (simp only [vcS] <;> omega) | fail) only [↓ptV_l, ↓vcA, vcB, ↓vcD, vcE, ↓reduceIte, Nat.reduceEqDiff, Nat.reduceAdd, Nat.reduceMul, Nat.reduceLeDiff, Int.reduceLE, Int.reduceLT, Int.reduceEq, Int.reduceToNat, Int.reduceAdd, Int.reduceSub, Int.reduceMul, Int.reduceNeg, reduceCtorEq, Option.bind_some, Option.map_some, List.length_cons, List.length_nil, vcM, List.getElem?_toArray, List.getElem?_cons_zero, List.getElem?_cons_succ, ho2, hr8, sumG_9, sumG_10, hvc, h1s, s8, hbld, hs11, hp32]
    refine ⟨sumG_flat _ _ _ _ hO2.rd.one, Nat.le_refl _, ?_⟩
    have hob : (w2.putN p3 0 (sumG (stF m b) v m.length b)).heap[p3]? = some (.cells (sumC m b v) 87 (0, 0)) := by
      rw [heap_putN_eq hp32, splice_all (by rw [sumG_size]; rfl), sumC_G]
    have kb : Keep (fun y => y = p3) w2 (w2.putN p3 0 (sumG (stF m b) v m.length b)) := (Keep.refl _ w2).putN _ fun _ => rfl
    generalize World.putN _ _ _ _ = w4 at hob kb ⊢
    have hEw : Ext w1 w4 := (hE3.ext hE2).trans kb fun i hi e => by omega
    have hp3l := lt_of_heap hp3
    exact cont w4 p3 v ⟨hob, hO2.keep kb fun y hy e => by have := hb2 y hy; omega, h.zero⟩ (hE0.ext hEw) (hEw.at hp2 fun h => h) (by omega) fun y hy => by have := hb2 y hy; omega
/-- A digest's bytes in an array of their own, as a slice. -/
theorem arr_rd {w : World} {g : Nat} {bs : List Int} {T : TypeId} (h : w.heap[g]? = some (.cells (bv bs).toArray T (0, 0))) (hl : bs.length ≤ maxLen) : Rd w (.slice (some ⟨g, 0, none⟩) bs.length bs.length) bs := by
  refine ⟨⟨_, _, rfl, Nat.le_refl _⟩, hl, ?_⟩
  simp only [rdS]
  split
  · rename_i h0
    have : bs = [] := List.eq_nil_of_length_eq_zero h0
    subst this; rfl
  · rw [rdN_heap, h, rdO_some _ _ _ _ _ (by simp [bv_len]), Nat.zero_add, ext_all _ _ (by simp [bv_len])]
theorem new_sum (w : World) : SumAt (w.alloc (.cells (zc [(8, .int .u32 0), (1, .slice none 0 0), (1, .int .u64 0), (1, .bool false)]) 87)) w.heap.size (.slice none 0 0) [] false :=
  ⟨heap_new _ _ _ rfl, by unfold waitL; exact ByO.nil _, fun _ => rfl⟩
set_option maxHeartbeats 800000 in
theorem sum256_ok (w : World) (x : Value) (bs : List Int) (hx : Rd w x bs) (hb : byt bs) (hl : bs.length ≤ 100000000) :
    Calls Try.prog 45 #[x] w (Ret fun u w' => u = .agg (bv (shaF bs)).toArray ∧ Ext w w') := by
  refine calls_of_cfg c45_ok (Nat.le_of_ble_eq_true rfl) ?_
  simp only [argE_nil, argE_cons, Nat.reduceAdd, Nat.zero_add]
  (refine W_at c45_ok ?_; refine ⟨_, rfl, ?_⟩; simp (disch := first | omega | assumption | rfl | (simp only [vcS] <;> omega) | fail) only [↓ptV_l, ↓vcA, vcB, ↓vcD, vcE, ↓reduceIte, Nat.reduceEqDiff, Nat.reduceAdd, Nat.reduceMul, Nat.reduceLeDiff, Int.reduceLE, Int.reduceLT, Int.reduceEq, Int.reduceToNat, Int.reduceAdd, Int.reduceSub, Int.reduceMul, Int.reduceNeg, reduceCtorEq, Option.bind_some, Option.map_some, List.length_cons, List.length_nil, vcM, List.getElem?_toArray, List.getElem?_cons_zero, List.getElem?_cons_succ])
  have hE0 : Ext w (w.alloc (.cells (zc [(32, .int .u8 0)]) 24)) := (Keep.refl _ w).alloc _
  have hp2 : (w.alloc (.cells (zc [(32, .int .u8 0)]) 24)).heap[w.heap.size]? = some (.cells (bv (List.replicate 32 0)).toArray 24 (0, 0)) := heap_new _ _ _ rfl
  generalize World.alloc _ _ = w1 at hE0 hp2 ⊢
  generalize hp2e : w.heap.size = p2 at hp2 ⊢
  (refine W_at c45_ok ?_; refine ⟨_, rfl, ?_⟩; simp (disch := first | omega | assumption | rfl | (simp only [vcS] <;> omega) | fail) only [↓ptV_l, ↓vcA, vcB, ↓vcD, vcE, ↓reduceIte, Nat.reduceEqDiff, Nat.reduceAdd, Nat.reduceMul, Nat.reduceLeDiff, Int.reduceLE, Int.reduceLT, Int.reduceEq, Int.reduceToNat, Int.reduceAdd, Int.reduceSub, Int.reduceMul, Int.reduceNeg, reduceCtorEq, Option.bind_some, Option.map_some, List.length_cons, List.length_nil, vcM, List.getElem?_toArray, List.getElem?_cons_zero, List.getElem?_cons_succ])
  have hE1 : Ext w1 (w1.alloc (.cells (zc [(8, .int .u32 0), (1, .slice none 0 0), (1, .int .u64 0), (1, .bool false)]) 87)) := (Keep.refl _ w1).alloc _
  have hS1 := new_sum w1
  have hp2l := lt_of_heap hp2
  generalize World.alloc _ _ = w2 at hE1 hS1 ⊢
  have hw1l := hE0.size
  generalize w1.heap.size = p3 at hS1 hp2l hw1l ⊢
  have hxlt : bs ≠ [] → ∀ q n c, x = .slice (some q) n c → q.block ≠ p3 := fun h0 q n c e hq => by have := hx.lt h0 q n c e; omega
  (refine W_at c45_ok ?_; refine ⟨_, rfl, ?_⟩; simp (disch := first | omega | assumption | rfl | (simp only [vcS] <;> omega) | fail) only [↓ptV_l, ↓vcA, vcB, ↓vcD, vcE, ↓reduceIte, Nat.reduceEqDiff, Nat.reduceAdd, Nat.reduceMul, Nat.reduceLeDiff, Int.reduceLE, Int.reduceLT, Int.reduceEq, Int.reduceToNat, Int.reduceAdd, Int.reduceSub, Int.reduceMul, Int.reduceNeg, reduceCtorEq, Option.bind_some, Option.map_some, List.length_cons, List.length_nil, vcM, List.getElem?_toArray, List.getElem?_cons_zero, List.getElem?_cons_succ])
  refine callV_ret (add_ok w2 p3 _ x [] bs false hS1 ((hx.ext hE0).ext hE1) hxlt hb byt_nil (by simp; omega)) ?_
  rintro _ w3 ⟨wv, hS3, hK3, hB3⟩
  rw [List.nil_append] at hS3
  have hE3 : Ext w w3 := (hE0.ext hE1).trans hK3 fun i hi hy => by
    rcases hy with e | hy
    · omega
    · cases hy
  have hp23 := hK3.at (hE1.at hp2 fun h => h) (fun hy => by rcases hy with e | hy; omega; cases hy)
  first | (simp (disch := first | omega | assumption | rfl | (simp only [vcS] <;> omega) | fail) only [↓ptV_l, ↓vcA, vcB, ↓vcD, vcE, ↓reduceIte, Nat.reduceEqDiff, Nat.reduceAdd, Nat.reduceMul, Nat.reduceLeDiff, Int.reduceLE, Int.reduceLT, Int.reduceEq, Int.reduceToNat, Int.reduceAdd, Int.reduceSub, Int.reduceMul, Int.reduceNeg, reduceCtorEq, Option.bind_some, Option.map_some, List.length_cons, List.length_nil, vcM, List.getElem?_toArray, List.getElem?_cons_zero, List.getElem?_cons_succ]) | skip
  (refine W_at c45_ok ?_; refine ⟨_, rfl, ?_⟩; simp (disch := first | omega | assumption | rfl | (simp only [vcS] <;> omega) | fail) only [↓ptV_l, ↓vcA, vcB, ↓vcD, vcE, ↓reduceIte, Nat.reduceEqDiff, Nat.reduceAdd, Nat.reduceMul, Nat.reduceLeDiff, Int.reduceLE, Int.reduceLT, Int.reduceEq, Int.reduceToNat, Int.reduceAdd, Int.reduceSub, Int.reduceMul, Int.reduceNeg, reduceCtorEq, Option.bind_some, Option.map_some, List.length_cons, List.length_nil, vcM, List.getElem?_toArray, List.getElem?_cons_zero, List.getElem?_cons_succ])
  refine callV_ret (hash_ok w3 p3 wv bs true hS3 hb (by omega)) ?_
  rintro _ w4 ⟨rfl, hE4⟩
  have s32 : (bv (shaF bs)).toArray.size = 32 := by rw [bva_size, shaF_len]
  have hp24 := hE4.at hp23 (fun h => h)
  have hok : okO (some (.cells (bv (List.replicate 32 0)).toArray 24 (0, 0))) 0 32 = True := by simp only [okO, bva_size, List.length_replicate]; simp
  simp (disch := first | omega | assumption | rfl | (simp only [vcS] <;> omega) | fail) only [↓ptV_l, ↓vcA, vcB, ↓vcD, vcE, ↓reduceIte, Nat.reduceEqDiff, Nat.reduceAdd, Nat.reduceMul, Nat.reduceLeDiff, Int.reduceLE, Int.reduceLT, Int.reduceEq, Int.reduceToNat, Int.reduceAdd, Int.reduceSub, Int.reduceMul, Int.reduceNeg, reduceCtorEq, Option.bind_some, Option.map_some, List.length_cons, List.length_nil, vcM, List.getElem?_toArray, List.getElem?_cons_zero, List.getElem?_cons_succ, s32, hp24, hok]
  have k5 : Keep (fun y => y = p2) w4 (w4.putN p2 0 (bv (shaF bs)).toArray) := (Keep.refl _ w4).putN _ fun _ => rfl
  have hp25 : (w4.putN p2 0 (bv (shaF bs)).toArray).heap[p2]? = some (.cells (bv (shaF bs)).toArray 24 (0, 0)) := by
    rw [heap_putN_eq hp24, splice_all (by rw [bva_size, bva_size, shaF_len]; rfl)]
  refine ⟨bv_flat _, ?_⟩
  generalize World.putN _ _ _ _ = w5 at k5 hp25 ⊢
  have hr32 : rdO (some (.cells (bv (shaF bs)).toArray 24 (0, 0))) 0 32 = some (bv (shaF bs)).toArray := rdO_all _ _ _ _ s32
  (refine W_at c45_ok ?_; refine ⟨_, rfl, ?_⟩; simp (disch := first | omega | assumption | rfl | (simp only [vcS] <;> omega) | fail) only [↓ptV_l, ↓vcA, vcB, ↓vcD, vcE, ↓reduceIte, Nat.reduceEqDiff, Nat.reduceAdd, Nat.reduceMul, Nat.reduceLeDiff, Int.reduceLE, Int.reduceLT, Int.reduceEq, Int.reduceToNat, Int.reduceAdd, Int.reduceSub, Int.reduceMul, Int.reduceNeg, reduceCtorEq, Option.bind_some, Option.map_some, List.length_cons, List.length_nil, vcM, List.getElem?_toArray, List.getElem?_cons_zero, List.getElem?_cons_succ, Ret_returned, hp25, hr32])
  exact (hE3.ext hE4).trans k5 fun i hi e => by omega
set_option maxHeartbeats 800000 in
theorem twice_ok (w : World) (g : Nat) (wv : Value) (m : List Int) (b : Bool) (h : SumAt w g wv m b) (hm : byt m) (hl : m.length ≤ 400000000) :
    Calls Try.prog 33 #[.pointer (some ⟨g, 0, none⟩)] w (Ret fun u w' => u = .agg (bv (dblF m)).toArray ∧ Ext w w') := by
  refine calls_of_cfg c33_ok (Nat.le_of_ble_eq_true rfl) ?_
  simp only [argE_nil, argE_cons, Nat.reduceAdd, Nat.zero_add]
  (refine W_at c33_ok ?_; refine ⟨_, rfl, ?_⟩; simp (disch := first | omega | assumption | rfl | (simp only [vcS] <;> omega) | fail) only [↓ptV_l, ↓vcA, vcB, ↓vcD, vcE, ↓reduceIte, Nat.reduceEqDiff, Nat.reduceAdd, Nat.reduceMul, Nat.reduceLeDiff, Int.reduceLE, Int.reduceLT, Int.reduceEq, Int.reduceToNat, Int.reduceAdd, Int.reduceSub, Int.reduceMul, Int.reduceNeg, reduceCtorEq, Option.bind_some, Option.map_some, List.length_cons, List.length_nil, vcM, List.getElem?_toArray, List.getElem?_cons_zero, List.getElem?_cons_succ])
  have hE0 : Ext w (w.alloc (.cells (zc [(32, .int .u8 0)]) 24)) := (Keep.refl _ w).alloc _
  have hp2 : (w.alloc (.cells (zc [(32, .int .u8 0)]) 24)).heap[w.heap.size]? = some (.cells (bv (List.replicate 32 0)).toArray 24 (0, 0)) := heap_new _ _ _ rfl
  generalize World.alloc _ _ = w1 at hE0 hp2 ⊢
  generalize hp2e : w.heap.size = p2 at hp2 ⊢
  (refine W_at c33_ok ?_; refine ⟨_, rfl, ?_⟩; simp (disch := first | omega | assumption | rfl | (simp only [vcS] <;> omega) | fail) only [↓ptV_l, ↓vcA, vcB, ↓vcD, vcE, ↓reduceIte, Nat.reduceEqDiff, Nat.reduceAdd, Nat.reduceMul, Nat.reduceLeDiff, Int.reduceLE, Int.reduceLT, Int.reduceEq, Int.reduceToNat, Int.reduceAdd, Int.reduceSub, Int.reduceMul, Int.reduceNeg, reduceCtorEq, Option.bind_some, Option.map_some, List.length_cons, List.length_nil, vcM, List.getElem?_toArray, List.getElem?_cons_zero, List.getElem?_cons_succ])
  refine callV_ret (hash_ok w1 g wv m b (h.ext hE0) hm hl) ?_
  rintro _ w2 ⟨rfl, hE2⟩
  have s32 : (bv (shaF m)).toArray.size = 32 := by rw [bva_size, shaF_len]
  have hp22 := hE2.at hp2 (fun h => h)
  simp (disch := first | omega | assumption | rfl | (simp only [vcS] <;> omega) | fail) only [↓ptV_l, ↓vcA, vcB, ↓vcD, vcE, ↓reduceIte, Nat.reduceEqDiff, Nat.reduceAdd, Nat.reduceMul, Nat.reduceLeDiff, Int.reduceLE, Int.reduceLT, Int.reduceEq, Int.reduceToNat, Int.reduceAdd, Int.reduceSub, Int.reduceMul, Int.reduceNeg, reduceCtorEq, Option.bind_some, Option.map_some, List.length_cons, List.length_nil, vcM, List.getElem?_toArray, List.getElem?_cons_zero, List.getElem?_cons_succ, s32]
  have hE3 : Ext w2 ((w2.alloc (.cells (zc [(32, .int .u8 0)]) 24)).putN w2.heap.size 0 (bv (shaF m)).toArray) := ((Keep.refl _ w2).alloc _).putN _ (by intro hh; exfalso; omega)
  have hp3 : ((w2.alloc (.cells (zc [(32, .int .u8 0)]) 24)).putN w2.heap.size 0 (bv (shaF m)).toArray).heap[w2.heap.size]? = some (.cells (bv (shaF m)).toArray 24 (0, 0)) := by
    rw [heap_putN_eq (heap_new _ _ _ rfl), z32, splice_all (by rw [bva_size, bva_size, shaF_len]; rfl)]
  refine ⟨bv_flat _, ?_⟩
  have hp2l := lt_of_heap hp22
  generalize World.putN _ _ _ _ = w3 at hE3 hp3 ⊢
  generalize w2.heap.size = p3 at hp3 hp2l ⊢
  have hrd := arr_rd hp3 (by rw [shaF_len]; decide)
  rw [shaF_len] at hrd
  have hp23 := hE3.at hp22 (fun h => h)
  (refine W_at c33_ok ?_; refine ⟨_, rfl, ?_⟩; simp (disch := first | omega | assumption | rfl | (simp only [vcS] <;> omega) | fail) only [↓ptV_l, ↓vcA, vcB, ↓vcD, vcE, ↓reduceIte, Nat.reduceEqDiff, Nat.reduceAdd, Nat.reduceMul, Nat.reduceLeDiff, Int.reduceLE, Int.reduceLT, Int.reduceEq, Int.reduceToNat, Int.reduceAdd, Int.reduceSub, Int.reduceMul, Int.reduceNeg, reduceCtorEq, Option.bind_some, Option.map_some, List.length_cons, List.length_nil, vcM, List.getElem?_toArray, List.getElem?_cons_zero, List.getElem?_cons_succ, advA_0, Nat.sub_zero])
  refine callV_ret (sum256_ok w3 _ (shaF m) hrd (shaF_byt m) (by rw [shaF_len]; omega)) ?_
  rintro _ w4 ⟨rfl, hE4⟩
  have s322 : (bv (shaF (shaF m))).toArray.size = 32 := by rw [bva_size, shaF_len]
  have hp24 := hE4.at hp23 (fun h => h)
  have hok : okO (some (.cells (bv (List.replicate 32 0)).toArray 24 (0, 0))) 0 32 = True := by simp only [okO, bva_size, List.length_replicate]; simp
  simp (disch := first | omega | assumption | rfl | (simp only [vcS] <;> omega) | fail) only [↓ptV_l, ↓vcA, vcB, ↓vcD, vcE, ↓reduceIte, Nat.reduceEqDiff, Nat.reduceAdd, Nat.reduceMul, Nat.reduceLeDiff, Int.reduceLE, Int.reduceLT, Int.reduceEq, Int.reduceToNat, Int.reduceAdd, Int.reduceSub, Int.reduceMul, Int.reduceNeg, reduceCtorEq, Option.bind_some, Option.map_some, List.length_cons, List.length_nil, vcM, List.getElem?_toArray, List.getElem?_cons_zero, List.getElem?_cons_succ, s322, hp24, hok]
  have k5 : Keep (fun y => y = p2) w4 (w4.putN p2 0 (bv (shaF (shaF m))).toArray) := (Keep.refl _ w4).putN _ fun _ => rfl
  have hp25 : (w4.putN p2 0 (bv (shaF (shaF m))).toArray).heap[p2]? = some (.cells (bv (shaF (shaF m))).toArray 24 (0, 0)) := by
    rw [heap_putN_eq hp24, splice_all (by rw [bva_size, bva_size, shaF_len]; rfl)]
  refine ⟨bv_flat _, ?_⟩
  generalize World.putN _ _ _ _ = w5 at k5 hp25 ⊢
  have hr32 : rdO (some (.cells (bv (shaF (shaF m))).toArray 24 (0, 0))) 0 32 = some (bv (shaF (shaF m))).toArray := rdO_all _ _ _ _ s322
  (refine W_at c33_ok ?_; refine ⟨_, rfl, ?_⟩; simp (disch := first | omega | assumption | rfl | (simp only [vcS] <;> omega) | fail) only [↓ptV_l, ↓vcA, vcB, ↓vcD, vcE, ↓reduceIte, Nat.reduceEqDiff, Nat.reduceAdd, Nat.reduceMul, Nat.reduceLeDiff, Int.reduceLE, Int.reduceLT, Int.reduceEq, Int.reduceToNat, Int.reduceAdd, Int.reduceSub, Int.reduceMul, Int.reduceNeg, reduceCtorEq, Option.bind_some, Option.map_some, List.length_cons, List.length_nil, vcM, List.getElem?_toArray, List.getElem?_cons_zero, List.getElem?_cons_succ, Ret_returned, hp25, hr32])
  exact ⟨rfl, (((hE0.ext hE2).ext hE3).ext hE4).trans k5 fun i hi e => by omega⟩
set_option maxHeartbeats 800000 in
theorem double_ok (w : World) (x : Value) (bs : List Int) (hx : Rd w x bs) (hb : byt bs) (hl : bs.length ≤ 100000000) :
    Calls Try.prog 25 #[x] w (Ret fun u w' => u = .agg (bv (dblF bs)).toArray ∧ Ext w w') := by
  refine calls_of_cfg c25_ok (Nat.le_of_ble_eq_true rfl) ?_
  simp only [argE_nil, argE_cons, Nat.reduceAdd, Nat.zero_add]
  (refine W_at c25_ok ?_; refine ⟨_, rfl, ?_⟩; simp (disch := first | omega | assumption | rfl | (simp only [vcS] <;> omega) | fail) only [↓ptV_l, ↓vcA, vcB, ↓vcD, vcE, ↓reduceIte, Nat.reduceEqDiff, Nat.reduceAdd, Nat.reduceMul, Nat.reduceLeDiff, Int.reduceLE, Int.reduceLT, Int.reduceEq, Int.reduceToNat, Int.reduceAdd, Int.reduceSub, Int.reduceMul, Int.reduceNeg, reduceCtorEq, Option.bind_some, Option.map_some, List.length_cons, List.length_nil, vcM, List.getElem?_toArray, List.getElem?_cons_zero, List.getElem?_cons_succ])
  have hE0 : Ext w (w.alloc (.cells (zc [(32, .int .u8 0)]) 24)) := (Keep.refl _ w).alloc _
  have hp2 : (w.alloc (.cells (zc [(32, .int .u8 0)]) 24)).heap[w.heap.size]? = some (.cells (bv (List.replicate 32 0)).toArray 24 (0, 0)) := heap_new _ _ _ rfl
  generalize World.alloc _ _ = w1 at hE0 hp2 ⊢
  generalize hp2e : w.heap.size = p2 at hp2 ⊢
  (refine W_at c25_ok ?_; refine ⟨_, rfl, ?_⟩; simp (disch := first | omega | assumption | rfl | (simp only [vcS] <;> omega) | fail) only [↓ptV_l, ↓vcA, vcB, ↓vcD, vcE, ↓reduceIte, Nat.reduceEqDiff, Nat.reduceAdd, Nat.reduceMul, Nat.reduceLeDiff, Int.reduceLE, Int.reduceLT, Int.reduceEq, Int.reduceToNat, Int.reduceAdd, Int.reduceSub, Int.reduceMul, Int.reduceNeg, reduceCtorEq, Option.bind_some, Option.map_some, List.length_cons, List.length_nil, vcM, List.getElem?_toArray, List.getElem?_cons_zero, List.getElem?_cons_succ])
  have hE1 : Ext w1 (w1.alloc (.cells (zc [(8, .int .u32 0), (1, .slice none 0 0), (1, .int .u64 0), (1, .bool false)]) 87)) := (Keep.refl _ w1).alloc _
  have hS1 := new_sum w1
  have hp2l := lt_of_heap hp2
  generalize World.alloc _ _ = w2 at hE1 hS1 ⊢
  have hw1l := hE0.size
  generalize w1.heap.size = p3 at hS1 hp2l hw1l ⊢
  have hxlt : bs ≠ [] → ∀ q n c, x = .slice (some q) n c → q.block ≠ p3 := fun h0 q n c e hq => by have := hx.lt h0 q n c e; omega
  (refine W_at c25_ok ?_; refine ⟨_, rfl, ?_⟩; simp (disch := first | omega | assumption | rfl | (simp only [vcS] <;> omega) | fail) only [↓ptV_l, ↓vcA, vcB, ↓vcD, vcE, ↓reduceIte, Nat.reduceEqDiff, Nat.reduceAdd, Nat.reduceMul, Nat.reduceLeDiff, Int.reduceLE, Int.reduceLT, Int.reduceEq, Int.reduceToNat, Int.reduceAdd, Int.reduceSub, Int.reduceMul, Int.reduceNeg, reduceCtorEq, Option.bind_some, Option.map_some, List.length_cons, List.length_nil, vcM, List.getElem?_toArray, List.getElem?_cons_zero, List.getElem?_cons_succ])
  refine callV_ret (add_ok w2 p3 _ x [] bs false hS1 ((hx.ext hE0).ext hE1) hxlt hb byt_nil (by simp; omega)) ?_
  rintro _ w3 ⟨wv, hS3, hK3, hB3⟩
  rw [List.nil_append] at hS3
  have hE3 : Ext w w3 := (hE0.ext hE1).trans hK3 fun i hi hy => by
    rcases hy with e | hy
    · omega
    · cases hy
  have hp23 := hK3.at (hE1.at hp2 fun h => h) (fun hy => by rcases hy with e | hy; omega; cases hy)
  first | (simp (disch := first | omega | assumption | rfl | (simp only [vcS] <;> omega) | fail) only [↓ptV_l, ↓vcA, vcB, ↓vcD, vcE, ↓reduceIte, Nat.reduceEqDiff, Nat.reduceAdd, Nat.reduceMul, Nat.reduceLeDiff, Int.reduceLE, Int.reduceLT, Int.reduceEq, Int.reduceToNat, Int.reduceAdd, Int.reduceSub, Int.reduceMul, Int.reduceNeg, reduceCtorEq, Option.bind_some, Option.map_some, List.length_cons, List.length_nil, vcM, List.getElem?_toArray, List.getElem?_cons_zero, List.getElem?_cons_succ]) | skip
  (refine W_at c25_ok ?_; refine ⟨_, rfl, ?_⟩; simp (disch := first | omega | assumption | rfl | (simp only [vcS] <;> omega) | fail) only [↓ptV_l, ↓vcA, vcB, ↓vcD, vcE, ↓reduceIte, Nat.reduceEqDiff, Nat.reduceAdd, Nat.reduceMul, Nat.reduceLeDiff, Int.reduceLE, Int.reduceLT, Int.reduceEq, Int.reduceToNat, Int.reduceAdd, Int.reduceSub, Int.reduceMul, Int.reduceNeg, reduceCtorEq, Option.bind_some, Option.map_some, List.length_cons, List.length_nil, vcM, List.getElem?_toArray, List.getElem?_cons_zero, List.getElem?_cons_succ])
  refine callV_ret (twice_ok w3 p3 wv bs true hS3 hb (by omega)) ?_
  rintro _ w4 ⟨rfl, hE4⟩
  have s32 : (bv (dblF bs)).toArray.size = 32 := by rw [bva_size, dblF_len]
  have hp24 := hE4.at hp23 (fun h => h)
  have hok : okO (some (.cells (bv (List.replicate 32 0)).toArray 24 (0, 0))) 0 32 = True := by simp only [okO, bva_size, List.length_replicate]; simp
  simp (disch := first | omega | assumption | rfl | (simp only [vcS] <;> omega) | fail) only [↓ptV_l, ↓vcA, vcB, ↓vcD, vcE, ↓reduceIte, Nat.reduceEqDiff, Nat.reduceAdd, Nat.reduceMul, Nat.reduceLeDiff, Int.reduceLE, Int.reduceLT, Int.reduceEq, Int.reduceToNat, Int.reduceAdd, Int.reduceSub, Int.reduceMul, Int.reduceNeg, reduceCtorEq, Option.bind_some, Option.map_some, List.length_cons, List.length_nil, vcM, List.getElem?_toArray, List.getElem?_cons_zero, List.getElem?_cons_succ, s32, hp24, hok]
  have k5 : Keep (fun y => y = p2) w4 (w4.putN p2 0 (bv (dblF bs)).toArray) := (Keep.refl _ w4).putN _ fun _ => rfl
  have hp25 : (w4.putN p2 0 (bv (dblF bs)).toArray).heap[p2]? = some (.cells (bv (dblF bs)).toArray 24 (0, 0)) := by
    rw [heap_putN_eq hp24, splice_all (by rw [bva_size, bva_size, dblF_len]; rfl)]
  refine ⟨bv_flat _, ?_⟩
  generalize World.putN _ _ _ _ = w5 at k5 hp25 ⊢
  have hr32 : rdO (some (.cells (bv (dblF bs)).toArray 24 (0, 0))) 0 32 = some (bv (dblF bs)).toArray := rdO_all _ _ _ _ s32
  (refine W_at c25_ok ?_; refine ⟨_, rfl, ?_⟩; simp (disch := first | omega | assumption | rfl | (simp only [vcS] <;> omega) | fail) only [↓ptV_l, ↓vcA, vcB, ↓vcD, vcE, ↓reduceIte, Nat.reduceEqDiff, Nat.reduceAdd, Nat.reduceMul, Nat.reduceLeDiff, Int.reduceLE, Int.reduceLT, Int.reduceEq, Int.reduceToNat, Int.reduceAdd, Int.reduceSub, Int.reduceMul, Int.reduceNeg, reduceCtorEq, Option.bind_some, Option.map_some, List.length_cons, List.length_nil, vcM, List.getElem?_toArray, List.getElem?_cons_zero, List.getElem?_cons_succ, Ret_returned, hp25, hr32])
  exact (hE3.ext hE4).trans k5 fun i hi e => by omega
end Go.Proofs
namespace Go.Proofs
open Go.Vc
set_option maxRecDepth 10000

structure TxI where
  prev : List Int
  idx : Int
  script : List Int
  seq : Int
  wit : List (List Int)
structure TxO where
  val : Int
  script : List Int
structure TxV where
  ver : Int
  ins : List TxI
  outs : List TxO
  lock : Int
def encI (x : TxI) : List Int := x.prev ++ lowF 4 x.idx ++ (sizeF x.script.length ++ x.script) ++ lowF 4 x.seq
def encO (y : TxO) : List Int := lowF 8 (y.val % 18446744073709551616) ++ (sizeF y.script.length ++ y.script)
/-- A transaction's bytes, without its witnesses. -/
def encF (t : TxV) : List Int := lowF 4 (t.ver % 4294967296) ++ sizeF t.ins.length ++ t.ins.flatMap encI ++ sizeF t.outs.length ++ t.outs.flatMap encO ++ lowF 4 t.lock
structure TxI.Ok (x : TxI) : Prop where
  len : x.prev.length = 32
  prev : byt x.prev
  idx : 0 ≤ x.idx ∧ x.idx ≤ 4294967295
  script : byt x.script
  seq : 0 ≤ x.seq ∧ x.seq ≤ 4294967295
  wit : ∀ b ∈ x.wit, byt b
structure TxO.Ok (y : TxO) : Prop where
  val : -9223372036854775808 ≤ y.val ∧ y.val ≤ 9223372036854775807
  script : byt y.script
structure TxV.Ok (t : TxV) : Prop where
  ver : -2147483648 ≤ t.ver ∧ t.ver ≤ 2147483647
  ins : ∀ x ∈ t.ins, x.Ok
  outs : ∀ y ∈ t.outs, y.Ok
  lock : 0 ≤ t.lock ∧ t.lock ≤ 4294967295

/-! ### As they are read -/
/-- Rows of bytes, read. -/
def RowR (w : World) (v : Value) (ps : List (List Int)) : Prop := ∃ vs : List Value, rdS w 1 v = some vs.toArray ∧ vs.length = ps.length ∧ (∃ q c, v = .slice q ps.length c ∧ ps.length ≤ c) ∧ ps.length ≤ maxLen ∧ ∀ i (h : i < vs.length) (h' : i < ps.length), Rd w vs[i] ps[i]
theorem RowR.ext {w w' : World} {v : Value} {ps : List (List Int)} (h : RowR w v ps) (k : Ext w w') : RowR w' v ps := by
  obtain ⟨vs, h1, h2, ⟨q, c, e, hc⟩, h4, h5⟩ := h
  subst e
  exact ⟨vs, rdS_keep h1 k fun _ _ h => h, h2, ⟨q, c, rfl, hc⟩, h4, fun i a b => (h5 i a b).ext k⟩
theorem RowR.len {w : World} {v : Value} {ps : List (List Int)} (h : RowR w v ps) : lenR v = some (.int .i64 (ps.length : Nat)) := by
  obtain ⟨vs, _, _, ⟨q, c, e, _⟩, _⟩ := h
  rw [e]; rfl
theorem RowR.one {w : World} {v : Value} {ps : List (List Int)} (h : RowR w v ps) : v.oneCell' = true := by
  obtain ⟨vs, _, _, ⟨q, c, e, _⟩, _⟩ := h
  rw [e]; rfl
theorem RowR.nil (w : World) : RowR w (.slice none 0 0) [] := ⟨[], rfl, rfl, ⟨none, 0, rfl, Nat.le_refl _⟩, Nat.zero_le _, fun i h => by simp at h⟩
theorem flat1_list (vs : List Value) : (vs.map fun v => (#[v] : Array Value)).flatMap Array.toList = vs := by
  induction vs with
  | nil => rfl
  | cons v vs ih => simp only [List.map_cons, List.flatMap_cons, ih]; rfl
theorem RowR.at {w : World} {v : Value} {ps : List (List Int)} (h : RowR w v ps) {i : Nat} (hi : i < ps.length) : ∃ b o c x, v = .slice (some ⟨b, o, none⟩) ps.length c ∧ cellO w.heap[b]? (o + i) = some x ∧ Rd w x ps[i] := by
  obtain ⟨vs, h1, h2, ⟨q, c, e, hc⟩, h4, h5⟩ := h
  subst e
  have hf := flat1_list vs
  rw [← hf] at h1
  obtain ⟨b, o, hq, h6⟩ := rdS_at (size := 1) (xs := vs.map fun v => #[v]) h1 (by rw [List.length_map]; exact h2) (fun x hx => by obtain ⟨y, _, rfl⟩ := List.mem_map.1 hx; rfl) hi
  have h7 := rdO_cell h6 (j := 0) (by omega)
  rw [Nat.add_zero, Nat.mul_one] at h7
  have hiv : i < vs.length := by omega
  simp only [List.getElem_map] at h7
  refine ⟨b, o, c, vs[i], by rw [hq], ?_, h5 i hiv hi⟩
  rw [h7]; rfl
/-- The cells of an input, of an output. -/
def iC (x : TxI) (sv wv : Value) : Array Value := (bv x.prev ++ [.int .u32 x.idx, sv, .int .u32 x.seq, wv]).toArray
def oC (y : TxO) (sv : Value) : Array Value := #[.int .i64 y.val, sv]
def InAt (w : World) (c : Array Value) (x : TxI) : Prop := ∃ sv wv, c = iC x sv wv ∧ Rd w sv x.script ∧ RowR w wv x.wit
def OuAt (w : World) (c : Array Value) (y : TxO) : Prop := ∃ sv, c = oC y sv ∧ Rd w sv y.script
theorem InAt.ext {w w' : World} {c : Array Value} {x : TxI} (h : InAt w c x) (k : Ext w w') : InAt w' c x := by
  obtain ⟨sv, wv, h1, h2, h3⟩ := h
  exact ⟨sv, wv, h1, h2.ext k, h3.ext k⟩
theorem OuAt.ext {w w' : World} {c : Array Value} {y : TxO} (h : OuAt w c y) (k : Ext w w') : OuAt w' c y := by
  obtain ⟨sv, h1, h2⟩ := h
  exact ⟨sv, h1, h2.ext k⟩
theorem iC_size {x : TxI} (hx : x.prev.length = 32) (sv wv : Value) : (iC x sv wv).size = 36 := by simp [iC, bv_len, hx]
theorem iC_flat {x : TxI} {sv wv : Value} (h1 : sv.oneCell' = true) (h2 : wv.oneCell' = true) : flat (iC x sv wv) := by
  intro y hy
  simp only [iC, List.mem_toArray, List.mem_append, List.mem_cons, List.not_mem_nil, or_false] at hy
  rcases hy with hy | rfl | rfl | rfl | rfl
  · exact bv_flat x.prev y (by simpa using hy)
  · rfl
  · exact h1
  · rfl
  · exact h2
theorem oC_flat {y : TxO} {sv : Value} (h : sv.oneCell' = true) : flat (oC y sv) := by
  rw [oC, flat_2]; exact ⟨rfl, h⟩
theorem iC_32 {x : TxI} (hx : x.prev.length = 32) (sv wv : Value) : (iC x sv wv)[32]? = some (.int .u32 x.idx) := by
  simp [iC, List.getElem?_append_right, bv_len, hx]
theorem iC_33 {x : TxI} (hx : x.prev.length = 32) (sv wv : Value) : (iC x sv wv)[33]? = some sv := by
  simp [iC, List.getElem?_append_right, bv_len, hx]
theorem iC_34 {x : TxI} (hx : x.prev.length = 32) (sv wv : Value) : (iC x sv wv)[34]? = some (.int .u32 x.seq) := by
  simp [iC, List.getElem?_append_right, bv_len, hx]
theorem iC_35 {x : TxI} (hx : x.prev.length = 32) (sv wv : Value) : (iC x sv wv)[35]? = some wv := by
  simp [iC, List.getElem?_append_right, bv_len, hx]
theorem iC_set33 {x : TxI} (hx : x.prev.length = 32) (sv wv v : Value) : (iC x sv wv).setIfInBounds 33 v = iC x v wv := by
  simp [iC, List.set_append_right, bv_len, hx]
theorem iC_set35 {x : TxI} (hx : x.prev.length = 32) (sv wv v : Value) : (iC x sv wv).setIfInBounds 35 v = iC x sv v := by
  simp [iC, List.set_append_right, bv_len, hx]
/-- A slice of inputs, of outputs, read. -/
def ListR {α : Type} (R : World → Array Value → α → Prop) (size : Nat) (w : World) (v : Value) (l : List α) : Prop :=
  ∃ cs : List (Array Value), cs.length = l.length ∧ (∀ c ∈ cs, c.size = size) ∧ rdS w size v = some (cs.flatMap Array.toList).toArray ∧ (∃ q c, v = .slice q l.length c ∧ l.length ≤ c) ∧ l.length ≤ maxLen ∧ ∀ i (h : i < cs.length) (h' : i < l.length), R w cs[i] l[i]
theorem ListR.ext {α : Type} {R : World → Array Value → α → Prop} {size : Nat} {w w' : World} {v : Value} {l : List α} (h : ListR R size w v l) (k : Ext w w') (hR : ∀ c x, R w c x → R w' c x) : ListR R size w' v l := by
  obtain ⟨cs, h1, h2, h3, ⟨q, c, e, hc⟩, h4, h5⟩ := h
  subst e
  exact ⟨cs, h1, h2, rdS_keep h3 k fun _ _ h => h, ⟨q, c, rfl, hc⟩, h4, fun i a b => hR _ _ (h5 i a b)⟩
theorem ListR.len {α : Type} {R : World → Array Value → α → Prop} {size : Nat} {w : World} {v : Value} {l : List α} (h : ListR R size w v l) : lenR v = some (.int .i64 (l.length : Nat)) := by
  obtain ⟨vs, _, _, _, ⟨q, c, e, _⟩, _⟩ := h
  rw [e]; rfl
theorem ListR.one {α : Type} {R : World → Array Value → α → Prop} {size : Nat} {w : World} {v : Value} {l : List α} (h : ListR R size w v l) : v.oneCell' = true := by
  obtain ⟨vs, _, _, _, ⟨q, c, e, _⟩, _⟩ := h
  rw [e]; rfl
theorem ListR.at {α : Type} {R : World → Array Value → α → Prop} {size : Nat} {w : World} {v : Value} {l : List α} (h : ListR R size w v l) {i : Nat} (hi : i < l.length) :
    ∃ b o c cs, v = .slice (some ⟨b, o, none⟩) l.length c ∧ rdO w.heap[b]? (o + i * size) size = some cs ∧ cs.size = size ∧ R w cs l[i] := by
  obtain ⟨cs, h1, h2, h3, ⟨q, c, e, hc⟩, h4, h5⟩ := h
  subst e
  obtain ⟨b, o, hq, h6⟩ := rdS_at h3 h1 h2 hi
  have hic : i < cs.length := by omega
  exact ⟨b, o, c, cs[i], by rw [hq], h6, h2 _ (List.getElem_mem hic), h5 i hic hi⟩
theorem ListR.nil {α : Type} (R : World → Array Value → α → Prop) (size : Nat) (w : World) : ListR R size w (.slice none 0 0) [] := ⟨[], rfl, fun c h => (by cases h), rfl, ⟨none, 0, rfl, Nat.le_refl _⟩, Nat.zero_le _, fun i h => by simp at h⟩
abbrev InsR (w : World) (v : Value) (l : List TxI) : Prop := ListR InAt 36 w v l
abbrev OusR (w : World) (v : Value) (l : List TxO) : Prop := ListR OuAt 2 w v l
def txC (t : TxV) (iv ov : Value) : Array Value := #[.int .i32 t.ver, iv, ov, .int .u32 t.lock]
structure TxR (w : World) (iv ov : Value) (t : TxV) : Prop where
  ins : InsR w iv t.ins
  outs : OusR w ov t.outs
theorem TxR.ext {w w' : World} {iv ov : Value} {t : TxV} (h : TxR w iv ov t) (k : Ext w w') : TxR w' iv ov t := ⟨ListR.ext h.ins k fun _ _ h => h.ext k, ListR.ext h.outs k fun _ _ h => h.ext k⟩
end Go.Proofs
namespace Go.Proofs
open Go.Vc
set_option maxRecDepth 10000

theorem iC_rd32 {w : World} {g : Nat} {x : TxI} {sv wv : Value} {T : TypeId} (hx : x.prev.length = 32) (h : w.heap[g]? = some (.cells (iC x sv wv) T (0, 0))) : Rd w (.slice (some ⟨g, 0, none⟩) 32 32) x.prev := by
  refine ⟨⟨_, 32, by rw [hx], by omega⟩, by rw [hx]; decide, ?_⟩
  simp only [rdS]
  rw [if_neg (by omega), rdN_heap, h, rdO_some _ _ _ _ _ (by rw [iC_size hx]; omega)]
  congr 1
  apply Array.ext'
  simp [iC, List.take_append, bv_len, hx]
/-- A writer behind many steps. -/
structure WMid (w0 w : World) (p : Nat) (v : Value) (bs : List Int) : Prop where
  at' : WAt w p v bs
  ext : Ext w0 w
  pl : w0.heap.size ≤ p
  bl : ∀ g, blk v g → w0.heap.size ≤ g
theorem WMid.go {w0 w w1 : World} {p : Nat} {v : Value} {bs bs' : List Int} (h : WMid w0 w p v bs) (hT : WTo w w1 p v bs') : ∃ v', WMid w0 w1 p v' bs' := by
  obtain ⟨⟨v', h1, h2⟩, hk⟩ := hT
  refine ⟨v', h1, h.ext.trans hk fun i hi hs => ?_, h.pl, fun g hg => ?_⟩
  · rcases hs with rfl | hs
    · have := h.pl; omega
    · have := h.bl i hs; omega
  · rcases h2 g hg with h3 | h3
    · exact h.bl g h3
    · exact Nat.le_trans h.ext.size h3
theorem WMid.grow {w0 w w1 : World} {p : Nat} {v : Value} {bs : List Int} (h : WMid w0 w p v bs) (k : Ext w w1) : WMid w0 w1 p v bs := ⟨h.at'.keep k (fun h => h) (fun _ _ h => h), h.ext.ext k, h.pl, h.bl⟩
/-- What was there ahead of the writer is read as ever. -/
theorem WMid.rd {w0 w : World} {p : Nat} {v x : Value} {bs news : List Int} (h : WMid w0 w p v bs) (hx : Rd w0 x news) : ∀ w', Keep (WS p v) w w' → Rd w' x news := fun w' k =>
  hx.ext (h.ext.trans k fun i hi hs => by
    rcases hs with rfl | hs
    · have := h.pl; omega
    · have := h.bl i hs; omega)
theorem WAt.ne_box {w : World} {p : Nat} {v : Value} {bs : List Int} (h : WAt w p v bs) {g : Nat} {c : Array Value} {T : TypeId} (hg : w.heap[g]? = some (.cells c T (0, 0))) (h1 : T ≠ 91) (h2 : T ≠ 5) : ¬ WS p v g := fun hs => by
  rcases hs with rfl | hs
  · rw [h.at'] at hg; cases hg; exact h1 rfl
  · obtain ⟨c', hc⟩ := row_type h.own hs
    rw [hg] at hc; cases hc; exact h2 rfl
theorem WTo.at {w w' : World} {p : Nat} {v : Value} {bs bs' : List Int} (h : WTo w w' p v bs') (hW : WAt w p v bs) {g : Nat} {c : Array Value} {T : TypeId} (hg : w.heap[g]? = some (.cells c T (0, 0))) (h1 : T ≠ 91) (h2 : T ≠ 5) : w'.heap[g]? = some (.cells c T (0, 0)) :=
  h.keep.at hg (hW.ne_box hg h1 h2)
theorem take_flat {α : Type} (f : α → List Int) {l : List α} {i : Nat} (h : i < l.length) : (l.take (i + 1)).flatMap f = (l.take i).flatMap f ++ f l[i] := by
  rw [List.take_add_one, List.getElem?_eq_getElem h, List.flatMap_append]
  simp
theorem rdO_ext' {w w' : World} (k : Ext w w') {g o n : Nat} {c : Array Value} (h : rdO w.heap[g]? o n = some c) : rdO w'.heap[g]? o n = some c := by
  cases hg : w.heap[g]? with
  | none => rw [hg] at h; cases h
  | some x => rw [k.at hg (fun h => h), ← hg]; exact h
theorem encI_len {x : TxI} (h : x.prev.length = 32) : (encI x).length ≤ 49 + x.script.length := by
  have := (sizeF_len (n := (x.script.length : Int))).2
  simp only [encI, List.length_append, lowF_len, h]; omega
theorem encO_len (y : TxO) : (encO y).length ≤ 17 + y.script.length := by
  have := (sizeF_len (n := (y.script.length : Int))).2
  simp only [encO, List.length_append, lowF_len]; omega
/-- A transaction of bounded parts. -/
structure TxV.Few (t : TxV) (n m : Nat) : Prop where
  ins : t.ins.length ≤ n
  outs : t.outs.length ≤ n
  iscr : ∀ x ∈ t.ins, x.script.length ≤ m
  oscr : ∀ y ∈ t.outs, y.script.length ≤ m
theorem flatI_len {l : List TxI} {m : Nat} (h1 : ∀ x ∈ l, x.prev.length = 32) (h2 : ∀ x ∈ l, x.script.length ≤ m) : (l.flatMap encI).length ≤ (49 + m) * l.length := by
  induction l with
  | nil => simp
  | cons x l ih =>
    have a := encI_len (h1 x (by simp))
    have b := h2 x (by simp)
    have c := ih (fun y hy => h1 y (by simp [hy])) (fun y hy => h2 y (by simp [hy]))
    rw [List.flatMap_cons, List.length_append, List.length_cons, Nat.mul_add]
    omega
theorem flatO_len {l : List TxO} {m : Nat} (h2 : ∀ x ∈ l, x.script.length ≤ m) : (l.flatMap encO).length ≤ (17 + m) * l.length := by
  induction l with
  | nil => simp
  | cons x l ih =>
    have a := encO_len x
    have b := h2 x (by simp)
    have c := ih (fun y hy => h2 y (by simp [hy]))
    rw [List.flatMap_cons, List.length_append, List.length_cons, Nat.mul_add]
    omega
theorem new_writer (w : World) : WMid w (w.alloc (.cells (zc [(1, .slice none 0 0)]) 91)) w.heap.size (.slice none 0 0) [] :=
  ⟨⟨heap_new _ _ _ rfl, Own1.nil _⟩, (Keep.refl _ w).alloc _, Nat.le_refl _, fun g hg => by cases hg⟩
set_option maxHeartbeats 3200000 in
theorem encode_ok (w : World) (iv ov : Value) (t : TxV) (h : TxR w iv ov t) (ht : t.Ok) (hf : t.Few 100 1000) :
    Calls Try.prog 26 #[.agg (txC t iv ov), .bool false] w (Ret fun u w' => New w w' u (encF t)) := by
  refine calls_of_cfg c26_ok (Nat.le_of_ble_eq_true rfl) ?_
  simp only [argE_nil, argE_cons, Nat.reduceAdd, Nat.zero_add]
  have hi1 := h.ins.one
  have ho1 := h.outs.one
  (refine W_at c26_ok ?_; refine ⟨_, rfl, ?_⟩; simp (disch := first | omega | assumption | rfl | (simp only [vcS] <;> omega) | fail) only [↓ptV_l, ↓vcA, vcB, ↓vcD, vcE, ↓reduceIte, Nat.reduceEqDiff, Nat.reduceAdd, Nat.reduceMul, Nat.reduceLeDiff, Int.reduceLE, Int.reduceLT, Int.reduceEq, Int.reduceToNat, Int.reduceAdd, Int.reduceSub, Int.reduceMul, Int.reduceNeg, reduceCtorEq, Option.bind_some, Option.map_some, List.length_cons, List.length_nil, vcM, List.getElem?_toArray, List.getElem?_cons_zero, List.getElem?_cons_succ])
  have hE0 : Ext w (w.alloc (.cells (txC t iv ov) 40)) := (Keep.refl _ w).alloc _
  have hp2 : (w.alloc (.cells (txC t iv ov) 40)).heap[w.heap.size]? = some (.cells (txC t iv ov) 40 (0, 0)) := heap_new _ _ _ rfl
  generalize World.alloc _ _ = w1 at hE0 hp2 ⊢
  generalize hp2e : w.heap.size = p2 at hp2 ⊢
  have hw1 := hE0.size
  have h1 := h.ext hE0
  (refine W_at c26_ok ?_; refine ⟨_, rfl, ?_⟩; simp (disch := first | omega | assumption | rfl | (simp only [vcS] <;> omega) | fail) only [↓ptV_l, ↓vcA, vcB, ↓vcD, vcE, ↓reduceIte, Nat.reduceEqDiff, Nat.reduceAdd, Nat.reduceMul, Nat.reduceLeDiff, Int.reduceLE, Int.reduceLT, Int.reduceEq, Int.reduceToNat, Int.reduceAdd, Int.reduceSub, Int.reduceMul, Int.reduceNeg, reduceCtorEq, Option.bind_some, Option.map_some, List.length_cons, List.length_nil, vcM, List.getElem?_toArray, List.getElem?_cons_zero, List.getElem?_cons_succ])
  have hW := new_writer w1
  have hp22 := hW.ext.at hp2 (fun h => h)
  have hp2l := lt_of_heap hp2
  generalize World.alloc _ _ = w2 at hW hp22 ⊢
  generalize hp5e : w1.heap.size = p5 at hW hp2l ⊢
  (refine W_at c26_ok ?_; refine ⟨_, rfl, ?_⟩; simp (disch := first | omega | assumption | rfl | (simp only [vcS] <;> omega) | fail) only [↓ptV_l, ↓vcA, vcB, ↓vcD, vcE, ↓reduceIte, Nat.reduceEqDiff, Nat.reduceAdd, Nat.reduceMul, Nat.reduceLeDiff, Int.reduceLE, Int.reduceLT, Int.reduceEq, Int.reduceToNat, Int.reduceAdd, Int.reduceSub, Int.reduceMul, Int.reduceNeg, reduceCtorEq, Option.bind_some, Option.map_some, List.length_cons, List.length_nil, vcM, List.getElem?_toArray, List.getElem?_cons_zero, List.getElem?_cons_succ])
  have t0 : (txC t iv ov)[0]? = some (.int .i32 t.ver) := rfl
  have t1 : (txC t iv ov)[1]? = some iv := rfl
  have t2 : (txC t iv ov)[2]? = some ov := rfl
  have t3 : (txC t iv ov)[3]? = some (.int .u32 t.lock) := rfl
  have hv32 : IntKind.u32.wrap t.ver = t.ver % 4294967296 := wrap_u32 _
  (refine W_at c26_ok ?_; refine ⟨_, rfl, ?_⟩; simp (disch := first | omega | assumption | rfl | (simp only [vcS] <;> omega) | fail) only [↓ptV_l, ↓vcA, vcB, ↓vcD, vcE, ↓reduceIte, Nat.reduceEqDiff, Nat.reduceAdd, Nat.reduceMul, Nat.reduceLeDiff, Int.reduceLE, Int.reduceLT, Int.reduceEq, Int.reduceToNat, Int.reduceAdd, Int.reduceSub, Int.reduceMul, Int.reduceNeg, reduceCtorEq, Option.bind_some, Option.map_some, List.length_cons, List.length_nil, vcM, List.getElem?_toArray, List.getElem?_cons_zero, List.getElem?_cons_succ, hp22, t0, hv32])
  refine callV_ret (u32_ok w2 p5 _ [] (t.ver % 4294967296) hW.at' (by simp) (by omega)) ?_
  intro _ w3 hT
  obtain ⟨v3, hW3⟩ := hW.go hT
  rw [List.nil_append] at hW3
  first | (simp (disch := first | omega | assumption | rfl | (simp only [vcS] <;> omega) | fail) only [↓ptV_l, ↓vcA, vcB, ↓vcD, vcE, ↓reduceIte, Nat.reduceEqDiff, Nat.reduceAdd, Nat.reduceMul, Nat.reduceLeDiff, Int.reduceLE, Int.reduceLT, Int.reduceEq, Int.reduceToNat, Int.reduceAdd, Int.reduceSub, Int.reduceMul, Int.reduceNeg, reduceCtorEq, Option.bind_some, Option.map_some, List.length_cons, List.length_nil, vcM, List.getElem?_toArray, List.getElem?_cons_zero, List.getElem?_cons_succ]) | skip
  (refine W_at c26_ok ?_; refine ⟨_, rfl, ?_⟩; simp (disch := first | omega | assumption | rfl | (simp only [vcS] <;> omega) | fail) only [↓ptV_l, ↓vcA, vcB, ↓vcD, vcE, ↓reduceIte, Nat.reduceEqDiff, Nat.reduceAdd, Nat.reduceMul, Nat.reduceLeDiff, Int.reduceLE, Int.reduceLT, Int.reduceEq, Int.reduceToNat, Int.reduceAdd, Int.reduceSub, Int.reduceMul, Int.reduceNeg, reduceCtorEq, Option.bind_some, Option.map_some, List.length_cons, List.length_nil, vcM, List.getElem?_toArray, List.getElem?_cons_zero, List.getElem?_cons_succ])
  (refine W_at c26_ok ?_; refine ⟨_, rfl, ?_⟩; simp (disch := first | omega | assumption | rfl | (simp only [vcS] <;> omega) | fail) only [↓ptV_l, ↓vcA, vcB, ↓vcD, vcE, ↓reduceIte, Nat.reduceEqDiff, Nat.reduceAdd, Nat.reduceMul, Nat.reduceLeDiff, Int.reduceLE, Int.reduceLT, Int.reduceEq, Int.reduceToNat, Int.reduceAdd, Int.reduceSub, Int.reduceMul, Int.reduceNeg, reduceCtorEq, Option.bind_some, Option.map_some, List.length_cons, List.length_nil, vcM, List.getElem?_toArray, List.getElem?_cons_zero, List.getElem?_cons_succ])
  have hp23 := hW3.ext.at hp2 (fun h => h)
  have hlI := h.ins.len
  have hlO := h.outs.len
  have huI : IntKind.u64.wrap ((t.ins.length : Nat) : Int) = (t.ins.length : Nat) := by have := hf.ins; rw [wrap_u64]; omega
  have huO : IntKind.u64.wrap ((t.outs.length : Nat) : Int) = (t.outs.length : Nat) := by have := hf.outs; rw [wrap_u64]; omega
  (refine W_at c26_ok ?_; refine ⟨_, rfl, ?_⟩; simp (disch := first | omega | assumption | rfl | (simp only [vcS] <;> omega) | fail) only [↓ptV_l, ↓vcA, vcB, ↓vcD, vcE, ↓reduceIte, Nat.reduceEqDiff, Nat.reduceAdd, Nat.reduceMul, Nat.reduceLeDiff, Int.reduceLE, Int.reduceLT, Int.reduceEq, Int.reduceToNat, Int.reduceAdd, Int.reduceSub, Int.reduceMul, Int.reduceNeg, reduceCtorEq, Option.bind_some, Option.map_some, List.length_cons, List.length_nil, vcM, List.getElem?_toArray, List.getElem?_cons_zero, List.getElem?_cons_succ, hp23, t1, hlI, huI])
  refine callV_ret (size_ok w3 p5 v3 _ (t.ins.length : Nat) hW3.at' (by rw [lowF_len]; omega) (by omega)) ?_
  intro _ w4 hT
  obtain ⟨v4, hW4⟩ := hW3.go hT
  have hp24 := hW4.ext.at hp2 (fun h => h)
  first | (simp (disch := first | omega | assumption | rfl | (simp only [vcS] <;> omega) | fail) only [↓ptV_l, ↓vcA, vcB, ↓vcD, vcE, ↓reduceIte, Nat.reduceEqDiff, Nat.reduceAdd, Nat.reduceMul, Nat.reduceLeDiff, Int.reduceLE, Int.reduceLT, Int.reduceEq, Int.reduceToNat, Int.reduceAdd, Int.reduceSub, Int.reduceMul, Int.reduceNeg, reduceCtorEq, Option.bind_some, Option.map_some, List.length_cons, List.length_nil, vcM, List.getElem?_toArray, List.getElem?_cons_zero, List.getElem?_cons_succ]) | skip
  (refine W_at c26_ok ?_; refine ⟨_, rfl, ?_⟩; simp (disch := first | omega | assumption | rfl | (simp only [vcS] <;> omega) | fail) only [↓ptV_l, ↓vcA, vcB, ↓vcD, vcE, ↓reduceIte, Nat.reduceEqDiff, Nat.reduceAdd, Nat.reduceMul, Nat.reduceLeDiff, Int.reduceLE, Int.reduceLT, Int.reduceEq, Int.reduceToNat, Int.reduceAdd, Int.reduceSub, Int.reduceMul, Int.reduceNeg, reduceCtorEq, Option.bind_some, Option.map_some, List.length_cons, List.length_nil, vcM, List.getElem?_toArray, List.getElem?_cons_zero, List.getElem?_cons_succ, hp24, t1, hlI])
  have hbI := flatI_len (l := t.ins) (m := 1000) (fun x hx => (ht.ins x hx).len) hf.iscr
  have hbO := flatO_len (l := t.outs) (m := 1000) hf.oscr
  have hnI := hf.ins
  have hnO := hf.outs
  have hsI := (sizeF_len (n := (t.ins.length : Int))).2
  have hsO := (sizeF_len (n := (t.outs.length : Int))).2
  have hl4 := lowF_len 4 (t.ver % 4294967296)
  -- the outputs, and the end
  have outs : ∀ (wj : World) (vj : Value) (tl : Env), WMid w1 wj p5 vj (lowF 4 (t.ver % 4294967296) ++ sizeF (t.ins.length : Nat) ++ t.ins.flatMap encI) →
      W Try.prog (Ret fun u w' => New w w' u (encF t)) 26 28 ((1, .bool false) :: (2, .pointer (some ⟨p2, 0, none⟩)) :: (5, .pointer (some ⟨p5, 0, none⟩)) :: tl) wj := by
    intro wj vj tl hWj
    have hp2j := hWj.ext.at hp2 (fun h => h)
    (refine W_at c26_ok ?_; refine ⟨_, rfl, ?_⟩; simp (disch := first | omega | assumption | rfl | (simp only [vcS] <;> omega) | fail) only [↓ptV_l, ↓vcA, vcB, ↓vcD, vcE, ↓reduceIte, Nat.reduceEqDiff, Nat.reduceAdd, Nat.reduceMul, Nat.reduceLeDiff, Int.reduceLE, Int.reduceLT, Int.reduceEq, Int.reduceToNat, Int.reduceAdd, Int.reduceSub, Int.reduceMul, Int.reduceNeg, reduceCtorEq, Option.bind_some, Option.map_some, List.length_cons, List.length_nil, vcM, List.getElem?_toArray, List.getElem?_cons_zero, List.getElem?_cons_succ, hp2j, t2, hlO, huO])
    refine callV_ret (size_ok wj p5 vj _ (t.outs.length : Nat) hWj.at' (by simp only [List.length_append]; omega) (by omega)) ?_
    intro _ wk hT
    obtain ⟨vk, hWk⟩ := hWj.go hT
    have hp2k := hWk.ext.at hp2 (fun h => h)
    first | (simp (disch := first | omega | assumption | rfl | (simp only [vcS] <;> omega) | fail) only [↓ptV_l, ↓vcA, vcB, ↓vcD, vcE, ↓reduceIte, Nat.reduceEqDiff, Nat.reduceAdd, Nat.reduceMul, Nat.reduceLeDiff, Int.reduceLE, Int.reduceLT, Int.reduceEq, Int.reduceToNat, Int.reduceAdd, Int.reduceSub, Int.reduceMul, Int.reduceNeg, reduceCtorEq, Option.bind_some, Option.map_some, List.length_cons, List.length_nil, vcM, List.getElem?_toArray, List.getElem?_cons_zero, List.getElem?_cons_succ]) | skip
    (refine W_at c26_ok ?_; refine ⟨_, rfl, ?_⟩; simp (disch := first | omega | assumption | rfl | (simp only [vcS] <;> omega) | fail) only [↓ptV_l, ↓vcA, vcB, ↓vcD, vcE, ↓reduceIte, Nat.reduceEqDiff, Nat.reduceAdd, Nat.reduceMul, Nat.reduceLeDiff, Int.reduceLE, Int.reduceLT, Int.reduceEq, Int.reduceToNat, Int.reduceAdd, Int.reduceSub, Int.reduceMul, Int.reduceNeg, reduceCtorEq, Option.bind_some, Option.map_some, List.length_cons, List.length_nil, vcM, List.getElem?_toArray, List.getElem?_cons_zero, List.getElem?_cons_succ, hp2k, t2, hlO])
    have L2 : ∀ (k i : Nat) (wj : World) (vj : Value), i + k = t.outs.length → WMid w1 wj p5 vj (lowF 4 (t.ver % 4294967296) ++ sizeF (t.ins.length : Nat) ++ t.ins.flatMap encI ++ sizeF (t.outs.length : Nat) ++ (t.outs.take i).flatMap encO) →
        W Try.prog (Ret fun u w' => New w w' u (encF t)) 26 26 [(1, .bool false), (2, .pointer (some ⟨p2, 0, none⟩)), (5, .pointer (some ⟨p5, 0, none⟩)), (59, ov), (60, .int .i64 (t.outs.length : Nat)), (61, .int .i64 (i : Nat))] wj := by
      intro k
      induction k with
      | zero =>
        intro i wj vj hi hWj
        obtain rfl : i = t.outs.length := by omega
        rw [List.take_length] at hWj
        have hno : ¬ ((t.outs.length : Nat) : Int) < (t.outs.length : Nat) := by omega
        have hp2j := hWj.ext.at hp2 (fun h => h)
        (refine W_at c26_ok ?_; refine ⟨_, rfl, ?_⟩; simp (disch := first | omega | assumption | rfl | (simp only [vcS] <;> omega) | fail) only [↓ptV_l, ↓vcA, vcB, ↓vcD, vcE, ↓reduceIte, Nat.reduceEqDiff, Nat.reduceAdd, Nat.reduceMul, Nat.reduceLeDiff, Int.reduceLE, Int.reduceLT, Int.reduceEq, Int.reduceToNat, Int.reduceAdd, Int.reduceSub, Int.reduceMul, Int.reduceNeg, reduceCtorEq, Option.bind_some, Option.map_some, List.length_cons, List.length_nil, vcM, List.getElem?_toArray, List.getElem?_cons_zero, List.getElem?_cons_succ, hno])
        (refine W_at c26_ok ?_; refine ⟨_, rfl, ?_⟩; simp (disch := first | omega | assumption | rfl | (simp only [vcS] <;> omega) | fail) only [↓ptV_l, ↓vcA, vcB, ↓vcD, vcE, ↓reduceIte, Nat.reduceEqDiff, Nat.reduceAdd, Nat.reduceMul, Nat.reduceLeDiff, Int.reduceLE, Int.reduceLT, Int.reduceEq, Int.reduceToNat, Int.reduceAdd, Int.reduceSub, Int.reduceMul, Int.reduceNeg, reduceCtorEq, Option.bind_some, Option.map_some, List.length_cons, List.length_nil, vcM, List.getElem?_toArray, List.getElem?_cons_zero, List.getElem?_cons_succ])
        (refine W_at c26_ok ?_; refine ⟨_, rfl, ?_⟩; simp (disch := first | omega | assumption | rfl | (simp only [vcS] <;> omega) | fail) only [↓ptV_l, ↓vcA, vcB, ↓vcD, vcE, ↓reduceIte, Nat.reduceEqDiff, Nat.reduceAdd, Nat.reduceMul, Nat.reduceLeDiff, Int.reduceLE, Int.reduceLT, Int.reduceEq, Int.reduceToNat, Int.reduceAdd, Int.reduceSub, Int.reduceMul, Int.reduceNeg, reduceCtorEq, Option.bind_some, Option.map_some, List.length_cons, List.length_nil, vcM, List.getElem?_toArray, List.getElem?_cons_zero, List.getElem?_cons_succ])
        (refine W_at c26_ok ?_; refine ⟨_, rfl, ?_⟩; simp (disch := first | omega | assumption | rfl | (simp only [vcS] <;> omega) | fail) only [↓ptV_l, ↓vcA, vcB, ↓vcD, vcE, ↓reduceIte, Nat.reduceEqDiff, Nat.reduceAdd, Nat.reduceMul, Nat.reduceLeDiff, Int.reduceLE, Int.reduceLT, Int.reduceEq, Int.reduceToNat, Int.reduceAdd, Int.reduceSub, Int.reduceMul, Int.reduceNeg, reduceCtorEq, Option.bind_some, Option.map_some, List.length_cons, List.length_nil, vcM, List.getElem?_toArray, List.getElem?_cons_zero, List.getElem?_cons_succ])
        have hlk := ht.lock
        (refine W_at c26_ok ?_; refine ⟨_, rfl, ?_⟩; simp (disch := first | omega | assumption | rfl | (simp only [vcS] <;> omega) | fail) only [↓ptV_l, ↓vcA, vcB, ↓vcD, vcE, ↓reduceIte, Nat.reduceEqDiff, Nat.reduceAdd, Nat.reduceMul, Nat.reduceLeDiff, Int.reduceLE, Int.reduceLT, Int.reduceEq, Int.reduceToNat, Int.reduceAdd, Int.reduceSub, Int.reduceMul, Int.reduceNeg, reduceCtorEq, Option.bind_some, Option.map_some, List.length_cons, List.length_nil, vcM, List.getElem?_toArray, List.getElem?_cons_zero, List.getElem?_cons_succ, hp2j, t3])
        refine callV_ret (u32_ok wj p5 vj _ t.lock hWj.at' (by simp only [List.length_append]; omega) hlk) ?_
        intro _ wk hT
        obtain ⟨vk, hWk⟩ := hWj.go hT
        first | (simp (disch := first | omega | assumption | rfl | (simp only [vcS] <;> omega) | fail) only [↓ptV_l, ↓vcA, vcB, ↓vcD, vcE, ↓reduceIte, Nat.reduceEqDiff, Nat.reduceAdd, Nat.reduceMul, Nat.reduceLeDiff, Int.reduceLE, Int.reduceLT, Int.reduceEq, Int.reduceToNat, Int.reduceAdd, Int.reduceSub, Int.reduceMul, Int.reduceNeg, reduceCtorEq, Option.bind_some, Option.map_some, List.length_cons, List.length_nil, vcM, List.getElem?_toArray, List.getElem?_cons_zero, List.getElem?_cons_succ]) | skip
        (refine W_at c26_ok ?_; refine ⟨_, rfl, ?_⟩; simp (disch := first | omega | assumption | rfl | (simp only [vcS] <;> omega) | fail) only [↓ptV_l, ↓vcA, vcB, ↓vcD, vcE, ↓reduceIte, Nat.reduceEqDiff, Nat.reduceAdd, Nat.reduceMul, Nat.reduceLeDiff, Int.reduceLE, Int.reduceLT, Int.reduceEq, Int.reduceToNat, Int.reduceAdd, Int.reduceSub, Int.reduceMul, Int.reduceNeg, reduceCtorEq, Option.bind_some, Option.map_some, List.length_cons, List.length_nil, vcM, List.getElem?_toArray, List.getElem?_cons_zero, List.getElem?_cons_succ])
        refine callV_ret (out_ok wk p5 vk _ hWk.at' (by simp only [List.length_append, lowF_len]; omega)) ?_
        rintro u wl ⟨h1, h2, h3⟩
        first | (simp (disch := first | omega | assumption | rfl | (simp only [vcS] <;> omega) | fail) only [↓ptV_l, ↓vcA, vcB, ↓vcD, vcE, ↓reduceIte, Nat.reduceEqDiff, Nat.reduceAdd, Nat.reduceMul, Nat.reduceLeDiff, Int.reduceLE, Int.reduceLT, Int.reduceEq, Int.reduceToNat, Int.reduceAdd, Int.reduceSub, Int.reduceMul, Int.reduceNeg, reduceCtorEq, Option.bind_some, Option.map_some, List.length_cons, List.length_nil, vcM, List.getElem?_toArray, List.getElem?_cons_zero, List.getElem?_cons_succ]) | skip
        (refine W_at c26_ok ?_; refine ⟨_, rfl, ?_⟩; simp (disch := first | omega | assumption | rfl | (simp only [vcS] <;> omega) | fail) only [↓ptV_l, ↓vcA, vcB, ↓vcD, vcE, ↓reduceIte, Nat.reduceEqDiff, Nat.reduceAdd, Nat.reduceMul, Nat.reduceLeDiff, Int.reduceLE, Int.reduceLT, Int.reduceEq, Int.reduceToNat, Int.reduceAdd, Int.reduceSub, Int.reduceMul, Int.reduceNeg, reduceCtorEq, Option.bind_some, Option.map_some, List.length_cons, List.length_nil, vcM, List.getElem?_toArray, List.getElem?_cons_zero, List.getElem?_cons_succ, Ret_returned])
        refine ⟨?_, (hE0.ext hWk.ext).ext h2, fun g hg => ?_⟩
        · unfold encF; exact h1
        · have := h3 g hg
          have := (hE0.ext hWk.ext).size
          omega
      | succ k ih =>
        intro i wj vj hi hWj
        have hil : i < t.outs.length := by omega
        have hlt : ((i : Nat) : Int) < (t.outs.length : Nat) := by omega
        have b1 : 0 ≤ ((i : Nat) : Int) ∧ ((i : Nat) : Int) < (t.outs.length : Nat) := by omega
        have hwi : IntKind.i64.wrap (((i : Nat) : Int) + 1) = ((i + 1 : Nat) : Int) := wrap_i64 (by omega) (by omega)
        obtain ⟨b, o, c, cs, ev, hr0, hcs, sv, ecs, hsvW⟩ := h1.outs.at hil
        have hr := rdO_ext' hWj.ext hr0
        have hsv := hsvW.ext hWj.ext
        have hsv1 := hsv.one
        have hok := ht.outs _ (List.getElem_mem hil)
        have hscl := hf.oscr _ (List.getElem_mem hil)
        have htk := take_flat encO hil
        have hbi := flatO_len (l := t.outs.take i) (m := 1000) (fun x hx => hf.oscr x (List.mem_of_mem_take hx))
        have hbl : (t.outs.take i).length ≤ 100 := by rw [List.length_take]; omega
        generalize t.outs[i] = y at hsv hsvW ecs hok hscl htk
        have hov := ev
        subst ecs
        rw [ev]
        have c0 : (oC y sv)[0]? = some (.int .i64 y.val) := rfl
        have c1 : (oC y sv)[1]? = some sv := rfl
        have s2 : (oC y sv).size = 2 := rfl
        (refine W_at c26_ok ?_; refine ⟨_, rfl, ?_⟩; simp (disch := first | omega | assumption | rfl | (simp only [vcS] <;> omega) | fail) only [↓ptV_l, ↓vcA, vcB, ↓vcD, vcE, ↓reduceIte, Nat.reduceEqDiff, Nat.reduceAdd, Nat.reduceMul, Nat.reduceLeDiff, Int.reduceLE, Int.reduceLT, Int.reduceEq, Int.reduceToNat, Int.reduceAdd, Int.reduceSub, Int.reduceMul, Int.reduceNeg, reduceCtorEq, Option.bind_some, Option.map_some, List.length_cons, List.length_nil, vcM, List.getElem?_toArray, List.getElem?_cons_zero, List.getElem?_cons_succ, hlt])
        (refine W_at c26_ok ?_; refine ⟨_, rfl, ?_⟩; simp (disch := first | omega | assumption | rfl | (simp only [vcS] <;> omega) | fail) only [↓ptV_l, ↓vcA, vcB, ↓vcD, vcE, ↓reduceIte, Nat.reduceEqDiff, Nat.reduceAdd, Nat.reduceMul, Nat.reduceLeDiff, Int.reduceLE, Int.reduceLT, Int.reduceEq, Int.reduceToNat, Int.reduceAdd, Int.reduceSub, Int.reduceMul, Int.reduceNeg, reduceCtorEq, Option.bind_some, Option.map_some, List.length_cons, List.length_nil, vcM, List.getElem?_toArray, List.getElem?_cons_zero, List.getElem?_cons_succ])
        (refine W_at c26_ok ?_; refine ⟨_, rfl, ?_⟩; simp (disch := first | omega | assumption | rfl | (simp only [vcS] <;> omega) | fail) only [↓ptV_l, ↓vcA, vcB, ↓vcD, vcE, ↓reduceIte, Nat.reduceEqDiff, Nat.reduceAdd, Nat.reduceMul, Nat.reduceLeDiff, Int.reduceLE, Int.reduceLT, Int.reduceEq, Int.reduceToNat, Int.reduceAdd, Int.reduceSub, Int.reduceMul, Int.reduceNeg, reduceCtorEq, Option.bind_some, Option.map_some, List.length_cons, List.length_nil, vcM, List.getElem?_toArray, List.getElem?_cons_zero, List.getElem?_cons_succ, b1, Int.toNat_natCast, hr, s2])
        refine ⟨oC_flat hsv1, ?_⟩
        have hEb : Ext wj ((wj.alloc (.cells (zc [(1, .int .i64 0), (1, .slice none 0 0)]) 36)).putN wj.heap.size 0 (oC y sv)) := ((Keep.refl _ wj).alloc _).putN _ (by intro hh; exfalso; omega)
        have h9 : ((wj.alloc (.cells (zc [(1, .int .i64 0), (1, .slice none 0 0)]) 36)).putN wj.heap.size 0 (oC y sv)).heap[wj.heap.size]? = some (.cells (oC y sv) 36 (0, 0)) := by
          rw [heap_putN_eq (heap_new _ _ _ rfl), splice_all (by rfl)]
        generalize World.putN _ _ _ _ = wa at hEb h9 ⊢
        generalize wj.heap.size = p9 at h9 ⊢
        have hWa := hWj.grow hEb
        have hsva : Rd wa sv y.script := hsv.ext hEb
        have hv64 : IntKind.u64.wrap y.val = y.val % 18446744073709551616 := wrap_u64 _
        (refine W_at c26_ok ?_; refine ⟨_, rfl, ?_⟩; simp (disch := first | omega | assumption | rfl | (simp only [vcS] <;> omega) | fail) only [↓ptV_l, ↓vcA, vcB, ↓vcD, vcE, ↓reduceIte, Nat.reduceEqDiff, Nat.reduceAdd, Nat.reduceMul, Nat.reduceLeDiff, Int.reduceLE, Int.reduceLT, Int.reduceEq, Int.reduceToNat, Int.reduceAdd, Int.reduceSub, Int.reduceMul, Int.reduceNeg, reduceCtorEq, Option.bind_some, Option.map_some, List.length_cons, List.length_nil, vcM, List.getElem?_toArray, List.getElem?_cons_zero, List.getElem?_cons_succ, h9, c0, hv64])
        refine callV_ret (u64_ok wa p5 vj _ (y.val % 18446744073709551616) hWa.at' (by simp only [List.length_append]; omega)) ?_
        intro _ wb hT
        have h9b := hT.at hWa.at' h9 (by decide) (by decide)
        obtain ⟨vb, hWb⟩ := hWa.go hT
        first | (simp (disch := first | omega | assumption | rfl | (simp only [vcS] <;> omega) | fail) only [↓ptV_l, ↓vcA, vcB, ↓vcD, vcE, ↓reduceIte, Nat.reduceEqDiff, Nat.reduceAdd, Nat.reduceMul, Nat.reduceLeDiff, Int.reduceLE, Int.reduceLT, Int.reduceEq, Int.reduceToNat, Int.reduceAdd, Int.reduceSub, Int.reduceMul, Int.reduceNeg, reduceCtorEq, Option.bind_some, Option.map_some, List.length_cons, List.length_nil, vcM, List.getElem?_toArray, List.getElem?_cons_zero, List.getElem?_cons_succ]) | skip
        have hsvb : Rd wb sv y.script := hsvW.ext hWb.ext
        (refine W_at c26_ok ?_; refine ⟨_, rfl, ?_⟩; simp (disch := first | omega | assumption | rfl | (simp only [vcS] <;> omega) | fail) only [↓ptV_l, ↓vcA, vcB, ↓vcD, vcE, ↓reduceIte, Nat.reduceEqDiff, Nat.reduceAdd, Nat.reduceMul, Nat.reduceLeDiff, Int.reduceLE, Int.reduceLT, Int.reduceEq, Int.reduceToNat, Int.reduceAdd, Int.reduceSub, Int.reduceMul, Int.reduceNeg, reduceCtorEq, Option.bind_some, Option.map_some, List.length_cons, List.length_nil, vcM, List.getElem?_toArray, List.getElem?_cons_zero, List.getElem?_cons_succ, h9b, c1])
        refine callV_ret (bytes_ok wb p5 vb _ sv y.script hWb.at' hsvb (hWb.rd hsvW) (by simp only [List.length_append, lowF_len]; omega)) ?_
        intro _ wc hT
        obtain ⟨vc, hWc⟩ := hWb.go hT
        first | (simp (disch := first | omega | assumption | rfl | (simp only [vcS] <;> omega) | fail) only [↓ptV_l, ↓vcA, vcB, ↓vcD, vcE, ↓reduceIte, Nat.reduceEqDiff, Nat.reduceAdd, Nat.reduceMul, Nat.reduceLeDiff, Int.reduceLE, Int.reduceLT, Int.reduceEq, Int.reduceToNat, Int.reduceAdd, Int.reduceSub, Int.reduceMul, Int.reduceNeg, reduceCtorEq, Option.bind_some, Option.map_some, List.length_cons, List.length_nil, vcM, List.getElem?_toArray, List.getElem?_cons_zero, List.getElem?_cons_succ]) | skip
        (refine W_at c26_ok ?_; refine ⟨_, rfl, ?_⟩; simp (disch := first | omega | assumption | rfl | (simp only [vcS] <;> omega) | fail) only [↓ptV_l, ↓vcA, vcB, ↓vcD, vcE, ↓reduceIte, Nat.reduceEqDiff, Nat.reduceAdd, Nat.reduceMul, Nat.reduceLeDiff, Int.reduceLE, Int.reduceLT, Int.reduceEq, Int.reduceToNat, Int.reduceAdd, Int.reduceSub, Int.reduceMul, Int.reduceNeg, reduceCtorEq, Option.bind_some, Option.map_some, List.length_cons, List.length_nil, vcM, List.getElem?_toArray, List.getElem?_cons_zero, List.getElem?_cons_succ, hwi])
        (refine W_at c26_ok ?_; refine ⟨_, rfl, ?_⟩; simp (disch := first | omega | assumption | rfl | (simp only [vcS] <;> omega) | fail) only [↓ptV_l, ↓vcA, vcB, ↓vcD, vcE, ↓reduceIte, Nat.reduceEqDiff, Nat.reduceAdd, Nat.reduceMul, Nat.reduceLeDiff, Int.reduceLE, Int.reduceLT, Int.reduceEq, Int.reduceToNat, Int.reduceAdd, Int.reduceSub, Int.reduceMul, Int.reduceNeg, reduceCtorEq, Option.bind_some, Option.map_some, List.length_cons, List.length_nil, vcM, List.getElem?_toArray, List.getElem?_cons_zero, List.getElem?_cons_succ])
        rw [← ev]
        refine ih (i + 1) wc vc (by omega) ?_
        rw [htk, show encO y = lowF 8 (y.val % 18446744073709551616) ++ (sizeF y.script.length ++ y.script) from rfl]
        simpa only [List.append_assoc] using hWc
    exact L2 t.outs.length 0 wk vk (by omega) (by rw [List.take_zero]; simpa using hWk)
  have L1 : ∀ (k i : Nat) (wj : World) (vj : Value), i + k = t.ins.length → WMid w1 wj p5 vj (lowF 4 (t.ver % 4294967296) ++ sizeF (t.ins.length : Nat) ++ (t.ins.take i).flatMap encI) →
      W Try.prog (Ret fun u w' => New w w' u (encF t)) 26 37 [(1, .bool false), (2, .pointer (some ⟨p2, 0, none⟩)), (5, .pointer (some ⟨p5, 0, none⟩)), (32, iv), (33, .int .i64 (t.ins.length : Nat)), (34, .int .i64 (i : Nat))] wj := by
    intro k
    induction k with
    | zero =>
      intro i wj vj hi hWj
      obtain rfl : i = t.ins.length := by omega
      rw [List.take_length] at hWj
      have hno : ¬ ((t.ins.length : Nat) : Int) < (t.ins.length : Nat) := by omega
      (refine W_at c26_ok ?_; refine ⟨_, rfl, ?_⟩; simp (disch := first | omega | assumption | rfl | (simp only [vcS] <;> omega) | fail) only [↓ptV_l, ↓vcA, vcB, ↓vcD, vcE, ↓reduceIte, Nat.reduceEqDiff, Nat.reduceAdd, Nat.reduceMul, Nat.reduceLeDiff, Int.reduceLE, Int.reduceLT, Int.reduceEq, Int.reduceToNat, Int.reduceAdd, Int.reduceSub, Int.reduceMul, Int.reduceNeg, reduceCtorEq, Option.bind_some, Option.map_some, List.length_cons, List.length_nil, vcM, List.getElem?_toArray, List.getElem?_cons_zero, List.getElem?_cons_succ, hno])
      (refine W_at c26_ok ?_; refine ⟨_, rfl, ?_⟩; simp (disch := first | omega | assumption | rfl | (simp only [vcS] <;> omega) | fail) only [↓ptV_l, ↓vcA, vcB, ↓vcD, vcE, ↓reduceIte, Nat.reduceEqDiff, Nat.reduceAdd, Nat.reduceMul, Nat.reduceLeDiff, Int.reduceLE, Int.reduceLT, Int.reduceEq, Int.reduceToNat, Int.reduceAdd, Int.reduceSub, Int.reduceMul, Int.reduceNeg, reduceCtorEq, Option.bind_some, Option.map_some, List.length_cons, List.length_nil, vcM, List.getElem?_toArray, List.getElem?_cons_zero, List.getElem?_cons_succ])
      exact outs wj vj _ hWj
    | succ k ih =>
      intro i wj vj hi hWj
      have hil : i < t.ins.length := by omega
      have hlt : ((i : Nat) : Int) < (t.ins.length : Nat) := by omega
      have b1 : 0 ≤ ((i : Nat) : Int) ∧ ((i : Nat) : Int) < (t.ins.length : Nat) := by omega
      have hwi : IntKind.i64.wrap (((i : Nat) : Int) + 1) = ((i + 1 : Nat) : Int) := wrap_i64 (by omega) (by omega)
      obtain ⟨b, o, c, cs, ev, hr0, hcs, sv, wv, ecs, hsvW, hwvW⟩ := h1.ins.at hil
      have hr := rdO_ext' hWj.ext hr0
      have hsv := hsvW.ext hWj.ext
      have hsv1 := hsv.one
      have hwv1 := hwvW.one
      have hok := ht.ins _ (List.getElem_mem hil)
      have hscl := hf.iscr _ (List.getElem_mem hil)
      have htk := take_flat encI hil
      have hbi := flatI_len (l := t.ins.take i) (m := 1000) (fun x hx => (ht.ins x (List.mem_of_mem_take hx)).len) (fun x hx => hf.iscr x (List.mem_of_mem_take hx))
      have hbl : (t.ins.take i).length ≤ 100 := by rw [List.length_take]; omega
      generalize t.ins[i] = y at hsv hsvW hwvW ecs hok hscl htk
      subst ecs
      rw [ev]
      have hpl := hok.len
      have s36 := iC_size hpl sv wv
      have c32 := iC_32 hpl sv wv
      have c33 := iC_33 hpl sv wv
      have c34 := iC_34 hpl sv wv
      (refine W_at c26_ok ?_; refine ⟨_, rfl, ?_⟩; simp (disch := first | omega | assumption | rfl | (simp only [vcS] <;> omega) | fail) only [↓ptV_l, ↓vcA, vcB, ↓vcD, vcE, ↓reduceIte, Nat.reduceEqDiff, Nat.reduceAdd, Nat.reduceMul, Nat.reduceLeDiff, Int.reduceLE, Int.reduceLT, Int.reduceEq, Int.reduceToNat, Int.reduceAdd, Int.reduceSub, Int.reduceMul, Int.reduceNeg, reduceCtorEq, Option.bind_some, Option.map_some, List.length_cons, List.length_nil, vcM, List.getElem?_toArray, List.getElem?_cons_zero, List.getElem?_cons_succ, hlt])
      (refine W_at c26_ok ?_; refine ⟨_, rfl, ?_⟩; simp (disch := first | omega | assumption | rfl | (simp only [vcS] <;> omega) | fail) only [↓ptV_l, ↓vcA, vcB, ↓vcD, vcE, ↓reduceIte, Nat.reduceEqDiff, Nat.reduceAdd, Nat.reduceMul, Nat.reduceLeDiff, Int.reduceLE, Int.reduceLT, Int.reduceEq, Int.reduceToNat, Int.reduceAdd, Int.reduceSub, Int.reduceMul, Int.reduceNeg, reduceCtorEq, Option.bind_some, Option.map_some, List.length_cons, List.length_nil, vcM, List.getElem?_toArray, List.getElem?_cons_zero, List.getElem?_cons_succ])
      (refine W_at c26_ok ?_; refine ⟨_, rfl, ?_⟩; simp (disch := first | omega | assumption | rfl | (simp only [vcS] <;> omega) | fail) only [↓ptV_l, ↓vcA, vcB, ↓vcD, vcE, ↓reduceIte, Nat.reduceEqDiff, Nat.reduceAdd, Nat.reduceMul, Nat.reduceLeDiff, Int.reduceLE, Int.reduceLT, Int.reduceEq, Int.reduceToNat, Int.reduceAdd, Int.reduceSub, Int.reduceMul, Int.reduceNeg, reduceCtorEq, Option.bind_some, Option.map_some, List.length_cons, List.length_nil, vcM, List.getElem?_toArray, List.getElem?_cons_zero, List.getElem?_cons_succ, b1, Int.toNat_natCast, hr, s36])
      refine ⟨iC_flat hsv1 hwv1, by simp [zc, runs], ?_⟩
      have hEb : Ext wj ((wj.alloc (.cells (zc [(32, .int .u8 0), (1, .int .u32 0), (1, .slice none 0 0), (1, .int .u32 0), (1, .slice none 0 0)]) 75)).putN wj.heap.size 0 (iC y sv wv)) := ((Keep.refl _ wj).alloc _).putN _ (by intro hh; exfalso; omega)
      have h7 : ((wj.alloc (.cells (zc [(32, .int .u8 0), (1, .int .u32 0), (1, .slice none 0 0), (1, .int .u32 0), (1, .slice none 0 0)]) 75)).putN wj.heap.size 0 (iC y sv wv)).heap[wj.heap.size]? = some (.cells (iC y sv wv) 75 (0, 0)) := by
        rw [heap_putN_eq (heap_new _ _ _ rfl), splice_all (by rw [s36]; rfl)]
      generalize World.putN _ _ _ _ = wa at hEb h7 ⊢
      generalize wj.heap.size = p7 at h7 ⊢
      have hWa := hWj.grow hEb
      have hrp := iC_rd32 hpl h7
      (refine W_at c26_ok ?_; refine ⟨_, rfl, ?_⟩; simp (disch := first | omega | assumption | rfl | (simp only [vcS] <;> omega) | fail) only [↓ptV_l, ↓vcA, vcB, ↓vcD, vcE, ↓reduceIte, Nat.reduceEqDiff, Nat.reduceAdd, Nat.reduceMul, Nat.reduceLeDiff, Int.reduceLE, Int.reduceLT, Int.reduceEq, Int.reduceToNat, Int.reduceAdd, Int.reduceSub, Int.reduceMul, Int.reduceNeg, reduceCtorEq, Option.bind_some, Option.map_some, List.length_cons, List.length_nil, vcM, List.getElem?_toArray, List.getElem?_cons_zero, List.getElem?_cons_succ, h7, advA_0, Nat.sub_zero])
      refine callV_ret (raw_ok wa p5 vj _ _ y.prev hWa.at' hrp (by simp only [List.length_append]; omega)) ?_
      intro _ wb hT
      have h7b := hT.at hWa.at' h7 (by decide) (by decide)
      obtain ⟨vb, hWb⟩ := hWa.go hT
      first | (simp (disch := first | omega | assumption | rfl | (simp only [vcS] <;> omega) | fail) only [↓ptV_l, ↓vcA, vcB, ↓vcD, vcE, ↓reduceIte, Nat.reduceEqDiff, Nat.reduceAdd, Nat.reduceMul, Nat.reduceLeDiff, Int.reduceLE, Int.reduceLT, Int.reduceEq, Int.reduceToNat, Int.reduceAdd, Int.reduceSub, Int.reduceMul, Int.reduceNeg, reduceCtorEq, Option.bind_some, Option.map_some, List.length_cons, List.length_nil, vcM, List.getElem?_toArray, List.getElem?_cons_zero, List.getElem?_cons_succ]) | skip
      (refine W_at c26_ok ?_; refine ⟨_, rfl, ?_⟩; simp (disch := first | omega | assumption | rfl | (simp only [vcS] <;> omega) | fail) only [↓ptV_l, ↓vcA, vcB, ↓vcD, vcE, ↓reduceIte, Nat.reduceEqDiff, Nat.reduceAdd, Nat.reduceMul, Nat.reduceLeDiff, Int.reduceLE, Int.reduceLT, Int.reduceEq, Int.reduceToNat, Int.reduceAdd, Int.reduceSub, Int.reduceMul, Int.reduceNeg, reduceCtorEq, Option.bind_some, Option.map_some, List.length_cons, List.length_nil, vcM, List.getElem?_toArray, List.getElem?_cons_zero, List.getElem?_cons_succ, h7b, c32])
      refine callV_ret (u32_ok wb p5 vb _ y.idx hWb.at' (by simp only [List.length_append]; omega) hok.idx) ?_
      intro _ wc hT
      have h7c := hT.at hWb.at' h7b (by decide) (by decide)
      obtain ⟨vc, hWc⟩ := hWb.go hT
      first | (simp (disch := first | omega | assumption | rfl | (simp only [vcS] <;> omega) | fail) only [↓ptV_l, ↓vcA, vcB, ↓vcD, vcE, ↓reduceIte, Nat.reduceEqDiff, Nat.reduceAdd, Nat.reduceMul, Nat.reduceLeDiff, Int.reduceLE, Int.reduceLT, Int.reduceEq, Int.reduceToNat, Int.reduceAdd, Int.reduceSub, Int.reduceMul, Int.reduceNeg, reduceCtorEq, Option.bind_some, Option.map_some, List.length_cons, List.length_nil, vcM, List.getElem?_toArray, List.getElem?_cons_zero, List.getElem?_cons_succ]) | skip
      (refine W_at c26_ok ?_; refine ⟨_, rfl, ?_⟩; simp (disch := first | omega | assumption | rfl | (simp only [vcS] <;> omega) | fail) only [↓ptV_l, ↓vcA, vcB, ↓vcD, vcE, ↓reduceIte, Nat.reduceEqDiff, Nat.reduceAdd, Nat.reduceMul, Nat.reduceLeDiff, Int.reduceLE, Int.reduceLT, Int.reduceEq, Int.reduceToNat, Int.reduceAdd, Int.reduceSub, Int.reduceMul, Int.reduceNeg, reduceCtorEq, Option.bind_some, Option.map_some, List.length_cons, List.length_nil, vcM, List.getElem?_toArray, List.getElem?_cons_zero, List.getElem?_cons_succ, h7c, c33])
      refine callV_ret (bytes_ok wc p5 vc _ sv y.script hWc.at' (hsvW.ext hWc.ext) (hWc.rd hsvW) (by simp only [List.length_append, lowF_len]; omega)) ?_
      intro _ wd hT
      have h7d := hT.at hWc.at' h7c (by decide) (by decide)
      obtain ⟨vd, hWd⟩ := hWc.go hT
      have hsy := (sizeF_len (n := (y.script.length : Int))).2
      first | (simp (disch := first | omega | assumption | rfl | (simp only [vcS] <;> omega) | fail) only [↓ptV_l, ↓vcA, vcB, ↓vcD, vcE, ↓reduceIte, Nat.reduceEqDiff, Nat.reduceAdd, Nat.reduceMul, Nat.reduceLeDiff, Int.reduceLE, Int.reduceLT, Int.reduceEq, Int.reduceToNat, Int.reduceAdd, Int.reduceSub, Int.reduceMul, Int.reduceNeg, reduceCtorEq, Option.bind_some, Option.map_some, List.length_cons, List.length_nil, vcM, List.getElem?_toArray, List.getElem?_cons_zero, List.getElem?_cons_succ]) | skip
      (refine W_at c26_ok ?_; refine ⟨_, rfl, ?_⟩; simp (disch := first | omega | assumption | rfl | (simp only [vcS] <;> omega) | fail) only [↓ptV_l, ↓vcA, vcB, ↓vcD, vcE, ↓reduceIte, Nat.reduceEqDiff, Nat.reduceAdd, Nat.reduceMul, Nat.reduceLeDiff, Int.reduceLE, Int.reduceLT, Int.reduceEq, Int.reduceToNat, Int.reduceAdd, Int.reduceSub, Int.reduceMul, Int.reduceNeg, reduceCtorEq, Option.bind_some, Option.map_some, List.length_cons, List.length_nil, vcM, List.getElem?_toArray, List.getElem?_cons_zero, List.getElem?_cons_succ, h7d, c34])
      refine callV_ret (u32_ok wd p5 vd _ y.seq hWd.at' (by simp only [List.length_append, lowF_len]; omega) hok.seq) ?_
      intro _ we hT
      obtain ⟨ve, hWe⟩ := hWd.go hT
      first | (simp (disch := first | omega | assumption | rfl | (simp only [vcS] <;> omega) | fail) only [↓ptV_l, ↓vcA, vcB, ↓vcD, vcE, ↓reduceIte, Nat.reduceEqDiff, Nat.reduceAdd, Nat.reduceMul, Nat.reduceLeDiff, Int.reduceLE, Int.reduceLT, Int.reduceEq, Int.reduceToNat, Int.reduceAdd, Int.reduceSub, Int.reduceMul, Int.reduceNeg, reduceCtorEq, Option.bind_some, Option.map_some, List.length_cons, List.length_nil, vcM, List.getElem?_toArray, List.getElem?_cons_zero, List.getElem?_cons_succ]) | skip
      (refine W_at c26_ok ?_; refine ⟨_, rfl, ?_⟩; simp (disch := first | omega | assumption | rfl | (simp only [vcS] <;> omega) | fail) only [↓ptV_l, ↓vcA, vcB, ↓vcD, vcE, ↓reduceIte, Nat.reduceEqDiff, Nat.reduceAdd, Nat.reduceMul, Nat.reduceLeDiff, Int.reduceLE, Int.reduceLT, Int.reduceEq, Int.reduceToNat, Int.reduceAdd, Int.reduceSub, Int.reduceMul, Int.reduceNeg, reduceCtorEq, Option.bind_some, Option.map_some, List.length_cons, List.length_nil, vcM, List.getElem?_toArray, List.getElem?_cons_zero, List.getElem?_cons_succ, hwi])
      (refine W_at c26_ok ?_; refine ⟨_, rfl, ?_⟩; simp (disch := first | omega | assumption | rfl | (simp only [vcS] <;> omega) | fail) only [↓ptV_l, ↓vcA, vcB, ↓vcD, vcE, ↓reduceIte, Nat.reduceEqDiff, Nat.reduceAdd, Nat.reduceMul, Nat.reduceLeDiff, Int.reduceLE, Int.reduceLT, Int.reduceEq, Int.reduceToNat, Int.reduceAdd, Int.reduceSub, Int.reduceMul, Int.reduceNeg, reduceCtorEq, Option.bind_some, Option.map_some, List.length_cons, List.length_nil, vcM, List.getElem?_toArray, List.getElem?_cons_zero, List.getElem?_cons_succ])
      rw [← ev]
      refine ih (i + 1) we ve (by omega) ?_
      rw [htk, show encI y = y.prev ++ lowF 4 y.idx ++ (sizeF y.script.length ++ y.script) ++ lowF 4 y.seq from rfl]
      simpa only [List.append_assoc] using hWe
  exact L1 t.ins.length 0 w4 v4 (by omega) (by rw [List.take_zero]; simpa using hW4)
end Go.Proofs
namespace Go.Proofs.Ytabagepjaccjnaa
open Go.Vc Go.ChangeShapes Go.WideShapes Go.ChangeAt Go.RowKit Go.Proofs
theorem Try.own : ownKnob Try.prog.godebug = none := by kernel_rfl
theorem Try.laidOut : laidOutB Try.prog = true := by kernel_rfl

end Go.Proofs.Ytabagepjaccjnaa
namespace Go.Proofs
open Go.Vc

/-- The bytes of what a slice of this program holds. -/
def u8T : Tys := .cons (.int .u8) .nil
end Go.Proofs
namespace Go.Proofs
open Go.Vc
set_option maxRecDepth 10000

/-- 'append' of a row, however long. -/
theorem appO4 {w : World} {base el size bytes : Nat} {z : List Value} {v : Value} {ids ids2 : List (Array Value)} {q : Option Addr} {m c2 : Nat} {K : Value → World → Prop} (h : OwnO w base el size v ids)
    (hr : rdS w size (.slice q m c2) = some (ids2.flatMap Array.toList).toArray) (hm : ids2.length = m) (hs2 : ∀ k ∈ ids2, k.size = size) (hf : ∀ k ∈ ids2, flat k)
    (hlen : ids.length + m ≤ 9223372036854775807) (hb : (ids.length + m) * bytes ≤ 140737488355328) (hz : z.length = size) (hbase : base ≤ w.heap.size) (hs : 0 < size)
    (hk : ∀ v' w', OwnO w' base el size v' (ids ++ ids2) → Keep (Go.Proofs.blk v) w w' → (∀ g, Go.Proofs.blk v' g → Go.Proofs.blk v g ∨ w.heap.size ≤ g) → K v' w') :
    appV el size bytes z v (.slice q m c2) w K := by
  have hml : maxLen = 9223372036854775807 := rfl
  have hs3 : ∀ k ∈ ids ++ ids2, k.size = size := fun k hk => by
    rcases List.mem_append.1 hk with hk | hk
    · exact h.sz k hk
    · exact hs2 k hk
  have hfl : (ids ++ ids2).flatMap Array.toList = ids.flatMap Array.toList ++ ids2.flatMap Array.toList := by simp
  have hfll : (ids.flatMap Array.toList).length = ids.length * size := flat_len h.sz
  have hfl2 : (ids2.flatMap Array.toList).length = m * size := by rw [flat_len hs2, hm]
  have hro := h.rd
  have hl2 : (ids ++ ids2).length = ids.length + m := by rw [List.length_append, hm]
  have hmul : (ids.length + m) * size = ids.length * size + m * size := Nat.add_mul _ _ _
  have grow : ∀ c', ids.length + m ≤ c' → c' ≤ maxLen → K (.slice (some ⟨w.heap.size, 0, none⟩) (ids.length + m) c')
      (w.drew.alloc (.cells (ids.flatMap Array.toList ++ ids2.flatMap Array.toList ++ zrep (c' - (ids.length + m)) z).toArray el)) := by
    intro c' h1 h2
    refine hk _ _ ⟨hs3, .inr ⟨_, 0, c', _, by rw [hl2], hbase, heap_new w.drew _ _ rfl, by rw [hl2]; exact h1, h2, ?_, ?_⟩⟩ ?_ ?_
    · simp only [List.size_toArray, List.length_append, hfll, hfl2, length_zrep, hz]
      rw [Nat.zero_add, ← hmul, ← Nat.add_mul]
      exact Nat.mul_le_mul_right _ (by omega)
    · rw [hl2, List.drop_zero, hfl]
      rw [List.take_left']
      rw [List.length_append, hfll, hfl2, hmul]
    · exact ((Keep.refl _ w).drew).alloc _
    · intro g hg; cases hg; exact .inr (Nat.le_refl _)
  have keep0 : ∀ (q : Option Addr) (c : Nat), v = .slice q ids.length c → m * size = 0 → K (.slice q (ids.length + m) c) w := by
    intro q c hv h0
    have hm0 : m = 0 := by rcases Nat.mul_eq_zero.1 h0 with h | h; exact h; omega
    subst hm0
    have : ids2 = [] := List.eq_nil_of_length_eq_zero hm
    subst this
    rw [Nat.add_zero, ← hv]
    refine hk v w ?_ (Keep.refl _ w) fun g hg => .inl hg
    rw [List.append_nil]; exact h
  unfold appV
  obtain ⟨q', c, rfl, hcap⟩ := h.is
  simp only [hro, hr, getV_some]
  refine ⟨flat_flat hf, by omega, hb, hz, fun hc' => ⟨fun h0 => keep0 _ _ rfl h0, fun h0 b o' hp => ?_⟩, fun hc' h0 => ?_, fun _ => grow⟩
  · subst hp
    obtain ⟨_, ⟨e, _⟩ | ⟨g, o, cap, cur, e, hbg, hg, hn, hcm, hle, htake⟩⟩ := h
    · cases e
    · injection e with e1 e2 e3
      injection e1 with e1
      injection e1 with e4 e5
      subst e3 e4 e5
      have e6 : (ids.length + m) * size ≤ c * size := Nat.mul_le_mul_right _ hc'
      rw [hmul] at e6
      refine ⟨okN_of hg (by omega), hk _ _ ⟨hs3, .inr ⟨_, _, c, _, by rw [hl2], hbg, heap_putN_eq hg, by rw [hl2]; exact hc', hcm, ?_, ?_⟩⟩ ?_ fun g' hg' => .inl hg'⟩
      · simp only [spliceA, List.size_toArray, List.length_append, List.length_take, List.length_drop, Array.length_toList (xs := cur), hfl2]
        omega
      · rw [hl2, hfl, ← htake]
        simp only [spliceA]
        rw [hmul]
        have hlen1 : (cur.toList.take (o' + ids.length * size)).length = o' + ids.length * size := by rw [List.length_take, Array.length_toList (xs := cur)]; omega
        rw [List.append_assoc, List.drop_append_of_le_length (by rw [hlen1]; omega), List.drop_take, Nat.add_sub_cancel_left]
        have hlen2 : ((cur.toList.drop o').take (ids.length * size)).length = ids.length * size := by rw [htake, hfll]
        rw [List.take_append, hlen2, List.take_of_length_le (by rw [hlen2]; omega), Nat.add_sub_cancel_left, List.take_left' hfl2]
      · exact (Keep.refl _ w).putN _ fun _ => rfl
  · obtain ⟨_, ⟨e, _⟩ | ⟨g, o, cap, cur, e, _⟩⟩ := h
    · injection e with e1 e2 e3
      subst e3
      exfalso
      have hm0 : m = 0 := by omega
      rw [hm0, Nat.zero_mul] at h0
      exact h0 rfl
    · injection e with e1
      exact ⟨_, _, e1⟩
/-- Bytes of one's own, from a block on; rows of them. -/
def N1 (m : Nat) (w : World) (v : Value) (bs : List Int) : Prop := Own1 w v bs ∧ ∀ g, blk v g → m ≤ g
theorem N1.keepT {m : Nat} {S : Nat → Prop} {w w' : World} {v : Value} {bs : List Int} (h : N1 m w v bs) (k : Keep S w w') (hS : ∀ g, S g → ∀ c, w.heap[g]? ≠ some (.cells c 5 (0, 0))) : N1 m w' v bs :=
  ⟨h.1.keep k fun g hg hs => by obtain ⟨c, hc⟩ := row_type h.1 hg; exact hS g hs c hc, h.2⟩
theorem N1.ext {m : Nat} {w w' : World} {v : Value} {bs : List Int} (h : N1 m w v bs) (k : Ext w w') : N1 m w' v bs := ⟨h.1.ext k, h.2⟩
theorem New.n1 {m : Nat} {w w' : World} {v : Value} {bs : List Int} (h : New w w' v bs) (hm : m ≤ w.heap.size) : N1 m w' v bs := ⟨h.own, fun g hg => Nat.le_trans hm (h.new g hg)⟩
def RowN (m : Nat) (w : World) (v : Value) (ps : List (List Int)) : Prop := ∃ vs : List Value, OwnO w m 22 1 v (vs.map fun v => #[v]) ∧ vs.length = ps.length ∧ ∀ i (h : i < vs.length) (h' : i < ps.length), N1 m w vs[i] ps[i]
theorem RowN.keepT {m : Nat} {S : Nat → Prop} {w w' : World} {v : Value} {ps : List (List Int)} (h : RowN m w v ps) (k : Keep S w w') (hS : ∀ g, S g → ∀ c, w.heap[g]? ≠ some (.cells c 5 (0, 0)) ∧ w.heap[g]? ≠ some (.cells c 22 (0, 0))) : RowN m w' v ps := by
  obtain ⟨vs, h1, h2, h3⟩ := h
  exact ⟨vs, h1.keep k fun g hg hs => by obtain ⟨_, c, hc⟩ := h1.blk hg; exact (hS g hs c).2 hc, h2, fun i a b => (h3 i a b).keepT k fun g hs c => (hS g hs c).1⟩
theorem RowN.ext {m : Nat} {w w' : World} {v : Value} {ps : List (List Int)} (h : RowN m w v ps) (k : Ext w w') : RowN m w' v ps := h.keepT k fun g hs => hs.elim
theorem RowN.nil (m : Nat) (w : World) : RowN m w (.slice none 0 0) [] := ⟨[], OwnO.nil _ _ _ _, rfl, fun i h => by simp at h⟩
theorem RowN.rd {m : Nat} {w : World} {v : Value} {ps : List (List Int)} (h : RowN m w v ps) : RowR w v ps := by
  obtain ⟨vs, h1, h2, h3⟩ := h
  have hr := h1.rd
  rw [flat1_list] at hr
  obtain ⟨q, c, e, hc⟩ := h1.is
  rw [List.length_map, h2] at e hc
  have hml : ps.length ≤ maxLen := by
    obtain ⟨_, ⟨_, e2⟩ | ⟨g, o, cap, cur, e2, _, _, hn, hcm, _⟩⟩ := h1
    · have := congrArg List.length e2
      rw [List.length_map, List.length_nil] at this
      omega
    · rw [List.length_map, h2] at hn; omega
  exact ⟨vs, hr, h2, ⟨q, c, e, hc⟩, hml, fun i a b => (h3 i a b).1.rd⟩
end Go.Proofs
namespace Go.Proofs
open Go.Vc
set_option maxRecDepth 10000

def InN (m : Nat) (w : World) (c : Array Value) (x : TxI) : Prop := ∃ sv wv, c = iC x sv wv ∧ N1 m w sv x.script ∧ RowN m w wv x.wit
def OuN (m : Nat) (w : World) (c : Array Value) (y : TxO) : Prop := ∃ sv, c = oC y sv ∧ N1 m w sv y.script
def ListN {α : Type} (R : Nat → World → Array Value → α → Prop) (T size : Nat) (m : Nat) (w : World) (v : Value) (l : List α) : Prop :=
  ∃ cs : List (Array Value), cs.length = l.length ∧ OwnO w m T size v cs ∧ ∀ i (h : i < cs.length) (h' : i < l.length), R m w cs[i] l[i]
abbrev InsN (m : Nat) (w : World) (v : Value) (l : List TxI) : Prop := ListN InN 75 36 m w v l
abbrev OusN (m : Nat) (w : World) (v : Value) (l : List TxO) : Prop := ListN OuN 36 2 m w v l
theorem InN.keepT {m : Nat} {S : Nat → Prop} {w w' : World} {c : Array Value} {x : TxI} (h : InN m w c x) (k : Keep S w w') (hS : ∀ g, S g → ∀ c, w.heap[g]? ≠ some (.cells c 5 (0, 0)) ∧ w.heap[g]? ≠ some (.cells c 22 (0, 0))) : InN m w' c x := by
  obtain ⟨sv, wv, h1, h2, h3⟩ := h
  exact ⟨sv, wv, h1, h2.keepT k fun g hs c => (hS g hs c).1, h3.keepT k hS⟩
theorem OuN.keepT {m : Nat} {S : Nat → Prop} {w w' : World} {c : Array Value} {y : TxO} (h : OuN m w c y) (k : Keep S w w') (hS : ∀ g, S g → ∀ c, w.heap[g]? ≠ some (.cells c 5 (0, 0))) : OuN m w' c y := by
  obtain ⟨sv, h1, h2⟩ := h
  exact ⟨sv, h1, h2.keepT k hS⟩
theorem InN.ext {m : Nat} {w w' : World} {c : Array Value} {x : TxI} (h : InN m w c x) (k : Ext w w') : InN m w' c x := h.keepT k fun _ h => h.elim
theorem OuN.ext {m : Nat} {w w' : World} {c : Array Value} {y : TxO} (h : OuN m w c y) (k : Ext w w') : OuN m w' c y := h.keepT k fun _ h => h.elim
theorem ListN.keepT {α : Type} {R : Nat → World → Array Value → α → Prop} {T size m : Nat} {S : Nat → Prop} {w w' : World} {v : Value} {l : List α} (h : ListN R T size m w v l) (k : Keep S w w') (hS : ∀ g, S g → ∀ c, w.heap[g]? ≠ some (.cells c T (0, 0))) (hR : ∀ c x, R m w c x → R m w' c x) : ListN R T size m w' v l := by
  obtain ⟨cs, h1, h2, h3⟩ := h
  exact ⟨cs, h1, h2.keep k fun g hg hs => by obtain ⟨_, c, hc⟩ := h2.blk hg; exact hS g hs c hc, fun i a b => hR _ _ (h3 i a b)⟩
theorem InsN.ext {m : Nat} {w w' : World} {v : Value} {l : List TxI} (h : InsN m w v l) (k : Ext w w') : InsN m w' v l := ListN.keepT h k (fun _ h => h.elim) fun _ _ h => h.ext k
theorem OusN.ext {m : Nat} {w w' : World} {v : Value} {l : List TxO} (h : OusN m w v l) (k : Ext w w') : OusN m w' v l := ListN.keepT h k (fun _ h => h.elim) fun _ _ h => h.ext k
theorem ListN.nil {α : Type} (R : Nat → World → Array Value → α → Prop) (T size m : Nat) (w : World) : ListN R T size m w (.slice none 0 0) [] := ⟨[], rfl, OwnO.nil _ _ _ _, fun i h => by simp at h⟩
theorem ListN.one {α : Type} {R : Nat → World → Array Value → α → Prop} {T size m : Nat} {w : World} {v : Value} {l : List α} (h : ListN R T size m w v l) : v.oneCell' = true := by
  obtain ⟨_, _, h, _⟩ := h; exact h.one
theorem ListN.cells {α : Type} {R : Nat → World → Array Value → α → Prop} {T size m : Nat} {w : World} {v : Value} {l : List α} (h : ListN R T size m w v l) : v.cells = #[v] := by
  obtain ⟨_, _, h, _⟩ := h
  obtain ⟨q, c, e, _⟩ := h.is
  rw [e]; rfl
theorem InN.at {m : Nat} {w : World} {c : Array Value} {x : TxI} (h : InN m w c x) : InAt w c x := by
  obtain ⟨sv, wv, h1, h2, h3⟩ := h
  exact ⟨sv, wv, h1, h2.1.rd, h3.rd⟩
theorem OuN.at {m : Nat} {w : World} {c : Array Value} {y : TxO} (h : OuN m w c y) : OuAt w c y := by
  obtain ⟨sv, h1, h2⟩ := h
  exact ⟨sv, h1, h2.1.rd⟩
/-- One more. -/
theorem ListN.app {α : Type} {R : Nat → World → Array Value → α → Prop} {T size m bytes : Nat} {z : List Value} {w : World} {v : Value} {l : List α} {c : Array Value} {x : α} {K : Value → World → Prop} (h : ListN R T size m w v l) (hc : R m w c x) (hcs : c.size = size) (hcf : flat c)
    (hb : (l.length + 1) * bytes ≤ 140737488355328) (hl : l.length < 9223372036854775807) (hz : z.length = size) (hs : 0 < size) (hm : m ≤ w.heap.size)
    (hR : ∀ (S : Nat → Prop) w1 w2 c x, Keep S w1 w2 → (∀ g, S g → ∃ c, w1.heap[g]? = some (.cells c T (0, 0))) → R m w1 c x → R m w2 c x)
    (hk : ∀ v' w', ListN R T size m w' v' (l ++ [x]) → Ext w (w.alloc (.cells c T)) → Keep (blk v) w w' → (∀ g, blk v' g → blk v g ∨ w.heap.size ≤ g) → K v' w') :
    appV T size bytes z v (.slice (some ⟨w.heap.size, 0, none⟩) 1 1) (w.alloc (.cells c T)) K := by
  obtain ⟨cs, h1, h2, h3⟩ := h
  have hEA : Ext w (w.alloc (.cells c T)) := (Keep.refl _ w).alloc _
  have hOA := h2.ext hEA
  have hrA : rdS (w.alloc (.cells c T)) size (.slice (some ⟨w.heap.size, 0, none⟩) 1 1) = some (([c] : List (Array Value)).flatMap Array.toList).toArray := by
    simp only [rdS, rdN_heap]
    rw [if_neg (by omega), heap_new w _ _ rfl, Nat.one_mul]
    rw [rdO_all _ _ _ _ hcs]
    simp
  refine appO4 (ids2 := [c]) hOA hrA rfl (by intro k hk; rw [List.mem_singleton.1 hk]; exact hcs) (by intro k hk; rw [List.mem_singleton.1 hk]; exact hcf) (by omega) (by rw [h1]; exact hb) hz (Nat.le_trans hm hEA.size) hs fun v' w' k1 k2 k3 => ?_
  have hSb : ∀ g, blk v g → ∃ c', (w.alloc (.cells c T)).heap[g]? = some (.cells c' T (0, 0)) := fun g hg => (hOA.blk hg).2
  refine hk v' w' ⟨cs ++ [c], by simp [h1], k1, fun i a b => ?_⟩ hEA ((hEA.mono fun _ h => h.elim).trans k2 fun _ _ h => h) fun g hg => ?_
  · by_cases hi : i < cs.length
    · rw [List.getElem_append_left hi, List.getElem_append_left (by omega)]
      exact hR _ _ _ _ _ k2 hSb (hR _ _ _ _ _ hEA (fun _ h => h.elim) (h3 i hi (by omega)))
    · rw [List.length_append, List.length_singleton] at a
      have hie : i = cs.length := by omega
      subst hie
      rw [List.getElem_append_right (by omega), List.getElem_append_right (by omega)]
      have := hR _ _ _ _ _ k2 hSb (hR _ _ _ _ _ hEA (fun _ h => h.elim) hc)
      simpa using this
  · rcases k3 g hg with h | h
    · exact .inl h
    · exact .inr (by rw [size_alloc] at h; omega)
end Go.Proofs
namespace Go.Proofs
open Go.Vc
set_option maxRecDepth 10000

theorem txC_1 (t : TxV) (iv ov : Value) : (txC t iv ov)[1]? = some iv := rfl
theorem txC_2 (t : TxV) (iv ov : Value) : (txC t iv ov)[2]? = some ov := rfl
theorem txC_sz (t : TxV) (iv ov : Value) : (txC t iv ov).size = 4 := rfl
theorem cell_ext {w w' : World} {b i : Nat} {x : Value} (h : cellO w.heap[b]? i = some x) (k : Ext w w') : cellO w'.heap[b]? i = some x := by
  cases hb : w.heap[b]? with
  | none => rw [hb] at h; simp [cellO] at h
  | some o => rw [k.at hb (fun h => h), ← hb]; exact h
theorem RowN.base {m m' : Nat} {w : World} {v : Value} {ps : List (List Int)} (h : RowN m w v ps) (hm : m' ≤ m) : RowN m' w v ps := by
  obtain ⟨vs, h1, h2, h3⟩ := h
  exact ⟨vs, h1.base hm, h2, fun i a b => ⟨(h3 i a b).1, fun g hg => Nat.le_trans hm ((h3 i a b).2 g hg)⟩⟩
theorem ListN.blkT {α : Type} {R : Nat → World → Array Value → α → Prop} {T size m : Nat} {w : World} {v : Value} {l : List α} (h : ListN R T size m w v l) {g : Nat} (hg : blk v g) : m ≤ g ∧ ∃ c, w.heap[g]? = some (.cells c T (0, 0)) := by
  obtain ⟨_, _, h, _⟩ := h
  exact h.blk hg
theorem InsN.setT {m : Nat} {w w' : World} {v : Value} {l : List TxI} {p : Nat} {c : Array Value} {T : TypeId} (h : InsN m w v l) (k : Keep (fun g => g = p) w w') (hp : w.heap[p]? = some (.cells c T (0, 0))) (h1 : T ≠ 5) (h2 : T ≠ 22) (h3 : T ≠ 75) : InsN m w' v l :=
  ListN.keepT h k (fun g hg c' e => by subst hg; rw [hp] at e; injection e with e; injection e with _ e; exact h3 e) fun _ _ hR => InN.keepT hR k fun g hg c' => by
    subst hg
    rw [hp]
    exact ⟨fun e => by injection e with e; injection e with _ e; exact h1 e, fun e => by injection e with e; injection e with _ e; exact h2 e⟩
theorem OusN.setT {m : Nat} {w w' : World} {v : Value} {l : List TxO} {p : Nat} {c : Array Value} {T : TypeId} (h : OusN m w v l) (k : Keep (fun g => g = p) w w') (hp : w.heap[p]? = some (.cells c T (0, 0))) (h1 : T ≠ 5) (h3 : T ≠ 36) : OusN m w' v l :=
  ListN.keepT h k (fun g hg c' e => by subst hg; rw [hp] at e; injection e with e; injection e with _ e; exact h3 e) fun _ _ hR => OuN.keepT hR k fun g hg c' => by
    subst hg
    rw [hp]
    exact fun e => by injection e with e; injection e with _ e; exact h1 e
end Go.Proofs
namespace Go.Proofs
open Go.Vc
set_option maxRecDepth 10000

theorem flat_set {size : Nat} {v : Value} : ∀ {ids : List (Array Value)} {e j : Nat} (_ : ∀ k ∈ ids, k.size = size) (_ : e < ids.length) (_ : j < size),
    (ids.set e ((ids[e]?.getD #[]).setIfInBounds j v)).flatMap Array.toList = (ids.flatMap Array.toList).set (e * size + j) v
  | [], e, j, _, h, _ => by simp at h
  | a :: ids, 0, j, hs, _, hj => by
    have ha : a.toList.length = size := by simpa using hs a (by simp)
    simp only [List.set_cons_zero, List.flatMap_cons, Nat.zero_mul, Nat.zero_add, List.getElem?_cons_zero, Option.getD_some, Array.toList_setIfInBounds]
    rw [List.set_append_left _ _ (by omega)]
  | a :: ids, e + 1, j, hs, he, hj => by
    have ha : a.toList.length = size := by simpa using hs a (by simp)
    have ih := flat_set (v := v) (ids := ids) (e := e) (j := j) (fun k hk => hs k (by simp [hk])) (by simpa using he) hj
    simp only [List.set_cons_succ, List.flatMap_cons, List.getElem?_cons_succ]
    rw [ih, List.set_append_right _ _ (by rw [ha, Nat.add_mul]; omega), ha]
    congr 2
    rw [Nat.add_mul]; omega
/-- A cell of an element is written. -/
theorem OwnO.setc {w : World} {base el size : Nat} {v : Value} {ids : List (Array Value)} (h : OwnO w base el size v ids) {e j : Nat} (he : e < ids.length) (hj : j < size) (x : Value) :
    ∃ g o cap, v = .slice (some ⟨g, o, none⟩) ids.length cap ∧ Go.Proofs.blk v g ∧ wr1 w g (o + e * size + j) ∧ OwnO (w.setCell ⟨g, o + e * size + j, none⟩ x) base el size v (ids.set e (ids[e].setIfInBounds j x)) := by
  have hid : ids[e]?.getD #[] = ids[e] := by rw [List.getElem?_eq_getElem he]; rfl
  obtain ⟨hs, ⟨rfl, rfl⟩ | ⟨g, o, cap, cur, rfl, hb, hg, hn, hcm, hle, htake⟩⟩ := h
  · simp at he
  · have h1 : (e + 1) * size ≤ ids.length * size := Nat.mul_le_mul_right _ he
    have h2 : ids.length * size ≤ cap * size := Nat.mul_le_mul_right _ hn
    rw [Nat.add_mul, Nat.one_mul] at h1
    refine ⟨g, o, cap, rfl, rfl, wr1_of hg (by omega), fun k hk => ?_, .inr ⟨g, o, cap, _, by rw [List.length_set], hb, heap_setCell_eq hg, by rw [List.length_set]; exact hn, hcm, by rw [Array.size_setIfInBounds]; exact hle, ?_⟩⟩
    · rcases List.mem_or_eq_of_mem_set hk with hk | rfl
      · exact hs k hk
      · rw [Array.size_setIfInBounds]; exact hs _ (List.getElem_mem he)
    · have hf := flat_set (v := x) hs he hj
      rw [hid] at hf
      rw [List.length_set, hf, Array.toList_setIfInBounds, ← htake, Nat.add_assoc, List.drop_set, if_neg (by omega), Nat.add_sub_cancel_left, List.take_set]
theorem OwnO.take {w : World} {base el size n c : Nat} {q : Option Addr} {ids : List (Array Value)} (h : OwnO w base el size (.slice q n c) ids) {l : Nat} (hl : l ≤ ids.length) : OwnO w base el size (.slice q l c) (ids.take l) := by
  obtain ⟨hs, ⟨e, rfl⟩ | ⟨g, o, cap, cur, e, hb, hg, hn, hcm, hle, htake⟩⟩ := h
  · have : l = 0 := by simpa using hl
    subst this
    injection e with e1 e2 e3
    subst e1 e3
    exact OwnO.nil w base el size
  · injection e with e1 e2 e3
    subst e1 e3
    have ht : (ids.take l).length = l := by rw [List.length_take]; omega
    refine ⟨fun k hk => hs k (List.mem_of_mem_take hk), .inr ⟨g, o, c, cur, by rw [ht], hb, hg, by omega, hcm, hle, ?_⟩⟩
    rw [ht, ← flat_take l hs, ← htake, List.take_take]
    congr 1
    have := Nat.mul_le_mul_right size hl
    omega
/-- Bytes in a block of bytes. -/
def B5 (w : World) (v : Value) (bs : List Int) : Prop := Rd w v bs ∧ byt bs ∧ bs.length ≤ 140737488355328 ∧ ∀ q n c, v = .slice (some q) n c → ∃ cs, w.heap[q.block]? = some (.cells cs 5 (0, 0))
theorem B5.keepT {S : Nat → Prop} {w w' : World} {v : Value} {bs : List Int} (h : B5 w v bs) (k : Keep S w w') (hS : ∀ g, S g → ∀ c, w.heap[g]? ≠ some (.cells c 5 (0, 0))) : B5 w' v bs := by
  obtain ⟨h1, h2, h3, h4⟩ := h
  have hn : ∀ q n c, v = .slice (some q) n c → ¬ S q.block := fun q n c e hs => by obtain ⟨cs, hc⟩ := h4 q n c e; exact hS _ hs cs hc
  exact ⟨h1.keep k hn, h2, h3, fun q n c e => by obtain ⟨cs, hc⟩ := h4 q n c e; exact ⟨cs, k.at hc (hn q n c e)⟩⟩
theorem B5.cut {w : World} {q : Option Addr} {n c : Nat} {bs : List Int} (h : B5 w (.slice q n c) bs) {k : Nat} (hk : k ≤ n) : B5 w (.slice q k c) (bs.take k) := by
  obtain ⟨h1, h2, h3, h4⟩ := h
  have h5 := h1.cut (l := 0) (j := k) (Nat.zero_le _) hk
  rw [advA_0, Nat.sub_zero, Nat.sub_zero, List.drop_zero] at h5
  exact ⟨h5, byt_take h2 k, by rw [List.length_take]; omega, fun q' n' c' e => by injection e with e1 e2 e3; exact h4 q' n c (by rw [e1])⟩
theorem N1.b5 {m : Nat} {w : World} {v : Value} {bs : List Int} (h : N1 m w v bs) (hb : byt bs) (hl : bs.length ≤ 140737488355328) : B5 w v bs :=
  ⟨h.1.rd, hb, hl, fun q n c e => by subst e; exact row_type h.1 rfl⟩
end Go.Proofs
namespace Go.Proofs
open Go.Vc
set_option maxRecDepth 10000

theorem ListN.setc {α : Type} {R : Nat → World → Array Value → α → Prop} {T size m : Nat} {w : World} {v : Value} {l : List α} (h : ListN R T size m w v l) {g o n cap i j : Nat} (he : v = .slice (some ⟨g, o, none⟩) n cap) (hi : i < l.length) (hj : j < size) (val : Value) (x' : α)
    (hnew : ∀ c, R m w c l[i] → R m (w.setCell ⟨g, o + i * size + j, none⟩ val) (c.setIfInBounds j val) x') (hR : ∀ c x, R m w c x → R m (w.setCell ⟨g, o + i * size + j, none⟩ val) c x) :
    wr1 w g (o + i * size + j) ∧ ListN R T size m (w.setCell ⟨g, o + i * size + j, none⟩ val) v (l.set i x') := by
  obtain ⟨cs, h1, h2, h3⟩ := h
  obtain ⟨g', o', cap', e, hb, hw, hO⟩ := h2.setc (e := i) (j := j) (by omega) hj val
  rw [he] at e
  injection e with e1 e2 e3
  injection e1 with e1
  injection e1 with e4 e5
  subst e4 e5
  refine ⟨hw, cs.set i (cs[i].setIfInBounds j val), by simp [h1], hO, fun k a b => ?_⟩
  rw [List.length_set] at a b
  by_cases hk : i = k
  · subst hk
    rw [List.getElem_set_self, List.getElem_set_self]
    exact hnew _ (h3 i (by omega) hi)
  · rw [List.getElem_set_ne hk, List.getElem_set_ne hk]
    exact hR _ _ (h3 k a b)
theorem ListN.at {α : Type} {R : Nat → World → Array Value → α → Prop} {T size m : Nat} {w : World} {v : Value} {l : List α} (h : ListN R T size m w v l) {i : Nat} (hi : i < l.length) :
    ∃ g o cap c, v = .slice (some ⟨g, o, none⟩) l.length cap ∧ rdO w.heap[g]? (o + i * size) size = some c ∧ R m w c l[i] ∧ m ≤ g ∧ ∃ cur, w.heap[g]? = some (.cells cur T (0, 0)) := by
  obtain ⟨cs, h1, h2, h3⟩ := h
  obtain ⟨g, o, cap, cur, e, hg, hr⟩ := h2.at (j := i) (by omega)
  rw [h1] at e
  exact ⟨g, o, cap, cs[i], e, hr, h3 i (by omega) hi, (h2.blk (g := g) (by rw [e]; rfl)).1, cur, hg⟩
theorem ListN.len {α : Type} {R : Nat → World → Array Value → α → Prop} {T size m : Nat} {w : World} {v : Value} {l : List α} (h : ListN R T size m w v l) : lenR v = some (.int .i64 (l.length : Nat)) := by
  obtain ⟨cs, h1, h2, _⟩ := h
  rw [h2.len, h1]
theorem ListN.is {α : Type} {R : Nat → World → Array Value → α → Prop} {T size m : Nat} {w : World} {v : Value} {l : List α} (h : ListN R T size m w v l) : ∃ q c, v = .slice q l.length c ∧ l.length ≤ c := by
  obtain ⟨cs, h1, h2, _⟩ := h
  obtain ⟨q, c, e, hc⟩ := h2.is
  exact ⟨q, c, by rw [e, h1], by omega⟩
theorem ListN.take {α : Type} {R : Nat → World → Array Value → α → Prop} {T size m n c : Nat} {w : World} {q : Option Addr} {l : List α} (h : ListN R T size m w (.slice q n c) l) {k : Nat} (hk : k ≤ l.length) : ListN R T size m w (.slice q k c) (l.take k) := by
  obtain ⟨cs, h1, h2, h3⟩ := h
  refine ⟨cs.take k, by simp [h1], h2.take (by omega), fun i a b => ?_⟩
  rw [List.length_take] at a b
  rw [List.getElem_take, List.getElem_take]
  exact h3 i (by omega) (by omega)
section
variable {w wj w' : World} {p3 p6 : Nat} {t : TxV} {vi vo : Value} {li : List TxI} {lo : List TxO}
theorem ne_T {g : Nat} {c : Array Value} {T T' : TypeId} (h : w.heap[g]? = some (.cells c T (0, 0))) (hT : T ≠ T') : ∀ c', w.heap[g]? ≠ some (.cells c' T' (0, 0)) := fun c' e => by rw [h] at e; injection e with e; injection e with _ e; exact hT e
end
end Go.Proofs
namespace Go.Proofs
open Go.Vc
set_option maxRecDepth 10000

theorem N1.base {m m' : Nat} {w : World} {v : Value} {bs : List Int} (h : N1 m w v bs) (hm : m' ≤ m) : N1 m' w v bs := ⟨h.1, fun g hg => Nat.le_trans hm (h.2 g hg)⟩
theorem InN.base {m m' : Nat} {w : World} {c : Array Value} {x : TxI} (h : InN m w c x) (hm : m' ≤ m) : InN m' w c x := by
  obtain ⟨sv, wv, h1, h2, h3⟩ := h
  exact ⟨sv, wv, h1, h2.base hm, h3.base hm⟩
theorem OuN.base {m m' : Nat} {w : World} {c : Array Value} {y : TxO} (h : OuN m w c y) (hm : m' ≤ m) : OuN m' w c y := by
  obtain ⟨sv, h1, h2⟩ := h
  exact ⟨sv, h1, h2.base hm⟩
theorem OwnO.mx {w : World} {base el size : Nat} {v : Value} {ids : List (Array Value)} (h : OwnO w base el size v ids) : ids.length ≤ maxLen := by
  obtain ⟨_, ⟨_, rfl⟩ | ⟨g, o, cap, cur, e, hb, hg, hn, hcm, _⟩⟩ := h
  · exact Nat.zero_le _
  · omega
end Go.Proofs
