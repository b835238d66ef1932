/- SHA-256: one block, as the program takes it. -/
import Derived.Test.YthjgmajfkfhdaaaH3
set_option linter.unusedSimpArgs false
set_option linter.unusedVariables false
set_option linter.constructorNameAsVariable false
namespace Go.Proofs
open Go.Vc
set_option maxRecDepth 10000

theorem b32_of {v : Int} (h : 0 ≤ v ∧ v ≤ 255) : Value.int .u32 (IntKind.u32.wrap v) = U32 (b32 v) := by
  unfold U32 b32
  rw [BitVec.toNat_ofNat, wrap_u32, Nat.mod_eq_of_lt (by omega)]
  congr 1
  omega
theorem U32_shl24 (x : BitVec 32) : binR .shl (U32 x) (.int .u64 24) = some (U32 (x <<< 24)) := U32_shl x .u64 24 (by decide)
theorem U32_shl16 (x : BitVec 32) : binR .shl (U32 x) (.int .u64 16) = some (U32 (x <<< 16)) := U32_shl x .u64 16 (by decide)
theorem U32_shl8 (x : BitVec 32) : binR .shl (U32 x) (.int .u64 8) = some (U32 (x <<< 8)) := U32_shl x .u64 8 (by decide)
theorem U32_shr3 (x : BitVec 32) : binR .shr (U32 x) (.int .u64 3) = some (U32 (x >>> 3)) := U32_shr x .u64 3 (by decide)
theorem U32_shr10 (x : BitVec 32) : binR .shr (U32 x) (.int .u64 10) = some (U32 (x >>> 10)) := U32_shr x .u64 10 (by decide)
theorem rd_byte {w : World} {x : Value} {bs : List Int} (h : Rd w x bs) (hb : byt bs) {i : Nat} (hi : i < bs.length) : ∃ b o c, x = .slice (some ⟨b, o, none⟩) bs.length c ∧ cellO w.heap[b]? (o + i) = some (.int .u8 (bs.getD i 0)) ∧ 0 ≤ bs.getD i 0 ∧ bs.getD i 0 ≤ 255 := by
  obtain ⟨b, o, c, e, hc⟩ := h.at hi
  have e2 : bs.getD i 0 = bs[i] := by simp [List.getD, List.getElem?_eq_getElem hi]
  have := hb _ (List.getElem_mem hi)
  exact ⟨b, o, c, e, by rw [e2]; exact hc, by rw [e2]; omega, by rw [e2]; omega⟩
set_option maxHeartbeats 3200000 in
theorem step_ok (w : World) (g pk : Nat) (x : Value) (blk : List Int) (s : S8) (rest : List Value) (T T2 : TypeId) (hg : w.heap[g]? = some (.cells ((s.list.map U32 ++ rest).toArray) T (0, 0))) (hk : w.heap[pk]? = some (.cells (wcs kL) T2 (0, 0))) (hne : pk ≠ g)
    (hx : Rd w x blk) (hl : blk.length = 64) (hb : byt blk) :
    Calls Try.prog 28 #[.pointer (some ⟨g, 0, none⟩), .pointer (some ⟨pk, 0, none⟩), x] w (Ret fun _ w' => w'.heap[g]? = some (.cells (((compF s blk).list.map U32 ++ rest).toArray) T (0, 0)) ∧ Keep (fun y => y = g) w w') := by
  refine calls_of_cfg c28_ok (Nat.le_of_ble_eq_true rfl) ?_
  simp only [argE_nil, argE_cons, Nat.reduceAdd, Nat.zero_add]
  have hws := wsF_len blk
  generalize hwsd : wsF blk = ws at hws
  (refine W_at c28_ok ?_; refine ⟨_, rfl, ?_⟩; simp (disch := first | omega | assumption | rfl | (simp only [vcS] <;> omega) | fail) only [↓ptV_l, ↓vcA, vcB, ↓vcD, vcE, ↓reduceIte, Nat.reduceEqDiff, Nat.reduceAdd, Nat.reduceMul, Nat.reduceLeDiff, Int.reduceLE, Int.reduceLT, Int.reduceEq, Int.reduceToNat, Int.reduceAdd, Int.reduceSub, Int.reduceMul, Int.reduceNeg, reduceCtorEq, Option.bind_some, Option.map_some, List.length_cons, List.length_nil, vcM, List.getElem?_toArray, List.getElem?_cons_zero, List.getElem?_cons_succ])
  have hE0 : Ext w (w.alloc (.cells (zc [(64, .int .u32 0)]) 60)) := (Keep.refl _ w).alloc _
  have hp6 : (w.alloc (.cells (zc [(64, .int .u32 0)]) 60)).heap[w.heap.size]? = some (.cells (arrW ws 0) 60 (0, 0)) := by rw [arrW_0]; exact heap_new _ _ _ rfl
  have hgl := lt_of_heap hg
  have hkl := lt_of_heap hk
  have hp6g : w.heap.size ≤ w.heap.size := Nat.le_refl _
  generalize World.alloc _ _ = w1 at hE0 hp6 ⊢
  generalize hp6e : w.heap.size = p6 at hp6 hgl hkl hp6g ⊢
  (refine W_at c28_ok ?_; refine ⟨_, rfl, ?_⟩; simp (disch := first | omega | assumption | rfl | (simp only [vcS] <;> omega) | fail) only [↓ptV_l, ↓vcA, vcB, ↓vcD, vcE, ↓reduceIte, Nat.reduceEqDiff, Nat.reduceAdd, Nat.reduceMul, Nat.reduceLeDiff, Int.reduceLE, Int.reduceLT, Int.reduceEq, Int.reduceToNat, Int.reduceAdd, Int.reduceSub, Int.reduceMul, Int.reduceNeg, reduceCtorEq, Option.bind_some, Option.map_some, List.length_cons, List.length_nil, vcM, List.getElem?_toArray, List.getElem?_cons_zero, List.getElem?_cons_succ])
  have L1 : ∀ (k i : Nat) (wj : World), i + k = 64 → wj.heap[p6]? = some (.cells (arrW ws i) 60 (0, 0)) → Ext w wj →
      W Try.prog (Ret fun _ w' => w'.heap[g]? = some (.cells (((compF s blk).list.map U32 ++ rest).toArray) T (0, 0)) ∧ Keep (fun y => y = g) w w') 28 30 [(0, .pointer (some ⟨g, 0, none⟩)), (1, .pointer (some ⟨pk, 0, none⟩)), (2, x), (6, .pointer (some ⟨p6, 0, none⟩)), (18, .int .i64 (i : Nat))] wj := by
    intro k
    induction k with
    | zero =>
      intro i wj hi h6 hE
      obtain rfl : i = 64 := by omega
      have hno : ¬ (((64 : Nat) : Int)) < 64 := by omega
      rw [arrW_all ws hws] at h6
      have hgj := hE.at hg (fun h => h)
      have hkj := hE.at hk (fun h => h)
      have hr8 : rdO (some (.cells ((s.list.map U32 ++ rest).toArray) T (0, 0))) 0 8 = some (wcs s.list) := rd8 s rest T
      have s8 : (wcs s.list).size = 8 := wcs_size _
      have hs64 : (wcs ws).size = 64 := by rw [wcs_size]; exact hws
      have hr64 : rdO (some (.cells (wcs ws) 60 (0, 0))) 0 64 = some (wcs ws) := rdO_all _ _ _ _ hs64
      (refine W_at c28_ok ?_; refine ⟨_, rfl, ?_⟩; simp (disch := first | omega | assumption | rfl | (simp only [vcS] <;> omega) | fail) only [↓ptV_l, ↓vcA, vcB, ↓vcD, vcE, ↓reduceIte, Nat.reduceEqDiff, Nat.reduceAdd, Nat.reduceMul, Nat.reduceLeDiff, Int.reduceLE, Int.reduceLT, Int.reduceEq, Int.reduceToNat, Int.reduceAdd, Int.reduceSub, Int.reduceMul, Int.reduceNeg, reduceCtorEq, Option.bind_some, Option.map_some, List.length_cons, List.length_nil, vcM, List.getElem?_toArray, List.getElem?_cons_zero, List.getElem?_cons_succ])
      (refine W_at c28_ok ?_; refine ⟨_, rfl, ?_⟩; simp (disch := first | omega | assumption | rfl | (simp only [vcS] <;> omega) | fail) only [↓ptV_l, ↓vcA, vcB, ↓vcD, vcE, ↓reduceIte, Nat.reduceEqDiff, Nat.reduceAdd, Nat.reduceMul, Nat.reduceLeDiff, Int.reduceLE, Int.reduceLT, Int.reduceEq, Int.reduceToNat, Int.reduceAdd, Int.reduceSub, Int.reduceMul, Int.reduceNeg, reduceCtorEq, Option.bind_some, Option.map_some, List.length_cons, List.length_nil, vcM, List.getElem?_toArray, List.getElem?_cons_zero, List.getElem?_cons_succ])
      (refine W_at c28_ok ?_; refine ⟨_, rfl, ?_⟩; simp (disch := first | omega | assumption | rfl | (simp only [vcS] <;> omega) | fail) only [↓ptV_l, ↓vcA, vcB, ↓vcD, vcE, ↓reduceIte, Nat.reduceEqDiff, Nat.reduceAdd, Nat.reduceMul, Nat.reduceLeDiff, Int.reduceLE, Int.reduceLT, Int.reduceEq, Int.reduceToNat, Int.reduceAdd, Int.reduceSub, Int.reduceMul, Int.reduceNeg, reduceCtorEq, Option.bind_some, Option.map_some, List.length_cons, List.length_nil, vcM, List.getElem?_toArray, List.getElem?_cons_zero, List.getElem?_cons_succ, hgj, hr8, s8])
      try refine ⟨wcs_flat _, ?_⟩
      have hp10 : ((wj.alloc (.cells (zc [(8, .int .u32 0)]) 29)).putN wj.heap.size 0 (wcs s.list)).heap[wj.heap.size]? = some (.cells (wcs s.list) 29 (0, 0)) := by
        rw [heap_putN_eq (heap_new _ _ _ rfl), splice_all (by rfl)]
      have hE10 : Ext wj ((wj.alloc (.cells (zc [(8, .int .u32 0)]) 29)).putN wj.heap.size 0 (wcs s.list)) := ((Keep.refl _ wj).alloc _).putN _ (by intro hh; exfalso; omega)
      have h6lt := lt_of_heap h6
      generalize World.putN _ _ _ _ = wa at hp10 hE10 ⊢
      generalize wj.heap.size = p10 at hp10 h6lt ⊢
      have h6a := hE10.at h6 (fun h => h)
      have hka := hE10.at hkj (fun h => h)
      have hga := hE10.at hgj (fun h => h)
      have hEa := hE.ext hE10
      (refine W_at c28_ok ?_; refine ⟨_, rfl, ?_⟩; simp (disch := first | omega | assumption | rfl | (simp only [vcS] <;> omega) | fail) only [↓ptV_l, ↓vcA, vcB, ↓vcD, vcE, ↓reduceIte, Nat.reduceEqDiff, Nat.reduceAdd, Nat.reduceMul, Nat.reduceLeDiff, Int.reduceLE, Int.reduceLT, Int.reduceEq, Int.reduceToNat, Int.reduceAdd, Int.reduceSub, Int.reduceMul, Int.reduceNeg, reduceCtorEq, Option.bind_some, Option.map_some, List.length_cons, List.length_nil, vcM, List.getElem?_toArray, List.getElem?_cons_zero, List.getElem?_cons_succ, h6a, hr64])
      have L2 : ∀ (k i : Nat) (wj : World), i + k = 64 → wj.heap[p10]? = some (.cells (wcs (rndN i s kL ws).list) 29 (0, 0)) → Ext w wj →
          W Try.prog (Ret fun _ w' => w'.heap[g]? = some (.cells (((compF s blk).list.map U32 ++ rest).toArray) T (0, 0)) ∧ Keep (fun y => y = g) w w') 28 18 [(0, .pointer (some ⟨g, 0, none⟩)), (1, .pointer (some ⟨pk, 0, none⟩)), (10, .pointer (some ⟨p10, 0, none⟩)), (99, .agg (wcs ws)), (100, .int .i64 (i : Nat))] wj := by
        intro k
        induction k with
        | zero =>
          intro i wj hi h10 hE
          obtain rfl : i = 64 := by omega
          have hgk := hE.at hg (fun h => h)
          have hcF : compF s blk = s.add (rndN 64 s kL ws) := by unfold compF; rw [hwsd]
          rw [hcF]
          generalize rndN 64 s kL ws = v at h10 ⊢
          (refine W_at c28_ok ?_; refine ⟨_, rfl, ?_⟩; simp (disch := first | omega | assumption | rfl | (simp only [vcS] <;> omega) | fail) only [↓ptV_l, ↓vcA, vcB, ↓vcD, vcE, ↓reduceIte, Nat.reduceEqDiff, Nat.reduceAdd, Nat.reduceMul, Nat.reduceLeDiff, Int.reduceLE, Int.reduceLT, Int.reduceEq, Int.reduceToNat, Int.reduceAdd, Int.reduceSub, Int.reduceMul, Int.reduceNeg, reduceCtorEq, Option.bind_some, Option.map_some, List.length_cons, List.length_nil, vcM, List.getElem?_toArray, List.getElem?_cons_zero, List.getElem?_cons_succ])
          (refine W_at c28_ok ?_; refine ⟨_, rfl, ?_⟩; simp (disch := first | omega | assumption | rfl | (simp only [vcS] <;> omega) | fail) only [↓ptV_l, ↓vcA, vcB, ↓vcD, vcE, ↓reduceIte, Nat.reduceEqDiff, Nat.reduceAdd, Nat.reduceMul, Nat.reduceLeDiff, Int.reduceLE, Int.reduceLT, Int.reduceEq, Int.reduceToNat, Int.reduceAdd, Int.reduceSub, Int.reduceMul, Int.reduceNeg, reduceCtorEq, Option.bind_some, Option.map_some, List.length_cons, List.length_nil, vcM, List.getElem?_toArray, List.getElem?_cons_zero, List.getElem?_cons_succ])
          (refine W_at c28_ok ?_; refine ⟨_, rfl, ?_⟩; simp (disch := first | omega | assumption | rfl | (simp only [vcS] <;> omega) | fail) only [↓ptV_l, ↓vcA, vcB, ↓vcD, vcE, ↓reduceIte, Nat.reduceEqDiff, Nat.reduceAdd, Nat.reduceMul, Nat.reduceLeDiff, Int.reduceLE, Int.reduceLT, Int.reduceEq, Int.reduceToNat, Int.reduceAdd, Int.reduceSub, Int.reduceMul, Int.reduceNeg, reduceCtorEq, Option.bind_some, Option.map_some, List.length_cons, List.length_nil, vcM, List.getElem?_toArray, List.getElem?_cons_zero, List.getElem?_cons_succ])
          rw [← addA_0 s v rest] at hgk
          have L3 : ∀ (k i : Nat) (wz : World), i + k = 8 → wz.heap[g]? = some (.cells (addA s v rest i) T (0, 0)) → wz.heap[p10]? = some (.cells (wcs v.list) 29 (0, 0)) → Keep (fun y => y = g) w wz →
              W Try.prog (Ret fun _ w' => w'.heap[g]? = some (.cells (((s.add v).list.map U32 ++ rest).toArray) T (0, 0)) ∧ Keep (fun y => y = g) w w') 28 6 [(0, .pointer (some ⟨g, 0, none⟩)), (10, .pointer (some ⟨p10, 0, none⟩)), (175, .int .i64 (i : Nat))] wz := by
            intro k
            induction k with
            | zero =>
              intro i wz hi hgz hpz hKz
              obtain rfl : i = 8 := by omega
              rw [addA_8] at hgz
              (refine W_at c28_ok ?_; refine ⟨_, rfl, ?_⟩; simp (disch := first | omega | assumption | rfl | (simp only [vcS] <;> omega) | fail) only [↓ptV_l, ↓vcA, vcB, ↓vcD, vcE, ↓reduceIte, Nat.reduceEqDiff, Nat.reduceAdd, Nat.reduceMul, Nat.reduceLeDiff, Int.reduceLE, Int.reduceLT, Int.reduceEq, Int.reduceToNat, Int.reduceAdd, Int.reduceSub, Int.reduceMul, Int.reduceNeg, reduceCtorEq, Option.bind_some, Option.map_some, List.length_cons, List.length_nil, vcM, List.getElem?_toArray, List.getElem?_cons_zero, List.getElem?_cons_succ])
              (refine W_at c28_ok ?_; refine ⟨_, rfl, ?_⟩; simp (disch := first | omega | assumption | rfl | (simp only [vcS] <;> omega) | fail) only [↓ptV_l, ↓vcA, vcB, ↓vcD, vcE, ↓reduceIte, Nat.reduceEqDiff, Nat.reduceAdd, Nat.reduceMul, Nat.reduceLeDiff, Int.reduceLE, Int.reduceLT, Int.reduceEq, Int.reduceToNat, Int.reduceAdd, Int.reduceSub, Int.reduceMul, Int.reduceNeg, reduceCtorEq, Option.bind_some, Option.map_some, List.length_cons, List.length_nil, vcM, List.getElem?_toArray, List.getElem?_cons_zero, List.getElem?_cons_succ])
              (refine W_at c28_ok ?_; refine ⟨_, rfl, ?_⟩; simp (disch := first | omega | assumption | rfl | (simp only [vcS] <;> omega) | fail) only [↓ptV_l, ↓vcA, vcB, ↓vcD, vcE, ↓reduceIte, Nat.reduceEqDiff, Nat.reduceAdd, Nat.reduceMul, Nat.reduceLeDiff, Int.reduceLE, Int.reduceLT, Int.reduceEq, Int.reduceToNat, Int.reduceAdd, Int.reduceSub, Int.reduceMul, Int.reduceNeg, reduceCtorEq, Option.bind_some, Option.map_some, List.length_cons, List.length_nil, vcM, List.getElem?_toArray, List.getElem?_cons_zero, List.getElem?_cons_succ, Ret_returned])
              exact ⟨hgz, hKz⟩
            | succ k ih =>
              intro i wz hi hgz hpz hKz
              have hlt : ((i : Nat) : Int) < 8 := by omega
              have b1 : 0 ≤ ((i : Nat) : Int) ∧ ((i : Nat) : Int) < 8 := by omega
              have hwi : IntKind.i64.wrap (((i : Nat) : Int) + 1) = ((i + 1 : Nat) : Int) := wrap_i64 (by omega) (by omega)
              have e1 := addA_at s v rest i (by omega)
              have e2 := wcs8_at v i (by omega)
              have e3 := addA_set s v rest i (by omega)
              have hsz := addA_size s v rest i (by omega)
              (refine W_at c28_ok ?_; refine ⟨_, rfl, ?_⟩; simp (disch := first | omega | assumption | rfl | (simp only [vcS] <;> omega) | fail) only [↓ptV_l, ↓vcA, vcB, ↓vcD, vcE, ↓reduceIte, Nat.reduceEqDiff, Nat.reduceAdd, Nat.reduceMul, Nat.reduceLeDiff, Int.reduceLE, Int.reduceLT, Int.reduceEq, Int.reduceToNat, Int.reduceAdd, Int.reduceSub, Int.reduceMul, Int.reduceNeg, reduceCtorEq, Option.bind_some, Option.map_some, List.length_cons, List.length_nil, vcM, List.getElem?_toArray, List.getElem?_cons_zero, List.getElem?_cons_succ, hlt])
              (refine W_at c28_ok ?_; refine ⟨_, rfl, ?_⟩; simp (disch := first | omega | assumption | rfl | (simp only [vcS] <;> omega) | fail) only [↓ptV_l, ↓vcA, vcB, ↓vcD, vcE, ↓reduceIte, Nat.reduceEqDiff, Nat.reduceAdd, Nat.reduceMul, Nat.reduceLeDiff, Int.reduceLE, Int.reduceLT, Int.reduceEq, Int.reduceToNat, Int.reduceAdd, Int.reduceSub, Int.reduceMul, Int.reduceNeg, reduceCtorEq, Option.bind_some, Option.map_some, List.length_cons, List.length_nil, vcM, List.getElem?_toArray, List.getElem?_cons_zero, List.getElem?_cons_succ])
              (refine W_at c28_ok ?_; refine ⟨_, rfl, ?_⟩; simp (disch := first | omega | assumption | rfl | (simp only [vcS] <;> omega) | fail) only [↓ptV_l, ↓vcA, vcB, ↓vcD, vcE, ↓reduceIte, Nat.reduceEqDiff, Nat.reduceAdd, Nat.reduceMul, Nat.reduceLeDiff, Int.reduceLE, Int.reduceLT, Int.reduceEq, Int.reduceToNat, Int.reduceAdd, Int.reduceSub, Int.reduceMul, Int.reduceNeg, reduceCtorEq, Option.bind_some, Option.map_some, List.length_cons, List.length_nil, vcM, List.getElem?_toArray, List.getElem?_cons_zero, List.getElem?_cons_succ])
              (refine W_at c28_ok ?_; refine ⟨_, rfl, ?_⟩; simp (disch := first | omega | assumption | rfl | (simp only [vcS] <;> omega) | fail) only [↓ptV_l, ↓vcA, vcB, ↓vcD, vcE, ↓reduceIte, Nat.reduceEqDiff, Nat.reduceAdd, Nat.reduceMul, Nat.reduceLeDiff, Int.reduceLE, Int.reduceLT, Int.reduceEq, Int.reduceToNat, Int.reduceAdd, Int.reduceSub, Int.reduceMul, Int.reduceNeg, reduceCtorEq, Option.bind_some, Option.map_some, List.length_cons, List.length_nil, vcM, List.getElem?_toArray, List.getElem?_cons_zero, List.getElem?_cons_succ, hgz, hpz, b1, Int.toNat_natCast, Nat.mul_one, Nat.zero_add, e1, e2, U32_add])
              have hgz : wz.drew.heap[g]? = some (.cells (addA s v rest i) T (0, 0)) := hgz
              have hpz : wz.drew.heap[p10]? = some (.cells (wcs v.list) 29 (0, 0)) := hpz
              have hKz := hKz.drew
              generalize wz.drew = wz at hgz hpz hKz ⊢
              refine ⟨rfl, wr1_of hgz (by rw [hsz]; omega), ?_⟩
              have hgy : (wz.setCell ⟨g, i, none⟩ (U32 (s.list.getD i 0 + v.list.getD i 0))).heap[g]? = some (.cells (addA s v rest (i + 1)) T (0, 0)) := by rw [heap_setCell_eq hgz, e3]
              have ky : Keep (fun x => x = g) wz (wz.setCell ⟨g, i, none⟩ (U32 (s.list.getD i 0 + v.list.getD i 0))) := (Keep.refl _ wz).setCell _ fun _ => rfl
              have hpy := ky.at hpz (by omega)
              generalize World.setCell _ _ _ = wy at hgy ky hpy ⊢
              (refine W_at c28_ok ?_; refine ⟨_, rfl, ?_⟩; simp (disch := first | omega | assumption | rfl | (simp only [vcS] <;> omega) | fail) only [↓ptV_l, ↓vcA, vcB, ↓vcD, vcE, ↓reduceIte, Nat.reduceEqDiff, Nat.reduceAdd, Nat.reduceMul, Nat.reduceLeDiff, Int.reduceLE, Int.reduceLT, Int.reduceEq, Int.reduceToNat, Int.reduceAdd, Int.reduceSub, Int.reduceMul, Int.reduceNeg, reduceCtorEq, Option.bind_some, Option.map_some, List.length_cons, List.length_nil, vcM, List.getElem?_toArray, List.getElem?_cons_zero, List.getElem?_cons_succ, hwi])
              (refine W_at c28_ok ?_; refine ⟨_, rfl, ?_⟩; simp (disch := first | omega | assumption | rfl | (simp only [vcS] <;> omega) | fail) only [↓ptV_l, ↓vcA, vcB, ↓vcD, vcE, ↓reduceIte, Nat.reduceEqDiff, Nat.reduceAdd, Nat.reduceMul, Nat.reduceLeDiff, Int.reduceLE, Int.reduceLT, Int.reduceEq, Int.reduceToNat, Int.reduceAdd, Int.reduceSub, Int.reduceMul, Int.reduceNeg, reduceCtorEq, Option.bind_some, Option.map_some, List.length_cons, List.length_nil, vcM, List.getElem?_toArray, List.getElem?_cons_zero, List.getElem?_cons_succ])
              exact ih (i + 1) wy (by omega) hgy hpy (hKz.trans ky fun _ _ h => h)
          exact L3 8 0 wj (by omega) hgk h10 (hE.mono fun _ h => h.elim)
        | succ k ih =>
          intro i wj hi h10 hE
          have hlt : ((i : Nat) : Int) < 64 := by omega
          have b1 : 0 ≤ ((i : Nat) : Int) ∧ ((i : Nat) : Int) < 64 := by omega
          have hwi : IntKind.i64.wrap (((i : Nat) : Int) + 1) = ((i + 1 : Nat) : Int) := wrap_i64 (by omega) (by omega)
          have hkl64 := kL_len
          have hrs := rndN_snoc i s kL ws (by omega) (by omega)
          have hwsi : (wcs ws)[i]? = some (U32 (ws[i]'(by omega))) := by simp [wcs, List.getElem?_eq_getElem (show i < ws.length by omega)]
          have hki : (wcs kL)[i]? = some (U32 (kL[i]'(by omega))) := by simp [wcs, List.getElem?_eq_getElem (show i < kL.length by omega)]
          have hkj := hE.at hk (fun h => h)
          generalize ws[i]'(by omega) = xi at hrs hwsi
          generalize kL[i]'(by omega) = ki at hrs hki
          generalize rndN i s kL ws = st at hrs h10
          have v0 : (wcs st.list)[0]? = some (U32 st.a) := rfl
          have v1 : (wcs st.list)[1]? = some (U32 st.b) := rfl
          have v2 : (wcs st.list)[2]? = some (U32 st.c) := rfl
          have v4 : (wcs st.list)[4]? = some (U32 st.e) := rfl
          have v5 : (wcs st.list)[5]? = some (U32 st.f) := rfl
          have v6 : (wcs st.list)[6]? = some (U32 st.g) := rfl
          have v7 : (wcs st.list)[7]? = some (U32 st.h) := rfl
          (refine W_at c28_ok ?_; refine ⟨_, rfl, ?_⟩; simp (disch := first | omega | assumption | rfl | (simp only [vcS] <;> omega) | fail) only [↓ptV_l, ↓vcA, vcB, ↓vcD, vcE, ↓reduceIte, Nat.reduceEqDiff, Nat.reduceAdd, Nat.reduceMul, Nat.reduceLeDiff, Int.reduceLE, Int.reduceLT, Int.reduceEq, Int.reduceToNat, Int.reduceAdd, Int.reduceSub, Int.reduceMul, Int.reduceNeg, reduceCtorEq, Option.bind_some, Option.map_some, List.length_cons, List.length_nil, vcM, List.getElem?_toArray, List.getElem?_cons_zero, List.getElem?_cons_succ, hlt])
          (refine W_at c28_ok ?_; refine ⟨_, rfl, ?_⟩; simp (disch := first | omega | assumption | rfl | (simp only [vcS] <;> omega) | fail) only [↓ptV_l, ↓vcA, vcB, ↓vcD, vcE, ↓reduceIte, Nat.reduceEqDiff, Nat.reduceAdd, Nat.reduceMul, Nat.reduceLeDiff, Int.reduceLE, Int.reduceLT, Int.reduceEq, Int.reduceToNat, Int.reduceAdd, Int.reduceSub, Int.reduceMul, Int.reduceNeg, reduceCtorEq, Option.bind_some, Option.map_some, List.length_cons, List.length_nil, vcM, List.getElem?_toArray, List.getElem?_cons_zero, List.getElem?_cons_succ])
          (refine W_at c28_ok ?_; refine ⟨_, rfl, ?_⟩; simp (disch := first | omega | assumption | rfl | (simp only [vcS] <;> omega) | fail) only [↓ptV_l, ↓vcA, vcB, ↓vcD, vcE, ↓reduceIte, Nat.reduceEqDiff, Nat.reduceAdd, Nat.reduceMul, Nat.reduceLeDiff, Int.reduceLE, Int.reduceLT, Int.reduceEq, Int.reduceToNat, Int.reduceAdd, Int.reduceSub, Int.reduceMul, Int.reduceNeg, reduceCtorEq, Option.bind_some, Option.map_some, List.length_cons, List.length_nil, vcM, List.getElem?_toArray, List.getElem?_cons_zero, List.getElem?_cons_succ, b1, Int.toNat_natCast, Nat.mul_one, Nat.zero_add, hwsi])
          (refine W_at c28_ok ?_; refine ⟨_, rfl, ?_⟩; simp (disch := first | omega | assumption | rfl | (simp only [vcS] <;> omega) | fail) only [↓ptV_l, ↓vcA, vcB, ↓vcD, vcE, ↓reduceIte, Nat.reduceEqDiff, Nat.reduceAdd, Nat.reduceMul, Nat.reduceLeDiff, Int.reduceLE, Int.reduceLT, Int.reduceEq, Int.reduceToNat, Int.reduceAdd, Int.reduceSub, Int.reduceMul, Int.reduceNeg, reduceCtorEq, Option.bind_some, Option.map_some, List.length_cons, List.length_nil, vcM, List.getElem?_toArray, List.getElem?_cons_zero, List.getElem?_cons_succ, h10, v4, v0])
          (refine W_at c28_ok ?_; refine ⟨_, rfl, ?_⟩; simp (disch := first | omega | assumption | rfl | (simp only [vcS] <;> omega) | fail) only [↓vcL1, ptS2_eq, ↓vcA, vcB, ↓vcD, vcE, ↓reduceIte, Nat.reduceEqDiff, Nat.reduceAdd, Nat.reduceMul, Nat.reduceLeDiff, Int.reduceLE, Int.reduceLT, Int.reduceEq, Int.reduceToNat, Int.reduceAdd, Int.reduceSub, Int.reduceMul, Int.reduceNeg, reduceCtorEq, Option.bind_some, Option.map_some, List.length_cons, List.length_nil, vcM, List.getElem?_toArray, List.getElem?_cons_zero, List.getElem?_cons_succ, h10, hkj, v4, v5, v6, v7, b1, Int.toNat_natCast, Nat.mul_one, Nat.zero_add, hki, U32_and, U32_xor, U32_not])
          have hEd : Ext wj wj.drew.drew := ((Keep.refl _ wj).drew).drew
          have h10d := hEd.at h10 (fun h => h)
          have hkd := hEd.at hkj (fun h => h)
          generalize wj.drew.drew = wd at hEd h10d hkd ⊢
          refine callV_ret (right_ok wd st.e 6 (by decide) (by decide)) ?_
          rintro _ wq ⟨rfl, hw⟩
          obtain rfl : wd = wq := hw.symm
          simp (disch := first | omega | assumption | rfl | (simp only [vcS] <;> omega) | fail) only [↓vcL2, ptS1_eq, ↓vcA, vcB, ↓vcD, vcE, ↓reduceIte, Nat.reduceEqDiff, Nat.reduceAdd, Nat.reduceMul, Nat.reduceLeDiff, Int.reduceLE, Int.reduceLT, Int.reduceEq, Int.reduceToNat, Int.reduceAdd, Int.reduceSub, Int.reduceMul, Int.reduceNeg, reduceCtorEq, Option.bind_some, Option.map_some, List.length_cons, List.length_nil, vcM, List.getElem?_toArray, List.getElem?_cons_zero, List.getElem?_cons_succ, h10d, hkd, v5, v6, v7, hki, U32_xor, U32_add]
          refine callV_ret (right_ok wd st.e 11 (by decide) (by decide)) ?_
          rintro _ wq ⟨rfl, hw⟩
          obtain rfl : wd = wq := hw.symm
          simp (disch := first | omega | assumption | rfl | (simp only [vcS] <;> omega) | fail) only [↓vcL1, ptS2_eq, ↓vcA, vcB, ↓vcD, vcE, ↓reduceIte, Nat.reduceEqDiff, Nat.reduceAdd, Nat.reduceMul, Nat.reduceLeDiff, Int.reduceLE, Int.reduceLT, Int.reduceEq, Int.reduceToNat, Int.reduceAdd, Int.reduceSub, Int.reduceMul, Int.reduceNeg, reduceCtorEq, Option.bind_some, Option.map_some, List.length_cons, List.length_nil, vcM, List.getElem?_toArray, List.getElem?_cons_zero, List.getElem?_cons_succ, h10d, hkd, v5, v6, v7, hki, U32_xor, U32_add]
          refine callV_ret (right_ok wd st.e 25 (by decide) (by decide)) ?_
          rintro _ wq ⟨rfl, hw⟩
          obtain rfl : wd = wq := hw.symm
          simp (disch := first | omega | assumption | rfl | (simp only [vcS] <;> omega) | fail) only [↓vcL2, ptS1_eq, ↓vcA, vcB, ↓vcD, vcE, ↓reduceIte, Nat.reduceEqDiff, Nat.reduceAdd, Nat.reduceMul, Nat.reduceLeDiff, Int.reduceLE, Int.reduceLT, Int.reduceEq, Int.reduceToNat, Int.reduceAdd, Int.reduceSub, Int.reduceMul, Int.reduceNeg, reduceCtorEq, Option.bind_some, Option.map_some, List.length_cons, List.length_nil, vcM, List.getElem?_toArray, List.getElem?_cons_zero, List.getElem?_cons_succ, h10d, hkd, v5, v6, v7, hki, U32_xor, U32_add]
          first | (simp (disch := first | omega | assumption | rfl | (simp only [vcS] <;> omega) | fail) only [↓vcL2, ptS1_eq, ↓vcA, vcB, ↓vcD, vcE, ↓reduceIte, Nat.reduceEqDiff, Nat.reduceAdd, Nat.reduceMul, Nat.reduceLeDiff, Int.reduceLE, Int.reduceLT, Int.reduceEq, Int.reduceToNat, Int.reduceAdd, Int.reduceSub, Int.reduceMul, Int.reduceNeg, reduceCtorEq, Option.bind_some, Option.map_some, List.length_cons, List.length_nil, vcM, List.getElem?_toArray, List.getElem?_cons_zero, List.getElem?_cons_succ, h10d, hkd, v5, v6, v7, hki, U32_xor, U32_add]) | skip
          have et : t1F st ki xi = st.h + (rotF 6 st.e ^^^ rotF 11 st.e ^^^ rotF 25 st.e) + (st.e &&& st.f ^^^ ~~~st.e &&& st.g) + ki + xi := rfl
          rw [← et]
          have eu : t2F st = (rotF 2 st.a ^^^ rotF 13 st.a ^^^ rotF 22 st.a) + (st.a &&& st.b ^^^ st.a &&& st.c ^^^ st.b &&& st.c) := rfl
          (refine W_at c28_ok ?_; refine ⟨_, rfl, ?_⟩; simp (disch := first | omega | assumption | rfl | (simp only [vcS] <;> omega) | fail) only [↓vcL1, ptS2_eq, ↓vcA, vcB, ↓vcD, vcE, ↓reduceIte, Nat.reduceEqDiff, Nat.reduceAdd, Nat.reduceMul, Nat.reduceLeDiff, Int.reduceLE, Int.reduceLT, Int.reduceEq, Int.reduceToNat, Int.reduceAdd, Int.reduceSub, Int.reduceMul, Int.reduceNeg, reduceCtorEq, Option.bind_some, Option.map_some, List.length_cons, List.length_nil, vcM, List.getElem?_toArray, List.getElem?_cons_zero, List.getElem?_cons_succ, h10d, v1, v2, U32_and, U32_xor])
          have hEd2 : Ext wd wd.drew := (Keep.refl _ wd).drew
          have h10e := hEd2.at h10d (fun h => h)
          generalize wd.drew = we at hEd2 h10e ⊢
          refine callV_ret (right_ok we st.a 2 (by decide) (by decide)) ?_
          rintro _ wq ⟨rfl, hw⟩
          obtain rfl : we = wq := hw.symm
          simp (disch := first | omega | assumption | rfl | (simp only [vcS] <;> omega) | fail) only [↓vcL2, ptS1_eq, ↓vcA, vcB, ↓vcD, vcE, ↓reduceIte, Nat.reduceEqDiff, Nat.reduceAdd, Nat.reduceMul, Nat.reduceLeDiff, Int.reduceLE, Int.reduceLT, Int.reduceEq, Int.reduceToNat, Int.reduceAdd, Int.reduceSub, Int.reduceMul, Int.reduceNeg, reduceCtorEq, Option.bind_some, Option.map_some, List.length_cons, List.length_nil, vcM, List.getElem?_toArray, List.getElem?_cons_zero, List.getElem?_cons_succ, h10e, v1, v2, U32_xor, U32_add]
          refine callV_ret (right_ok we st.a 13 (by decide) (by decide)) ?_
          rintro _ wq ⟨rfl, hw⟩
          obtain rfl : we = wq := hw.symm
          simp (disch := first | omega | assumption | rfl | (simp only [vcS] <;> omega) | fail) only [↓vcL1, ptS2_eq, ↓vcA, vcB, ↓vcD, vcE, ↓reduceIte, Nat.reduceEqDiff, Nat.reduceAdd, Nat.reduceMul, Nat.reduceLeDiff, Int.reduceLE, Int.reduceLT, Int.reduceEq, Int.reduceToNat, Int.reduceAdd, Int.reduceSub, Int.reduceMul, Int.reduceNeg, reduceCtorEq, Option.bind_some, Option.map_some, List.length_cons, List.length_nil, vcM, List.getElem?_toArray, List.getElem?_cons_zero, List.getElem?_cons_succ, h10e, v1, v2, U32_xor, U32_add]
          refine callV_ret (right_ok we st.a 22 (by decide) (by decide)) ?_
          rintro _ wq ⟨rfl, hw⟩
          obtain rfl : we = wq := hw.symm
          simp (disch := first | omega | assumption | rfl | (simp only [vcS] <;> omega) | fail) only [↓vcL2, ptS1_eq, ↓vcA, vcB, ↓vcD, vcE, ↓reduceIte, Nat.reduceEqDiff, Nat.reduceAdd, Nat.reduceMul, Nat.reduceLeDiff, Int.reduceLE, Int.reduceLT, Int.reduceEq, Int.reduceToNat, Int.reduceAdd, Int.reduceSub, Int.reduceMul, Int.reduceNeg, reduceCtorEq, Option.bind_some, Option.map_some, List.length_cons, List.length_nil, vcM, List.getElem?_toArray, List.getElem?_cons_zero, List.getElem?_cons_succ, h10e, v1, v2, U32_xor, U32_add]
          rw [← eu]
          unfold rnd at hrs
          generalize t1F st ki xi = tt at hrs ⊢
          generalize t2F st = uu at hrs ⊢
          (refine W_at c28_ok ?_; refine ⟨_, rfl, ?_⟩; simp (disch := first | omega | assumption | rfl | (simp only [vcS] <;> omega) | fail) only [↓ptV_l, ↓vcA, vcB, ↓vcD, vcE, ↓reduceIte, Nat.reduceEqDiff, Nat.reduceAdd, Nat.reduceMul, Nat.reduceLeDiff, Int.reduceLE, Int.reduceLT, Int.reduceEq, Int.reduceToNat, Int.reduceAdd, Int.reduceSub, Int.reduceMul, Int.reduceNeg, reduceCtorEq, Option.bind_some, Option.map_some, List.length_cons, List.length_nil, vcM, List.getElem?_toArray, List.getElem?_cons_zero, List.getElem?_cons_succ])
          have h10f : we.drew.heap[p10]? = some (.cells (wcs st.list) 29 (0, 0)) := h10e
          have hEf : Ext w we.drew := ((hE.ext hEd).ext hEd2).drew
          generalize we.drew = wf at h10f hEf ⊢
          have hrds : rdS wf 1 (.slice (some ⟨p10, 0, none⟩) 7 8) = some ((wcs st.list).extract 0 (0 + 7)) := by
            simp only [rdS]
            rw [if_neg (by omega), rdN_heap, h10f, rdO_some _ _ _ _ _ (by rw [wcs_size]; simp [S8.list])]
          show cpyV 1 (.slice (some ⟨p10, 1, none⟩) 7 7) (.slice (some ⟨p10, 0, none⟩) 7 8) wf _
          unfold cpyV
          show getV (rdS wf 1 (.slice (some ⟨p10, 0, none⟩) 7 8)) _
          rw [hrds, getV_some]
          have hnews : (wcs st.list).extract 0 (0 + 7) = #[U32 st.a, U32 st.b, U32 st.c, U32 st.d, U32 st.e, U32 st.f, U32 st.g] := rfl
          rw [hnews]
          refine ⟨?_, fun h => absurd h (by decide), fun _ => ⟨p10, 1, rfl, okN_of h10f (by rw [wcs_size]; simp [S8.list]), ?_⟩⟩
          · intro y hy
            simp at hy
            rcases hy with rfl | rfl | rfl | rfl | rfl | rfl | rfl <;> rfl
          have h10g : (wf.putN p10 1 #[U32 st.a, U32 st.b, U32 st.c, U32 st.d, U32 st.e, U32 st.f, U32 st.g]).heap[p10]? = some (.cells #[U32 st.a, U32 st.a, U32 st.b, U32 st.c, U32 st.d, U32 st.e, U32 st.f, U32 st.g] 29 (0, 0)) := by
            rw [heap_putN_eq h10f]; rfl
          have hp10l : w.heap.size ≤ p10 := by omega
          have hEg : Ext w (wf.putN p10 1 #[U32 st.a, U32 st.b, U32 st.c, U32 st.d, U32 st.e, U32 st.f, U32 st.g]) := hEf.trans ((Keep.refl _ wf).putN (S := fun x => x = p10) _ fun _ => rfl) fun x hx e => by omega
          generalize World.putN _ _ _ _ = wg at h10g hEg ⊢
          (refine W_at c28_ok ?_; refine ⟨_, rfl, ?_⟩; simp (disch := first | omega | assumption | rfl | (simp only [vcS] <;> omega) | fail) only [↓ptV_l, ↓vcA, vcB, ↓vcD, vcE, ↓reduceIte, Nat.reduceEqDiff, Nat.reduceAdd, Nat.reduceMul, Nat.reduceLeDiff, Int.reduceLE, Int.reduceLT, Int.reduceEq, Int.reduceToNat, Int.reduceAdd, Int.reduceSub, Int.reduceMul, Int.reduceNeg, reduceCtorEq, Option.bind_some, Option.map_some, List.length_cons, List.length_nil, vcM, List.getElem?_toArray, List.getElem?_cons_zero, List.getElem?_cons_succ, h10g, U32_add])
          refine ⟨rfl, wr1_of h10g (by simp), ?_⟩
          have h10h : (wg.setCell ⟨p10, 4, none⟩ (U32 (st.d + tt))).heap[p10]? = some (.cells #[U32 st.a, U32 st.a, U32 st.b, U32 st.c, U32 (st.d + tt), U32 st.e, U32 st.f, U32 st.g] 29 (0, 0)) := by
            rw [heap_setCell_eq h10g]; rfl
          have hEh : Ext w (wg.setCell ⟨p10, 4, none⟩ (U32 (st.d + tt))) := hEg.trans ((Keep.refl _ wg).setCell (S := fun x => x = p10) _ fun _ => rfl) fun x hx e => by omega
          generalize World.setCell _ _ _ = wh at h10h hEh ⊢
          (refine W_at c28_ok ?_; refine ⟨_, rfl, ?_⟩; simp (disch := first | omega | assumption | rfl | (simp only [vcS] <;> omega) | fail) only [↓ptV_l, ↓vcA, vcB, ↓vcD, vcE, ↓reduceIte, Nat.reduceEqDiff, Nat.reduceAdd, Nat.reduceMul, Nat.reduceLeDiff, Int.reduceLE, Int.reduceLT, Int.reduceEq, Int.reduceToNat, Int.reduceAdd, Int.reduceSub, Int.reduceMul, Int.reduceNeg, reduceCtorEq, Option.bind_some, Option.map_some, List.length_cons, List.length_nil, vcM, List.getElem?_toArray, List.getElem?_cons_zero, List.getElem?_cons_succ, U32_add])
          refine ⟨rfl, wr1_of h10h (by simp), ?_⟩
          have h10i : (wh.setCell ⟨p10, 0, none⟩ (U32 (tt + uu))).heap[p10]? = some (.cells (wcs (rndN (i + 1) s kL ws).list) 29 (0, 0)) := by
            rw [heap_setCell_eq h10h, hrs]; rfl
          have hEi : Ext w (wh.setCell ⟨p10, 0, none⟩ (U32 (tt + uu))) := hEh.trans ((Keep.refl _ wh).setCell (S := fun x => x = p10) _ fun _ => rfl) fun x hx e => by omega
          generalize World.setCell _ _ _ = wi at h10i hEi ⊢
          (refine W_at c28_ok ?_; refine ⟨_, rfl, ?_⟩; simp (disch := first | omega | assumption | rfl | (simp only [vcS] <;> omega) | fail) only [↓ptV_l, ↓vcA, vcB, ↓vcD, vcE, ↓reduceIte, Nat.reduceEqDiff, Nat.reduceAdd, Nat.reduceMul, Nat.reduceLeDiff, Int.reduceLE, Int.reduceLT, Int.reduceEq, Int.reduceToNat, Int.reduceAdd, Int.reduceSub, Int.reduceMul, Int.reduceNeg, reduceCtorEq, Option.bind_some, Option.map_some, List.length_cons, List.length_nil, vcM, List.getElem?_toArray, List.getElem?_cons_zero, List.getElem?_cons_succ, hwi])
          (refine W_at c28_ok ?_; refine ⟨_, rfl, ?_⟩; simp (disch := first | omega | assumption | rfl | (simp only [vcS] <;> omega) | fail) only [↓ptV_l, ↓vcA, vcB, ↓vcD, vcE, ↓reduceIte, Nat.reduceEqDiff, Nat.reduceAdd, Nat.reduceMul, Nat.reduceLeDiff, Int.reduceLE, Int.reduceLT, Int.reduceEq, Int.reduceToNat, Int.reduceAdd, Int.reduceSub, Int.reduceMul, Int.reduceNeg, reduceCtorEq, Option.bind_some, Option.map_some, List.length_cons, List.length_nil, vcM, List.getElem?_toArray, List.getElem?_cons_zero, List.getElem?_cons_succ])
          exact ih (i + 1) wi (by omega) h10i hEi
      exact L2 64 0 wa (by omega) hp10 hEa
    | succ k ih =>
      intro i wj hi h6 hE
      have hlt : ((i : Nat) : Int) < 64 := by omega
      have b1 : 0 ≤ ((i : Nat) : Int) ∧ ((i : Nat) : Int) < 64 := by omega
      have hwi : IntKind.i64.wrap (((i : Nat) : Int) + 1) = ((i + 1 : Nat) : Int) := wrap_i64 (by omega) (by omega)
      have fin : ∀ (wz : World) (y : BitVec 32), ws[i]? = some y → wz.heap[p6]? = some (.cells (arrW ws i) 60 (0, 0)) → Ext w wz →
          W Try.prog (Ret fun _ w' => w'.heap[g]? = some (.cells (((compF s blk).list.map U32 ++ rest).toArray) T (0, 0)) ∧ Keep (fun y => y = g) w w') 28 22 [(0, .pointer (some ⟨g, 0, none⟩)), (1, .pointer (some ⟨pk, 0, none⟩)), (2, x), (6, .pointer (some ⟨p6, 0, none⟩)), (18, .int .i64 (i : Nat))] (wz.setCell ⟨p6, i, none⟩ (U32 y)) := by
        intro wz y hy h6z hEz
        have h6y : (wz.setCell ⟨p6, i, none⟩ (U32 y)).heap[p6]? = some (.cells (arrW ws (i + 1)) 60 (0, 0)) := by rw [heap_setCell_eq h6z, arrW_set ws i y hws (by omega) hy]
        have hEy : Ext w (wz.setCell ⟨p6, i, none⟩ (U32 y)) := hEz.trans ((Keep.refl _ wz).setCell (S := fun x => x = p6) _ fun _ => rfl) fun x hx e => by omega
        generalize World.setCell _ _ _ = wy at h6y hEy ⊢
        (refine W_at c28_ok ?_; refine ⟨_, rfl, ?_⟩; simp (disch := first | omega | assumption | rfl | (simp only [vcS] <;> omega) | fail) only [↓ptV_l, ↓vcA, vcB, ↓vcD, vcE, ↓reduceIte, Nat.reduceEqDiff, Nat.reduceAdd, Nat.reduceMul, Nat.reduceLeDiff, Int.reduceLE, Int.reduceLT, Int.reduceEq, Int.reduceToNat, Int.reduceAdd, Int.reduceSub, Int.reduceMul, Int.reduceNeg, reduceCtorEq, Option.bind_some, Option.map_some, List.length_cons, List.length_nil, vcM, List.getElem?_toArray, List.getElem?_cons_zero, List.getElem?_cons_succ, hwi])
        (refine W_at c28_ok ?_; refine ⟨_, rfl, ?_⟩; simp (disch := first | omega | assumption | rfl | (simp only [vcS] <;> omega) | fail) only [↓ptV_l, ↓vcA, vcB, ↓vcD, vcE, ↓reduceIte, Nat.reduceEqDiff, Nat.reduceAdd, Nat.reduceMul, Nat.reduceLeDiff, Int.reduceLE, Int.reduceLT, Int.reduceEq, Int.reduceToNat, Int.reduceAdd, Int.reduceSub, Int.reduceMul, Int.reduceNeg, reduceCtorEq, Option.bind_some, Option.map_some, List.length_cons, List.length_nil, vcM, List.getElem?_toArray, List.getElem?_cons_zero, List.getElem?_cons_succ])
        exact ih (i + 1) wy (by omega) h6y hEy
      have hsz := arrW_size ws i hws (by omega)
      (refine W_at c28_ok ?_; refine ⟨_, rfl, ?_⟩; simp (disch := first | omega | assumption | rfl | (simp only [vcS] <;> omega) | fail) only [↓ptV_l, ↓vcA, vcB, ↓vcD, vcE, ↓reduceIte, Nat.reduceEqDiff, Nat.reduceAdd, Nat.reduceMul, Nat.reduceLeDiff, Int.reduceLE, Int.reduceLT, Int.reduceEq, Int.reduceToNat, Int.reduceAdd, Int.reduceSub, Int.reduceMul, Int.reduceNeg, reduceCtorEq, Option.bind_some, Option.map_some, List.length_cons, List.length_nil, vcM, List.getElem?_toArray, List.getElem?_cons_zero, List.getElem?_cons_succ, hlt])
      (refine W_at c28_ok ?_; refine ⟨_, rfl, ?_⟩; simp (disch := first | omega | assumption | rfl | (simp only [vcS] <;> omega) | fail) only [↓ptV_l, ↓vcA, vcB, ↓vcD, vcE, ↓reduceIte, Nat.reduceEqDiff, Nat.reduceAdd, Nat.reduceMul, Nat.reduceLeDiff, Int.reduceLE, Int.reduceLT, Int.reduceEq, Int.reduceToNat, Int.reduceAdd, Int.reduceSub, Int.reduceMul, Int.reduceNeg, reduceCtorEq, Option.bind_some, Option.map_some, List.length_cons, List.length_nil, vcM, List.getElem?_toArray, List.getElem?_cons_zero, List.getElem?_cons_succ])
      (refine W_at c28_ok ?_; refine ⟨_, rfl, ?_⟩; simp (disch := first | omega | assumption | rfl | (simp only [vcS] <;> omega) | fail) only [↓ptV_l, ↓vcA, vcB, ↓vcD, vcE, ↓reduceIte, Nat.reduceEqDiff, Nat.reduceAdd, Nat.reduceMul, Nat.reduceLeDiff, Int.reduceLE, Int.reduceLT, Int.reduceEq, Int.reduceToNat, Int.reduceAdd, Int.reduceSub, Int.reduceMul, Int.reduceNeg, reduceCtorEq, Option.bind_some, Option.map_some, List.length_cons, List.length_nil, vcM, List.getElem?_toArray, List.getElem?_cons_zero, List.getElem?_cons_succ])
      by_cases h16 : i < 16
      · have h16' : ((i : Nat) : Int) < 16 := by omega
        have w0 : IntKind.i64.wrap (4 * ((i : Nat) : Int)) = ((4 * i : Nat) : Int) := by rw [wrap_i64 (by omega) (by omega)]; omega
        have w1 : IntKind.i64.wrap (((4 * i : Nat) : Int) + 1) = ((4 * i + 1 : Nat) : Int) := by rw [wrap_i64 (by omega) (by omega)]; omega
        have w2 : IntKind.i64.wrap (((4 * i : Nat) : Int) + 2) = ((4 * i + 2 : Nat) : Int) := by rw [wrap_i64 (by omega) (by omega)]; omega
        have w3 : IntKind.i64.wrap (((4 * i : Nat) : Int) + 3) = ((4 * i + 3 : Nat) : Int) := by rw [wrap_i64 (by omega) (by omega)]; omega
        obtain ⟨bb, oo, cc, ex, c0, r0⟩ := rd_byte (hx.ext hE) hb (i := 4 * i) (by omega)
        obtain ⟨bb1, oo1, cc1, ex1, c1, r1⟩ := rd_byte (hx.ext hE) hb (i := 4 * i + 1) (by omega)
        obtain ⟨bb2, oo2, cc2, ex2, c2, r2⟩ := rd_byte (hx.ext hE) hb (i := 4 * i + 2) (by omega)
        obtain ⟨bb3, oo3, cc3, ex3, c3, r3⟩ := rd_byte (hx.ext hE) hb (i := 4 * i + 3) (by omega)
        rw [ex] at ex1 ex2 ex3
        cases ex1; cases ex2; cases ex3
        subst ex
        rw [hl] at *
        have i0 : 0 ≤ ((4 * i : Nat) : Int) ∧ ((4 * i : Nat) : Int) < 64 := by omega
        have i1 : 0 ≤ ((4 * i + 1 : Nat) : Int) ∧ ((4 * i + 1 : Nat) : Int) < 64 := by omega
        have i2 : 0 ≤ ((4 * i + 2 : Nat) : Int) ∧ ((4 * i + 2 : Nat) : Int) < 64 := by omega
        have i3 : 0 ≤ ((4 * i + 3 : Nat) : Int) ∧ ((4 * i + 3 : Nat) : Int) < 64 := by omega
        have hy := ws_16 blk i h16
        rw [hwsd] at hy
        have v0 := b32_of r0
        have v1 := b32_of r1
        have v2 := b32_of r2
        have v3 := b32_of r3
        (refine W_at c28_ok ?_; refine ⟨_, rfl, ?_⟩; simp (disch := first | omega | assumption | rfl | (simp only [vcS] <;> omega) | fail) only [↓ptV_l, ↓vcA, vcB, ↓vcD, vcE, ↓reduceIte, Nat.reduceEqDiff, Nat.reduceAdd, Nat.reduceMul, Nat.reduceLeDiff, Int.reduceLE, Int.reduceLT, Int.reduceEq, Int.reduceToNat, Int.reduceAdd, Int.reduceSub, Int.reduceMul, Int.reduceNeg, reduceCtorEq, Option.bind_some, Option.map_some, List.length_cons, List.length_nil, vcM, List.getElem?_toArray, List.getElem?_cons_zero, List.getElem?_cons_succ, h16'])
        (refine W_at c28_ok ?_; refine ⟨_, rfl, ?_⟩; simp (disch := first | omega | assumption | rfl | (simp only [vcS] <;> omega) | fail) only [↓ptV_l, ↓vcA, vcB, ↓vcD, vcE, ↓reduceIte, Nat.reduceEqDiff, Nat.reduceAdd, Nat.reduceMul, Nat.reduceLeDiff, Int.reduceLE, Int.reduceLT, Int.reduceEq, Int.reduceToNat, Int.reduceAdd, Int.reduceSub, Int.reduceMul, Int.reduceNeg, reduceCtorEq, Option.bind_some, Option.map_some, List.length_cons, List.length_nil, vcM, List.getElem?_toArray, List.getElem?_cons_zero, List.getElem?_cons_succ])
        (refine W_at c28_ok ?_; refine ⟨_, rfl, ?_⟩; simp (disch := first | omega | assumption | rfl | (simp only [vcS] <;> omega) | fail) only [↓ptV_l, ↓vcA, vcB, ↓vcD, vcE, ↓reduceIte, Nat.reduceEqDiff, Nat.reduceAdd, Nat.reduceMul, Nat.reduceLeDiff, Int.reduceLE, Int.reduceLT, Int.reduceEq, Int.reduceToNat, Int.reduceAdd, Int.reduceSub, Int.reduceMul, Int.reduceNeg, reduceCtorEq, Option.bind_some, Option.map_some, List.length_cons, List.length_nil, vcM, List.getElem?_toArray, List.getElem?_cons_zero, List.getElem?_cons_succ, w0, w1, w2, w3, i0, i1, i2, i3, b1, Int.toNat_natCast, Nat.mul_one, Nat.zero_add, c0, c1, c2, c3, v0, v1, v2, v3, U32_shl24, U32_shl16, U32_shl8, U32_or])
        exact ⟨rfl, wr1_of (show wj.drew.heap[p6]? = _ from h6) (by rw [hsz]; omega), fin wj.drew _ hy h6 hE.drew⟩
      · have h16' : ¬ ((i : Nat) : Int) < 16 := by omega
        have hy := ws_rec blk i (by omega) (by omega)
        rw [hwsd] at hy
        have hnx : nxtW (ws.take i) = ws.getD (i - 16) 0 + ws.getD (i - 7) 0 + sg0 (ws.getD (i - 15) 0) + sg1 (ws.getD (i - 2) 0) := by
          have hlt : (ws.take i).length = i := by rw [List.length_take]; omega
          have hg : ∀ k, k < i → (ws.take i).getD k 0 = ws.getD k 0 := fun k hk => by simp [List.getD, List.getElem?_take_of_lt hk]
          unfold nxtW
          rw [hlt, hg _ (by omega), hg _ (by omega), hg _ (by omega), hg _ (by omega)]
        rw [hnx] at hy
        have s15 : IntKind.i64.wrap (((i : Nat) : Int) - 15) = ((i - 15 : Nat) : Int) := by rw [wrap_i64 (by omega) (by omega)]; omega
        have s2 : IntKind.i64.wrap (((i : Nat) : Int) - 2) = ((i - 2 : Nat) : Int) := by rw [wrap_i64 (by omega) (by omega)]; omega
        have s16 : IntKind.i64.wrap (((i : Nat) : Int) - 16) = ((i - 16 : Nat) : Int) := by rw [wrap_i64 (by omega) (by omega)]; omega
        have s7 : IntKind.i64.wrap (((i : Nat) : Int) - 7) = ((i - 7 : Nat) : Int) := by rw [wrap_i64 (by omega) (by omega)]; omega
        have i15 : 0 ≤ ((i - 15 : Nat) : Int) ∧ ((i - 15 : Nat) : Int) < 64 := by omega
        have i2 : 0 ≤ ((i - 2 : Nat) : Int) ∧ ((i - 2 : Nat) : Int) < 64 := by omega
        have i16 : 0 ≤ ((i - 16 : Nat) : Int) ∧ ((i - 16 : Nat) : Int) < 64 := by omega
        have i7 : 0 ≤ ((i - 7 : Nat) : Int) ∧ ((i - 7 : Nat) : Int) < 64 := by omega
        have a15 := arrW_at ws i (i - 15) hws (by omega) (by omega)
        have a2 := arrW_at ws i (i - 2) hws (by omega) (by omega)
        have a16 := arrW_at ws i (i - 16) hws (by omega) (by omega)
        have a7 := arrW_at ws i (i - 7) hws (by omega) (by omega)
        generalize ws.getD (i - 15) 0 = x15 at hy a15
        generalize ws.getD (i - 2) 0 = x2 at hy a2
        generalize ws.getD (i - 16) 0 = x16 at hy a16
        generalize ws.getD (i - 7) 0 = x7 at hy a7
        have hEd : Ext wj wj.drew := (Keep.refl _ wj).drew
        have h6d : wj.drew.heap[p6]? = some (.cells (arrW ws i) 60 (0, 0)) := h6
        (refine W_at c28_ok ?_; refine ⟨_, rfl, ?_⟩; simp (disch := first | omega | assumption | rfl | (simp only [vcS] <;> omega) | fail) only [↓ptV_l, ↓vcA, vcB, ↓vcD, vcE, ↓reduceIte, Nat.reduceEqDiff, Nat.reduceAdd, Nat.reduceMul, Nat.reduceLeDiff, Int.reduceLE, Int.reduceLT, Int.reduceEq, Int.reduceToNat, Int.reduceAdd, Int.reduceSub, Int.reduceMul, Int.reduceNeg, reduceCtorEq, Option.bind_some, Option.map_some, List.length_cons, List.length_nil, vcM, List.getElem?_toArray, List.getElem?_cons_zero, List.getElem?_cons_succ, h16'])
        (refine W_at c28_ok ?_; refine ⟨_, rfl, ?_⟩; simp (disch := first | omega | assumption | rfl | (simp only [vcS] <;> omega) | fail) only [↓ptV_l, ↓vcA, vcB, ↓vcD, vcE, ↓reduceIte, Nat.reduceEqDiff, Nat.reduceAdd, Nat.reduceMul, Nat.reduceLeDiff, Int.reduceLE, Int.reduceLT, Int.reduceEq, Int.reduceToNat, Int.reduceAdd, Int.reduceSub, Int.reduceMul, Int.reduceNeg, reduceCtorEq, Option.bind_some, Option.map_some, List.length_cons, List.length_nil, vcM, List.getElem?_toArray, List.getElem?_cons_zero, List.getElem?_cons_succ])
        (refine W_at c28_ok ?_; refine ⟨_, rfl, ?_⟩; simp (disch := first | omega | assumption | rfl | (simp only [vcS] <;> omega) | fail) only [↓ptV_l, ↓vcA, vcB, ↓vcD, vcE, ↓reduceIte, Nat.reduceEqDiff, Nat.reduceAdd, Nat.reduceMul, Nat.reduceLeDiff, Int.reduceLE, Int.reduceLT, Int.reduceEq, Int.reduceToNat, Int.reduceAdd, Int.reduceSub, Int.reduceMul, Int.reduceNeg, reduceCtorEq, Option.bind_some, Option.map_some, List.length_cons, List.length_nil, vcM, List.getElem?_toArray, List.getElem?_cons_zero, List.getElem?_cons_succ, h6, s15, s2, i15, i2, Int.toNat_natCast, Nat.mul_one, Nat.zero_add, a15, a2])
        (refine W_at c28_ok ?_; refine ⟨_, rfl, ?_⟩; simp (disch := first | omega | assumption | rfl | (simp only [vcS] <;> omega) | fail) only [↓vcL1, ptS2_eq, ↓vcA, vcB, ↓vcD, vcE, ↓reduceIte, Nat.reduceEqDiff, Nat.reduceAdd, Nat.reduceMul, Nat.reduceLeDiff, Int.reduceLE, Int.reduceLT, Int.reduceEq, Int.reduceToNat, Int.reduceAdd, Int.reduceSub, Int.reduceMul, Int.reduceNeg, reduceCtorEq, Option.bind_some, Option.map_some, List.length_cons, List.length_nil, vcM, List.getElem?_toArray, List.getElem?_cons_zero, List.getElem?_cons_succ, h6, s16, s7, i16, i7, b1, Int.toNat_natCast, Nat.mul_one, Nat.zero_add, a16, a7, U32_shr3, U32_shr10, U32_add])
        have hEdd : Ext wj wj.drew.drew := hEd.drew
        have h6dd : wj.drew.drew.heap[p6]? = some (.cells (arrW ws i) 60 (0, 0)) := h6
        generalize wj.drew.drew = wd at hEdd h6dd ⊢
        refine callV_ret (right_ok wd x15 7 (by decide) (by decide)) ?_
        rintro _ wq ⟨rfl, hw⟩
        obtain rfl : wd = wq := hw.symm
        simp (disch := first | omega | assumption | rfl | (simp only [vcS] <;> omega) | fail) only [↓vcL2, ptS1_eq, ↓vcA, vcB, ↓vcD, vcE, ↓reduceIte, Nat.reduceEqDiff, Nat.reduceAdd, Nat.reduceMul, Nat.reduceLeDiff, Int.reduceLE, Int.reduceLT, Int.reduceEq, Int.reduceToNat, Int.reduceAdd, Int.reduceSub, Int.reduceMul, Int.reduceNeg, reduceCtorEq, Option.bind_some, Option.map_some, List.length_cons, List.length_nil, vcM, List.getElem?_toArray, List.getElem?_cons_zero, List.getElem?_cons_succ, h6dd, a16, a7]
        refine callV_ret (right_ok wd x15 18 (by decide) (by decide)) ?_
        rintro _ wq ⟨rfl, hw⟩
        obtain rfl : wd = wq := hw.symm
        simp (disch := first | omega | assumption | rfl | (simp only [vcS] <;> omega) | fail) only [↓vcL1, ptS2_eq, ↓vcA, vcB, ↓vcD, vcE, ↓reduceIte, Nat.reduceEqDiff, Nat.reduceAdd, Nat.reduceMul, Nat.reduceLeDiff, Int.reduceLE, Int.reduceLT, Int.reduceEq, Int.reduceToNat, Int.reduceAdd, Int.reduceSub, Int.reduceMul, Int.reduceNeg, reduceCtorEq, Option.bind_some, Option.map_some, List.length_cons, List.length_nil, vcM, List.getElem?_toArray, List.getElem?_cons_zero, List.getElem?_cons_succ, h6dd, a16, a7, U32_xor, U32_add]
        refine callV_ret (right_ok wd x2 17 (by decide) (by decide)) ?_
        rintro _ wq ⟨rfl, hw⟩
        obtain rfl : wd = wq := hw.symm
        simp (disch := first | omega | assumption | rfl | (simp only [vcS] <;> omega) | fail) only [↓vcL2, ptS1_eq, ↓vcA, vcB, ↓vcD, vcE, ↓reduceIte, Nat.reduceEqDiff, Nat.reduceAdd, Nat.reduceMul, Nat.reduceLeDiff, Int.reduceLE, Int.reduceLT, Int.reduceEq, Int.reduceToNat, Int.reduceAdd, Int.reduceSub, Int.reduceMul, Int.reduceNeg, reduceCtorEq, Option.bind_some, Option.map_some, List.length_cons, List.length_nil, vcM, List.getElem?_toArray, List.getElem?_cons_zero, List.getElem?_cons_succ, h6dd, a16, a7]
        refine callV_ret (right_ok wd x2 19 (by decide) (by decide)) ?_
        rintro _ wq ⟨rfl, hw⟩
        obtain rfl : wd = wq := hw.symm
        simp (disch := first | omega | assumption | rfl | (simp only [vcS] <;> omega) | fail) only [↓vcL1, ptS2_eq, ↓vcA, vcB, ↓vcD, vcE, ↓reduceIte, Nat.reduceEqDiff, Nat.reduceAdd, Nat.reduceMul, Nat.reduceLeDiff, Int.reduceLE, Int.reduceLT, Int.reduceEq, Int.reduceToNat, Int.reduceAdd, Int.reduceSub, Int.reduceMul, Int.reduceNeg, reduceCtorEq, Option.bind_some, Option.map_some, List.length_cons, List.length_nil, vcM, List.getElem?_toArray, List.getElem?_cons_zero, List.getElem?_cons_succ, h6dd, a16, a7, U32_xor, U32_add, b1, Int.toNat_natCast, Nat.mul_one, Nat.zero_add]
        exact ⟨rfl, wr1_of h6dd (by rw [hsz]; omega), fin wd _ hy h6dd (hE.ext hEdd)⟩
  exact L1 64 0 w1 (by omega) hp6 hE0
end Go.Proofs
