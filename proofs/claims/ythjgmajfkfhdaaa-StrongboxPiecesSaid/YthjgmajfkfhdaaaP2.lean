/- A digest out of its text. -/
import Derived.Test.YthjgmajfkfhdaaaP1
set_option linter.unusedSimpArgs false
set_option linter.unusedVariables false
set_option linter.constructorNameAsVariable false
namespace Go.Proofs
open Go.Vc
set_option maxRecDepth 10000

theorem place_dg {n : Int} (h : 0 ≤ n ∧ n < 16) : placeF (dgF n) digL 0 = n := by
  have h2 : ∀ k : Fin 16, placeF (dgF (k.val : Nat)) digL 0 = (k.val : Nat) := by decide +kernel
  obtain ⟨m, rfl⟩ : ∃ m : Nat, n = (m : Int) := ⟨n.toNat, by omega⟩
  exact h2 ⟨m, by omega⟩
theorem shl4 {a : Int} (h : 0 ≤ a ∧ a < 16) : binR .shl (.int .i64 a) (.int .u64 4) = some (.int .i64 (a * 16)) := by
  rw [bin_shl, if_pos (by omega)]
  congr 2
  show IntKind.i64.wrap (a * 2 ^ Nat.min (4 : Int).toNat 64) = _
  have e : Nat.min (4 : Int).toNat 64 = 4 := rfl
  rw [e, wrap_i64 (by omega) (by omega)]
  omega
theorem or16 {a b : Int} (ha : 0 ≤ a ∧ a < 16) (hb : 0 ≤ b ∧ b < 16) : binR .or (.int .i64 (a * 16)) (.int .i64 b) = some (.int .i64 (a * 16 + b)) := by
  have h2 : ∀ x y : Fin 16, IntKind.i64.wrap ((BitVec.ofInt IntKind.i64.bits (((x.val : Nat) : Int) * 16) ||| BitVec.ofInt IntKind.i64.bits ((y.val : Nat) : Int)).toNat : Int) = ((x.val : Nat) : Int) * 16 + ((y.val : Nat) : Int) := by decide +kernel
  obtain ⟨m, rfl⟩ : ∃ m : Nat, a = (m : Int) := ⟨a.toNat, by omega⟩
  obtain ⟨k, rfl⟩ : ∃ m : Nat, b = (m : Int) := ⟨b.toNat, by omega⟩
  rw [bin_or]
  have := h2 ⟨m, by omega⟩ ⟨k, by omega⟩
  simp only at this
  rw [this]
theorem idx_str {bs : List Int} (hb : byt bs) {i : Nat} (hi : i < bs.length) : idxSR (.string (strOf bs)) (.int .i64 (i : Nat)) = some (.int .u8 bs[i]) := by
  rw [idxS_s, if_pos (by omega), Int.toNat_natCast, str_get hi]
  have := hb _ (List.getElem_mem hi)
  simp only [Option.map_some, UInt8.toNat_ofNat']
  congr 2
  omega
theorem htext_len (h : List Int) : (htext h).length = 2 * h.length := by
  unfold htext
  have e : ∀ l : List Int, (l.flatMap hex2).length = 2 * l.length := by
    intro l
    induction l with
    | nil => rfl
    | cons x l ih => rw [List.flatMap_cons, List.length_append, ih]; simp [hex2]; omega
  rw [e, List.length_reverse]
theorem flat_hex : ∀ (l : List Int) (i : Nat) (h : i < l.length), (l.flatMap hex2)[2 * i]? = some (dgF (l[i] / 16)) ∧ (l.flatMap hex2)[2 * i + 1]? = some (dgF (l[i] % 16))
  | x :: l, 0, _ => ⟨rfl, rfl⟩
  | x :: l, i + 1, h => by
    have ih := flat_hex l i (by simpa using h)
    have e : (x :: l).flatMap hex2 = dgF (x / 16) :: dgF (x % 16) :: l.flatMap hex2 := rfl
    rw [e, show 2 * (i + 1) = 2 * i + 2 by omega, show 2 * i + 2 + 1 = 2 * i + 1 + 2 by omega]
    exact ih
theorem htext_at {h : List Int} (hl : h.length = 32) {i : Nat} (hi : i < 32) : (htext h)[2 * i]? = some (dgF (h[31 - i]'(by omega) / 16)) ∧ (htext h)[2 * i + 1]? = some (dgF (h[31 - i]'(by omega) % 16)) := by
  have := flat_hex h.reverse i (by rw [List.length_reverse]; omega)
  unfold htext
  rw [List.getElem_reverse] at this
  have e : h.length - 1 - i = 31 - i := by omega
  simp only [e] at this
  exact this
/-- The digest so far. -/
def backT (h : List Int) (i : Nat) : List Int := List.replicate (32 - i) 0 ++ h.drop (32 - i)
theorem backT_len {h : List Int} (hl : h.length = 32) (i : Nat) (hi : i ≤ 32) : (backT h i).length = 32 := by simp only [backT, List.length_append, List.length_replicate, List.length_drop]; omega
theorem backT_set {h : List Int} (hl : h.length = 32) {i : Nat} (hi : i < 32) : (backT h i).set (31 - i) (h[31 - i]'(by omega)) = backT h (i + 1) := by
  unfold backT
  have e1 : 32 - i = (31 - i) + 1 := by omega
  have e2 : 32 - (i + 1) = 31 - i := by omega
  rw [e1, e2, List.replicate_succ', List.append_assoc, List.set_append_right _ _ (by rw [List.length_replicate]; exact Nat.le_refl _), List.length_replicate, Nat.sub_self, List.singleton_append, List.set_cons_zero]
  congr 1
  rw [← List.drop_eq_getElem_cons (by omega)]
set_option maxHeartbeats 1600000 in
theorem fromText_ok (w : World) (h : List Int) (hb : byt h) (hl : h.length = 32) :
    Calls Try.prog 15 #[.string (strOf (htext h))] w (Ret fun u w' => u = .tuple #[.agg (bv h).toArray, .int .i64 0] ∧ Ext w w') := by
  refine calls_of_cfg c15_ok (Nat.le_of_ble_eq_true rfl) ?_
  simp only [argE_nil, argE_cons, Nat.reduceAdd, Nat.zero_add]
  have hsz : (strOf (htext h)).size = 64 := by rw [str_size, htext_len, hl]
  have htb := htext_byt hb
  (refine W_at c15_ok ?_; refine ⟨_, rfl, ?_⟩; simp (disch := first | omega | assumption | rfl | (simp only [vcS] <;> omega) | fail) only [↓ptV_l, ↓vcA, vcB, ↓vcD, vcE, ↓reduceIte, Nat.reduceEqDiff, Nat.reduceAdd, Nat.reduceMul, Nat.reduceLeDiff, Int.reduceLE, Int.reduceLT, Int.reduceEq, Int.reduceToNat, Int.reduceAdd, Int.reduceSub, Int.reduceMul, Int.reduceNeg, reduceCtorEq, Option.bind_some, Option.map_some, List.length_cons, List.length_nil, vcM, List.getElem?_toArray, List.getElem?_cons_zero, List.getElem?_cons_succ])
  have hE0 : Ext w (w.alloc (.cells (zc [(32, .int .u8 0)]) 39)) := (Keep.refl _ w).alloc _
  have hp2 : (w.alloc (.cells (zc [(32, .int .u8 0)]) 39)).heap[w.heap.size]? = some (.cells (bv (List.replicate 32 0)).toArray 39 (0, 0)) := heap_new _ _ _ rfl
  generalize World.alloc _ _ = w1 at hE0 hp2 ⊢
  generalize hp2e : w.heap.size = p2 at hp2 ⊢
  (refine W_at c15_ok ?_; refine ⟨_, rfl, ?_⟩; simp (disch := first | omega | assumption | rfl | (simp only [vcS] <;> omega) | fail) only [↓ptV_l, ↓vcA, vcB, ↓vcD, vcE, ↓reduceIte, Nat.reduceEqDiff, Nat.reduceAdd, Nat.reduceMul, Nat.reduceLeDiff, Int.reduceLE, Int.reduceLT, Int.reduceEq, Int.reduceToNat, Int.reduceAdd, Int.reduceSub, Int.reduceMul, Int.reduceNeg, reduceCtorEq, Option.bind_some, Option.map_some, List.length_cons, List.length_nil, vcM, List.getElem?_toArray, List.getElem?_cons_zero, List.getElem?_cons_succ])
  have hE1 : Ext w1 (w1.alloc (.cells (zc [(32, .int .u8 0)]) 39)) := (Keep.refl _ w1).alloc _
  have hp4 : (w1.alloc (.cells (zc [(32, .int .u8 0)]) 39)).heap[w1.heap.size]? = some (.cells (bv (backT h 0)).toArray 39 (0, 0)) := by
    have e : backT h 0 = List.replicate 32 0 := by unfold backT; rw [Nat.sub_zero, List.drop_of_length_le (by omega), List.append_nil]
    rw [e]; exact heap_new _ _ _ rfl
  have hp2l := lt_of_heap hp2
  generalize World.alloc _ _ = w2 at hE1 hp4 ⊢
  have hw1 := hE0.size
  generalize hp4e : w1.heap.size = p4 at hp4 hp2l hw1 ⊢
  have hp22 := hE1.at hp2 (fun h => h)
  have hat : ∀ i, (hi : i < 32) → (strOf (htext h))[2 * i]? = some (UInt8.ofNat (dgF (h[31 - i]'(by omega) / 16)).toNat) ∧ (strOf (htext h))[2 * i + 1]? = some (UInt8.ofNat (dgF (h[31 - i]'(by omega) % 16)).toNat) := by
    intro i hi
    have hh := htext_at hl hi
    have l64 : (htext h).length = 64 := by rw [htext_len, hl]
    obtain ⟨a1, a2⟩ := List.getElem?_eq_some_iff.1 hh.1
    obtain ⟨b1, b2⟩ := List.getElem?_eq_some_iff.1 hh.2
    rw [str_get a1, str_get b1, a2, b2]
    exact ⟨rfl, rfl⟩
  generalize hts : strOf (htext h) = ts at hsz hat ⊢
  (refine W_at c15_ok ?_; refine ⟨_, rfl, ?_⟩; simp (disch := first | omega | assumption | rfl | (simp only [vcS] <;> omega) | fail) only [↓ptV_l, ↓vcA, vcB, ↓vcD, vcE, ↓reduceIte, Nat.reduceEqDiff, Nat.reduceAdd, Nat.reduceMul, Nat.reduceLeDiff, Int.reduceLE, Int.reduceLT, Int.reduceEq, Int.reduceToNat, Int.reduceAdd, Int.reduceSub, Int.reduceMul, Int.reduceNeg, reduceCtorEq, Option.bind_some, Option.map_some, List.length_cons, List.length_nil, vcM, List.getElem?_toArray, List.getElem?_cons_zero, List.getElem?_cons_succ, hsz])
  (refine W_at c15_ok ?_; refine ⟨_, rfl, ?_⟩; simp (disch := first | omega | assumption | rfl | (simp only [vcS] <;> omega) | fail) only [↓ptV_l, ↓vcA, vcB, ↓vcD, vcE, ↓reduceIte, Nat.reduceEqDiff, Nat.reduceAdd, Nat.reduceMul, Nat.reduceLeDiff, Int.reduceLE, Int.reduceLT, Int.reduceEq, Int.reduceToNat, Int.reduceAdd, Int.reduceSub, Int.reduceMul, Int.reduceNeg, reduceCtorEq, Option.bind_some, Option.map_some, List.length_cons, List.length_nil, vcM, List.getElem?_toArray, List.getElem?_cons_zero, List.getElem?_cons_succ, hsz])
  (refine W_at c15_ok ?_; refine ⟨_, rfl, ?_⟩; simp (disch := first | omega | assumption | rfl | (simp only [vcS] <;> omega) | fail) only [↓ptV_l, ↓vcA, vcB, ↓vcD, vcE, ↓reduceIte, Nat.reduceEqDiff, Nat.reduceAdd, Nat.reduceMul, Nat.reduceLeDiff, Int.reduceLE, Int.reduceLT, Int.reduceEq, Int.reduceToNat, Int.reduceAdd, Int.reduceSub, Int.reduceMul, Int.reduceNeg, reduceCtorEq, Option.bind_some, Option.map_some, List.length_cons, List.length_nil, vcM, List.getElem?_toArray, List.getElem?_cons_zero, List.getElem?_cons_succ])
  have L : ∀ (k i : Nat) (wj : World) (tl : Env), k + i = 32 → Ext w wj → wj.heap[p4]? = some (.cells (bv (backT h i)).toArray 39 (0, 0)) → wj.heap[p2]? = some (.cells (bv (List.replicate 32 0)).toArray 39 (0, 0)) →
      W Try.prog (Ret fun u w' => u = .tuple #[.agg (bv h).toArray, .int .i64 0] ∧ Ext w w') 15 13 ((0, .string ts) :: (2, .pointer (some ⟨p2, 0, none⟩)) :: (4, .pointer (some ⟨p4, 0, none⟩)) :: (12, .int .i64 (i : Nat)) :: tl) wj := by
    intro k
    induction k with
    | zero =>
      intro i wj tl hi hE h4 h2
      have hil : ¬ ((i : Int) < 32) := by omega
      have e : backT h i = h := by unfold backT; rw [show 32 - i = 0 by omega]; rfl
      rw [e] at h4
      (refine W_at c15_ok ?_; refine ⟨_, rfl, ?_⟩; simp (disch := first | omega | assumption | rfl | (simp only [vcS] <;> omega) | fail) only [↓ptV_l, ↓vcA, vcB, ↓vcD, vcE, ↓reduceIte, Nat.reduceEqDiff, Nat.reduceAdd, Nat.reduceMul, Nat.reduceLeDiff, Int.reduceLE, Int.reduceLT, Int.reduceEq, Int.reduceToNat, Int.reduceAdd, Int.reduceSub, Int.reduceMul, Int.reduceNeg, reduceCtorEq, Option.bind_some, Option.map_some, List.length_cons, List.length_nil, vcM, List.getElem?_toArray, List.getElem?_cons_zero, List.getElem?_cons_succ, hil])
      (refine W_at c15_ok ?_; refine ⟨_, rfl, ?_⟩; simp (disch := first | omega | assumption | rfl | (simp only [vcS] <;> omega) | fail) only [↓ptV_l, ↓vcA, vcB, ↓vcD, vcE, ↓reduceIte, Nat.reduceEqDiff, Nat.reduceAdd, Nat.reduceMul, Nat.reduceLeDiff, Int.reduceLE, Int.reduceLT, Int.reduceEq, Int.reduceToNat, Int.reduceAdd, Int.reduceSub, Int.reduceMul, Int.reduceNeg, reduceCtorEq, Option.bind_some, Option.map_some, List.length_cons, List.length_nil, vcM, List.getElem?_toArray, List.getElem?_cons_zero, List.getElem?_cons_succ])
      have hr32 : rdO (some (.cells (bv h).toArray 39 (0, 0))) 0 32 = some (bv h).toArray := rdO_all _ _ _ _ (by rw [bva_size, hl])
      have s32 : (bv h).toArray.size = 32 := by rw [bva_size, hl]
      have hok : okO (some (.cells (bv (List.replicate 32 0)).toArray 39 (0, 0))) 0 32 = True := by simp only [okO, bva_size, List.length_replicate]; simp
      (refine W_at c15_ok ?_; refine ⟨_, rfl, ?_⟩; simp (disch := first | omega | assumption | rfl | (simp only [vcS] <;> omega) | fail) only [↓ptV_l, ↓vcA, vcB, ↓vcD, vcE, ↓reduceIte, Nat.reduceEqDiff, Nat.reduceAdd, Nat.reduceMul, Nat.reduceLeDiff, Int.reduceLE, Int.reduceLT, Int.reduceEq, Int.reduceToNat, Int.reduceAdd, Int.reduceSub, Int.reduceMul, Int.reduceNeg, reduceCtorEq, Option.bind_some, Option.map_some, List.length_cons, List.length_nil, vcM, List.getElem?_toArray, List.getElem?_cons_zero, List.getElem?_cons_succ, h4, hr32, h2, s32, hok])
      refine ⟨bv_flat h, ?_⟩
      have hE9 : Ext w (wj.putN p2 0 (bv h).toArray) := hE.trans ((Keep.refl _ wj).putN (S := fun i => i = p2) _ fun _ => rfl) fun i hi e => by omega
      have h9 : (wj.putN p2 0 (bv h).toArray).heap[p2]? = some (.cells (bv h).toArray 39 (0, 0)) := by
        rw [heap_putN_eq h2, splice_all (by rw [bva_size, bva_size, hl]; rfl)]
      (refine W_at c15_ok ?_; refine ⟨_, rfl, ?_⟩; simp (disch := first | omega | assumption | rfl | (simp only [vcS] <;> omega) | fail) only [↓ptV_l, ↓vcA, vcB, ↓vcD, vcE, ↓reduceIte, Nat.reduceEqDiff, Nat.reduceAdd, Nat.reduceMul, Nat.reduceLeDiff, Int.reduceLE, Int.reduceLT, Int.reduceEq, Int.reduceToNat, Int.reduceAdd, Int.reduceSub, Int.reduceMul, Int.reduceNeg, reduceCtorEq, Option.bind_some, Option.map_some, List.length_cons, List.length_nil, vcM, List.getElem?_toArray, List.getElem?_cons_zero, List.getElem?_cons_succ, h9, hr32, Ret_returned])
      exact hE9
    | succ k ih =>
      intro i wj tl hi hE h4 h2
      have hil : ((i : Int) < 32) := by omega
      obtain ⟨x1, x2⟩ := hat i (by omega)
      have hset := backT_set hl (i := i) (by omega)
      have hlen := backT_len hl i (by omega)
      have hbx := hb (h[31 - i]'(by omega)) (List.getElem_mem _)
      have n0 : 0 ≤ 2 * (i : Int) := by omega
      have w0 : IntKind.i64.wrap (2 * (i : Int)) = 2 * (i : Int) := wrap_i64 (by omega) (by omega)
      have w1' : IntKind.i64.wrap (2 * (i : Int) + 1) = 2 * (i : Int) + 1 := wrap_i64 (by omega) (by omega)
      have n1 : 0 ≤ 2 * (i : Int) + 1 := by omega
      have t0 : (2 * (i : Int)).toNat = 2 * i := by omega
      have t1 : (2 * (i : Int) + 1).toNat = 2 * i + 1 := by omega
      generalize h[31 - i]'(by omega) = x at *
      have u1 := u8i (dgF_b (x := x / 16) (by omega))
      have u2 := u8i (dgF_b (x := x % 16) (by omega))
      (refine W_at c15_ok ?_; refine ⟨_, rfl, ?_⟩; simp (disch := first | omega | assumption | rfl | (simp only [vcS] <;> omega) | fail) only [↓ptV_l, ↓vcA, vcB, ↓vcD, vcE, ↓reduceIte, Nat.reduceEqDiff, Nat.reduceAdd, Nat.reduceMul, Nat.reduceLeDiff, Int.reduceLE, Int.reduceLT, Int.reduceEq, Int.reduceToNat, Int.reduceAdd, Int.reduceSub, Int.reduceMul, Int.reduceNeg, reduceCtorEq, Option.bind_some, Option.map_some, List.length_cons, List.length_nil, vcM, List.getElem?_toArray, List.getElem?_cons_zero, List.getElem?_cons_succ, hil])
      (refine W_at c15_ok ?_; refine ⟨_, rfl, ?_⟩; simp (disch := first | omega | assumption | rfl | (simp only [vcS] <;> omega) | fail) only [↓ptV_l, ↓vcA, vcB, ↓vcD, vcE, ↓reduceIte, Nat.reduceEqDiff, Nat.reduceAdd, Nat.reduceMul, Nat.reduceLeDiff, Int.reduceLE, Int.reduceLT, Int.reduceEq, Int.reduceToNat, Int.reduceAdd, Int.reduceSub, Int.reduceMul, Int.reduceNeg, reduceCtorEq, Option.bind_some, Option.map_some, List.length_cons, List.length_nil, vcM, List.getElem?_toArray, List.getElem?_cons_zero, List.getElem?_cons_succ])
      (refine W_at c15_ok ?_; refine ⟨_, rfl, ?_⟩; simp (disch := first | omega | assumption | rfl | (simp only [vcS] <;> omega) | fail) only [↓ptV_l, ↓vcA, vcB, ↓vcD, vcE, ↓reduceIte, Nat.reduceEqDiff, Nat.reduceAdd, Nat.reduceMul, Nat.reduceLeDiff, Int.reduceLE, Int.reduceLT, Int.reduceEq, Int.reduceToNat, Int.reduceAdd, Int.reduceSub, Int.reduceMul, Int.reduceNeg, reduceCtorEq, Option.bind_some, Option.map_some, List.length_cons, List.length_nil, vcM, List.getElem?_toArray, List.getElem?_cons_zero, List.getElem?_cons_succ])
      (refine W_at c15_ok ?_; refine ⟨_, rfl, ?_⟩; simp (disch := first | omega | assumption | rfl | (simp only [vcS] <;> omega) | fail) only [↓ptV_l, ↓vcA, vcB, ↓vcD, vcE, ↓reduceIte, Nat.reduceEqDiff, Nat.reduceAdd, Nat.reduceMul, Nat.reduceLeDiff, Int.reduceLE, Int.reduceLT, Int.reduceEq, Int.reduceToNat, Int.reduceAdd, Int.reduceSub, Int.reduceMul, Int.reduceNeg, reduceCtorEq, Option.bind_some, Option.map_some, List.length_cons, List.length_nil, vcM, List.getElem?_toArray, List.getElem?_cons_zero, List.getElem?_cons_succ, w0, w1', n0, n1, t0, t1, x1, x2, u1, u2, digL_is])
      have hEd : Ext wj wj.drew := (Keep.refl _ wj).drew
      have hl16 : digL.length = 16 := rfl
      refine callV_ret (index_ok wj.drew digL _ digL_byt (dgF_b (by omega))) ?_
      rintro _ _ ⟨rfl, rfl⟩
      first | (simp (disch := first | omega | assumption | rfl | (simp only [vcS] <;> omega) | fail) only [↓ptV_l, ↓vcA, vcB, ↓vcD, vcE, ↓reduceIte, Nat.reduceEqDiff, Nat.reduceAdd, Nat.reduceMul, Nat.reduceLeDiff, Int.reduceLE, Int.reduceLT, Int.reduceEq, Int.reduceToNat, Int.reduceAdd, Int.reduceSub, Int.reduceMul, Int.reduceNeg, reduceCtorEq, Option.bind_some, Option.map_some, List.length_cons, List.length_nil, vcM, List.getElem?_toArray, List.getElem?_cons_zero, List.getElem?_cons_succ]) | skip
      refine callV_ret (index_ok wj.drew digL _ digL_byt (dgF_b (by omega))) ?_
      rintro _ _ ⟨rfl, rfl⟩
      first | (simp (disch := first | omega | assumption | rfl | (simp only [vcS] <;> omega) | fail) only [↓ptV_l, ↓vcA, vcB, ↓vcD, vcE, ↓reduceIte, Nat.reduceEqDiff, Nat.reduceAdd, Nat.reduceMul, Nat.reduceLeDiff, Int.reduceLE, Int.reduceLT, Int.reduceEq, Int.reduceToNat, Int.reduceAdd, Int.reduceSub, Int.reduceMul, Int.reduceNeg, reduceCtorEq, Option.bind_some, Option.map_some, List.length_cons, List.length_nil, vcM, List.getElem?_toArray, List.getElem?_cons_zero, List.getElem?_cons_succ]) | skip
      rw [place_dg (by omega), place_dg (by omega)]
      have c1 : ¬ x / 16 < 0 := by omega
      have c2 : ¬ x % 16 < 0 := by omega
      (refine W_at c15_ok ?_; refine ⟨_, rfl, ?_⟩; simp (disch := first | omega | assumption | rfl | (simp only [vcS] <;> omega) | fail) only [↓ptV_l, ↓vcA, vcB, ↓vcD, vcE, ↓reduceIte, Nat.reduceEqDiff, Nat.reduceAdd, Nat.reduceMul, Nat.reduceLeDiff, Int.reduceLE, Int.reduceLT, Int.reduceEq, Int.reduceToNat, Int.reduceAdd, Int.reduceSub, Int.reduceMul, Int.reduceNeg, reduceCtorEq, Option.bind_some, Option.map_some, List.length_cons, List.length_nil, vcM, List.getElem?_toArray, List.getElem?_cons_zero, List.getElem?_cons_succ, c1, c2])
      (refine W_at c15_ok ?_; refine ⟨_, rfl, ?_⟩; simp (disch := first | omega | assumption | rfl | (simp only [vcS] <;> omega) | fail) only [↓ptV_l, ↓vcA, vcB, ↓vcD, vcE, ↓reduceIte, Nat.reduceEqDiff, Nat.reduceAdd, Nat.reduceMul, Nat.reduceLeDiff, Int.reduceLE, Int.reduceLT, Int.reduceEq, Int.reduceToNat, Int.reduceAdd, Int.reduceSub, Int.reduceMul, Int.reduceNeg, reduceCtorEq, Option.bind_some, Option.map_some, List.length_cons, List.length_nil, vcM, List.getElem?_toArray, List.getElem?_cons_zero, List.getElem?_cons_succ])
      have h4d : wj.drew.heap[p4]? = some (.cells (bv (backT h i)).toArray 39 (0, 0)) := hEd.at h4 (fun h => h)
      have h2d : wj.drew.heap[p2]? = some (.cells (bv (List.replicate 32 0)).toArray 39 (0, 0)) := hEd.at h2 (fun h => h)
      have v1 : IntKind.i64.wrap (31 - (i : Int)) = ((31 - i : Nat) : Int) := by rw [wrap_i64 (by omega) (by omega)]; omega
      have v2 : 0 ≤ ((31 - i : Nat) : Int) ∧ ((31 - i : Nat) : Int) < 32 := by omega
      have v3 := shl4 (a := x / 16) (by omega)
      have v4 := or16 (a := x / 16) (b := x % 16) (by omega) (by omega)
      have v5 : IntKind.u8.wrap (x / 16 * 16 + x % 16) = x := by rw [wrap_u8]; omega
      (refine W_at c15_ok ?_; refine ⟨_, rfl, ?_⟩; simp (disch := first | omega | assumption | rfl | (simp only [vcS] <;> omega) | fail) only [↓ptV_l, ↓vcA, vcB, ↓vcD, vcE, ↓reduceIte, Nat.reduceEqDiff, Nat.reduceAdd, Nat.reduceMul, Nat.reduceLeDiff, Int.reduceLE, Int.reduceLT, Int.reduceEq, Int.reduceToNat, Int.reduceAdd, Int.reduceSub, Int.reduceMul, Int.reduceNeg, reduceCtorEq, Option.bind_some, Option.map_some, List.length_cons, List.length_nil, vcM, List.getElem?_toArray, List.getElem?_cons_zero, List.getElem?_cons_succ, v1, v2, v3, v4, v5, Int.toNat_natCast, Nat.mul_one, Nat.zero_add])
      have hpk := poke x h4d (by omega : 31 - i < (backT h i).length)
      refine ⟨hpk.1, ?_⟩
      have hE5 : Ext w (wj.drew.setCell ⟨p4, 31 - i, none⟩ (.int .u8 x)) := (hE.ext hEd).trans hpk.2.2 fun k hk e => by omega
      have h25 : (wj.drew.setCell ⟨p4, 31 - i, none⟩ (.int .u8 x)).heap[p2]? = some (.cells (bv (List.replicate 32 0)).toArray 39 (0, 0)) := hpk.2.2.at h2d (by intro e; omega)
      have h45 := hpk.2.1
      rw [hset] at h45
      have wi : IntKind.i64.wrap ((i : Int) + 1) = ((i + 1 : Nat) : Int) := wrap_i64 (by omega) (by omega)
      generalize World.setCell _ _ _ = w5 at hE5 h25 h45 ⊢
      (refine W_at c15_ok ?_; refine ⟨_, rfl, ?_⟩; simp (disch := first | omega | assumption | rfl | (simp only [vcS] <;> omega) | fail) only [↓ptV_l, ↓vcA, vcB, ↓vcD, vcE, ↓reduceIte, Nat.reduceEqDiff, Nat.reduceAdd, Nat.reduceMul, Nat.reduceLeDiff, Int.reduceLE, Int.reduceLT, Int.reduceEq, Int.reduceToNat, Int.reduceAdd, Int.reduceSub, Int.reduceMul, Int.reduceNeg, reduceCtorEq, Option.bind_some, Option.map_some, List.length_cons, List.length_nil, vcM, List.getElem?_toArray, List.getElem?_cons_zero, List.getElem?_cons_succ, wi])
      (refine W_at c15_ok ?_; refine ⟨_, rfl, ?_⟩; simp (disch := first | omega | assumption | rfl | (simp only [vcS] <;> omega) | fail) only [↓ptV_l, ↓vcA, vcB, ↓vcD, vcE, ↓reduceIte, Nat.reduceEqDiff, Nat.reduceAdd, Nat.reduceMul, Nat.reduceLeDiff, Int.reduceLE, Int.reduceLT, Int.reduceEq, Int.reduceToNat, Int.reduceAdd, Int.reduceSub, Int.reduceMul, Int.reduceNeg, reduceCtorEq, Option.bind_some, Option.map_some, List.length_cons, List.length_nil, vcM, List.getElem?_toArray, List.getElem?_cons_zero, List.getElem?_cons_succ])
      exact ih (i + 1) w5 _ (by omega) hE5 h45 h25
  exact L 32 0 w2 _ (by omega) (hE0.ext hE1) hp4 hp22
end Go.Proofs
